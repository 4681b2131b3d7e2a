/-
  Tidy: the program's and the document's.
-/
import Derived.Test.YtobpninhnmmpeaaGreatZRow
set_option linter.unusedSimpArgs false
set_option linter.unusedVariables false
namespace Go.Aev.Gen
open Go Go.Aev

def fnz : List Int → Int
  | [] => 0
  | x :: r => if x = 0 then fnz r else x
def sg (kd : Int) (l : List Int) : Int := if kd = 3 ∧ fnz l < 0 then -1 else 1
def noneF (kd tv : Int) : Int := if kd = 1 ∧ tv < 0 then -1 else if kd = 2 ∧ tv > 0 then 1 else if kd = 3 ∧ tv ≠ 0 then 1 else 0
def tidyF (of : List Int) (kd tv : Int) : List Int × Int :=
  if bz of = [] then ([], noneF kd tv) else
    ((bz of).map (fun x => sg kd (bz of) * (x / (gl tv.natAbs (bz of) : Int))), sg kd (bz of) * (tv / (gl tv.natAbs (bz of) : Int)))
def divL (g : Int) (l : List Int) : List Int := l.map (· / g)
theorem tdiv_dvd {a b : Int} (h : b ∣ a) : a.tdiv b = a / b := Int.tdiv_eq_ediv_of_dvd h
theorem div_bd {x g b : Int} (hg : 0 < g) (hx : -b ≤ x ∧ x ≤ b) (hb : 0 ≤ b) : -b ≤ x / g ∧ x / g ≤ b := by
  constructor
  · apply Int.le_ediv_of_mul_le hg
    have : -b * g ≤ -b * 1 := Int.mul_le_mul_of_nonpos_left (by omega) (by omega)
    omega
  · apply Int.ediv_le_of_le_mul hg
    have : b * 1 ≤ b * g := Int.mul_le_mul_of_nonneg_left (by omega) (by omega)
    omega
theorem s35 (kd tv : Int) : Or (.call 80) [I kd, I tv] [] = some [T.emp true, ti kd, ti (noneF kd tv)] := by
  refine orc_of ?_
  rw [e35]
  unfold noneF
  simp only [cand, beq_dec, ← decide_not, ← Bool.decide_and]
  by_cases h1 : kd = 1 ∧ tv < 0
  · simp only [gd1, hd1, tl1, dr0, dr1, dr2, dr3, dr4, dr5, dr6, bo1, in1, st1, ls1, le1, pt1, fi1, fb1, fs1, ct1, cf1, nt1, nf1, ak0, akT, akF, cdec, cndec, cbeq, cnbeq, ↓reduceIte, beq_self_eq_true, Int.reduceBEq, Int.reduceEq, Bool.and_true, Bool.true_and, Bool.false_and, Bool.and_false, h1, and_self]
  · rw [if_neg h1]
    by_cases h2 : kd = 2 ∧ tv > 0
    · have : ¬ (kd = 1 ∧ tv < 0) := h1
      simp only [gd1, hd1, tl1, dr0, dr1, dr2, dr3, dr4, dr5, dr6, bo1, in1, st1, ls1, le1, pt1, fi1, fb1, fs1, ct1, cf1, nt1, nf1, ak0, akT, akF, cdec, cndec, cbeq, cnbeq, ↓reduceIte, beq_self_eq_true, Int.reduceBEq, Int.reduceEq, Bool.and_true, Bool.true_and, Bool.false_and, Bool.and_false, this, h2, and_self]
      simp only [Int.reduceEq, false_and, ↓reduceIte]
    · rw [if_neg h2]
      by_cases h3 : kd = 3 ∧ tv ≠ 0
      · rw [if_pos h3]
        simp only [gd1, hd1, tl1, dr0, dr1, dr2, dr3, dr4, dr5, dr6, bo1, in1, st1, ls1, le1, pt1, fi1, fb1, fs1, ct1, cf1, nt1, nf1, ak0, akT, akF, cdec, cndec, cbeq, cnbeq, ↓reduceIte, beq_self_eq_true, Int.reduceBEq, Int.reduceEq, Bool.and_true, Bool.true_and, Bool.false_and, Bool.and_false, h1, h2, h3, and_self, ne_eq, not_false_eq_true]
        simp only [Int.reduceEq, false_and, ↓reduceIte]
      · rw [if_neg h3]
        have h3' : ¬ (kd = 3 ∧ ¬ tv = 0) := h3
        simp only [gd1, hd1, tl1, dr0, dr1, dr2, dr3, dr4, dr5, dr6, bo1, in1, st1, ls1, le1, pt1, fi1, fb1, fs1, ct1, cf1, nt1, nf1, ak0, akT, akF, cdec, cndec, cbeq, cnbeq, ↓reduceIte, beq_self_eq_true, Int.reduceBEq, Int.reduceEq, Bool.and_true, Bool.true_and, Bool.false_and, Bool.and_false, h1, h2, h3']
theorem n16g (B0 B1 B2 : Blk) (e : Bool) (l : List Int) (kd tv : Int) (e0 : Bool) (of : List Int) (e1 : Bool) (hb : Bd 1000000 l) (hn : l.length ≤ 1000) (res : List T)
    (h0 : B0 = Blk.box [lst e0 of, I kd, I tv]) (h1 : B1 = Blk.box [AV.t (T.emp e1), I 0, I 0]) (h2 : B2 = Blk.box [I 0, I 0]) : ∀ (rest : List Int) (i : Nat) (g : Nat), l.drop i = rest → g ≤ 1000000 →
    Or K16n14 [r0, AV.ref (Id.c 1) 0, AV.ref (Id.c 2) 0, AV.own (Id.c 3), I (gl g rest : Nat), I (l.length : Int), I 0] [B0, B1, B2, Blk.sl false 1 e (enc l)] = some res →
    Or K16n9 [r0, AV.ref (Id.c 1) 0, AV.ref (Id.c 2) 0, AV.own (Id.c 3), I (g : Int), AV.own (Id.c 3), I (l.length : Int), I (i : Int)] [B0, B1, B2, Blk.sl false 1 e (enc l)] = some res := by
  subst h0 h1 h2
  intro rest
  induction rest with
  | nil =>
    intro i g h hg hk
    refine orc_of ?_
    rw [e16n9]
    have h1 : ¬ (i : Int) < (l.length : Int) := by have := at_end h; omega
    simp only [gd1, hd1, tl1, dr0, dr1, dr2, dr3, dr4, dr5, dr6, bo1, in1, st1, ls1, le1, pt1, fi1, fb1, fs1, ct1, cf1, nt1, nf1, ak0, akT, akF, cdec, cndec, cbeq, cnbeq, ↓reduceIte, beq_self_eq_true, Int.reduceBEq, Int.reduceEq, Bool.and_true, Bool.true_and, Bool.false_and, Bool.and_false, h1, enc_len]
    exact hk
  | cons x rest ih =>
    intro i g h hg hk
    obtain ⟨g1, g2, g3⟩ := at_drop h
    have h1 : (i : Int) < (l.length : Int) := by omega
    have h0 : 0 ≤ (i : Int) := by omega
    have hx := hb x (List.mem_of_getElem? g1)
    have k1 := s36 (g : Int) x (by omega) (by omega)
    rw [Int.natAbs_natCast] at k1
    have hle : Nat.gcd g x.natAbs ≤ 1000000 := by
      rcases Nat.eq_zero_or_pos g with h | h
      · subst h; rw [Nat.gcd_zero_left]; omega
      · exact Nat.le_trans (Nat.gcd_le_left _ h) hg
    have := ih (i + 1) (Nat.gcd g x.natAbs) g3 hle hk
    refine orc_of ?_
    rw [e16n9]
    simp only [gd1, hd1, tl1, dr0, dr1, dr2, dr3, dr4, dr5, dr6, bo1, in1, st1, ls1, le1, pt1, fi1, fb1, fs1, ct1, cf1, nt1, nf1, ak0, akT, akF, cdec, cndec, cbeq, cnbeq, ↓reduceIte, beq_self_eq_true, Int.reduceBEq, Int.reduceEq, Bool.and_true, Bool.true_and, Bool.false_and, Bool.and_false, h1, h0, and_self, enc_len, enc_get g1, k1, next i (by omega)]
    exact this
theorem n16d (B0 B1 B2 : Blk) (e : Bool) (kd tv g : Int) (e0 : Bool) (of : List Int) (e1 : Bool) (hg : 0 < g) (res : List T) (len : Nat) (hn : len ≤ 1000)
    (h0 : B0 = Blk.box [lst e0 of, I kd, I tv]) (h1 : B1 = Blk.box [AV.t (T.emp e1), I 0, I 0]) (h2 : B2 = Blk.box [I 0, I 0]) : ∀ (rest done : List Int), done.length + rest.length = len → Bd 1000000 rest → (∀ x ∈ rest, g ∣ x) →
    Or K16n14 [r0, AV.ref (Id.c 1) 0, AV.ref (Id.c 2) 0, AV.own (Id.c 3), I g, I (len : Int), I (len : Int)] [B0, B1, B2, Blk.sl false 1 e (enc (done ++ divL g rest))] = some res →
    Or K16n14 [r0, AV.ref (Id.c 1) 0, AV.ref (Id.c 2) 0, AV.own (Id.c 3), I g, I (len : Int), I (done.length : Int)] [B0, B1, B2, Blk.sl false 1 e (enc (done ++ rest))] = some res := by
  subst h0 h1 h2
  intro rest
  induction rest with
  | nil =>
    intro done hl _ _ hk
    have : done.length = len := by simpa using hl
    simp only [divL, List.map_nil] at hk
    rw [this]
    exact hk
  | cons x rest ih =>
    intro done hl hb hd hk
    have hl' : done.length + (rest.length + 1) = len := by simpa using hl
    have h1 : (done.length : Int) < (len : Int) := by omega
    have h0 : 0 ≤ (done.length : Int) := by omega
    have hx := hb x List.mem_cons_self
    have hdx := hd x List.mem_cons_self
    have hq := div_bd hg hx (by omega)
    have hget : (done ++ x :: rest)[done.length]? = some x := by simp
    have hlen : (done.length : Int) < ((done ++ x :: rest).length : Int) := by simp; omega
    have hst : storeIn (done.length : Int).toNat 0 [ti (x / g)] (enc (done ++ x :: rest)) = some (enc ((done ++ [x / g]) ++ rest)) := by
      rw [enc_set (by simp), set_mid _ _ _ _ _ rfl]; simp
    have := ih (done ++ [x / g]) (by simp; omega) (fun y hy => hb y (List.mem_cons_of_mem _ hy)) (fun y hy => hd y (List.mem_cons_of_mem _ hy)) (by
      simpa [divL] using hk)
    rw [List.length_append, List.length_singleton] at this
    refine orc_of ?_
    rw [e16n14]
    have hg0 : ¬ g = 0 := by omega
    simp only [gd1, hd1, tl1, dr0, dr1, dr2, dr3, dr4, dr5, dr6, bo1, in1, st1, ls1, le1, pt1, fi1, fb1, fs1, ct1, cf1, nt1, nf1, ak0, akT, akF, cdec, cndec, cbeq, cnbeq, ↓reduceIte, beq_self_eq_true, Int.reduceBEq, Int.reduceEq, Bool.and_true, Bool.true_and, Bool.false_and, Bool.and_false, h1, h0, and_self, enc_len, hlen, enc_get hget, hg0, tdiv_dvd hdx, wr (v := x / g) (by omega), hst, next done.length (by omega)]
    exact this
def fi : List Int → Nat → Int
  | [], _ => -1
  | x :: r, i => if x = 0 then fi r (i + 1) else (i : Int)
theorem s76 (x : Int) : Or (.call 110) [I x] [] = some [tb (!x == 0)] := orc_of (by rw [e76])
theorem n75 (e : Bool) (l : List Int) (hn : l.length ≤ 1000) : ∀ (rest : List Int) (i : Nat), l.drop i = rest → Or K75n2 [lst e l, AV.fn 110 [] [], I (l.length : Int), I (i : Int)] [] = some [ti (fi rest i)] := by
  intro rest
  induction rest with
  | nil =>
    intro i h
    refine orc_of ?_
    rw [e75n2]
    have h1 : ¬ (i : Int) < (l.length : Int) := by have := at_end h; omega
    simp only [gd1, hd1, tl1, dr0, dr1, dr2, dr3, dr4, dr5, dr6, bo1, in1, st1, ls1, le1, pt1, fi1, fb1, fs1, ct1, cf1, nt1, nf1, ak0, akT, akF, cdec, cndec, cbeq, cnbeq, ↓reduceIte, beq_self_eq_true, Int.reduceBEq, Int.reduceEq, Bool.and_true, Bool.true_and, Bool.false_and, Bool.and_false, h1, fi]
  | cons x rest ih =>
    intro i h
    obtain ⟨g1, g2, g3⟩ := at_drop h
    have h1 : (i : Int) < (l.length : Int) := by omega
    have h0 : 0 ≤ (i : Int) := by omega
    refine orc_of ?_
    rw [e75n2, fi]
    by_cases hz : x = 0
    · subst hz
      simp only [gd1, hd1, tl1, dr0, dr1, dr2, dr3, dr4, dr5, dr6, bo1, in1, st1, ls1, le1, pt1, fi1, fb1, fs1, ct1, cf1, nt1, nf1, ak0, akT, akF, cdec, cndec, cbeq, cnbeq, ↓reduceIte, beq_self_eq_true, Int.reduceBEq, Int.reduceEq, Bool.and_true, Bool.true_and, Bool.false_and, Bool.and_false, h1, h0, and_self, enc_len, enc_get g1, s76, next i (by omega), ih (i + 1) g3]
    · have hb : (x == 0) = false := by simpa using hz
      simp only [gd1, hd1, tl1, dr0, dr1, dr2, dr3, dr4, dr5, dr6, bo1, in1, st1, ls1, le1, pt1, fi1, fb1, fs1, ct1, cf1, nt1, nf1, ak0, akT, akF, cdec, cndec, cbeq, cnbeq, ↓reduceIte, beq_self_eq_true, Int.reduceBEq, Int.reduceEq, Bool.and_true, Bool.true_and, Bool.false_and, Bool.and_false, h1, h0, and_self, enc_len, enc_get g1, s76, hb, hz]
theorem s75 (e : Bool) (l : List Int) (hn : l.length ≤ 1000) : Or (.call 109) [lst e l, AV.fn 110 [] []] [] = some [ti (fi l 0)] := by
  refine orc_of ?_
  rw [e75, enc_len]
  exact n75 e l hn l 0 rfl
theorem fi_at : ∀ {l : List Int} (i : Nat), fnz l ≠ 0 → ∃ n, fi l i = ((i + n : Nat) : Int) ∧ l[n]? = some (fnz l) ∧ n < l.length
  | [], _, h => absurd rfl h
  | x :: r, i, h => by
    rw [fnz] at h ⊢
    rw [fi]
    by_cases hx : x = 0
    · rw [if_pos hx] at h
      obtain ⟨n, a, b, c⟩ := fi_at (i + 1) h
      rw [if_pos hx, if_pos hx]
      exact ⟨n + 1, by rw [a]; congr 1; omega, by simpa using b, by simpa using c⟩
    · rw [if_neg hx, if_neg hx]
      exact ⟨0, by simp, by simp, by simp⟩
def negL (l : List Int) : List Int := l.map (fun x => -x)
theorem n37 (B1 B2 : Blk) (e : Bool) (kd tv : Int) (e1 : Bool) (len : Nat) (hn : len ≤ 1000) (ht : -1000000 ≤ tv ∧ tv ≤ 1000000)
    (h1 : B1 = Blk.box [AV.own (Id.c 0), I kd, I tv]) (h2 : B2 = Blk.box [AV.t (T.emp e1), I 0, I 0]) : ∀ (rest done : List Int), done.length + rest.length = len → Bd 1000000 rest →
    Or K37n4m1 [AV.ref (Id.c 1) 0, AV.ref (Id.c 2) 0, I (len : Int), I (done.length : Int)] [Blk.sl false 1 e (enc (done ++ rest)), B1, B2] = some [T.lst 1 e (enc (done ++ negL rest)), ti kd, ti (-tv)] := by
  subst h1 h2
  intro rest
  induction rest with
  | nil =>
    intro done hl _
    have hl' : done.length = len := by simpa using hl
    refine orc_of ?_
    rw [e37n4]
    have h1 : ¬ (done.length : Int) < (len : Int) := by omega
    have hw : IntKind.i64.wrap (0 - tv) = -tv := by rw [wr (by omega)]; omega
    simp only [gd1, hd1, tl1, dr0, dr1, dr2, dr3, dr4, dr5, dr6, bo1, in1, st1, ls1, le1, pt1, fi1, fb1, fs1, ct1, cf1, nt1, nf1, ak0, akT, akF, cdec, cndec, cbeq, cnbeq, ↓reduceIte, beq_self_eq_true, Int.reduceBEq, Int.reduceEq, Bool.and_true, Bool.true_and, Bool.false_and, Bool.and_false, h1, hw, negL, List.map_nil]
  | cons x rest ih =>
    intro done hl hb
    have hl' : done.length + (rest.length + 1) = len := by simpa using hl
    have h1 : (done.length : Int) < (len : Int) := by omega
    have h0 : 0 ≤ (done.length : Int) := by omega
    have hx := hb x List.mem_cons_self
    have hw : IntKind.i64.wrap (0 - x) = -x := by rw [wr (by omega)]; omega
    have hget : (done ++ x :: rest)[done.length]? = some x := by simp
    have hlen : (done.length : Int) < ((done ++ x :: rest).length : Int) := by simp; omega
    have hst : storeIn (done.length : Int).toNat 0 [ti (-x)] (enc (done ++ x :: rest)) = some (enc ((done ++ [-x]) ++ rest)) := by
      rw [enc_set (by simp), set_mid _ _ _ _ _ rfl]; simp
    have := ih (done ++ [-x]) (by simp; omega) (fun y hy => hb y (List.mem_cons_of_mem _ hy))
    rw [List.length_append, List.length_singleton] at this
    refine orc_of ?_
    rw [e37n4]
    simp only [gd1, hd1, tl1, dr0, dr1, dr2, dr3, dr4, dr5, dr6, bo1, in1, st1, ls1, le1, pt1, fi1, fb1, fs1, ct1, cf1, nt1, nf1, ak0, akT, akF, cdec, cndec, cbeq, cnbeq, ↓reduceIte, beq_self_eq_true, Int.reduceBEq, Int.reduceEq, Bool.and_true, Bool.true_and, Bool.false_and, Bool.and_false, h1, h0, and_self, enc_len, hlen, enc_get hget, hw, hst, next done.length (by omega)]
    exact this.trans (by simp [negL])
theorem s37 (e : Bool) (l : List Int) (kd tv : Int) (hn : l.length ≤ 1000) (hb : Bd 1000000 l) (ht : -1000000 ≤ tv ∧ tv ≤ 1000000) (hz : fnz l ≠ 0) :
    Or (.call 82) [AV.agg [o0, I kd, I tv]] [Blk.sl false 1 e (enc l)] = some [T.lst 1 e (enc (l.map (sg kd l * ·))), ti kd, ti (sg kd l * tv)] := by
  obtain ⟨n, a, b, c⟩ := fi_at 0 hz
  rw [Nat.zero_add] at a
  have h0 : 0 ≤ (n : Int) ∧ (n : Int) < (l.length : Int) := by omega
  refine orc_of ?_
  rw [e37]
  unfold sg
  by_cases hk : kd = 3
  · subst hk
    by_cases hf : fnz l < 0
    · rw [if_pos ⟨rfl, hf⟩]
      have := n37 _ _ e 3 tv true l.length hn ht rfl rfl l [] (by simp) hb
      simp only [List.length_nil, List.nil_append] at this
      have h3 : ((3 : Int) == 3) = true := rfl
      simp only [h3]
      simp only [gd1, hd1, tl1, dr0, dr1, dr2, dr3, dr4, dr5, dr6, bo1, in1, st1, ls1, le1, pt1, fi1, fb1, fs1, ct1, cf1, nt1, nf1, ak0, akT, akF, cdec, cndec, cbeq, cnbeq, ↓reduceIte, beq_self_eq_true, Int.reduceBEq, Int.reduceEq, Bool.and_true, Bool.true_and, Bool.false_and, Bool.and_false, s75 e l hn, a, h0, and_self, enc_len, enc_get b, hf, decide_true]
      exact this.trans (by simp [negL])
    · have hc : ¬ ((3 : Int) = 3 ∧ fnz l < 0) := fun h => hf h.2
      rw [if_neg hc]
      have h3 : ((3 : Int) == 3) = true := rfl
      simp only [h3]
      simp only [gd1, hd1, tl1, dr0, dr1, dr2, dr3, dr4, dr5, dr6, bo1, in1, st1, ls1, le1, pt1, fi1, fb1, fs1, ct1, cf1, nt1, nf1, ak0, akT, akF, cdec, cndec, cbeq, cnbeq, ↓reduceIte, beq_self_eq_true, Int.reduceBEq, Int.reduceEq, Bool.and_true, Bool.true_and, Bool.false_and, Bool.and_false, s75 e l hn, a, h0, and_self, enc_len, enc_get b, hf, decide_false]
      simp
  · have hc : ¬ (kd = 3 ∧ fnz l < 0) := fun h => hk h.1
    rw [if_neg hc]
    have h3 : (kd == 3) = false := by simpa using hk
    simp only [h3]
    simp only [gd1, hd1, tl1, dr0, dr1, dr2, dr3, dr4, dr5, dr6, bo1, in1, st1, ls1, le1, pt1, fi1, fb1, fs1, ct1, cf1, nt1, nf1, ak0, akT, akF, cdec, cndec, cbeq, cnbeq, ↓reduceIte, beq_self_eq_true, Int.reduceBEq, Int.reduceEq, Bool.and_true, Bool.true_and, Bool.false_and, Bool.and_false, gdF, s75 e l hn]
    simp
theorem fnz_zero : ∀ {l : List Int}, fnz l = 0 → ∀ x ∈ l, x = 0
  | [], _, x, hx => by cases hx
  | y :: r, h, x, hx => by
    rw [fnz] at h
    split at h
    · rename_i hy
      rcases List.mem_cons.1 hx with rfl | hx
      · exact hy
      · exact fnz_zero h x hx
    · rename_i hy; exact absurd h hy
theorem bzN_last {l : List Int} : ∀ {k j : Nat}, k ≤ l.length → bzN l k = j + 1 → l.getD j 0 ≠ 0 ∧ j < k
  | 0, j, _, h => by simp [bzN] at h
  | k + 1, j, hk, h => by
    rw [bzN] at h
    split at h
    · have := bzN_last (by omega) h; exact ⟨this.1, by omega⟩
    · rename_i hz
      obtain rfl : k = j := by omega
      exact ⟨hz, by omega⟩
theorem bz_last {l : List Int} (h : bz l ≠ []) : ∃ x ∈ bz l, x ≠ 0 := by
  unfold bz at h ⊢
  cases hk : bzN l l.length with
  | zero => rw [hk] at h; exact absurd rfl h
  | succ j =>
    obtain ⟨h1, h2⟩ := bzN_last (Nat.le_refl _) hk
    exact ⟨_, List.mem_of_getElem? (take_get h2), h1⟩
theorem bz_fnz {l : List Int} (h : bz l ≠ []) : fnz (bz l) ≠ 0 := by
  obtain ⟨x, hx, h0⟩ := bz_last h
  exact fun hf => h0 (fnz_zero hf x hx)
theorem fnz_div {g : Int} (hg : 0 < g) : ∀ {l : List Int}, (∀ x ∈ l, g ∣ x) → fnz (divL g l) = fnz l / g
  | [], _ => by simp [divL, fnz]
  | x :: r, h => by
    have hd := h x List.mem_cons_self
    have ih := fnz_div hg (fun y hy => h y (List.mem_cons_of_mem _ hy))
    simp only [divL, List.map_cons, fnz] at ih ⊢
    by_cases hx : x = 0
    · subst hx; simpa using ih
    · obtain ⟨c, rfl⟩ := hd
      have : g * c / g ≠ 0 := by
        rw [Int.mul_ediv_cancel_left _ (by omega)]
        intro h; subst h; simp at hx
      rw [if_neg this, if_neg hx]
theorem sg_div {g kd : Int} (hg : 0 < g) {l : List Int} (h : ∀ x ∈ l, g ∣ x) : sg kd (divL g l) = sg kd l := by
  unfold sg
  rw [fnz_div hg h]
  have : fnz l / g < 0 ↔ fnz l < 0 := by
    rw [Int.ediv_lt_iff_lt_mul hg]; simp
  simp only [this]
theorem s16 (r : R) (he : r.e = true → r.of = []) (hc : (chkR 12 r).1 = 0) (hb : Bd 1000000 r.of) (ht : -1000000 ≤ r.tv ∧ r.tv ≤ 1000000) (hn : r.of.length ≤ 12) :
    ∃ e', (e' = true → (tidyF r.of r.kd r.tv).1 = []) ∧ Or (.call 38) [AV.agg [lst r.e r.of, I r.kd, I r.tv]] [] = some [T.lst 1 e' (enc (tidyF r.of r.kd r.tv).1), ti r.kd, ti (tidyF r.of r.kd r.tv).2, ti 0, ti 0] := by
  have k1 := s33x r 12 (by omega) he
  obtain ⟨e', k2e, k2⟩ := s34 r.e r.of he (by omega)
  unfold tidyF
  by_cases hz : bz r.of = []
  · refine ⟨true, fun _ => by rw [if_pos hz], orc_of ?_⟩
    rw [e16, if_pos hz]
    simp only [show ((12 : Nat) : Int) = 12 from rfl] at k1
    have hl : ((enc (bz r.of)).length : Int) = 0 := by rw [hz]; rfl
    simp only [gd1, hd1, tl1, dr0, dr1, dr2, dr3, dr4, dr5, dr6, bo1, in1, st1, ls1, le1, pt1, fi1, fb1, fs1, ct1, cf1, nt1, nf1, ak0, akT, akF, cdec, cndec, cbeq, cnbeq, ↓reduceIte, beq_self_eq_true, Int.reduceBEq, Int.reduceEq, Bool.and_true, Bool.true_and, Bool.false_and, Bool.and_false, k1, hc, k2, hl, s35]
    rfl
  · rw [if_neg hz]
    have hbz := bz_bd hb
    have hle := bz_len r.of
    obtain ⟨x, hx, h0⟩ := bz_last hz
    have hgp := gl_pos (g := r.tv.natAbs) hx h0
    have hgl : gl r.tv.natAbs (bz r.of) ≤ 1000000 := gl_le (by omega) (by simpa using hbz)
    have hdv : ∀ x ∈ bz r.of, (gl r.tv.natAbs (bz r.of) : Int) ∣ x := fun x hx => gl_dvd hx
    have hdt : (gl r.tv.natAbs (bz r.of) : Int) ∣ r.tv := by
      have := gl_dvd0 (bz r.of) r.tv.natAbs
      exact Int.ofNat_dvd_left.2 this
    have hg0 : (0 : Int) < (gl r.tv.natAbs (bz r.of) : Int) := by omega
    have hq := div_bd hg0 ht (by omega)
    have k3 := s36 r.tv 0 (by omega) (by omega)
    rw [Int.natAbs_zero, Nat.gcd_zero_right] at k3
    have hfz : fnz (divL (gl r.tv.natAbs (bz r.of)) (bz r.of)) ≠ 0 := by
      rw [fnz_div hg0 hdv]
      have hf := bz_fnz hz
      obtain ⟨y, hy, hyy⟩ : ∃ y ∈ bz r.of, y = fnz (bz r.of) := by
        obtain ⟨n, _, b, _⟩ := fi_at 0 hf
        exact ⟨_, List.mem_of_getElem? b, rfl⟩
      have hd := hdv y hy
      rw [hyy] at hd
      obtain ⟨c, hc⟩ := hd
      rw [hc] at hf ⊢
      rw [Int.mul_ediv_cancel_left _ (by omega)]
      intro h; subst h; simp at hf
    have hbd : Bd 1000000 (divL (gl r.tv.natAbs (bz r.of)) (bz r.of)) := by
      intro y hy
      obtain ⟨z, hz, rfl⟩ := List.mem_map.1 hy
      exact div_bd hg0 (hbz z hz) (by omega)
    have hlen : (divL (gl r.tv.natAbs (bz r.of)) (bz r.of)).length = (bz r.of).length := by simp [divL]
    have k4 := s37 e' (divL (gl r.tv.natAbs (bz r.of)) (bz r.of)) r.kd (r.tv / (gl r.tv.natAbs (bz r.of) : Int)) (by omega) hbd hq hfz
    rw [sg_div hg0 hdv] at k4
    refine ⟨e', fun h => absurd (k2e h) hz, orc_of ?_⟩
    have k5 : Or K16n14 [r0, AV.ref (Id.c 1) 0, AV.ref (Id.c 2) 0, AV.own (Id.c 3), I (gl r.tv.natAbs (bz r.of) : Nat), I ((bz r.of).length : Int), I ((bz r.of).length : Int)] [Blk.box [lst r.e r.of, I r.kd, I r.tv], Blk.box [AV.t (T.emp true), I 0, I 0], Blk.box [I 0, I 0], Blk.sl false 1 e' (enc (divL (gl r.tv.natAbs (bz r.of)) (bz r.of)))] = some [T.lst 1 e' (enc ((bz r.of).map (fun x => sg r.kd (bz r.of) * (x / (gl r.tv.natAbs (bz r.of) : Int))))), ti r.kd, ti (sg r.kd (bz r.of) * (r.tv / (gl r.tv.natAbs (bz r.of) : Int))), ti 0, ti 0] := by
      refine orc_of ?_
      rw [e16n14]
      have h1 : ¬ ((bz r.of).length : Int) < ((bz r.of).length : Int) := by omega
      have hgn : ¬ ((gl r.tv.natAbs (bz r.of) : Nat) : Int) = 0 := by omega
      simp only [gd1, hd1, tl1, dr0, dr1, dr2, dr3, dr4, dr5, dr6, bo1, in1, st1, ls1, le1, pt1, fi1, fb1, fs1, ct1, cf1, nt1, nf1, ak0, akT, akF, cdec, cndec, cbeq, cnbeq, ↓reduceIte, beq_self_eq_true, Int.reduceBEq, Int.reduceEq, Bool.and_true, Bool.true_and, Bool.false_and, Bool.and_false, h1, hgn, tdiv_dvd hdt, wr (v := r.tv / (gl r.tv.natAbs (bz r.of) : Int)) (by omega), k4]
      simp [divL, Function.comp_def]
    have k6 := n16d _ _ _ e' r.kd r.tv (gl r.tv.natAbs (bz r.of) : Nat) r.e r.of true hg0 _ (bz r.of).length (by omega) rfl rfl rfl (bz r.of) [] (by simp) hbz hdv (by simpa using k5)
    have k7 := n16g _ _ _ e' (bz r.of) r.kd r.tv r.e r.of true hbz (by omega) _ rfl rfl rfl (bz r.of) 0 r.tv.natAbs rfl (by omega) (by simpa using k6)
    rw [e16]
    simp only [show ((12 : Nat) : Int) = 12 from rfl] at k1
    have hl : ¬ ((bz r.of).length : Int) = 0 := by
      intro h
      exact hz (List.length_eq_zero_iff.1 (by omega))
    simp only [gd1, hd1, tl1, dr0, dr1, dr2, dr3, dr4, dr5, dr6, bo1, in1, st1, ls1, le1, pt1, fi1, fb1, fs1, ct1, cf1, nt1, nf1, ak0, akT, akF, cdec, cndec, cbeq, cnbeq, ↓reduceIte, beq_self_eq_true, Int.reduceBEq, Int.reduceEq, Bool.and_true, Bool.true_and, Bool.false_and, Bool.and_false, k1, hc, k2, enc_len, hl, k3]
    exact k7
end Go.Aev.Gen
