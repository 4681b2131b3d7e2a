/-
  The document's search for a model; what it says of clauses.
-/
import Derived.Test.YtcjfkgkobblonaaHCNode
import Derived.Test.YtcjfkgkobblonaaHHold
set_option linter.unusedSimpArgs false
set_option linter.unusedVariables false
namespace Go.Aev.Gen
open Go Go.Aev Go.Aev.Hp Go.RowKit

theorem s39 (n : Int) (h : -1000000 ≤ n ∧ n ≤ 1000000) : Or (.call 39) [I n] [] = some [ti (ab n)] := by
  refine orc_of ?_
  rw [e39, mm_max, wr64, w64 (by omega)]
  unfold ab
  rw [show (0 : Int) - n = -n by omega]
theorem n24' {h : Hp} {n : Int} (e f : Bool) (hn : h.os.length ≤ 1000) : ∀ (suf pre : List Int), h.os = pre ++ suf →
    ∃ b, Or K24n2 [I n, r0, I (pre.length : Int)] [Blk.box [lst e h.ls, lst f h.os, I h.at_]] = some [tb b] ∧ (b = true → (h.ls.length : Int) < 6 ∧ n < 31)
  | [], pre, hp => by
    rw [List.append_nil] at hp
    have c : ¬ (pre.length : Int) < (h.os.length : Int) := by rw [hp]; omega
    refine ⟨decide ((h.ls.length : Int) < 6) && decide (n < 31), orc_of ?_, by simp⟩
    rw [e24n2]
    simp only [cand]
    simp only [gd1, hd1, tl1, dr0, dr1, dr2, dr3, dr4, dr5, dr6, bo1, in1, st1, ls1, le1, pt1, fi1, fb1, fs1, ct1, cf1, nt1, nf1, ak0, akT, akF, cdec, cndec, cbeq, cnbeq, ↓reduceIte, beq_self_eq_true, Int.reduceBEq, Int.reduceEq, Bool.and_true, Bool.true_and, Bool.false_and, Bool.and_false, enc_len, c]
  | o :: r, pre, hp => by
    have hl : h.os.length = pre.length + (r.length + 1) := by rw [hp]; simp
    have g : h.os[pre.length]? = some o := by rw [hp]; simp
    have k := enc_get g
    have c : (pre.length : Int) < (h.os.length : Int) := by omega
    have c0 : 0 ≤ (pre.length : Int) := by omega
    have en : wrap64 ((pre.length : Int) + 1) = ((pre ++ [o]).length : Int) := by rw [w64 (by omega)]; simp
    by_cases h1 : o > 9
    · refine ⟨false, orc_of ?_, by simp⟩
      rw [e24n2]
      simp only [cor]
      simp only [gd1, hd1, tl1, dr0, dr1, dr2, dr3, dr4, dr5, dr6, bo1, in1, st1, ls1, le1, pt1, fi1, fb1, fs1, ct1, cf1, nt1, nf1, ak0, akT, akF, cdec, cndec, cbeq, cnbeq, ↓reduceIte, beq_self_eq_true, Int.reduceBEq, Int.reduceEq, Bool.and_true, Bool.true_and, Bool.false_and, Bool.and_false, enc_len, c, c0, and_self, k, h1, decide_true, gdF, Bool.true_or]
    · by_cases h2 : o < -9
      · refine ⟨false, orc_of ?_, by simp⟩
        rw [e24n2]
        simp only [cor]
        simp only [gd1, hd1, tl1, dr0, dr1, dr2, dr3, dr4, dr5, dr6, bo1, in1, st1, ls1, le1, pt1, fi1, fb1, fs1, ct1, cf1, nt1, nf1, ak0, akT, akF, cdec, cndec, cbeq, cnbeq, ↓reduceIte, beq_self_eq_true, Int.reduceBEq, Int.reduceEq, Bool.and_true, Bool.true_and, Bool.false_and, Bool.and_false, enc_len, c, c0, and_self, k, h1, h2, decide_true, decide_false, Bool.or_true]
      · obtain ⟨b, h3, h4⟩ := n24' (n := n) e f hn r (pre ++ [o]) (by rw [hp]; simp)
        refine ⟨b, orc_of ?_, h4⟩
        rw [e24n2]
        simp only [cor, wr64]
        simp only [gd1, hd1, tl1, dr0, dr1, dr2, dr3, dr4, dr5, dr6, bo1, in1, st1, ls1, le1, pt1, fi1, fb1, fs1, ct1, cf1, nt1, nf1, ak0, akT, akF, cdec, cndec, cbeq, cnbeq, ↓reduceIte, beq_self_eq_true, Int.reduceBEq, Int.reduceEq, Bool.and_true, Bool.true_and, Bool.false_and, Bool.and_false, enc_len, c, c0, and_self, k, h1, h2, decide_false, Bool.or_self, en]
        exact h3
theorem s24 (e f : Bool) (h : Hp) (n : Int) (hn : h.os.length ≤ 1000) : ∃ b, Or (.call 24) [hv e f h, I n] [] = some [tb b] ∧ (b = true → (h.ls.length : Int) < 6 ∧ n < 31) := by
  obtain ⟨b, h1, h2⟩ := n24' (h := h) (n := n) e f hn h.os [] rfl
  refine ⟨b, orc_of ?_, h2⟩
  rw [e24]
  exact h1

/-! ### Are clauses fine? -/
theorem encC_get {cl : List (List Int)} {k : Nat} {c : List Int} (h : cl[k]? = some c) : (encC cl)[((k : Nat) : Int).toNat]? = some [tm c] := by simp [encC, h]
def Fine (n : Int) (c : List Int) : Prop := c.length ≤ 24 ∧ Asc c ∧ ∀ x ∈ c, 1 ≤ ab x ∧ ab x ≤ n
theorem n25b {n : Int} {cl : List (List Int)} {e : Bool} {k : Nat} {c : List Int} (hn : n ≤ 120) (g : cl[k]? = some c) (hk : k < 1000) (hc : Fine n c) {R : List T}
    (hr : Or K25n4 [r0, I ((k + 1 : Nat) : Int)] [Blk.box [I n, AV.t (T.lst 1 e (encC cl))]] = some R) : ∀ (suf pre : List Int) (last : Int), c = pre ++ suf → (∀ x ∈ suf, last < ab x) → 
    Or K25n10 [r0, I (k : Int), I last, I (pre.length : Int)] [Blk.box [I n, AV.t (T.lst 1 e (encC cl))]] = some R
  | [], pre, last, hp, _ => by
    rw [List.append_nil] at hp
    have lk : k < cl.length := (List.getElem?_eq_some_iff.1 g).1
    have c1 : 0 ≤ (k : Int) ∧ (k : Int) < (cl.length : Int) := by omega
    have c2 : ¬ (pre.length : Int) < (c.length : Int) := by rw [hp]; omega
    have w : wrap64 ((k : Int) + 1) = ((k + 1 : Nat) : Int) := by rw [w64 (by omega)]; omega
    have k1 := encC_get g
    refine orc_of ?_
    rw [e25n10]
    simp only [wr64]
    simp only [gd1, hd1, tl1, dr0, dr1, dr2, dr3, dr4, dr5, dr6, bo1, in1, st1, ls1, le1, pt1, fi1, fb1, fs1, ct1, cf1, nt1, nf1, ak0, akT, akF, cdec, cndec, cbeq, cnbeq, ↓reduceIte, beq_self_eq_true, Int.reduceBEq, Int.reduceEq, Bool.and_true, Bool.true_and, Bool.false_and, Bool.and_false, encC_len, c1, and_self, k1, tm_lst, enc_len, c2, w]
    exact hr
  | x :: r, pre, last, hp, hl => by
    have lk : k < cl.length := (List.getElem?_eq_some_iff.1 g).1
    have c1 : 0 ≤ (k : Int) ∧ (k : Int) < (cl.length : Int) := by omega
    have hlen : c.length = pre.length + (r.length + 1) := by rw [hp]; simp
    have h24 := hc.1
    have c2 : (pre.length : Int) < (c.length : Int) := by omega
    have c0 : 0 ≤ (pre.length : Int) := by omega
    have k1 := encC_get g
    have g2 : c[pre.length]? = some x := by rw [hp]; simp
    have k2 := enc_get g2
    have hx := hc.2.2 x (by rw [hp]; simp)
    have h39 := s39 x (by unfold ab at hx; omega)
    have d1 : ¬ ab x ≤ last := by have := hl x (List.mem_cons_self ..); omega
    have d2 : ¬ ab x > n := by omega
    have en : wrap64 ((pre.length : Int) + 1) = ((pre ++ [x]).length : Int) := by rw [w64 (by omega)]; simp
    have ha := hc.2.1
    rw [hp] at ha
    have hr2 := (List.pairwise_append.1 ha).2.1
    have ih := n25b hn g hk hc hr r (pre ++ [x]) (ab x) (by rw [hp]; simp) (fun y hy => (List.pairwise_cons.1 hr2).1 y hy)
    refine orc_of ?_
    rw [e25n10]
    simp only [cor, wr64]
    simp only [gd1, hd1, tl1, dr0, dr1, dr2, dr3, dr4, dr5, dr6, bo1, in1, st1, ls1, le1, pt1, fi1, fb1, fs1, ct1, cf1, nt1, nf1, ak0, akT, akF, cdec, cndec, cbeq, cnbeq, ↓reduceIte, beq_self_eq_true, Int.reduceBEq, Int.reduceEq, Bool.and_true, Bool.true_and, Bool.false_and, Bool.and_false, encC_len, c1, and_self, k1, tm_lst, enc_len, c2, c0, k2, h39, d1, d2, decide_false, Bool.or_self, en]
    exact ih
theorem n25 {n : Int} {cl : List (List Int)} {e : Bool} (hn : n ≤ 120) (hm : cl.length ≤ 400) (hf : ∀ c ∈ cl, Fine n c) : ∀ (suf pre : List (List Int)), cl = pre ++ suf →
    Or K25n4 [r0, I (pre.length : Int)] [Blk.box [I n, AV.t (T.lst 1 e (encC cl))]] = some [tb true]
  | [], pre, hp => by
    rw [List.append_nil] at hp
    have c : ¬ (pre.length : Int) < (cl.length : Int) := by rw [hp]; omega
    refine orc_of ?_
    rw [e25n4]
    simp only [gd1, hd1, tl1, dr0, dr1, dr2, dr3, dr4, dr5, dr6, bo1, in1, st1, ls1, le1, pt1, fi1, fb1, fs1, ct1, cf1, nt1, nf1, ak0, akT, akF, cdec, cndec, cbeq, cnbeq, ↓reduceIte, beq_self_eq_true, Int.reduceBEq, Int.reduceEq, Bool.and_true, Bool.true_and, Bool.false_and, Bool.and_false, encC_len, c]
  | c :: r, pre, hp => by
    have hl : cl.length = pre.length + (r.length + 1) := by rw [hp]; simp
    have g : cl[pre.length]? = some c := by rw [hp]; simp
    have k := encC_get g
    have c1 : (pre.length : Int) < (cl.length : Int) := by omega
    have c0 : 0 ≤ (pre.length : Int) := by omega
    have hfc := hf c (by rw [hp]; simp)
    have d : ¬ (c.length : Int) > 24 := by have := hfc.1; omega
    have ih := n25 (e := e) hn hm hf r (pre ++ [c]) (by rw [hp]; simp)
    rw [show (((pre ++ [c]).length : Nat)) = pre.length + 1 by simp] at ih
    have hb := n25b (e := e) hn g (by omega) hfc ih c [] 0 rfl (fun x hx => by have := hfc.2.2 x hx; omega)
    refine orc_of ?_
    rw [e25n4]
    simp only [gd1, hd1, tl1, dr0, dr1, dr2, dr3, dr4, dr5, dr6, bo1, in1, st1, ls1, le1, pt1, fi1, fb1, fs1, ct1, cf1, nt1, nf1, ak0, akT, akF, cdec, cndec, cbeq, cnbeq, ↓reduceIte, beq_self_eq_true, Int.reduceBEq, Int.reduceEq, Bool.and_true, Bool.true_and, Bool.false_and, Bool.and_false, encC_len, c1, c0, and_self, k, tm_lst, enc_len, d]
    exact hb
theorem s25 {n : Int} {cl : List (List Int)} {e : Bool} (hn : 0 ≤ n ∧ n ≤ 120) (hm : cl.length ≤ 400) (hf : ∀ c ∈ cl, Fine n c) : Or (.call 25) [AV.agg [I n, AV.t (T.lst 1 e (encC cl))]] [] = some [tb true] := by
  have h := n25 (e := e) hn.2 hm hf cl [] rfl
  have c1 : ¬ n < 0 := by omega
  have c2 : ¬ n > 120 := by omega
  have c3 : ¬ (cl.length : Int) > 400 := by omega
  refine orc_of ?_
  rw [e25]
  simp only [cor]
  simp only [gd1, hd1, tl1, dr0, dr1, dr2, dr3, dr4, dr5, dr6, bo1, in1, st1, ls1, le1, pt1, fi1, fb1, fs1, ct1, cf1, nt1, nf1, ak0, akT, akF, cdec, cndec, cbeq, cnbeq, ↓reduceIte, beq_self_eq_true, Int.reduceBEq, Int.reduceEq, Bool.and_true, Bool.true_and, Bool.false_and, Bool.and_false, encC_len, c1, c2, c3, decide_false, Bool.or_self]
  exact h

/-! ### Models -/
def litT (g : Int → Bool) (x : Int) : Bool := if 0 < x then g x else !g (-x)
def Agr (g : Int → Bool) (now : List Int) : Prop := ∀ v : Nat, v < now.length → (now.getD v 0 = 1 → g ((v : Int) + 1) = true) ∧ (now.getD v 0 = -1 → g ((v : Int) + 1) = false)
def Sat (g : Int → Bool) (cl : List (List Int)) : Prop := ∀ c ∈ cl, ∃ x ∈ c, litT g x = true
def Mod (cl : List (List Int)) (now : List Int) : Prop := ∃ g, Agr g now ∧ Sat g cl
/-- What a literal is, so far. -/
def sg (now : List Int) (x : Int) : Int := if x < 0 then -(now.getD (ab x - 1).toNat 0) else now.getD (ab x - 1).toNat 0
structure Ok (m : Nat) (now : List Int) : Prop where
  len : now.length = m
  v : ∀ x ∈ now, -1 ≤ x ∧ x ≤ 1
def Lits (m : Nat) (c : List Int) : Prop := ∀ x ∈ c, 1 ≤ ab x ∧ ab x ≤ (m : Int)
theorem Ok.get {m : Nat} {now : List Int} (h : Ok m now) (v : Nat) : -1 ≤ now.getD v 0 ∧ now.getD v 0 ≤ 1 := by
  rw [List.getD_eq_getElem?_getD]
  cases hv : now[v]? with
  | none => simp
  | some x => exact h.v x (List.mem_of_getElem? hv)
theorem Ok.set {m : Nat} {now : List Int} (h : Ok m now) (v : Nat) {x : Int} (hx : -1 ≤ x ∧ x ≤ 1) : Ok m (now.set v x) :=
  ⟨by simp [h.len], fun y hy => by rcases List.mem_or_eq_of_mem_set hy with hy | rfl; exact h.v y hy; exact hx⟩
theorem sg_bd {m : Nat} {now : List Int} (h : Ok m now) (x : Int) : -1 ≤ sg now x ∧ sg now x ≤ 1 := by
  have := h.get (ab x - 1).toNat
  unfold sg; split <;> omega
theorem sg_lit {m : Nat} {now : List Int} (h : Ok m now) {g : Int → Bool} (ha : Agr g now) {x : Int} (hx : 1 ≤ ab x ∧ ab x ≤ (m : Int)) : (sg now x = 1 → litT g x = true) ∧ (sg now x = -1 → litT g x = false) := by
  have hv := ha (ab x - 1).toNat (by rw [h.len]; omega)
  have e : (((ab x - 1).toNat : Nat) : Int) + 1 = ab x := by omega
  rw [e] at hv
  unfold sg litT
  by_cases c : x < 0
  · have e2 : ab x = -x := by unfold ab; omega
    rw [e2] at hv ⊢
    rw [if_pos c, if_neg (by omega)]
    refine ⟨fun h1 => ?_, fun h1 => ?_⟩
    · rw [hv.2 (by omega)]; rfl
    · rw [hv.1 (by omega)]; rfl
  · have e2 : ab x = x := by unfold ab at hx ⊢; omega
    rw [e2] at hv hx ⊢
    rw [if_neg c, if_pos (by omega)]
    exact ⟨fun h1 => hv.1 h1, fun h1 => hv.2 h1⟩

def opn (now : List Int) : List Int → Int → Int
  | [], o => o
  | x :: r, o => opn now r (if sg now x = 0 then x else o)
def cnt (now : List Int) : List Int → Int
  | [] => 0
  | x :: r => (if sg now x = 0 then 1 else 0) + cnt now r
def anyP (now c : List Int) : Bool := c.any fun x => decide (sg now x > 0)
def setU (now : List Int) (x : Int) : List Int := now.set (ab x - 1).toNat (if x < 0 then -1 else 1)
theorem cnt_nonneg (now : List Int) : ∀ c, 0 ≤ cnt now c
  | [] => Int.le_refl _
  | x :: r => by have := cnt_nonneg now r; simp only [cnt]; split <;> omega
theorem cnt_zero (now : List Int) : ∀ {c : List Int} (o : Int), cnt now c = 0 → opn now c o = o ∧ ∀ x ∈ c, sg now x ≠ 0
  | [], o, _ => ⟨rfl, by simp⟩
  | x :: r, o, h => by
    have h0 := cnt_nonneg now r
    simp only [cnt] at h
    by_cases hx : sg now x = 0
    · rw [if_pos hx] at h; omega
    · rw [if_neg hx] at h
      obtain ⟨h1, h2⟩ := cnt_zero now (c := r) o (by omega)
      refine ⟨by simp only [opn, if_neg hx, h1], fun y hy => ?_⟩
      rcases List.mem_cons.1 hy with rfl | hy
      · exact hx
      · exact h2 y hy
theorem cnt_one (now : List Int) : ∀ {c : List Int} (o : Int), cnt now c = 1 → opn now c o ∈ c ∧ sg now (opn now c o) = 0 ∧ ∀ x ∈ c, sg now x = 0 → x = opn now c o
  | [], o, h => by simp [cnt] at h
  | x :: r, o, h => by
    simp only [cnt] at h
    by_cases hx : sg now x = 0
    · rw [if_pos hx] at h
      obtain ⟨h1, h2⟩ := cnt_zero now (c := r) x (by omega)
      simp only [opn, if_pos hx, h1]
      refine ⟨List.mem_cons_self .., hx, fun y hy hy0 => ?_⟩
      rcases List.mem_cons.1 hy with rfl | hy
      · rfl
      · exact absurd hy0 (h2 y hy)
    · rw [if_neg hx] at h
      obtain ⟨h1, h2, h3⟩ := cnt_one now (c := r) o (by omega)
      simp only [opn, if_neg hx]
      refine ⟨List.mem_cons_of_mem _ h1, h2, fun y hy hy0 => ?_⟩
      rcases List.mem_cons.1 hy with rfl | hy
      · exact absurd hy0 hx
      · exact h3 y hy hy0
def unitF : List (List Int) → List Int → Bool → Option (List Int × Bool)
  | [], now, ag => some (now, ag)
  | c :: r, now, ag => if (anyP now c || decide (cnt now c > 1)) = true then unitF r now ag else if cnt now c = 0 then none else unitF r (setU now (opn now c 0)) true
def zs : List Int → Nat
  | [] => 0
  | x :: r => (if x = 0 then 1 else 0) + zs r
theorem zs_set : ∀ {l : List Int} {i : Nat} {y : Int}, l[i]? = some 0 → y ≠ 0 → zs (l.set i y) + 1 = zs l
  | [], i, y, h, _ => by simp at h
  | x :: r, 0, y, h, hy => by
    simp at h; subst h
    simp only [List.set_cons_zero, zs, if_neg hy, if_true]; omega
  | x :: r, i + 1, y, h, hy => by
    have := zs_set (l := r) (i := i) (y := y) (by simpa using h) hy
    simp only [List.set_cons_succ, zs]; omega
theorem sg_zero {now : List Int} {x : Int} (h : sg now x = 0) : now.getD (ab x - 1).toNat 0 = 0 := by
  unfold sg at h
  split at h <;> omega
theorem getD_some {l : List Int} {i : Nat} (hi : i < l.length) {y : Int} (h : l.getD i 0 = y) : l[i]? = some y := by
  rw [List.getD_eq_getElem?_getD, List.getElem?_eq_getElem hi] at h
  rw [List.getElem?_eq_getElem hi]; simpa using h
theorem getD_set {l : List Int} {i j : Nat} {y : Int} : (l.set i y).getD j 0 = if i = j ∧ j < l.length then y else l.getD j 0 := by
  rw [List.getD_eq_getElem?_getD, List.getD_eq_getElem?_getD, List.getElem?_set]
  by_cases h : i = j
  · subst h
    by_cases h2 : i < l.length
    · simp [h2]
    · simp [h2]
  · simp [h]
/-- A clause with one open literal. -/
theorem unit_iff {m : Nat} {now c : List Int} (h : Ok m now) (hc : Lits m c) (hp : anyP now c = false) (h1 : cnt now c = 1) (g : Int → Bool) : (Agr g now ∧ ∃ x ∈ c, litT g x = true) ↔ (Agr g (setU now (opn now c 0)) ∧ ∃ x ∈ c, litT g x = true) := by
  obtain ⟨m1, m2, m3⟩ := cnt_one now (c := c) 0 h1
  have hl := hc _ m1
  have hz := sg_zero m2
  unfold setU
  constructor
  · rintro ⟨ha, x, hx, ht⟩
    refine ⟨fun v hv => ?_, x, hx, ht⟩
    have hv' : v < now.length := by simpa using hv
    have := ha v hv'
    rw [getD_set]
    by_cases hi : (ab (opn now c 0) - 1).toNat = v ∧ v < now.length
    · rw [if_pos hi]
      have ev : (v : Int) + 1 = ab (opn now c 0) := by omega
      rw [ev]
      have hxo : x = opn now c 0 := by
        refine m3 x hx ?_
        have b := sg_bd h x
        have l := sg_lit h ha (hc x hx)
        have np : ¬ sg now x > 0 := by
          intro hgt
          have : anyP now c = true := List.any_eq_true.2 ⟨x, hx, by simpa using hgt⟩
          rw [hp] at this; cases this
        have nn : sg now x ≠ -1 := fun e => by rw [l.2 e] at ht; cases ht
        omega
      rw [hxo] at ht
      unfold litT at ht
      by_cases hneg : opn now c 0 < 0
      · have e2 : ab (opn now c 0) = -(opn now c 0) := by unfold ab; omega
        rw [if_neg (by omega)] at ht
        rw [if_pos hneg, e2]
        exact ⟨fun h => by omega, fun _ => by simpa using ht⟩
      · have e2 : ab (opn now c 0) = opn now c 0 := by unfold ab; omega
        rw [if_pos (by omega)] at ht
        rw [if_neg hneg, e2]
        exact ⟨fun _ => ht, fun h => by omega⟩
    · rw [if_neg hi]; exact this
  · rintro ⟨ha, hx⟩
    refine ⟨fun v hv => ?_, hx⟩
    have := ha v (by simpa using hv)
    rw [getD_set] at this
    by_cases hi : (ab (opn now c 0) - 1).toNat = v ∧ v < now.length
    · rw [← hi.1, hz]
      exact ⟨fun h => by omega, fun h => by omega⟩
    · rw [if_neg hi] at this; exact this
theorem dead_iff {m : Nat} {now c : List Int} (h : Ok m now) (hc : Lits m c) (hp : anyP now c = false) (h1 : cnt now c = 0) (g : Int → Bool) (ha : Agr g now) : ¬ ∃ x ∈ c, litT g x = true := by
  rintro ⟨x, hx, ht⟩
  have h0 := (cnt_zero now (c := c) 0 h1).2 x hx
  have b := sg_bd h x
  have l := sg_lit h ha (hc x hx)
  have np : ¬ sg now x > 0 := by
    intro hgt
    have : anyP now c = true := List.any_eq_true.2 ⟨x, hx, by simpa using hgt⟩
    rw [hp] at this; cases this
  rw [l.2 (by omega)] at ht; cases ht
theorem unit_none {m : Nat} {cl : List (List Int)} (hl : ∀ c ∈ cl, Lits m c) : ∀ (cls : List (List Int)) (now : List Int) (ag : Bool), (∀ c ∈ cls, c ∈ cl) → Ok m now → unitF cls now ag = none → ¬ Mod cl now
  | [], now, ag, _, _, h => by simp [unitF] at h
  | c :: r, now, ag, hs, ho, h => by
    have hcl := hs c (List.mem_cons_self ..)
    simp only [unitF] at h
    by_cases h1 : (anyP now c || decide (cnt now c > 1)) = true
    · rw [if_pos h1] at h
      exact unit_none hl r now ag (fun x hx => hs x (List.mem_cons_of_mem _ hx)) ho h
    · rw [if_neg h1] at h
      have hp : anyP now c = false := by cases e : anyP now c <;> simp_all
      have hn1 : ¬ cnt now c > 1 := by intro e; exact h1 (by simp [e])
      have h0 := cnt_nonneg now c
      by_cases h2 : cnt now c = 0
      · rintro ⟨g, ha, hsat⟩
        exact dead_iff ho (hl c hcl) hp h2 g ha (hsat c hcl)
      · rw [if_neg h2] at h
        have o2 : Ok m (setU now (opn now c 0)) := ho.set _ (by split <;> omega)
        have ih := unit_none hl r _ true (fun x hx => hs x (List.mem_cons_of_mem _ hx)) o2 h
        rintro ⟨g, ha, hsat⟩
        exact ih ⟨g, ((unit_iff ho (hl c hcl) hp (by omega) g).1 ⟨ha, hsat c hcl⟩).1, hsat⟩
theorem unit_some {m : Nat} {cl : List (List Int)} (hl : ∀ c ∈ cl, Lits m c) : ∀ (cls : List (List Int)) (now now' : List Int) (ag ag' : Bool), (∀ c ∈ cls, c ∈ cl) → Ok m now → unitF cls now ag = some (now', ag') →
    Ok m now' ∧ (Mod cl now ↔ Mod cl now') ∧ (ag' = true → ag = true ∨ zs now' < zs now) ∧ zs now' ≤ zs now ∧ (ag' = false → now' = now ∧ ∀ c ∈ cls, (anyP now c || decide (cnt now c > 1)) = true)
  | [], now, now', ag, ag', _, ho, h => by
    simp only [unitF, Option.some.injEq, Prod.mk.injEq] at h
    obtain ⟨rfl, rfl⟩ := h
    exact ⟨ho, Iff.rfl, fun h => .inl h, Nat.le_refl _, fun _ => ⟨rfl, by simp⟩⟩
  | c :: r, now, now', ag, ag', hs, ho, h => by
    have hcl := hs c (List.mem_cons_self ..)
    simp only [unitF] at h
    by_cases h1 : (anyP now c || decide (cnt now c > 1)) = true
    · rw [if_pos h1] at h
      obtain ⟨a1, a2, a3, a4, a5⟩ := unit_some hl r now now' ag ag' (fun x hx => hs x (List.mem_cons_of_mem _ hx)) ho h
      refine ⟨a1, a2, a3, a4, fun e => ⟨(a5 e).1, fun x hx => ?_⟩⟩
      rcases List.mem_cons.1 hx with rfl | hx
      · exact h1
      · exact (a5 e).2 x hx
    · rw [if_neg h1] at h
      have hp : anyP now c = false := by cases e : anyP now c <;> simp_all
      have hn1 : ¬ cnt now c > 1 := by intro e; exact h1 (by simp [e])
      have h0 := cnt_nonneg now c
      by_cases h2 : cnt now c = 0
      · rw [if_pos h2] at h; cases h
      · rw [if_neg h2] at h
        have h1' : cnt now c = 1 := by omega
        have o2 : Ok m (setU now (opn now c 0)) := ho.set _ (by split <;> omega)
        obtain ⟨a1, a2, a3, a4, a5⟩ := unit_some hl r _ now' true ag' (fun x hx => hs x (List.mem_cons_of_mem _ hx)) o2 h
        obtain ⟨m1, m2, m3⟩ := cnt_one now (c := c) 0 h1'
        have hlo := hl c hcl _ m1
        have hz : zs (setU now (opn now c 0)) + 1 = zs now := zs_set (getD_some (by rw [ho.len]; omega) (sg_zero m2)) (by split <;> omega)
        refine ⟨a1, ⟨?_, ?_⟩, fun e => .inr (by omega), by omega, fun e => ?_⟩
        · rintro ⟨g, ha, hsat⟩
          exact a2.1 ⟨g, ((unit_iff ho (hl c hcl) hp h1' g).1 ⟨ha, hsat c hcl⟩).1, hsat⟩
        · intro hm
          obtain ⟨g, ha, hsat⟩ := a2.2 hm
          exact ⟨g, ((unit_iff ho (hl c hcl) hp h1' g).2 ⟨ha, hsat c hcl⟩).1, hsat⟩
        · exfalso
          -- 'again' stays once it is so
          have : ∀ (cls : List (List Int)) (n n' : List Int) (a : Bool), unitF cls n true = some (n', a) → a = true := by
            intro cls
            induction cls with
            | nil => intro n n' a h; simp only [unitF, Option.some.injEq, Prod.mk.injEq] at h; exact h.2.symm
            | cons c r ih =>
              intro n n' a h
              simp only [unitF] at h
              split at h
              · exact ih _ _ _ h
              · split at h
                · cases h
                · exact ih _ _ _ h
          have := this _ _ _ _ h
          rw [e] at this; cases this
end Go.Aev.Gen
