/-
  A row in its plainest form: what the program makes of it.
-/
import Derived.Test.YtobpninhnmmpeaaGreatZChk
set_option linter.unusedSimpArgs false
set_option linter.unusedVariables false
namespace Go.Aev.Gen
open Go Go.Aev

def Bd (b : Int) (l : List Int) : Prop := ∀ x ∈ l, -b ≤ x ∧ x ≤ b
theorem inB_ok {lo hi n : Int} (h : 0 ≤ lo ∧ lo ≤ hi ∧ hi ≤ n) : inB lo hi n = some () := by unfold inB; rw [if_pos h]
theorem sub_enc (l : List Int) (j : Nat) : sub 0 (j : Int) (enc l) = enc (l.take j) := by
  simp [sub, enc, List.map_take]
theorem enc_set {l : List Int} {i : Nat} (hi : i < l.length) (v : Int) : storeIn (i : Int).toNat 0 [ti v] (enc l) = some (enc (l.set i v)) := by
  have h1 : (enc l)[((i : Nat) : Int).toNat]? = some [ti l[i]] := enc_get (List.getElem?_eq_getElem hi)
  simp only [storeIn, h1]
  simp [repl, enc, List.map_set]
theorem set_mid (a : List Int) (b v : Int) (r : List Int) (i : Nat) (h : a.length = i) : (a ++ b :: r).set i v = a ++ v :: r := by
  subst h; simp
theorem enc_app (a b : List Int) : enc a ++ enc b = enc (a ++ b) := by simp [enc]
theorem enc_one (x : Int) : [[ti x]] = enc [x] := rfl

/-! ### Without noughts at the end -/
def bzN (l : List Int) : Nat → Nat
  | 0 => 0
  | k + 1 => if l.getD k 0 = 0 then bzN l k else k + 1
def bz (l : List Int) : List Int := l.take (bzN l l.length)
theorem bzN_le (l : List Int) : ∀ k, bzN l k ≤ k
  | 0 => Nat.le_refl _
  | k + 1 => by
    rw [bzN]
    split
    · have := bzN_le l k; omega
    · exact Nat.le_refl _
theorem bz_len (l : List Int) : (bz l).length ≤ l.length := by unfold bz; rw [List.length_take]; omega
theorem bz_bd {b : Int} {l : List Int} (h : Bd b l) : Bd b (bz l) := fun x hx => h x (List.mem_of_mem_take hx)
theorem take_get {l : List Int} {k : Nat} (hk : k < l.length) : (l.take (k + 1))[k]? = some (l.getD k 0) := by
  rw [List.getElem?_take, if_pos (by omega), List.getElem?_eq_getElem hk]
  simp [List.getD_eq_getElem?_getD, hk]
theorem take_len {l : List Int} {k : Nat} (hk : k ≤ l.length) : (l.take k).length = k := by rw [List.length_take]; omega
theorem n34 (e : Bool) (l : List Int) (he : e = true → l = []) (hn : l.length ≤ 1000) : ∀ k, k ≤ l.length → ∃ e', (e' = true → l.take (bzN l k) = []) ∧ Or K34n1 [lst e (l.take k)] [] = some [T.lst 1 e' (enc (l.take (bzN l k)))]
  | 0, hk => by
    obtain ⟨x, e', k1, k2, k3⟩ := s73e [] e (fun _ => rfl) (by simp)
    refine ⟨e', fun _ => by simp [bzN], orc_of ?_⟩
    rw [e34n1]
    have h0 : ¬ ((0 : Nat) : Int) > 0 := by omega
    simp only [List.take_zero, bzN]
    simp only [gd1, hd1, tl1, dr0, dr1, dr2, dr3, dr4, dr5, dr6, bo1, in1, st1, ls1, le1, pt1, fi1, fb1, fs1, ct1, cf1, nt1, nf1, ak0, akT, akF, cdec, cndec, cbeq, cnbeq, ↓reduceIte, beq_self_eq_true, Int.reduceBEq, Int.reduceEq, Bool.and_true, Bool.true_and, Bool.false_and, Bool.and_false, gdF, enc_len, List.length_nil, h0, decide_false, k1, k2]
  | k + 1, hk => by
    obtain ⟨e1, ihe, ih⟩ := n34 e l he hn k (by omega)
    have h0 : ((k + 1 : Nat) : Int) > 0 := by omega
    have hw : IntKind.i64.wrap (((k + 1 : Nat) : Int) - 1) = (k : Int) := by rw [wr (by omega)]; omega
    have h2 : 0 ≤ (k : Int) ∧ (k : Int) < ((k + 1 : Nat) : Int) := by omega
    have hi : inB 0 (k : Int) ((k + 1 : Nat) : Int) = some () := inB_ok (by omega)
    have hg := enc_get (take_get (l := l) (k := k) (by omega))
    have ht : (l.take (k + 1)).take k = l.take k := by rw [List.take_take]; congr 1; omega
    rw [bzN]
    by_cases hz : l.getD k 0 = 0
    · rw [if_pos hz]
      refine ⟨e1, ihe, orc_of ?_⟩
      rw [e34n1]
      simp only [gd1, hd1, tl1, dr0, dr1, dr2, dr3, dr4, dr5, dr6, bo1, in1, st1, ls1, le1, pt1, fi1, fb1, fs1, ct1, cf1, nt1, nf1, ak0, akT, akF, cdec, cndec, cbeq, cnbeq, ↓reduceIte, beq_self_eq_true, Int.reduceBEq, Int.reduceEq, Bool.and_true, Bool.true_and, Bool.false_and, Bool.and_false, enc_len, take_len hk, h0, decide_true, hw, h2, and_self, hg, hz, hi, sub_enc, ht]
      exact ih
    · rw [if_neg hz]
      obtain ⟨x, e', k1, k2, k3⟩ := s73e (l.take (k + 1)) e (fun h => by rw [he h]; simp) (by rw [take_len hk]; omega)
      refine ⟨e', k3, orc_of ?_⟩
      rw [e34n1]
      simp only [gd1, hd1, tl1, dr0, dr1, dr2, dr3, dr4, dr5, dr6, bo1, in1, st1, ls1, le1, pt1, fi1, fb1, fs1, ct1, cf1, nt1, nf1, ak0, akT, akF, cdec, cndec, cbeq, cnbeq, ↓reduceIte, beq_self_eq_true, Int.reduceBEq, Int.reduceEq, Bool.and_true, Bool.true_and, Bool.false_and, Bool.and_false, enc_len, take_len hk, h0, decide_true, hw, h2, and_self, hg, hz, k1, k2]
theorem s34 (e : Bool) (l : List Int) (he : e = true → l = []) (hn : l.length ≤ 1000) : ∃ e', (e' = true → bz l = []) ∧ Or (.call 79) [lst e l] [] = some [T.lst 1 e' (enc (bz l))] := by
  obtain ⟨e', k3, this⟩ := n34 e l he hn l.length (Nat.le_refl _)
  rw [List.take_length] at this
  refine ⟨e', k3, orc_of ?_⟩
  rw [e34]
  exact this
/-! ### What divides all -/
def gl (g : Nat) : List Int → Nat
  | [] => g
  | x :: l => gl (Nat.gcd g x.natAbs) l
theorem natAbs_tmod (a b : Int) : (a.tmod b).natAbs = a.natAbs % b.natAbs := Int.natAbs_tmod a b
theorem gcd_tmod (a b : Int) : Nat.gcd b.natAbs (a.tmod b).natAbs = Nat.gcd a.natAbs b.natAbs := by
  rw [natAbs_tmod, Nat.gcd_comm b.natAbs, ← Nat.gcd_rec, Nat.gcd_comm]
theorem n36 : ∀ (m : Nat) (a b : Int), b.natAbs ≤ m → -1000000000000000 ≤ a ∧ a ≤ 1000000000000000 → -1000000000000000 ≤ b ∧ b ≤ 1000000000000000 → Or K36n1 [I a, I b] [] = some [ti (Nat.gcd a.natAbs b.natAbs : Nat)]
  | m, a, b, hm, ha, hb => by
    refine orc_of ?_
    rw [e36n1]
    by_cases h0 : b = 0
    · subst h0
      have hw : IntKind.i64.wrap (0 - a) = -a := by rw [wr (by omega)]; omega
      have : mm true a (-a) = ((Nat.gcd a.natAbs (0 : Int).natAbs : Nat) : Int) := by
        rw [mm_max, Int.natAbs_zero, Nat.gcd_zero_right]; omega
      simp only [gd1, hd1, tl1, dr0, dr1, dr2, dr3, dr4, dr5, dr6, bo1, in1, st1, ls1, le1, pt1, fi1, fb1, fs1, ct1, cf1, nt1, nf1, ak0, akT, akF, cdec, cndec, cbeq, cnbeq, ↓reduceIte, beq_self_eq_true, Int.reduceBEq, Int.reduceEq, Bool.and_true, Bool.true_and, Bool.false_and, Bool.and_false, hw, this]
    · have ht := natAbs_tmod a b
      have hlt : (a.tmod b).natAbs < b.natAbs := by rw [ht]; exact Nat.mod_lt _ (by omega)
      match m with
      | 0 => omega
      | m + 1 =>
        have := n36 m b (a.tmod b) (by omega) hb (by omega)
        rw [gcd_tmod] at this
        simp only [gd1, hd1, tl1, dr0, dr1, dr2, dr3, dr4, dr5, dr6, bo1, in1, st1, ls1, le1, pt1, fi1, fb1, fs1, ct1, cf1, nt1, nf1, ak0, akT, akF, cdec, cndec, cbeq, cnbeq, ↓reduceIte, beq_self_eq_true, Int.reduceBEq, Int.reduceEq, Bool.and_true, Bool.true_and, Bool.false_and, Bool.and_false, h0]
        exact this
theorem s36 (a b : Int) (ha : -1000000000000000 ≤ a ∧ a ≤ 1000000000000000) (hb : -1000000000000000 ≤ b ∧ b ≤ 1000000000000000) : Or (.call 81) [I a, I b] [] = some [ti (Nat.gcd a.natAbs b.natAbs : Nat)] :=
  orc_of (by rw [e36]; exact n36 b.natAbs a b (Nat.le_refl _) ha hb)
theorem n41 : ∀ (m : Nat) (a b : Int), b.natAbs ≤ m → -1000000000000000 ≤ a ∧ a ≤ 1000000000000000 → -1000000000000000 ≤ b ∧ b ≤ 1000000000000000 → Or K41n1 [I a, I b] [] = some [ti (Nat.gcd a.natAbs b.natAbs : Nat)]
  | m, a, b, hm, ha, hb => by
    refine orc_of ?_
    rw [e41n1]
    by_cases h0 : b = 0
    · subst h0
      have hw : IntKind.i64.wrap (0 - a) = -a := by rw [wr (by omega)]; omega
      have : mm true a (-a) = ((Nat.gcd a.natAbs (0 : Int).natAbs : Nat) : Int) := by
        rw [mm_max, Int.natAbs_zero, Nat.gcd_zero_right]; omega
      simp only [gd1, hd1, tl1, dr0, dr1, dr2, dr3, dr4, dr5, dr6, bo1, in1, st1, ls1, le1, pt1, fi1, fb1, fs1, ct1, cf1, nt1, nf1, ak0, akT, akF, cdec, cndec, cbeq, cnbeq, ↓reduceIte, beq_self_eq_true, Int.reduceBEq, Int.reduceEq, Bool.and_true, Bool.true_and, Bool.false_and, Bool.and_false, hw, this]
    · have ht := natAbs_tmod a b
      have hlt : (a.tmod b).natAbs < b.natAbs := by rw [ht]; exact Nat.mod_lt _ (by omega)
      match m with
      | 0 => omega
      | m + 1 =>
        have := n41 m b (a.tmod b) (by omega) hb (by omega)
        rw [gcd_tmod] at this
        simp only [gd1, hd1, tl1, dr0, dr1, dr2, dr3, dr4, dr5, dr6, bo1, in1, st1, ls1, le1, pt1, fi1, fb1, fs1, ct1, cf1, nt1, nf1, ak0, akT, akF, cdec, cndec, cbeq, cnbeq, ↓reduceIte, beq_self_eq_true, Int.reduceBEq, Int.reduceEq, Bool.and_true, Bool.true_and, Bool.false_and, Bool.and_false, h0]
        exact this
theorem s41 (a b : Int) (ha : -1000000000000000 ≤ a ∧ a ≤ 1000000000000000) (hb : -1000000000000000 ≤ b ∧ b ≤ 1000000000000000) : Or (.call 83) [I a, I b] [] = some [ti (Nat.gcd a.natAbs b.natAbs : Nat)] :=
  orc_of (by rw [e41]; exact n41 b.natAbs a b (Nat.le_refl _) ha hb)
theorem gl_le {b : Nat} : ∀ {l : List Int} {g : Nat}, g ≤ b → Bd b l → gl g l ≤ b
  | [], g, hg, _ => hg
  | x :: l, g, hg, hl => by
    rw [gl]
    refine gl_le ?_ (fun y hy => hl y (List.mem_cons_of_mem _ hy))
    have h1 := hl x List.mem_cons_self
    rcases Nat.eq_zero_or_pos g with h | h
    · subst h; rw [Nat.gcd_zero_left]; omega
    · exact Nat.le_trans (Nat.gcd_le_left _ h) hg
theorem gl_gcd : ∀ (l : List Int) (g : Nat), gl g l = Nat.gcd g (gl 0 l)
  | [], g => by simp [gl]
  | x :: l, g => by
    rw [gl, gl_gcd l, gl, gl_gcd l (Nat.gcd 0 _), Nat.gcd_zero_left, Nat.gcd_assoc]
theorem gl_dvd : ∀ {l : List Int} {g : Nat} {x : Int}, x ∈ l → (gl g l : Int) ∣ x
  | y :: l, g, x, hx => by
    rw [gl]
    rcases List.mem_cons.1 hx with rfl | h
    · rw [gl_gcd]
      exact Int.ofNat_dvd_left.2 (Nat.dvd_trans (Nat.gcd_dvd_left _ _) (Nat.gcd_dvd_right _ _))
    · exact gl_dvd h
theorem gl_dvd0 (l : List Int) (g : Nat) : gl g l ∣ g := by rw [gl_gcd]; exact Nat.gcd_dvd_left _ _
theorem gl_app (a b : List Int) (g : Nat) : gl g (a ++ b) = gl (gl g a) b := by
  induction a generalizing g with
  | nil => rfl
  | cons x a ih => simp only [List.cons_append, gl, ih]
theorem gl_pos {l : List Int} {g : Nat} {x : Int} (hx : x ∈ l) (h0 : x ≠ 0) : 0 < gl g l := by
  rcases Nat.eq_zero_or_pos (gl g l) with h | h
  · have := gl_dvd (g := g) hx
    rw [h] at this
    exact absurd (by simpa using this) h0
  · exact h
end Go.Aev.Gen
