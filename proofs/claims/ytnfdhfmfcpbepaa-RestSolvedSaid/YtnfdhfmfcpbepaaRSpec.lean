/-
  What the program's and the document's functions on rests do.
-/
import Derived.Test.YtnfdhfmfcpbepaaRGen
import Derived.Test.YtnfdhfmfcpbepaaAevStep
import Derived.Test.YtnfdhfmfcpbepaaNum
set_option linter.unusedSimpArgs false
set_option linter.unusedVariables false
namespace Go.Aev.Gen
open Go Go.Aev Go.Num

noncomputable abbrev Or : Orc := orc PROG ann
abbrev ti (n : Int) : T := .int .i64 n
abbrev tb (b : Bool) : T := .bool b

def Ok (n o : Int) : Prop := 1 ≤ o ∧ o ≤ 1000000 ∧ 0 ≤ n ∧ n < o
instance (n o : Int) : Decidable (Ok n o) := by unfold Ok; infer_instance

theorem s20 (n o : Int) : Or (.call 20) [AV.agg [I n, I o]] [] = some [tb (decide (Ok n o))] := by
  refine orc_of ?_
  rw [e20]
  simp only [cand, ge_iff_le, ← Bool.decide_and, Ok, and_assoc]
theorem s13 (n o : Int) : Or (.call 13) [AV.agg [I n, I o]] [] = some [tb (decide (Ok n o))] := by
  refine orc_of ?_
  rw [e13]
  simp only [cand, ge_iff_le, gt_iff_lt, ← Bool.decide_and, Ok, and_assoc]
  rfl
theorem s14 (c a : Int) : Or (.call 14) [I c, I a] [] = some [ti c, ti a] := orc_of (by rw [e14])
def Fits (n : Int) : Prop := -1000000 ≤ n ∧ n ≤ 1000000
instance (n : Int) : Decidable (Fits n) := by unfold Fits; infer_instance
theorem s17 (n : Int) : Or (.call 17) [I n] [] = some [tb (decide (Fits n))] := by
  refine orc_of ?_
  rw [e17]
  simp only [cand, ge_iff_le, ← Bool.decide_and, Fits]
  congr 3
  exact decide_eq_decide.2 and_comm
theorem s23 (n : Int) : Or (.call 23) [I n] [] = some [tb (decide (Fits n))] := by
  refine orc_of ?_
  rw [e23]
  simp only [cand, ge_iff_le, ← Bool.decide_and, Fits]
theorem s25 (c a : Int) (ha : 0 < a ∧ a < 4000000000000000000) : Or (.call 25) [I c, I a] [] = some [ti (c % a)] := by
  refine orc_of ?_
  rw [e25]
  have h := tmod_lt (a := c) ha.1
  have h0 : ¬ a = 0 := by omega
  rw [wr (by omega), mod2 ha.1]
  simp only [gd1, hd1, tl1, dr0, dr1, dr2, dr3, dr4, dr5, dr6, bo1, in1, st1, ls1, le1, pt1, fi1, fb1, fs1, ct1, cf1, nt1, nf1, ak0, akT, akF, cdec, cndec, cbeq, cnbeq, ↓reduceIte, beq_self_eq_true, Int.reduceBEq, Int.reduceEq, Bool.and_true, Bool.true_and, Bool.false_and, Bool.and_false, h0]
theorem s19 (x n o : Int) (ha : 0 < o ∧ o < 4000000000000000000) : Or (.call 19) [I x, AV.agg [I n, I o]] [] = some [tb (x % o == n)] := by
  refine orc_of ?_
  rw [e19]
  have h := tmod_lt (a := x) ha.1
  have h0 : ¬ o = 0 := by omega
  rw [wr (by omega), mod2 ha.1]
  simp only [gd1, hd1, tl1, dr0, dr1, dr2, dr3, dr4, dr5, dr6, bo1, in1, st1, ls1, le1, pt1, fi1, fb1, fs1, ct1, cf1, nt1, nf1, ak0, akT, akF, cdec, cndec, cbeq, cnbeq, ↓reduceIte, beq_self_eq_true, Int.reduceBEq, Int.reduceEq, Bool.and_true, Bool.true_and, Bool.false_and, Bool.and_false, h0]

theorem n22 : ∀ (m : Nat) (a b : Int), b.toNat ≤ m → 0 ≤ a → 0 ≤ b → Or K22n1 [I a, I b] [] = some [ti (Int.gcd a b)] := by
  intro m
  induction m with
  | zero =>
    intro a b hm ha hb
    have : b = 0 := by omega
    subst this
    refine orc_of ?_
    rw [e22n1]
    simp only [gd1, hd1, tl1, dr0, dr1, dr2, dr3, dr4, dr5, dr6, bo1, in1, st1, ls1, le1, pt1, fi1, fb1, fs1, ct1, cf1, nt1, nf1, ak0, akT, akF, cdec, cndec, cbeq, cnbeq, ↓reduceIte, beq_self_eq_true, Int.reduceBEq, Int.reduceEq, Bool.and_true, Bool.true_and, Bool.false_and, Bool.and_false]
    congr 3
    simp; omega
  | succ m ih =>
    intro a b hm ha hb
    by_cases h : b = 0
    · exact (by subst h; refine orc_of ?_; rw [e22n1]; simp only [gd1, hd1, tl1, dr0, dr1, dr2, dr3, dr4, dr5, dr6, bo1, in1, st1, ls1, le1, pt1, fi1, fb1, fs1, ct1, cf1, nt1, nf1, ak0, akT, akF, cdec, cndec, cbeq, cnbeq, ↓reduceIte, beq_self_eq_true, Int.reduceBEq, Int.reduceEq, Bool.and_true, Bool.true_and, Bool.false_and, Bool.and_false]; congr 3; simp; omega)
    · refine orc_of ?_
      rw [e22n1]
      have h1 := Int.emod_nonneg a h
      have h2 := Int.emod_lt_of_pos a (b := b) (by omega)
      have := ih b (a % b) (by omega) hb h1
      rw [gcd_rec] at this
      simp only [gd1, hd1, tl1, dr0, dr1, dr2, dr3, dr4, dr5, dr6, bo1, in1, st1, ls1, le1, pt1, fi1, fb1, fs1, ct1, cf1, nt1, nf1, ak0, akT, akF, cdec, cndec, cbeq, cnbeq, ↓reduceIte, beq_self_eq_true, Int.reduceBEq, Int.reduceEq, Bool.and_true, Bool.true_and, Bool.false_and, Bool.and_false, h, Int.tmod_eq_emod_of_nonneg ha, this]
theorem s22 (a b : Int) (ha : 0 ≤ a) (hb : 0 ≤ b) : Or (.call 22) [I a, I b] [] = some [ti (Int.gcd a b)] := by
  refine orc_of ?_
  rw [e22]
  exact n22 b.toNat a b (Nat.le_refl _) ha hb

theorem n24 (a0 b0 : Int) (hb0 : 1 ≤ b0 ∧ b0 ≤ 1000000) : ∀ (m : Nat) (a b s X Y : Int), b.toNat ≤ m → 0 ≤ a → a ≤ 1000000 → 0 ≤ b → b ≤ 1000000 → (s = 1 ∨ s = -1) →
    0 ≤ X → 0 ≤ Y → X ≤ b0 → Y ≤ b0 → X * b + Y * a = b0 → b0 ∣ a0 * (s * X) - a → b0 ∣ a0 * (-s * Y) - b →
    ∃ r, Or K24n2 [I a, I b, I (s * X), I (-s * Y)] [] = some [ti (Int.gcd a b), ti r] ∧ b0 ∣ a0 * r - (Int.gcd a b : Int) ∧ -b0 ≤ r ∧ r ≤ b0 := by
  intro m
  have fin : ∀ (a s X Y : Int), 0 ≤ a → (s = 1 ∨ s = -1) → 0 ≤ X → X ≤ b0 → b0 ∣ a0 * (s * X) - a →
      ∃ r, Or K24n2 [I a, I 0, I (s * X), I (-s * Y)] [] = some [ti (Int.gcd a 0), ti r] ∧ b0 ∣ a0 * r - (Int.gcd a 0 : Int) ∧ -b0 ≤ r ∧ r ≤ b0 := by
    intro a s X Y ha hs hX hXb d1
    have e : (Int.gcd a 0 : Int) = a := by simp; omega
    rw [e]
    refine ⟨s * X, orc_of ?_, d1, ?_, ?_⟩
    · rw [e24n2]; simp only [gd1, hd1, tl1, dr0, dr1, dr2, dr3, dr4, dr5, dr6, bo1, in1, st1, ls1, le1, pt1, fi1, fb1, fs1, ct1, cf1, nt1, nf1, ak0, akT, akF, cdec, cndec, cbeq, cnbeq, ↓reduceIte, beq_self_eq_true, Int.reduceBEq, Int.reduceEq, Bool.and_true, Bool.true_and, Bool.false_and, Bool.and_false]
    · rcases hs with rfl | rfl <;> omega
    · rcases hs with rfl | rfl <;> omega
  induction m with
  | zero =>
    intro a b s X Y hm ha ha' hb hb' hs hX hY hXb hYb hXY d1 d2
    have : b = 0 := by omega
    subst this
    exact fin a s X Y ha hs hX hXb d1
  | succ m ih =>
    intro a b s X Y hm ha ha' hb hb' hs hX hY hXb hYb hXY d1 d2
    by_cases h : b = 0
    · subst h
      exact fin a s X Y ha hs hX hXb d1
    · have h1 := Int.emod_nonneg a h
      have h2 := Int.emod_lt_of_pos a (b := b) (by omega)
      have hq0 : 0 ≤ a / b := Int.ediv_nonneg ha hb
      have hq1 : a / b ≤ a := Int.ediv_le_self b ha
      have hqb : a / b * b ≤ a := Int.ediv_mul_le a h
      have hmod : a - a / b * b = a % b := by rw [Int.emod_def, Int.mul_comm]
      have hqb0 : 0 ≤ a / b * b := Int.mul_nonneg hq0 hb
      have hqY : 0 ≤ a / b * Y := Int.mul_nonneg hq0 hY
      have e1 : Y * (a % b) + (X + a / b * Y) * b = b0 := by
        rw [← hmod, ← hXY, Int.mul_sub, Int.add_mul]
        have : Y * (a / b * b) = a / b * Y * b := by rw [← Int.mul_assoc, Int.mul_comm Y]
        omega
      have hY' : X + a / b * Y ≤ b0 := by
        have g1 : (X + a / b * Y) * 1 ≤ (X + a / b * Y) * b := Int.mul_le_mul_of_nonneg_left (by omega) (by omega)
        have g2 : 0 ≤ Y * (a % b) := Int.mul_nonneg hY h1
        omega
      have e2 : s * X - a / b * (-s * Y) = - -s * (X + a / b * Y) := by
        rcases hs with rfl | rfl
        · simp [Int.mul_neg]
        · simp [Int.mul_add]; omega
      have d3 : b0 ∣ a0 * (- -s * (X + a / b * Y)) - a % b := by
        have e : a0 * (- -s * (X + a / b * Y)) - a % b = (a0 * (s * X) - a) - a / b * (a0 * (-s * Y) - b) := by
          rw [← e2, ← hmod, Int.mul_sub, Int.mul_sub]
          have : a0 * (a / b * (-s * Y)) = a / b * (a0 * (-s * Y)) := by rw [← Int.mul_assoc, Int.mul_comm a0, Int.mul_assoc]
          omega
        rw [e]
        exact Int.dvd_sub d1 (Int.dvd_mul_of_dvd_right d2)
      obtain ⟨r, g1, g2, g3⟩ := ih b (a % b) (-s) Y (X + a / b * Y) (by omega) hb hb' h1 (by omega) (by omega) hY (by omega) hYb hY' e1 d2 d3
      rw [gcd_rec] at g1 g2
      refine ⟨r, orc_of ?_, g2, g3⟩
      rw [e24n2]
      have w1 : IntKind.i64.wrap (a.tdiv b) = a / b := by
        rw [Int.tdiv_eq_ediv_of_nonneg ha, wr (by omega)]
      have w2 : IntKind.i64.wrap (a / b * b) = a / b * b := wr (by omega)
      have w3 : IntKind.i64.wrap (a - a / b * b) = a % b := by rw [hmod, wr (by omega)]
      have w4 : IntKind.i64.wrap (a / b * (-s * Y)) = a / b * (-s * Y) := by
        refine wr ?_
        rcases hs with rfl | rfl
        · simp [Int.mul_neg]; omega
        · simp; omega
      have w5 : IntKind.i64.wrap (s * X - a / b * (-s * Y)) = - -s * (X + a / b * Y) := by
        rw [e2]
        refine wr ?_
        rcases hs with rfl | rfl
        · simp; omega
        · simp [Int.mul_add]; omega
      simp only [gd1, hd1, tl1, dr0, dr1, dr2, dr3, dr4, dr5, dr6, bo1, in1, st1, ls1, le1, pt1, fi1, fb1, fs1, ct1, cf1, nt1, nf1, ak0, akT, akF, cdec, cndec, cbeq, cnbeq, ↓reduceIte, beq_self_eq_true, Int.reduceBEq, Int.reduceEq, Bool.and_true, Bool.true_and, Bool.false_and, Bool.and_false, h, w1, w2, w3, w4, w5]
      exact g1
theorem s24 (a b : Int) (ha : 0 ≤ a ∧ a ≤ 1000000) (hb : 1 ≤ b ∧ b ≤ 1000000) :
    ∃ r, Or (.call 24) [I a, I b] [] = some [ti (Int.gcd a b), ti r] ∧ b ∣ a * r - (Int.gcd a b : Int) ∧ -b ≤ r ∧ r ≤ b := by
  obtain ⟨r, g1, g2⟩ := n24 a b hb b.toNat a b 1 1 0 (Nat.le_refl _) ha.1 ha.2 (by omega) hb.2 (.inl rfl) (by omega) (by omega) (by omega) (by omega) (by omega) (by simp) (by simp)
  refine ⟨r, orc_of ?_, g2⟩
  rw [e24]
  exact g1

/-! ### Two classes -/
theorem lcm_bound {n o m p : Int} (ha : Ok n o) (hb : Ok m p) : 0 < (Int.lcm o p : Int) ∧ (Int.lcm o p : Int) ≤ 1000000000000 := by
  obtain ⟨a1, a2, a3, a4⟩ := ha
  obtain ⟨b1, b2, b3, b4⟩ := hb
  refine ⟨lcm_pos (by omega) (by omega), ?_⟩
  rw [← lcm_div (by omega) (by omega)]
  have hg := gcd_pos (a := o) (b := p) (by omega)
  have h1 : p / (Int.gcd o p : Int) ≤ p := Int.ediv_le_self _ (by omega)
  have h2 : 0 ≤ p / (Int.gcd o p : Int) := Int.ediv_nonneg (by omega) (by omega)
  have := Int.mul_le_mul a2 (show p / (Int.gcd o p : Int) ≤ 1000000 by omega) h2 (by omega)
  omega
/-- What is found is the number of both. -/
theorem found {n o m p x : Int} (ha : Ok n o) (hb : Ok m p) (hd : (Int.gcd o p : Int) ∣ m - n) (hx : p ∣ o * x - (Int.gcd o p : Int)) :
    ∃ k, k = ((m - n) / (Int.gcd o p : Int) % (p / (Int.gcd o p : Int)) * (x % (p / (Int.gcd o p : Int)))) % (p / (Int.gcd o p : Int)) ∧ 0 ≤ k ∧ k < p / (Int.gcd o p : Int) ∧
      crt n o m p = n + k * o ∧ Meet n o m p (n + k * o) ∧ 0 ≤ n + k * o ∧ n + k * o < (Int.lcm o p : Int) ∧ 0 ≤ k * o := by
  obtain ⟨a1, a2, a3, a4⟩ := ha
  obtain ⟨b1, b2, b3, b4⟩ := hb
  have hg := gcd_pos (a := o) (b := p) (by omega)
  have hp : 0 < p / (Int.gcd o p : Int) := by
    obtain ⟨q, hq⟩ := Int.gcd_dvd_right o p
    generalize (Int.gcd o p : Int) = g at *
    rw [hq, Int.mul_ediv_cancel_left _ (by omega)]
    rcases Int.lt_or_le 0 q with h | h
    · exact h
    · have := Int.mul_nonpos_of_nonneg_of_nonpos (Int.le_of_lt hg) h; omega
  have h := meet_found (k := _) (by omega) (by omega) hd hx rfl
  have l1 := lcm_div (o := o) (p := p) (by omega) (by omega)
  generalize hk : ((m - n) / (Int.gcd o p : Int) % (p / (Int.gcd o p : Int)) * (x % (p / (Int.gcd o p : Int)))) % (p / (Int.gcd o p : Int)) = k at h
  have k1 : 0 ≤ k := by rw [← hk]; exact Int.emod_nonneg _ (by omega)
  have k2 : k < p / (Int.gcd o p : Int) := by rw [← hk]; exact Int.emod_lt_of_pos _ hp
  have k3 : 0 ≤ k * o := Int.mul_nonneg k1 (by omega)
  have k4 : (k + 1) * o ≤ (Int.lcm o p : Int) := by
    rw [← l1, Int.mul_comm o]
    exact Int.mul_le_mul_of_nonneg_right (by omega) (by omega)
  rw [Int.add_mul] at k4
  exact ⟨k, rfl, k1, k2, crt_eq h ⟨by omega, by omega⟩, h, by omega, by omega, k3⟩
theorem s21T (n o m p : Int) (ha : Ok n o) (hb : Ok m p) (hd : (Int.gcd o p : Int) ∣ m - n) :
    Or (.call 21) [AV.agg [I n, I o], AV.agg [I m, I p]] [] = some [ti (crt n o m p), ti (Int.lcm o p), tb true] := by
  obtain ⟨x, h24, hx, hx1, hx2⟩ := s24 o p ⟨by have := ha.1; omega, ha.2.1⟩ ⟨hb.1, hb.2.1⟩
  obtain ⟨k, hk, k1, k2, hc, _, k5, k6, k7⟩ := found ha hb hd hx
  obtain ⟨l1, l2⟩ := lcm_bound ha hb
  obtain ⟨a1, a2, a3, a4⟩ := ha
  obtain ⟨b1, b2, b3, b4⟩ := hb
  have hg := gcd_pos (a := o) (b := p) (by omega)
  have e1 := lcm_div (o := o) (p := p) (by omega) (by omega)
  have hpd := Int.gcd_dvd_right o p
  have hpb : p / (Int.gcd o p : Int) ≤ p := Int.ediv_le_self _ (by omega)
  have hdb : -1000000 ≤ (m - n) / (Int.gcd o p : Int) ∧ (m - n) / (Int.gcd o p : Int) ≤ 1000000 := by
    obtain ⟨q, hq⟩ := hd
    rw [hq, Int.mul_ediv_cancel_left _ (by omega)]
    exact mul_bound (g := (Int.gcd o p : Int)) (by omega) (by omega) (by omega)
  refine orc_of ?_
  rw [e21]
  have w1 : IntKind.i64.wrap (m - n) = m - n := wr (by omega)
  have hz : (m - n).tmod (Int.gcd o p : Int) = 0 := tmod_zero.2 hd
  have w2 : IntKind.i64.wrap ((m - n).tdiv (Int.gcd o p : Int)) = (m - n) / (Int.gcd o p : Int) := by rw [tdiv_of_dvd hd, wr (by omega)]
  have w3 : IntKind.i64.wrap (p.tdiv (Int.gcd o p : Int)) = p / (Int.gcd o p : Int) := by rw [tdiv_of_dvd hpd, wr (by omega)]
  have hg0 : ¬ (Int.gcd o p : Int) = 0 := by omega
  have c1 := s25 ((m - n) / (Int.gcd o p : Int)) (p / (Int.gcd o p : Int)) ⟨by omega, by omega⟩
  have c2 := s25 x (p / (Int.gcd o p : Int)) ⟨by omega, by omega⟩
  have b5 := Int.emod_nonneg ((m - n) / (Int.gcd o p : Int)) (b := p / (Int.gcd o p : Int)) (by omega)
  have b6 := Int.emod_lt_of_pos ((m - n) / (Int.gcd o p : Int)) (b := p / (Int.gcd o p : Int)) (by omega)
  have b7 := Int.emod_nonneg x (b := p / (Int.gcd o p : Int)) (by omega)
  have b8 := Int.emod_lt_of_pos x (b := p / (Int.gcd o p : Int)) (by omega)
  have b9 := Int.mul_nonneg b5 b7
  have b10 := Int.mul_le_mul (show (m - n) / (Int.gcd o p : Int) % (p / (Int.gcd o p : Int)) ≤ 1000000 by omega) (show x % (p / (Int.gcd o p : Int)) ≤ 1000000 by omega) b7 (by omega)
  have c3 := s25 ((m - n) / (Int.gcd o p : Int) % (p / (Int.gcd o p : Int)) * (x % (p / (Int.gcd o p : Int)))) (p / (Int.gcd o p : Int)) ⟨by omega, by omega⟩
  rw [← hk] at c3
  have w4 : IntKind.i64.wrap ((m - n) / (Int.gcd o p : Int) % (p / (Int.gcd o p : Int)) * (x % (p / (Int.gcd o p : Int)))) = (m - n) / (Int.gcd o p : Int) % (p / (Int.gcd o p : Int)) * (x % (p / (Int.gcd o p : Int))) := wr (by omega)
  have w5 : IntKind.i64.wrap (k * o) = k * o := wr (by omega)
  have w6 : IntKind.i64.wrap (n + k * o) = n + k * o := wr (by omega)
  have w7 : IntKind.i64.wrap (Int.lcm o p : Int) = (Int.lcm o p : Int) := wr (by omega)
  simp only [gd1, hd1, tl1, dr0, dr1, dr2, dr3, dr4, dr5, dr6, bo1, in1, st1, ls1, le1, pt1, fi1, fb1, fs1, ct1, cf1, nt1, nf1, ak0, akT, akF, cdec, cndec, cbeq, cnbeq, ↓reduceIte, beq_self_eq_true, Int.reduceBEq, Int.reduceEq, Bool.and_true, Bool.true_and, Bool.false_and, Bool.and_false, h24, w1, w2, w3, w4, w5, w6, w7, hz, hg0, c1, c2, c3, e1, hc]
theorem s21F (n o m p : Int) (ha : Ok n o) (hb : Ok m p) (hd : ¬ (Int.gcd o p : Int) ∣ m - n) :
    Or (.call 21) [AV.agg [I n, I o], AV.agg [I m, I p]] [] = some [ti 0, ti 0, tb false] := by
  obtain ⟨x, h24, hx, hx1, hx2⟩ := s24 o p ⟨by have := ha.1; omega, ha.2.1⟩ ⟨hb.1, hb.2.1⟩
  obtain ⟨a1, a2, a3, a4⟩ := ha
  obtain ⟨b1, b2, b3, b4⟩ := hb
  have hg := gcd_pos (a := o) (b := p) (by omega)
  refine orc_of ?_
  rw [e21]
  have w1 : IntKind.i64.wrap (m - n) = m - n := wr (by omega)
  have hz : ¬ (m - n).tmod (Int.gcd o p : Int) = 0 := fun h => hd (tmod_zero.1 h)
  have hg0 : ¬ (Int.gcd o p : Int) = 0 := by omega
  simp only [gd1, hd1, tl1, dr0, dr1, dr2, dr3, dr4, dr5, dr6, bo1, in1, st1, ls1, le1, pt1, fi1, fb1, fs1, ct1, cf1, nt1, nf1, ak0, akT, akF, cdec, cndec, cbeq, cnbeq, ↓reduceIte, beq_self_eq_true, Int.reduceBEq, Int.reduceEq, Bool.and_true, Bool.true_and, Bool.false_and, Bool.and_false, h24, w1, hz, hg0]

/-- What the program tells of two classes. -/
noncomputable def joinF (n o m p : Int) : List T :=
  if ¬ Ok n o then [ti 0, ti 0, ti 3, ti 0]
  else if ¬ Ok m p then [ti 0, ti 0, ti 3, ti 1]
  else if ¬ (Int.gcd o p : Int) ∣ m - n then [ti 0, ti 0, ti 6, ti 0]
  else if (Int.lcm o p : Int) > 1000000 then [ti 0, ti 0, ti 10, ti 0]
  else [ti (crt n o m p), ti (Int.lcm o p), ti 0, ti 0]
theorem s9 (n o m p : Int) : Or (.call 9) [AV.agg [I n, I o], AV.agg [I m, I p]] [] = some (joinF n o m p) := by
  refine orc_of ?_
  rw [e9]
  unfold joinF
  by_cases ha : Ok n o
  · by_cases hb : Ok m p
    · by_cases hd : (Int.gcd o p : Int) ∣ m - n
      · by_cases hl : (Int.lcm o p : Int) > 1000000
        · simp only [gd1, hd1, tl1, dr0, dr1, dr2, dr3, dr4, dr5, dr6, bo1, in1, st1, ls1, le1, pt1, fi1, fb1, fs1, ct1, cf1, nt1, nf1, ak0, akT, akF, cdec, cndec, cbeq, cnbeq, ↓reduceIte, beq_self_eq_true, Int.reduceBEq, Int.reduceEq, Bool.and_true, Bool.true_and, Bool.false_and, Bool.and_false, s20, ha, hb, hd, hl, s21T n o m p ha hb hd, not_true_eq_false, decide_true]
        · simp only [gd1, hd1, tl1, dr0, dr1, dr2, dr3, dr4, dr5, dr6, bo1, in1, st1, ls1, le1, pt1, fi1, fb1, fs1, ct1, cf1, nt1, nf1, ak0, akT, akF, cdec, cndec, cbeq, cnbeq, ↓reduceIte, beq_self_eq_true, Int.reduceBEq, Int.reduceEq, Bool.and_true, Bool.true_and, Bool.false_and, Bool.and_false, s20, ha, hb, hd, hl, s21T n o m p ha hb hd, not_true_eq_false, decide_true]
      · simp only [gd1, hd1, tl1, dr0, dr1, dr2, dr3, dr4, dr5, dr6, bo1, in1, st1, ls1, le1, pt1, fi1, fb1, fs1, ct1, cf1, nt1, nf1, ak0, akT, akF, cdec, cndec, cbeq, cnbeq, ↓reduceIte, beq_self_eq_true, Int.reduceBEq, Int.reduceEq, Bool.and_true, Bool.true_and, Bool.false_and, Bool.and_false, s20, ha, hb, hd, s21F n o m p ha hb hd, not_true_eq_false, not_false_eq_true, decide_true]
    · simp only [gd1, hd1, tl1, dr0, dr1, dr2, dr3, dr4, dr5, dr6, bo1, in1, st1, ls1, le1, pt1, fi1, fb1, fs1, ct1, cf1, nt1, nf1, ak0, akT, akF, cdec, cndec, cbeq, cnbeq, ↓reduceIte, beq_self_eq_true, Int.reduceBEq, Int.reduceEq, Bool.and_true, Bool.true_and, Bool.false_and, Bool.and_false, s20, ha, hb, not_true_eq_false, not_false_eq_true, decide_true, decide_false]
  · simp only [gd1, hd1, tl1, dr0, dr1, dr2, dr3, dr4, dr5, dr6, bo1, in1, st1, ls1, le1, pt1, fi1, fb1, fs1, ct1, cf1, nt1, nf1, ak0, akT, akF, cdec, cndec, cbeq, cnbeq, ↓reduceIte, beq_self_eq_true, Int.reduceBEq, Int.reduceEq, Bool.and_true, Bool.true_and, Bool.false_and, Bool.and_false, s20, ha, not_false_eq_true, decide_false]

/-! ### The document's own way: trying -/
abbrev bx2 (a b : Int) : Blk := Blk.box [I a, I b]
abbrev vals15 (L z k : Int) : List AV := [AV.ref (Id.c 0) 0, AV.ref (Id.c 1) 0, AV.ref (Id.c 2) 0, I L, I z, I k]
theorem step15 (n o m p L k x y : Int) (ha : Ok n o) (hb : Ok m p) (hk : 0 ≤ k ∧ k ≤ p) (res : List T)
    (hit : k < p → (n + k * o) % p = m → res = [ti (n + k * o), ti L, tb true])
    (miss : k < p → (n + k * o) % p ≠ m → Or K15n6 (vals15 L (n + (k + 1) * o) (k + 1)) [bx2 n o, bx2 m p, bx2 x y] = some res)
    (out : k = p → res = [ti 0, ti 0, tb false]) :
    Or K15n6 (vals15 L (n + k * o) k) [bx2 n o, bx2 m p, bx2 x y] = some res := by
  obtain ⟨a1, a2, a3, a4⟩ := ha
  obtain ⟨b1, b2, b3, b4⟩ := hb
  refine orc_of ?_
  rw [e15n6]
  have hp : ¬ p = 0 := by omega
  by_cases h : k < p
  · have g1 : 0 ≤ k * o := Int.mul_nonneg hk.1 (by omega)
    have g2 := Int.mul_le_mul (show k ≤ 1000000 by omega) a2 (by omega) (by omega)
    have e : (n + k * o).tmod p = (n + k * o) % p := Int.tmod_eq_emod_of_nonneg (by omega)
    by_cases h2 : (n + k * o) % p = m
    · simp only [gd1, hd1, tl1, dr0, dr1, dr2, dr3, dr4, dr5, dr6, bo1, in1, st1, ls1, le1, pt1, fi1, fb1, fs1, ct1, cf1, nt1, nf1, ak0, akT, akF, cdec, cndec, cbeq, cnbeq, ↓reduceIte, beq_self_eq_true, Int.reduceBEq, Int.reduceEq, Bool.and_true, Bool.true_and, Bool.false_and, Bool.and_false, h, hp, e, h2, hit h h2]
    · have w1 : IntKind.i64.wrap (n + k * o + o) = n + (k + 1) * o := by
        rw [wr (by omega), Int.add_mul]; omega
      have w2 : IntKind.i64.wrap (k + 1) = k + 1 := wr (by omega)
      simp only [gd1, hd1, tl1, dr0, dr1, dr2, dr3, dr4, dr5, dr6, bo1, in1, st1, ls1, le1, pt1, fi1, fb1, fs1, ct1, cf1, nt1, nf1, ak0, akT, akF, cdec, cndec, cbeq, cnbeq, ↓reduceIte, beq_self_eq_true, Int.reduceBEq, Int.reduceEq, Bool.and_true, Bool.true_and, Bool.false_and, Bool.and_false, h, hp, e, h2, w1, w2, miss h h2]
  · simp only [gd1, hd1, tl1, dr0, dr1, dr2, dr3, dr4, dr5, dr6, bo1, in1, st1, ls1, le1, pt1, fi1, fb1, fs1, ct1, cf1, nt1, nf1, ak0, akT, akF, cdec, cndec, cbeq, cnbeq, ↓reduceIte, beq_self_eq_true, Int.reduceBEq, Int.reduceEq, Bool.and_true, Bool.true_and, Bool.false_and, Bool.and_false, h, out (by omega)]
theorem n15F (n o m p L x y : Int) (ha : Ok n o) (hb : Ok m p) : ∀ (c : Nat) (k : Int), (p - k).toNat = c → 0 ≤ k → k ≤ p → (∀ j, k ≤ j → j < p → (n + j * o) % p ≠ m) →
    Or K15n6 (vals15 L (n + k * o) k) [bx2 n o, bx2 m p, bx2 x y] = some [ti 0, ti 0, tb false] := by
  intro c
  induction c with
  | zero =>
    intro k hc h0 h1 hn
    exact step15 n o m p L k x y ha hb ⟨h0, h1⟩ _ (fun h => by omega) (fun h => by omega) (fun _ => rfl)
  | succ c ih =>
    intro k hc h0 h1 hn
    exact step15 n o m p L k x y ha hb ⟨h0, h1⟩ _ (fun h e => (hn k (by omega) h e).elim) (fun h _ => ih (k + 1) (by omega) (by omega) (by omega) fun j hj => hn j (by omega)) (fun _ => rfl)
theorem n15T (n o m p L x y J : Int) (ha : Ok n o) (hb : Ok m p) (hJ : (n + J * o) % p = m) : ∀ (c : Nat) (k : Int), (J - k).toNat = c → 0 ≤ k → k ≤ J → J < p → (∀ j, k ≤ j → j < J → (n + j * o) % p ≠ m) →
    Or K15n6 (vals15 L (n + k * o) k) [bx2 n o, bx2 m p, bx2 x y] = some [ti (n + J * o), ti L, tb true] := by
  intro c
  induction c with
  | zero =>
    intro k hc h0 h1 hp hn
    have : k = J := by omega
    subst this
    exact step15 n o m p L k x y ha hb ⟨h0, by omega⟩ _ (fun h _ => rfl) (fun h e => (e hJ).elim) (fun h => by omega)
  | succ c ih =>
    intro k hc h0 h1 hp hn
    exact step15 n o m p L k x y ha hb ⟨h0, by omega⟩ _ (fun h e => (hn k (by omega) (by omega) e).elim) (fun h _ => ih (k + 1) (by omega) (by omega) (by omega) hp fun j hj => hn j (by omega)) (fun h => by omega)
theorem meet_of_mod {n o m p j : Int} (hb : Ok m p) : (n + j * o) % p = m ↔ Meet n o m p (n + j * o) := by
  obtain ⟨b1, b2, b3, b4⟩ := hb
  rw [emod_iff ⟨b3, b4⟩]
  refine ⟨fun h => ⟨⟨j, by rw [Int.mul_comm]; omega⟩, h⟩, fun h => h.2⟩
theorem n15 (n o m p x y : Int) (ha : Ok n o) (hb : Ok m p) :
    Or K15n6 (vals15 (Int.lcm o p) n 0) [bx2 n o, bx2 m p, bx2 x y] =
      some (if (Int.gcd o p : Int) ∣ m - n then [ti (crt n o m p), ti (Int.lcm o p), tb true] else [ti 0, ti 0, tb false]) := by
  have z0 : n + 0 * o = n := by omega
  by_cases hd : (Int.gcd o p : Int) ∣ m - n
  · obtain ⟨x', h24, hx, hx1, hx2⟩ := s24 o p ⟨by have := ha.1; omega, ha.2.1⟩ ⟨hb.1, hb.2.1⟩
    obtain ⟨k, hk, k1, k2, hc, k4, k5, k6, k7⟩ := found ha hb hd hx
    rw [if_pos hd, hc]
    have hkp : k < p := by
      have hg := gcd_pos (a := o) (b := p) (by have := hb.1; omega)
      have := Int.ediv_le_self (Int.gcd o p : Int) (show 0 ≤ p by have := hb.1; omega)
      omega
    have := n15T n o m p (Int.lcm o p) x y k ha hb ((meet_of_mod hb).2 k4) k.toNat 0 (by omega) (by omega) (by omega) hkp (fun j hj hjk e => ?_)
    · rw [z0] at this; exact this
    · have ho : 1 ≤ o := ha.1
      have m1 := (meet_of_mod hb).1 e
      have g1 : 0 ≤ j * o := Int.mul_nonneg hj (by omega)
      have g2 : (j + 1) * o ≤ k * o := Int.mul_le_mul_of_nonneg_right (by omega) (by omega)
      rw [Int.add_mul] at g2
      have hn := ha.2.2.1
      have := meet_unique m1 k4 ⟨by omega, by omega⟩ ⟨k5, k6⟩
      omega
  · rw [if_neg hd]
    have := n15F n o m p (Int.lcm o p) x y ha hb p.toNat 0 (by omega) (by omega) (by have := hb.1; omega) (fun j hj hjp e => ?_)
    · rw [z0] at this; exact this
    · exact hd (meet_dvd ((meet_of_mod hb).1 e))
theorem crt_symm (n o m p : Int) : crt n o m p = crt m p n o := by
  by_cases hex : ∃ z, (0 ≤ z ∧ z < (Int.lcm o p : Int)) ∧ Meet n o m p z
  · obtain ⟨z, h1, h2⟩ := hex
    rw [crt_eq h2 h1, crt_eq h2.symm (by rw [Int.lcm_comm]; exact h1)]
  · have hex' : ¬ ∃ z, (0 ≤ z ∧ z < (Int.lcm p o : Int)) ∧ Meet m p n o z := fun ⟨z, h1, h2⟩ => hex ⟨z, by rw [Int.lcm_comm]; exact h1, h2.symm⟩
    unfold crt
    rw [dif_neg hex, dif_neg hex']
theorem s15 (n o m p : Int) (ha : Ok n o) (hb : Ok m p) : Or (.call 15) [AV.agg [I n, I o], AV.agg [I m, I p]] [] =
      some (if (Int.gcd o p : Int) ∣ m - n then [ti (crt n o m p), ti (Int.lcm o p), tb true] else [ti 0, ti 0, tb false]) := by
  have ho : 1 ≤ o := ha.1
  have hp : 1 ≤ p := hb.1
  have l := lcm_bound ha hb
  refine orc_of ?_
  rw [e15]
  by_cases h : o < p
  · have hg := gcd_pos (a := p) (b := o) (by omega)
    have hg0 : ¬ (Int.gcd p o : Int) = 0 := by omega
    have e1 : IntKind.i64.wrap (p.tdiv (Int.gcd p o : Int)) = p / (Int.gcd p o : Int) := by
      have := Int.ediv_le_self (Int.gcd p o : Int) (show 0 ≤ p by omega)
      have := Int.ediv_nonneg (show 0 ≤ p by omega) (show 0 ≤ (Int.gcd p o : Int) by omega)
      have := hb.2.1
      rw [tdiv_of_dvd (Int.gcd_dvd_left p o), wr (by omega)]
    have e2 : IntKind.i64.wrap (p / (Int.gcd p o : Int) * o) = (Int.lcm p o : Int) := by
      rw [lcm_div' (by omega) (by omega), wr (by rw [Int.lcm_comm]; omega)]
    have e3 : ((Int.gcd o p : Int) ∣ m - n) = ((Int.gcd p o : Int) ∣ n - m) := by
      rw [Int.gcd_comm]
      refine propext ⟨fun h => ?_, fun h => ?_⟩ <;> (have := Int.dvd_neg.2 h; rwa [Int.neg_sub] at this)
    have := n15 m p n o 0 0 hb ha
    rw [Int.lcm_comm o p, crt_symm n o m p]
    simp only [gd1, hd1, tl1, dr0, dr1, dr2, dr3, dr4, dr5, dr6, bo1, in1, st1, ls1, le1, pt1, fi1, fb1, fs1, ct1, cf1, nt1, nf1, ak0, akT, akF, cdec, cndec, cbeq, cnbeq, ↓reduceIte, beq_self_eq_true, Int.reduceBEq, Int.reduceEq, Bool.and_true, Bool.true_and, Bool.false_and, Bool.and_false, h, s22 p o (by omega) (by omega), hg0, e1, e2, e3, this]
  · have hg := gcd_pos (a := o) (b := p) (by omega)
    have hg0 : ¬ (Int.gcd o p : Int) = 0 := by omega
    have e1 : IntKind.i64.wrap (o.tdiv (Int.gcd o p : Int)) = o / (Int.gcd o p : Int) := by
      have := Int.ediv_le_self (Int.gcd o p : Int) (show 0 ≤ o by omega)
      have := Int.ediv_nonneg (show 0 ≤ o by omega) (show 0 ≤ (Int.gcd o p : Int) by omega)
      have := ha.2.1
      rw [tdiv_of_dvd (Int.gcd_dvd_left o p), wr (by omega)]
    have e2 : IntKind.i64.wrap (o / (Int.gcd o p : Int) * p) = (Int.lcm o p : Int) := by
      rw [lcm_div' (by omega) (by omega), wr (by omega)]
    have := n15 n o m p 0 0 ha hb
    simp only [gd1, hd1, tl1, dr0, dr1, dr2, dr3, dr4, dr5, dr6, bo1, in1, st1, ls1, le1, pt1, fi1, fb1, fs1, ct1, cf1, nt1, nf1, ak0, akT, akF, cdec, cndec, cbeq, cnbeq, ↓reduceIte, beq_self_eq_true, Int.reduceBEq, Int.reduceEq, Bool.and_true, Bool.true_and, Bool.false_and, Bool.and_false, h, s22 o p (by omega) (by omega), hg0, e1, e2, this]
end Go.Aev.Gen
