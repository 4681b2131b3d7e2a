/-
  The laws of rests hold: as the evaluator reads them.
-/
import Derived.Test.YtnfdhfmfcpbepaaRRef
set_option linter.unusedSimpArgs false
set_option linter.unusedVariables false
namespace Go.Aev.Gen
open Go Go.Aev Go.Num

theorem s11 : Or (.call 11) [] [] = some [tb true] := orc_of_N (n := 60) (by kernel_rfl)

/-! ### RestSolves -/
theorem law4 (a b m : Int) : Or (.call 4) [I a, I b, I m] [] = some [tb true] := by
  refine orc_of ?_
  rw [e4]
  have hmm : (bif decide (m < 1) then true else decide (m > 1000000)) = decide (¬ InM m) := by
    rw [cor, ← Bool.decide_or]
    refine decide_eq_decide.2 ?_
    unfold InM; omega
  rw [hmm]
  have s := s16 a b m
  unfold solveF at s
  by_cases hm : InM m
  · by_cases ha : Fits a
    · by_cases hb : Fits b
      · have h0 : 0 < m := by have := hm.1; omega
        have m2 : m ≤ 1000000 := hm.2
        have t := s18 a b m ha hb hm
        by_cases hd : (Int.gcd a m : Int) ∣ b
        · obtain ⟨⟨s1, s2⟩, s3⟩ := sol_spec hm hd
          obtain ⟨p1, p2⟩ := part_pos (a := a) h0
          have v := s13 (sol a b m) (m / (Int.gcd a m : Int))
          rw [show decide (Ok (sol a b m) (m / (Int.gcd a m : Int))) = true from decide_eq_true ⟨by omega, by omega, s1, s2⟩] at v
          have fm := fits_mul ha (k := sol a b m) ⟨by omega, by omega⟩
          have b1 : -1000000 ≤ b := hb.1
          have b2 : b ≤ 1000000 := hb.2
          have w1 : IntKind.i64.wrap (a * sol a b m) = a * sol a b m := wr (by omega)
          have w2 : IntKind.i64.wrap (a * sol a b m - b) = a * sol a b m - b := wr (by omega)
          have hz : (a * sol a b m - b).tmod m = 0 := tmod_zero.2 s3
          have hm0 : ¬ m = 0 := by omega
          simp only [hm, ha, hb, hd, not_true_eq_false, ↓reduceIte] at s t
          by_cases h3 : m > 3000
          · simp only [gd1, hd1, tl1, dr0, dr1, dr2, dr3, dr4, dr5, dr6, bo1, in1, st1, ls1, le1, pt1, fi1, fb1, fs1, ct1, cf1, nt1, nf1, ak0, akT, akF, cdec, cndec, cbeq, cnbeq, ↓reduceIte, beq_self_eq_true, Int.reduceBEq, Int.reduceEq, Bool.and_true, Bool.true_and, Bool.false_and, Bool.and_false, s, s11, s17, hm, ha, hb, not_true_eq_false, decide_true, decide_false, h3, v, hm0, w1, w2, hz]
          · simp only [gd1, hd1, tl1, dr0, dr1, dr2, dr3, dr4, dr5, dr6, bo1, in1, st1, ls1, le1, pt1, fi1, fb1, fs1, ct1, cf1, nt1, nf1, ak0, akT, akF, cdec, cndec, cbeq, cnbeq, ↓reduceIte, beq_self_eq_true, Int.reduceBEq, Int.reduceEq, Bool.and_true, Bool.true_and, Bool.false_and, Bool.and_false, s, s11, s17, hm, ha, hb, not_true_eq_false, decide_true, decide_false, h3, t]
        · simp only [hm, ha, hb, hd, not_true_eq_false, not_false_eq_true, ↓reduceIte] at s t
          by_cases h3 : m > 3000
          · simp only [gd1, hd1, tl1, dr0, dr1, dr2, dr3, dr4, dr5, dr6, bo1, in1, st1, ls1, le1, pt1, fi1, fb1, fs1, ct1, cf1, nt1, nf1, ak0, akT, akF, cdec, cndec, cbeq, cnbeq, ↓reduceIte, beq_self_eq_true, Int.reduceBEq, Int.reduceEq, Bool.and_true, Bool.true_and, Bool.false_and, Bool.and_false, s, s11, s17, s13, hm, ha, hb, not_true_eq_false, decide_true, decide_false, h3, gdF]
          · simp only [gd1, hd1, tl1, dr0, dr1, dr2, dr3, dr4, dr5, dr6, bo1, in1, st1, ls1, le1, pt1, fi1, fb1, fs1, ct1, cf1, nt1, nf1, ak0, akT, akF, cdec, cndec, cbeq, cnbeq, ↓reduceIte, beq_self_eq_true, Int.reduceBEq, Int.reduceEq, Bool.and_true, Bool.true_and, Bool.false_and, Bool.and_false, s, s11, s17, hm, ha, hb, not_true_eq_false, decide_true, decide_false, h3, t, s14]
      · simp only [hm, ha, hb, not_true_eq_false, not_false_eq_true, ↓reduceIte] at s
        simp only [gd1, hd1, tl1, dr0, dr1, dr2, dr3, dr4, dr5, dr6, bo1, in1, st1, ls1, le1, pt1, fi1, fb1, fs1, ct1, cf1, nt1, nf1, ak0, akT, akF, cdec, cndec, cbeq, cnbeq, ↓reduceIte, beq_self_eq_true, Int.reduceBEq, Int.reduceEq, Bool.and_true, Bool.true_and, Bool.false_and, Bool.and_false, s, s11, s14, s17, hm, ha, hb, not_true_eq_false, decide_true, decide_false]
    · simp only [hm, ha, not_true_eq_false, not_false_eq_true, ↓reduceIte] at s
      simp only [gd1, hd1, tl1, dr0, dr1, dr2, dr3, dr4, dr5, dr6, bo1, in1, st1, ls1, le1, pt1, fi1, fb1, fs1, ct1, cf1, nt1, nf1, ak0, akT, akF, cdec, cndec, cbeq, cnbeq, ↓reduceIte, beq_self_eq_true, Int.reduceBEq, Int.reduceEq, Bool.and_true, Bool.true_and, Bool.false_and, Bool.and_false, s, s11, s14, s17, hm, ha, not_true_eq_false, decide_true, decide_false]
  · simp only [hm, not_false_eq_true, ↓reduceIte] at s
    simp only [gd1, hd1, tl1, dr0, dr1, dr2, dr3, dr4, dr5, dr6, bo1, in1, st1, ls1, le1, pt1, fi1, fb1, fs1, ct1, cf1, nt1, nf1, ak0, akT, akF, cdec, cndec, cbeq, cnbeq, ↓reduceIte, beq_self_eq_true, Int.reduceBEq, Int.reduceEq, Bool.and_true, Bool.true_and, Bool.false_and, Bool.and_false, s, s11, s14, hm, not_false_eq_true, decide_true]

/-! ### RestSolved -/
theorem law8 (a b m n : Int) : Or (.call 8) [I a, I b, I m, I n] [] = some [tb true] := by
  refine orc_of ?_
  rw [e8]
  have s := s16 a b m
  unfold solveF at s
  by_cases hm : InM m
  · by_cases ha : Fits a
    · by_cases hb : Fits b
      · have h0 : 0 < m := by have := hm.1; omega
        have m2 : m ≤ 1000000 := hm.2
        have hm0 : ¬ m = 0 := by omega
        by_cases hn : Fits n
        · have fm : -1000000000000 ≤ a * n ∧ a * n ≤ 1000000000000 := by
            rcases Int.le_total 0 n with g | g
            · exact fits_mul ha ⟨g, hn.2⟩
            · have n1 : -1000000 ≤ n := hn.1
              have := fits_mul ha (k := -n) ⟨by omega, by omega⟩
              rw [Int.mul_neg] at this
              omega
          have b1 : -1000000 ≤ b := hb.1
          have b2 : b ≤ 1000000 := hb.2
          have w1 : IntKind.i64.wrap (a * n) = a * n := wr (by omega)
          have w2 : IntKind.i64.wrap (a * n - b) = a * n - b := wr (by omega)
          by_cases hd : (Int.gcd a m : Int) ∣ b
          · obtain ⟨⟨s1, s2⟩, s3⟩ := sol_spec hm hd
            obtain ⟨p1, p2⟩ := part_pos (a := a) h0
            have v := s13 (sol a b m) (m / (Int.gcd a m : Int))
            rw [show decide (Ok (sol a b m) (m / (Int.gcd a m : Int))) = true from decide_eq_true ⟨by omega, by omega, s1, s2⟩] at v
            have u := s19 n (sol a b m) (m / (Int.gcd a m : Int)) ⟨p1, by omega⟩
            simp only [hm, ha, hb, hd, not_true_eq_false, ↓reduceIte] at s
            have key : ((a * n - b).tmod m == 0) = (n % (m / (Int.gcd a m : Int)) == sol a b m) := by
              rw [Bool.eq_iff_iff]
              simp only [beq_iff_eq]
              rw [tmod_zero, emod_iff ⟨s1, s2⟩]
              exact sol_iff h0 s3
            simp only [gd1, hd1, tl1, dr0, dr1, dr2, dr3, dr4, dr5, dr6, bo1, in1, st1, ls1, le1, pt1, fi1, fb1, fs1, ct1, cf1, nt1, nf1, ak0, akT, akF, cdec, cndec, cbeq, cnbeq, ↓reduceIte, beq_self_eq_true, Int.reduceBEq, Int.reduceEq, Bool.and_true, Bool.true_and, Bool.false_and, Bool.and_false, s, s11, s17, hn, decide_true, v, u, hm0, w1, w2, key]
          · have hz : ((a * n - b).tmod m == 0) = false := by
              have : ¬ (a * n - b).tmod m = 0 := fun h => hd (sol_dvd (tmod_zero.1 h))
              simpa using this
            simp only [hm, ha, hb, hd, not_true_eq_false, not_false_eq_true, ↓reduceIte] at s
            simp only [gd1, hd1, tl1, dr0, dr1, dr2, dr3, dr4, dr5, dr6, bo1, in1, st1, ls1, le1, pt1, fi1, fb1, fs1, ct1, cf1, nt1, nf1, ak0, akT, akF, cdec, cndec, cbeq, cnbeq, ↓reduceIte, beq_self_eq_true, Int.reduceBEq, Int.reduceEq, Bool.and_true, Bool.true_and, Bool.false_and, Bool.and_false, s, s11, s17, hn, decide_true, hm0, w1, w2, hz]
        · by_cases hd : (Int.gcd a m : Int) ∣ b
          · simp only [hm, ha, hb, hd, not_true_eq_false, ↓reduceIte] at s
            simp only [gd1, hd1, tl1, dr0, dr1, dr2, dr3, dr4, dr5, dr6, bo1, in1, st1, ls1, le1, pt1, fi1, fb1, fs1, ct1, cf1, nt1, nf1, ak0, akT, akF, cdec, cndec, cbeq, cnbeq, ↓reduceIte, beq_self_eq_true, Int.reduceBEq, Int.reduceEq, Bool.and_true, Bool.true_and, Bool.false_and, Bool.and_false, s, s11, s17, hn, decide_false]
          · simp only [hm, ha, hb, hd, not_true_eq_false, not_false_eq_true, ↓reduceIte] at s
            simp only [gd1, hd1, tl1, dr0, dr1, dr2, dr3, dr4, dr5, dr6, bo1, in1, st1, ls1, le1, pt1, fi1, fb1, fs1, ct1, cf1, nt1, nf1, ak0, akT, akF, cdec, cndec, cbeq, cnbeq, ↓reduceIte, beq_self_eq_true, Int.reduceBEq, Int.reduceEq, Bool.and_true, Bool.true_and, Bool.false_and, Bool.and_false, s, s11, s17, hn, decide_false]
      · simp only [hm, ha, hb, not_true_eq_false, not_false_eq_true, ↓reduceIte] at s
        simp only [gd1, hd1, tl1, dr0, dr1, dr2, dr3, dr4, dr5, dr6, bo1, in1, st1, ls1, le1, pt1, fi1, fb1, fs1, ct1, cf1, nt1, nf1, ak0, akT, akF, cdec, cndec, cbeq, cnbeq, ↓reduceIte, beq_self_eq_true, Int.reduceBEq, Int.reduceEq, Bool.and_true, Bool.true_and, Bool.false_and, Bool.and_false, s, s11, gdF]
    · simp only [hm, ha, not_true_eq_false, not_false_eq_true, ↓reduceIte] at s
      simp only [gd1, hd1, tl1, dr0, dr1, dr2, dr3, dr4, dr5, dr6, bo1, in1, st1, ls1, le1, pt1, fi1, fb1, fs1, ct1, cf1, nt1, nf1, ak0, akT, akF, cdec, cndec, cbeq, cnbeq, ↓reduceIte, beq_self_eq_true, Int.reduceBEq, Int.reduceEq, Bool.and_true, Bool.true_and, Bool.false_and, Bool.and_false, s, s11, gdF]
  · simp only [hm, not_false_eq_true, ↓reduceIte] at s
    simp only [gd1, hd1, tl1, dr0, dr1, dr2, dr3, dr4, dr5, dr6, bo1, in1, st1, ls1, le1, pt1, fi1, fb1, fs1, ct1, cf1, nt1, nf1, ak0, akT, akF, cdec, cndec, cbeq, cnbeq, ↓reduceIte, beq_self_eq_true, Int.reduceBEq, Int.reduceEq, Bool.and_true, Bool.true_and, Bool.false_and, Bool.and_false, s, s11, gdF]

/-! ### RestIn -/
theorem law5 (n o m p z : Int) : Or (.call 5) [AV.agg [I n, I o], AV.agg [I m, I p], I z] [] = some [tb true] := by
  refine orc_of ?_
  rw [e5]
  have s := s9 n o m p
  unfold joinF at s
  by_cases ha : Ok n o
  · by_cases hb : Ok m p
    · have o1 : 1 ≤ o := ha.1
      have o2 : o ≤ 1000000 := ha.2.1
      have p1 : 1 ≤ p := hb.1
      have p2 : p ≤ 1000000 := hb.2.1
      have u1 := s19 z n o ⟨by omega, by omega⟩
      have u2 := s19 z m p ⟨by omega, by omega⟩
      have k1 : (z % o == n) = decide (o ∣ z - n) := by
        rw [Bool.eq_iff_iff]; simp only [beq_iff_eq, decide_eq_true_eq]; exact emod_iff ⟨ha.2.2.1, ha.2.2.2⟩
      have k2 : (z % p == m) = decide (p ∣ z - m) := by
        rw [Bool.eq_iff_iff]; simp only [beq_iff_eq, decide_eq_true_eq]; exact emod_iff ⟨hb.2.2.1, hb.2.2.2⟩
      rw [k1] at u1
      rw [k2] at u2
      by_cases hd : (Int.gcd o p : Int) ∣ m - n
      · by_cases hl : (Int.lcm o p : Int) > 1000000
        · simp only [ha, hb, hd, hl, not_true_eq_false, ↓reduceIte] at s
          by_cases hz : Fits z
          · simp only [gd1, hd1, tl1, dr0, dr1, dr2, dr3, dr4, dr5, dr6, bo1, in1, st1, ls1, le1, pt1, fi1, fb1, fs1, ct1, cf1, nt1, nf1, ak0, akT, akF, cdec, cndec, cbeq, cnbeq, ↓reduceIte, beq_self_eq_true, Int.reduceBEq, Int.reduceEq, Bool.and_true, Bool.true_and, Bool.false_and, Bool.and_false, s, s11, s17, hz, decide_true, gdF]
          · simp only [gd1, hd1, tl1, dr0, dr1, dr2, dr3, dr4, dr5, dr6, bo1, in1, st1, ls1, le1, pt1, fi1, fb1, fs1, ct1, cf1, nt1, nf1, ak0, akT, akF, cdec, cndec, cbeq, cnbeq, ↓reduceIte, beq_self_eq_true, Int.reduceBEq, Int.reduceEq, Bool.and_true, Bool.true_and, Bool.false_and, Bool.and_false, s, s11, s17, hz, decide_false, gdF]
        · simp only [ha, hb, hd, hl, not_true_eq_false, ↓reduceIte] at s
          obtain ⟨g1, g2, g3⟩ := both_ok (a := (n, o)) (b := (m, p)) ha hb hd hl
          have v := s13 (crt n o m p) (Int.lcm o p : Int)
          rw [show decide (Ok (crt n o m p) (Int.lcm o p : Int)) = true from decide_eq_true g1] at v
          have l1 : 1 ≤ (Int.lcm o p : Int) := g1.1
          have l2 : (Int.lcm o p : Int) ≤ 1000000 := g1.2.1
          have u3 := s19 z (crt n o m p) (Int.lcm o p : Int) ⟨by omega, by omega⟩
          have key : (decide (o ∣ z - n) && decide (p ∣ z - m)) = (z % (Int.lcm o p : Int) == crt n o m p) := by
            rw [Bool.eq_iff_iff]
            simp only [beq_iff_eq, Bool.and_eq_true, decide_eq_true_eq]
            have k3 : z % (Int.lcm o p : Int) = crt n o m p ↔ (Int.lcm o p : Int) ∣ z - crt n o m p := emod_iff ⟨g1.2.2.1, g1.2.2.2⟩
            rw [k3]
            exact meet_iff (n := n) (o := o) (m := m) (p := p) ⟨g2, g3⟩
          by_cases hz : Fits z
          · by_cases h1 : o ∣ z - n
            · rw [decide_eq_true h1] at u1 key
              rw [Bool.true_and] at key
              simp only [gd1, hd1, tl1, dr0, dr1, dr2, dr3, dr4, dr5, dr6, bo1, in1, st1, ls1, le1, pt1, fi1, fb1, fs1, ct1, cf1, nt1, nf1, ak0, akT, akF, cdec, cndec, cbeq, cnbeq, ↓reduceIte, beq_self_eq_true, Int.reduceBEq, Int.reduceEq, Bool.and_true, Bool.true_and, Bool.false_and, Bool.and_false, s, s11, s17, hz, decide_true, u1, u2, v, u3, key]
            · rw [decide_eq_false h1] at u1 key
              rw [Bool.false_and] at key
              simp only [gd1, hd1, tl1, dr0, dr1, dr2, dr3, dr4, dr5, dr6, bo1, in1, st1, ls1, le1, pt1, fi1, fb1, fs1, ct1, cf1, nt1, nf1, ak0, akT, akF, cdec, cndec, cbeq, cnbeq, ↓reduceIte, beq_self_eq_true, Int.reduceBEq, Int.reduceEq, Bool.and_true, Bool.true_and, Bool.false_and, Bool.and_false, s, s11, s17, hz, decide_true, u1, u2, v, u3, ← key, gdF]
          · have hl0 : ((Int.lcm o p : Int) == 0) = false := by
              have : ¬ (Int.lcm o p : Int) = 0 := by omega
              simpa using this
            simp only [gd1, hd1, tl1, dr0, dr1, dr2, dr3, dr4, dr5, dr6, bo1, in1, st1, ls1, le1, pt1, fi1, fb1, fs1, ct1, cf1, nt1, nf1, ak0, akT, akF, cdec, cndec, cbeq, cnbeq, ↓reduceIte, beq_self_eq_true, Int.reduceBEq, Int.reduceEq, Bool.and_true, Bool.true_and, Bool.false_and, Bool.and_false, s, s11, s17, hz, decide_false, hl0]
      · simp only [ha, hb, hd, not_true_eq_false, not_false_eq_true, ↓reduceIte] at s
        by_cases hz : Fits z
        · have key : (decide (o ∣ z - n) && decide (p ∣ z - m)) = false := by
            rw [← Bool.decide_and]
            exact decide_eq_false fun h => hd (meet_dvd (z := z) ⟨h.1, h.2⟩)
          by_cases h1 : o ∣ z - n
          · rw [decide_eq_true h1] at u1 key
            rw [Bool.true_and] at key
            rw [key] at u2
            simp only [gd1, hd1, tl1, dr0, dr1, dr2, dr3, dr4, dr5, dr6, bo1, in1, st1, ls1, le1, pt1, fi1, fb1, fs1, ct1, cf1, nt1, nf1, ak0, akT, akF, cdec, cndec, cbeq, cnbeq, ↓reduceIte, beq_self_eq_true, Int.reduceBEq, Int.reduceEq, Bool.and_true, Bool.true_and, Bool.false_and, Bool.and_false, s, s11, s17, hz, decide_true, u1, u2]
          · rw [decide_eq_false h1] at u1
            simp only [gd1, hd1, tl1, dr0, dr1, dr2, dr3, dr4, dr5, dr6, bo1, in1, st1, ls1, le1, pt1, fi1, fb1, fs1, ct1, cf1, nt1, nf1, ak0, akT, akF, cdec, cndec, cbeq, cnbeq, ↓reduceIte, beq_self_eq_true, Int.reduceBEq, Int.reduceEq, Bool.and_true, Bool.true_and, Bool.false_and, Bool.and_false, s, s11, s17, hz, decide_true, u1, gdF]
        · simp only [gd1, hd1, tl1, dr0, dr1, dr2, dr3, dr4, dr5, dr6, bo1, in1, st1, ls1, le1, pt1, fi1, fb1, fs1, ct1, cf1, nt1, nf1, ak0, akT, akF, cdec, cndec, cbeq, cnbeq, ↓reduceIte, beq_self_eq_true, Int.reduceBEq, Int.reduceEq, Bool.and_true, Bool.true_and, Bool.false_and, Bool.and_false, s, s11, s17, hz, decide_false, gdF]
    · simp only [ha, hb, not_true_eq_false, not_false_eq_true, ↓reduceIte] at s
      simp only [gd1, hd1, tl1, dr0, dr1, dr2, dr3, dr4, dr5, dr6, bo1, in1, st1, ls1, le1, pt1, fi1, fb1, fs1, ct1, cf1, nt1, nf1, ak0, akT, akF, cdec, cndec, cbeq, cnbeq, ↓reduceIte, beq_self_eq_true, Int.reduceBEq, Int.reduceEq, Bool.and_true, Bool.true_and, Bool.false_and, Bool.and_false, s, s11, s17, gdF]
  · simp only [ha, not_true_eq_false, not_false_eq_true, ↓reduceIte] at s
    simp only [gd1, hd1, tl1, dr0, dr1, dr2, dr3, dr4, dr5, dr6, bo1, in1, st1, ls1, le1, pt1, fi1, fb1, fs1, ct1, cf1, nt1, nf1, ak0, akT, akF, cdec, cndec, cbeq, cnbeq, ↓reduceIte, beq_self_eq_true, Int.reduceBEq, Int.reduceEq, Bool.and_true, Bool.true_and, Bool.false_and, Bool.and_false, s, s11, s17, gdF]

/-! ### RestLine -/
theorem joinF_four (n o m p : Int) : ∃ a b c d, joinF n o m p = [ti a, ti b, ti c, ti d] := by
  unfold joinF
  split
  · exact ⟨_, _, _, _, rfl⟩
  · split
    · exact ⟨_, _, _, _, rfl⟩
    · split
      · exact ⟨_, _, _, _, rfl⟩
      · split <;> exact ⟨_, _, _, _, rfl⟩
theorem fold_six : ∀ (l : List (Int × Int)) (out : Int × Int), ∃ a b c d e f, fold out l = [ti a, ti b, ti c, ti d, ti e, ti f]
  | [], out => ⟨_, _, _, _, _, _, rfl⟩
  | r :: l, out => by
    simp only [fold]
    split
    · exact ⟨_, _, _, _, _, _, rfl⟩
    · exact fold_six l _
theorem allF_six (l : List (Int × Int)) : ∃ a b c d e f, allF l = [ti a, ti b, ti c, ti d, ti e, ti f] := by
  unfold allF
  split
  · exact ⟨_, _, _, _, _, _, rfl⟩
  · split
    · exact ⟨_, _, _, _, _, _, rfl⟩
    · split
      · exact ⟨_, _, _, _, _, _, rfl⟩
      · exact fold_six l _
/-- Where the program tells no fault the two are one. -/
theorem joinF_zero {n o m p a b d : Int} (h : joinF n o m p = [ti a, ti b, ti 0, ti d]) : Ok n o ∧ Ok m p ∧ Comp (n, o) (m, p) ∧ ¬ (Int.lcm o p : Int) > 1000000 ∧ (a, b) = both (n, o) (m, p) := by
  unfold joinF at h
  split at h
  · simp at h
  · rename_i h1
    split at h
    · simp at h
    · rename_i h2
      split at h
      · simp at h
      · rename_i h3
        split at h
        · simp at h
        · rename_i h4
          simp only [List.cons.injEq, T.int.injEq, true_and, and_true] at h
          exact ⟨Classical.not_not.1 h1, Classical.not_not.1 h2, Classical.not_not.1 h3, h4, by rw [← h.1, ← h.2.1]; rfl⟩
theorem joinF_symm {n o m p a b c d a' b' c' d' : Int} (h : joinF n o m p = [ti a, ti b, ti c, ti d]) (h' : joinF m p n o = [ti a', ti b', ti c', ti d']) : (c = c' ∨ c = 3) ∧ a = a' ∧ b = b' := by
  unfold joinF at h h'
  have hc : ((Int.gcd p o : Int) ∣ n - m) = ((Int.gcd o p : Int) ∣ m - n) := by
    rw [Int.gcd_comm]
    refine propext ⟨fun h => ?_, fun h => ?_⟩ <;> (have := Int.dvd_neg.2 h; rwa [Int.neg_sub] at this)
  simp only [hc, Int.lcm_comm p o, crt_symm m p n o] at h'
  by_cases ha : Ok n o <;> by_cases hb : Ok m p <;> by_cases hd : (Int.gcd o p : Int) ∣ m - n <;> by_cases hl : (Int.lcm o p : Int) > 1000000 <;>
    (simp only [ha, hb, hd, hl, not_true_eq_false, not_false_eq_true, ↓reduceIte, List.cons.injEq, T.int.injEq, true_and, and_true] at h h'
     omega)
theorem both_one (a : Int × Int) (ha : OkR a) : both (0, 1) a = a := by
  obtain ⟨a1, a2, a3, a4⟩ := ha
  have l : (Int.lcm 1 a.2 : Int) = a.2 := by simp; omega
  have : crt 0 1 a.1 a.2 = a.1 := crt_eq ⟨⟨a.1, by omega⟩, ⟨0, by omega⟩⟩ (by rw [l]; omega)
  unfold both
  simp only [this, l]
theorem bad_ok {l : List (Int × Int)} : ∀ (i : Nat), (∀ r ∈ l, OkR r) → bad l i = none := by
  induction l with
  | nil => intro i _; rfl
  | cons a l ih => intro i h; simp only [bad, if_pos (h a List.mem_cons_self)]; exact ih (i + 1) fun r hr => h r (List.mem_cons_of_mem _ hr)
theorem law6 (n o m p q r : Int) : Or (.call 6) [AV.agg [I n, I o], AV.agg [I m, I p], AV.agg [I q, I r]] [] = some [tb true] := by
  obtain ⟨a, b, c, d, h1⟩ := joinF_four n o m p
  obtain ⟨a', b', c', d', h2⟩ := joinF_four m p n o
  obtain ⟨x1, x2, x3, x4, h3⟩ := joinF_four a b q r
  obtain ⟨y1, y2, y3, y4, y5, y6, h4⟩ := allF_six [(n, o), (m, p), (q, r)]
  have s1 := s9 n o m p
  have s2 := s9 m p n o
  have s3 := s9 a b q r
  have s4 : Or (.call 10) [AV.t (T.lst 2 false [[T.int .i64 n, T.int .i64 o], [T.int .i64 m, T.int .i64 p], [T.int .i64 q, T.int .i64 r]])] [] = some (allF [(n, o), (m, p), (q, r)]) := s10 false [(n, o), (m, p), (q, r)]
  rw [h1] at s1
  rw [h2] at s2
  rw [h3] at s3
  rw [h4] at s4
  obtain ⟨g1, g2, g3⟩ := joinF_symm h1 h2
  refine orc_of ?_
  rw [e6]
  subst g2; subst g3
  have c1 : (if c = c' then false else !c == 3) = false := by
    rcases g1 with rfl | rfl
    · simp
    · simp
  simp only [gd1, hd1, tl1, dr0, dr1, dr2, dr3, dr4, dr5, dr6, bo1, in1, st1, ls1, le1, pt1, fi1, fb1, fs1, ct1, cf1, nt1, nf1, ak0, akT, akF, cdec, cndec, cbeq, cnbeq, ↓reduceIte, beq_self_eq_true, Int.reduceBEq, Int.reduceEq, Bool.and_true, Bool.true_and, Bool.false_and, Bool.and_false, s11, s1, s2, s3, s4, c1]
  by_cases hz : c = 0 ∧ x3 = 0 ∧ y5 = 0
  · obtain ⟨rfl, rfl, rfl⟩ := hz
    obtain ⟨k1, k2, k3, k4, k5⟩ := joinF_zero h1
    obtain ⟨k6, k7, k8, k9, k10⟩ := joinF_zero h3
    have ka : (n, o) = both (0, 1) (n, o) := (both_one (n, o) k1).symm
    have hb : bad [(n, o), (m, p), (q, r)] 0 = none := bad_ok 0 (by
      intro z hz
      simp only [List.mem_cons, List.not_mem_nil, or_false] at hz
      rcases hz with rfl | rfl | rfl
      · exact k1
      · exact k2
      · exact k7)
    have o2 : ¬ o > 1000000 := by have := k1.2.1; omega
    have o1 : 1 ≤ o := k1.1
    have l1 : (Int.lcm 1 o : Int) = o := by simp; omega
    unfold allF at h4
    simp only [hb, List.length_cons, List.length_nil] at h4
    rw [if_neg (by omega)] at h4
    have key : y1 = x1 ∧ y2 = x2 := by
      cases hcl : clash [(n, o), (m, p), (q, r)] [(n, o), (m, p), (q, r)] 0 with
      | some ij =>
        rw [hcl] at h4
        simp at h4
      | none =>
        rw [hcl] at h4
        simp only [fold] at h4
        rw [l1, if_neg o2, ← ka, if_neg k4, ← k5, if_neg k9, ← k10] at h4
        simp only [List.cons.injEq, T.int.injEq, true_and] at h4
        exact ⟨h4.1.symm, h4.2.1.symm⟩
    simp [key.1, key.2]
  · have : (bif if c = 0 then !x3 == 0 else true then true else !y5 == 0) = true := by
      by_cases z1 : c = 0
      · by_cases z2 : x3 = 0
        · have z3 : ¬ y5 = 0 := fun h => hz ⟨z1, z2, h⟩
          simp [z1, z2, z3]
        · simp [z1, z2]
      · simp [z1]
    simp only [this, ct1]
end Go.Aev.Gen
