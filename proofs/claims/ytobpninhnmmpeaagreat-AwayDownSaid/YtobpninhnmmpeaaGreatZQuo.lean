/-
  Quotients of numbers of any length.
-/
import Derived.Test.YtobpninhnmmpeaaGreatZLong
set_option linter.unusedSimpArgs false
set_option linter.unusedVariables false
namespace Go.Aev.Wd
open Go Go.Aev Go.Aev.Gen

theorem rep_short {z w : Int} {s t : Bool} {d a : List Int} (h : Rep z s d) (ha : Rep w t a) (hz : z.natAbs ≤ w.natAbs) : d.length ≤ a.length := rep_len h a.length (by
  have := val_lt ha.dg
  rw [rep_abs ha] at this
  omega)
def SetsB (z m : Int) (r : Option (List T)) : Prop := ∃ s e d s' e' d', r = some [T.nilp, T.nilp, tb s, T.lst 1 e (encD d), tb s', T.lst 1 e' (encD d')] ∧ Rep z s d ∧ Rep m s' d'
theorem s70g (s : Bool) (y : T) (s2 e2 s3 e3 s4 : Bool) (y4 : T) (a b : List Int) (u v : Int) (ha : Rep u s2 a) (hb : Rep v s3 b) (la : a.length ≤ 400) (lb : b.length ≤ 400) (hv : v ≠ 0) :
    SetsB (u.tdiv v) (u.tmod v) (Or (.call 119) [r0, AV.t (T.ptr [tb s2, T.lst 1 e2 (encD a)]), AV.t (T.ptr [tb s3, T.lst 1 e3 (encD b)]), AV.ref (Id.c 1) 0] [Blk.box [AV.t (T.bool s), AV.t y], Blk.box [AV.t (T.bool s4), AV.t y4]]) := by
  have h67 := s67 a b s2 e2 s3 e3 ha.dg hb.dg ha.can hb.can (by omega) (by omega)
  have hA := val_nonneg ha.dg
  have hB := rep_zero_abs hb hv
  obtain ⟨hq, hm⟩ := num_div s3 s2 (val a) (val b) hA hB
  have hu := ha.z
  have hv' := hb.z
  unfold num at hu hv'
  rw [hu, hv'] at hq hm
  by_cases hc : val a < val b
  · have h0 : cmp3 (val a) (val b) < 0 := by unfold cmp3; rw [if_pos hc]; omega
    obtain ⟨s', e', d', k1, k2, k3⟩ := s48 s y 0 (by omega)
    rw [Int.ediv_eq_zero_of_lt hA hc] at hq
    rw [Int.emod_eq_of_lt hA hc, hu] at hm
    refine ⟨s', e', d', s2, false, a, orc_of ?_, ?_, by rw [hm]; exact ha⟩
    · rw [e70]
      simp only [gd1, hd1, tl1, dr0, dr1, dr2, dr3, dr4, dr5, dr6, bo1, in1, st1, ls1, le1, pt1, fi1, fb1, fs1, ct1, cf1, nt1, nf1, ak0, akT, akF, cdec, cndec, cbeq, cnbeq, ↓reduceIte, beq_self_eq_true, Int.reduceBEq, Int.reduceEq, Bool.and_true, Bool.true_and, Bool.false_and, Bool.and_false, h67, h0, s69 s4 y4 s2 e2 a (by omega), k1]
    · rw [hq]; simpa using k2
  · have hlen : b.length ≤ a.length := by
      rcases Nat.lt_or_ge a.length b.length with h | h
      · have := len_lt ha.dg hb.dg hb.can h; omega
      · exact h
    by_cases h3 : (a.length : Int) < 3
    · obtain ⟨sq, eq, dq, sm, em, dm, k1, k2, k3, _, _⟩ := s70 s y s2 e2 s3 e3 s4 y4 a b u v ha hb (by omega) (by omega) hv
      exact ⟨sq, eq, dq, sm, em, dm, k1, k2, k3⟩
    · have h0 : ¬ cmp3 (val a) (val b) < 0 := by unfold cmp3; rw [if_neg hc]; split <;> omega
      have hbn : b ≠ [] := by intro h; subst h; simp [val] at hB
      obtain ⟨R, r1, e5, Q, e6, Z, rfl, q1, q2, q3, q4, q5, q6⟩ := s78 e2 e3 a b ha.dg hb.dg hb.can hbn la (by omega)
      have t5 := s51 (!s2 == s3) e5 Q (by omega)
      have t6 := s51 s2 e6 Z (by omega)
      refine ⟨(!s2 == s3) && decide (trim Q ≠ []), e5, trim Q, s2 && decide (trim Z ≠ []), e6, trim Z, orc_of ?_, trim_rep (s := !s2 == s3) q1 ?_, trim_rep (s := s2) q2 ?_⟩
      · rw [e70]
        simp only [gd1, hd1, tl1, dr0, dr1, dr2, dr3, dr4, dr5, dr6, bo1, in1, st1, ls1, le1, pt1, fi1, fb1, fs1, ct1, cf1, nt1, nf1, ak0, akT, akF, cdec, cndec, cbeq, cnbeq, ↓reduceIte, beq_self_eq_true, Int.reduceBEq, Int.reduceEq, Bool.and_true, Bool.true_and, Bool.false_and, Bool.and_false, h67, h0, encD_len, h3, r1, t5, t6]
      · rw [hq]; unfold num; rw [q3]
      · rw [hm]; unfold num; rw [q4]
theorem s52g (s : Bool) (y : T) (s2 e2 s3 e3 s4 : Bool) (y4 : T) (a b : List Int) (u v : Int) (ha : Rep u s2 a) (hb : Rep v s3 b) (la : a.length ≤ 390) (lb : b.length ≤ 390) (hv : 0 < v) :
    SetsB (u / v) (u % v) (Or (.call 99) [r0, AV.t (T.ptr [tb s2, T.lst 1 e2 (encD a)]), AV.t (T.ptr [tb s3, T.lst 1 e3 (encD b)]), AV.ref (Id.c 1) 0] [Blk.box [AV.t (T.bool s), AV.t y], Blk.box [AV.t (T.bool s4), AV.t y4]]) := by
  have h69 := s69 false (T.emp true) s3 e3 b (by omega)
  obtain ⟨sq, eq, dq, sm, em, dm, k1, k2, k3⟩ := s70g s y s2 e2 s3 e3 s4 y4 a b u v ha hb (by omega) (by omega) (by omega)
  have hs3 := rep_sg hb
  have : s3 = false := by rw [hs3]; simp; omega
  subst this
  have hsm := rep_sg k3
  obtain ⟨f1, f2⟩ := tdiv_floor (u := u) hv
  have ldq := rep_short k2 ha (by rw [Int.natAbs_tdiv]; exact Nat.div_le_self _ _)
  have ldm := rep_short k3 ha (by rw [Int.natAbs_tmod]; exact Nat.mod_le _ _)
  by_cases hn : u.tmod v < 0
  · have : sm = true := by rw [hsm]; simpa using hn
    subst this
    obtain ⟨q1, q2⟩ := f1 hn
    obtain ⟨x1, j1, j2⟩ := s35 1 (by omega)
    obtain ⟨s', e', d', rfl, j3⟩ := j2
    have l1 := rep_two j3 (by omega)
    obtain ⟨sq', eq', dq', m1, m2, m3⟩ := s36z sq eq s' e' dq d' _ _ k2 j3 (by omega) (by omega)
    obtain ⟨sm', em', dm', w1, w2, w3⟩ := s49z true em false e3 dm b _ _ k3 hb (by omega) (by omega)
    rw [q1] at m2
    rw [q2] at w2
    have w1' := (s49z true em false false dm b _ _ k3 hb (by omega) (by omega))
    rw [q2] at w1'
    obtain ⟨sm2, em2, dm2, x1, x2, x3⟩ := w1'
    refine ⟨sq', eq', dq', sm2, em2, dm2, orc_of ?_, m2, x2⟩
    rw [e52]
    simp only [gd1, hd1, tl1, dr0, dr1, dr2, dr3, dr4, dr5, dr6, bo1, in1, st1, ls1, le1, pt1, fi1, fb1, fs1, ct1, cf1, nt1, nf1, ak0, akT, akF, cdec, cndec, cbeq, cnbeq, ↓reduceIte, beq_self_eq_true, Int.reduceBEq, Int.reduceEq, Bool.and_true, Bool.true_and, Bool.false_and, Bool.and_false, h69, k1, j1, m1, x1]
  · have : sm = false := by rw [hsm]; simpa using hn
    subst this
    obtain ⟨q1, q2⟩ := f2 hn
    rw [q1] at k2
    rw [q2] at k3
    refine ⟨sq, eq, dq, false, em, dm, orc_of ?_, k2, k3⟩
    rw [e52]
    simp only [gd1, hd1, tl1, dr0, dr1, dr2, dr3, dr4, dr5, dr6, bo1, in1, st1, ls1, le1, pt1, fi1, fb1, fs1, ct1, cf1, nt1, nf1, ak0, akT, akF, cdec, cndec, cbeq, cnbeq, ↓reduceIte, beq_self_eq_true, Int.reduceBEq, Int.reduceEq, Bool.and_true, Bool.true_and, Bool.false_and, Bool.and_false, h69, k1]
end Go.Aev.Wd
