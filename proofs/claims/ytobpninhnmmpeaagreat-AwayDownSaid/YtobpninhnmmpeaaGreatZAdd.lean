/-
  Wide numbers: sums and differences.
-/
import Derived.Test.YtobpninhnmmpeaaGreatZWide
set_option linter.unusedSimpArgs false
set_option linter.unusedVariables false
namespace Go.Aev.Wd
open Go Go.Aev Go.Aev.Gen

theorem trim_nil {d : List Int} (h : trim d = []) : val d = 0 := by rw [← trim_val, h]; rfl
theorem trim_rep {s : Bool} {d : List Int} {z : Int} (hd : Dg d) (hz : num s d = z) : Rep z (s && decide (trim d ≠ [])) (trim d) := by
  refine ⟨trim_dg hd, trim_can d, fun h => ?_, ?_⟩
  · simp only [Bool.and_eq_true, decide_eq_true_eq] at h
    exact h.2
  · unfold num at hz ⊢
    rw [trim_val]
    by_cases ht : trim d = []
    · have := trim_nil ht
      simp only [ht, ne_eq, not_true_eq_false, decide_false, Bool.and_false, Bool.false_eq_true, if_false]
      split at hz <;> omega
    · simp only [ne_eq, ht, not_false_eq_true, decide_true, Bool.and_true]
      exact hz
theorem num_le {z : Int} {s : Bool} {d : List Int} (h : Rep z s d) : z = num s d := h.z.symm
/-- What a method answers that sets its receiver. -/
def Sets (z : Int) (n : Nat) (r : Option (List T)) : Prop := ∃ s e d, r = some [T.nilp, tb s, T.lst 1 e (encD d)] ∧ Rep z s d ∧ d.length ≤ n
theorem tt : (true == true) = true := rfl
theorem tf : (true == false) = false := rfl
theorem ft : (false == true) = false := rfl
theorem ff : (false == false) = true := rfl
theorem s49 (s : Bool) (y : T) (s2 e2 s3 e3 : Bool) (a b : List Int) (u v : Int) (ha : Rep u s2 a) (hb : Rep v s3 b) (la : a.length ≤ 400) (lb : b.length ≤ 400) :
    Sets (u + v) (max a.length b.length + 1) (Or (.call 75) [r0, AV.t (T.ptr [tb s2, T.lst 1 e2 (encD a)]), AV.t (T.ptr [tb s3, T.lst 1 e3 (encD b)])] [Blk.box [AV.t (T.bool s), AV.t y]]) := by
  have hu := ha.z
  have hv := hb.z
  by_cases hs : s2 = s3
  · subst hs
    obtain ⟨d, h66, k1, k2, k3⟩ := s66 a b e2 e3 ha.dg hb.dg (by omega) (by omega)
    have h51 := s51 s2 false d (by omega)
    refine ⟨s2 && decide (trim d ≠ []), false, trim d, orc_of ?_, trim_rep (s := s2) k1 ?_, by have := trim_len d; omega⟩
    · rw [e49]
      have hq : (s2 == s2) = true := by cases s2 <;> rfl
      simp only [gd1, hd1, tl1, dr0, dr1, dr2, dr3, dr4, dr5, dr6, bo1, in1, st1, ls1, le1, pt1, fi1, fb1, fs1, ct1, cf1, nt1, nf1, ak0, akT, akF, cdec, cndec, cbeq, cnbeq, ↓reduceIte, beq_self_eq_true, Int.reduceBEq, Int.reduceEq, Bool.and_true, Bool.true_and, Bool.false_and, Bool.and_false, hq, h66, h51]
    · unfold num at hu hv ⊢
      split at hu <;> split at hv <;> (try split) <;> first | omega | simp_all
  · have hq : (s2 == s3) = false := by cases s2 <;> cases s3 <;> simp_all
    have h67 := s67 a b s2 e2 s3 e3 ha.dg hb.dg ha.can hb.can (by omega) (by omega)
    by_cases hc : val b ≤ val a
    · have hl : b.length ≤ a.length := by
        rcases Nat.lt_or_ge a.length b.length with h | h
        · have := len_lt ha.dg hb.dg hb.can h; omega
        · exact h
      obtain ⟨d, h68, k1, k2, k3⟩ := s68 a b e2 e3 ha.dg hb.dg hl hc (by omega)
      have h51 := s51 s2 false d (by omega)
      have hge : cmp3 (val a) (val b) ≥ 0 := by unfold cmp3; split <;> (try split) <;> omega
      refine ⟨s2 && decide (trim d ≠ []), false, trim d, orc_of ?_, trim_rep (s := s2) k1 ?_, by have := trim_len d; omega⟩
      · rw [e49]
        simp only [gd1, hd1, tl1, dr0, dr1, dr2, dr3, dr4, dr5, dr6, bo1, in1, st1, ls1, le1, pt1, fi1, fb1, fs1, ct1, cf1, nt1, nf1, ak0, akT, akF, cdec, cndec, cbeq, cnbeq, ↓reduceIte, beq_self_eq_true, Int.reduceBEq, Int.reduceEq, Bool.and_true, Bool.true_and, Bool.false_and, Bool.and_false, hq, h67, hge, h68, h51]
      · unfold num at hu hv ⊢
        cases s2 <;> cases s3 <;> simp at * <;> omega
    · have hl : a.length ≤ b.length := by
        rcases Nat.lt_or_ge b.length a.length with h | h
        · have := len_lt hb.dg ha.dg ha.can h; omega
        · exact h
      obtain ⟨d, h68, k1, k2, k3⟩ := s68 b a e3 e2 hb.dg ha.dg hl (by omega) (by omega)
      have h51 := s51 s3 false d (by omega)
      have hge : ¬ cmp3 (val a) (val b) ≥ 0 := by unfold cmp3; rw [if_pos (by omega)]; omega
      refine ⟨s3 && decide (trim d ≠ []), false, trim d, orc_of ?_, trim_rep (s := s3) k1 ?_, by have := trim_len d; omega⟩
      · rw [e49]
        simp only [gd1, hd1, tl1, dr0, dr1, dr2, dr3, dr4, dr5, dr6, bo1, in1, st1, ls1, le1, pt1, fi1, fb1, fs1, ct1, cf1, nt1, nf1, ak0, akT, akF, cdec, cndec, cbeq, cnbeq, ↓reduceIte, beq_self_eq_true, Int.reduceBEq, Int.reduceEq, Bool.and_true, Bool.true_and, Bool.false_and, Bool.and_false, hq, h67, hge, h68, h51]
      · unfold num at hu hv ⊢
        cases s2 <;> cases s3 <;> simp at * <;> omega
theorem s49z (s2 e2 s3 e3 : Bool) (a b : List Int) (u v : Int) (ha : Rep u s2 a) (hb : Rep v s3 b) (la : a.length ≤ 400) (lb : b.length ≤ 400) :
    Sets (u + v) (max a.length b.length + 1) (Or (.call 75) [r0, r0, AV.t (T.ptr [tb s3, T.lst 1 e3 (encD b)])] [Blk.box [AV.t (T.bool s2), AV.t (T.lst 1 e2 (encD a))]]) := by
  have hu := ha.z
  have hv := hb.z
  by_cases hs : s2 = s3
  · subst hs
    obtain ⟨d, h66, k1, k2, k3⟩ := s66 a b e2 e3 ha.dg hb.dg (by omega) (by omega)
    have h51 := s51 s2 false d (by omega)
    refine ⟨s2 && decide (trim d ≠ []), false, trim d, orc_of ?_, trim_rep (s := s2) k1 ?_, by have := trim_len d; omega⟩
    · rw [e49z]
      have hq : (s2 == s2) = true := by cases s2 <;> rfl
      simp only [gd1, hd1, tl1, dr0, dr1, dr2, dr3, dr4, dr5, dr6, bo1, in1, st1, ls1, le1, pt1, fi1, fb1, fs1, ct1, cf1, nt1, nf1, ak0, akT, akF, cdec, cndec, cbeq, cnbeq, ↓reduceIte, beq_self_eq_true, Int.reduceBEq, Int.reduceEq, Bool.and_true, Bool.true_and, Bool.false_and, Bool.and_false, hq, h66, h51]
    · unfold num at hu hv ⊢
      split at hu <;> split at hv <;> (try split) <;> first | omega | simp_all
  · have hq : (s2 == s3) = false := by cases s2 <;> cases s3 <;> simp_all
    have h67 := s67 a b s2 e2 s3 e3 ha.dg hb.dg ha.can hb.can (by omega) (by omega)
    by_cases hc : val b ≤ val a
    · have hl : b.length ≤ a.length := by
        rcases Nat.lt_or_ge a.length b.length with h | h
        · have := len_lt ha.dg hb.dg hb.can h; omega
        · exact h
      obtain ⟨d, h68, k1, k2, k3⟩ := s68 a b e2 e3 ha.dg hb.dg hl hc (by omega)
      have h51 := s51 s2 false d (by omega)
      have hge : cmp3 (val a) (val b) ≥ 0 := by unfold cmp3; split <;> (try split) <;> omega
      refine ⟨s2 && decide (trim d ≠ []), false, trim d, orc_of ?_, trim_rep (s := s2) k1 ?_, by have := trim_len d; omega⟩
      · rw [e49z]
        simp only [gd1, hd1, tl1, dr0, dr1, dr2, dr3, dr4, dr5, dr6, bo1, in1, st1, ls1, le1, pt1, fi1, fb1, fs1, ct1, cf1, nt1, nf1, ak0, akT, akF, cdec, cndec, cbeq, cnbeq, ↓reduceIte, beq_self_eq_true, Int.reduceBEq, Int.reduceEq, Bool.and_true, Bool.true_and, Bool.false_and, Bool.and_false, hq, h67, hge, h68, h51]
      · unfold num at hu hv ⊢
        cases s2 <;> cases s3 <;> simp at * <;> omega
    · have hl : a.length ≤ b.length := by
        rcases Nat.lt_or_ge b.length a.length with h | h
        · have := len_lt hb.dg ha.dg ha.can h; omega
        · exact h
      obtain ⟨d, h68, k1, k2, k3⟩ := s68 b a e3 e2 hb.dg ha.dg hl (by omega) (by omega)
      have h51 := s51 s3 false d (by omega)
      have hge : ¬ cmp3 (val a) (val b) ≥ 0 := by unfold cmp3; rw [if_pos (by omega)]; omega
      refine ⟨s3 && decide (trim d ≠ []), false, trim d, orc_of ?_, trim_rep (s := s3) k1 ?_, by have := trim_len d; omega⟩
      · rw [e49z]
        simp only [gd1, hd1, tl1, dr0, dr1, dr2, dr3, dr4, dr5, dr6, bo1, in1, st1, ls1, le1, pt1, fi1, fb1, fs1, ct1, cf1, nt1, nf1, ak0, akT, akF, cdec, cndec, cbeq, cnbeq, ↓reduceIte, beq_self_eq_true, Int.reduceBEq, Int.reduceEq, Bool.and_true, Bool.true_and, Bool.false_and, Bool.and_false, hq, h67, hge, h68, h51]
      · unfold num at hu hv ⊢
        cases s2 <;> cases s3 <;> simp at * <;> omega
theorem s36 (s : Bool) (y : T) (s2 e2 s3 e3 : Bool) (a b : List Int) (u v : Int) (ha : Rep u s2 a) (hb : Rep v s3 b) (la : a.length ≤ 400) (lb : b.length ≤ 400) :
    Sets (u - v) (max a.length b.length + 1) (Or (.call 120) [r0, AV.t (T.ptr [tb s2, T.lst 1 e2 (encD a)]), AV.t (T.ptr [tb s3, T.lst 1 e3 (encD b)])] [Blk.box [AV.t (T.bool s), AV.t y]]) := by
  obtain ⟨s', h50, hn⟩ := s50 false (T.emp true) s3 e3 b v (by omega) hb
  obtain ⟨sr, er, d, k1, k2, k3⟩ := s49 s y s2 e2 s' false a b u (-v) ha hn la lb
  refine ⟨sr, er, d, orc_of ?_, by rw [Int.sub_eq_add_neg]; exact k2, k3⟩
  rw [e36]
  simp only [gd1, hd1, tl1, dr0, dr1, dr2, dr3, dr4, dr5, dr6, bo1, in1, st1, ls1, le1, pt1, fi1, fb1, fs1, ct1, cf1, nt1, nf1, ak0, akT, akF, cdec, cndec, cbeq, cnbeq, ↓reduceIte, beq_self_eq_true, Int.reduceBEq, Int.reduceEq, Bool.and_true, Bool.true_and, Bool.false_and, Bool.and_false, h50, k1]
theorem s36z (s2 e2 s3 e3 : Bool) (a b : List Int) (u v : Int) (ha : Rep u s2 a) (hb : Rep v s3 b) (la : a.length ≤ 400) (lb : b.length ≤ 400) :
    Sets (u - v) (max a.length b.length + 1) (Or (.call 120) [r0, r0, AV.t (T.ptr [tb s3, T.lst 1 e3 (encD b)])] [Blk.box [AV.t (T.bool s2), AV.t (T.lst 1 e2 (encD a))]]) := by
  obtain ⟨s', h50, hn⟩ := s50 false (T.emp true) s3 e3 b v (by omega) hb
  obtain ⟨sr, er, d, k1, k2, k3⟩ := s49z s2 e2 s' false a b u (-v) ha hn la lb
  refine ⟨sr, er, d, orc_of ?_, by rw [Int.sub_eq_add_neg]; exact k2, k3⟩
  rw [e36z]
  simp only [gd1, hd1, tl1, dr0, dr1, dr2, dr3, dr4, dr5, dr6, bo1, in1, st1, ls1, le1, pt1, fi1, fb1, fs1, ct1, cf1, nt1, nf1, ak0, akT, akF, cdec, cndec, cbeq, cnbeq, ↓reduceIte, beq_self_eq_true, Int.reduceBEq, Int.reduceEq, Bool.and_true, Bool.true_and, Bool.false_and, Bool.and_false, h50, k1]
end Go.Aev.Wd
