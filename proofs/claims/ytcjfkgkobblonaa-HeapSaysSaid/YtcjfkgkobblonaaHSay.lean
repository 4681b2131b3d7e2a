/-
  HeapSays.
-/
import Derived.Test.YtcjfkgkobblonaaHLaw
set_option linter.unusedSimpArgs false
set_option linter.unusedVariables false
namespace Go.Aev.Gen
open Go Go.Aev Go.Aev.Hp Go.RowKit
theorem tidy_bad {h : Hp} (c : ¬ (chkH h 120).1 = 0) : tidyF h = (none_, chkH h 120) := by unfold tidyF; rw [if_neg c]
theorem s12s (e1 f1 e2 f2 : Bool) {a : Hp} (h1 : a.ls.length ≤ 1000) (h2 : a.os.length ≤ 1000) : Or (.call 12) [hv e1 f1 a, hv e2 f2 a] [] = some [tb true] := by
  rw [s12 e1 f1 e2 f2 a a h1 h2, same_iff.2 rfl]
theorem few_tidy {h : Hp} : (tidyF h).1.ls.length ≤ 1000 ∧ (tidyF h).1.os.length ≤ 1000 := by
  by_cases c : (tidyF h).2.1 = 0
  · have t := Td.of c
    have := t.few
    have := t.len
    omega
  · by_cases c2 : (chkH h 120).1 = 0
    · have g := chk_ok c2
      rw [tidy_eq g] at c ⊢
      rcases norm_code (ls := h.ls) (os := h.os) (a := h.at_) with e | e
      · exact absurd e c
      · rw [e]; simp
    · rw [tidy_bad c2]; simp [none_]
theorem few_norm {ls os : List Int} {a : Int} (h : In ls os a) : (normF ls os a).1.ls.length ≤ 1000 ∧ (normF ls os a).1.os.length ≤ 1000 := by
  rcases norm_code (ls := ls) (os := os) (a := a) with e | e
  · have t := norm_td h e
    have := t.few
    have := t.len
    omega
  · rw [e]; simp
theorem few_none : none_.ls.length ≤ 1000 ∧ none_.os.length ≤ 1000 := by simp [none_]
theorem few_part {x : Hp} {d : Int} : (partF x d (tidyF x)).1.ls.length ≤ 1000 ∧ (partF x d (tidyF x)).1.os.length ≤ 1000 := by
  unfold partF
  by_cases c1 : (tidyF x).2.1 = 0
  · rw [if_pos c1]
    by_cases c2 : d < 1 ∨ d > 1000000
    · rw [if_pos c2]; exact few_none
    · rw [if_neg c2]; exact few_norm ((Td.of c1).div (by omega))
  · rw [if_neg c1]; exact few_none
theorem few_full {x : Hp} : (fullR x).1.ls.length ≤ 1000 ∧ (fullR x).1.os.length ≤ 1000 := by
  unfold fullR
  by_cases c1 : (tidyF x).2.1 = 0
  · rw [if_pos c1]; exact few_norm (Td.of c1).full
  · rw [if_neg c1]; exact few_none
theorem few_add {x y : Hp} : (addG x y).1.ls.length ≤ 1000 ∧ (addG x y).1.os.length ≤ 1000 := by
  unfold addG
  by_cases c1 : (chkH x 120).1 = 0
  · rw [if_pos c1]
    by_cases c2 : (chkH y 120).1 = 0
    · rw [if_pos c2]; exact few_norm (add_in (chk_ok c1) (chk_ok c2))
    · rw [if_neg c2]; exact few_none
  · rw [if_neg c1]; exact few_none

set_option maxRecDepth 100000 in
set_option maxHeartbeats 4000000 in
theorem law5 (e1 f1 e2 f2 g : Bool) (x y : Hp) (n d : Int) (hs : List Bool) : Or (.call 5) [hv e1 f1 x, hv e2 f2 y, I n, lb g hs, I d] [] = some [tb true] := by
  refine orc_of ?_
  rw [e5]
  have r8 := fact8
  have r15h := s15 x (hs.length : Int) e1 f1
  have r16 := s16 x n e1 f1
  have r15n := s15 x n e1 f1
  have r15x := s15 x 120 e1 f1
  have r15y := s15 y 120 e2 f2
  obtain ⟨x1, y1, r10, i1, j1⟩ := s10 e1 f1 x
  obtain ⟨x2, y2, r13, i2, j2⟩ := s13 e1 f1 e2 f2 x y
  obtain ⟨x3, y3, r14, i3, j3⟩ := s14 e1 f1 x d
  obtain ⟨x4, y4, r11, i4, j4⟩ := s11 e1 f1 x
  change Or _ _ _ = some [x4, y4, ti (fullR x).1.at_, ti (fullR x).2.1, ti (fullR x).2.2] at r11
  change IsL x4 (fullR x).1.ls at i4
  change IsL y4 (fullR x).1.os at j4
  have i1' : x1.lst? 1 = _ := i1
  have j1' : y1.lst? 1 = _ := j1
  have i2' : x2.lst? 1 = _ := i2
  have j2' : y2.lst? 1 = _ := j2
  have i3' : x3.lst? 1 = _ := i3
  have j3' : y3.lst? 1 = _ := j3
  have i4' : x4.lst? 1 = _ := i4
  have j4' : y4.lst? 1 = _ := j4
  have hl : ((encB hs).length : Int) = (hs.length : Int) := by rw [encB_len]
  have fA := few_add (x := x) (y := y)
  have fP := few_part (x := x) (d := d)
  have fF := few_full (x := x)
  have fT := few_tidy (h := x)
  by_cases cx : (chkH x 120).1 = 0
  · have gx := chk_ok cx
    have cx2 : chkH x 120 = (0, 0) := chk_good gx
    have h18 : Ans (Or (.call 18) [hv e1 f1 x] []) (tidyF x) := by have := s18 e1 f1 gx.in_; rwa [← tidy_eq gx] at this
    have h19 : Ans (Or (.call 19) [hv e1 f1 x, I d] []) (partF x d (tidyF x)) := by have := s19 e1 f1 d gx.in_; rwa [refT_eq gx] at this
    have h20 : Ans (Or (.call 20) [hv e1 f1 x] []) (fullR x) := by have := s20 e1 f1 gx.in_; rwa [refT_eq gx] at this
    obtain ⟨x5, y5, r18, i5, j5⟩ := h18
    obtain ⟨x6, y6, r19, i6, j6⟩ := h19
    obtain ⟨x7, y7, r20, i7, j7⟩ := h20
    have i5' : x5.lst? 1 = _ := i5
    have j5' : y5.lst? 1 = _ := j5
    have i6' : x6.lst? 1 = _ := i6
    have j6' : y6.lst? 1 = _ := j6
    have i7' : x7.lst? 1 = _ := i7
    have j7' : y7.lst? 1 = _ := j7
    rw [cx2] at r15x
    have qT := s12s (tidyF x).1.ls.isEmpty (tidyF x).1.os.isEmpty (tidyF x).1.ls.isEmpty (tidyF x).1.os.isEmpty fT.1 fT.2
    have qP := s12s (partF x d (tidyF x)).1.ls.isEmpty (partF x d (tidyF x)).1.os.isEmpty (partF x d (tidyF x)).1.ls.isEmpty (partF x d (tidyF x)).1.os.isEmpty fP.1 fP.2
    have qF := s12s (fullR x).1.ls.isEmpty (fullR x).1.os.isEmpty (fullR x).1.ls.isEmpty (fullR x).1.os.isEmpty fF.1 fF.2
    by_cases cy : (chkH y 120).1 = 0
    · have gy := chk_ok cy
      have cy2 : chkH y 120 = (0, 0) := chk_good gy
      have eA : addG x y = ((addF x y).1, (addF x y).2, 0) := by unfold addG; rw [if_pos cx, if_pos cy]
      have h21 : Ans (Or (.call 21) [hv e1 f1 x, hv e2 f2 y] []) (addG x y) := by
        rw [eA]
        have a1 := gx.few
        have a2 := gx.len
        have a3 := gy.few
        have a4 := gy.len
        exact s21 e1 f1 e2 f2 (add_in gx gy) (by omega) (by omega) (by omega) (by omega)
      obtain ⟨x8, y8, r21, i8, j8⟩ := h21
      have i8' : x8.lst? 1 = _ := i8
      have j8' : y8.lst? 1 = _ := j8
      have qA := s12s (addG x y).1.ls.isEmpty (addG x y).1.os.isEmpty (addG x y).1.ls.isEmpty (addG x y).1.os.isEmpty fA.1 fA.2
      rw [cy2] at r15y
      generalize addG x y = A at *
      generalize partF x d (tidyF x) = P at *
      generalize tidyF x = Tt at *
      generalize fullR x = F at *
      by_cases c : (chkH x (hs.length : Int)).1 = 0
      · have r9 := (s9g e1 f1 g (chk_ok c))
        have r17 := s17 e1 f1 g (chk_ok c)
        have c2 : chkH x (hs.length : Int) = (0, 0) := chk_good (chk_ok c)
        rw [c2] at r15h
        simp only [gd1, hd1, tl1, dr0, dr1, dr2, dr3, dr4, dr5, dr6, bo1, in1, st1, ls1, le1, pt1, fi1, fb1, fs1, ct1, cf1, nt1, nf1, ak0, akT, akF, cdec, cndec, cbeq, cnbeq, ↓reduceIte, beq_self_eq_true, Int.reduceBEq, Int.reduceEq, Bool.and_true, Bool.true_and, Bool.false_and, Bool.and_false, r8, r9, hl, r15h, r16, r15n, r17, r10, r13, r14, r11, i1', j1', i2', j2', i3', j3', i4', j4', r15x, r15y, r18, r19, r20, i5', j5', i6', j6', i7', j7', qT, qP, qF, r21, i8', j8', qA] <;> (try rfl)
      · have r9 := s9n e1 f1 g c
        have cb : ((chkH x (hs.length : Int)).1 == 0) = false := beq_eq_false_iff_ne.2 c
        simp only [gd1, hd1, tl1, dr0, dr1, dr2, dr3, dr4, dr5, dr6, bo1, in1, st1, ls1, le1, pt1, fi1, fb1, fs1, ct1, cf1, nt1, nf1, ak0, akT, akF, cdec, cndec, cbeq, cnbeq, ↓reduceIte, beq_self_eq_true, Int.reduceBEq, Int.reduceEq, Bool.and_true, Bool.true_and, Bool.false_and, Bool.and_false, r8, r9, hl, r15h, r16, r15n, c, cb, r10, r13, r14, r11, i1', j1', i2', j2', i3', j3', i4', j4', r15x, r15y, r18, r19, r20, i5', j5', i6', j6', i7', j7', qT, qP, qF, r21, i8', j8', qA] <;> (try rfl)
    · have eA : addG x y = (none_, chkH y 120) := by unfold addG; rw [if_pos cx, if_neg cy]
      have cyb : ((chkH y 120).1 == 0) = false := beq_eq_false_iff_ne.2 cy
      rw [eA] at r13 i2' j2'
      have qA := s12n none_.ls.isEmpty none_.os.isEmpty
      generalize partF x d (tidyF x) = P at *
      generalize tidyF x = Tt at *
      generalize fullR x = F at *
      by_cases c : (chkH x (hs.length : Int)).1 = 0
      · have r9 := (s9g e1 f1 g (chk_ok c))
        have r17 := s17 e1 f1 g (chk_ok c)
        have c2 : chkH x (hs.length : Int) = (0, 0) := chk_good (chk_ok c)
        rw [c2] at r15h
        simp only [gd1, hd1, tl1, dr0, dr1, dr2, dr3, dr4, dr5, dr6, bo1, in1, st1, ls1, le1, pt1, fi1, fb1, fs1, ct1, cf1, nt1, nf1, ak0, akT, akF, cdec, cndec, cbeq, cnbeq, ↓reduceIte, beq_self_eq_true, Int.reduceBEq, Int.reduceEq, Bool.and_true, Bool.true_and, Bool.false_and, Bool.and_false, r8, r9, hl, r15h, r16, r15n, r17, r10, r13, r14, r11, i1', j1', i2', j2', i3', j3', i4', j4', r15x, r15y, r18, r19, r20, i5', j5', i6', j6', i7', j7', qT, qP, qF, qA, cy, cyb] <;> (try rfl)
      · have r9 := s9n e1 f1 g c
        have cb : ((chkH x (hs.length : Int)).1 == 0) = false := beq_eq_false_iff_ne.2 c
        simp only [gd1, hd1, tl1, dr0, dr1, dr2, dr3, dr4, dr5, dr6, bo1, in1, st1, ls1, le1, pt1, fi1, fb1, fs1, ct1, cf1, nt1, nf1, ak0, akT, akF, cdec, cndec, cbeq, cnbeq, ↓reduceIte, beq_self_eq_true, Int.reduceBEq, Int.reduceEq, Bool.and_true, Bool.true_and, Bool.false_and, Bool.and_false, r8, r9, hl, r15h, r16, r15n, c, cb, r10, r13, r14, r11, i1', j1', i2', j2', i3', j3', i4', j4', r15x, r15y, r18, r19, r20, i5', j5', i6', j6', i7', j7', qT, qP, qF, qA, cy, cyb] <;> (try rfl)
  · have cxb : ((chkH x 120).1 == 0) = false := beq_eq_false_iff_ne.2 cx
    have eA : addG x y = (none_, chkH x 120) := by unfold addG; rw [if_neg cx]
    have eT := tidy_bad cx
    have eP : partF x d (tidyF x) = (none_, chkH x 120) := by rw [eT]; unfold partF; rw [if_neg cx]
    have eF : fullR x = (none_, chkH x 120) := by unfold fullR; rw [eT]; rw [if_neg cx]
    have qA := s12n none_.ls.isEmpty none_.os.isEmpty
    rw [eA] at r13 i2' j2'
    rw [eP] at r14 i3' j3'
    rw [eF] at r11 i4' j4'
    rw [eT] at r10 i1' j1'
    by_cases c : (chkH x (hs.length : Int)).1 = 0
    · have r9 := (s9g e1 f1 g (chk_ok c))
      have r17 := s17 e1 f1 g (chk_ok c)
      have c2 : chkH x (hs.length : Int) = (0, 0) := chk_good (chk_ok c)
      rw [c2] at r15h
      simp only [gd1, hd1, tl1, dr0, dr1, dr2, dr3, dr4, dr5, dr6, bo1, in1, st1, ls1, le1, pt1, fi1, fb1, fs1, ct1, cf1, nt1, nf1, ak0, akT, akF, cdec, cndec, cbeq, cnbeq, ↓reduceIte, beq_self_eq_true, Int.reduceBEq, Int.reduceEq, Bool.and_true, Bool.true_and, Bool.false_and, Bool.and_false, r8, r9, hl, r15h, r16, r15n, r17, r10, r13, r14, r11, i1', j1', i2', j2', i3', j3', i4', j4', r15x, r15y, qA, cx, cxb] <;> (try rfl)
    · have r9 := s9n e1 f1 g c
      have cb : ((chkH x (hs.length : Int)).1 == 0) = false := beq_eq_false_iff_ne.2 c
      simp only [gd1, hd1, tl1, dr0, dr1, dr2, dr3, dr4, dr5, dr6, bo1, in1, st1, ls1, le1, pt1, fi1, fb1, fs1, ct1, cf1, nt1, nf1, ak0, akT, akF, cdec, cndec, cbeq, cnbeq, ↓reduceIte, beq_self_eq_true, Int.reduceBEq, Int.reduceEq, Bool.and_true, Bool.true_and, Bool.false_and, Bool.and_false, r8, r9, hl, r15h, r16, r15n, c, cb, r10, r13, r14, r11, i1', j1', i2', j2', i3', j3', i4', j4', r15x, r15y, qA, cx, cxb] <;> (try rfl)
end Go.Aev.Gen
