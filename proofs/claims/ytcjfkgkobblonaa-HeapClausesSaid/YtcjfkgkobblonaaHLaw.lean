/-
  The heap laws.
-/
import Derived.Test.YtcjfkgkobblonaaHFact
import Derived.Test.YtcjfkgkobblonaaHNorm
import Derived.Test.YtcjfkgkobblonaaHLGen
set_option linter.unusedSimpArgs false
set_option linter.unusedVariables false
namespace Go.Aev.Gen
open Go Go.Aev Go.Aev.Hp Go.RowKit

theorem s9g (e f g : Bool) {h : Hp} {hs : List Bool} (gd : Good h (hs.length : Int)) : Or (.call 9) [hv e f h, lb g hs] [] = some [tb (holdsF h hs), ti 0, ti 0] := by
  rw [s9, if_pos (by rw [chk_good gd])]
theorem s9n (e f g : Bool) {h : Hp} {hs : List Bool} (c : ¬ (chkH h (hs.length : Int)).1 = 0) : Or (.call 9) [hv e f h, lb g hs] [] = some [tb false, ti (chkH h (hs.length : Int)).1, ti (chkH h (hs.length : Int)).2] := by
  rw [s9, if_neg c]
theorem Good.tooFew {h : Hp} {n : Int} (g : Good h n) : h.ls.length ≤ 1000 ∧ h.os.length ≤ 1000 := by
  have := g.few
  have := g.len
  omega
theorem tidy_code {h : Hp} {n : Int} (g : Good h n) : (tidyF h).2.1 = 0 ∨ (tidyF h).2.1 = 10 := by
  rw [tidy_eq g]
  rcases norm_code (ls := h.ls) (os := h.os) (a := h.at_) with e | e
  · exact .inl e
  · rw [e]; exact .inr rfl
theorem tidy_again {h : Hp} {n : Int} (g : Good h n) (hc : (tidyF h).2.1 = 0) : tidyF (tidyF h).1 = ((tidyF h).1, 0, 0) := by
  rw [tidy_eq (tidy_good g hc)]
  rw [tidy_eq g] at hc ⊢
  simp only
  rw [norm_idem g.in_ hc]

theorem law3 (e f g : Bool) (x : Hp) (hs : List Bool) : Or (.call 3) [hv e f x, lb g hs] [] = some [tb true] := by
  refine orc_of ?_
  rw [e3]
  obtain ⟨x1, y1, r10, i1, j1⟩ := s10 e f x
  obtain ⟨x2, y2, r11, i2, j2⟩ := s11 e f x
  have i1' : x1.lst? 1 = _ := i1
  have j1' : y1.lst? 1 = _ := j1
  have i2' : x2.lst? 1 = _ := i2
  have j2' : y2.lst? 1 = _ := j2
  have r8 := fact8
  by_cases c : (chkH x (hs.length : Int)).1 = 0
  · have gd := chk_ok c
    have r9 := s9g e f g gd
    by_cases ct : (tidyF x).2.1 = 0
    · have htd := Td.of ct
      have fz := full_zero gd ct
      have gt := tidy_good gd ct
      have gf := full_good htd gt fz
      rw [if_pos ct] at r11 i2' j2'
      have q1 := s9g (tidyF x).1.ls.isEmpty (tidyF x).1.os.isEmpty g gt
      have q2 := s9g (fullF (tidyF x).1).1.ls.isEmpty (fullF (tidyF x).1).1.os.isEmpty g gf
      obtain ⟨x3, y3, r10', i3, j3⟩ := s10 (tidyF x).1.ls.isEmpty (tidyF x).1.os.isEmpty (tidyF x).1
      have i3' : x3.lst? 1 = _ := i3
      have j3' : y3.lst? 1 = _ := j3
      rw [tidy_again gd ct] at r10' i3' j3'
      have r12 := s12 (tidyF x).1.ls.isEmpty (tidyF x).1.os.isEmpty (tidyF x).1.ls.isEmpty (tidyF x).1.os.isEmpty (tidyF x).1 (tidyF x).1 gt.tooFew.1 gt.tooFew.2
      have hsame : same (tidyF x).1 (tidyF x).1 = true := same_iff.2 rfl
      have hh1 := tidy_holds gd ct hs
      have hh2 := full_holds htd fz hs
      rw [hh1] at hh2
      rw [hh1] at q1
      rw [hh2] at q2
      rw [hsame] at r12
      simp only [gd1, hd1, tl1, dr0, dr1, dr2, dr3, dr4, dr5, dr6, bo1, in1, st1, ls1, le1, pt1, fi1, fb1, fs1, ct1, cf1, nt1, nf1, ak0, akT, akF, cdec, cndec, cbeq, cnbeq, ↓reduceIte, beq_self_eq_true, Int.reduceBEq, Int.reduceEq, Bool.and_true, Bool.true_and, Bool.false_and, Bool.and_false, r8, r9, r10, r11, i1', j1', i2', j2', ct, fz, q1, q2, r10', i3', j3', r12]
    · have c10 := (tidy_code gd).resolve_left ct
      rw [if_neg ct] at r11 i2' j2'
      simp only [gd1, hd1, tl1, dr0, dr1, dr2, dr3, dr4, dr5, dr6, bo1, in1, st1, ls1, le1, pt1, fi1, fb1, fs1, ct1, cf1, nt1, nf1, ak0, akT, akF, cdec, cndec, cbeq, cnbeq, ↓reduceIte, beq_self_eq_true, Int.reduceBEq, Int.reduceEq, Bool.and_true, Bool.true_and, Bool.false_and, Bool.and_false, r8, r9, r10, r11, i1', j1', i2', j2', c10]
  · have r9 := s9n e f g c
    simp only [gd1, hd1, tl1, dr0, dr1, dr2, dr3, dr4, dr5, dr6, bo1, in1, st1, ls1, le1, pt1, fi1, fb1, fs1, ct1, cf1, nt1, nf1, ak0, akT, akF, cdec, cndec, cbeq, cnbeq, ↓reduceIte, beq_self_eq_true, Int.reduceBEq, Int.reduceEq, Bool.and_true, Bool.true_and, Bool.false_and, Bool.and_false, r8, r9, r10, r11, i1', j1', i2', j2', c]

/-! ### Add, Part, Full -/
theorem add_none {x y : Hp} (c : ¬ (addG x y).2.1 = 0) : (addG x y).1 = none_ := by
  unfold addG at c ⊢
  by_cases c1 : (chkH x 120).1 = 0
  · rw [if_pos c1] at c ⊢
    by_cases c2 : (chkH y 120).1 = 0
    · rw [if_pos c2] at c ⊢
      unfold addF at c ⊢
      rcases norm_code (ls := x.ls ++ y.ls) (os := x.os ++ y.os) (a := x.at_ + y.at_) with e | e
      · exact absurd e c
      · rw [e]; rfl
    · rw [if_neg c2]
  · rw [if_neg c1]
theorem add_fact {x y : Hp} {n : Int} (gx : Good x n) (gy : Good y n) (c : (addG x y).2.1 = 0) : Good (addG x y).1 n ∧ ∀ hs, holdsF x hs = true → holdsF y hs = true → holdsF (addG x y).1 hs = true := by
  unfold addG at c ⊢
  rw [if_pos (by rw [chk_good gx.up]), if_pos (by rw [chk_good gy.up])] at c ⊢
  exact ⟨add_good gx gy c, fun hs h1 h2 => add_holds gx gy c hs h1 h2⟩
theorem part_none {x : Hp} {d : Int} (c : ¬ (partF x d (tidyF x)).2.1 = 0) : (partF x d (tidyF x)).1 = none_ := by
  unfold partF at c ⊢
  by_cases c1 : (tidyF x).2.1 = 0
  · rw [if_pos c1] at c ⊢
    by_cases c2 : d < 1 ∨ d > 1000000
    · rw [if_pos c2]
    · rw [if_neg c2] at c ⊢
      unfold divF at c ⊢
      rcases norm_code (ls := (tidyF x).1.ls) (os := (tidyF x).1.os.map fun o => qd o d) (a := qd (tidyF x).1.at_ d) with e | e
      · exact absurd e c
      · rw [e]; rfl
  · rw [if_neg c1]
theorem part_fact {x : Hp} {d n : Int} (gx : Good x n) (c : (partF x d (tidyF x)).2.1 = 0) : Good (partF x d (tidyF x)).1 n ∧ ∀ hs, holdsF x hs = true → holdsF (partF x d (tidyF x)).1 hs = true := by
  unfold partF at c ⊢
  by_cases c1 : (tidyF x).2.1 = 0
  · rw [if_pos c1] at c ⊢
    by_cases c2 : d < 1 ∨ d > 1000000
    · rw [if_pos c2] at c; simp at c
    · rw [if_neg c2] at c ⊢
      exact ⟨div_good (Td.of c1) (by omega) (tidy_good gx c1) c, fun hs h => div_holds (Td.of c1) (by omega) c hs (by rw [tidy_holds gx c1]; exact h)⟩
  · rw [if_neg c1] at c; exact absurd c c1
def fullR (h : Hp) : Hp × Int × Int := if (tidyF h).2.1 = 0 then ((fullF (tidyF h).1).1, (fullF (tidyF h).1).2, 0) else (none_, (tidyF h).2)
theorem full_fact {x : Hp} {n : Int} (gx : Good x n) (c : (fullR x).2.1 = 0) : Good (fullR x).1 n ∧ ∀ hs, holdsF (fullR x).1 hs = holdsF x hs := by
  unfold fullR at c ⊢
  by_cases c1 : (tidyF x).2.1 = 0
  · rw [if_pos c1] at c ⊢
    exact ⟨full_good (Td.of c1) (tidy_good gx c1) c, fun hs => by rw [full_holds (Td.of c1) c, tidy_holds gx c1]⟩
  · rw [if_neg c1] at c; exact absurd c c1
theorem s12n (e f : Bool) : Or (.call 12) [hv e f none_, AV.agg [AV.t (T.lst 1 true []), AV.t (T.lst 1 true []), I 0]] [] = some [tb true] :=
  (s12 e f true true none_ none_ (by simp [none_]) (by simp [none_])).trans (by rw [same_iff.2 rfl])

theorem s9x (e f g : Bool) (h : Hp) (hs : List Bool) : ∃ b n m, Or (.call 9) [hv e f h, lb g hs] [] = some [tb b, ti n, ti m] := by
  by_cases c : (chkH h (hs.length : Int)).1 = 0
  · exact ⟨_, _, _, s9g e f g (chk_ok c)⟩
  · exact ⟨_, _, _, s9n e f g c⟩

theorem law4 (e1 f1 e2 f2 g : Bool) (x y : Hp) (d : Int) (hs : List Bool) : Or (.call 4) [hv e1 f1 x, hv e2 f2 y, I d, lb g hs] [] = some [tb true] := by
  refine orc_of ?_
  rw [e4]
  obtain ⟨x1, y1, r13, i1, j1⟩ := s13 e1 f1 e2 f2 x y
  obtain ⟨x2, y2, r14, i2, j2⟩ := s14 e1 f1 x d
  have hA2 := fun n gx gy => add_fact (x := x) (y := y) (n := n) gx gy
  have hP := part_none (x := x) (d := d)
  have hP2 := fun n gx => part_fact (x := x) (d := d) (n := n) gx
  generalize addG x y = A at *
  generalize partF x d (tidyF x) = P at *
  have i1' : x1.lst? 1 = _ := i1
  have j1' : y1.lst? 1 = _ := j1
  have i2' : x2.lst? 1 = _ := i2
  have j2' : y2.lst? 1 = _ := j2
  have r8 := fact8
  by_cases cx : (chkH x (hs.length : Int)).1 = 0
  · have gx := chk_ok cx
    have r9x := s9g e1 f1 g gx
    by_cases cy : (chkH y (hs.length : Int)).1 = 0
    · have gy := chk_ok cy
      have r9y := s9g e2 f2 g gy
      have qA : A.2.1 = 0 → holdsF x hs = true → holdsF y hs = true → Or (.call 9) [hv A.1.ls.isEmpty A.1.os.isEmpty A.1, lb g hs] [] = some [tb true, ti 0, ti 0] := by
        intro c h1 h2
        obtain ⟨gA, hA3⟩ := hA2 _ gx gy c
        rw [s9g _ _ g gA, hA3 hs h1 h2]
      have qP : P.2.1 = 0 → holdsF x hs = true → Or (.call 9) [hv P.1.ls.isEmpty P.1.os.isEmpty P.1, lb g hs] [] = some [tb true, ti 0, ti 0] := by
        intro c h1
        obtain ⟨gP, hP3⟩ := hP2 _ gx c
        rw [s9g _ _ g gP, hP3 hs h1]
      have qN : ¬ P.2.1 = 0 → Or (.call 12) [hv P.1.ls.isEmpty P.1.os.isEmpty P.1, AV.agg [AV.t (T.lst 1 true []), AV.t (T.lst 1 true []), I 0]] [] = some [tb true] := by
        intro c
        rw [hP c]; exact s12n _ _
      simp only [gd1, hd1, tl1, dr0, dr1, dr2, dr3, dr4, dr5, dr6, bo1, in1, st1, ls1, le1, pt1, fi1, fb1, fs1, ct1, cf1, nt1, nf1, ak0, akT, akF, cdec, cndec, cbeq, cnbeq, ↓reduceIte, beq_self_eq_true, Int.reduceBEq, Int.reduceEq, Bool.and_true, Bool.true_and, Bool.false_and, Bool.and_false, r8, r9x, r9y, r13, r14, i1', j1', i2', j2']
      by_cases cA : A.2.1 = 0 <;> by_cases cP : P.2.1 = 0 <;> cases bx : holdsF x hs <;> cases by' : holdsF y hs <;>
        (try replace qP := qP cP bx) <;> (try replace qN := qN cP) <;> (try replace qA := qA cA bx by') <;>
        (try have cPb : (P.2.1 == 0) = false := beq_eq_false_iff_ne.2 cP) <;>
        (try have cPt : (P.2.1 == 0) = true := beq_iff_eq.2 cP) <;>
        (try have cAb : (A.2.1 == 0) = false := beq_eq_false_iff_ne.2 cA) <;>
        (try have cAt : (A.2.1 == 0) = true := beq_iff_eq.2 cA) <;>
        simp only [gd1, hd1, tl1, dr0, dr1, dr2, dr3, dr4, dr5, dr6, bo1, in1, st1, ls1, le1, pt1, fi1, fb1, fs1, ct1, cf1, nt1, nf1, ak0, akT, akF, cdec, cndec, cbeq, cnbeq, ↓reduceIte, beq_self_eq_true, Int.reduceBEq, Int.reduceEq, Bool.and_true, Bool.true_and, Bool.false_and, Bool.and_false, *] <;> (try rfl)
    · have r9y := s9n e2 f2 g cy
      simp only [gd1, hd1, tl1, dr0, dr1, dr2, dr3, dr4, dr5, dr6, bo1, in1, st1, ls1, le1, pt1, fi1, fb1, fs1, ct1, cf1, nt1, nf1, ak0, akT, akF, cdec, cndec, cbeq, cnbeq, ↓reduceIte, beq_self_eq_true, Int.reduceBEq, Int.reduceEq, Bool.and_true, Bool.true_and, Bool.false_and, Bool.and_false, r8, r9x, r9y, r13, r14, i1', j1', i2', j2', cy]
  · have r9x := s9n e1 f1 g cx
    obtain ⟨b, n, m, r9y⟩ := s9x e2 f2 g y hs
    simp only [gd1, hd1, tl1, dr0, dr1, dr2, dr3, dr4, dr5, dr6, bo1, in1, st1, ls1, le1, pt1, fi1, fb1, fs1, ct1, cf1, nt1, nf1, ak0, akT, akF, cdec, cndec, cbeq, cnbeq, ↓reduceIte, beq_self_eq_true, Int.reduceBEq, Int.reduceEq, Bool.and_true, Bool.true_and, Bool.false_and, Bool.and_false, r8, r9x, r9y, r13, r14, i1', j1', i2', j2', cx]

theorem law6 (e1 f1 e2 f2 g : Bool) (x y : Hp) (d : Int) (hs : List Bool) : Or (.call 6) [hv e1 f1 x, hv e2 f2 y, I d, lb g hs] [] = some [tb true] := by
  refine orc_of ?_
  rw [e6]
  obtain ⟨x1, y1, r13, i1, j1⟩ := s13 e1 f1 e2 f2 x y
  have hA := add_none (x := x) (y := y)
  have hA2 := fun n gx gy => add_fact (x := x) (y := y) (n := n) gx gy
  generalize addG x y = A at *
  obtain ⟨x2, y2, r14, i2, j2⟩ := s14 A.1.ls.isEmpty A.1.os.isEmpty A.1 d
  have hP2 := fun n gx => part_fact (x := A.1) (d := d) (n := n) gx
  generalize partF A.1 d (tidyF A.1) = P at *
  obtain ⟨x3, y3, r11, i3, j3⟩ := s11 P.1.ls.isEmpty P.1.os.isEmpty P.1
  change Or _ _ _ = some [x3, y3, ti (fullR P.1).1.at_, ti (fullR P.1).2.1, ti (fullR P.1).2.2] at r11
  change IsL x3 (fullR P.1).1.ls at i3
  change IsL y3 (fullR P.1).1.os at j3
  have hF2 := fun n gx => full_fact (x := P.1) (n := n) gx
  generalize fullR P.1 = F at *
  have i1' : x1.lst? 1 = _ := i1
  have j1' : y1.lst? 1 = _ := j1
  have i2' : x2.lst? 1 = _ := i2
  have j2' : y2.lst? 1 = _ := j2
  have i3' : x3.lst? 1 = _ := i3
  have j3' : y3.lst? 1 = _ := j3
  have r8 := fact8
  have qN : ¬ A.2.1 = 0 → Or (.call 12) [hv A.1.ls.isEmpty A.1.os.isEmpty A.1, AV.agg [AV.t (T.lst 1 true []), AV.t (T.lst 1 true []), I 0]] [] = some [tb true] := by
    intro c
    rw [hA c]; exact s12n _ _
  by_cases cA : A.2.1 = 0
  · have cAt : (A.2.1 == 0) = true := beq_iff_eq.2 cA
    by_cases cP : P.2.1 = 0
    · have cPt : (P.2.1 == 0) = true := beq_iff_eq.2 cP
      by_cases cF : F.2.1 = 0
      · have cFt : (F.2.1 == 0) = true := beq_iff_eq.2 cF
        simp only [gd1, hd1, tl1, dr0, dr1, dr2, dr3, dr4, dr5, dr6, bo1, in1, st1, ls1, le1, pt1, fi1, fb1, fs1, ct1, cf1, nt1, nf1, ak0, akT, akF, cdec, cndec, cbeq, cnbeq, ↓reduceIte, beq_self_eq_true, Int.reduceBEq, Int.reduceEq, Bool.and_true, Bool.true_and, Bool.false_and, Bool.and_false, r8, r13, r14, r11, i1', j1', i2', j2', i3', j3', cAt, cPt, cFt, cA, cP, cF, cA]
        by_cases cx : (chkH x (hs.length : Int)).1 = 0
        · have gx := chk_ok cx
          have r9x := s9g e1 f1 g gx
          by_cases cy : (chkH y (hs.length : Int)).1 = 0
          · have gy := chk_ok cy
            have r9y := s9g e2 f2 g gy
            have q : holdsF x hs = true → holdsF y hs = true → Or (.call 9) [hv F.1.ls.isEmpty F.1.os.isEmpty F.1, lb g hs] [] = some [tb true, ti 0, ti 0] := by
              intro h1 h2
              obtain ⟨gA, hA3⟩ := hA2 _ gx gy cA
              obtain ⟨gP, hP3⟩ := hP2 _ gA cP
              obtain ⟨gF, hF3⟩ := hF2 _ gP cF
              rw [s9g _ _ g gF, hF3 hs, hP3 hs (hA3 hs h1 h2)]
            cases bx : holdsF x hs <;> cases by' : holdsF y hs <;> (try replace q := q bx by') <;>
              simp only [gd1, hd1, tl1, dr0, dr1, dr2, dr3, dr4, dr5, dr6, bo1, in1, st1, ls1, le1, pt1, fi1, fb1, fs1, ct1, cf1, nt1, nf1, ak0, akT, akF, cdec, cndec, cbeq, cnbeq, ↓reduceIte, beq_self_eq_true, Int.reduceBEq, Int.reduceEq, Bool.and_true, Bool.true_and, Bool.false_and, Bool.and_false, r9x, r9y, bx, by', q] <;> (try rfl)
          · have r9y := s9n e2 f2 g cy
            have cyb : ((chkH y (hs.length : Int)).1 == 0) = false := beq_eq_false_iff_ne.2 cy
            simp only [gd1, hd1, tl1, dr0, dr1, dr2, dr3, dr4, dr5, dr6, bo1, in1, st1, ls1, le1, pt1, fi1, fb1, fs1, ct1, cf1, nt1, nf1, ak0, akT, akF, cdec, cndec, cbeq, cnbeq, ↓reduceIte, beq_self_eq_true, Int.reduceBEq, Int.reduceEq, Bool.and_true, Bool.true_and, Bool.false_and, Bool.and_false, r9x, r9y, cyb, cy] <;> (try rfl)
        · have r9x := s9n e1 f1 g cx
          obtain ⟨b, n, m, r9y⟩ := s9x e2 f2 g y hs
          have cxb : ((chkH x (hs.length : Int)).1 == 0) = false := beq_eq_false_iff_ne.2 cx
          simp only [gd1, hd1, tl1, dr0, dr1, dr2, dr3, dr4, dr5, dr6, bo1, in1, st1, ls1, le1, pt1, fi1, fb1, fs1, ct1, cf1, nt1, nf1, ak0, akT, akF, cdec, cndec, cbeq, cnbeq, ↓reduceIte, beq_self_eq_true, Int.reduceBEq, Int.reduceEq, Bool.and_true, Bool.true_and, Bool.false_and, Bool.and_false, r9x, r9y, cxb, cx] <;> (try rfl)
      · have cFb : (F.2.1 == 0) = false := beq_eq_false_iff_ne.2 cF
        simp only [gd1, hd1, tl1, dr0, dr1, dr2, dr3, dr4, dr5, dr6, bo1, in1, st1, ls1, le1, pt1, fi1, fb1, fs1, ct1, cf1, nt1, nf1, ak0, akT, akF, cdec, cndec, cbeq, cnbeq, ↓reduceIte, beq_self_eq_true, Int.reduceBEq, Int.reduceEq, Bool.and_true, Bool.true_and, Bool.false_and, Bool.and_false, r8, r13, r14, r11, i1', j1', i2', j2', i3', j3', cAt, cPt, cFb, cA, cP, cF]
        rfl
    · have cPb : (P.2.1 == 0) = false := beq_eq_false_iff_ne.2 cP
      simp only [gd1, hd1, tl1, dr0, dr1, dr2, dr3, dr4, dr5, dr6, bo1, in1, st1, ls1, le1, pt1, fi1, fb1, fs1, ct1, cf1, nt1, nf1, ak0, akT, akF, cdec, cndec, cbeq, cnbeq, ↓reduceIte, beq_self_eq_true, Int.reduceBEq, Int.reduceEq, Bool.and_true, Bool.true_and, Bool.false_and, Bool.and_false, r8, r13, r14, r11, i1', j1', i2', j2', i3', j3', cAt, cPb, cA, cP] <;> (try rfl)
  · have cAb : (A.2.1 == 0) = false := beq_eq_false_iff_ne.2 cA
    simp only [gd1, hd1, tl1, dr0, dr1, dr2, dr3, dr4, dr5, dr6, bo1, in1, st1, ls1, le1, pt1, fi1, fb1, fs1, ct1, cf1, nt1, nf1, ak0, akT, akF, cdec, cndec, cbeq, cnbeq, ↓reduceIte, beq_self_eq_true, Int.reduceBEq, Int.reduceEq, Bool.and_true, Bool.true_and, Bool.false_and, Bool.and_false, r8, r13, r14, r11, i1', j1', i2', j2', i3', j3', cAb, cA, qN cA]

theorem chkH_none (a : Int) (n : Int) : True := trivial
theorem refT_eq {h : Hp} {n : Int} (g : Good h n) : refT h = tidyF h := by rw [tidy_eq g]; rfl
theorem fullG_eq (t : Hp × Int × Int) : fullG t = if t.2.1 = 0 then ((fullF t.1).1, (fullF t.1).2, 0) else (none_, t.2) := rfl
end Go.Aev.Gen
