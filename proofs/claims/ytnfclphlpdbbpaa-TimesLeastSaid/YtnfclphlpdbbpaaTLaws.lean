/-
  What is returned is right, and nobody ends sooner.
-/
import Derived.Test.YtnfclphlpdbbpaaTDo
import Derived.Test.YtnfclphlpdbbpaaTArg
set_option linter.unusedSimpArgs false
set_option linter.unusedVariables false
namespace Go.Aev.Gen
open Go Go.Aev Go.Proofs
open Classical

theorem law3 (js : List J) (ws : List W) (n : Int) (e e' : Bool) (he : e' = true → ws = []) : Or (.call 3) [LJ e js, LW e' ws, I n] [] = some [tb true] := by
  refine orc_of ?_
  rw [e3]
  have h10 := s10 js ws e e'
  by_cases h1 : (chk js ws).1 = 0
  · have h02 := chk_zero h1
    obtain ⟨G, hw⟩ := chk_good h1
    by_cases hn : n < 0 ∨ n > 2000
    · have h9 := s9fuel js ws e e' n h1 hn
      simp only [cor, ← Bool.decide_or]
      simp only [gd1, hd1, tl1, dr0, dr1, dr2, dr3, dr4, dr5, dr6, bo1, in1, st1, ls1, le1, pt1, fi1, fb1, fs1, ct1, cf1, nt1, nf1, ak0, akT, akF, cdec, cndec, cbeq, cnbeq, ↓reduceIte, beq_self_eq_true, Int.reduceBEq, Int.reduceEq, Bool.and_true, Bool.true_and, Bool.false_and, Bool.and_false, s8, h10, h1, h02, h9, hn, s11, Bool.not_true, List.length_nil]
      simp
    · obtain ⟨st, la, x, d, ec, h9, hx, B⟩ := s9ok js ws e e' n he h1 (by omega)
      simp only [cor, ← Bool.decide_or]
      rcases B.yes with rfl | rfl
      · obtain ⟨d1, d2, d3, d4⟩ := B.right rfl
        have h12 := s12 js ws e e' ec d G (by omega) d1 d3
        have h13 := s13 js e ec d G.n d1 d3 (fun i => ⟨(G.job i).1, (G.job i).2.1⟩)
        have hl : ((enc d).length : Int) = ((eJs js).length : Int) := by rw [enc_len, eJs_len, d1]
        simp only [gd1, hd1, tl1, dr0, dr1, dr2, dr3, dr4, dr5, dr6, bo1, in1, st1, ls1, le1, pt1, fi1, fb1, fs1, ct1, cf1, nt1, nf1, ak0, akT, akF, cdec, cndec, cbeq, cnbeq, ↓reduceIte, beq_self_eq_true, Int.reduceBEq, Int.reduceEq, Bool.and_true, Bool.true_and, Bool.false_and, Bool.and_false, s8, h10, h1, h02, h9, hx, hn, s11, Bool.not_true, hl, h12, d2, decide_true, h13]
        simp [d4]
      · obtain ⟨rfl, rfl⟩ := B.none rfl
        simp only [gd1, hd1, tl1, dr0, dr1, dr2, dr3, dr4, dr5, dr6, bo1, in1, st1, ls1, le1, pt1, fi1, fb1, fs1, ct1, cf1, nt1, nf1, ak0, akT, akF, cdec, cndec, cbeq, cnbeq, ↓reduceIte, beq_self_eq_true, Int.reduceBEq, Int.reduceEq, Bool.and_true, Bool.true_and, Bool.false_and, Bool.and_false, s8, h10, h1, h02, h9, hx, hn, s11, Bool.not_true]
        simp [enc]
  · have h9 := s9bad js ws e e' n h1
    simp only [gd1, hd1, tl1, dr0, dr1, dr2, dr3, dr4, dr5, dr6, bo1, in1, st1, ls1, le1, pt1, fi1, fb1, fs1, ct1, cf1, nt1, nf1, ak0, akT, akF, cdec, cndec, cbeq, cnbeq, ↓reduceIte, beq_self_eq_true, Int.reduceBEq, Int.reduceEq, Bool.and_true, Bool.true_and, Bool.false_and, Bool.and_false, s8, h10, h1, h9, s11, Bool.not_true, List.length_nil]
    simp
theorem law7 (js : List J) (ws : List W) (ss : List Int) (e e' e2 : Bool) (he : e' = true → ws = []) : Or (.call 7) [LJ e js, LW e' ws, lst e2 ss] [] = some [tb true] := by
  refine orc_of ?_
  rw [e7]
  have h15 := s15 js ws ss e e' e2
  unfold rightF at h15
  by_cases h1 : (chk js ws).1 = 0
  · obtain ⟨G, hw⟩ := chk_good h1
    obtain ⟨st, la, x, d, ec, h9, hx, B⟩ := s9ok js ws e e' 2000 he h1 (by omega)
    by_cases h2 : ss.length = js.length
    · simp only [h1, ne_eq, not_true_eq_false, h2, ↓reduceIte] at h15
      cases hs : scanS ss 0 with
      | some d =>
        rw [hs] at h15
        simp only [told] at h15
        simp only [gd1, hd1, tl1, dr0, dr1, dr2, dr3, dr4, dr5, dr6, bo1, in1, st1, ls1, le1, pt1, fi1, fb1, fs1, ct1, cf1, nt1, nf1, ak0, akT, akF, cdec, cndec, cbeq, cnbeq, ↓reduceIte, beq_self_eq_true, Int.reduceBEq, Int.reduceEq, Bool.and_true, Bool.true_and, Bool.false_and, Bool.and_false, s8, h9, hx, h15, Bool.not_true, Bool.not_false]
      | none =>
        rw [hs] at h15
        simp only [told] at h15
        have hm : Mild ss := mild_of (scanS_mild hs)
        have h13 := s13 js e e2 ss G.n h2 hm (fun i => ⟨(G.job i).1, (G.job i).2.1⟩)
        by_cases hr : RightP js ws ss
        · obtain ⟨rfl, b2⟩ := B.best ss h2 hr
          simp only [gd1, hd1, tl1, dr0, dr1, dr2, dr3, dr4, dr5, dr6, bo1, in1, st1, ls1, le1, pt1, fi1, fb1, fs1, ct1, cf1, nt1, nf1, ak0, akT, akF, cdec, cndec, cbeq, cnbeq, ↓reduceIte, beq_self_eq_true, Int.reduceBEq, Int.reduceEq, Bool.and_true, Bool.true_and, Bool.false_and, Bool.and_false, s8, h9, hx, h15, hr, decide_true, Bool.not_true, Bool.not_false, h13, b2]
        · simp only [gd1, hd1, tl1, dr0, dr1, dr2, dr3, dr4, dr5, dr6, bo1, in1, st1, ls1, le1, pt1, fi1, fb1, fs1, ct1, cf1, nt1, nf1, ak0, akT, akF, cdec, cndec, cbeq, cnbeq, ↓reduceIte, beq_self_eq_true, Int.reduceBEq, Int.reduceEq, Bool.and_true, Bool.true_and, Bool.false_and, Bool.and_false, gdF, s8, h9, hx, h15, hr, decide_false, Bool.not_true, Bool.not_false]
    · simp only [h1, ne_eq, not_true_eq_false, h2, not_false_eq_true, ↓reduceIte] at h15
      simp only [gd1, hd1, tl1, dr0, dr1, dr2, dr3, dr4, dr5, dr6, bo1, in1, st1, ls1, le1, pt1, fi1, fb1, fs1, ct1, cf1, nt1, nf1, ak0, akT, akF, cdec, cndec, cbeq, cnbeq, ↓reduceIte, beq_self_eq_true, Int.reduceBEq, Int.reduceEq, Bool.and_true, Bool.true_and, Bool.false_and, Bool.and_false, s8, h9, hx, h15, Bool.not_true, Bool.not_false]
  · simp only [h1, ne_eq, not_false_eq_true, ↓reduceIte] at h15
    have h9 := s9bad js ws e e' 2000 h1
    simp only [gd1, hd1, tl1, dr0, dr1, dr2, dr3, dr4, dr5, dr6, bo1, in1, st1, ls1, le1, pt1, fi1, fb1, fs1, ct1, cf1, nt1, nf1, ak0, akT, akF, cdec, cndec, cbeq, cnbeq, ↓reduceIte, beq_self_eq_true, Int.reduceBEq, Int.reduceEq, Bool.and_true, Bool.true_and, Bool.false_and, Bool.and_false, s8, h9, h15, h1, Bool.not_true, Bool.not_false]
set_option maxRecDepth 1000000 in
theorem claim3 (vs : List AV) (h : ArgWt PROG (19 + 1) Try.f3.params.toList vs) : Or (.call 3) vs [] = some [.bool true] := by
  rw [Try.params3] at h
  obtain ⟨a, _, rfl, h1, b, _, rfl, h2, c, _, rfl, h3, rfl⟩ := h
  obtain ⟨e, q, rfl⟩ := jobs_arg h1
  obtain ⟨e', r, rfl, he⟩ := waits_arg h2
  obtain ⟨n, rfl⟩ := int_arg h3
  exact law3 q r n e e' he
set_option maxRecDepth 1000000 in
theorem claim7 (vs : List AV) (h : ArgWt PROG (19 + 1) Try.f7.params.toList vs) : Or (.call 7) vs [] = some [.bool true] := by
  rw [Try.params7] at h
  obtain ⟨a, _, rfl, h1, b, _, rfl, h2, c, _, rfl, h3, rfl⟩ := h
  obtain ⟨e, q, rfl⟩ := jobs_arg h1
  obtain ⟨e', r, rfl, he⟩ := waits_arg h2
  obtain ⟨e2, s, rfl⟩ := ints_arg h3
  exact law7 q r s e e' e2 he
end Go.Aev.Gen
