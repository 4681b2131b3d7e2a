/-
  A node of words means what its operation makes: sorts, values.
-/
import Derived.Test.YtldfekaodgfgmaaMLaw
set_option linter.unusedSimpArgs false
set_option linter.unusedVariables false
namespace Go.Aev.Gen
open Go Go.Aev

theorem smk {bs n : Nat} (h : n ≤ 100) : small bs n = some () := by unfold small; rw [if_pos (.inl (by unfold lim; omega))]
abbrev K1 : List (List T) := [[ti 0]]
abbrev K2 : List (List T) := [[ti 0], [ti 1]]
abbrev nb (o n : Int) (K : List (List T)) : Blk := Blk.box [I o, L1 false K, I n, I 0, zs]
theorem nodeEnd (o b n m : Int) (es ec : Bool) (sl K c : List (List T)) (hb : Wid b) (h : 16 ≤ o ∧ o ≤ 23) (hn : o = 23 ∨ n = 0) (s : Int) (hs : s ≠ 0) (i : Int)
    (h65 : Or (.call 65) [AV.agg [I o, L1 false K, I n, I 0, zs], L1 ec c, AV.agg [zs, L1 true [], I 0]] [] = some [ti s]) :
    Or K33n16 [I i, L1 es sl, r0, r1, AV.own (Id.c 2), L1 false K, I m, I m] [nb o n K, dc, Blk.sl false 1 ec c] = some (if FitO o b n then [ti s, ti 0] else [ti 0, ti 3]) := by
  have k3 := s63 o n false K h hn
  have k4 := s64 o b n false K h hn
  have h00 : ¬ m < m := by omega
  by_cases hf : FitO o b n
  · rw [if_pos hf]
    rw [decide_eq_true hf] at k4
    refine orc_of ?_
    rw [e33n16]
    simp only [gd1, hd1, tl1, dr0, dr1, dr2, dr3, dr4, dr5, dr6, bo1, in1, st1, ls1, le1, pt1, fi1, fb1, fs1, ct1, cf1, nt1, nf1, ak0, akT, akF, cdec, cndec, cbeq, cnbeq, ↓reduceIte, beq_self_eq_true, Int.reduceBEq, Int.reduceEq, Bool.and_true, Bool.true_and, Bool.false_and, Bool.and_false, h00, k3, k4, h65, hs]
  · rw [if_neg hf]
    rw [decide_eq_false hf] at k4
    refine orc_of ?_
    rw [e33n16]
    simp only [gd1, hd1, tl1, dr0, dr1, dr2, dr3, dr4, dr5, dr6, bo1, in1, st1, ls1, le1, pt1, fi1, fb1, fs1, ct1, cf1, nt1, nf1, ak0, akT, akF, cdec, cndec, cbeq, cnbeq, ↓reduceIte, beq_self_eq_true, Int.reduceBEq, Int.reduceEq, Bool.and_true, Bool.true_and, Bool.false_and, Bool.and_false, h00, k3, k4]
theorem s33o (o b n x y : Int) (K : List (List T)) (m : Int) (hK : (K.length : Int) = m) (hm : m = opsF o) (es : Bool) (sl : List (List T)) (h : 16 ≤ o ∧ o ≤ 23) (R : List T)
    (hk : Or K33n16 [I 2, L1 es sl, r0, r1, AV.own (Id.c 2), L1 false K, I m, I 0] [nb o n K, dc, Blk.sl false 1 true []] = some R) :
    Or (.call 33) [AK false (NL o x y b n K), I 2, L1 es sl] [] = some R := by
  have k2 := s62 o (by omega)
  rw [← hm] at k2
  have a1 : ¬ o < 1 := by omega
  have a2 : ¬ o > 25 := by omega
  have a3 : ¬ o = 9 := by omega
  have hmm := ops_le o
  have a4 : m ≥ 0 := by rw [← hK]; omega
  have a5 : ¬ m > 8 := by omega
  have hr : (0 : Int) ≤ 2 ∧ (2 : Int) < 3 := by decide
  refine orc_of ?_
  rw [e33]
  simp only [gd1, hd1, tl1, dr0, dr1, dr2, dr3, dr4, dr5, dr6, bo1, in1, st1, ls1, le1, pt1, fi1, fb1, fs1, ct1, cf1, nt1, nf1, ak0, akT, akF, cdec, cndec, cbeq, cnbeq, ↓reduceIte, beq_self_eq_true, Int.reduceBEq, Int.reduceEq, Bool.and_true, Bool.true_and, Bool.false_and, Bool.and_false, n3, hr, and_self, i2, a1, a2, a3, a4, a5, decide_false, decide_true, k2, hK]
  exact hk
theorem s33a (o b n x y : Int) (es : Bool) (hb : Wid b) (h : o = 16 ∨ o = 23) (hn : o = 23 ∨ n = 0) : Or (.call 33) [AK false (NL o x y b n K1), I 2, L1 es [[ti (10 + b)], [ti (10 + b)]]] [] = some (if FitO o b n then [ti (10 + b), ti 0] else [ti 0, ti 3]) := by
  have ho : opsF o = 1 := by rcases h with rfl | rfl <;> decide
  refine s33o o b n x y K1 1 rfl ho.symm es _ (by omega) _ ?_
  have he := nodeEnd o b n 1 es (true && false) [[ti (10 + b)], [ti (10 + b)]] K1 ([] ++ [[ti (10 + b)]]) hb (by omega) hn (10 + b) (by unfold Wid at hb; omega) 2 (s65a o n b 0 false _ K1 hb h)
  have c1 : (0 : Int) < 1 := by decide
  have c2 : (0 : Int) ≤ 0 ∧ (0 : Int) < 1 := by decide
  have c3 : ¬ (0 : Int) < 0 := by decide
  have c4 : ¬ (0 : Int) ≥ 2 := by decide
  have c5 : (0 : Int) ≤ 0 ∧ (0 : Int) < 2 := by decide
  have hs : small 8 (([] : List (List T)).length + [[ti (10 + b)]].length) = some () := smk (by simp)
  refine orc_of ?_
  rw [e33n16]
  simp only [gd1, hd1, tl1, dr0, dr1, dr2, dr3, dr4, dr5, dr6, bo1, in1, st1, ls1, le1, pt1, fi1, fb1, fs1, ct1, cf1, nt1, nf1, ak0, akT, akF, cdec, cndec, cbeq, cnbeq, ↓reduceIte, beq_self_eq_true, Int.reduceBEq, Int.reduceEq, Bool.and_true, Bool.true_and, Bool.false_and, Bool.and_false, n1, n2, c1, c2, c3, c4, c5, and_self, i0, decide_false, decide_true, hs, w01]
  rw [Bool.and_false] at he
  exact he
theorem s33b (o b n x y : Int) (es : Bool) (hb : Wid b) (h : 17 ≤ o ∧ o ≤ 22) (hn : o = 23 ∨ n = 0) : Or (.call 33) [AK false (NL o x y b n K2), I 2, L1 es [[ti (10 + b)], [ti (10 + b)]]] [] = some (if FitO o b n then [ti (if o = 22 then 1 else 10 + b), ti 0] else [ti 0, ti 3]) := by
  have ho : opsF o = 2 := by unfold opsF; rw [if_neg (by omega), if_neg (by omega)]
  refine s33o o b n x y K2 2 rfl ho.symm es _ (by omega) _ ?_
  have he := nodeEnd o b n 2 es ((true && false) && false) [[ti (10 + b)], [ti (10 + b)]] K2 (([] ++ [[ti (10 + b)]]) ++ [[ti (10 + b)]]) hb (by omega) hn (if o = 22 then 1 else 10 + b) (by unfold Wid at hb; split <;> omega) 2 (s65b o n b 0 false _ K2 hb h)
  have c1 : (0 : Int) < 2 := by decide
  have c1b : (1 : Int) < 2 := by decide
  have c2 : (0 : Int) ≤ 0 ∧ (0 : Int) < 2 := by decide
  have c2b : (0 : Int) ≤ 1 ∧ (1 : Int) < 2 := by decide
  have c3 : ¬ (0 : Int) < 0 := by decide
  have c3b : ¬ (1 : Int) < 0 := by decide
  have c4 : ¬ (0 : Int) ≥ 2 := by decide
  have c4b : ¬ (1 : Int) ≥ 2 := by decide
  have hs : small 8 (([] : List (List T)).length + [[ti (10 + b)]].length) = some () := smk (by simp)
  have hs2 : small 8 (([] ++ [[ti (10 + b)]] : List (List T)).length + [[ti (10 + b)]].length) = some () := smk (by simp)
  have h1 : Or K33n16 [I 2, L1 es [[ti (10 + b)], [ti (10 + b)]], r0, r1, AV.own (Id.c 2), L1 false K2, I 2, I 1] [nb o n K2, dc, Blk.sl false 1 (true && false) ([] ++ [[ti (10 + b)]])] = some (if FitO o b n then [ti (if o = 22 then 1 else 10 + b), ti 0] else [ti 0, ti 3]) := by
    refine orc_of ?_
    rw [e33n16]
    simp only [gd1, hd1, tl1, dr0, dr1, dr2, dr3, dr4, dr5, dr6, bo1, in1, st1, ls1, le1, pt1, fi1, fb1, fs1, ct1, cf1, nt1, nf1, ak0, akT, akF, cdec, cndec, cbeq, cnbeq, ↓reduceIte, beq_self_eq_true, Int.reduceBEq, Int.reduceEq, Bool.and_true, Bool.true_and, Bool.false_and, Bool.and_false, n2, c1b, c2b, c3b, c4b, and_self, i1, decide_false, decide_true, hs2, w12]
    simp only [Bool.and_false] at he
    exact he
  refine orc_of ?_
  rw [e33n16]
  simp only [gd1, hd1, tl1, dr0, dr1, dr2, dr3, dr4, dr5, dr6, bo1, in1, st1, ls1, le1, pt1, fi1, fb1, fs1, ct1, cf1, nt1, nf1, ak0, akT, akF, cdec, cndec, cbeq, cnbeq, ↓reduceIte, beq_self_eq_true, Int.reduceBEq, Int.reduceEq, Bool.and_true, Bool.true_and, Bool.false_and, Bool.and_false, n2, c1, c2, c3, c4, and_self, i0, decide_false, decide_true, hs, w01]
  rw [Bool.and_false] at h1
  exact h1
/-! ### Sorts -/
abbrev ab (en : Bool) (nl : List (List T)) : Blk := Blk.box [AV.t (T.lst 3 true []), AV.t (T.lst 5 en nl), AV.t (T.lst 1 true [])]
abbrev srt (b s : Int) : List (List T) := [[ti (10 + b)], [ti (10 + b)], [ti s]]
theorem s26 (o b n x y s : Int) (K : List (List T)) (hb : Wid b) (hx : InW x b) (hy : InW y b)
    (hk : ∀ es, Or (.call 33) [AK false (NL o x y b n K), I 2, L1 es [[ti (10 + b)], [ti (10 + b)]]] [] = some (if FitO o b n then [ti s, ti 0] else [ti 0, ti 3])) :
    Or (.call 26) [AK false (NL o x y b n K)] [] = some (if FitO o b n then [T.lst 1 false (srt b s), ti 0, ti 0] else [T.emp true, ti 3, ti 2]) := by
  have h0 := s33w false true (NL o x y b n K) 0 x b hb hx (by rw [n3]; decide) rfl []
  have h1 := s33w false false (NL o x y b n K) 1 y b hb hy (by rw [n3]; decide) rfl [[ti (10 + b)]]
  have h2 := hk false
  have q3 : Or K26n8 [r0, r1, AV.own (Id.c 2), I 3, I 3] [ab false (NL o x y b n K), bx2 0 0, Blk.sl false 1 false (srt b s)] = some [T.lst 1 false (srt b s), ti 0, ti 0] := by
    have z : Or K26n18 [r0, AV.own (Id.c 1), L1 true [], I 0, I 0] [bx2 0 0, Blk.sl false 1 false (srt b s)] = some [T.lst 1 false (srt b s), ti 0, ti 0] := by
      refine orc_of ?_
      rw [e26n18]
      have c : ¬ (0 : Int) < 0 := by decide
      simp only [gd1, hd1, tl1, dr0, dr1, dr2, dr3, dr4, dr5, dr6, bo1, in1, st1, ls1, le1, pt1, fi1, fb1, fs1, ct1, cf1, nt1, nf1, ak0, akT, akF, cdec, cndec, cbeq, cnbeq, ↓reduceIte, beq_self_eq_true, Int.reduceBEq, Int.reduceEq, Bool.and_true, Bool.true_and, Bool.false_and, Bool.and_false, c]
    have c : ¬ (3 : Int) < 3 := by decide
    have d : ¬ (0 : Int) > 200 := by decide
    refine orc_of ?_
    rw [e26n8]
    simp only [gd1, hd1, tl1, dr0, dr1, dr2, dr3, dr4, dr5, dr6, bo1, in1, st1, ls1, le1, pt1, fi1, fb1, fs1, ct1, cf1, nt1, nf1, ak0, akT, akF, cdec, cndec, cbeq, cnbeq, ↓reduceIte, beq_self_eq_true, Int.reduceBEq, Int.reduceEq, Bool.and_true, Bool.true_and, Bool.false_and, Bool.and_false, c, d, n0]
    exact z
  have q2 : Or K26n8 [r0, r1, AV.own (Id.c 2), I 3, I 2] [ab false (NL o x y b n K), bx2 0 0, Blk.sl false 1 false [[ti (10 + b)], [ti (10 + b)]]] = some (if FitO o b n then [T.lst 1 false (srt b s), ti 0, ti 0] else [T.emp true, ti 3, ti 2]) := by
    have c : (2 : Int) < 3 := by decide
    have hs : small 8 (([[ti (10 + b)], [ti (10 + b)]] : List (List T)).length + [[ti s]].length) = some () := smk (by simp)
    by_cases hf : FitO o b n
    · rw [if_pos hf] at h2 ⊢
      refine orc_of ?_
      rw [e26n8]
      simp only [gd1, hd1, tl1, dr0, dr1, dr2, dr3, dr4, dr5, dr6, bo1, in1, st1, ls1, le1, pt1, fi1, fb1, fs1, ct1, cf1, nt1, nf1, ak0, akT, akF, cdec, cndec, cbeq, cnbeq, ↓reduceIte, beq_self_eq_true, Int.reduceBEq, Int.reduceEq, Bool.and_true, Bool.true_and, Bool.false_and, Bool.and_false, c, h2, hs, w23]
      exact q3
    · rw [if_neg hf] at h2 ⊢
      refine orc_of ?_
      rw [e26n8]
      simp only [gd1, hd1, tl1, dr0, dr1, dr2, dr3, dr4, dr5, dr6, bo1, in1, st1, ls1, le1, pt1, fi1, fb1, fs1, ct1, cf1, nt1, nf1, ak0, akT, akF, cdec, cndec, cbeq, cnbeq, ↓reduceIte, beq_self_eq_true, Int.reduceBEq, Int.reduceEq, Bool.and_true, Bool.true_and, Bool.false_and, Bool.and_false, c, h2]
  have q1 : Or K26n8 [r0, r1, AV.own (Id.c 2), I 3, I 1] [ab false (NL o x y b n K), bx2 0 0, Blk.sl false 1 false [[ti (10 + b)]]] = some (if FitO o b n then [T.lst 1 false (srt b s), ti 0, ti 0] else [T.emp true, ti 3, ti 2]) := by
    have c : (1 : Int) < 3 := by decide
    have hs : small 8 (([[ti (10 + b)]] : List (List T)).length + [[ti (10 + b)]].length) = some () := smk (by simp)
    refine orc_of ?_
    rw [e26n8]
    simp only [gd1, hd1, tl1, dr0, dr1, dr2, dr3, dr4, dr5, dr6, bo1, in1, st1, ls1, le1, pt1, fi1, fb1, fs1, ct1, cf1, nt1, nf1, ak0, akT, akF, cdec, cndec, cbeq, cnbeq, ↓reduceIte, beq_self_eq_true, Int.reduceBEq, Int.reduceEq, Bool.and_true, Bool.true_and, Bool.false_and, Bool.and_false, c, h1, hs, w12]
    exact q2
  have q0 : Or K26n8 [r0, r1, AV.own (Id.c 2), I 3, I 0] [ab false (NL o x y b n K), bx2 0 0, Blk.sl false 1 true []] = some (if FitO o b n then [T.lst 1 false (srt b s), ti 0, ti 0] else [T.emp true, ti 3, ti 2]) := by
    have c : (0 : Int) < 3 := by decide
    have hs : small 8 (([] : List (List T)).length + [[ti (10 + b)]].length) = some () := smk (by simp)
    refine orc_of ?_
    rw [e26n8]
    simp only [gd1, hd1, tl1, dr0, dr1, dr2, dr3, dr4, dr5, dr6, bo1, in1, st1, ls1, le1, pt1, fi1, fb1, fs1, ct1, cf1, nt1, nf1, ak0, akT, akF, cdec, cndec, cbeq, cnbeq, ↓reduceIte, beq_self_eq_true, Int.reduceBEq, Int.reduceEq, Bool.and_true, Bool.true_and, Bool.false_and, Bool.and_false, c, h0, hs, w01]
    exact q1
  have d : ¬ (3 : Int) > 200 := by decide
  have k := s32
  refine orc_of ?_
  rw [e26]
  simp only [gd1, hd1, tl1, dr0, dr1, dr2, dr3, dr4, dr5, dr6, bo1, in1, st1, ls1, le1, pt1, fi1, fb1, fs1, ct1, cf1, nt1, nf1, ak0, akT, akF, cdec, cndec, cbeq, cnbeq, ↓reduceIte, beq_self_eq_true, Int.reduceBEq, Int.reduceEq, Bool.and_true, Bool.true_and, Bool.false_and, Bool.and_false, k, n3, d]
  exact q0
theorem s25 (o b n x y s : Int) (K : List (List T)) (h26 : Or (.call 26) [AK false (NL o x y b n K)] [] = some (if FitO o b n then [T.lst 1 false (srt b s), ti 0, ti 0] else [T.emp true, ti 3, ti 2])) :
    Or (.call 25) [AK false (NL o x y b n K), WD] [] = some (if FitO o b n then [ti 0, ti 0] else [ti 3, ti 2]) := by
  have z : Or K25n7 [r0, r1, AV.t (T.lst 3 true []), I 0, I 0] [Blk.box [AV.t (T.lst 5 true [])], bx2 0 0] = some [ti 0, ti 0] := by
    have c : ¬ (0 : Int) < 0 := by decide
    refine orc_of ?_
    rw [e25n7]
    simp only [gd1, hd1, tl1, dr0, dr1, dr2, dr3, dr4, dr5, dr6, bo1, in1, st1, ls1, le1, pt1, fi1, fb1, fs1, ct1, cf1, nt1, nf1, ak0, akT, akF, cdec, cndec, cbeq, cnbeq, ↓reduceIte, beq_self_eq_true, Int.reduceBEq, Int.reduceEq, Bool.and_true, Bool.true_and, Bool.false_and, Bool.and_false, c]
  by_cases hf : FitO o b n
  · rw [if_pos hf] at h26 ⊢
    have h30 : Or (.call 30) [AK false (NL o x y b n K)] [] = some [ti 0, ti 0] := by
      refine orc_of ?_
      rw [e30]
      simp only [gd1, hd1, tl1, dr0, dr1, dr2, dr3, dr4, dr5, dr6, bo1, in1, st1, ls1, le1, pt1, fi1, fb1, fs1, ct1, cf1, nt1, nf1, ak0, akT, akF, cdec, cndec, cbeq, cnbeq, ↓reduceIte, beq_self_eq_true, Int.reduceBEq, Int.reduceEq, Bool.and_true, Bool.true_and, Bool.false_and, Bool.and_false, h26]
    refine orc_of ?_
    rw [e25]
    simp only [gd1, hd1, tl1, dr0, dr1, dr2, dr3, dr4, dr5, dr6, bo1, in1, st1, ls1, le1, pt1, fi1, fb1, fs1, ct1, cf1, nt1, nf1, ak0, akT, akF, cdec, cndec, cbeq, cnbeq, ↓reduceIte, beq_self_eq_true, Int.reduceBEq, Int.reduceEq, Bool.and_true, Bool.true_and, Bool.false_and, Bool.and_false, h30]
    exact z
  · rw [if_neg hf] at h26 ⊢
    have h30 : Or (.call 30) [AK false (NL o x y b n K)] [] = some [ti 3, ti 2] := by
      refine orc_of ?_
      rw [e30]
      simp only [gd1, hd1, tl1, dr0, dr1, dr2, dr3, dr4, dr5, dr6, bo1, in1, st1, ls1, le1, pt1, fi1, fb1, fs1, ct1, cf1, nt1, nf1, ak0, akT, akF, cdec, cndec, cbeq, cnbeq, ↓reduceIte, beq_self_eq_true, Int.reduceBEq, Int.reduceEq, Bool.and_true, Bool.true_and, Bool.false_and, Bool.and_false, h26]
    refine orc_of ?_
    rw [e25]
    simp only [gd1, hd1, tl1, dr0, dr1, dr2, dr3, dr4, dr5, dr6, bo1, in1, st1, ls1, le1, pt1, fi1, fb1, fs1, ct1, cf1, nt1, nf1, ak0, akT, akF, cdec, cndec, cbeq, cnbeq, ↓reduceIte, beq_self_eq_true, Int.reduceBEq, Int.reduceEq, Bool.and_true, Bool.true_and, Bool.false_and, Bool.and_false, h30]
/-! ### Values -/
abbrev V (x : Int) : List T := [ti x, ti 1, T.lst 2 true [], ti 0]
abbrev vb : Blk := Blk.box [I 0, I 0, AV.t (T.emp true), I 0]
theorem valEnd (o b n w c d m : Int) (ek e ev : Bool) (K : List (List T)) (ks : List Int) (vl : List (List T)) (D : Int) (hw : doF o b ks n = [ti w, ti c, ti d]) :
    Or K29n41 [I b, r0, r1, AV.own (Id.c 2), AV.t (T.lst 4 ev vl), I m, I m] [Blk.box [I o, L1 ek K, I n, I D, zs], vb, Blk.sl false 1 e (enc ks)] = some [ti w, ti 1, T.lst 2 true [], ti 0, tb true] := by
  have k := s8 o b e ks n
  rw [hw] at k
  have k2 := s44 w
  have h : ¬ m < m := by omega
  refine orc_of ?_
  rw [e29n41]
  simp only [gd1, hd1, tl1, dr0, dr1, dr2, dr3, dr4, dr5, dr6, bo1, in1, st1, ls1, le1, pt1, fi1, fb1, fs1, ct1, cf1, nt1, nf1, ak0, akT, akF, cdec, cndec, cbeq, cnbeq, ↓reduceIte, beq_self_eq_true, Int.reduceBEq, Int.reduceEq, Bool.and_true, Bool.true_and, Bool.false_and, Bool.and_false, h, k, k2]
theorem e29any (o : Int) (h : 15 ≤ o ∧ o ≤ 23) (en : Bool) (nl : List (List T)) (s n D : Int) (ek : Bool) (kl : List (List T)) (ev : Bool) (vl : List (List T)) (b : Int) (R : List T)
    (hk : Or K29n41 [I b, r0, r1, AV.own (Id.c 2), AV.t (T.lst 4 ev vl), I (vl.length : Int), I 0] [Blk.box [I o, L1 ek kl, I n, I D, zs], vb, Blk.sl false 1 true []] = some R) :
    Or (.call 29) [AK en nl, WD, I s, AV.agg [I o, L1 ek kl, I n, I D, zs], AV.t (T.lst 4 ev vl), I b] [] = some R := by
  have : o = 15 ∨ o = 16 ∨ o = 17 ∨ o = 18 ∨ o = 19 ∨ o = 20 ∨ o = 21 ∨ o = 22 ∨ o = 23 := by omega
  rcases this with rfl | rfl | rfl | rfl | rfl | rfl | rfl | rfl | rfl
  · exact orc_of (by rw [e29o15]; exact hk)
  · exact orc_of (by rw [e29o16]; exact hk)
  · exact orc_of (by rw [e29o17]; exact hk)
  · exact orc_of (by rw [e29o18]; exact hk)
  · exact orc_of (by rw [e29o19]; exact hk)
  · exact orc_of (by rw [e29o20]; exact hk)
  · exact orc_of (by rw [e29o21]; exact hk)
  · exact orc_of (by rw [e29o22]; exact hk)
  · exact orc_of (by rw [e29o23]; exact hk)
theorem valStep (o b n m i x D : Int) (ek e ev : Bool) (K : List (List T)) (c vl : List (List T)) (R : List T) (hi : 0 ≤ i ∧ i < (vl.length : Int)) (him : i < m) (hg : vl[i.toNat]? = some (V x)) (hc : c.length ≤ 5) (j : Int) (hj : IntKind.i64.wrap (i + 1) = j)
    (hk : Or K29n41 [I b, r0, r1, AV.own (Id.c 2), AV.t (T.lst 4 ev vl), I m, I j] [Blk.box [I o, L1 ek K, I n, I D, zs], vb, Blk.sl false 1 false (c ++ [[ti x]])] = some R) :
    Or K29n41 [I b, r0, r1, AV.own (Id.c 2), AV.t (T.lst 4 ev vl), I m, I i] [Blk.box [I o, L1 ek K, I n, I D, zs], vb, Blk.sl false 1 e c] = some R := by
  have hs : small 8 (c.length + [[ti x]].length) = some () := smk (by simp; omega)
  refine orc_of ?_
  rw [e29n41]
  simp only [gd1, hd1, tl1, dr0, dr1, dr2, dr3, dr4, dr5, dr6, bo1, in1, st1, ls1, le1, pt1, fi1, fb1, fs1, ct1, cf1, nt1, nf1, ak0, akT, akF, cdec, cndec, cbeq, cnbeq, ↓reduceIte, beq_self_eq_true, Int.reduceBEq, Int.reduceEq, Bool.and_true, Bool.true_and, Bool.false_and, Bool.and_false, him, hi, and_self, hg, hs, hj]
  exact hk
theorem s29w (en : Bool) (nl : List (List T)) (s x b w c d : Int) (hw : doF 15 b [] x = [ti w, ti c, ti d]) : Or (.call 29) [AK en nl, WD, I s, AV.agg [I 15, L1 true [], I x, I b, zs], AV.t (T.lst 4 true []), I b] [] = some [ti w, ti 1, T.lst 2 true [], ti 0, tb true] :=
  e29any 15 (by omega) en nl s x b true [] true [] b _ (valEnd 15 b x w c d 0 true true true [] [] [] b hw)
theorem s29a (o : Int) (h : 15 ≤ o ∧ o ≤ 23) (en ev : Bool) (nl K : List (List T)) (s x b n w c d : Int) (hw : doF o b [x] n = [ti w, ti c, ti d]) : Or (.call 29) [AK en nl, WD, I s, AV.agg [I o, L1 false K, I n, I 0, zs], AV.t (T.lst 4 ev [V x]), I b] [] = some [ti w, ti 1, T.lst 2 true [], ti 0, tb true] :=
  e29any o h en nl s n 0 false K ev [V x] b _ (valStep o b n 1 0 x 0 false true ev K [] [V x] _ (by rw [n1]; decide) (by omega) rfl (by simp) 1 w01 (valEnd o b n w c d 1 false false ev K [x] [V x] 0 hw))
theorem s29b (o : Int) (h : 15 ≤ o ∧ o ≤ 23) (en ev : Bool) (nl K : List (List T)) (s x y b n w c d : Int) (hw : doF o b [x, y] n = [ti w, ti c, ti d]) : Or (.call 29) [AK en nl, WD, I s, AV.agg [I o, L1 false K, I n, I 0, zs], AV.t (T.lst 4 ev [V x, V y]), I b] [] = some [ti w, ti 1, T.lst 2 true [], ti 0, tb true] :=
  e29any o h en nl s n 0 false K ev [V x, V y] b _ (valStep o b n 2 0 x 0 false true ev K [] [V x, V y] _ (by rw [n2]; decide) (by omega) rfl (by simp) 1 w01
    (valStep o b n 2 1 y 0 false false ev K ([] ++ [[ti x]]) [V x, V y] _ (by rw [n2]; decide) (by omega) rfl (by simp) 2 w12 (valEnd o b n w c d 2 false false ev K [x, y] [V x, V y] 0 hw)))
end Go.Aev.Gen
