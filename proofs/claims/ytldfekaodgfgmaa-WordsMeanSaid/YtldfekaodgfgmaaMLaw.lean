/-
  A node of words means what its operation makes.
-/
import Derived.Test.YtldfekaodgfgmaaMSpec
set_option linter.unusedSimpArgs false
set_option linter.unusedVariables false
namespace Go.Aev.Gen
open Go Go.Aev

theorem s9 : Or (.call 9) [] [] = some [tb true] := orc_of_N (n := 60) (by kernel_rfl)
abbrev e0 : ByteArray := ByteArray.mk #[]
abbrev zs : AV := AV.t (T.str e0)
abbrev AK (en : Bool) (nl : List (List T)) : AV := AV.agg [AV.t (T.lst 3 true []), AV.t (T.lst 5 en nl), AV.t (T.lst 1 true [])]
abbrev WD : AV := AV.agg [AV.t (T.lst 5 true [])]
abbrev L1 (e : Bool) (l : List (List T)) : AV := AV.t (T.lst 1 e l)
abbrev r1 : AV := AV.ref (Id.c 1) 0
abbrev r2 : AV := AV.ref (Id.c 2) 0
abbrev wdN (x b : Int) : List T := [ti 15, T.emp true, ti x, ti b, T.str e0]
abbrev opN (o n : Int) (K : List (List T)) : List T := [ti o, T.lst 1 false K, ti n, ti 0, T.str e0]
abbrev NL (o x y b n : Int) (K : List (List T)) : List (List T) := [wdN x b, wdN y b, opN o n K]
theorem w01 : IntKind.i64.wrap (0 + 1) = 1 := by decide
theorem w12 : IntKind.i64.wrap (1 + 1) = 2 := by decide
theorem w23 : IntKind.i64.wrap (2 + 1) = 3 := by decide
theorem n0 : ((([] : List (List T)).length : Nat) : Int) = 0 := rfl
theorem n1 (a : List T) : ((([a] : List (List T)).length : Nat) : Int) = 1 := rfl
theorem n2 (a b : List T) : ((([a, b] : List (List T)).length : Nat) : Int) = 2 := rfl
theorem n3 (a b c : List T) : ((([a, b, c] : List (List T)).length : Nat) : Int) = 3 := rfl
theorem i0 (a : List T) (l : List (List T)) : (a :: l)[(0 : Int).toNat]? = some a := rfl
theorem i1 (a b : List T) (l : List (List T)) : (a :: b :: l)[(1 : Int).toNat]? = some b := rfl
theorem i2 (a b c : List T) (l : List (List T)) : (a :: b :: c :: l)[(2 : Int).toNat]? = some c := rfl
theorem j0 (a : List T) (l : List (List T)) : (a :: l)[0]? = some a := rfl
theorem j1 (a b : List T) (l : List (List T)) : (a :: b :: l)[1]? = some b := rfl
theorem j2 (a b c : List T) (l : List (List T)) : (a :: b :: c :: l)[2]? = some c := rfl
theorem s28 (b : Int) (hb : Wid b) : Or (.call 28) [I (10 + b)] [] = some [tb true] := by
  have h1 : 10 + b > 10 := by unfold Wid at hb; omega
  have h2 : 10 + b ≤ 18 := by unfold Wid at hb; omega
  refine orc_of ?_
  rw [e28]
  simp only [cand, h1, h2, decide_true, Bool.and_true]
theorem s44 (n : Int) : Or (.call 44) [I n] [] = some [ti n, ti 1, T.emp true, ti 0] := orc_of (by rw [e44])
theorem s27 (p q r : Int) : Or (.call 27) [AV.agg [I p, I q, AV.t (T.lst 2 true []), I r]] [] = some [ti p, ti q, T.lst 2 true [], ti r] := by
  have h : Or (.call 34) [AV.t (T.lst 2 true [])] [] = some [T.emp true] := orc_of (by rw [e34]; rfl)
  refine orc_of ?_
  rw [e27]
  simp only [gd1, hd1, tl1, dr0, dr1, dr2, dr3, dr4, dr5, dr6, bo1, in1, st1, ls1, le1, pt1, fi1, fb1, fs1, ct1, cf1, nt1, nf1, ak0, akT, akF, cdec, cndec, cbeq, cnbeq, ↓reduceIte, beq_self_eq_true, Int.reduceBEq, Int.reduceEq, Bool.and_true, Bool.true_and, Bool.false_and, Bool.and_false, h]
theorem s32 : Or (.call 32) [AV.t (T.lst 3 true [])] [] = some [ti 0, ti 0] := by
  have h : Or K32n4 [AV.t (T.lst 3 true []), r0, AV.t (T.lst 3 true []), I 0, I 0] [bx2 0 0] = some [ti 0, ti 0] := by
    refine orc_of ?_
    rw [e32n4]
    rfl
  refine orc_of ?_
  rw [e32]
  exact h
/-! ### Nodes -/
theorem s62 (o : Int) (h : 15 ≤ o ∧ o ≤ 23) : Or (.call 62) [I o] [] = some [ti (opsF o)] := by
  have : o = 15 ∨ o = 16 ∨ o = 17 ∨ o = 18 ∨ o = 19 ∨ o = 20 ∨ o = 21 ∨ o = 22 ∨ o = 23 := by omega
  rcases this with rfl | rfl | rfl | rfl | rfl | rfl | rfl | rfl | rfl
  · exact orc_of (by rw [e62o15]; rfl)
  · exact orc_of (by rw [e62o16]; rfl)
  · exact orc_of (by rw [e62o17]; rfl)
  · exact orc_of (by rw [e62o18]; rfl)
  · exact orc_of (by rw [e62o19]; rfl)
  · exact orc_of (by rw [e62o20]; rfl)
  · exact orc_of (by rw [e62o21]; rfl)
  · exact orc_of (by rw [e62o22]; rfl)
  · exact orc_of (by rw [e62o23]; rfl)
theorem s63 (o n : Int) (ek : Bool) (kl : List (List T)) (h : 16 ≤ o ∧ o ≤ 23) (hn : o = 23 ∨ n = 0) : Or (.call 63) [AV.agg [I o, L1 ek kl, I n, I 0, zs]] [] = some [tb true] := by
  have : (o = 16 ∨ o = 17 ∨ o = 18 ∨ o = 19 ∨ o = 20 ∨ o = 21 ∨ o = 22) ∨ o = 23 := by omega
  rcases this with this | rfl
  · have hn' : n = 0 := by omega
    subst hn'
    rcases this with rfl | rfl | rfl | rfl | rfl | rfl | rfl
    · exact orc_of (by rw [e63o16]; rfl)
    · exact orc_of (by rw [e63o17]; rfl)
    · exact orc_of (by rw [e63o18]; rfl)
    · exact orc_of (by rw [e63o19]; rfl)
    · exact orc_of (by rw [e63o20]; rfl)
    · exact orc_of (by rw [e63o21]; rfl)
    · exact orc_of (by rw [e63o22]; rfl)
  · refine orc_of ?_
    rw [e63o23]
    simp only [cor, Bool.or_true, cond_true, beq_self_eq_true]
theorem s63w (n d : Int) (ek : Bool) (kl : List (List T)) : Or (.call 63) [AV.agg [I 15, L1 ek kl, I n, I d, zs]] [] = some [tb true] := by
  refine orc_of ?_
  rw [e63o15]
  simp only [cor, Bool.or_true, cond_true]
theorem s64 (o b n : Int) (ek : Bool) (kl : List (List T)) (h : 16 ≤ o ∧ o ≤ 23) (hn : o = 23 ∨ n = 0) : Or (.call 64) [AV.agg [I o, L1 ek kl, I n, I 0, zs]] [] = some [tb (decide (FitO o b n))] := by
  have : (o = 16 ∨ o = 17 ∨ o = 18 ∨ o = 19 ∨ o = 20 ∨ o = 21 ∨ o = 22) ∨ o = 23 := by omega
  rcases this with this | rfl
  · have hn' : n = 0 := by omega
    subst hn'
    have hf : decide (FitO o b 0) = true := by
      refine decide_eq_true ?_
      unfold FitO; rw [if_neg (by omega), if_neg (by omega)]
    rw [hf]
    rcases this with rfl | rfl | rfl | rfl | rfl | rfl | rfl
    · exact orc_of (by rw [e64o16])
    · exact orc_of (by rw [e64o17])
    · exact orc_of (by rw [e64o18])
    · exact orc_of (by rw [e64o19])
    · exact orc_of (by rw [e64o20])
    · exact orc_of (by rw [e64o21])
    · exact orc_of (by rw [e64o22])
  · refine orc_of ?_
    rw [e64o23]
    have hf : FitO 23 b n = (0 ≤ n ∧ n ≤ 8) := by unfold FitO; rw [if_neg (by decide), if_pos rfl]
    simp only [hf, cand, ge_iff_le, ← Bool.decide_and]
theorem s64w (n b : Int) (ek : Bool) (kl : List (List T)) (hb : Wid b) (hw : InW n b) : Or (.call 64) [AV.agg [I 15, L1 ek kl, I n, I b, zs]] [] = some [tb true] := by
  have h0 : ¬ b < 0 := by unfold Wid at hb; omega
  have h1 : b ≥ 1 := hb.1
  have h2 : b ≤ 8 := hb.2
  have h3 : n ≥ 0 := hw.1
  have h4 : n < pw b := hw.2
  refine orc_of ?_
  rw [e64o15, pw_shift hb]
  simp only [gd1, hd1, tl1, dr0, dr1, dr2, dr3, dr4, dr5, dr6, bo1, in1, st1, ls1, le1, pt1, fi1, fb1, fs1, ct1, cf1, nt1, nf1, ak0, akT, akF, cdec, cndec, cbeq, cnbeq, ↓reduceIte, beq_self_eq_true, Int.reduceBEq, Int.reduceEq, Bool.and_true, Bool.true_and, Bool.false_and, Bool.and_false, h0, h1, h2, h3, h4, decide_true]
theorem s65w (n b s : Int) (ek es : Bool) (kl : List (List T)) (hb : Wid b) : Or (.call 65) [AV.agg [I 15, L1 ek kl, I n, I b, zs], L1 es [], AV.agg [zs, L1 true [], I s]] [] = some [ti (10 + b)] := by
  have hw : IntKind.i64.wrap (10 + b) = 10 + b := wr (by unfold Wid at hb; omega)
  have h02 : ((0 : Int) == 2) = false := rfl
  refine orc_of ?_
  rw [e65o15]
  simp only [gd1, hd1, tl1, dr0, dr1, dr2, dr3, dr4, dr5, dr6, bo1, in1, st1, ls1, le1, pt1, fi1, fb1, fs1, ct1, cf1, nt1, nf1, ak0, akT, akF, cdec, cndec, cbeq, cnbeq, ↓reduceIte, beq_self_eq_true, Int.reduceBEq, Int.reduceEq, Bool.and_true, Bool.true_and, Bool.false_and, Bool.and_false, gdF, n0, h02, hw]
theorem s65a (o n b s : Int) (ek es : Bool) (kl : List (List T)) (hb : Wid b) (h : o = 16 ∨ o = 23) : Or (.call 65) [AV.agg [I o, L1 ek kl, I n, I 0, zs], L1 es [[ti (10 + b)]], AV.agg [zs, L1 true [], I s]] [] = some [ti (10 + b)] := by
  have h12 : ((1 : Int) == 2) = false := rfl
  have hr : (0 : Int) ≤ 0 ∧ (0 : Int) < 1 := by decide
  have k := s28 b hb
  rcases h with rfl | rfl
  · refine orc_of ?_
    rw [e65o16]
    simp only [gd1, hd1, tl1, dr0, dr1, dr2, dr3, dr4, dr5, dr6, bo1, in1, st1, ls1, le1, pt1, fi1, fb1, fs1, ct1, cf1, nt1, nf1, ak0, akT, akF, cdec, cndec, cbeq, cnbeq, ↓reduceIte, beq_self_eq_true, Int.reduceBEq, Int.reduceEq, Bool.and_true, Bool.true_and, Bool.false_and, Bool.and_false, gdF, n1, h12, hr, and_self, j0, k]
  · refine orc_of ?_
    rw [e65o23]
    simp only [gd1, hd1, tl1, dr0, dr1, dr2, dr3, dr4, dr5, dr6, bo1, in1, st1, ls1, le1, pt1, fi1, fb1, fs1, ct1, cf1, nt1, nf1, ak0, akT, akF, cdec, cndec, cbeq, cnbeq, ↓reduceIte, beq_self_eq_true, Int.reduceBEq, Int.reduceEq, Bool.and_true, Bool.true_and, Bool.false_and, Bool.and_false, gdF, n1, h12, hr, and_self, j0, k]
theorem s65b (o n b s : Int) (ek es : Bool) (kl : List (List T)) (hb : Wid b) (h : 17 ≤ o ∧ o ≤ 22) : Or (.call 65) [AV.agg [I o, L1 ek kl, I n, I 0, zs], L1 es [[ti (10 + b)], [ti (10 + b)]], AV.agg [zs, L1 true [], I s]] [] = some [ti (if o = 22 then 1 else 10 + b)] := by
  have h22 : ((2 : Int) == 2) = true := rfl
  have hr : (0 : Int) ≤ 0 ∧ (0 : Int) < 2 := by decide
  have hr1 : (0 : Int) ≤ 1 ∧ (1 : Int) < 2 := by decide
  have k := s28 b hb
  have : o = 17 ∨ o = 18 ∨ o = 19 ∨ o = 20 ∨ o = 21 ∨ o = 22 := by omega
  rcases this with rfl | rfl | rfl | rfl | rfl | rfl
  · refine orc_of ?_
    rw [e65o17]
    simp only [gd1, hd1, tl1, dr0, dr1, dr2, dr3, dr4, dr5, dr6, bo1, in1, st1, ls1, le1, pt1, fi1, fb1, fs1, ct1, cf1, nt1, nf1, ak0, akT, akF, cdec, cndec, cbeq, cnbeq, ↓reduceIte, beq_self_eq_true, Int.reduceBEq, Int.reduceEq, Bool.and_true, Bool.true_and, Bool.false_and, Bool.and_false, n2, h22, hr, hr1, and_self, j0, j1, k]
  · refine orc_of ?_
    rw [e65o18]
    simp only [gd1, hd1, tl1, dr0, dr1, dr2, dr3, dr4, dr5, dr6, bo1, in1, st1, ls1, le1, pt1, fi1, fb1, fs1, ct1, cf1, nt1, nf1, ak0, akT, akF, cdec, cndec, cbeq, cnbeq, ↓reduceIte, beq_self_eq_true, Int.reduceBEq, Int.reduceEq, Bool.and_true, Bool.true_and, Bool.false_and, Bool.and_false, n2, h22, hr, hr1, and_self, j0, j1, k]
  · refine orc_of ?_
    rw [e65o19]
    simp only [gd1, hd1, tl1, dr0, dr1, dr2, dr3, dr4, dr5, dr6, bo1, in1, st1, ls1, le1, pt1, fi1, fb1, fs1, ct1, cf1, nt1, nf1, ak0, akT, akF, cdec, cndec, cbeq, cnbeq, ↓reduceIte, beq_self_eq_true, Int.reduceBEq, Int.reduceEq, Bool.and_true, Bool.true_and, Bool.false_and, Bool.and_false, n2, h22, hr, hr1, and_self, j0, j1, k]
  · refine orc_of ?_
    rw [e65o20]
    simp only [gd1, hd1, tl1, dr0, dr1, dr2, dr3, dr4, dr5, dr6, bo1, in1, st1, ls1, le1, pt1, fi1, fb1, fs1, ct1, cf1, nt1, nf1, ak0, akT, akF, cdec, cndec, cbeq, cnbeq, ↓reduceIte, beq_self_eq_true, Int.reduceBEq, Int.reduceEq, Bool.and_true, Bool.true_and, Bool.false_and, Bool.and_false, n2, h22, hr, hr1, and_self, j0, j1, k]
  · refine orc_of ?_
    rw [e65o21]
    simp only [gd1, hd1, tl1, dr0, dr1, dr2, dr3, dr4, dr5, dr6, bo1, in1, st1, ls1, le1, pt1, fi1, fb1, fs1, ct1, cf1, nt1, nf1, ak0, akT, akF, cdec, cndec, cbeq, cnbeq, ↓reduceIte, beq_self_eq_true, Int.reduceBEq, Int.reduceEq, Bool.and_true, Bool.true_and, Bool.false_and, Bool.and_false, n2, h22, hr, hr1, and_self, j0, j1, k]
  · refine orc_of ?_
    rw [e65o22]
    simp only [gd1, hd1, tl1, dr0, dr1, dr2, dr3, dr4, dr5, dr6, bo1, in1, st1, ls1, le1, pt1, fi1, fb1, fs1, ct1, cf1, nt1, nf1, ak0, akT, akF, cdec, cndec, cbeq, cnbeq, ↓reduceIte, beq_self_eq_true, Int.reduceBEq, Int.reduceEq, Bool.and_true, Bool.true_and, Bool.false_and, Bool.and_false, n2, h22, hr, hr1, and_self, j0, j1, k]
abbrev dc : Blk := Blk.box [zs, AV.t (T.emp true), I 0]
theorem s33w (en es : Bool) (nl : List (List T)) (i x b : Int) (hb : Wid b) (hx : InW x b) (hi : 0 ≤ i ∧ i < (nl.length : Int)) (hg : nl[i.toNat]? = some (wdN x b)) (sl : List (List T)) : Or (.call 33) [AK en nl, I i, L1 es sl] [] = some [ti (10 + b), ti 0] := by
  have k2 := s62 15 (by omega)
  have ho : opsF 15 = 0 := by decide
  rw [ho] at k2
  have k3 := s63w x b true []
  have k4 := s64w x b true [] hb hx
  have k5 := s65w x b 0 true true [] hb
  have hne : ¬ 10 + b = 0 := by unfold Wid at hb; omega
  have hn : Or K33n16 [I i, L1 es sl, r0, r1, AV.own (Id.c 2), L1 true [], I 0, I 0] [Blk.box [I 15, L1 true [], I x, I b, zs], dc, Blk.sl false 1 true []] = some [ti (10 + b), ti 0] := by
    have h00 : ¬ (0 : Int) < 0 := by omega
    refine orc_of ?_
    rw [e33n16]
    simp only [gd1, hd1, tl1, dr0, dr1, dr2, dr3, dr4, dr5, dr6, bo1, in1, st1, ls1, le1, pt1, fi1, fb1, fs1, ct1, cf1, nt1, nf1, ak0, akT, akF, cdec, cndec, cbeq, cnbeq, ↓reduceIte, beq_self_eq_true, Int.reduceBEq, Int.reduceEq, Bool.and_true, Bool.true_and, Bool.false_and, Bool.and_false, h00, k3, k4, k5, hne]
  have a1 : ¬ (15 : Int) < 1 := by omega
  have a2 : ¬ (15 : Int) > 25 := by omega
  have a3 : ((15 : Int) == 9) = false := rfl
  have a4 : (0 : Int) ≥ 0 := by omega
  have a5 : ¬ (0 : Int) > 8 := by omega
  refine orc_of ?_
  rw [e33]
  simp only [gd1, hd1, tl1, dr0, dr1, dr2, dr3, dr4, dr5, dr6, bo1, in1, st1, ls1, le1, pt1, fi1, fb1, fs1, ct1, cf1, nt1, nf1, ak0, akT, akF, cdec, cndec, cbeq, cnbeq, ↓reduceIte, beq_self_eq_true, Int.reduceBEq, Int.reduceEq, Bool.and_true, Bool.true_and, Bool.false_and, Bool.and_false, hi, and_self, hg, a1, a2, a3, a4, a5, decide_false, decide_true, k2, n0]
  exact hn
end Go.Aev.Gen
