/-
  Clauses that are right pass the checks.
-/
import Derived.Test.YtmpjdngpblfecaaYBits
set_option linter.unusedSimpArgs false
set_option linter.unusedVariables false
namespace Go.Aev.Gen
open Go Go.Aev

structure ClOk (v : Nat) (l : List Int) : Prop where
  lit : ∀ x ∈ l, LOk v x
  len : l.length ≤ 3
  nd : (l.map Int.natAbs).Nodup
theorem inB_ok {lo hi n : Int} (h : 0 ≤ lo ∧ lo ≤ hi ∧ hi ≤ n) : inB lo hi n = some () := by unfold inB; rw [if_pos h]
theorem sub_enc (l : List Int) (j : Nat) : sub 0 (j : Int) (enc l) = enc (l.take j) := by
  unfold sub enc
  simp [List.map_take]
theorem s48 (x y : Int) (hx : -1000 ≤ x ∧ x ≤ 1000) (hy : -1000 ≤ y ∧ y ≤ 1000) (h : x.natAbs ≠ y.natAbs) : Or (.call 48) [I x, AV.t (T.ptr [ti y])] [] = some [tb false] := by
  have k1 := s36 x hx
  have k2 := s36 y hy
  have hb : ((x.natAbs : Int) == (y.natAbs : Int)) = false := beq_eq_false_iff_ne.2 (by omega)
  refine orc_of ?_
  rw [e48]
  simp only [gd1, hd1, tl1, dr0, dr1, dr2, dr3, dr4, dr5, dr6, bo1, in1, st1, ls1, le1, pt1, fi1, fb1, fs1, ct1, cf1, nt1, nf1, ak0, akT, akF, cdec, cndec, cbeq, cnbeq, ↓reduceIte, beq_self_eq_true, Int.reduceBEq, Int.reduceEq, Bool.and_true, Bool.true_and, Bool.false_and, Bool.and_false, k1, k2, hb]
theorem n35d (e : Bool) (l : List Int) (y : Int) (hy : -1000 ≤ y ∧ y ≤ 1000) (hl : ∀ x ∈ l, (-1000 ≤ x ∧ x ≤ 1000) ∧ x.natAbs ≠ y.natAbs) (hn : l.length ≤ 1000) : ∀ (rest : List Int) (i : Nat), l.drop i = rest →
    Or K35n2 [lst e l, AV.fn 48 [] [AV.t (T.ptr [ti y])], I (l.length : Int), I (i : Int)] [] = some [ti (-1)] := by
  intro rest
  induction rest with
  | nil =>
    intro i g
    have h1 : ¬ (i : Int) < (l.length : Int) := by have := at_end g; omega
    refine orc_of ?_
    rw [e35n2s2]
    simp only [gd1, hd1, tl1, dr0, dr1, dr2, dr3, dr4, dr5, dr6, bo1, in1, st1, ls1, le1, pt1, fi1, fb1, fs1, ct1, cf1, nt1, nf1, ak0, akT, akF, cdec, cndec, cbeq, cnbeq, ↓reduceIte, beq_self_eq_true, Int.reduceBEq, Int.reduceEq, Bool.and_true, Bool.true_and, Bool.false_and, Bool.and_false, h1]
  | cons x rest ih =>
    intro i g
    obtain ⟨g1, g2, g3⟩ := at_drop g
    have h1 : (i : Int) < (l.length : Int) := by omega
    have h0 : 0 ≤ (i : Int) := by omega
    obtain ⟨hx, hne⟩ := hl x (List.mem_of_getElem? g1)
    have k := s48 x y hx hy hne
    have := ih (i + 1) g3
    refine orc_of ?_
    rw [e35n2s2]
    simp only [gd1, hd1, tl1, dr0, dr1, dr2, dr3, dr4, dr5, dr6, bo1, in1, st1, ls1, le1, pt1, fi1, fb1, fs1, ct1, cf1, nt1, nf1, ak0, akT, akF, cdec, cndec, cbeq, cnbeq, ↓reduceIte, beq_self_eq_true, Int.reduceBEq, Int.reduceEq, Bool.and_true, Bool.true_and, Bool.false_and, Bool.and_false, h1, h0, and_self, enc_len, enc_get g1, k, next i (by omega)]
    exact this
theorem s28d (e : Bool) (l : List Int) (y : Int) (hy : -1000 ≤ y ∧ y ≤ 1000) (hl : ∀ x ∈ l, (-1000 ≤ x ∧ x ≤ 1000) ∧ x.natAbs ≠ y.natAbs) (hn : l.length ≤ 1000) : Or (.call 28) [lst e l, AV.fn 48 [] [AV.t (T.ptr [ti y])]] [] = some [tb false] := by
  have k := n35d e l y hy hl hn l 0 rfl
  have k35 : Or (.call 35) [lst e l, AV.fn 48 [] [AV.t (T.ptr [ti y])]] [] = some [ti (-1)] := by
    refine orc_of ?_
    rw [e35s2]
    simp only [enc_len]
    exact k
  refine orc_of ?_
  rw [e28s2]
  simp only [gd1, hd1, tl1, dr0, dr1, dr2, dr3, dr4, dr5, dr6, bo1, in1, st1, ls1, le1, pt1, fi1, fb1, fs1, ct1, cf1, nt1, nf1, ak0, akT, akF, cdec, cndec, cbeq, cnbeq, ↓reduceIte, beq_self_eq_true, Int.reduceBEq, Int.reduceEq, Bool.and_true, Bool.true_and, Bool.false_and, Bool.and_false, k35]
  rfl
theorem n34 (e : Bool) (v : Nat) (hv : v ≤ 100) (l : List Int) (ok : ClOk v l) : ∀ (rest : List Int) (i : Nat), l.drop i = rest → Or K34n2 [lst e l, I (v : Int), lst e l, I (l.length : Int), I (i : Int)] [] = some [ti 0, ti 0] := by
  have hlen := ok.len
  intro rest
  induction rest with
  | nil =>
    intro i g
    have h1 : ¬ (i : Int) < (l.length : Int) := by have := at_end g; omega
    refine orc_of ?_
    rw [e34n2]
    simp only [gd1, hd1, tl1, dr0, dr1, dr2, dr3, dr4, dr5, dr6, bo1, in1, st1, ls1, le1, pt1, fi1, fb1, fs1, ct1, cf1, nt1, nf1, ak0, akT, akF, cdec, cndec, cbeq, cnbeq, ↓reduceIte, beq_self_eq_true, Int.reduceBEq, Int.reduceEq, Bool.and_true, Bool.true_and, Bool.false_and, Bool.and_false, h1]
  | cons x rest ih =>
    intro i g
    obtain ⟨g1, g2, g3⟩ := at_drop g
    have h1 : (i : Int) < (l.length : Int) := by omega
    have h0 : 0 ≤ (i : Int) := by omega
    obtain ⟨x0, x1, x2⟩ := ok.lit x (List.mem_of_getElem? g1)
    have w : IntKind.i64.wrap (0 - (v : Int)) = -(v : Int) := by rw [wr (by omega)]; omega
    have c1 : ¬ x < -(v : Int) := by omega
    have c2 : ¬ x > (v : Int) := by omega
    have hin : inB 0 (i : Int) (l.length : Int) = some () := inB_ok (by omega)
    have hd : ∀ y ∈ l.take i, (-1000 ≤ y ∧ y ≤ 1000) ∧ y.natAbs ≠ x.natAbs := fun y hy => by
      obtain ⟨y0, y1, y2⟩ := ok.lit y (List.mem_of_mem_take hy)
      refine ⟨by omega, fun he => ?_⟩
      obtain ⟨j, hj, ej⟩ := List.getElem_of_mem hy
      have hj' : j < i := by rw [List.length_take] at hj; omega
      rw [List.getElem_take] at ej
      have := List.nodup_iff_pairwise_ne.1 ok.nd
      rw [List.pairwise_iff_getElem] at this
      have hx : l[i]'g2 = x := by
        have := List.getElem?_eq_getElem g2
        rw [g1] at this
        exact (Option.some.inj this).symm
      have := this j i (by simpa using (by omega : j < l.length)) (by simpa using g2) hj'
      simp only [List.getElem_map] at this
      rw [ej, hx] at this
      exact this he
    have k := s28d e (l.take i) x (by omega) hd (by rw [List.length_take]; omega)
    have := ih (i + 1) g3
    have x0b : (x == 0) = false := by simpa using x0
    refine orc_of ?_
    rw [e34n2]
    simp only [gd1, hd1, tl1, dr0, dr1, dr2, dr3, dr4, dr5, dr6, bo1, in1, st1, ls1, le1, pt1, fi1, fb1, fs1, ct1, cf1, nt1, nf1, ak0, akT, akF, cdec, cndec, cbeq, cnbeq, ↓reduceIte, beq_self_eq_true, Int.reduceBEq, Int.reduceEq, Bool.and_true, Bool.true_and, Bool.false_and, Bool.and_false, h1, h0, and_self, enc_len, enc_get g1, w, x0, x0b, c1, c2, decide_false, hin, sub_enc, k, next i (by omega)]
    exact this
theorem s34 (e : Bool) (v : Nat) (hv : v ≤ 100) (l : List Int) (ok : ClOk v l) : Or (.call 34) [lst e l, I (v : Int)] [] = some [ti 0, ti 0] := by
  refine orc_of ?_
  rw [e34]
  simp only [enc_len]
  exact n34 e v hv l ok l 0 rfl
theorem n27 (e : Bool) (v : Nat) (hv : v ≤ 100) (cs : List (List Int)) (ok : ∀ l ∈ cs, ClOk v l) (hn : cs.length ≤ 400) : ∀ (rest : List (List Int)) (i : Nat), cs.drop i = rest →
    Or K27n6 [r0, AV.ref (Id.c 1) 0, LC e cs, I (cs.length : Int), I (i : Int)] [Blk.box [I (v : Int), LC e cs], Blk.box [I 0, I 0]] = some [ti 0, ti 0] := by
  intro rest
  induction rest with
  | nil =>
    intro i g
    have h1 : ¬ (i : Int) < (cs.length : Int) := by have := at_end g; omega
    refine orc_of ?_
    rw [e27n6]
    simp only [gd1, hd1, tl1, dr0, dr1, dr2, dr3, dr4, dr5, dr6, bo1, in1, st1, ls1, le1, pt1, fi1, fb1, fs1, ct1, cf1, nt1, nf1, ak0, akT, akF, cdec, cndec, cbeq, cnbeq, ↓reduceIte, beq_self_eq_true, Int.reduceBEq, Int.reduceEq, Bool.and_true, Bool.true_and, Bool.false_and, Bool.and_false, h1]
  | cons l rest ih =>
    intro i g
    obtain ⟨g1, g2, g3⟩ := at_drop g
    have h1 : (i : Int) < (cs.length : Int) := by omega
    have h0 : 0 ≤ (i : Int) := by omega
    have okl := ok l (List.mem_of_getElem? g1)
    have k := s34 l.isEmpty v hv l okl
    have hlen := okl.len
    have c : ¬ (l.length : Int) > 24 := by omega
    have := ih (i + 1) g3
    refine orc_of ?_
    rw [e27n6]
    simp only [gd1, hd1, tl1, dr0, dr1, dr2, dr3, dr4, dr5, dr6, bo1, in1, st1, ls1, le1, pt1, fi1, fb1, fs1, ct1, cf1, nt1, nf1, ak0, akT, akF, cdec, cndec, cbeq, cnbeq, ↓reduceIte, beq_self_eq_true, Int.reduceBEq, Int.reduceEq, Bool.and_true, Bool.true_and, Bool.false_and, Bool.and_false, h1, h0, and_self, encC_len, encC_get g1, enc_len, c, decide_false, k, next i (by omega)]
    exact this
/-- small: such clauses are few. -/
theorem s9 (e : Bool) (v : Nat) (hv : v ≤ 16) (cs : List (List Int)) (ok : ∀ l ∈ cs, ClOk v l) (hn : cs.length ≤ 12) : Or (.call 9) [AV.agg [I (v : Int), LC e cs]] [] = some [ti 0, ti 0] := by
  have c1 : ¬ (v : Int) < 0 := by omega
  have c2 : ¬ (v : Int) > 120 := by omega
  have c3 : ¬ (cs.length : Int) > 400 := by omega
  have c4 : ¬ (v : Int) > 16 := by omega
  have c5 : ¬ (cs.length : Int) > 12 := by omega
  have k27 : Or (.call 27) [AV.agg [I (v : Int), LC e cs]] [] = some [ti 0, ti 0] := by
    have := n27 e v (by omega) cs ok (by omega) cs 0 rfl
    refine orc_of ?_
    rw [e27]
    simp only [gd1, hd1, tl1, dr0, dr1, dr2, dr3, dr4, dr5, dr6, bo1, in1, st1, ls1, le1, pt1, fi1, fb1, fs1, ct1, cf1, nt1, nf1, ak0, akT, akF, cdec, cndec, cbeq, cnbeq, ↓reduceIte, beq_self_eq_true, Int.reduceBEq, Int.reduceEq, Bool.and_true, Bool.true_and, Bool.false_and, Bool.and_false, c1, c2, c3, encC_len, decide_false]
    exact this
  have k21 : Or (.call 21) [AV.agg [I (v : Int), LC e cs]] [] = some [ti 0, ti 0] := by
    refine orc_of ?_
    rw [e21]
    simp only [gd1, hd1, tl1, dr0, dr1, dr2, dr3, dr4, dr5, dr6, bo1, in1, st1, ls1, le1, pt1, fi1, fb1, fs1, ct1, cf1, nt1, nf1, ak0, akT, akF, cdec, cndec, cbeq, cnbeq, ↓reduceIte, beq_self_eq_true, Int.reduceBEq, Int.reduceEq, Bool.and_true, Bool.true_and, Bool.false_and, Bool.and_false, k27, c4, decide_false]
  refine orc_of ?_
  rw [e9]
  simp only [gd1, hd1, tl1, dr0, dr1, dr2, dr3, dr4, dr5, dr6, bo1, in1, st1, ls1, le1, pt1, fi1, fb1, fs1, ct1, cf1, nt1, nf1, ak0, akT, akF, cdec, cndec, cbeq, cnbeq, ↓reduceIte, beq_self_eq_true, Int.reduceBEq, Int.reduceEq, Bool.and_true, Bool.true_and, Bool.false_and, Bool.and_false, k21, encC_len, c5, decide_false]
end Go.Aev.Gen
