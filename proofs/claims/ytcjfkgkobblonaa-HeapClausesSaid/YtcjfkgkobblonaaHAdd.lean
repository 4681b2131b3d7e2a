/-
  Add, the document's check, SameHeap, Holds.
-/
import Derived.Test.YtcjfkgkobblonaaHCall
set_option linter.unusedSimpArgs false
set_option linter.unusedVariables false
namespace Go.Aev.Gen
open Go Go.Aev Go.Aev.Hp Go.RowKit

theorem e42 (O : Orc) (n : Int) : stepO PROG ann O (Key.call 42) [AV.t (T.lst 1 true []), I n] [] =
  (bif decide (n < (0 : Int)) then none else bif decide (IntKind.i64.wrap (n - IntKind.i64.wrap ((0 : Int) - ((0 : Nat) : Int))) > (0 : Int)) then gdK none (mkOk (IntKind.i64.wrap (n - IntKind.i64.wrap ((0 : Int) - ((0 : Nat) : Int))))
 (IntKind.i64.wrap (n - IntKind.i64.wrap ((0 : Int) - ((0 : Nat) : Int))))) fun x => gdK none (small 8 (List.replicate (IntKind.i64.wrap (n - IntKind.i64.wrap ((0 : Int) - ((0 : Nat) : Int)))).toNat [T.int IntKind.i64 (0 : Int)]).length) fun x =>
 some [T.lst 1 (List.replicate (IntKind.i64.wrap (n - IntKind.i64.wrap ((0 : Int) - ((0 : Nat) : Int)))).toNat [T.int IntKind.i64 (0 : Int)]).isEmpty []] else some [T.emp true]) := by kernel_rfl
theorem s42 (n : Int) (hn : 0 ≤ n ∧ n ≤ 1000) : ∃ x e, Or (.call 42) [AV.t (T.lst 1 true []), I n] [] = some [x] ∧ x.lst? 1 = some (e, []) := by
  have h0 : ¬ n < 0 := by omega
  have w0 : wrap64 (0 - ((0 : Nat) : Int)) = 0 := by rw [w64 (by omega)]; rfl
  have w1 : wrap64 (n - 0) = n := by rw [w64 (by omega)]; omega
  by_cases hp : n > 0
  · refine ⟨T.lst 1 false [], false, orc_of ?_, rfl⟩
    rw [e42]
    have hm : mkOk n n = some () := by unfold mkOk lim; rw [if_pos ⟨by omega, by omega, by omega⟩]
    have hs : small 8 (List.replicate n.toNat [ti 0]).length = some () := small_ok (by simp; omega)
    have he : (List.replicate n.toNat [ti 0]).isEmpty = false := by
      cases hk : n.toNat with
      | zero => omega
      | succ k => rfl
    simp only [wr64, w0, w1]
    simp only [gd1, hd1, tl1, dr0, dr1, dr2, dr3, dr4, dr5, dr6, bo1, in1, st1, ls1, le1, pt1, fi1, fb1, fs1, ct1, cf1, nt1, nf1, ak0, akT, akF, cdec, cndec, cbeq, cnbeq, ↓reduceIte, beq_self_eq_true, Int.reduceBEq, Int.reduceEq, Bool.and_true, Bool.true_and, Bool.false_and, Bool.and_false, h0, hp, hm, hs, he]
  · refine ⟨T.emp true, true, orc_of ?_, rfl⟩
    rw [e42]
    simp only [wr64, w0, w1]
    simp only [gd1, hd1, tl1, dr0, dr1, dr2, dr3, dr4, dr5, dr6, bo1, in1, st1, ls1, le1, pt1, fi1, fb1, fs1, ct1, cf1, nt1, nf1, ak0, akT, akF, cdec, cndec, cbeq, cnbeq, ↓reduceIte, beq_self_eq_true, Int.reduceBEq, Int.reduceEq, Bool.and_true, Bool.true_and, Bool.false_and, Bool.and_false, h0, hp]
theorem s30 (e1 e2 : Bool) (l1 l2 : List Int) (h1 : l1.length ≤ 100) (h2 : l2.length ≤ 100) : ∃ e', Or (.call 30) [AV.t (T.lst 1 false [[T.lst 1 e1 (enc l1)], [T.lst 1 e2 (enc l2)]])] [] = some [T.lst 1 e' (enc (l1 ++ l2))] := by
  have w1 : wrap64 (0 + (l1.length : Int)) = (l1.length : Int) := by rw [w64 (by omega)]; omega
  have w2 : wrap64 ((l1.length : Int) + (l2.length : Int)) = (l1.length : Int) + (l2.length : Int) := w64 (by omega)
  have n1 : wrap64 (0 + 1) = 1 := (w64 (by omega)).trans rfl
  have n2 : wrap64 (1 + 1) = 2 := (w64 (by omega)).trans rfl
  have p1 : ¬ ((l1.length : Int) < 0) := by omega
  have p2 : ¬ ((l1.length : Int) + (l2.length : Int) < 0) := by omega
  obtain ⟨x, f, e42', hx⟩ := s42 ((l1.length : Int) + (l2.length : Int)) (by omega)
  let rows : List (List T) := [[T.lst 1 e1 (enc l1)], [T.lst 1 e2 (enc l2)]]
  have hlen : ((rows.length : Nat) : Int) = 2 := rfl
  have g0 : rows[(0 : Int).toNat]? = some [T.lst 1 e1 (enc l1)] := rfl
  have g1 : rows[(1 : Int).toNat]? = some [T.lst 1 e2 (enc l2)] := rfl
  have q0 : (0 : Int) < 2 := by decide
  have q1 : (1 : Int) < 2 := by decide
  have q2 : ¬ (2 : Int) < 2 := by decide
  have q3 : (0 : Int) ≤ 0 := by decide
  have q4 : (0 : Int) ≤ 1 := by decide
  have c2 : Or K30n11 [o0, AV.t (T.lst 1 false rows), I 2, I 2] [Blk.sl false 1 ((f && (enc l1).isEmpty) && (enc l2).isEmpty) (([] ++ enc l1) ++ enc l2)] = some [T.lst 1 ((f && (enc l1).isEmpty) && (enc l2).isEmpty) (([] ++ enc l1) ++ enc l2)] := by
    refine orc_of ?_
    rw [e30n11]
    simp only [gd1, hd1, tl1, dr0, dr1, dr2, dr3, dr4, dr5, dr6, bo1, in1, st1, ls1, le1, pt1, fi1, fb1, fs1, ct1, cf1, nt1, nf1, ak0, akT, akF, cdec, cndec, cbeq, cnbeq, ↓reduceIte, beq_self_eq_true, Int.reduceBEq, Int.reduceEq, Bool.and_true, Bool.true_and, Bool.false_and, Bool.and_false, q2]
  have c1 : Or K30n11 [o0, AV.t (T.lst 1 false rows), I 2, I 1] [Blk.sl false 1 (f && (enc l1).isEmpty) ([] ++ enc l1)] = some [T.lst 1 ((f && (enc l1).isEmpty) && (enc l2).isEmpty) (([] ++ enc l1) ++ enc l2)] := by
    have hs : small 8 (([] ++ enc l1).length + (enc l2).length) = some () := small_ok (by rw [List.nil_append, enc_len, enc_len]; omega)
    refine orc_of ?_
    rw [e30n11]
    simp only [wr64]
    simp only [gd1, hd1, tl1, dr0, dr1, dr2, dr3, dr4, dr5, dr6, bo1, in1, st1, ls1, le1, pt1, fi1, fb1, fs1, ct1, cf1, nt1, nf1, ak0, akT, akF, cdec, cndec, cbeq, cnbeq, ↓reduceIte, beq_self_eq_true, Int.reduceBEq, Int.reduceEq, Bool.and_true, Bool.true_and, Bool.false_and, Bool.and_false, q1, q4, hlen, and_self, g1, hs, n2]
    exact c2
  have c0 : Or K30n11 [o0, AV.t (T.lst 1 false rows), I 2, I 0] [Blk.sl false 1 f []] = some [T.lst 1 ((f && (enc l1).isEmpty) && (enc l2).isEmpty) (([] ++ enc l1) ++ enc l2)] := by
    have hs : small 8 (([] : List (List T)).length + (enc l1).length) = some () := small_ok (by rw [enc_len]; simp; omega)
    refine orc_of ?_
    rw [e30n11]
    simp only [wr64]
    simp only [gd1, hd1, tl1, dr0, dr1, dr2, dr3, dr4, dr5, dr6, bo1, in1, st1, ls1, le1, pt1, fi1, fb1, fs1, ct1, cf1, nt1, nf1, ak0, akT, akF, cdec, cndec, cbeq, cnbeq, ↓reduceIte, beq_self_eq_true, Int.reduceBEq, Int.reduceEq, Bool.and_true, Bool.true_and, Bool.false_and, Bool.and_false, q0, q3, hlen, and_self, g0, hs, n1]
    exact c1
  have b2 : Or K30n3 [AV.t (T.lst 1 false rows), I ((l1.length : Int) + (l2.length : Int)), AV.t (T.lst 1 false rows), I 2, I 2] [] = some [T.lst 1 ((f && (enc l1).isEmpty) && (enc l2).isEmpty) (([] ++ enc l1) ++ enc l2)] := by
    refine orc_of ?_
    rw [e30n3]
    simp only [gd1, hd1, tl1, dr0, dr1, dr2, dr3, dr4, dr5, dr6, bo1, in1, st1, ls1, le1, pt1, fi1, fb1, fs1, ct1, cf1, nt1, nf1, ak0, akT, akF, cdec, cndec, cbeq, cnbeq, ↓reduceIte, beq_self_eq_true, Int.reduceBEq, Int.reduceEq, Bool.and_true, Bool.true_and, Bool.false_and, Bool.and_false, q2, e42', hx, hlen]
    exact c0
  have b1 : Or K30n3 [AV.t (T.lst 1 false rows), I (l1.length : Int), AV.t (T.lst 1 false rows), I 2, I 1] [] = some [T.lst 1 ((f && (enc l1).isEmpty) && (enc l2).isEmpty) (([] ++ enc l1) ++ enc l2)] := by
    refine orc_of ?_
    rw [e30n3]
    simp only [wr64]
    simp only [gd1, hd1, tl1, dr0, dr1, dr2, dr3, dr4, dr5, dr6, bo1, in1, st1, ls1, le1, pt1, fi1, fb1, fs1, ct1, cf1, nt1, nf1, ak0, akT, akF, cdec, cndec, cbeq, cnbeq, ↓reduceIte, beq_self_eq_true, Int.reduceBEq, Int.reduceEq, Bool.and_true, Bool.true_and, Bool.false_and, Bool.and_false, q1, q4, hlen, and_self, g1, enc_len, w2, p2, n2]
    exact b2
  have b0 : Or K30n3 [AV.t (T.lst 1 false rows), I 0, AV.t (T.lst 1 false rows), I 2, I 0] [] = some [T.lst 1 ((f && (enc l1).isEmpty) && (enc l2).isEmpty) (([] ++ enc l1) ++ enc l2)] := by
    refine orc_of ?_
    rw [e30n3]
    simp only [wr64]
    simp only [gd1, hd1, tl1, dr0, dr1, dr2, dr3, dr4, dr5, dr6, bo1, in1, st1, ls1, le1, pt1, fi1, fb1, fs1, ct1, cf1, nt1, nf1, ak0, akT, akF, cdec, cndec, cbeq, cnbeq, ↓reduceIte, beq_self_eq_true, Int.reduceBEq, Int.reduceEq, Bool.and_true, Bool.true_and, Bool.false_and, Bool.and_false, q0, q3, hlen, and_self, g0, enc_len, w1, p1, n1]
    exact b1
  refine ⟨((f && (enc l1).isEmpty) && (enc l2).isEmpty), orc_of ?_⟩
  rw [e30, enc_append]
  exact b0

def addF (a b : Hp) : Hp × Int := normF (a.ls ++ b.ls) (a.os ++ b.os) (a.at_ + b.at_)
theorem add_in {a b : Hp} {n m : Int} (ga : Good a n) (gb : Good b m) : In (a.ls ++ b.ls) (a.os ++ b.os) (a.at_ + b.at_) := by
  have h1 := ga.in_
  have h2 := gb.in_
  have l1 := ga.few
  have l2 := gb.few
  have a1 := ga.at_
  have a2 := gb.at_
  refine ⟨by simp [h1.len, h2.len], by simp; omega, ?_, ?_, by omega⟩
  · rw [List.all_append, h1.okl, h2.okl]; rfl
  · rw [List.all_append, h1.oko, h2.oko]; rfl
def addG (a b : Hp) : Hp × Int × Int := if (chkH a 120).1 = 0 then (if (chkH b 120).1 = 0 then ((addF a b).1, (addF a b).2, 0) else (none_, chkH b 120)) else (none_, chkH a 120)
theorem s13 (e1 f1 e2 f2 : Bool) (a b : Hp) : Ans (Or (.call 13) [hv e1 f1 a, hv e2 f2 b] []) (addG a b) := by
  let rows : List (List T) := [[T.lst 1 e1 (enc a.ls), T.lst 1 f1 (enc a.os), ti a.at_], [T.lst 1 e2 (enc b.ls), T.lst 1 f2 (enc b.os), ti b.at_]]
  have hlen : ((rows.length : Nat) : Int) = 2 := rfl
  have g0 : rows[(0 : Int).toNat]? = some [T.lst 1 e1 (enc a.ls), T.lst 1 f1 (enc a.os), ti a.at_] := rfl
  have g1 : rows[(1 : Int).toNat]? = some [T.lst 1 e2 (enc b.ls), T.lst 1 f2 (enc b.os), ti b.at_] := rfl
  have q0 : (0 : Int) < 2 := by decide
  have q1 : (1 : Int) < 2 := by decide
  have q2 : ¬ (2 : Int) < 2 := by decide
  have q3 : (0 : Int) ≤ 0 := by decide
  have q4 : (0 : Int) ≤ 1 := by decide
  have n1 : wrap64 (0 + 1) = 1 := (w64 (by omega)).trans rfl
  have n2 : wrap64 (1 + 1) = 2 := (w64 (by omega)).trans rfl
  have ha := s16 a 120 e1 f1
  have hb := s16 b 120 e2 f2
  have go : ∀ r, Or K13n2 [r0, r1, r2, r3, AV.own (Id.c 4), I 2, I 0] [Blk.box [lst e1 a.ls, lst f1 a.os, I a.at_], Blk.box [lst e2 b.ls, lst f2 b.os, I b.at_], z3, z2, Blk.sl false 3 false rows] = some r → Or (.call 13) [hv e1 f1 a, hv e2 f2 b] [] = some r := by
    intro r hr
    refine orc_of ?_
    rw [e13]
    exact hr
  unfold addG
  by_cases ca : (chkH a 120).1 = 0
  · rw [if_pos ca]
    by_cases cb : (chkH b 120).1 = 0
    · rw [if_pos cb]
      have gA := chk_ok ca
      have gB := chk_ok cb
      have hat := gA.at_
      have hbt := gB.at_
      have hal := gA.few
      have hbl := gB.few
      have halen := gA.len
      have hblen := gB.len
      obtain ⟨x1, c1⟩ := s30 e1 e2 a.ls b.ls (by omega) (by omega)
      obtain ⟨x2, c2⟩ := s30 f1 f2 a.os b.os (by omega) (by omega)
      have w : wrap64 (a.at_ + b.at_) = a.at_ + b.at_ := w64 (by omega)
      obtain ⟨x, y, k1, k2, k3⟩ := s28 (add_in gA gB) x1 x2
      have k2' : x.lst? 1 = _ := k2
      have k3' : y.lst? 1 = _ := k3
      refine ⟨tm _, tm _, go _ ?_, isL_tm _, isL_tm _⟩
      refine orc_of ?_
      rw [e13n2]
      simp only [wr64]
      simp only [gd1, hd1, tl1, dr0, dr1, dr2, dr3, dr4, dr5, dr6, bo1, in1, st1, ls1, le1, pt1, fi1, fb1, fs1, ct1, cf1, nt1, nf1, ak0, akT, akF, cdec, cndec, cbeq, cnbeq, ↓reduceIte, beq_self_eq_true, Int.reduceBEq, Int.reduceEq, Bool.and_true, Bool.true_and, Bool.false_and, Bool.and_false, q0, q3, hlen, and_self, g0, ha, ca, n1]
      refine orc_of ?_
      rw [e13n2]
      simp only [wr64]
      simp only [gd1, hd1, tl1, dr0, dr1, dr2, dr3, dr4, dr5, dr6, bo1, in1, st1, ls1, le1, pt1, fi1, fb1, fs1, ct1, cf1, nt1, nf1, ak0, akT, akF, cdec, cndec, cbeq, cnbeq, ↓reduceIte, beq_self_eq_true, Int.reduceBEq, Int.reduceEq, Bool.and_true, Bool.true_and, Bool.false_and, Bool.and_false, q1, q4, hlen, and_self, g1, hb, cb, n2]
      refine orc_of ?_
      rw [e13n2]
      simp only [wr64]
      simp only [gd1, hd1, tl1, dr0, dr1, dr2, dr3, dr4, dr5, dr6, bo1, in1, st1, ls1, le1, pt1, fi1, fb1, fs1, ct1, cf1, nt1, nf1, ak0, akT, akF, cdec, cndec, cbeq, cnbeq, ↓reduceIte, beq_self_eq_true, Int.reduceBEq, Int.reduceEq, Bool.and_true, Bool.true_and, Bool.false_and, Bool.and_false, q2, c1, c2, w, k1, k2', k3']
      rfl
    · rw [if_neg cb]
      refine ⟨T.emp true, T.emp true, go _ ?_, isL_emp, isL_emp⟩
      refine orc_of ?_
      rw [e13n2]
      simp only [wr64]
      simp only [gd1, hd1, tl1, dr0, dr1, dr2, dr3, dr4, dr5, dr6, bo1, in1, st1, ls1, le1, pt1, fi1, fb1, fs1, ct1, cf1, nt1, nf1, ak0, akT, akF, cdec, cndec, cbeq, cnbeq, ↓reduceIte, beq_self_eq_true, Int.reduceBEq, Int.reduceEq, Bool.and_true, Bool.true_and, Bool.false_and, Bool.and_false, q0, q3, hlen, and_self, g0, ha, ca, n1]
      refine orc_of ?_
      rw [e13n2]
      simp only [gd1, hd1, tl1, dr0, dr1, dr2, dr3, dr4, dr5, dr6, bo1, in1, st1, ls1, le1, pt1, fi1, fb1, fs1, ct1, cf1, nt1, nf1, ak0, akT, akF, cdec, cndec, cbeq, cnbeq, ↓reduceIte, beq_self_eq_true, Int.reduceBEq, Int.reduceEq, Bool.and_true, Bool.true_and, Bool.false_and, Bool.and_false, q1, q4, hlen, and_self, g1, hb, cb]
      rfl
  · rw [if_neg ca]
    refine ⟨T.emp true, T.emp true, go _ ?_, isL_emp, isL_emp⟩
    refine orc_of ?_
    rw [e13n2]
    simp only [gd1, hd1, tl1, dr0, dr1, dr2, dr3, dr4, dr5, dr6, bo1, in1, st1, ls1, le1, pt1, fi1, fb1, fs1, ct1, cf1, nt1, nf1, ak0, akT, akF, cdec, cndec, cbeq, cnbeq, ↓reduceIte, beq_self_eq_true, Int.reduceBEq, Int.reduceEq, Bool.and_true, Bool.true_and, Bool.false_and, Bool.and_false, q0, q3, hlen, and_self, g0, ha, ca]
    rfl
theorem s21 (e1 f1 e2 f2 : Bool) {a b : Hp} (hin : In (a.ls ++ b.ls) (a.os ++ b.os) (a.at_ + b.at_)) (h1 : a.ls.length ≤ 100) (h2 : b.ls.length ≤ 100) (h3 : a.os.length ≤ 100) (h4 : b.os.length ≤ 100) :
    Ans (Or (.call 21) [hv e1 f1 a, hv e2 f2 b] []) ((addF a b).1, (addF a b).2, 0) := by
  have hat := hin.at_
  have w : wrap64 (a.at_ + b.at_) = a.at_ + b.at_ := w64 (by omega)
  have m1 : small 8 a.ls.length = some () := small_ok (by omega)
  have m2 : small 8 (a.ls.length + b.ls.length) = some () := small_ok (by omega)
  have m3 : small 8 a.os.length = some () := small_ok (by omega)
  have m4 : small 8 (a.os.length + b.os.length) = some () := small_ok (by omega)
  obtain ⟨x, y, k1, k2, k3⟩ := s36 hin ((enc a.ls).isEmpty && (enc b.ls).isEmpty) ((enc a.os).isEmpty && (enc b.os).isEmpty)
  have k2' : x.lst? 1 = _ := k2
  have k3' : y.lst? 1 = _ := k3
  unfold lst at k1
  rw [enc_append, enc_append] at k1
  refine ⟨tm _, tm _, orc_of ?_, isL_tm _, isL_tm _⟩
  rw [e21]
  simp only [wr64, enc_len]
  simp only [gd1, hd1, tl1, dr0, dr1, dr2, dr3, dr4, dr5, dr6, bo1, in1, st1, ls1, le1, pt1, fi1, fb1, fs1, ct1, cf1, nt1, nf1, ak0, akT, akF, cdec, cndec, cbeq, cnbeq, ↓reduceIte, beq_self_eq_true, Int.reduceBEq, Int.reduceEq, Bool.and_true, Bool.true_and, Bool.false_and, Bool.and_false, m1, m2, m3, m4, w, k1, k2', k3']
  rfl

/-! ### The document's check -/
theorem n15j {h : Hp} {n : Int} {R : List T} (e f : Bool) (hn : 0 ≤ n ∧ n ≤ 120) {k : Nat} {l o : Int} (g1 : h.ls[k]? = some l) (g2 : h.os[k]? = some o) (hl : -120 ≤ l ∧ l ≤ 120) (hlen : h.ls.length = h.os.length) (h24 : h.ls.length ≤ 24) (hb : ∀ x ∈ h.ls.take k, -120 ≤ x ∧ x ≤ 120)
    (hR : whole o = true → Or K15n8 [I n, r0, r1, I ((k + 1 : Nat) : Int)] [Blk.box [lst e h.ls, lst f h.os, I h.at_], z2] = some R) : ∀ (rest : List Int) (j : Nat), (h.ls.take k).drop j = rest →
    Or K15n13 [I n, r0, r1, I (k : Int), I (j : Int)] [Blk.box [lst e h.ls, lst f h.os, I h.at_], z2] = some (if rest.any (tw l) = true then [ti 7, ti (k : Int)] else if whole o = true then R else [ti 5, ti (k : Int)])
  | [], j, hd => by
    have hkl : k < h.ls.length := by
      rcases Nat.lt_or_ge k h.ls.length with g | g
      · exact g
      · rw [List.getElem?_eq_none g] at g1; cases g1
    have hj := at_end hd
    rw [List.length_take] at hj
    have c1 : ¬ (j : Int) < (k : Int) := by omega
    have c2 : (k : Int) < (h.os.length : Int) := by omega
    have c0 : 0 ≤ (k : Int) := by omega
    have es := s31 o
    have en : wrap64 ((k : Int) + 1) = ((k + 1 : Nat) : Int) := by rw [w64 (by omega)]; omega
    rw [if_neg (by simp)]
    cases b3 : whole o with
    | true =>
      have c' : decide (o ≤ 1000000 ∧ o ≥ -1000000) = true := by simp [whole] at b3 ⊢; omega
      rw [c'] at es
      rw [if_pos rfl]
      refine orc_of ?_
      rw [e15n13]
      simp only [wr64]
      simp only [gd1, hd1, tl1, dr0, dr1, dr2, dr3, dr4, dr5, dr6, bo1, in1, st1, ls1, le1, pt1, fi1, fb1, fs1, ct1, cf1, nt1, nf1, ak0, akT, akF, cdec, cndec, cbeq, cnbeq, ↓reduceIte, beq_self_eq_true, Int.reduceBEq, Int.reduceEq, Bool.and_true, Bool.true_and, Bool.false_and, Bool.and_false, c1, c2, c0, and_self, enc_len, enc_get g2, es, en]
      exact hR b3
    | false =>
      have c' : decide (o ≤ 1000000 ∧ o ≥ -1000000) = false := by simp [whole] at b3 ⊢; omega
      rw [c'] at es
      rw [if_neg (by simp)]
      refine orc_of ?_
      rw [e15n13]
      simp only [gd1, hd1, tl1, dr0, dr1, dr2, dr3, dr4, dr5, dr6, bo1, in1, st1, ls1, le1, pt1, fi1, fb1, fs1, ct1, cf1, nt1, nf1, ak0, akT, akF, cdec, cndec, cbeq, cnbeq, ↓reduceIte, beq_self_eq_true, Int.reduceBEq, Int.reduceEq, Bool.and_true, Bool.true_and, Bool.false_and, Bool.and_false, c1, c2, c0, and_self, enc_len, enc_get g2, es, s23]
  | x :: rest, j, hd => by
    have hkl : k < h.ls.length := by
      rcases Nat.lt_or_ge k h.ls.length with g | g
      · exact g
      · rw [List.getElem?_eq_none g] at g1; cases g1
    obtain ⟨q1, q2, q3⟩ := at_drop hd
    rw [List.length_take] at q2
    have hx := hb x (List.mem_of_getElem? q1)
    have ih := n15j e f hn g1 g2 hl hlen h24 hb hR rest (j + 1) q3
    have q1' : h.ls[j]? = some x := by
      rw [List.getElem?_take] at q1
      split at q1
      · exact q1
      · cases q1
    have c1 : (j : Int) < (k : Int) := by omega
    have c2 : (j : Int) < (h.ls.length : Int) := by omega
    have c3 : (k : Int) < (h.ls.length : Int) := by omega
    have c0 : 0 ≤ (j : Int) := by omega
    have c00 : 0 ≤ (k : Int) := by omega
    have w1 : wrap64 (0 - l) = -l := by rw [w64 (by omega)]; omega
    have en : wrap64 ((j : Int) + 1) = ((j + 1 : Nat) : Int) := by rw [w64 (by omega)]; omega
    rw [List.any_cons]
    cases ht : tw l x with
    | true =>
      have ht' : (decide (x = l) || decide (x = -l)) = true := ht
      rw [if_pos (by simp)]
      refine orc_of ?_
      rw [e15n13]
      simp only [cor, wr64, beq_dec]
      by_cases hxl : x = l
      · simp only [gd1, hd1, tl1, dr0, dr1, dr2, dr3, dr4, dr5, dr6, bo1, in1, st1, ls1, le1, pt1, fi1, fb1, fs1, ct1, cf1, nt1, nf1, ak0, akT, akF, cdec, cndec, cbeq, cnbeq, ↓reduceIte, beq_self_eq_true, Int.reduceBEq, Int.reduceEq, Bool.and_true, Bool.true_and, Bool.false_and, Bool.and_false, c1, c2, c3, c0, c00, and_self, enc_len, enc_get g1, enc_get q1', hxl, decide_true, Bool.not_true, gdF, Bool.true_or, s23]
      · have : x = -l := by simp [hxl] at ht'; exact ht'
        simp only [gd1, hd1, tl1, dr0, dr1, dr2, dr3, dr4, dr5, dr6, bo1, in1, st1, ls1, le1, pt1, fi1, fb1, fs1, ct1, cf1, nt1, nf1, ak0, akT, akF, cdec, cndec, cbeq, cnbeq, ↓reduceIte, beq_self_eq_true, Int.reduceBEq, Int.reduceEq, Bool.and_true, Bool.true_and, Bool.false_and, Bool.and_false, c1, c2, c3, c0, c00, and_self, enc_len, enc_get g1, enc_get q1', hxl, decide_false, Bool.not_false, w1, this, decide_true, Bool.or_true, s23]
    | false =>
      have ht' : (decide (x = l) || decide (x = -l)) = false := ht
      rw [Bool.false_or]
      have hxl : x ≠ l := by rintro rfl; simp at ht'
      have hxl2 : x ≠ -l := by rintro rfl; simp at ht'
      refine orc_of ?_
      rw [e15n13]
      simp only [cor, wr64, beq_dec]
      simp only [gd1, hd1, tl1, dr0, dr1, dr2, dr3, dr4, dr5, dr6, bo1, in1, st1, ls1, le1, pt1, fi1, fb1, fs1, ct1, cf1, nt1, nf1, ak0, akT, akF, cdec, cndec, cbeq, cnbeq, ↓reduceIte, beq_self_eq_true, Int.reduceBEq, Int.reduceEq, Bool.and_true, Bool.true_and, Bool.false_and, Bool.and_false, c1, c2, c3, c0, c00, and_self, enc_len, enc_get g1, enc_get q1', hxl, decide_false, Bool.not_false, w1, hxl2, Bool.or_false, en]
      exact ih
theorem n15 {h : Hp} {n : Int} (e f : Bool) (hn : 0 ≤ n ∧ n ≤ 120) (h24 : h.ls.length ≤ 24) (hlen : h.ls.length = h.os.length) : ∀ (ls os pre pre2 : List Int), h.ls = pre ++ ls → h.os = pre2 ++ os → pre.length = pre2.length → (∀ x ∈ pre, -120 ≤ x ∧ x ≤ 120) →
    Or K15n8 [I n, r0, r1, I (pre.length : Int)] [Blk.box [lst e h.ls, lst f h.os, I h.at_], z2] = some [ti (chkI n h.at_ pre ls os).1, ti (chkI n h.at_ pre ls os).2]
  | [], os, pre, pre2, h1, h2, h3, h4 => by
    rw [List.append_nil] at h1
    have hl : ¬ ((pre.length : Int) < (h.ls.length : Int)) := by rw [h1]; omega
    have e1 : (pre.length : Int) = (h.ls.length : Int) := by rw [h1]
    have es := s31 h.at_
    have : chkI n h.at_ pre [] os = if whole h.at_ = true then (0, 0) else (5, (pre.length : Int)) := by cases os <;> rfl
    rw [this]
    by_cases c : whole h.at_ = true
    · have c' : decide (h.at_ ≤ 1000000 ∧ h.at_ ≥ -1000000) = true := by simp [whole] at c ⊢; omega
      rw [c'] at es
      rw [if_pos c]
      refine orc_of ?_
      rw [e15n8]
      simp only [gd1, hd1, tl1, dr0, dr1, dr2, dr3, dr4, dr5, dr6, bo1, in1, st1, ls1, le1, pt1, fi1, fb1, fs1, ct1, cf1, nt1, nf1, ak0, akT, akF, cdec, cndec, cbeq, cnbeq, ↓reduceIte, beq_self_eq_true, Int.reduceBEq, Int.reduceEq, Bool.and_true, Bool.true_and, Bool.false_and, Bool.and_false, hl, enc_len, es]
    · have c' : decide (h.at_ ≤ 1000000 ∧ h.at_ ≥ -1000000) = false := by simp [whole] at c ⊢; omega
      rw [c'] at es
      rw [if_neg c]
      refine orc_of ?_
      rw [e15n8]
      simp only [gd1, hd1, tl1, dr0, dr1, dr2, dr3, dr4, dr5, dr6, bo1, in1, st1, ls1, le1, pt1, fi1, fb1, fs1, ct1, cf1, nt1, nf1, ak0, akT, akF, cdec, cndec, cbeq, cnbeq, ↓reduceIte, beq_self_eq_true, Int.reduceBEq, Int.reduceEq, Bool.and_true, Bool.true_and, Bool.false_and, Bool.and_false, hl, es, enc_len, s23]
      rw [e1]
  | l :: ls, [], pre, pre2, h1, h2, h3, h4 => by
    exfalso
    rw [h1, h2] at hlen
    simp at hlen; omega
  | l :: ls, o :: os, pre, pre2, h1, h2, h3, h4 => by
    have hl1 : h.ls.length = pre.length + (ls.length + 1) := by rw [h1]; simp
    have c1 : (pre.length : Int) < (h.ls.length : Int) := by omega
    have c0 : 0 ≤ (pre.length : Int) := by omega
    have g1 : h.ls[pre.length]? = some l := by rw [h1]; simp
    have g2 : h.os[pre.length]? = some o := by rw [h2, h3]; simp
    have w1 : wrap64 (0 - n) = -n := by rw [w64 (by omega)]; omega
    rw [chkI]
    cases b1 : lbad n l with
    | true =>
      have b1' : (decide (l = 0) || decide (l < -n) || decide (l > n)) = true := b1
      rw [if_pos rfl]
      refine orc_of ?_
      rw [e15n8]
      simp only [cor, wr64, w1, beq_dec]
      by_cases d1 : l = 0
      · subst d1
        simp only [gd1, hd1, tl1, dr0, dr1, dr2, dr3, dr4, dr5, dr6, bo1, in1, st1, ls1, le1, pt1, fi1, fb1, fs1, ct1, cf1, nt1, nf1, ak0, akT, akF, cdec, cndec, cbeq, cnbeq, ↓reduceIte, beq_self_eq_true, Int.reduceBEq, Int.reduceEq, Bool.and_true, Bool.true_and, Bool.false_and, Bool.and_false, enc_len, c1, c0, and_self, enc_get g1, decide_true, Bool.not_true, Bool.true_or, gdF, s23]
      · by_cases d2 : l > n
        · simp only [gd1, hd1, tl1, dr0, dr1, dr2, dr3, dr4, dr5, dr6, bo1, in1, st1, ls1, le1, pt1, fi1, fb1, fs1, ct1, cf1, nt1, nf1, ak0, akT, akF, cdec, cndec, cbeq, cnbeq, ↓reduceIte, beq_self_eq_true, Int.reduceBEq, Int.reduceEq, Bool.and_true, Bool.true_and, Bool.false_and, Bool.and_false, enc_len, c1, c0, and_self, enc_get g1, d1, d2, decide_true, decide_false, Bool.not_true, Bool.not_false, Bool.true_or, Bool.false_or, gdF, s23]
        · have d3 : l < -n := by simp [d1, d2] at b1'; omega
          simp only [gd1, hd1, tl1, dr0, dr1, dr2, dr3, dr4, dr5, dr6, bo1, in1, st1, ls1, le1, pt1, fi1, fb1, fs1, ct1, cf1, nt1, nf1, ak0, akT, akF, cdec, cndec, cbeq, cnbeq, ↓reduceIte, beq_self_eq_true, Int.reduceBEq, Int.reduceEq, Bool.and_true, Bool.true_and, Bool.false_and, Bool.and_false, enc_len, c1, c0, and_self, enc_get g1, d1, d2, d3, decide_true, decide_false, Bool.not_true, Bool.not_false, Bool.true_or, Bool.false_or, gdF, s23]
    | false =>
      obtain ⟨l0, l1, l2⟩ := lbad_false hn b1
      rw [if_neg (by simp)]
      have htk : h.ls.take pre.length = pre := by rw [h1]; simp
      have hj := n15j (n := n) (k := pre.length) (l := l) (o := o) (R := [ti (chkI n h.at_ (pre ++ [l]) ls os).1, ti (chkI n h.at_ (pre ++ [l]) ls os).2]) e f hn g1 g2 (by omega) hlen h24 (by rw [htk]; exact h4) (fun hw => by
          have := n15 e f hn h24 hlen ls os (pre ++ [l]) (pre2 ++ [o]) (by rw [h1]; simp) (by rw [h2]; simp) (by simp [h3]) (fun x hx => by
            rcases List.mem_append.1 hx with hx | hx
            · exact h4 x hx
            · simp at hx; subst hx; omega)
          rw [show ((pre.length + 1 : Nat) : Int) = ((pre ++ [l]).length : Int) by simp]
          exact this) pre 0 (by rw [htk]; rfl)
      have d2 : ¬ l > n := by omega
      have d3 : ¬ l < -n := by omega
      refine orc_of ?_
      rw [e15n8]
      simp only [cor, wr64, w1, beq_dec]
      simp only [gd1, hd1, tl1, dr0, dr1, dr2, dr3, dr4, dr5, dr6, bo1, in1, st1, ls1, le1, pt1, fi1, fb1, fs1, ct1, cf1, nt1, nf1, ak0, akT, akF, cdec, cndec, cbeq, cnbeq, ↓reduceIte, beq_self_eq_true, Int.reduceBEq, Int.reduceEq, Bool.and_true, Bool.true_and, Bool.false_and, Bool.and_false, enc_len, c1, c0, and_self, enc_get g1, l0, d2, d3, decide_true, decide_false, Bool.not_true, Bool.not_false, Bool.true_or, Bool.false_or, gdF]
      refine Eq.trans hj ?_
      by_cases b2 : pre.any (tw l) = true
      · rw [if_pos b2, if_pos b2]
      · rw [if_neg b2, if_neg b2]
        by_cases b3 : whole o = true
        · rw [if_pos b3, if_pos b3]
        · rw [if_neg b3, if_neg b3]
theorem s15 (h : Hp) (n : Int) (e f : Bool) : Or (.call 15) [hv e f h, I n] [] = some [ti (chkH h n).1, ti (chkH h n).2] := by
  unfold chkH
  refine orc_of ?_
  rw [e15]
  simp only [cor, ← Bool.decide_or]
  by_cases c1 : n < 0 ∨ n > 120
  · simp only [gd1, hd1, tl1, dr0, dr1, dr2, dr3, dr4, dr5, dr6, bo1, in1, st1, ls1, le1, pt1, fi1, fb1, fs1, ct1, cf1, nt1, nf1, ak0, akT, akF, cdec, cndec, cbeq, cnbeq, ↓reduceIte, beq_self_eq_true, Int.reduceBEq, Int.reduceEq, Bool.and_true, Bool.true_and, Bool.false_and, Bool.and_false, c1, s23]
  · rw [if_neg c1]
    by_cases c2 : (h.ls.length : Int) > 24
    · rw [if_pos (by omega)]
      simp only [gd1, hd1, tl1, dr0, dr1, dr2, dr3, dr4, dr5, dr6, bo1, in1, st1, ls1, le1, pt1, fi1, fb1, fs1, ct1, cf1, nt1, nf1, ak0, akT, akF, cdec, cndec, cbeq, cnbeq, ↓reduceIte, beq_self_eq_true, Int.reduceBEq, Int.reduceEq, Bool.and_true, Bool.true_and, Bool.false_and, Bool.and_false, enc_len, c1, c2, s23]
    · rw [if_neg (by omega)]
      by_cases c3 : (h.ls.length : Int) = (h.os.length : Int)
      · rw [if_neg (by omega)]
        simp only [gd1, hd1, tl1, dr0, dr1, dr2, dr3, dr4, dr5, dr6, bo1, in1, st1, ls1, le1, pt1, fi1, fb1, fs1, ct1, cf1, nt1, nf1, ak0, akT, akF, cdec, cndec, cbeq, cnbeq, ↓reduceIte, beq_self_eq_true, Int.reduceBEq, Int.reduceEq, Bool.and_true, Bool.true_and, Bool.false_and, Bool.and_false, enc_len, c1, c2]
        rw [if_pos c3]
        exact n15 (h := h) (n := n) e f (by omega) (by omega) (by omega) h.ls h.os [] [] rfl rfl rfl (by intro x hx; cases hx)
      · rw [if_pos (by omega)]
        simp only [gd1, hd1, tl1, dr0, dr1, dr2, dr3, dr4, dr5, dr6, bo1, in1, st1, ls1, le1, pt1, fi1, fb1, fs1, ct1, cf1, nt1, nf1, ak0, akT, akF, cdec, cndec, cbeq, cnbeq, ↓reduceIte, beq_self_eq_true, Int.reduceBEq, Int.reduceEq, Bool.and_true, Bool.true_and, Bool.false_and, Bool.and_false, enc_len, c1, c2, c3, s23]
end Go.Aev.Gen
