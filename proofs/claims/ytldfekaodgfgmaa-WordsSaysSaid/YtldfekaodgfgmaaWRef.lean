/-
  What the document says of words, bit by bit.
-/
import Derived.Test.YtldfekaodgfgmaaWLaw
import Derived.Test.YtldfekaodgfgmaaWBits
set_option linter.unusedSimpArgs false
set_option linter.unusedVariables false
namespace Go.Aev.Gen
open Go Go.Aev Go.Num

def bt (l : List Bool) : List (List T) := l.map fun r => [tb r]
theorem bt_len (l : List Bool) : (bt l).length = l.length := by simp [bt]
theorem bt_get {l : List Bool} {i : Nat} {r : Bool} (h : l[i]? = some r) : (bt l)[((i : Nat) : Int).toNat]? = some [tb r] := by simp [bt, h]
theorem bt_app (l m : List Bool) : bt (l ++ m) = bt l ++ bt m := by simp [bt]
theorem bt_one (l : List Bool) (x : Bool) : bt l ++ [[tb x]] = bt (l ++ [x]) := by simp [bt]
theorem bt_rep (k : Nat) (x : Bool) : List.replicate k [tb x] = bt (List.replicate k x) := by simp [bt]
theorem bt_set {l : List Bool} {i : Nat} (h : i < l.length) (x : Bool) : storeIn ((i : Nat) : Int).toNat 0 [tb x] (bt l) = some (bt (l.set i x)) := by
  have : (bt l)[i]? = some [tb l[i]] := by simp [bt, h]
  simp only [storeIn, Int.toNat_natCast, this]
  simp [repl, bt, List.map_set]
theorem small_ok {n : Nat} (h : n ≤ 100) : small n = some () := by unfold small lim; rw [if_pos (by omega)]
theorem mk_ok {n : Int} (h : Wid n) : mkOk n n = some () := by unfold mkOk lim; unfold Wid at h; rw [if_pos (by omega)]
theorem inB_ok {lo hi n : Int} (h : 0 ≤ lo ∧ lo ≤ hi ∧ hi ≤ n) : inB lo hi n = some () := by unfold inB; rw [if_pos h]
theorem next (i : Nat) (h : i ≤ 1000) : IntKind.i64.wrap ((i : Int) + 1) = ((i + 1 : Nat) : Int) := by rw [wr (by omega)]; omega
theorem back (i : Nat) (h : i ≤ 1000) : IntKind.i64.wrap (((i + 1 : Nat) : Int) - 1) = (i : Int) := by rw [wr (by omega)]; omega

/-! ### Bits -/
theorem n21 (b : Nat) (hb : b ≤ 8) : ∀ (r k m : Nat) (l : List Bool) (ec : Bool), k + r = b → l.length = k → m < 1000 →
    Or K21n3 [I m, I (b : Int), AV.own (Id.c 0), I (k : Int)] [Blk.sl false 1 ec (bt l)] = some [T.lst 1 (ec && decide (r = 0)) (bt (l ++ bl r m))]
  | 0, k, m, l, ec, h, hl, hm => by
    refine orc_of ?_
    rw [e21n3]
    have h1 : ¬ (k : Int) < (b : Int) := by omega
    simp only [gd1, hd1, tl1, dr0, dr1, dr2, dr3, dr4, dr5, dr6, bo1, in1, st1, ls1, le1, pt1, fi1, fb1, fs1, ct1, cf1, nt1, nf1, ak0, akT, akF, cdec, cndec, cbeq, cnbeq, ↓reduceIte, beq_self_eq_true, Int.reduceBEq, Int.reduceEq, Bool.and_true, Bool.true_and, Bool.false_and, Bool.and_false, h1, bl, List.append_nil, decide_true]
  | r + 1, k, m, l, ec, h, hl, hm => by
    refine orc_of ?_
    rw [e21n3]
    have h1 : (k : Int) < (b : Int) := by omega
    have h2 : IntKind.i64.wrap ((m : Int).tdiv 2) = ((m / 2 : Nat) : Int) := by
      rw [show (m : Int).tdiv 2 = ((m / 2 : Nat) : Int) from by rw [Int.tdiv_eq_ediv_of_nonneg (by omega)]; omega]
      exact wr (by omega)
    have h3 : ((m : Int).tmod 2 == 1) = (m % 2 == 1) := by
      rw [Int.tmod_eq_emod_of_nonneg (by omega)]
      have : m % 2 = 0 ∨ m % 2 = 1 := by omega
      rcases this with e | e
      · have : (m : Int) % 2 = 0 := by omega
        rw [e, this]; rfl
      · have : (m : Int) % 2 = 1 := by omega
        rw [e, this]; rfl
    have h4 : small ((bt l).length + [[tb (m % 2 == 1)]].length) = some () := small_ok (by simp [bt_len]; omega)
    have ih := n21 b hb r (k + 1) (m / 2) (l ++ [m % 2 == 1]) false (by omega) (by simp [hl]) (by omega)
    simp only [gd1, hd1, tl1, dr0, dr1, dr2, dr3, dr4, dr5, dr6, bo1, in1, st1, ls1, le1, pt1, fi1, fb1, fs1, ct1, cf1, nt1, nf1, ak0, akT, akF, cdec, cndec, cbeq, cnbeq, ↓reduceIte, beq_self_eq_true, Int.reduceBEq, Int.reduceEq, Bool.and_true, Bool.true_and, Bool.false_and, Bool.and_false, h1, h2, h3, h4, next k (by omega), bt_one, ih, bl, List.append_assoc, List.cons_append, List.nil_append, Nat.add_one_ne_zero, decide_false]
theorem s21 (w b : Int) (hb : Wid b) (hw : InW w b) : Or (.call 21) [I w, I b] [] = some [T.lst 1 false (bt (bl b.toNat w.toNat))] := by
  refine orc_of ?_
  rw [e21]
  have h0 := w256 hb hw
  have hb' := hb
  unfold Wid at hb'
  have h := n21 b.toNat (by omega) b.toNat 0 w.toNat [] true (by omega) rfl (by omega)
  rw [show ((b.toNat : Nat) : Int) = b from by omega, show ((w.toNat : Nat) : Int) = w from by omega] at h
  have : ¬ b.toNat = 0 := by omega
  exact h.trans (by simp [this])

/-! ### Sums -/
theorem n22 (l0 m0 : List Bool) (e0 e1 : Bool) (hlen : l0.length ≤ 8) : ∀ (l m : List Bool) (i : Nat) (c : Bool) (d : List Bool) (ec : Bool), l0.drop i = l → m0.drop i = m → l.length = m.length → d.length = i →
    Or K22n4 [AV.t (T.lst 1 e0 (bt l0)), AV.t (T.lst 1 e1 (bt m0)), AV.own (Id.c 0), B c, I (i : Int)] [Blk.sl false 1 ec (bt d)] = some [T.lst 1 (ec && l.isEmpty) (bt (d ++ addL c l m))]
  | [], m, i, c, d, ec, hl, hm, hlm, hd => by
    refine orc_of ?_
    rw [e22n4]
    have h1 : ¬ (i : Int) < (l0.length : Int) := by have := at_end hl; omega
    simp only [gd1, hd1, tl1, dr0, dr1, dr2, dr3, dr4, dr5, dr6, bo1, in1, st1, ls1, le1, pt1, fi1, fb1, fs1, ct1, cf1, nt1, nf1, ak0, akT, akF, cdec, cndec, cbeq, cnbeq, ↓reduceIte, beq_self_eq_true, Int.reduceBEq, Int.reduceEq, Bool.and_true, Bool.true_and, Bool.false_and, Bool.and_false, bt_len, h1, addL, List.append_nil, List.isEmpty_nil]
  | x :: l, [], i, c, d, ec, hl, hm, hlm, hd => by simp at hlm
  | x :: l, y :: m, i, c, d, ec, hl, hm, hlm, hd => by
    refine orc_of ?_
    rw [e22n4]
    obtain ⟨g1, g2, g3⟩ := at_drop hl
    obtain ⟨f1, f2, f3⟩ := at_drop hm
    have h1 : (i : Int) < (l0.length : Int) := by omega
    have h2 : (i : Int) < (m0.length : Int) := by omega
    have h0 : (0 : Int) ≤ (i : Int) := by omega
    have h4 : ∀ x, small (d.length + [[tb x]].length) = some () := fun x => small_ok (by simp; omega)
    have e1' : (!((!(x == y)) == c)) = ((x != y) != c) := by cases x <;> cases y <;> cases c <;> rfl
    have e2' : (bif bif bif x then y else false then true else bif x then c else false then true else bif y then c else false) = (x && y || x && c || y && c) := by
      cases x <;> cases y <;> cases c <;> rfl
    have ih := n22 l0 m0 e0 e1 hlen l m (i + 1) (x && y || x && c || y && c) (d ++ [(x != y) != c]) false g3 f3 (by simpa using hlm) (by simp [hd])
    simp only [gd1, hd1, tl1, dr0, dr1, dr2, dr3, dr4, dr5, dr6, bo1, in1, st1, ls1, le1, pt1, fi1, fb1, fs1, ct1, cf1, nt1, nf1, ak0, akT, akF, cdec, cndec, cbeq, cnbeq, ↓reduceIte, beq_self_eq_true, Int.reduceBEq, Int.reduceEq, Bool.and_true, Bool.true_and, Bool.false_and, Bool.and_false, bt_len, h1, h2, h0, and_self, bt_get g1, bt_get f1]
    simp only [gd1, hd1, tl1, dr0, dr1, dr2, dr3, dr4, dr5, dr6, bo1, in1, st1, ls1, le1, pt1, fi1, fb1, fs1, ct1, cf1, nt1, nf1, ak0, akT, akF, cdec, cndec, cbeq, cnbeq, ↓reduceIte, beq_self_eq_true, Int.reduceBEq, Int.reduceEq, Bool.and_true, Bool.true_and, Bool.false_and, Bool.and_false, h4 _, e1', e2', next i (by omega), bt_one, ih, addL, List.append_assoc, List.cons_append, List.nil_append, List.isEmpty_cons]
theorem s22 (e0 e1 : Bool) (l m : List Bool) (hlen : l.length ≤ 8) (hlm : l.length = m.length) (h0 : l ≠ []) : Or (.call 22) [AV.t (T.lst 1 e0 (bt l)), AV.t (T.lst 1 e1 (bt m))] [] = some [T.lst 1 false (bt (addL false l m))] := by
  refine orc_of ?_
  rw [e22]
  have h := n22 l m e0 e1 hlen l m 0 false [] true rfl rfl hlm rfl
  rw [show bt [] = [] from rfl] at h
  cases l with
  | nil => exact absurd rfl h0
  | cons x l => simpa using h
theorem s23 (e0 : Bool) (l : List Bool) (hlen : l.length ≤ 8) (h0 : l ≠ []) : Or (.call 23) [AV.t (T.lst 1 e0 (bt l))] [] = some [T.lst 1 false (bt (leftL l))] := by
  refine orc_of ?_
  rw [e23]
  have h1 : 0 < l.length := List.length_pos_iff.2 h0
  have h2 : IntKind.i64.wrap ((l.length : Int) - 1) = ((l.length - 1 : Nat) : Int) := by rw [wr (by omega)]; omega
  have h3 : sub 0 ((l.length - 1 : Nat) : Int) (bt l) = bt l.dropLast := by
    simp [sub, bt, List.dropLast_eq_take, List.map_take]
  have h4 : inB 0 ((l.length - 1 : Nat) : Int) (l.length : Int) = some () := inB_ok (by omega)
  have h5 : small (1 + l.dropLast.length) = some () := small_ok (by simp; omega)
  simp only [gd1, hd1, tl1, dr0, dr1, dr2, dr3, dr4, dr5, dr6, bo1, in1, st1, ls1, le1, pt1, fi1, fb1, fs1, ct1, cf1, nt1, nf1, ak0, akT, akF, cdec, cndec, cbeq, cnbeq, ↓reduceIte, beq_self_eq_true, Int.reduceBEq, Int.reduceEq, Bool.and_true, Bool.true_and, Bool.false_and, Bool.and_false, bt_len, h2, h3, h4, h5]
  rfl

/-! ### The number of bits -/
theorem n24 (e0 : Bool) (l0 : List Bool) (hlen : l0.length ≤ 8) : ∀ (j : Nat), j ≤ l0.length →
    Or K24n3 [AV.t (T.lst 1 e0 (bt l0)), I (vl (l0.drop j) : Int), I ((j : Int) - 1)] [] = some [ti (vl l0)]
  | 0, _ => by
    refine orc_of ?_
    rw [e24n3]
    have h1 : ¬ ((0 : Nat) : Int) - 1 ≥ 0 := by omega
    simp only [gd1, hd1, tl1, dr0, dr1, dr2, dr3, dr4, dr5, dr6, bo1, in1, st1, ls1, le1, pt1, fi1, fb1, fs1, ct1, cf1, nt1, nf1, ak0, akT, akF, cdec, cndec, cbeq, cnbeq, ↓reduceIte, beq_self_eq_true, Int.reduceBEq, Int.reduceEq, Bool.and_true, Bool.true_and, Bool.false_and, Bool.and_false, h1, List.drop_zero]
  | j + 1, h => by
    refine orc_of ?_
    rw [e24n3]
    have e : ((j + 1 : Nat) : Int) - 1 = (j : Int) := by omega
    have h1 : (j : Int) ≥ 0 := by omega
    have h2 : (j : Int) < (l0.length : Int) := by omega
    have hd : l0.drop j = l0[j] :: l0.drop (j + 1) := List.drop_eq_getElem_cons (by omega)
    have hg : l0[j]? = some l0[j] := List.getElem?_eq_getElem (by omega)
    have hv : vl (l0.drop j) < 2 ^ 8 := Nat.lt_of_lt_of_le (vl_lt _) (Nat.pow_le_pow_right (by decide) (by simp; omega))
    have hv' : vl (l0.drop j) = l0[j].toNat + 2 * vl (l0.drop (j + 1)) := by rw [hd, vl]
    have ih := n24 e0 l0 hlen j (by omega)
    have w : IntKind.i64.wrap ((j : Int) - 1) = (j : Int) - 1 := wr (by omega)
    have w1 : IntKind.i64.wrap (2 * (vl (l0.drop (j + 1)) : Int)) = 2 * (vl (l0.drop (j + 1)) : Int) := wr (by omega)
    have w2 : IntKind.i64.wrap (2 * (vl (l0.drop (j + 1)) : Int) + 1) = 2 * (vl (l0.drop (j + 1)) : Int) + 1 := wr (by omega)
    simp only [gd1, hd1, tl1, dr0, dr1, dr2, dr3, dr4, dr5, dr6, bo1, in1, st1, ls1, le1, pt1, fi1, fb1, fs1, ct1, cf1, nt1, nf1, ak0, akT, akF, cdec, cndec, cbeq, cnbeq, ↓reduceIte, beq_self_eq_true, Int.reduceBEq, Int.reduceEq, Bool.and_true, Bool.true_and, Bool.false_and, Bool.and_false, e, h1, h2, ge_iff_le, and_self, bt_len, bt_get hg, w, w1, w2]
    cases hx : l0[j]
    · rw [hx] at hv'
      simp only [gd1, hd1, tl1, dr0, dr1, dr2, dr3, dr4, dr5, dr6, bo1, in1, st1, ls1, le1, pt1, fi1, fb1, fs1, ct1, cf1, nt1, nf1, ak0, akT, akF, cdec, cndec, cbeq, cnbeq, ↓reduceIte, beq_self_eq_true, Int.reduceBEq, Int.reduceEq, Bool.and_true, Bool.true_and, Bool.false_and, Bool.and_false]
      rw [← show ((vl (l0.drop j) : Nat) : Int) = 2 * (vl (l0.drop (j + 1)) : Int) from by simp at hv'; omega]
      exact ih
    · rw [hx] at hv'
      simp only [gd1, hd1, tl1, dr0, dr1, dr2, dr3, dr4, dr5, dr6, bo1, in1, st1, ls1, le1, pt1, fi1, fb1, fs1, ct1, cf1, nt1, nf1, ak0, akT, akF, cdec, cndec, cbeq, cnbeq, ↓reduceIte, beq_self_eq_true, Int.reduceBEq, Int.reduceEq, Bool.and_true, Bool.true_and, Bool.false_and, Bool.and_false]
      rw [← show ((vl (l0.drop j) : Nat) : Int) = 2 * (vl (l0.drop (j + 1)) : Int) + 1 from by simp at hv'; omega]
      exact ih
theorem s24 (e0 : Bool) (l : List Bool) (hlen : l.length ≤ 8) : Or (.call 24) [AV.t (T.lst 1 e0 (bt l))] [] = some [ti (vl l)] := by
  refine orc_of ?_
  rw [e24]
  have h := n24 e0 l hlen l.length (Nat.le_refl _)
  rw [List.drop_length] at h
  rw [bt_len, wr (by omega)]
  exact h

/-! ### The operations -/
/-- A list that is filled from its start. -/
def fillL (g : List Bool) (i : Nat) : List Bool := g.take i ++ List.replicate (g.length - i) false
theorem fillL_len {g : List Bool} {i : Nat} (h : i ≤ g.length) : (fillL g i).length = g.length := by simp [fillL]; omega
theorem fillL_set {g : List Bool} {i : Nat} {x : Bool} (h : g[i]? = some x) : (fillL g i).set i x = fillL g (i + 1) := by
  have hi := (List.getElem?_eq_some_iff.1 h).1
  apply List.ext_getElem?
  intro k
  unfold fillL
  rw [List.getElem?_set]
  by_cases hk : i = k
  · subst hk
    rw [if_pos rfl, if_pos (by simp; omega), List.getElem?_append_left (by simp; omega), List.getElem?_take_of_lt (by omega), h]
  · rw [if_neg hk]
    rcases Nat.lt_or_ge k i with g1 | g1
    · rw [List.getElem?_append_left (by simp; omega), List.getElem?_append_left (by simp; omega), List.getElem?_take_of_lt g1, List.getElem?_take_of_lt (by omega)]
    · rw [List.getElem?_append_right (by simp; omega), List.getElem?_append_right (by simp; omega)]
      simp only [List.length_take, List.getElem?_replicate]
      rw [Nat.min_eq_left (by omega), Nat.min_eq_left (by omega)]
      by_cases hk2 : k < g.length
      · rw [if_pos (by omega), if_pos (by omega)]
      · rw [if_neg (by omega), if_neg (by omega)]
theorem fillL_end (g : List Bool) : fillL g g.length = g := by simp [fillL]
theorem n11 (l0 : List Bool) (e0 : Bool) (hlen : l0.length ≤ 8) : ∀ (r i : Nat), i + r = l0.length →
    Or K11n11 [I (l0.length : Int), AV.t (T.lst 1 e0 (bt l0)), AV.own (Id.c 0), I (i : Int)] [Blk.sl false 1 false (bt (fillL (l0.map (!·)) i))] = some [ti (vl (l0.map (!·)))]
  | 0, i, h => by
    refine orc_of ?_
    rw [e11n11]
    have h1 : ¬ (i : Int) < (l0.length : Int) := by omega
    have h2 : fillL (l0.map (!·)) i = l0.map (!·) := by
      rw [show i = (l0.map (!·)).length from by simp; omega, fillL_end]
    simp only [gd1, hd1, tl1, dr0, dr1, dr2, dr3, dr4, dr5, dr6, bo1, in1, st1, ls1, le1, pt1, fi1, fb1, fs1, ct1, cf1, nt1, nf1, ak0, akT, akF, cdec, cndec, cbeq, cnbeq, ↓reduceIte, beq_self_eq_true, Int.reduceBEq, Int.reduceEq, Bool.and_true, Bool.true_and, Bool.false_and, Bool.and_false, h1, h2, s24 false (l0.map (!·)) (by simpa using hlen)]
  | r + 1, i, h => by
    refine orc_of ?_
    rw [e11n11]
    have h1 : (i : Int) < (l0.length : Int) := by omega
    have h0 : (0 : Int) ≤ (i : Int) := by omega
    have hg : l0[i]? = some l0[i] := List.getElem?_eq_getElem (by omega)
    have hf : (fillL (l0.map (!·)) i).length = l0.length := by rw [fillL_len (by simp; omega)]; simp
    have hs := bt_set (l := fillL (l0.map (!·)) i) (i := i) (by omega) (!l0[i])
    rw [fillL_set (x := !l0[i]) (by simp [hg])] at hs
    have ih := n11 l0 e0 hlen r (i + 1) (by omega)
    simp only [gd1, hd1, tl1, dr0, dr1, dr2, dr3, dr4, dr5, dr6, bo1, in1, st1, ls1, le1, pt1, fi1, fb1, fs1, ct1, cf1, nt1, nf1, ak0, akT, akF, cdec, cndec, cbeq, cnbeq, ↓reduceIte, beq_self_eq_true, Int.reduceBEq, Int.reduceEq, Bool.and_true, Bool.true_and, Bool.false_and, Bool.and_false, h1, h0, and_self, bt_len, bt_get hg, hf, hs, next i (by omega), ih]
theorem n18 (o : Int) (f : Bool → Bool → Bool) (hf : ∀ x y, (bif bif bif bif o == 17 then x else false then y else false then true else bif o == 18 then bif x then true else y else false then true else bif o == 19 then !x == y else false) = f x y)
    (l0 m0 : List Bool) (e0 e1 : Bool) (hlen : l0.length ≤ 8) (hlm : l0.length = m0.length) : ∀ (r i : Nat), i + r = l0.length →
    Or K11n18 [I o, I (l0.length : Int), AV.t (T.lst 1 e0 (bt l0)), AV.t (T.lst 1 e1 (bt m0)), AV.own (Id.c 0), I (i : Int)] [Blk.sl false 1 false (bt (fillL (List.zipWith f l0 m0) i))] = some [ti (vl (List.zipWith f l0 m0))]
  | 0, i, h => by
    refine orc_of ?_
    rw [e11n18]
    have h1 : ¬ (i : Int) < (l0.length : Int) := by omega
    have h2 : fillL (List.zipWith f l0 m0) i = List.zipWith f l0 m0 := by
      rw [show i = (List.zipWith f l0 m0).length from by simp; omega, fillL_end]
    simp only [gd1, hd1, tl1, dr0, dr1, dr2, dr3, dr4, dr5, dr6, bo1, in1, st1, ls1, le1, pt1, fi1, fb1, fs1, ct1, cf1, nt1, nf1, ak0, akT, akF, cdec, cndec, cbeq, cnbeq, ↓reduceIte, beq_self_eq_true, Int.reduceBEq, Int.reduceEq, Bool.and_true, Bool.true_and, Bool.false_and, Bool.and_false, h1, h2, s24 false (List.zipWith f l0 m0) (by simp; omega)]
  | r + 1, i, h => by
    refine orc_of ?_
    rw [e11n18]
    have h1 : (i : Int) < (l0.length : Int) := by omega
    have h1' : (i : Int) < (m0.length : Int) := by omega
    have h0 : (0 : Int) ≤ (i : Int) := by omega
    have hg : l0[i]? = some l0[i] := List.getElem?_eq_getElem (by omega)
    have hg' : m0[i]? = some m0[i] := List.getElem?_eq_getElem (by omega)
    have hl : (List.zipWith f l0 m0).length = l0.length := by simp; omega
    have hfl : (fillL (List.zipWith f l0 m0) i).length = l0.length := by rw [fillL_len (by omega), hl]
    have hs := bt_set (l := fillL (List.zipWith f l0 m0) i) (i := i) (by omega) (f l0[i] m0[i])
    rw [fillL_set (x := f l0[i] m0[i]) (by rw [List.getElem?_zipWith, hg, hg'])] at hs
    have ih := n18 o f hf l0 m0 e0 e1 hlen hlm r (i + 1) (by omega)
    simp only [h1, decide_true, ct1, h1', h0, and_self, bt_len, bt_get hg, bt_get hg', hfl, ↓reduceIte, gd1, hd1, bo1, hf, hs, next i (by omega), ih]

/-! ### Products -/
theorem times_step {l : List Bool} {b : Nat} (o m : Nat) (x : Bool) : ((o + x.toNat * m) % 2 ^ b + vl l * (2 * m % 2 ^ b)) % 2 ^ b = (o + vl (x :: l) * m) % 2 ^ b := by
  rw [Nat.add_mod, Nat.mod_mod, Nat.mul_mod, Nat.mod_mod, ← Nat.mul_mod, ← Nat.add_mod, vl]
  congr 1
  rw [Nat.add_mul, ← Nat.mul_assoc, Nat.mul_comm (vl l) 2]; omega
theorem n25t (b : Nat) (hb : 1 ≤ b ∧ b ≤ 8) (l0 : List Bool) (e0 : Bool) (h0 : l0.length = b) : ∀ (l : List Bool) (i : Nat) (o m : List Bool) (e1 e2 : Bool), l0.drop i = l → o.length = b → m.length = b →
    Or K11n25 [I (b : Int), AV.t (T.lst 1 e0 (bt l0)), AV.t (T.lst 1 e1 (bt m)), AV.t (T.lst 1 e2 (bt o)), I (i : Int)] [] = some [ti ((vl o + vl l * vl m) % 2 ^ b : Nat)]
  | [], i, o, m, e1, e2, hl, ho, hm => by
    refine orc_of ?_
    rw [e11n25s2]
    have h1 : ¬ (i : Int) < (b : Int) := by have := at_end hl; omega
    have : vl o % 2 ^ b = vl o := Nat.mod_eq_of_lt (by have := vl_lt o; rw [ho] at this; exact this)
    simp only [gd1, hd1, tl1, dr0, dr1, dr2, dr3, dr4, dr5, dr6, bo1, in1, st1, ls1, le1, pt1, fi1, fb1, fs1, ct1, cf1, nt1, nf1, ak0, akT, akF, cdec, cndec, cbeq, cnbeq, ↓reduceIte, beq_self_eq_true, Int.reduceBEq, Int.reduceEq, Bool.and_true, Bool.true_and, Bool.false_and, Bool.and_false, h1, s24 e2 o (by omega), vl, Nat.zero_mul, Nat.add_zero, this]
  | x :: l, i, o, m, e1, e2, hl, ho, hm => by
    refine orc_of ?_
    rw [e11n25s2]
    obtain ⟨g1, g2, g3⟩ := at_drop hl
    have h1 : (i : Int) < (b : Int) := by omega
    have h1' : (i : Int) < (l0.length : Int) := by omega
    have hz : (0 : Int) ≤ (i : Int) := by omega
    have hm0 : m ≠ [] := fun h => by subst h; simp at hm; omega
    have ho0 : o ≠ [] := fun h => by subst h; simp at ho; omega
    have st := times_step (l := l) (b := b) (vl o) (vl m) x
    cases x
    · have ih := n25t b hb l0 e0 h0 l (i + 1) o (leftL m) false e2 g3 ho (by rw [leftL_len hm0, hm])
      rw [vl_left hm0, hm] at ih
      have hov : vl o % 2 ^ b = vl o := Nat.mod_eq_of_lt (by have := vl_lt o; rw [ho] at this; exact this)
      simp only [Bool.toNat_false, Nat.zero_mul, Nat.add_zero, hov] at st
      simp only [gd1, hd1, tl1, dr0, dr1, dr2, dr3, dr4, dr5, dr6, bo1, in1, st1, ls1, le1, pt1, fi1, fb1, fs1, ct1, cf1, nt1, nf1, ak0, akT, akF, cdec, cndec, cbeq, cnbeq, ↓reduceIte, beq_self_eq_true, Int.reduceBEq, Int.reduceEq, Bool.and_true, Bool.true_and, Bool.false_and, Bool.and_false, h1, h1', hz, and_self, bt_len, bt_get g1, s23 e1 m (by omega) hm0, next i (by omega), ih, st]
    · have ih := n25t b hb l0 e0 h0 l (i + 1) (addL false o m) (leftL m) false false g3 (by rw [addL_len _ _ _ (by omega), ho]) (by rw [leftL_len hm0, hm])
      rw [vl_left hm0, hm, vl_add _ _ _ (by omega), ho] at ih
      simp only [Bool.toNat_false, Bool.toNat_true, Nat.one_mul, Nat.add_zero] at st ih
      simp only [gd1, hd1, tl1, dr0, dr1, dr2, dr3, dr4, dr5, dr6, bo1, in1, st1, ls1, le1, pt1, fi1, fb1, fs1, ct1, cf1, nt1, nf1, ak0, akT, akF, cdec, cndec, cbeq, cnbeq, ↓reduceIte, beq_self_eq_true, Int.reduceBEq, Int.reduceEq, Bool.and_true, Bool.true_and, Bool.false_and, Bool.and_false, h1, h1', hz, and_self, bt_len, bt_get g1, s22 e2 e1 o m (by omega) (by omega) ho0, s23 e1 m (by omega) hm0, next i (by omega), ih, st]
theorem n25o (b : Nat) (hb : 1 ≤ b ∧ b ≤ 8) (l0 : List Bool) (e0 : Bool) (h0 : l0.length = b) : ∀ (l : List Bool) (i : Nat) (o m : List Bool) (e1 : Bool), l0.drop i = l → o.length = b → m.length = b →
    Or K11n25 [I (b : Int), AV.t (T.lst 1 e0 (bt l0)), AV.t (T.lst 1 e1 (bt m)), AV.own (Id.c 0), I (i : Int)] [Blk.sl false 1 false (bt o)] = some [ti ((vl o + vl l * vl m) % 2 ^ b : Nat)]
  | [], i, o, m, e1, hl, ho, hm => by
    refine orc_of ?_
    rw [e11n25]
    have h1 : ¬ (i : Int) < (b : Int) := by have := at_end hl; omega
    have : vl o % 2 ^ b = vl o := Nat.mod_eq_of_lt (by have := vl_lt o; rw [ho] at this; exact this)
    simp only [gd1, hd1, tl1, dr0, dr1, dr2, dr3, dr4, dr5, dr6, bo1, in1, st1, ls1, le1, pt1, fi1, fb1, fs1, ct1, cf1, nt1, nf1, ak0, akT, akF, cdec, cndec, cbeq, cnbeq, ↓reduceIte, beq_self_eq_true, Int.reduceBEq, Int.reduceEq, Bool.and_true, Bool.true_and, Bool.false_and, Bool.and_false, h1, s24 false o (by omega), vl, Nat.zero_mul, Nat.add_zero, this]
  | x :: l, i, o, m, e1, hl, ho, hm => by
    refine orc_of ?_
    rw [e11n25]
    obtain ⟨g1, g2, g3⟩ := at_drop hl
    have h1 : (i : Int) < (b : Int) := by omega
    have h1' : (i : Int) < (l0.length : Int) := by omega
    have hz : (0 : Int) ≤ (i : Int) := by omega
    have hm0 : m ≠ [] := fun h => by subst h; simp at hm; omega
    have ho0 : o ≠ [] := fun h => by subst h; simp at ho; omega
    have st := times_step (l := l) (b := b) (vl o) (vl m) x
    cases x
    · have ih := n25o b hb l0 e0 h0 l (i + 1) o (leftL m) false g3 ho (by rw [leftL_len hm0, hm])
      rw [vl_left hm0, hm] at ih
      have hov : vl o % 2 ^ b = vl o := Nat.mod_eq_of_lt (by have := vl_lt o; rw [ho] at this; exact this)
      simp only [Bool.toNat_false, Nat.zero_mul, Nat.add_zero, hov] at st
      simp only [gd1, hd1, tl1, dr0, dr1, dr2, dr3, dr4, dr5, dr6, bo1, in1, st1, ls1, le1, pt1, fi1, fb1, fs1, ct1, cf1, nt1, nf1, ak0, akT, akF, cdec, cndec, cbeq, cnbeq, ↓reduceIte, beq_self_eq_true, Int.reduceBEq, Int.reduceEq, Bool.and_true, Bool.true_and, Bool.false_and, Bool.and_false, h1, h1', hz, and_self, bt_len, bt_get g1, s23 e1 m (by omega) hm0, next i (by omega), ih, st]
    · have ih := n25t b hb l0 e0 h0 l (i + 1) (addL false o m) (leftL m) false false g3 (by rw [addL_len _ _ _ (by omega), ho]) (by rw [leftL_len hm0, hm])
      rw [vl_left hm0, hm, vl_add _ _ _ (by omega), ho] at ih
      simp only [Bool.toNat_false, Bool.toNat_true, Nat.one_mul, Nat.add_zero] at st ih
      simp only [gd1, hd1, tl1, dr0, dr1, dr2, dr3, dr4, dr5, dr6, bo1, in1, st1, ls1, le1, pt1, fi1, fb1, fs1, ct1, cf1, nt1, nf1, ak0, akT, akF, cdec, cndec, cbeq, cnbeq, ↓reduceIte, beq_self_eq_true, Int.reduceBEq, Int.reduceEq, Bool.and_true, Bool.true_and, Bool.false_and, Bool.and_false, h1, h1', hz, and_self, bt_len, bt_get g1, s22 false e1 o m (by omega) (by omega) ho0, s23 e1 m (by omega) hm0, next i (by omega), ih, st]
theorem n33 (b : Nat) (hb : 1 ≤ b ∧ b ≤ 8) (n : Nat) (hn : n ≤ 8) : ∀ (r i : Nat) (l : List Bool) (e : Bool), i + r = n → l.length = b →
    Or K11n33 [I (n : Int), AV.t (T.lst 1 e (bt l)), I (i : Int)] [] = some [ti ((vl l * 2 ^ r) % 2 ^ b : Nat)]
  | 0, i, l, e, h, hl => by
    refine orc_of ?_
    rw [e11n33]
    have h1 : ¬ (i : Int) < (n : Int) := by omega
    have : vl l % 2 ^ b = vl l := Nat.mod_eq_of_lt (by have := vl_lt l; rw [hl] at this; exact this)
    simp only [gd1, hd1, tl1, dr0, dr1, dr2, dr3, dr4, dr5, dr6, bo1, in1, st1, ls1, le1, pt1, fi1, fb1, fs1, ct1, cf1, nt1, nf1, ak0, akT, akF, cdec, cndec, cbeq, cnbeq, ↓reduceIte, beq_self_eq_true, Int.reduceBEq, Int.reduceEq, Bool.and_true, Bool.true_and, Bool.false_and, Bool.and_false, h1, s24 e l (by omega), Nat.pow_zero, Nat.mul_one, this]
  | r + 1, i, l, e, h, hl => by
    refine orc_of ?_
    rw [e11n33]
    have h1 : (i : Int) < (n : Int) := by omega
    have h0 : l ≠ [] := fun h => by subst h; simp at hl; omega
    have ih := n33 b hb n hn r (i + 1) (leftL l) false (by omega) (by rw [leftL_len h0, hl])
    have ev : 2 * vl l % 2 ^ b * 2 ^ r % 2 ^ b = vl l * 2 ^ (r + 1) % 2 ^ b := by
      rw [Nat.mul_mod, Nat.mod_mod, ← Nat.mul_mod, Nat.pow_succ]
      congr 1
      rw [Nat.mul_comm 2, Nat.mul_assoc, Nat.mul_comm 2]
    rw [vl_left h0, hl, ev] at ih
    simp only [gd1, hd1, tl1, dr0, dr1, dr2, dr3, dr4, dr5, dr6, bo1, in1, st1, ls1, le1, pt1, fi1, fb1, fs1, ct1, cf1, nt1, nf1, ak0, akT, akF, cdec, cndec, cbeq, cnbeq, ↓reduceIte, beq_self_eq_true, Int.reduceBEq, Int.reduceEq, Bool.and_true, Bool.true_and, Bool.false_and, Bool.and_false, h1, s23 e l (by omega) h0, next i (by omega), ih]
theorem n38 (b : Nat) (hb : b ≤ 8) (l m : List Bool) (e0 e1 : Bool) (hl : l.length = b) (hm : m.length = b) : ∀ (j : Nat), j ≤ b →
    Or K11n38 [AV.t (T.lst 1 e0 (bt l)), AV.t (T.lst 1 e1 (bt m)), I ((j : Int) - 1)] [] = some [ti (if vl (l.take j) < vl (m.take j) then 1 else 0)]
  | 0, _ => by
    refine orc_of ?_
    rw [e11n38]
    have h1 : ¬ ((0 : Nat) : Int) - 1 ≥ 0 := by omega
    simp only [gd1, hd1, tl1, dr0, dr1, dr2, dr3, dr4, dr5, dr6, bo1, in1, st1, ls1, le1, pt1, fi1, fb1, fs1, ct1, cf1, nt1, nf1, ak0, akT, akF, cdec, cndec, cbeq, cnbeq, ↓reduceIte, beq_self_eq_true, Int.reduceBEq, Int.reduceEq, Bool.and_true, Bool.true_and, Bool.false_and, Bool.and_false, h1, List.take_zero, Nat.lt_irrefl]
  | j + 1, h => by
    refine orc_of ?_
    rw [e11n38]
    have e : ((j + 1 : Nat) : Int) - 1 = (j : Int) := by omega
    have h1 : (j : Int) ≥ 0 := by omega
    have h2 : (j : Int) < (l.length : Int) := by omega
    have h3 : (j : Int) < (m.length : Int) := by omega
    have hg : l[j]? = some l[j] := List.getElem?_eq_getElem (by omega)
    have hg' : m[j]? = some m[j] := List.getElem?_eq_getElem (by omega)
    have ih := n38 b hb l m e0 e1 hl hm j (by omega)
    have w : IntKind.i64.wrap ((j : Int) - 1) = (j : Int) - 1 := wr (by omega)
    have st := less_step hg hg' (by omega) (by omega)
    simp only [gd1, hd1, tl1, dr0, dr1, dr2, dr3, dr4, dr5, dr6, bo1, in1, st1, ls1, le1, pt1, fi1, fb1, fs1, ct1, cf1, nt1, nf1, ak0, akT, akF, cdec, cndec, cbeq, cnbeq, ↓reduceIte, beq_self_eq_true, Int.reduceBEq, Int.reduceEq, Bool.and_true, Bool.true_and, Bool.false_and, Bool.and_false, e, h1, h2, h3, ge_iff_le, and_self, bt_len, bt_get hg, bt_get hg', w, ih]
    cases hx : l[j] <;> cases hy : m[j] <;> rw [hx, hy] at st <;> simp at st ⊢ <;> simp [st]

theorem zero_bt (k : Nat) : vl (List.replicate k false) = 0 := by
  induction k with
  | zero => rfl
  | succ k ih => simp [List.replicate_succ, vl, ih]
theorem vl_val {w b : Int} (h : InW w b) : ((vl (bl b.toNat w.toNat) : Nat) : Int) = w := by
  rw [vl_bl, Nat.mod_eq_of_lt (toNat_lt h)]
  have := h.1
  omega
theorem vl_nat {w b : Int} (h : InW w b) : vl (bl b.toNat w.toNat) = w.toNat := by
  rw [vl_bl, Nat.mod_eq_of_lt (toNat_lt h)]
theorem fill_rep (g : List Bool) {k : Nat} (h : g.length = k) : List.replicate k [tb false] = bt (fillL g 0) := by
  simp [fillL, bt_rep, h]

/-- What the document says an operation makes of words that are fine is what is in 'valF'. -/
theorem s11 (o b : Int) (e : Bool) (ks : List Int) (n : Int) (hb : Wid b) (ho : 15 ≤ o ∧ o ≤ 23) (hl : (ks.length : Int) = opsF o) (hall : ∀ k ∈ ks, InW k b) (hf : FitO o b n) :
    Or (.call 11) [I o, I b, lst e ks, I n] [] = some [ti (valF o b ks n)] := by
  refine orc_of ?_
  rw [e11]
  have hb' := hb
  unfold Wid at hb'
  have hbn : ((b.toNat : Nat) : Int) = b := by omega
  have one : opsF o = 1 → ∃ k, ks = [k] ∧ InW k b := by
    intro h1
    rw [h1] at hl
    obtain ⟨k, rfl⟩ := List.length_eq_one_iff.1 (show ks.length = 1 by omega)
    exact ⟨k, rfl, hall k (by simp)⟩
  have two : opsF o = 2 → ∃ k l, ks = [k, l] ∧ InW k b ∧ InW l b := by
    intro h1
    rw [h1] at hl
    match ks, hl, hall with
    | [k, l], _, hall => exact ⟨k, l, rfl, hall k (by simp), hall l (by simp)⟩
  have hlen : ∀ w, (bl b.toNat w).length = b.toNat := fun w => bl_len _ w
  have n10 : ∀ k : Int, ¬ ((([k] : List Int).length : Int) > 1) := by intro k; simp
  have n20 : ∀ k l : Int, (([k, l] : List Int).length : Int) > 1 := by intro k l; simp
  have hmk := mk_ok hb
  have : o = 15 ∨ o = 16 ∨ o = 17 ∨ o = 18 ∨ o = 19 ∨ o = 20 ∨ o = 21 ∨ o = 22 ∨ o = 23 := by omega
  rcases this with rfl | rfl | rfl | rfl | rfl | rfl | rfl | rfl | rfl
  · simp only [gd1, hd1, tl1, dr0, dr1, dr2, dr3, dr4, dr5, dr6, bo1, in1, st1, ls1, le1, pt1, fi1, fb1, fs1, ct1, cf1, nt1, nf1, ak0, akT, akF, cdec, cndec, cbeq, cnbeq, ↓reduceIte, beq_self_eq_true, Int.reduceBEq, Int.reduceEq, Bool.and_true, Bool.true_and, Bool.false_and, Bool.and_false, valF]
  · obtain ⟨k, rfl, hk⟩ := one (by decide)
    have h := n11 (bl b.toNat k.toNat) false (by rw [hlen]; omega) b.toNat 0 (by rw [hlen]; omega)
    rw [hlen, hbn, ← fill_rep _ (by simp [hlen] : _ = b.toNat)] at h
    have hv := vl_not (bl b.toNat k.toNat)
    rw [hlen, vl_nat hk] at hv
    have hval : ((vl ((bl b.toNat k.toNat).map (!·)) : Nat) : Int) = valF 16 b [k] n := by
      have : valF 16 b [k] n = (-1 - k) % pw b := rfl
      rw [this, not_val hk]; omega
    rw [hval] at h
    simp only [gd1, hd1, tl1, dr0, dr1, dr2, dr3, dr4, dr5, dr6, bo1, in1, st1, ls1, le1, pt1, fi1, fb1, fs1, ct1, cf1, nt1, nf1, ak0, akT, akF, cdec, cndec, cbeq, cnbeq, ↓reduceIte, beq_self_eq_true, Int.reduceBEq, Int.reduceEq, Bool.and_true, Bool.true_and, Bool.false_and, Bool.and_false, l01, l10, enc_len, and_self, g0, s21 k b hb hk, n10, hmk]
    exact h
  · obtain ⟨k, l, rfl, hk, hl'⟩ := two (by decide)
    have h := n18 17 (· && ·) (by decide) (bl b.toNat k.toNat) (bl b.toNat l.toNat) false false (by rw [hlen]; omega) (by rw [hlen, hlen]) b.toNat 0 (by rw [hlen]; omega)
    rw [hlen, hbn, ← fill_rep _ (by simp [hlen] : _ = b.toNat), vl_and, Nat.mod_eq_of_lt (Nat.and_lt_two_pow _ (toNat_lt hl'))] at h
    simp only [gd1, hd1, tl1, dr0, dr1, dr2, dr3, dr4, dr5, dr6, bo1, in1, st1, ls1, le1, pt1, fi1, fb1, fs1, ct1, cf1, nt1, nf1, ak0, akT, akF, cdec, cndec, cbeq, cnbeq, ↓reduceIte, beq_self_eq_true, Int.reduceBEq, Int.reduceEq, Bool.and_true, Bool.true_and, Bool.false_and, Bool.and_false, l01, l02, l20, l21, enc_len, and_self, g0, g1, s21 k b hb hk, s21 l b hb hl', n20, hmk, valF, List.getD_cons_zero, List.getD_cons_succ]
    exact h
  · obtain ⟨k, l, rfl, hk, hl'⟩ := two (by decide)
    have h := n18 18 (· || ·) (by decide) (bl b.toNat k.toNat) (bl b.toNat l.toNat) false false (by rw [hlen]; omega) (by rw [hlen, hlen]) b.toNat 0 (by rw [hlen]; omega)
    rw [hlen, hbn, ← fill_rep _ (by simp [hlen] : _ = b.toNat), vl_or, Nat.mod_eq_of_lt (Nat.or_lt_two_pow (toNat_lt hk) (toNat_lt hl'))] at h
    simp only [gd1, hd1, tl1, dr0, dr1, dr2, dr3, dr4, dr5, dr6, bo1, in1, st1, ls1, le1, pt1, fi1, fb1, fs1, ct1, cf1, nt1, nf1, ak0, akT, akF, cdec, cndec, cbeq, cnbeq, ↓reduceIte, beq_self_eq_true, Int.reduceBEq, Int.reduceEq, Bool.and_true, Bool.true_and, Bool.false_and, Bool.and_false, l01, l02, l20, l21, enc_len, and_self, g0, g1, s21 k b hb hk, s21 l b hb hl', n20, hmk, valF, List.getD_cons_zero, List.getD_cons_succ]
    exact h
  · obtain ⟨k, l, rfl, hk, hl'⟩ := two (by decide)
    have h := n18 19 (· != ·) (by decide) (bl b.toNat k.toNat) (bl b.toNat l.toNat) false false (by rw [hlen]; omega) (by rw [hlen, hlen]) b.toNat 0 (by rw [hlen]; omega)
    rw [hlen, hbn, ← fill_rep _ (by simp [hlen] : _ = b.toNat), vl_xor, Nat.mod_eq_of_lt (Nat.xor_lt_two_pow (toNat_lt hk) (toNat_lt hl'))] at h
    simp only [gd1, hd1, tl1, dr0, dr1, dr2, dr3, dr4, dr5, dr6, bo1, in1, st1, ls1, le1, pt1, fi1, fb1, fs1, ct1, cf1, nt1, nf1, ak0, akT, akF, cdec, cndec, cbeq, cnbeq, ↓reduceIte, beq_self_eq_true, Int.reduceBEq, Int.reduceEq, Bool.and_true, Bool.true_and, Bool.false_and, Bool.and_false, l01, l02, l20, l21, enc_len, and_self, g0, g1, s21 k b hb hk, s21 l b hb hl', n20, hmk, valF, List.getD_cons_zero, List.getD_cons_succ]
    exact h
  · obtain ⟨k, l, rfl, hk, hl'⟩ := two (by decide)
    have hne : bl b.toNat k.toNat ≠ [] := fun h => by have := hlen k.toNat; rw [h] at this; simp at this; omega
    have h2 := s22 false false (bl b.toNat k.toNat) (bl b.toNat l.toNat) (by rw [hlen]; omega) (by rw [hlen, hlen]) hne
    have h4 := s24 false (addL false (bl b.toNat k.toNat) (bl b.toNat l.toNat)) (by rw [addL_len _ _ _ (by rw [hlen, hlen]), hlen]; omega)
    have hv : ((vl (addL false (bl b.toNat k.toNat) (bl b.toNat l.toNat)) : Nat) : Int) = (k + l) % pw b := by
      rw [vl_add _ _ _ (by rw [hlen, hlen]), hlen, vl_nat hk, vl_nat hl', pw_two]
      have := hk.1; have := hl'.1
      simp
      congr 1
      omega
    rw [hv] at h4
    simp only [gd1, hd1, tl1, dr0, dr1, dr2, dr3, dr4, dr5, dr6, bo1, in1, st1, ls1, le1, pt1, fi1, fb1, fs1, ct1, cf1, nt1, nf1, ak0, akT, akF, cdec, cndec, cbeq, cnbeq, ↓reduceIte, beq_self_eq_true, Int.reduceBEq, Int.reduceEq, Bool.and_true, Bool.true_and, Bool.false_and, Bool.and_false, l01, l02, l20, l21, enc_len, and_self, g0, g1, s21 k b hb hk, s21 l b hb hl', n20, hmk, valF, List.getD_cons_zero, List.getD_cons_succ, h2, h4]
  · obtain ⟨k, l, rfl, hk, hl'⟩ := two (by decide)
    have h := n25o b.toNat (by omega) (bl b.toNat k.toNat) false (hlen _) (bl b.toNat k.toNat) 0 (List.replicate b.toNat false) (bl b.toNat l.toNat) false rfl (by simp) (hlen _)
    have hv : (((vl (List.replicate b.toNat false) + vl (bl b.toNat k.toNat) * vl (bl b.toNat l.toNat)) % 2 ^ b.toNat : Nat) : Int) = (k * l) % pw b := by
      rw [zero_bt, Nat.zero_add, vl_nat hk, vl_nat hl', pw_two]
      have h1 := hk.1; have h2 := hl'.1
      rw [Int.natCast_emod, Int.natCast_mul, Int.toNat_of_nonneg h1, Int.toNat_of_nonneg h2]
    rw [hv, hbn, ← bt_rep] at h
    simp only [gd1, hd1, tl1, dr0, dr1, dr2, dr3, dr4, dr5, dr6, bo1, in1, st1, ls1, le1, pt1, fi1, fb1, fs1, ct1, cf1, nt1, nf1, ak0, akT, akF, cdec, cndec, cbeq, cnbeq, ↓reduceIte, beq_self_eq_true, Int.reduceBEq, Int.reduceEq, Bool.and_true, Bool.true_and, Bool.false_and, Bool.and_false, l01, l02, l20, l21, enc_len, and_self, g0, g1, s21 k b hb hk, s21 l b hb hl', n20, hmk, valF, List.getD_cons_zero, List.getD_cons_succ]
    exact h
  · obtain ⟨k, l, rfl, hk, hl'⟩ := two (by decide)
    have h := n38 b.toNat (by omega) (bl b.toNat k.toNat) (bl b.toNat l.toNat) false false (hlen _) (hlen _) b.toNat (Nat.le_refl _)
    rw [List.take_of_length_le (by rw [hlen]; omega), List.take_of_length_le (by rw [hlen]; omega), vl_nat hk, vl_nat hl', hbn] at h
    have hc : (k.toNat < l.toNat) = (k < l) := by
      have := hk.1; have := hl'.1
      exact propext ⟨fun _ => by omega, fun _ => by omega⟩
    have w : IntKind.i64.wrap (b - 1) = b - 1 := wr (by omega)
    simp only [hc] at h
    simp only [gd1, hd1, tl1, dr0, dr1, dr2, dr3, dr4, dr5, dr6, bo1, in1, st1, ls1, le1, pt1, fi1, fb1, fs1, ct1, cf1, nt1, nf1, ak0, akT, akF, cdec, cndec, cbeq, cnbeq, ↓reduceIte, beq_self_eq_true, Int.reduceBEq, Int.reduceEq, Bool.and_true, Bool.true_and, Bool.false_and, Bool.and_false, l01, l02, l20, l21, enc_len, and_self, g0, g1, s21 k b hb hk, s21 l b hb hl', n20, hmk, valF, List.getD_cons_zero, List.getD_cons_succ, w]
    exact h
  · obtain ⟨k, rfl, hk⟩ := one (by decide)
    have hn : 0 ≤ n ∧ n ≤ 8 := by simpa [FitO] using hf
    have h := n33 b.toNat (by omega) n.toNat (by omega) n.toNat 0 (bl b.toNat k.toNat) false (by omega) (hlen _)
    have hv : (((vl (bl b.toNat k.toNat) * 2 ^ n.toNat) % 2 ^ b.toNat : Nat) : Int) = (k * 2 ^ n.toNat) % pw b := by
      rw [vl_nat hk, pw_two]
      have h1 := hk.1
      rw [Int.natCast_emod, Int.natCast_mul, Int.toNat_of_nonneg h1]
      simp
    rw [hv, show ((n.toNat : Nat) : Int) = n from by omega] at h
    simp only [gd1, hd1, tl1, dr0, dr1, dr2, dr3, dr4, dr5, dr6, bo1, in1, st1, ls1, le1, pt1, fi1, fb1, fs1, ct1, cf1, nt1, nf1, ak0, akT, akF, cdec, cndec, cbeq, cnbeq, ↓reduceIte, beq_self_eq_true, Int.reduceBEq, Int.reduceEq, Bool.and_true, Bool.true_and, Bool.false_and, Bool.and_false, l01, l10, enc_len, and_self, g0, s21 k b hb hk, n10, hmk, valF, List.getD_cons_zero]
    exact h

/-! ### Faults -/
theorem n10bad (o b : Int) (hb : Wid b) (e : Bool) (ks : List Int) (n : Int) (hl : ks.length ≤ 2) (j : Nat) : ∀ (rest : List Int) (i : Nat), ks.drop i = rest → badK b rest i = some j →
    Or K10n13 [I o, I b, lst e ks, I n, r0, I (i : Int)] [bx2 0 0] = some [ti 3, ti j] := by
  intro rest
  induction rest with
  | nil => intro i _ h; simp [badK] at h
  | cons k rest ih =>
    intro i hd hbad
    obtain ⟨h1, h2, h3⟩ := at_drop hd
    refine orc_of ?_
    rw [e10n13, pw_shift' hb]
    have h : (i : Int) < (ks.length : Int) := by omega
    have h0 : (0 : Int) ≤ (i : Int) := by omega
    have hc : (if k < 0 then true else decide (k ≥ pw b)) = decide (¬ InW k b) := by
      rw [← cdec, cor, ← Bool.decide_or]; refine decide_eq_decide.2 ?_; unfold InW; omega
    simp only [badK] at hbad
    by_cases hk : InW k b
    · rw [if_pos hk] at hbad
      simp only [gd1, hd1, tl1, dr0, dr1, dr2, dr3, dr4, dr5, dr6, bo1, in1, st1, ls1, le1, pt1, fi1, fb1, fs1, ct1, cf1, nt1, nf1, ak0, akT, akF, cdec, cndec, cbeq, cnbeq, ↓reduceIte, beq_self_eq_true, Int.reduceBEq, Int.reduceEq, Bool.and_true, Bool.true_and, Bool.false_and, Bool.and_false, h, h0, and_self, enc_len, enc_get h1, u64_nn, hc, hk, not_true_eq_false, next i (by omega), ih (i + 1) h3 hbad]
    · rw [if_neg hk] at hbad
      simp only [Option.some.injEq] at hbad; subst hbad
      simp only [gd1, hd1, tl1, dr0, dr1, dr2, dr3, dr4, dr5, dr6, bo1, in1, st1, ls1, le1, pt1, fi1, fb1, fs1, ct1, cf1, nt1, nf1, ak0, akT, akF, cdec, cndec, cbeq, cnbeq, ↓reduceIte, beq_self_eq_true, Int.reduceBEq, Int.reduceEq, Bool.and_true, Bool.true_and, Bool.false_and, Bool.and_false, h, h0, and_self, enc_len, enc_get h1, u64_nn, hc, hk, not_false_eq_true, s14]
theorem n10ok (o b : Int) (hb : Wid b) (ho : 15 ≤ o ∧ o ≤ 23) (e : Bool) (ks : List Int) (n : Int) (hlen : ks.length ≤ 2) (hall : ∀ k ∈ ks, InW k b) : ∀ (rest : List Int) (i : Nat), ks.drop i = rest →
    Or K10n13 [I o, I b, lst e ks, I n, r0, I (i : Int)] [bx2 0 0] = some (if FitO o b n then [ti 0, ti 0] else [ti 5, ti 0]) := by
  intro rest
  induction rest with
  | nil =>
    intro i hd
    refine orc_of ?_
    rw [e10n13, pw_shift' hb]
    have h : ¬ (i : Int) < (ks.length : Int) := by have := at_end hd; omega
    have hp : IntKind.i64.wrap (pw b - 1) = pw b - 1 := by
      have : pw b ≤ 256 := by rcases pw_cases hb with e | e | e | e | e | e | e | e <;> rw [e] <;> decide
      have := pw_pos hb
      exact wr (by omega)
    have c1 : (bif decide (n < 0) then true else decide (n > 8)) = decide (¬ (0 ≤ n ∧ n ≤ 8)) := by
      rw [cor, ← Bool.decide_or]; refine decide_eq_decide.2 ?_; omega
    have c2 : (bif decide (n < 0) then true else decide (n > pw b - 1)) = decide (¬ InW n b) := by
      rw [cor, ← Bool.decide_or]; refine decide_eq_decide.2 ?_; unfold InW; omega
    have c3 : (bif decide (n < 0) then true else decide (n > 0)) = decide (¬ n = 0) := by
      rw [cor, ← Bool.decide_or]; refine decide_eq_decide.2 ?_; omega
    rw [hp, c1, c2, c3]
    unfold FitO
    by_cases h1 : o = 15
    · subst h1
      by_cases hf : InW n b
      · simp only [gd1, hd1, tl1, dr0, dr1, dr2, dr3, dr4, dr5, dr6, bo1, in1, st1, ls1, le1, pt1, fi1, fb1, fs1, ct1, cf1, nt1, nf1, ak0, akT, akF, cdec, cndec, cbeq, cnbeq, ↓reduceIte, beq_self_eq_true, Int.reduceBEq, Int.reduceEq, Bool.and_true, Bool.true_and, Bool.false_and, Bool.and_false, enc_len, h, u64_nn, hf, not_true_eq_false, decide_false]
      · simp only [gd1, hd1, tl1, dr0, dr1, dr2, dr3, dr4, dr5, dr6, bo1, in1, st1, ls1, le1, pt1, fi1, fb1, fs1, ct1, cf1, nt1, nf1, ak0, akT, akF, cdec, cndec, cbeq, cnbeq, ↓reduceIte, beq_self_eq_true, Int.reduceBEq, Int.reduceEq, Bool.and_true, Bool.true_and, Bool.false_and, Bool.and_false, enc_len, h, u64_nn, hf, not_false_eq_true, decide_true, s14]
    · by_cases h2 : o = 23
      · subst h2
        by_cases hf : 0 ≤ n ∧ n ≤ 8
        · simp only [gd1, hd1, tl1, dr0, dr1, dr2, dr3, dr4, dr5, dr6, bo1, in1, st1, ls1, le1, pt1, fi1, fb1, fs1, ct1, cf1, nt1, nf1, ak0, akT, akF, cdec, cndec, cbeq, cnbeq, ↓reduceIte, beq_self_eq_true, Int.reduceBEq, Int.reduceEq, Bool.and_true, Bool.true_and, Bool.false_and, Bool.and_false, enc_len, h, hf, not_true_eq_false, decide_false, and_self]
        · simp only [gd1, hd1, tl1, dr0, dr1, dr2, dr3, dr4, dr5, dr6, bo1, in1, st1, ls1, le1, pt1, fi1, fb1, fs1, ct1, cf1, nt1, nf1, ak0, akT, akF, cdec, cndec, cbeq, cnbeq, ↓reduceIte, beq_self_eq_true, Int.reduceBEq, Int.reduceEq, Bool.and_true, Bool.true_and, Bool.false_and, Bool.and_false, enc_len, h, hf, not_false_eq_true, decide_true, s14]
      · by_cases hf : n = 0
        · simp only [gd1, hd1, tl1, dr0, dr1, dr2, dr3, dr4, dr5, dr6, bo1, in1, st1, ls1, le1, pt1, fi1, fb1, fs1, ct1, cf1, nt1, nf1, ak0, akT, akF, cdec, cndec, cbeq, cnbeq, ↓reduceIte, beq_self_eq_true, Int.reduceBEq, Int.reduceEq, Bool.and_true, Bool.true_and, Bool.false_and, Bool.and_false, enc_len, h, h1, h2, hf, not_true_eq_false, decide_false]
        · simp only [gd1, hd1, tl1, dr0, dr1, dr2, dr3, dr4, dr5, dr6, bo1, in1, st1, ls1, le1, pt1, fi1, fb1, fs1, ct1, cf1, nt1, nf1, ak0, akT, akF, cdec, cndec, cbeq, cnbeq, ↓reduceIte, beq_self_eq_true, Int.reduceBEq, Int.reduceEq, Bool.and_true, Bool.true_and, Bool.false_and, Bool.and_false, enc_len, h, h1, h2, hf, not_false_eq_true, decide_true, s14]
  | cons k rest ih =>
    intro i hd
    obtain ⟨h1, h2, h3⟩ := at_drop hd
    have hk := hall k (List.mem_of_getElem? h1)
    refine orc_of ?_
    rw [e10n13, pw_shift' hb]
    have h : (i : Int) < (ks.length : Int) := by omega
    have h0 : (0 : Int) ≤ (i : Int) := by omega
    have hc : (if k < 0 then true else decide (k ≥ pw b)) = decide (¬ InW k b) := by
      rw [← cdec, cor, ← Bool.decide_or]; refine decide_eq_decide.2 ?_; unfold InW; omega
    simp only [gd1, hd1, tl1, dr0, dr1, dr2, dr3, dr4, dr5, dr6, bo1, in1, st1, ls1, le1, pt1, fi1, fb1, fs1, ct1, cf1, nt1, nf1, ak0, akT, akF, cdec, cndec, cbeq, cnbeq, ↓reduceIte, beq_self_eq_true, Int.reduceBEq, Int.reduceEq, Bool.and_true, Bool.true_and, Bool.false_and, Bool.and_false, h, h0, and_self, enc_len, enc_get h1, u64_nn, hc, hk, not_true_eq_false, next i (by omega), ih (i + 1) h3]
theorem s10 (o b : Int) (e : Bool) (ks : List Int) (n : Int) : Or (.call 10) [I o, I b, lst e ks, I n] [] = some (doF o b ks n).tail := by
  refine orc_of ?_
  rw [e10, wid_dec]
  unfold doF
  have hoo : (bif decide (o < 15) then true else decide (o > 23)) = decide (o < 15 ∨ o > 23) := by rw [cor, ← Bool.decide_or]
  rw [hoo]
  by_cases h1 : o < 15 ∨ o > 23
  · simp only [gd1, hd1, tl1, dr0, dr1, dr2, dr3, dr4, dr5, dr6, bo1, in1, st1, ls1, le1, pt1, fi1, fb1, fs1, ct1, cf1, nt1, nf1, ak0, akT, akF, cdec, cndec, cbeq, cnbeq, ↓reduceIte, beq_self_eq_true, Int.reduceBEq, Int.reduceEq, Bool.and_true, Bool.true_and, Bool.false_and, Bool.and_false, h1, s14, List.tail_cons]
  · by_cases hb : Wid b
    · have hfin : (ks.length : Int) = opsF o → Or K10n13 [I o, I b, lst e ks, I n, r0, I 0] [bx2 0 0] = some (match badK b ks 0 with
          | some i => [ti 0, ti 3, ti i]
          | none => if FitO o b n then [ti (valF o b ks n), ti 0, ti 0] else [ti 0, ti 5, ti 0]).tail := by
        intro hl
        have hlen : ks.length ≤ 2 := by have := ops_le o; omega
        cases hbad : badK b ks 0 with
        | some j => exact n10bad o b hb e ks n hlen j ks 0 rfl hbad
        | none =>
          refine (n10ok o b hb (by omega) e ks n hlen (badK_none hbad) ks 0 rfl).trans ?_
          by_cases hf : FitO o b n <;> simp [hf]
      by_cases h15 : o = 15
      · subst h15
        by_cases hl : (ks.length : Int) = opsF 15
        · have hl' : (ks.length : Int) = 0 := hl
          have := hfin hl
          simp only [gd1, hd1, tl1, dr0, dr1, dr2, dr3, dr4, dr5, dr6, bo1, in1, st1, ls1, le1, pt1, fi1, fb1, fs1, ct1, cf1, nt1, nf1, ak0, akT, akF, cdec, cndec, cbeq, cnbeq, ↓reduceIte, beq_self_eq_true, Int.reduceBEq, Int.reduceEq, Bool.and_true, Bool.true_and, Bool.false_and, Bool.and_false, h1, hb, hl, not_true_eq_false, decide_false, enc_len]
          simp only [gd1, hd1, tl1, dr0, dr1, dr2, dr3, dr4, dr5, dr6, bo1, in1, st1, ls1, le1, pt1, fi1, fb1, fs1, ct1, cf1, nt1, nf1, ak0, akT, akF, cdec, cndec, cbeq, cnbeq, ↓reduceIte, beq_self_eq_true, Int.reduceBEq, Int.reduceEq, Bool.and_true, Bool.true_and, Bool.false_and, Bool.and_false, show opsF 15 = 0 from by decide]
          exact this
        · have hl' : ¬ (ks.length : Int) = 0 := hl
          simp only [gd1, hd1, tl1, dr0, dr1, dr2, dr3, dr4, dr5, dr6, bo1, in1, st1, ls1, le1, pt1, fi1, fb1, fs1, ct1, cf1, nt1, nf1, ak0, akT, akF, cdec, cndec, cbeq, cnbeq, ↓reduceIte, beq_self_eq_true, Int.reduceBEq, Int.reduceEq, Bool.and_true, Bool.true_and, Bool.false_and, Bool.and_false, h1, hb, hl, hl', not_true_eq_false, not_false_eq_true, decide_false, enc_len, s14, List.tail_cons]
      · by_cases h16 : o = 16 ∨ o = 23
        · have h16' : (bif o == 16 then true else o == 23) = true := by rcases h16 with rfl | rfl <;> rfl
          have ho1 : opsF o = 1 := by unfold opsF; rw [if_neg h15, if_pos h16]
          by_cases hl : (ks.length : Int) = opsF o
          · have hl' : (ks.length : Int) = 1 := by omega
            have := hfin hl
            simp only [h16']
            simp only [gd1, hd1, tl1, dr0, dr1, dr2, dr3, dr4, dr5, dr6, bo1, in1, st1, ls1, le1, pt1, fi1, fb1, fs1, ct1, cf1, nt1, nf1, ak0, akT, akF, cdec, cndec, cbeq, cnbeq, ↓reduceIte, beq_self_eq_true, Int.reduceBEq, Int.reduceEq, Bool.and_true, Bool.true_and, Bool.false_and, Bool.and_false, h1, hb, h15, hl', ho1, not_true_eq_false, decide_false, enc_len]
            exact this
          · have hl' : ¬ (ks.length : Int) = 1 := by omega
            simp only [h16']
            simp only [gd1, hd1, tl1, dr0, dr1, dr2, dr3, dr4, dr5, dr6, bo1, in1, st1, ls1, le1, pt1, fi1, fb1, fs1, ct1, cf1, nt1, nf1, ak0, akT, akF, cdec, cndec, cbeq, cnbeq, ↓reduceIte, beq_self_eq_true, Int.reduceBEq, Int.reduceEq, Bool.and_true, Bool.true_and, Bool.false_and, Bool.and_false, h1, hb, h15, hl', ho1, not_true_eq_false, not_false_eq_true, decide_false, enc_len, s14, List.tail_cons]
        · have h16' : (bif o == 16 then true else o == 23) = false := by
            rw [cor]; simp; omega
          have ho1 : opsF o = 2 := by unfold opsF; rw [if_neg h15, if_neg h16]
          by_cases hl : (ks.length : Int) = opsF o
          · have hl' : (ks.length : Int) = 2 := by omega
            have := hfin hl
            simp only [h16']
            simp only [gd1, hd1, tl1, dr0, dr1, dr2, dr3, dr4, dr5, dr6, bo1, in1, st1, ls1, le1, pt1, fi1, fb1, fs1, ct1, cf1, nt1, nf1, ak0, akT, akF, cdec, cndec, cbeq, cnbeq, ↓reduceIte, beq_self_eq_true, Int.reduceBEq, Int.reduceEq, Bool.and_true, Bool.true_and, Bool.false_and, Bool.and_false, h1, hb, h15, hl', ho1, not_true_eq_false, decide_false, enc_len]
            exact this
          · have hl' : ¬ (ks.length : Int) = 2 := by omega
            simp only [h16']
            simp only [gd1, hd1, tl1, dr0, dr1, dr2, dr3, dr4, dr5, dr6, bo1, in1, st1, ls1, le1, pt1, fi1, fb1, fs1, ct1, cf1, nt1, nf1, ak0, akT, akF, cdec, cndec, cbeq, cnbeq, ↓reduceIte, beq_self_eq_true, Int.reduceBEq, Int.reduceEq, Bool.and_true, Bool.true_and, Bool.false_and, Bool.and_false, h1, hb, h15, hl', ho1, not_true_eq_false, not_false_eq_true, decide_false, enc_len, s14, List.tail_cons]
    · simp only [gd1, hd1, tl1, dr0, dr1, dr2, dr3, dr4, dr5, dr6, bo1, in1, st1, ls1, le1, pt1, fi1, fb1, fs1, ct1, cf1, nt1, nf1, ak0, akT, akF, cdec, cndec, cbeq, cnbeq, ↓reduceIte, beq_self_eq_true, Int.reduceBEq, Int.reduceEq, Bool.and_true, Bool.true_and, Bool.false_and, Bool.and_false, h1, hb, not_false_eq_true, decide_true, s14, List.tail_cons]

theorem law3 (o b : Int) (e : Bool) (ks : List Int) (n : Int) : Or (.call 3) [I o, I b, lst e ks, I n] [] = some [tb true] := by
  refine orc_of ?_
  rw [e3]
  have d8 := s8 o b e ks n
  have d10 := s10 o b e ks n
  unfold doF at d8 d10
  by_cases h1 : o < 15 ∨ o > 23
  · rw [if_pos h1] at d8 d10
    simp only [gd1, hd1, tl1, dr0, dr1, dr2, dr3, dr4, dr5, dr6, bo1, in1, st1, ls1, le1, pt1, fi1, fb1, fs1, ct1, cf1, nt1, nf1, ak0, akT, akF, cdec, cndec, cbeq, cnbeq, ↓reduceIte, beq_self_eq_true, Int.reduceBEq, Int.reduceEq, Bool.and_true, Bool.true_and, Bool.false_and, Bool.and_false, d8, d10, s9, List.tail_cons]
  · by_cases hb : Wid b
    · by_cases hl : (ks.length : Int) = opsF o
      · simp only [h1, hb, hl, not_true_eq_false, ↓reduceIte] at d8 d10
        cases hbad : badK b ks 0 with
        | some j =>
          simp only [hbad] at d8 d10
          simp only [gd1, hd1, tl1, dr0, dr1, dr2, dr3, dr4, dr5, dr6, bo1, in1, st1, ls1, le1, pt1, fi1, fb1, fs1, ct1, cf1, nt1, nf1, ak0, akT, akF, cdec, cndec, cbeq, cnbeq, ↓reduceIte, beq_self_eq_true, Int.reduceBEq, Int.reduceEq, Bool.and_true, Bool.true_and, Bool.false_and, Bool.and_false, d8, d10, s9, List.tail_cons]
        | none =>
          simp only [hbad] at d8 d10
          by_cases hf : FitO o b n
          · simp only [hf, ↓reduceIte] at d8 d10
            simp only [gd1, hd1, tl1, dr0, dr1, dr2, dr3, dr4, dr5, dr6, bo1, in1, st1, ls1, le1, pt1, fi1, fb1, fs1, ct1, cf1, nt1, nf1, ak0, akT, akF, cdec, cndec, cbeq, cnbeq, ↓reduceIte, beq_self_eq_true, Int.reduceBEq, Int.reduceEq, Bool.and_true, Bool.true_and, Bool.false_and, Bool.and_false, d8, d10, s9, List.tail_cons, s11 o b e ks n hb (by omega) hl (badK_none hbad) hf]
          · simp only [hf, ↓reduceIte] at d8 d10
            simp only [gd1, hd1, tl1, dr0, dr1, dr2, dr3, dr4, dr5, dr6, bo1, in1, st1, ls1, le1, pt1, fi1, fb1, fs1, ct1, cf1, nt1, nf1, ak0, akT, akF, cdec, cndec, cbeq, cnbeq, ↓reduceIte, beq_self_eq_true, Int.reduceBEq, Int.reduceEq, Bool.and_true, Bool.true_and, Bool.false_and, Bool.and_false, d8, d10, s9, List.tail_cons]
      · simp only [h1, hb, hl, not_true_eq_false, not_false_eq_true, ↓reduceIte] at d8 d10
        simp only [gd1, hd1, tl1, dr0, dr1, dr2, dr3, dr4, dr5, dr6, bo1, in1, st1, ls1, le1, pt1, fi1, fb1, fs1, ct1, cf1, nt1, nf1, ak0, akT, akF, cdec, cndec, cbeq, cnbeq, ↓reduceIte, beq_self_eq_true, Int.reduceBEq, Int.reduceEq, Bool.and_true, Bool.true_and, Bool.false_and, Bool.and_false, d8, d10, s9, List.tail_cons]
    · simp only [h1, hb, not_false_eq_true, ↓reduceIte] at d8 d10
      simp only [gd1, hd1, tl1, dr0, dr1, dr2, dr3, dr4, dr5, dr6, bo1, in1, st1, ls1, le1, pt1, fi1, fb1, fs1, ct1, cf1, nt1, nf1, ak0, akT, akF, cdec, cndec, cbeq, cnbeq, ↓reduceIte, beq_self_eq_true, Int.reduceBEq, Int.reduceEq, Bool.and_true, Bool.true_and, Bool.false_and, Bool.and_false, d8, d10, s9, List.tail_cons]
end Go.Aev.Gen
