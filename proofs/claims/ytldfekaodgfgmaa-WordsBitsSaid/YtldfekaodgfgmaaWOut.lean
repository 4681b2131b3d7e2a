/-
  Words' bits, there and back.
-/
import Derived.Test.YtldfekaodgfgmaaWRef
set_option linter.unusedSimpArgs false
set_option linter.unusedVariables false
namespace Go.Aev.Gen
open Go Go.Aev Go.Num

theorem bit1 (m : Nat) (h : m < 256) : (IntKind.i64.wrap ((BitVec.ofInt 64 (m : Int) &&& BitVec.ofInt 64 1).toNat : Int) == 1) = (m % 2 == 1) := by
  rw [BitVec.toNat_and, u8_small (by omega : 0 ≤ (m : Int) ∧ (m : Int) < 256), show (BitVec.ofInt 64 1).toNat = 1 from by decide, show ((m : Int)).toNat = m from by omega]
  rw [show m &&& 1 = m % 2 from Nat.and_one_is_mod m]
  have : m % 2 = 0 ∨ m % 2 = 1 := by omega
  rcases this with e | e <;> rw [e] <;> decide
theorem shr_nat (m k : Nat) (h : k ≤ 60) : ((m : Int)).fdiv ((2 : Int) ^ min ((k : Int)).toNat 64) = ((m / 2 ^ k : Nat) : Int) := by
  rw [show min ((k : Int)).toNat 64 = k from by simp; omega]
  rw [Int.fdiv_eq_ediv_of_nonneg _ (by exact Int.le_of_lt (Int.pow_pos (by decide)))]
  rw [Int.natCast_ediv]; simp

abbrev r1 : AV := AV.ref (Id.c 0) 0
theorem n12 (b : Nat) (hb : b ≤ 8) (m : Nat) (hm : m < 256) : ∀ (r k : Nat) (l : List Bool) (ec : Bool), k + r = b → l = bl k m → (ec = true → k = 0) →
    Or K12n7 [I m, r0, AV.own (Id.c 1), I (b : Int), I (k : Int)] [bx2 0 0, Blk.sl false 1 ec (bt l)] = some [T.lst 1 (ec && decide (r = 0)) (bt (bl b m)), ti 0, ti 0]
  | 0, k, l, ec, h, hl, he => by
    refine orc_of ?_
    rw [e12n7]
    have h1 : ¬ (k : Int) < (b : Int) := by omega
    have : k = b := by omega
    subst this
    simp only [gd1, hd1, tl1, dr0, dr1, dr2, dr3, dr4, dr5, dr6, bo1, in1, st1, ls1, le1, pt1, fi1, fb1, fs1, ct1, cf1, nt1, nf1, ak0, akT, akF, cdec, cndec, cbeq, cnbeq, ↓reduceIte, beq_self_eq_true, Int.reduceBEq, Int.reduceEq, Bool.and_true, Bool.true_and, Bool.false_and, Bool.and_false, h1, hl, decide_true]
  | r + 1, k, l, ec, h, hl, he => by
    refine orc_of ?_
    rw [e12n7]
    have h1 : (k : Int) < (b : Int) := by omega
    have h0 : ¬ (k : Int) < 0 := by omega
    have hlt : m / 2 ^ k < 256 := Nat.lt_of_le_of_lt (Nat.div_le_self _ _) hm
    have h4 : small ((bt l).length + [[tb (m / 2 ^ k % 2 == 1)]].length) = some () := small_ok (by simp [bt_len, hl, bl_len]; omega)
    have ih := n12 b hb m hm r (k + 1) (l ++ [m / 2 ^ k % 2 == 1]) false (by omega) (by rw [hl, bl_snoc]) (by simp)
    rw [shr_nat m k (by omega), bit1 _ hlt]
    simp only [gd1, hd1, tl1, dr0, dr1, dr2, dr3, dr4, dr5, dr6, bo1, in1, st1, ls1, le1, pt1, fi1, fb1, fs1, ct1, cf1, nt1, nf1, ak0, akT, akF, cdec, cndec, cbeq, cnbeq, ↓reduceIte, beq_self_eq_true, Int.reduceBEq, Int.reduceEq, Bool.and_true, Bool.true_and, Bool.false_and, Bool.and_false, h1, h0, h4, next k (by omega), bt_one, ih, Nat.add_one_ne_zero, decide_false]
theorem s12 (w b : Int) (hb : Wid b) (hw : InW w b) : Or (.call 12) [I w, I b] [] = some [T.lst 1 false (bt (bl b.toNat w.toNat)), ti 0, ti 0] := by
  refine orc_of ?_
  rw [e12]
  have h0 := w256 hb hw
  have hb' := hb
  unfold Wid at hb'
  have h := n12 b.toNat (by omega) w.toNat (by omega) b.toNat 0 [] true (by omega) rfl (by simp)
  rw [show ((b.toNat : Nat) : Int) = b from by omega, show ((w.toNat : Nat) : Int) = w from by omega] at h
  have hne : ¬ b.toNat = 0 := by omega
  simp only [gd1, hd1, tl1, dr0, dr1, dr2, dr3, dr4, dr5, dr6, bo1, in1, st1, ls1, le1, pt1, fi1, fb1, fs1, ct1, cf1, nt1, nf1, ak0, akT, akF, cdec, cndec, cbeq, cnbeq, ↓reduceIte, beq_self_eq_true, Int.reduceBEq, Int.reduceEq, Bool.and_true, Bool.true_and, Bool.false_and, Bool.and_false, s17, s19 w b hb, hb, hw, decide_true]
  exact h.trans (by simp [hne])
theorem s12wid (w b : Int) (hb : ¬ Wid b) : Or (.call 12) [I w, I b] [] = some [T.emp true, ti 3, ti (-1)] := by
  refine orc_of ?_
  rw [e12]
  simp only [gd1, hd1, tl1, dr0, dr1, dr2, dr3, dr4, dr5, dr6, bo1, in1, st1, ls1, le1, pt1, fi1, fb1, fs1, ct1, cf1, nt1, nf1, ak0, akT, akF, cdec, cndec, cbeq, cnbeq, ↓reduceIte, beq_self_eq_true, Int.reduceBEq, Int.reduceEq, Bool.and_true, Bool.true_and, Bool.false_and, Bool.and_false, s17, hb, decide_false]
theorem s12in (w b : Int) (hb : Wid b) (hw : ¬ InW w b) : Or (.call 12) [I w, I b] [] = some [T.emp true, ti 3, ti 0] := by
  refine orc_of ?_
  rw [e12]
  simp only [gd1, hd1, tl1, dr0, dr1, dr2, dr3, dr4, dr5, dr6, bo1, in1, st1, ls1, le1, pt1, fi1, fb1, fs1, ct1, cf1, nt1, nf1, ak0, akT, akF, cdec, cndec, cbeq, cnbeq, ↓reduceIte, beq_self_eq_true, Int.reduceBEq, Int.reduceEq, Bool.and_true, Bool.true_and, Bool.false_and, Bool.and_false, s17, s19 w b hb, hb, hw, decide_true, decide_false]

theorem or_pow (v k : Nat) (h : v < 2 ^ k) (hk : k ≤ 8) : IntKind.i64.wrap (BitVec.ofInt 64 (v : Int) ||| BitVec.ofInt 64 (IntKind.i64.wrap (1 * 2 ^ min ((k : Int)).toNat 64))).toNat = ((v + 2 ^ k : Nat) : Int) := by
  have hp : 2 ^ k ≤ 2 ^ 8 := Nat.pow_le_pow_right (by decide) hk
  rw [show min ((k : Int)).toNat 64 = k from by simp; omega]
  rw [show (1 : Int) * 2 ^ k = ((2 ^ k : Nat) : Int) from by simp]
  have t : ∀ n : Nat, n ≤ 512 → (BitVec.ofInt 64 (n : Int)).toNat = n := by
    intro n hn
    rw [BitVec.toNat_ofInt]
    show ((n : Int) % 18446744073709551616).toNat = n
    rw [Int.emod_eq_of_lt (by omega) (by omega)]; omega
  have w1 : IntKind.i64.wrap ((2 ^ k : Nat) : Int) = ((2 ^ k : Nat) : Int) := by
    have : (2 : Nat) ^ 8 = 256 := by decide
    exact wr (by omega)
  have p8 : (2 : Nat) ^ 8 = 256 := by decide
  rw [w1, BitVec.toNat_or, t v (by omega), t (2 ^ k) (by omega)]
  have e : v ||| 2 ^ k = v + 2 ^ k := by
    have := Nat.two_pow_add_eq_or_of_lt h 1
    rw [Nat.mul_one] at this
    rw [Nat.or_comm, ← this, Nat.add_comm]
  rw [e]
  exact wr (by omega)
theorem n13 (e0 : Bool) (l0 : List Bool) (hlen : l0.length ≤ 8) : ∀ (r k : Nat), k + r = l0.length →
    Or K13n5 [r0, I (vl (l0.take k) : Int), AV.t (T.lst 1 e0 (bt l0)), I (l0.length : Int), I (k : Int)] [bx2 0 0] = some [ti (vl l0), ti 0, ti 0]
  | 0, k, h => by
    refine orc_of ?_
    rw [e13n5]
    have h1 : ¬ (k : Int) < (l0.length : Int) := by omega
    rw [List.take_of_length_le (by omega)]
    simp only [gd1, hd1, tl1, dr0, dr1, dr2, dr3, dr4, dr5, dr6, bo1, in1, st1, ls1, le1, pt1, fi1, fb1, fs1, ct1, cf1, nt1, nf1, ak0, akT, akF, cdec, cndec, cbeq, cnbeq, ↓reduceIte, beq_self_eq_true, Int.reduceBEq, Int.reduceEq, Bool.and_true, Bool.true_and, Bool.false_and, Bool.and_false, h1]
  | r + 1, k, h => by
    refine orc_of ?_
    rw [e13n5]
    have h1 : (k : Int) < (l0.length : Int) := by omega
    have h0 : ¬ (k : Int) < 0 := by omega
    have h0' : 0 ≤ (k : Int) := by omega
    have hg : l0[k]? = some l0[k] := List.getElem?_eq_getElem (by omega)
    have ih := n13 e0 l0 hlen r (k + 1) (by omega)
    have hv := vl_take hg
    have hlt : vl (l0.take k) < 2 ^ k := by
      have := vl_lt (l0.take k)
      rwa [List.length_take, Nat.min_eq_left (by omega)] at this
    have ho := or_pow _ k hlt (by omega)
    simp only [gd1, hd1, tl1, dr0, dr1, dr2, dr3, dr4, dr5, dr6, bo1, in1, st1, ls1, le1, pt1, fi1, fb1, fs1, ct1, cf1, nt1, nf1, ak0, akT, akF, cdec, cndec, cbeq, cnbeq, ↓reduceIte, beq_self_eq_true, Int.reduceBEq, Int.reduceEq, Bool.and_true, Bool.true_and, Bool.false_and, Bool.and_false, h1, h0, h0', and_self, bt_len, bt_get hg, next k (by omega), ho]
    cases hx : l0[k]
    · rw [hx] at hv
      simp only [gd1, hd1, tl1, dr0, dr1, dr2, dr3, dr4, dr5, dr6, bo1, in1, st1, ls1, le1, pt1, fi1, fb1, fs1, ct1, cf1, nt1, nf1, ak0, akT, akF, cdec, cndec, cbeq, cnbeq, ↓reduceIte, beq_self_eq_true, Int.reduceBEq, Int.reduceEq, Bool.and_true, Bool.true_and, Bool.false_and, Bool.and_false]
      rw [show vl (l0.take k) = vl (l0.take (k + 1)) from by simp at hv; omega]
      exact ih
    · rw [hx] at hv
      simp only [gd1, hd1, tl1, dr0, dr1, dr2, dr3, dr4, dr5, dr6, bo1, in1, st1, ls1, le1, pt1, fi1, fb1, fs1, ct1, cf1, nt1, nf1, ak0, akT, akF, cdec, cndec, cbeq, cnbeq, ↓reduceIte, beq_self_eq_true, Int.reduceBEq, Int.reduceEq, Bool.and_true, Bool.true_and, Bool.false_and, Bool.and_false]
      rw [show vl (l0.take k) + 2 ^ k = vl (l0.take (k + 1)) from by simp at hv; omega]
      exact ih
theorem s13 (e0 : Bool) (l : List Bool) (h : Wid (l.length : Int)) : Or (.call 13) [AV.t (T.lst 1 e0 (bt l))] [] = some [ti (vl l), ti 0, ti 0] := by
  refine orc_of ?_
  rw [e13, bt_len]
  have h' := h
  unfold Wid at h'
  have := n13 e0 l (by omega) l.length 0 (by omega)
  simp only [gd1, hd1, tl1, dr0, dr1, dr2, dr3, dr4, dr5, dr6, bo1, in1, st1, ls1, le1, pt1, fi1, fb1, fs1, ct1, cf1, nt1, nf1, ak0, akT, akF, cdec, cndec, cbeq, cnbeq, ↓reduceIte, beq_self_eq_true, Int.reduceBEq, Int.reduceEq, Bool.and_true, Bool.true_and, Bool.false_and, Bool.and_false, s17, h, decide_true]
  exact this
theorem s13bad (e0 : Bool) (l : List Bool) (h : ¬ Wid (l.length : Int)) : Or (.call 13) [AV.t (T.lst 1 e0 (bt l))] [] = some [ti 0, ti 9, ti 0] := by
  refine orc_of ?_
  rw [e13, bt_len]
  simp only [gd1, hd1, tl1, dr0, dr1, dr2, dr3, dr4, dr5, dr6, bo1, in1, st1, ls1, le1, pt1, fi1, fb1, fs1, ct1, cf1, nt1, nf1, ak0, akT, akF, cdec, cndec, cbeq, cnbeq, ↓reduceIte, beq_self_eq_true, Int.reduceBEq, Int.reduceEq, Bool.and_true, Bool.true_and, Bool.false_and, Bool.and_false, s17, h, decide_false]

theorem bl_vl : ∀ (l : List Bool), bl l.length (vl l) = l
  | [] => rfl
  | x :: l => by
    have h1 : ((x.toNat + 2 * vl l) % 2 == 1) = x := by cases x <;> simp <;> omega
    have h2 : (x.toNat + 2 * vl l) / 2 = vl l := by cases x <;> simp <;> omega
    simp only [List.length_cons, bl, vl, h1, h2, bl_vl l]
theorem n4 (e0 e1 : Bool) (l0 : List Bool) (hlen : l0.length ≤ 8) : ∀ (r k : Nat), k + r = l0.length →
    Or K4n21 [AV.t (T.lst 1 e0 (bt l0)), AV.t (T.lst 1 e1 (bt l0)), I (k : Int)] [] = some [tb true]
  | 0, k, h => by
    refine orc_of ?_
    rw [e4n21]
    have h1 : ¬ (k : Int) < (l0.length : Int) := by omega
    simp only [gd1, hd1, tl1, dr0, dr1, dr2, dr3, dr4, dr5, dr6, bo1, in1, st1, ls1, le1, pt1, fi1, fb1, fs1, ct1, cf1, nt1, nf1, ak0, akT, akF, cdec, cndec, cbeq, cnbeq, ↓reduceIte, beq_self_eq_true, Int.reduceBEq, Int.reduceEq, Bool.and_true, Bool.true_and, Bool.false_and, Bool.and_false, bt_len, h1]
  | r + 1, k, h => by
    refine orc_of ?_
    rw [e4n21]
    have h1 : (k : Int) < (l0.length : Int) := by omega
    have h0' : 0 ≤ (k : Int) := by omega
    have hg : l0[k]? = some l0[k] := List.getElem?_eq_getElem (by omega)
    have ih := n4 e0 e1 l0 hlen r (k + 1) (by omega)
    simp only [gd1, hd1, tl1, dr0, dr1, dr2, dr3, dr4, dr5, dr6, bo1, in1, st1, ls1, le1, pt1, fi1, fb1, fs1, ct1, cf1, nt1, nf1, ak0, akT, akF, cdec, cndec, cbeq, cnbeq, ↓reduceIte, beq_self_eq_true, Int.reduceBEq, Int.reduceEq, Bool.and_true, Bool.true_and, Bool.false_and, Bool.and_false, h1, h0', and_self, bt_len, bt_get hg, next k (by omega), ih, Bool.not_true]

theorem law4 (w b : Int) (e : Bool) (l : List Bool) : Or (.call 4) [I w, I b, AV.t (T.lst 1 e (bt l))] [] = some [tb true] := by
  refine orc_of ?_
  rw [e4, wid_dec, bt_len, wid_dec]
  have tail : Wid (l.length : Int) → Or (.call 12) [I (vl l), I (l.length : Int)] [] = some [T.lst 1 false (bt l), ti 0, ti 0] := by
    intro h
    have h' := h
    unfold Wid at h'
    have hv := vl_lt l
    have := s12 (vl l) (l.length : Int) h ⟨by omega, by rw [pw_two]; simpa using Int.ofNat_lt.2 hv⟩
    rw [show ((l.length : Nat) : Int).toNat = l.length from by omega, show (((vl l : Nat) : Int)).toNat = vl l from by omega, bl_vl] at this
    exact this
  have loop : Wid (l.length : Int) → ∀ e1, Or K4n21 [AV.t (T.lst 1 e (bt l)), AV.t (T.lst 1 e1 (bt l)), I 0] [] = some [tb true] := by
    intro h e1
    unfold Wid at h
    exact n4 e e1 l (by omega) l.length 0 (by omega)
  have l0 : ¬ ((0 : Nat) : Int) > 0 := by decide
  by_cases hl : Wid (l.length : Int)
  · have t := tail hl
    have lp := loop hl
    by_cases hb : Wid b
    · by_cases hw : InW w b
      · have hv : ((vl (bl b.toNat w.toNat) : Nat) : Int) = w := vl_val hw
        have hlen : ((bl b.toNat w.toNat).length : Int) = b := by rw [bl_len]; unfold Wid at hb; omega
        have hn : ¬ w < 0 := by have := hw.1; omega
        have hn2 : ¬ w ≥ pw b := by have := hw.2; omega
        have h13 := s13 false (bl b.toNat w.toNat) (by rw [hlen]; exact hb)
        simp only [gd1, hd1, tl1, dr0, dr1, dr2, dr3, dr4, dr5, dr6, bo1, in1, st1, ls1, le1, pt1, fi1, fb1, fs1, ct1, cf1, nt1, nf1, ak0, akT, akF, cdec, cndec, cbeq, cnbeq, ↓reduceIte, beq_self_eq_true, Int.reduceBEq, Int.reduceEq, Bool.and_true, Bool.true_and, Bool.false_and, Bool.and_false, s9, s12 w b hb hw, s13 e l hl, hb, not_true_eq_false, u64_nn, pw_shift' hb, hn, hn2, h13, bt_len, hv, hlen, hl, t, lp, Bool.not_true]
      · have hc : (bif decide (w < 0) then true else decide (w ≥ pw b)) = decide (¬ InW w b) := by
          rw [cor, ← Bool.decide_or]; refine decide_eq_decide.2 ?_; unfold InW; omega
        simp only [pw_shift' hb, hc]
        simp only [gd1, hd1, tl1, dr0, dr1, dr2, dr3, dr4, dr5, dr6, bo1, in1, st1, ls1, le1, pt1, fi1, fb1, fs1, ct1, cf1, nt1, nf1, ak0, akT, akF, cdec, cndec, cbeq, cnbeq, ↓reduceIte, beq_self_eq_true, Int.reduceBEq, Int.reduceEq, Bool.and_true, Bool.true_and, Bool.false_and, Bool.and_false, s9, s12in w b hb hw, s13 e l hl, hb, not_true_eq_false, u64_nn, hw, not_false_eq_true, s14, List.length_nil, l0, hl, t, lp, bt_len, Bool.not_true]
    · simp only [gd1, hd1, tl1, dr0, dr1, dr2, dr3, dr4, dr5, dr6, bo1, in1, st1, ls1, le1, pt1, fi1, fb1, fs1, ct1, cf1, nt1, nf1, ak0, akT, akF, cdec, cndec, cbeq, cnbeq, ↓reduceIte, beq_self_eq_true, Int.reduceBEq, Int.reduceEq, Bool.and_true, Bool.true_and, Bool.false_and, Bool.and_false, s9, s12wid w b hb, s13 e l hl, hb, not_true_eq_false, not_false_eq_true, s14, List.length_nil, l0, hl, t, lp, bt_len, Bool.not_true]
  · by_cases hb : Wid b
    · by_cases hw : InW w b
      · have hv : ((vl (bl b.toNat w.toNat) : Nat) : Int) = w := vl_val hw
        have hlen : ((bl b.toNat w.toNat).length : Int) = b := by rw [bl_len]; unfold Wid at hb; omega
        have hn : ¬ w < 0 := by have := hw.1; omega
        have hn2 : ¬ w ≥ pw b := by have := hw.2; omega
        have h13 := s13 false (bl b.toNat w.toNat) (by rw [hlen]; exact hb)
        simp only [gd1, hd1, tl1, dr0, dr1, dr2, dr3, dr4, dr5, dr6, bo1, in1, st1, ls1, le1, pt1, fi1, fb1, fs1, ct1, cf1, nt1, nf1, ak0, akT, akF, cdec, cndec, cbeq, cnbeq, ↓reduceIte, beq_self_eq_true, Int.reduceBEq, Int.reduceEq, Bool.and_true, Bool.true_and, Bool.false_and, Bool.and_false, s9, s12 w b hb hw, s13bad e l hl, hb, not_true_eq_false, not_false_eq_true, u64_nn, pw_shift' hb, hn, hn2, h13, bt_len, hv, hlen, hl, s14, Bool.not_true]
      · have hc : (bif decide (w < 0) then true else decide (w ≥ pw b)) = decide (¬ InW w b) := by
          rw [cor, ← Bool.decide_or]; refine decide_eq_decide.2 ?_; unfold InW; omega
        simp only [pw_shift' hb, hc]
        simp only [gd1, hd1, tl1, dr0, dr1, dr2, dr3, dr4, dr5, dr6, bo1, in1, st1, ls1, le1, pt1, fi1, fb1, fs1, ct1, cf1, nt1, nf1, ak0, akT, akF, cdec, cndec, cbeq, cnbeq, ↓reduceIte, beq_self_eq_true, Int.reduceBEq, Int.reduceEq, Bool.and_true, Bool.true_and, Bool.false_and, Bool.and_false, s9, s12in w b hb hw, s13bad e l hl, hb, not_true_eq_false, u64_nn, hw, not_false_eq_true, s14, List.length_nil, l0, hl, bt_len, Bool.not_true]
    · simp only [gd1, hd1, tl1, dr0, dr1, dr2, dr3, dr4, dr5, dr6, bo1, in1, st1, ls1, le1, pt1, fi1, fb1, fs1, ct1, cf1, nt1, nf1, ak0, akT, akF, cdec, cndec, cbeq, cnbeq, ↓reduceIte, beq_self_eq_true, Int.reduceBEq, Int.reduceEq, Bool.and_true, Bool.true_and, Bool.false_and, Bool.and_false, s9, s12wid w b hb, s13bad e l hl, hb, not_true_eq_false, not_false_eq_true, s14, List.length_nil, l0, hl, bt_len, Bool.not_true]
end Go.Aev.Gen
