/-
  Fractions of wide numbers.
-/
import Derived.Test.YtobpninhnmmpeaaGreatZQuo
set_option linter.unusedSimpArgs false
set_option linter.unusedVariables false
namespace Go.Aev.Wd
open Go Go.Aev Go.Aev.Gen

/-! ### Numbers that are not too large -/
def Lim (z : Int) : Prop := (z.natAbs : Int) < 4294967296 ^ 200
theorem Lim.len {z : Int} {s : Bool} {d : List Int} (h : Lim z) (r : Rep z s d) : d.length ≤ 200 := rep_len r 200 h
theorem Lim.le {z w : Int} (h : Lim z) (hw : w.natAbs ≤ z.natAbs) : Lim w := by
  unfold Lim at *
  have : (w.natAbs : Int) ≤ (z.natAbs : Int) := by omega
  exact Int.lt_of_le_of_lt this h
/-- Numbers of 64 bits. -/
def Sm (z : Int) : Prop := -9223372036854775808 < z ∧ z < 9223372036854775808
theorem Sm.lim {z : Int} (h : Sm z) : Lim z := by
  unfold Sm at h; unfold Lim
  have h1 : (4294967296 : Int) ^ 2 ≤ 4294967296 ^ 200 := pow_mono (by omega)
  have h2 : (4294967296 : Int) ^ 2 = 18446744073709551616 := by decide
  rw [h2] at h1
  exact Int.lt_of_lt_of_le (by omega) h1
/-- What a method answers that sets its receiver. -/
def SetsG (z : Int) (r : Option (List T)) : Prop := ∃ s e d, r = some [T.nilp, tb s, T.lst 1 e (encD d)] ∧ Rep z s d
theorem Sets.g {z : Int} {n : Nat} {r : Option (List T)} (h : Sets z n r) : SetsG z r := by obtain ⟨s, e, d, k1, k2, _⟩ := h; exact ⟨s, e, d, k1, k2⟩
abbrev r1 : AV := AV.ref (Id.c 1) 0
abbrev pt (s e : Bool) (d : List Int) : T := T.ptr [T.bool s, T.lst 1 e (encD d)]
theorem wi {z : Int} {s e : Bool} {d : List Int} (h : Rep z s d) : WI z (pt s e d) := ⟨s, e, d, rfl, h⟩
theorem g77 (s : Bool) (y : T) {x1 x2 : T} {u v : Int} (h1 : WI u x1) (h2 : WI v x2) (lu : Lim u) (lv : Lim v) (hv : v ≠ 0) :
    SetsG (u.tdiv v) (Or (.call 102) [r0, AV.t x1, AV.t x2] [Blk.box [AV.t (T.bool s), AV.t y]]) := by
  obtain ⟨s2, e2, a, rfl, ha⟩ := h1
  obtain ⟨s3, e3, b, rfl, hb⟩ := h2
  have := lu.len ha
  have := lv.len hb
  obtain ⟨sq, eq, dq, sm, em, dm, k1, k2, k3⟩ := s70g s y s2 e2 s3 e3 false (T.emp true) a b u v ha hb (by omega) (by omega) hv
  refine ⟨sq, eq, dq, orc_of ?_, k2⟩
  rw [e77]
  simp only [gd1, hd1, tl1, dr0, dr1, dr2, dr3, dr4, dr5, dr6, bo1, in1, st1, ls1, le1, pt1, fi1, fb1, fs1, ct1, cf1, nt1, nf1, ak0, akT, akF, cdec, cndec, cbeq, cnbeq, ↓reduceIte, beq_self_eq_true, Int.reduceBEq, Int.reduceEq, Bool.and_true, Bool.true_and, Bool.false_and, Bool.and_false, k1]
theorem g73 (s : Bool) (y : T) {x1 x2 : T} {u v : Int} (h1 : WI u x1) (h2 : WI v x2) (lu : Lim u) (lv : Lim v) (hv : 0 < v) :
    SetsG (u % v) (Or (.call 62) [r0, AV.t x1, AV.t x2] [Blk.box [AV.t (T.bool s), AV.t y]]) := by
  obtain ⟨s2, e2, a, rfl, ha⟩ := h1
  obtain ⟨s3, e3, b, rfl, hb⟩ := h2
  have := lu.len ha
  have := lv.len hb
  obtain ⟨sq, eq, dq, sm, em, dm, k1, k2, k3⟩ := s52g false (T.emp true) s2 e2 s3 e3 s y a b u v ha hb (by omega) (by omega) hv
  refine ⟨sm, em, dm, orc_of ?_, k3⟩
  rw [e73]
  simp only [gd1, hd1, tl1, dr0, dr1, dr2, dr3, dr4, dr5, dr6, bo1, in1, st1, ls1, le1, pt1, fi1, fb1, fs1, ct1, cf1, nt1, nf1, ak0, akT, akF, cdec, cndec, cbeq, cnbeq, ↓reduceIte, beq_self_eq_true, Int.reduceBEq, Int.reduceEq, Bool.and_true, Bool.true_and, Bool.false_and, Bool.and_false, k1]
theorem g37 (s : Bool) (y : T) {x1 x2 : T} {u v : Int} (h1 : WI u x1) (h2 : WI v x2) (lu : Lim u) (lv : Lim v) :
    SetsG (u * v) (Or (.call 72) [r0, AV.t x1, AV.t x2] [Blk.box [AV.t (T.bool s), AV.t y]]) := by
  obtain ⟨s2, e2, a, rfl, ha⟩ := h1
  obtain ⟨s3, e3, b, rfl, hb⟩ := h2
  have := lu.len ha
  have := lv.len hb
  exact (s37 s y s2 e2 s3 e3 a b u v ha hb (by omega) (by omega)).g
theorem g49z {s2 e2 : Bool} {a : List Int} {x2 : T} {u v : Int} (ha : Rep u s2 a) (h2 : WI v x2) (lu : Lim u) (lv : Lim v) :
    SetsG (u + v) (Or (.call 75) [r0, r0, AV.t x2] [Blk.box [AV.t (T.bool s2), AV.t (T.lst 1 e2 (encD a))]]) := by
  obtain ⟨s3, e3, b, rfl, hb⟩ := h2
  have := lu.len ha
  have := lv.len hb
  exact (s49z s2 e2 s3 e3 a b u v ha hb (by omega) (by omega)).g
theorem s69p (s : Bool) (y : T) (s2 e2 : Bool) (d : List Int) (r : List T) (hd : d.length ≤ 1000) : Or (.call 63) [r0, AV.t (T.ptr (T.bool s2 :: T.lst 1 e2 (encD d) :: r))] [Blk.box [AV.t (T.bool s), AV.t y]] = some [T.nilp, tb s2, T.lst 1 false (encD d)] := by
  refine orc_of ?_
  rw [e69p]
  have : small 4 (encD d).length = some () := small_ok (by rw [encD_len]; omega)
  simp only [gd1, hd1, tl1, dr0, dr1, dr2, dr3, dr4, dr5, dr6, bo1, in1, st1, ls1, le1, pt1, fi1, fb1, fs1, ct1, cf1, nt1, nf1, ak0, akT, akF, cdec, cndec, cbeq, cnbeq, ↓reduceIte, beq_self_eq_true, Int.reduceBEq, Int.reduceEq, Bool.and_true, Bool.true_and, Bool.false_and, Bool.and_false, this]
theorem s69z (s e : Bool) (d : List Int) (hd : d.length ≤ 1000) : Or (.call 63) [r0, r0] [Blk.box [AV.t (T.bool s), AV.t (T.lst 1 e (encD d))]] = some [T.nilp, tb s, T.lst 1 false (encD d)] := by
  refine orc_of ?_
  rw [e69z]
  have : small 4 (encD d).length = some () := small_ok (by rw [encD_len]; omega)
  simp only [gd1, hd1, tl1, dr0, dr1, dr2, dr3, dr4, dr5, dr6, bo1, in1, st1, ls1, le1, pt1, fi1, fb1, fs1, ct1, cf1, nt1, nf1, ak0, akT, akF, cdec, cndec, cbeq, cnbeq, ↓reduceIte, beq_self_eq_true, Int.reduceBEq, Int.reduceEq, Bool.and_true, Bool.true_and, Bool.false_and, Bool.and_false, this]
theorem s69a (s : Bool) (y : T) (t : Bool) (u : T) (s2 e2 : Bool) (d : List Int) (hd : d.length ≤ 1000) : Or (.call 63) [r0, AV.t (pt s2 e2 d)] [Blk.box [AV.t (T.bool s), AV.t y, AV.t (T.bool t), AV.t u]] = some [T.nilp, tb s2, T.lst 1 false (encD d), tb t, u] := by
  refine orc_of ?_
  rw [e69a]
  have : small 4 (encD d).length = some () := small_ok (by rw [encD_len]; omega)
  simp only [gd1, hd1, tl1, dr0, dr1, dr2, dr3, dr4, dr5, dr6, bo1, in1, st1, ls1, le1, pt1, fi1, fb1, fs1, ct1, cf1, nt1, nf1, ak0, akT, akF, cdec, cndec, cbeq, cnbeq, ↓reduceIte, beq_self_eq_true, Int.reduceBEq, Int.reduceEq, Bool.and_true, Bool.true_and, Bool.false_and, Bool.and_false, this]
theorem s69b (s : Bool) (y : T) (t : Bool) (u : T) (s2 e2 : Bool) (d : List Int) (hd : d.length ≤ 1000) : Or (.call 63) [AV.ref (Id.c 0) 2, AV.t (pt s2 e2 d)] [Blk.box [AV.t (T.bool s), AV.t y, AV.t (T.bool t), AV.t u]] = some [T.nilp, tb s, y, tb s2, T.lst 1 false (encD d)] := by
  refine orc_of ?_
  rw [e69b]
  have : small 4 (encD d).length = some () := small_ok (by rw [encD_len]; omega)
  simp only [gd1, hd1, tl1, dr0, dr1, dr2, dr3, dr4, dr5, dr6, bo1, in1, st1, ls1, le1, pt1, fi1, fb1, fs1, ct1, cf1, nt1, nf1, ak0, akT, akF, cdec, cndec, cbeq, cnbeq, ↓reduceIte, beq_self_eq_true, Int.reduceBEq, Int.reduceEq, Bool.and_true, Bool.true_and, Bool.false_and, Bool.and_false, this]
theorem neg_rep {s2 : Bool} {d : List Int} {z : Int} (hz : Rep z s2 d) : Rep (-z) (!s2 && decide ((d.length : Int) > 0)) d := by
  refine ⟨hz.dg, hz.can, fun h => ?_, ?_⟩
  · simp only [Bool.and_eq_true, decide_eq_true_eq] at h
    intro h'; subst h'
    simp at h
  · have := hz.z
    unfold num at this ⊢
    cases s2 with
    | true => simp at this ⊢; omega
    | false =>
      simp only [Bool.false_eq_true, if_false] at this
      by_cases hl : (d.length : Int) > 0
      · simp [hl]; omega
      · have : d = [] := List.length_eq_zero_iff.1 (by omega)
        subst this
        simp [val] at *
        omega
theorem s50p (s : Bool) (y : T) (s2 e2 : Bool) (d : List Int) (r : List T) (z : Int) (hd : d.length ≤ 1000) (hz : Rep z s2 d) : SetsG (-z) (Or (.call 103) [r0, AV.t (T.ptr (T.bool s2 :: T.lst 1 e2 (encD d) :: r))] [Blk.box [AV.t (T.bool s), AV.t y]]) := by
  refine ⟨_, false, d, orc_of ?_, neg_rep hz⟩
  rw [e50p]
  simp only [gd1, hd1, tl1, dr0, dr1, dr2, dr3, dr4, dr5, dr6, bo1, in1, st1, ls1, le1, pt1, fi1, fb1, fs1, ct1, cf1, nt1, nf1, ak0, akT, akF, cdec, cndec, cbeq, cnbeq, ↓reduceIte, beq_self_eq_true, Int.reduceBEq, Int.reduceEq, Bool.and_true, Bool.true_and, Bool.false_and, Bool.and_false, s69p s y s2 e2 d r hd, encD_len, cand]
theorem s50z (s e : Bool) (d : List Int) (z : Int) (hd : d.length ≤ 1000) (hz : Rep z s d) : SetsG (-z) (Or (.call 103) [r0, r0] [Blk.box [AV.t (T.bool s), AV.t (T.lst 1 e (encD d))]]) := by
  refine ⟨_, false, d, orc_of ?_, neg_rep hz⟩
  rw [e50z]
  simp only [gd1, hd1, tl1, dr0, dr1, dr2, dr3, dr4, dr5, dr6, bo1, in1, st1, ls1, le1, pt1, fi1, fb1, fs1, ct1, cf1, nt1, nf1, ak0, akT, akF, cdec, cndec, cbeq, cnbeq, ↓reduceIte, beq_self_eq_true, Int.reduceBEq, Int.reduceEq, Bool.and_true, Bool.true_and, Bool.false_and, Bool.and_false, s69z s e d hd, encD_len, cand]
theorem s71 (s : Bool) (y : T) {x : T} {z : Int} (h : WI z x) (lz : Lim z) : SetsG (z.natAbs : Int) (Or (.call 58) [r0, AV.t x] [Blk.box [AV.t (T.bool s), AV.t y]]) := by
  obtain ⟨s2, e2, d, rfl, hr⟩ := h
  have := lz.len hr
  refine ⟨false, false, d, orc_of ?_, ⟨hr.dg, hr.can, fun h => (by cases h), by simp [num, rep_abs hr]⟩⟩
  rw [e71]
  simp only [gd1, hd1, tl1, dr0, dr1, dr2, dr3, dr4, dr5, dr6, bo1, in1, st1, ls1, le1, pt1, fi1, fb1, fs1, ct1, cf1, nt1, nf1, ak0, akT, akF, cdec, cndec, cbeq, cnbeq, ↓reduceIte, beq_self_eq_true, Int.reduceBEq, Int.reduceEq, Bool.and_true, Bool.true_and, Bool.false_and, Bool.and_false, s69 s y s2 e2 d (by omega)]
theorem s72 (s2 e2 : Bool) (d : List Int) (r : List T) (z : Int) (h : Rep z s2 d) : Or (.call 59) [AV.t (T.ptr (T.bool s2 :: T.lst 1 e2 (encD d) :: r))] [] = some [ti z.sign] := by
  refine orc_of ?_
  rw [e72]
  have hs := rep_sg h
  have ha := rep_abs h
  by_cases hd : d = []
  · subst hd
    have : z = 0 := by simp [val] at ha; omega
    subst this
    simp only [gd1, hd1, tl1, dr0, dr1, dr2, dr3, dr4, dr5, dr6, bo1, in1, st1, ls1, le1, pt1, fi1, fb1, fs1, ct1, cf1, nt1, nf1, ak0, akT, akF, cdec, cndec, cbeq, cnbeq, ↓reduceIte, beq_self_eq_true, Int.reduceBEq, Int.reduceEq, Bool.and_true, Bool.true_and, Bool.false_and, Bool.and_false, encD_len, List.length_nil]
    rfl
  · have hp := can_pos h.dg h.can hd
    have hl : ¬ (d.length : Int) = 0 := by have := List.length_pos_iff.2 hd; omega
    cases s2 with
    | true =>
      have : z < 0 := by simpa using hs.symm
      have : z.sign = -1 := Int.sign_eq_neg_one_of_neg this
      simp only [gd1, hd1, tl1, dr0, dr1, dr2, dr3, dr4, dr5, dr6, bo1, in1, st1, ls1, le1, pt1, fi1, fb1, fs1, ct1, cf1, nt1, nf1, ak0, akT, akF, cdec, cndec, cbeq, cnbeq, ↓reduceIte, beq_self_eq_true, Int.reduceBEq, Int.reduceEq, Bool.and_true, Bool.true_and, Bool.false_and, Bool.and_false, encD_len, hl, this]
    | false =>
      have : ¬ z < 0 := by simpa using hs.symm
      have : z.sign = 1 := Int.sign_eq_one_of_pos (by omega)
      simp only [gd1, hd1, tl1, dr0, dr1, dr2, dr3, dr4, dr5, dr6, bo1, in1, st1, ls1, le1, pt1, fi1, fb1, fs1, ct1, cf1, nt1, nf1, ak0, akT, akF, cdec, cndec, cbeq, cnbeq, ↓reduceIte, beq_self_eq_true, Int.reduceBEq, Int.reduceEq, Bool.and_true, Bool.true_and, Bool.false_and, Bool.and_false, encD_len, hl, this]
theorem s55 {x1 x2 : T} {u v : Int} (h1 : WI u x1) (h2 : WI v x2) (lu : Lim u) (lv : Lim v) : Or (.call 28) [AV.t x1, AV.t x2] [] = some [ti (cmp3 u v)] := by
  obtain ⟨s2, e2, a, rfl, ha⟩ := h1
  obtain ⟨s3, e3, b, rfl, hb⟩ := h2
  have := lu.len ha
  have := lv.len hb
  have h67 := s67 a b s2 e2 s3 e3 ha.dg hb.dg ha.can hb.can (by omega) (by omega)
  have h67' := s67 b a s3 e3 s2 e2 hb.dg ha.dg hb.can ha.can (by omega) (by omega)
  have sa := rep_sg ha
  have sb := rep_sg hb
  have za := rep_abs ha
  have zb := rep_abs hb
  refine orc_of ?_
  rw [e55]
  cases s2 <;> cases s3 <;> simp only [Bool.true_eq, Bool.false_eq, decide_eq_true_eq, decide_eq_false_iff_not] at sa sb
  · simp only [gd1, hd1, tl1, dr0, dr1, dr2, dr3, dr4, dr5, dr6, bo1, in1, st1, ls1, le1, pt1, fi1, fb1, fs1, ct1, cf1, nt1, nf1, ak0, akT, akF, cdec, cndec, cbeq, cnbeq, ↓reduceIte, beq_self_eq_true, Int.reduceBEq, Int.reduceEq, Bool.and_true, Bool.true_and, Bool.false_and, Bool.and_false, ff, h67]
    have : cmp3 (val a) (val b) = cmp3 u v := by rw [za, zb]; unfold cmp3; split <;> split <;> (try split) <;> (try split) <;> omega
    rw [this]
  · simp only [gd1, hd1, tl1, dr0, dr1, dr2, dr3, dr4, dr5, dr6, bo1, in1, st1, ls1, le1, pt1, fi1, fb1, fs1, ct1, cf1, nt1, nf1, ak0, akT, akF, cdec, cndec, cbeq, cnbeq, ↓reduceIte, beq_self_eq_true, Int.reduceBEq, Int.reduceEq, Bool.and_true, Bool.true_and, Bool.false_and, Bool.and_false, ft]
    have : cmp3 u v = 1 := by unfold cmp3; rw [if_neg (by omega), if_neg (by omega)]
    rw [this]
  · simp only [gd1, hd1, tl1, dr0, dr1, dr2, dr3, dr4, dr5, dr6, bo1, in1, st1, ls1, le1, pt1, fi1, fb1, fs1, ct1, cf1, nt1, nf1, ak0, akT, akF, cdec, cndec, cbeq, cnbeq, ↓reduceIte, beq_self_eq_true, Int.reduceBEq, Int.reduceEq, Bool.and_true, Bool.true_and, Bool.false_and, Bool.and_false, tf]
    have : cmp3 u v = -1 := by unfold cmp3; rw [if_pos (by omega)]
    rw [this]
  · simp only [gd1, hd1, tl1, dr0, dr1, dr2, dr3, dr4, dr5, dr6, bo1, in1, st1, ls1, le1, pt1, fi1, fb1, fs1, ct1, cf1, nt1, nf1, ak0, akT, akF, cdec, cndec, cbeq, cnbeq, ↓reduceIte, beq_self_eq_true, Int.reduceBEq, Int.reduceEq, Bool.and_true, Bool.true_and, Bool.false_and, Bool.and_false, tt, h67']
    have : cmp3 (val b) (val a) = cmp3 u v := by rw [za, zb]; unfold cmp3; split <;> split <;> (try split) <;> (try split) <;> omega
    rw [this]
/-! ### The greatest divisor -/
theorem n54 (s : Bool) (y : T) : ∀ (d c : Nat), c < 18446744073709551616 → d < 18446744073709551616 → SetsG ((Nat.gcd c d : Nat) : Int) (Or K54n5m1 [r0, AV.t (T.int .u64 (c : Int)), AV.t (T.int .u64 (d : Int))] [Blk.box [AV.t (T.bool s), AV.t y]]) := by
  intro d
  induction d using Nat.strongRecOn with
  | _ d ih =>
    intro c hc hd
    by_cases h0 : (d : Int) > 0
    · have hm : (c : Int).tmod (d : Int) = ((c % d : Nat) : Int) := by rw [Int.tmod_eq_emod_of_nonneg (by omega), Int.natCast_emod]
      have hlt : c % d < d := Nat.mod_lt _ (by omega)
      obtain ⟨s', e', d', k1, k2⟩ := ih (c % d) hlt d hd (by omega)
      have hg : Nat.gcd d (c % d) = Nat.gcd c d := by rw [Nat.gcd_comm c d, Nat.gcd_rec d c, Nat.gcd_comm]
      rw [hg] at k2
      have hn : ¬ (d : Int) = 0 := by omega
      refine ⟨s', e', d', orc_of ?_, k2⟩
      rw [e54n5]
      simp only [gd1, hd1, tl1, dr0, dr1, dr2, dr3, dr4, dr5, dr6, bo1, in1, st1, ls1, le1, pt1, fi1, fb1, fs1, ct1, cf1, nt1, nf1, ak0, akT, akF, cdec, cndec, cbeq, cnbeq, ↓reduceIte, beq_self_eq_true, Int.reduceBEq, Int.reduceEq, Bool.and_true, Bool.true_and, Bool.false_and, Bool.and_false, h0, hn, hm]
      exact k1
    · have : d = 0 := by omega
      subst this
      obtain ⟨e', d', k1, k2, k3, k4, k5⟩ := s65 s y (c : Int) (by omega)
      refine ⟨false, e', d', orc_of ?_, ⟨k2, k3, fun h => (by cases h), by simp [num, k4]⟩⟩
      rw [e54n5]
      simp only [gd1, hd1, tl1, dr0, dr1, dr2, dr3, dr4, dr5, dr6, bo1, in1, st1, ls1, le1, pt1, fi1, fb1, fs1, ct1, cf1, nt1, nf1, ak0, akT, akF, cdec, cndec, cbeq, cnbeq, ↓reduceIte, beq_self_eq_true, Int.reduceBEq, Int.reduceEq, Bool.and_true, Bool.true_and, Bool.false_and, Bool.and_false, h0, k1]
theorem n54n2 (s : Bool) (y : T) : ∀ (b a : Nat) (x1 x2 : T), WI (a : Int) x1 → WI (b : Int) x2 → Lim (a : Int) → Lim (b : Int) → SetsG ((Nat.gcd a b : Nat) : Int) (Or K54n2m1 [r0, AV.t x1, AV.t x2] [Blk.box [AV.t (T.bool s), AV.t y]]) := by
  intro b
  induction b using Nat.strongRecOn with
  | _ b ih =>
    intro a x1 x2 h1 h2 la lb
    obtain ⟨s2, e2, p, rfl, hp⟩ := h1
    obtain ⟨s3, e3, q, rfl, hq⟩ := h2
    have lp := la.len hp
    have lq := lb.len hq
    have h72 := s72 s3 e3 q [] (b : Int) hq
    by_cases h0 : b = 0
    · subst h0
      refine ⟨s2, false, p, orc_of ?_, by simpa using hp⟩
      rw [e54n2]
      have : ((0 : Nat) : Int).sign = 0 := rfl
      rw [this] at h72
      simp only [gd1, hd1, tl1, dr0, dr1, dr2, dr3, dr4, dr5, dr6, bo1, in1, st1, ls1, le1, pt1, fi1, fb1, fs1, ct1, cf1, nt1, nf1, ak0, akT, akF, cdec, cndec, cbeq, cnbeq, ↓reduceIte, beq_self_eq_true, Int.reduceBEq, Int.reduceEq, Bool.and_true, Bool.true_and, Bool.false_and, Bool.and_false, h72, s69 s y s2 e2 p (by omega)]
    · have hs : (b : Int).sign = 1 := Int.sign_eq_one_of_pos (by omega)
      rw [hs] at h72
      have h10 : ¬ (1 : Int) = 0 := by omega
      by_cases hl : (p.length : Int) < 3 ∧ (q.length : Int) < 3
      · have h53a := s53 s2 e2 p hp.dg (by omega)
        have h53b := s53 s3 e3 q hq.dg (by omega)
        have va := rep_abs hp
        have vb := rep_abs hq
        have ba := val_lt hp.dg
        have bb := val_lt hq.dg
        have h2 : ∀ d : List Int, d.length ≤ 2 → (4294967296 : Int) ^ d.length ≤ 18446744073709551616 := fun d hd => by
          have h2 : (4294967296 : Int) ^ d.length ≤ 4294967296 ^ 2 := pow_mono hd
          rw [show ((4294967296 : Int) ^ 2) = 18446744073709551616 from by decide] at h2
          exact h2
        have ha2 := h2 p (by omega)
        have hb2 := h2 q (by omega)
        have va' : val p = (a : Int) := by omega
        have vb' : val q = (b : Int) := by omega
        rw [va'] at h53a
        rw [vb'] at h53b
        obtain ⟨s', e', d', k1, k2⟩ := n54 s y b a (by omega) (by omega)
        refine ⟨s', e', d', orc_of ?_, k2⟩
        rw [e54n2]
        simp only [cand, ← Bool.decide_and]
        simp only [gd1, hd1, tl1, dr0, dr1, dr2, dr3, dr4, dr5, dr6, bo1, in1, st1, ls1, le1, pt1, fi1, fb1, fs1, ct1, cf1, nt1, nf1, ak0, akT, akF, cdec, cndec, cbeq, cnbeq, ↓reduceIte, beq_self_eq_true, Int.reduceBEq, Int.reduceEq, Bool.and_true, Bool.true_and, Bool.false_and, Bool.and_false, h72, h10, encD_len, hl, and_self, h53a, h53b]
        exact k1
      · obtain ⟨sm, em, dm, m1, m2⟩ := g73 false (T.emp true) (wi (e := e2) hp) (wi (e := e3) hq) la lb (by omega)
        have hm : (a : Int) % (b : Int) = ((a % b : Nat) : Int) := by simp
        rw [hm] at m2
        have hlt : a % b < b := Nat.mod_lt _ (by omega)
        obtain ⟨s', e', d', k1, k2⟩ := ih (a % b) hlt b _ _ (wi (e := e3) hq) (wi (e := em) m2) lb (lb.le (by omega))
        have hg : Nat.gcd b (a % b) = Nat.gcd a b := by rw [Nat.gcd_comm a b, Nat.gcd_rec b a, Nat.gcd_comm]
        rw [hg] at k2
        refine ⟨s', e', d', orc_of ?_, k2⟩
        rw [e54n2]
        simp only [cand, ← Bool.decide_and]
        simp only [gd1, hd1, tl1, dr0, dr1, dr2, dr3, dr4, dr5, dr6, bo1, in1, st1, ls1, le1, pt1, fi1, fb1, fs1, ct1, cf1, nt1, nf1, ak0, akT, akF, cdec, cndec, cbeq, cnbeq, ↓reduceIte, beq_self_eq_true, Int.reduceBEq, Int.reduceEq, Bool.and_true, Bool.true_and, Bool.false_and, Bool.and_false, h72, h10, encD_len, hl, m1]
        exact k1
theorem g54 (s : Bool) (y : T) {x1 x2 : T} {u v : Int} (h1 : WI u x1) (h2 : WI v x2) (lu : Lim u) (lv : Lim v) :
    SetsG ((Int.gcd u v : Nat) : Int) (Or (.call 26) [r0, AV.t T.nilp, AV.t T.nilp, AV.t x1, AV.t x2] [Blk.box [AV.t (T.bool s), AV.t y]]) := by
  obtain ⟨sa, ea, da, a1, a2⟩ := s71 false (T.emp true) h1 lu
  obtain ⟨sb, eb, db, b1, b2⟩ := s71 false (T.emp true) h2 lv
  obtain ⟨s', e', d', k1, k2⟩ := n54n2 s y v.natAbs u.natAbs _ _ (wi (e := ea) a2) (wi (e := eb) b2) (lu.le (by omega)) (lv.le (by omega))
  obtain ⟨s2, e2, a, rfl, ha⟩ := h1
  obtain ⟨s3, e3, b, rfl, hb⟩ := h2
  refine ⟨s', e', d', orc_of ?_, k2⟩
  rw [e54]
  simp only [gd1, hd1, tl1, dr0, dr1, dr2, dr3, dr4, dr5, dr6, bo1, in1, st1, ls1, le1, pt1, fi1, fb1, fs1, ct1, cf1, nt1, nf1, ak0, akT, akF, cdec, cndec, cbeq, cnbeq, ↓reduceIte, beq_self_eq_true, Int.reduceBEq, Int.reduceEq, Bool.and_true, Bool.true_and, Bool.false_and, Bool.and_false, a1, b1]
  exact k1
/-! ### Fractions -/
/-- A fraction that is handed on. -/
def WR (q : Rat) (x : T) : Prop := ∃ s e d s' e' d', x = T.ptr [tb s, T.lst 1 e (encD d), tb s', T.lst 1 e' (encD d')] ∧ Rep q.num s d ∧ Rep (q.den : Int) s' d'
def LQ (q : Rat) : Prop := Lim q.num ∧ Lim (q.den : Int)
def SetsQ (q : Rat) (r : Option (List T)) : Prop := ∃ s e d s' e' d', r = some [T.nilp, tb s, T.lst 1 e (encD d), tb s', T.lst 1 e' (encD d')] ∧ Rep q.num s d ∧ Rep (q.den : Int) s' d'
abbrev b4 (s : Bool) (y : T) (t : Bool) (u : T) : Blk := Blk.box [AV.t (T.bool s), AV.t y, AV.t (T.bool t), AV.t u]
theorem divInt_parts {u v : Int} (hv : v ≠ 0) : (v < 0 → (Rat.divInt u v).num = -(u.tdiv (Int.gcd u v : Nat)) ∧ ((Rat.divInt u v).den : Int) = -(v.tdiv (Int.gcd u v : Nat))) ∧
    (¬ v < 0 → (Rat.divInt u v).num = u.tdiv (Int.gcd u v : Nat) ∧ ((Rat.divInt u v).den : Int) = v.tdiv (Int.gcd u v : Nat)) := by
  have hn := Rat.num_divInt u v
  have hd := Rat.den_divInt u v
  rw [if_neg hv] at hd
  rw [Int.gcd_comm v u] at hn hd
  have g1 : ((Int.gcd u v : Nat) : Int) ∣ u := Int.gcd_dvd_left u v
  have g2 : ((Int.gcd u v : Nat) : Int) ∣ v := Int.gcd_dvd_right u v
  have e1 : u.tdiv (Int.gcd u v : Nat) = u / (Int.gcd u v : Nat) := Int.tdiv_eq_ediv_of_dvd g1
  have e2 : v.tdiv (Int.gcd u v : Nat) = v / (Int.gcd u v : Nat) := Int.tdiv_eq_ediv_of_dvd g2
  rw [e1, e2]
  constructor
  · intro h
    have hs : v.sign = -1 := Int.sign_eq_neg_one_of_neg h
    rw [hs] at hn
    constructor
    · rw [hn, show -1 * u = -u from by omega, Int.neg_ediv_of_dvd g1]
    · rw [hd, Int.natCast_ediv, Int.ofNat_natAbs_of_nonpos (by omega), Int.neg_ediv_of_dvd g2]
  · intro h
    have hs : v.sign = 1 := Int.sign_eq_one_of_pos (by omega)
    rw [hs, Int.one_mul] at hn
    constructor
    · exact hn
    · rw [hd, Int.natCast_ediv, Int.natAbs_of_nonneg (by omega)]
theorem tdiv_le (u : Int) (n : Nat) : (u.tdiv (n : Int)).natAbs ≤ u.natAbs := by
  rw [Int.natAbs_tdiv]
  exact Nat.div_le_self _ _
theorem g61 (s : Bool) (y : T) (t : Bool) (w : T) (ew : Bool) (xw : List (List T)) (hw : w.lst? 1 = some (ew, xw)) {x1 x2 : T} {u v : Int} (h1 : WI u x1) (h2 : WI v x2) (lu : Lim u) (lv : Lim v) (hv : v ≠ 0) :
    SetsQ (Rat.divInt u v) (Or (.call 69) [r0, AV.t x1, AV.t x2] [b4 s y t w]) := by
  obtain ⟨sg, eg, dg, k1, k2⟩ := g54 false (T.emp true) h1 h2 lu lv
  have hg0 : ((Int.gcd u v : Nat) : Int) ≠ 0 := by
    have := Int.gcd_pos_of_ne_zero_right (a := u) hv
    omega
  have lg : Lim ((Int.gcd u v : Nat) : Int) := lv.le (by
    have := Nat.le_of_dvd (by omega) (Int.gcd_dvd_natAbs_right u v)
    omega)
  obtain ⟨sx, ex, dx, m1, m2⟩ := g77 false (T.emp true) h1 (wi (e := eg) k2) lu lg hg0
  obtain ⟨sy, ey, dy, n1, n2⟩ := g77 false (T.emp true) h2 (wi (e := eg) k2) lv lg hg0
  have lx : Lim (u.tdiv (Int.gcd u v : Nat)) := lu.le (tdiv_le _ _)
  have ly : Lim (v.tdiv (Int.gcd u v : Nat)) := lv.le (tdiv_le _ _)
  have lx' := lx.len m2
  have ly' := ly.len n2
  obtain ⟨p1, p2⟩ := divInt_parts (u := u) hv
  have hsy := rep_sg n2
  have hsgn : v.tdiv (Int.gcd u v : Nat) < 0 ↔ v < 0 := by
    have g2 : ((Int.gcd u v : Nat) : Int) ∣ v := Int.gcd_dvd_right u v
    obtain ⟨k, hk⟩ := g2
    have hpos : 0 < ((Int.gcd u v : Nat) : Int) := by omega
    generalize ((Int.gcd u v : Nat) : Int) = g at *
    subst hk
    rw [Int.mul_tdiv_cancel_left _ hg0]
    constructor
    · intro h; exact Int.mul_neg_of_pos_of_neg hpos h
    · intro h
      rcases Int.lt_or_le k 0 with h' | h'
      · exact h'
      · have := Int.mul_nonneg (Int.le_of_lt hpos) h'; omega
  obtain ⟨s2, e2, a, rfl, ha⟩ := h1
  obtain ⟨s3, e3, b, rfl, hb⟩ := h2
  by_cases hneg : v < 0
  · obtain ⟨q1, q2⟩ := p1 hneg
    have : sy = true := by rw [hsy]; simpa using hsgn.2 hneg
    subst this
    obtain ⟨sx', ex', dx', j1, j2⟩ := s50z sx ex dx _ (by omega) m2
    obtain ⟨sy', ey', dy', i1, i2⟩ := s50z true ey dy _ (by omega) n2
    have jl := (lx.le (w := -(u.tdiv (Int.gcd u v : Nat))) (by omega)).len j2
    have il := (ly.le (w := -(v.tdiv (Int.gcd u v : Nat))) (by omega)).len i2
    have a1 := s69a s y t w sx' ex' dx' (by omega)
    have a2 := s69b sx' (T.lst 1 false (encD dx')) t (T.lst 1 ew xw) sy' ey' dy' (by omega)
    refine ⟨sx', false, dx', sy', false, dy', orc_of ?_, by rw [q1]; exact j2, by rw [q2]; exact i2⟩
    rw [e61]
    simp only [gd1, hd1, tl1, dr0, dr1, dr2, dr3, dr4, dr5, dr6, bo1, in1, st1, ls1, le1, pt1, fi1, fb1, fs1, ct1, cf1, nt1, nf1, ak0, akT, akF, cdec, cndec, cbeq, cnbeq, ↓reduceIte, beq_self_eq_true, Int.reduceBEq, Int.reduceEq, Bool.and_true, Bool.true_and, Bool.false_and, Bool.and_false, k1, m1, n1, j1, i1, a1, hw, a2]
  · obtain ⟨q1, q2⟩ := p2 hneg
    have : sy = false := by rw [hsy, decide_eq_false_iff_not]; exact fun h => hneg (hsgn.1 h)
    subst this
    have a1 := s69a s y t w sx ex dx (by omega)
    have a2 := s69b sx (T.lst 1 false (encD dx)) t (T.lst 1 ew xw) false ey dy (by omega)
    refine ⟨sx, false, dx, false, false, dy, orc_of ?_, by rw [q1]; exact m2, by rw [q2]; exact n2⟩
    rw [e61]
    simp only [gd1, hd1, tl1, dr0, dr1, dr2, dr3, dr4, dr5, dr6, bo1, in1, st1, ls1, le1, pt1, fi1, fb1, fs1, ct1, cf1, nt1, nf1, ak0, akT, akF, cdec, cndec, cbeq, cnbeq, ↓reduceIte, beq_self_eq_true, Int.reduceBEq, Int.reduceEq, Bool.and_true, Bool.true_and, Bool.false_and, Bool.and_false, k1, m1, n1, a1, hw, a2]
end Go.Aev.Wd
