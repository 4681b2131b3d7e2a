/-
  Sums, products and signs of fractions of wide numbers.
-/
import Derived.Test.YtobpninhnmmpeaaGreatZFrac
set_option linter.unusedSimpArgs false
set_option linter.unusedVariables false
namespace Go.Aev.Wd
open Go Go.Aev Go.Aev.Gen

theorem wr {q : Rat} {s e s' e' : Bool} {d d' : List Int} (h1 : Rep q.num s d) (h2 : Rep (q.den : Int) s' d') : WR q (T.ptr [tb s, T.lst 1 e (encD d), tb s', T.lst 1 e' (encD d')]) := ⟨s, e, d, s', e', d', rfl, h1, h2⟩
theorem rnum_neg (q : Rat) : (-q).num = -q.num := rfl
theorem rden_neg (q : Rat) : (-q).den = q.den := rfl
theorem sgd (q : Rat) : (q.den : Int).sign = 1 := Int.sign_eq_one_of_pos (by have := q.den_pos; omega)
theorem g74 {q : Rat} {x : T} (h : WR q x) (lq : LQ q) : ∃ y, Or (.call 73) [AV.t x] [] = some [y] ∧ WI q.num y := by
  obtain ⟨s, e, d, s', e', d', rfl, h1, h2⟩ := h
  have l1 := lq.1.len h1
  refine ⟨pt s false d, orc_of ?_, wi h1⟩
  rw [e74]
  simp only [gd1, hd1, tl1, dr0, dr1, dr2, dr3, dr4, dr5, dr6, bo1, in1, st1, ls1, le1, pt1, fi1, fb1, fs1, ct1, cf1, nt1, nf1, ak0, akT, akF, cdec, cndec, cbeq, cnbeq, ↓reduceIte, beq_self_eq_true, Int.reduceBEq, Int.reduceEq, Bool.and_true, Bool.true_and, Bool.false_and, Bool.and_false, s69p false (T.emp true) s e d [tb s', T.lst 1 e' (encD d')] (by omega)]
theorem g75 {q : Rat} {x : T} (h : WR q x) (lq : LQ q) : ∃ y, Or (.call 74) [AV.t x] [] = some [y] ∧ WI (q.den : Int) y := by
  obtain ⟨s, e, d, s', e', d', rfl, h1, h2⟩ := h
  have l2 := lq.2.len h2
  have h72 := s72 s' e' d' [] _ h2
  rw [sgd] at h72
  refine ⟨pt s' false d', orc_of ?_, wi h2⟩
  rw [e75]
  have h10 : ¬ (1 : Int) = 0 := by omega
  simp only [gd1, hd1, tl1, dr0, dr1, dr2, dr3, dr4, dr5, dr6, bo1, in1, st1, ls1, le1, pt1, fi1, fb1, fs1, ct1, cf1, nt1, nf1, ak0, akT, akF, cdec, cndec, cbeq, cnbeq, ↓reduceIte, beq_self_eq_true, Int.reduceBEq, Int.reduceEq, Bool.and_true, Bool.true_and, Bool.false_and, Bool.and_false, h72, h10, s69 false (T.emp true) s' e' d' (by omega)]
theorem g60 {q : Rat} {x : T} (h : WR q x) : Or (.call 76) [AV.t x] [] = some [ti q.num.sign] := by
  obtain ⟨s, e, d, s', e', d', rfl, h1, h2⟩ := h
  refine orc_of ?_
  rw [e60]
  simp only [gd1, hd1, tl1, dr0, dr1, dr2, dr3, dr4, dr5, dr6, bo1, in1, st1, ls1, le1, pt1, fi1, fb1, fs1, ct1, cf1, nt1, nf1, ak0, akT, akF, cdec, cndec, cbeq, cnbeq, ↓reduceIte, beq_self_eq_true, Int.reduceBEq, Int.reduceEq, Bool.and_true, Bool.true_and, Bool.false_and, Bool.and_false, s72 s e d _ _ h1]
theorem mul_frac (p q : Rat) : Rat.divInt (p.num * q.num) ((p.den : Int) * (q.den : Int)) = p * q := by
  conv => rhs; rw [← Rat.num_divInt_den p, ← Rat.num_divInt_den q]
  rw [Rat.divInt_mul_divInt]
theorem add_frac (p q : Rat) : Rat.divInt (p.num * (q.den : Int) + q.num * (p.den : Int)) ((p.den : Int) * (q.den : Int)) = p + q := by
  conv => rhs; rw [← Rat.num_divInt_den p, ← Rat.num_divInt_den q]
  rw [Rat.divInt_add_divInt _ _ (by have := p.den_pos; omega) (by have := q.den_pos; omega)]
theorem neg_frac (q : Rat) : Rat.divInt (-q.num) (q.den : Int) = -q := by
  conv => rhs; rw [← Rat.num_divInt_den q]
  rw [Rat.neg_divInt]
theorem den_ne (p q : Rat) : (p.den : Int) * (q.den : Int) ≠ 0 := by
  have h1 := p.den_pos
  have h2 := q.den_pos
  exact Int.mul_ne_zero (by omega) (by omega)
abbrev z4 : Blk := b4 false (T.emp true) false (T.emp true)
theorem le0 : (T.emp true).lst? 1 = some (true, []) := le1 _ _
theorem g56 {p q : Rat} {x y : T} (hx : WR p x) (hy : WR q y) (lp : LQ p) (lq : LQ q) (l1 : Lim (p.num * q.num)) (l2 : Lim ((p.den : Int) * (q.den : Int))) :
    SetsQ (p * q) (Or (.call 36) [r0, AV.t x, AV.t y] [z4]) := by
  obtain ⟨a, a1, a2⟩ := g74 hx lp
  obtain ⟨b, b1, b2⟩ := g74 hy lq
  obtain ⟨c, c1, c2⟩ := g75 hx lp
  obtain ⟨d, d1, d2⟩ := g75 hy lq
  obtain ⟨sm, em, dm, m1, m2⟩ := g37 false (T.emp true) a2 b2 lp.1 lq.1
  obtain ⟨sn, en, dn, n1, n2⟩ := g37 false (T.emp true) c2 d2 lp.2 lq.2
  obtain ⟨s1, e1, D1, s2, e2, D2, k1, k2, k3⟩ := g61 false (T.emp true) false (T.emp true) true [] le0 (wi (e := em) m2) (wi (e := en) n2) l1 l2 (den_ne p q)
  rw [mul_frac] at k2 k3
  obtain ⟨_, _, _, _, _, _, rfl, _, _⟩ := hx
  obtain ⟨_, _, _, _, _, _, rfl, _, _⟩ := hy
  refine ⟨s1, e1, D1, s2, e2, D2, orc_of ?_, k2, k3⟩
  rw [e56]
  simp only [gd1, hd1, tl1, dr0, dr1, dr2, dr3, dr4, dr5, dr6, bo1, in1, st1, ls1, le1, pt1, fi1, fb1, fs1, ct1, cf1, nt1, nf1, ak0, akT, akF, cdec, cndec, cbeq, cnbeq, ↓reduceIte, beq_self_eq_true, Int.reduceBEq, Int.reduceEq, Bool.and_true, Bool.true_and, Bool.false_and, Bool.and_false, a1, b1, c1, d1, m1, n1, k1]
theorem g58 {p q : Rat} {x y : T} (hx : WR p x) (hy : WR q y) (lp : LQ p) (lq : LQ q) (l1 : Lim (p.num * (q.den : Int))) (l2 : Lim (q.num * (p.den : Int))) (l3 : Lim (p.num * (q.den : Int) + q.num * (p.den : Int)))
    (l4 : Lim ((p.den : Int) * (q.den : Int))) : SetsQ (p + q) (Or (.call 34) [r0, AV.t x, AV.t y] [z4]) := by
  obtain ⟨a, a1, a2⟩ := g74 hx lp
  obtain ⟨b, b1, b2⟩ := g75 hy lq
  obtain ⟨c, c1, c2⟩ := g74 hy lq
  obtain ⟨d, d1, d2⟩ := g75 hx lp
  obtain ⟨sm, em, dm, m1, m2⟩ := g37 false (T.emp true) a2 b2 lp.1 lq.2
  obtain ⟨sn, en, dn, n1, n2⟩ := g37 false (T.emp true) c2 d2 lq.1 lp.2
  obtain ⟨so, eo, do', o1, o2⟩ := g37 false (T.emp true) d2 b2 lp.2 lq.2
  obtain ⟨st, et, dt, t1, t2⟩ := g49z (e2 := em) m2 (wi (e := en) n2) l1 l2
  obtain ⟨s1, e1, D1, s2, e2, D2, k1, k2, k3⟩ := g61 false (T.emp true) false (T.emp true) true [] le0 (wi (e := et) t2) (wi (e := eo) o2) l3 l4 (den_ne p q)
  rw [add_frac] at k2 k3
  obtain ⟨_, _, _, _, _, _, rfl, _, _⟩ := hx
  obtain ⟨_, _, _, _, _, _, rfl, _, _⟩ := hy
  refine ⟨s1, e1, D1, s2, e2, D2, orc_of ?_, k2, k3⟩
  rw [e58]
  simp only [gd1, hd1, tl1, dr0, dr1, dr2, dr3, dr4, dr5, dr6, bo1, in1, st1, ls1, le1, pt1, fi1, fb1, fs1, ct1, cf1, nt1, nf1, ak0, akT, akF, cdec, cndec, cbeq, cnbeq, ↓reduceIte, beq_self_eq_true, Int.reduceBEq, Int.reduceEq, Bool.and_true, Bool.true_and, Bool.false_and, Bool.and_false, a1, b1, c1, d1, m1, n1, o1, t1, k1]
theorem LQ.neg {q : Rat} (h : LQ q) : LQ (-q) := ⟨h.1.le (by rw [rnum_neg]; omega), h.2⟩
theorem g76 {q : Rat} {x : T} (hx : WR q x) (lq : LQ q) : SetsQ (-q) (Or (.call 71) [r0, AV.t x] [z4]) := by
  obtain ⟨d, d1, d2⟩ := g75 hx lq
  obtain ⟨s, e, D, s', e', D', rfl, h1, h2⟩ := hx
  have hl := lq.1.len h1
  obtain ⟨sm, em, dm, m1, m2⟩ := s50p false (T.emp true) s e D [tb s', T.lst 1 e' (encD D')] _ (by omega) h1
  obtain ⟨s1, e1, D1, s2, e2, D2, k1, k2, k3⟩ := g61 false (T.emp true) false (T.emp true) true [] le0 (wi (e := em) m2) d2 (lq.1.le (by omega)) lq.2 (by have := q.den_pos; omega)
  rw [neg_frac] at k2 k3
  refine ⟨s1, e1, D1, s2, e2, D2, orc_of ?_, k2, k3⟩
  rw [e76]
  simp only [gd1, hd1, tl1, dr0, dr1, dr2, dr3, dr4, dr5, dr6, bo1, in1, st1, ls1, le1, pt1, fi1, fb1, fs1, ct1, cf1, nt1, nf1, ak0, akT, akF, cdec, cndec, cbeq, cnbeq, ↓reduceIte, beq_self_eq_true, Int.reduceBEq, Int.reduceEq, Bool.and_true, Bool.true_and, Bool.false_and, Bool.and_false, d1, m1, k1]
theorem g59 {p q : Rat} {x y : T} (hx : WR p x) (hy : WR q y) (lp : LQ p) (lq : LQ q) (l1 : Lim (p.num * (q.den : Int))) (l2 : Lim (q.num * (p.den : Int))) (l3 : Lim (p.num * (q.den : Int) - q.num * (p.den : Int)))
    (l4 : Lim ((p.den : Int) * (q.den : Int))) : SetsQ (p - q) (Or (.call 33) [r0, AV.t x, AV.t y] [z4]) := by
  obtain ⟨sa, ea, da, sb, eb, db, a1, a2, a3⟩ := g76 hy lq
  have e0 : (-q).num * (p.den : Int) = -(q.num * (p.den : Int)) := by rw [rnum_neg, Int.neg_mul]
  obtain ⟨s1, e1, D1, s2, e2, D2, k1, k2, k3⟩ := g58 hx (wr (e := ea) (e' := eb) a2 a3) lp lq.neg (by rw [rden_neg]; exact l1) (by rw [e0]; exact l2.le (by omega)) (by rw [e0, rden_neg, ← Int.sub_eq_add_neg]; exact l3) (by rw [rden_neg]; exact l4)
  rw [← Rat.sub_eq_add_neg] at k2 k3
  obtain ⟨_, _, _, _, _, _, rfl, _, _⟩ := hx
  obtain ⟨_, _, _, _, _, _, rfl, _, _⟩ := hy
  refine ⟨s1, e1, D1, s2, e2, D2, orc_of ?_, k2, k3⟩
  rw [e59]
  simp only [gd1, hd1, tl1, dr0, dr1, dr2, dr3, dr4, dr5, dr6, bo1, in1, st1, ls1, le1, pt1, fi1, fb1, fs1, ct1, cf1, nt1, nf1, ak0, akT, akF, cdec, cndec, cbeq, cnbeq, ↓reduceIte, beq_self_eq_true, Int.reduceBEq, Int.reduceEq, Bool.and_true, Bool.true_and, Bool.false_and, Bool.and_false, a1, k1]
def cmpQ (p q : Rat) : Int := (p - q).num.sign
theorem g42 {p q : Rat} {x y : T} (hx : WR p x) (hy : WR q y) (lp : LQ p) (lq : LQ q) (l1 : Lim (p.num * (q.den : Int))) (l2 : Lim (q.num * (p.den : Int))) (l3 : Lim (p.num * (q.den : Int) - q.num * (p.den : Int)))
    (l4 : Lim ((p.den : Int) * (q.den : Int))) : Or (.call 35) [AV.t x, AV.t y] [] = some [ti (cmpQ p q)] := by
  obtain ⟨s1, e1, D1, s2, e2, D2, k1, k2, k3⟩ := g59 hx hy lp lq l1 l2 l3 l4
  have := g60 (wr (e := e1) (e' := e2) k2 k3)
  obtain ⟨_, _, _, _, _, _, rfl, _, _⟩ := hx
  obtain ⟨_, _, _, _, _, _, rfl, _, _⟩ := hy
  refine orc_of ?_
  rw [e42]
  simp only [gd1, hd1, tl1, dr0, dr1, dr2, dr3, dr4, dr5, dr6, bo1, in1, st1, ls1, le1, pt1, fi1, fb1, fs1, ct1, cf1, nt1, nf1, ak0, akT, akF, cdec, cndec, cbeq, cnbeq, ↓reduceIte, beq_self_eq_true, Int.reduceBEq, Int.reduceEq, Bool.and_true, Bool.true_and, Bool.false_and, Bool.and_false, k1, this]
  rfl
theorem g43 (n m : Int) (ln : Sm n) (lm : Sm m) (hm : m ≠ 0) : ∃ x, Or (.call 31) [I n, I m] [] = some [x] ∧ WR (Rat.divInt n m) x := by
  obtain ⟨a, a1, a2⟩ := s35 n (by unfold Sm at ln; omega)
  obtain ⟨b, b1, b2⟩ := s35 m (by unfold Sm at lm; omega)
  obtain ⟨s1, e1, D1, s2, e2, D2, k1, k2, k3⟩ := g61 false (T.emp true) false (T.emp true) true [] le0 a2 b2 ln.lim lm.lim hm
  refine ⟨_, orc_of ?_, wr (e := e1) (e' := e2) k2 k3⟩
  rw [e43]
  simp only [gd1, hd1, tl1, dr0, dr1, dr2, dr3, dr4, dr5, dr6, bo1, in1, st1, ls1, le1, pt1, fi1, fb1, fs1, ct1, cf1, nt1, nf1, ak0, akT, akF, cdec, cndec, cbeq, cnbeq, ↓reduceIte, beq_self_eq_true, Int.reduceBEq, Int.reduceEq, Bool.and_true, Bool.true_and, Bool.false_and, Bool.and_false, a1, b1, k1]
theorem g57 (n m : Int) (ln : Sm n) (lm : Sm m) (hm : m ≠ 0) : ∃ x, Or (.call 100) [AV.agg [I n, I m]] [] = some [x] ∧ WR (Rat.divInt n m) x := by
  obtain ⟨x, k1, k2⟩ := g43 n m ln lm hm
  refine ⟨x, orc_of ?_, k2⟩
  rw [e57]
  simp only [gd1, hd1, tl1, dr0, dr1, dr2, dr3, dr4, dr5, dr6, bo1, in1, st1, ls1, le1, pt1, fi1, fb1, fs1, ct1, cf1, nt1, nf1, ak0, akT, akF, cdec, cndec, cbeq, cnbeq, ↓reduceIte, beq_self_eq_true, Int.reduceBEq, Int.reduceEq, Bool.and_true, Bool.true_and, Bool.false_and, Bool.and_false, k1]
/-- FracRight. -/
theorem g40 (n m : Int) : ∃ b, Or (.call 9) [AV.agg [I n, I m]] [] = some [tb b] ∧ (b = true ↔ (1 ≤ m ∧ m ≤ 1073741824 ∧ -1073741824 ≤ n ∧ n ≤ 1073741824 ∧ Int.gcd n m = 1)) := by
  by_cases hb : ((m < 1 ∨ m > 1073741824) ∨ n < -1073741824) ∨ n > 1073741824
  · refine ⟨false, orc_of ?_, by simp; omega⟩
    rw [e40]
    simp only [cor, ← Bool.decide_or]
    simp only [gd1, hd1, tl1, dr0, dr1, dr2, dr3, dr4, dr5, dr6, bo1, in1, st1, ls1, le1, pt1, fi1, fb1, fs1, ct1, cf1, nt1, nf1, ak0, akT, akF, cdec, cndec, cbeq, cnbeq, ↓reduceIte, beq_self_eq_true, Int.reduceBEq, Int.reduceEq, Bool.and_true, Bool.true_and, Bool.false_and, Bool.and_false, hb]
  · obtain ⟨a, a1, a2⟩ := s35 n (by omega)
    obtain ⟨b, b1, b2⟩ := s35 m (by omega)
    obtain ⟨c, c1, c2⟩ := s35 1 (by omega)
    obtain ⟨sg, eg, dg, k1, k2⟩ := g54 false (T.emp true) a2 b2 (Sm.lim (by unfold Sm; omega)) (Sm.lim (by unfold Sm; omega))
    have hle : Int.gcd n m ≤ m.natAbs := Nat.le_of_dvd (by omega) (Int.gcd_dvd_natAbs_right n m)
    have h55 := s55 (wi (e := eg) k2) c2 (Sm.lim (by unfold Sm; omega)) (Sm.lim (by unfold Sm; omega))
    refine ⟨(cmp3 ((Int.gcd n m : Nat) : Int) 1 == 0), orc_of ?_, ?_⟩
    · rw [e40]
      simp only [cor, ← Bool.decide_or]
      simp only [gd1, hd1, tl1, dr0, dr1, dr2, dr3, dr4, dr5, dr6, bo1, in1, st1, ls1, le1, pt1, fi1, fb1, fs1, ct1, cf1, nt1, nf1, ak0, akT, akF, cdec, cndec, cbeq, cnbeq, ↓reduceIte, beq_self_eq_true, Int.reduceBEq, Int.reduceEq, Bool.and_true, Bool.true_and, Bool.false_and, Bool.and_false, hb, a1, b1, c1, k1, h55]
    · have : cmp3 ((Int.gcd n m : Nat) : Int) 1 = 0 ↔ Int.gcd n m = 1 := by
        unfold cmp3
        split
        · constructor <;> intro h <;> omega
        · split <;> constructor <;> intro h <;> omega
      simp only [beq_iff_eq, this]
      omega
end Go.Aev.Wd
