/-
  Fractions of wide numbers that are not too long: sums, products, and a row's sum at a point.
-/
import Derived.Test.YtobpninhnmmpeaaGreatZRat
set_option linter.unusedSimpArgs false
set_option linter.unusedVariables false
namespace Go.Aev.Wd
open Go Go.Aev Go.Aev.Gen

theorem divInt_le {u v : Int} (hv : v ≠ 0) : (Rat.divInt u v).num.natAbs ≤ u.natAbs ∧ (Rat.divInt u v).den ≤ v.natAbs := by
  obtain ⟨h1, h2⟩ := divInt_parts (u := u) hv
  have t1 : (u.tdiv (Int.gcd u v : Nat)).natAbs ≤ u.natAbs := by rw [Int.natAbs_tdiv]; exact Nat.div_le_self _ _
  have t2 : (v.tdiv (Int.gcd u v : Nat)).natAbs ≤ v.natAbs := by rw [Int.natAbs_tdiv]; exact Nat.div_le_self _ _
  by_cases h : v < 0
  · obtain ⟨a, b⟩ := h1 h; constructor <;> omega
  · obtain ⟨a, b⟩ := h2 h; constructor <;> omega
/-- A number with at most m bits above and below the line. -/
def QB (m : Nat) (q : Rat) : Prop := q.num.natAbs ≤ 2 ^ m ∧ q.den ≤ 2 ^ m
theorem pwk (k : Nat) : (4294967296 : Int) ^ k = ((2 ^ (32 * k) : Nat) : Int) := by
  rw [Nat.pow_mul, Int.natCast_pow]; rfl
theorem lim_gen {m k : Nat} {z : Int} (hm : m < 32 * k) (h : z.natAbs ≤ 2 ^ m) : (z.natAbs : Int) < 4294967296 ^ k := by
  rw [pwk k]
  exact Int.ofNat_lt.2 (Nat.lt_of_le_of_lt h (Nat.pow_lt_pow_right (by omega) hm))
theorem lim_pow {m : Nat} {z : Int} (hm : m ≤ 6300) (h : z.natAbs ≤ 2 ^ m) : Lim z := lim_gen (by omega) h
theorem QB.lq {m : Nat} {q : Rat} (h : QB m q) (hm : m ≤ 6300) : LQ q := ⟨lim_pow hm h.1, lim_pow hm (by simpa using h.2)⟩
theorem QB.mono {m k : Nat} {q : Rat} (h : QB m q) (hm : m ≤ k) : QB k q :=
  ⟨Nat.le_trans h.1 (Nat.pow_le_pow_right (by omega) hm), Nat.le_trans h.2 (Nat.pow_le_pow_right (by omega) hm)⟩
theorem nat_mul_pow {a b m k : Nat} (ha : a ≤ 2 ^ m) (hb : b ≤ 2 ^ k) : a * b ≤ 2 ^ (m + k) := by rw [Nat.pow_add]; exact Nat.mul_le_mul ha hb
theorem QB.mul {m k : Nat} {p q : Rat} (hp : QB m p) (hq : QB k q) : QB (m + k) (p * q) := by
  rw [← mul_frac]
  obtain ⟨h1, h2⟩ := divInt_le (u := p.num * q.num) (den_ne p q)
  refine ⟨Nat.le_trans h1 ?_, Nat.le_trans h2 ?_⟩
  · rw [Int.natAbs_mul]; exact nat_mul_pow hp.1 hq.1
  · rw [Int.natAbs_mul, Int.natAbs_natCast, Int.natAbs_natCast]; exact nat_mul_pow hp.2 hq.2
theorem add_nat {m k : Nat} {p q : Rat} (hp : QB m p) (hq : QB k q) : (p.num * (q.den : Int) + q.num * (p.den : Int)).natAbs ≤ 2 ^ (m + k + 1) := by
  have h1 : (p.num * (q.den : Int)).natAbs ≤ 2 ^ (m + k) := by rw [Int.natAbs_mul, Int.natAbs_natCast]; exact nat_mul_pow hp.1 hq.2
  have h2 : (q.num * (p.den : Int)).natAbs ≤ 2 ^ (m + k) := by rw [Int.natAbs_mul, Int.natAbs_natCast, Nat.add_comm m k]; exact nat_mul_pow hq.1 hp.2
  have h3 := Int.natAbs_add_le (p.num * (q.den : Int)) (q.num * (p.den : Int))
  rw [Nat.pow_succ]
  omega
theorem QB.add {m k : Nat} {p q : Rat} (hp : QB m p) (hq : QB k q) : QB (m + k + 1) (p + q) := by
  rw [← add_frac]
  obtain ⟨h1, h2⟩ := divInt_le (u := p.num * (q.den : Int) + q.num * (p.den : Int)) (den_ne p q)
  refine ⟨Nat.le_trans h1 (add_nat hp hq), Nat.le_trans h2 ?_⟩
  rw [Int.natAbs_mul, Int.natAbs_natCast, Int.natAbs_natCast]
  exact Nat.le_trans (nat_mul_pow hp.2 hq.2) (Nat.pow_le_pow_right (by omega) (by omega))
theorem QB.neg {m : Nat} {q : Rat} (h : QB m q) : QB m (-q) := ⟨by rw [rnum_neg, Int.natAbs_neg]; exact h.1, h.2⟩
theorem QB.sub {m k : Nat} {p q : Rat} (hp : QB m p) (hq : QB k q) : QB (m + k + 1) (p - q) := by rw [Rat.sub_eq_add_neg]; exact hp.add hq.neg
theorem QB.divInt {m : Nat} {u v : Int} (hv : v ≠ 0) (h1 : u.natAbs ≤ 2 ^ m) (h2 : v.natAbs ≤ 2 ^ m) : QB m (Rat.divInt u v) := by
  obtain ⟨a, b⟩ := divInt_le (u := u) hv
  exact ⟨Nat.le_trans a h1, Nat.le_trans b h2⟩
theorem mulQ {m k : Nat} {p q : Rat} {x y : T} (hx : WR p x) (hy : WR q y) (hp : QB m p) (hq : QB k q) (h : m + k ≤ 6300) : SetsQ (p * q) (Or (.call 36) [r0, AV.t x, AV.t y] [z4]) ∧ QB (m + k) (p * q) := by
  refine ⟨g56 hx hy (hp.lq (by omega)) (hq.lq (by omega)) (lim_pow h ?_) (lim_pow h ?_), hp.mul hq⟩
  · rw [Int.natAbs_mul]; exact nat_mul_pow hp.1 hq.1
  · rw [Int.natAbs_mul, Int.natAbs_natCast, Int.natAbs_natCast]; exact nat_mul_pow hp.2 hq.2
theorem addQ {m k : Nat} {p q : Rat} {x y : T} (hx : WR p x) (hy : WR q y) (hp : QB m p) (hq : QB k q) (h : m + k + 1 ≤ 6300) : SetsQ (p + q) (Or (.call 34) [r0, AV.t x, AV.t y] [z4]) ∧ QB (m + k + 1) (p + q) := by
  refine ⟨g58 hx hy (hp.lq (by omega)) (hq.lq (by omega)) (lim_pow (m := m + k) (by omega) ?_) (lim_pow (m := k + m) (by omega) ?_) (lim_pow h (add_nat hp hq)) (lim_pow (m := m + k) (by omega) ?_), hp.add hq⟩
  · rw [Int.natAbs_mul, Int.natAbs_natCast]; exact nat_mul_pow hp.1 hq.2
  · rw [Int.natAbs_mul, Int.natAbs_natCast]; exact nat_mul_pow hq.1 hp.2
  · rw [Int.natAbs_mul, Int.natAbs_natCast, Int.natAbs_natCast]; exact nat_mul_pow hp.2 hq.2
theorem sub_nat {m k : Nat} {p q : Rat} (hp : QB m p) (hq : QB k q) : (p.num * (q.den : Int) - q.num * (p.den : Int)).natAbs ≤ 2 ^ (m + k + 1) := by
  have := add_nat hp hq.neg
  rw [rnum_neg, rden_neg, Int.neg_mul, ← Int.sub_eq_add_neg] at this
  exact this
theorem subQ {m k : Nat} {p q : Rat} {x y : T} (hx : WR p x) (hy : WR q y) (hp : QB m p) (hq : QB k q) (h : m + k + 1 ≤ 6300) : SetsQ (p - q) (Or (.call 33) [r0, AV.t x, AV.t y] [z4]) ∧ QB (m + k + 1) (p - q) := by
  refine ⟨g59 hx hy (hp.lq (by omega)) (hq.lq (by omega)) (lim_pow (m := m + k) (by omega) ?_) (lim_pow (m := k + m) (by omega) ?_) (lim_pow h (sub_nat hp hq)) (lim_pow (m := m + k) (by omega) ?_), hp.sub hq⟩
  · rw [Int.natAbs_mul, Int.natAbs_natCast]; exact nat_mul_pow hp.1 hq.2
  · rw [Int.natAbs_mul, Int.natAbs_natCast]; exact nat_mul_pow hq.1 hp.2
  · rw [Int.natAbs_mul, Int.natAbs_natCast, Int.natAbs_natCast]; exact nat_mul_pow hp.2 hq.2
theorem cmpQs {m k : Nat} {p q : Rat} {x y : T} (hx : WR p x) (hy : WR q y) (hp : QB m p) (hq : QB k q) (h : m + k + 1 ≤ 6300) : Or (.call 35) [AV.t x, AV.t y] [] = some [ti (cmpQ p q)] := by
  refine g42 hx hy (hp.lq (by omega)) (hq.lq (by omega)) (lim_pow (m := m + k) (by omega) ?_) (lim_pow (m := k + m) (by omega) ?_) (lim_pow h (sub_nat hp hq)) (lim_pow (m := m + k) (by omega) ?_)
  · rw [Int.natAbs_mul, Int.natAbs_natCast]; exact nat_mul_pow hp.1 hq.2
  · rw [Int.natAbs_mul, Int.natAbs_natCast]; exact nat_mul_pow hq.1 hp.2
  · rw [Int.natAbs_mul, Int.natAbs_natCast, Int.natAbs_natCast]; exact nat_mul_pow hp.2 hq.2
theorem cmpQ_lt (p q : Rat) : cmpQ p q < 0 ↔ p < q := by
  unfold cmpQ
  have hs : (p - q).num.sign < 0 ↔ (p - q).num < 0 := by
    rcases Int.lt_trichotomy (p - q).num 0 with h | h | h
    · rw [Int.sign_eq_neg_one_of_neg h]; omega
    · rw [h]; simp
    · rw [Int.sign_eq_one_of_pos h]; omega
  rw [hs]
  have hn : (p - q).num < 0 ↔ ¬ 0 ≤ (p - q).num := by omega
  rw [hn, Rat.num_nonneg, ← Rat.le_iff_sub_nonneg, Rat.not_le]
theorem cmpQ_eq (p q : Rat) : cmpQ p q = 0 ↔ p = q := by
  unfold cmpQ
  rw [Int.sign_eq_zero_iff_zero, Rat.num_eq_zero]
  constructor
  · intro h; grind
  · intro h; grind

/-! ### A row's sum at a point -/
abbrev Fr := Int × Int
def encF (l : List Fr) : List (List T) := l.map fun x => [ti x.1, ti x.2]
abbrev LN (e : Bool) (l : List Fr) : AV := AV.t (T.lst 2 e (encF l))
theorem encF_len (l : List Fr) : (encF l).length = l.length := by simp [encF]
theorem encF_get {l : List Fr} {i : Nat} {r : Fr} (h : l[i]? = some r) : (encF l)[((i : Nat) : Int).toNat]? = some [ti r.1, ti r.2] := by simp [encF, h]
/-- A fraction that is right. -/
def FrR (x : Fr) : Prop := 1 ≤ x.2 ∧ x.2 ≤ 1073741824 ∧ -1073741824 ≤ x.1 ∧ x.1 ≤ 1073741824 ∧ Int.gcd x.1 x.2 = 1
instance (x : Fr) : Decidable (FrR x) := by unfold FrR; infer_instance
def frQ (x : Fr) : Rat := Rat.divInt x.1 x.2
theorem frQ_b {x : Fr} (h1 : 1 ≤ x.2 ∧ x.2 ≤ 1073741824) (h2 : -1073741824 ≤ x.1 ∧ x.1 ≤ 1073741824) : QB 30 (frQ x) := QB.divInt (by omega) (by omega) (by omega)
def sumQ : List Int → List Fr → Rat → Rat
  | [], _, acc => acc
  | c :: of, x :: xs, acc => sumQ of xs (acc + frQ x * Rat.divInt c 1)
  | _ :: _, [], acc => acc
/-- Not too great. -/
def FrB (x : Fr) : Prop := (1 ≤ x.2 ∧ x.2 ≤ 1073741824) ∧ -1073741824 ≤ x.1 ∧ x.1 ≤ 1073741824
theorem FrR.b {x : Fr} (h : FrR x) : FrB x := ⟨⟨h.1, h.2.1⟩, h.2.2.1, h.2.2.2.1⟩
theorem n41 (e en : Bool) (of : List Int) (nums : List Fr) (hb : ∀ c ∈ of, -1000000 ≤ c ∧ c ≤ 1000000) (hx : ∀ x ∈ nums, FrB x) (hl : of.length ≤ nums.length) (hn : of.length ≤ 100) : ∀ (rest : List Int) (i m : Nat) (acc : Rat) (v : T), of.drop i = rest → WR acc v → QB m acc → m + 51 * rest.length ≤ 6200 →
    ∃ y, Or K41n3 [lst e of, LN en nums, AV.t v, I (i : Int)] [] = some [y] ∧ WR (sumQ rest (nums.drop i) acc) y ∧ QB (m + 51 * rest.length) (sumQ rest (nums.drop i) acc) := by
  intro rest
  induction rest with
  | nil =>
    intro i m acc v h hv hq hm
    have h1 : ¬ (i : Int) < (of.length : Int) := by have := at_end h; omega
    refine ⟨v, orc_of ?_, by simpa [sumQ] using hv, by simpa [sumQ] using hq⟩
    rw [e41n3]
    simp only [gd1, hd1, tl1, dr0, dr1, dr2, dr3, dr4, dr5, dr6, bo1, in1, st1, ls1, le1, pt1, fi1, fb1, fs1, ct1, cf1, nt1, nf1, ak0, akT, akF, cdec, cndec, cbeq, cnbeq, ↓reduceIte, beq_self_eq_true, Int.reduceBEq, Int.reduceEq, Bool.and_true, Bool.true_and, Bool.false_and, Bool.and_false, h1, enc_len]
  | cons c rest ih =>
    intro i m acc v h hv hq hm
    obtain ⟨g1, g2, g3⟩ := at_drop h
    have h1 : (i : Int) < (of.length : Int) := by omega
    have h2 : (i : Int) < (nums.length : Int) := by omega
    have h0 : 0 ≤ (i : Int) := by omega
    obtain ⟨x, hxi⟩ : ∃ x, nums[i]? = some x := ⟨_, List.getElem?_eq_getElem (by omega)⟩
    have hxb := hx x (List.mem_of_getElem? hxi)
    have hcb := hb c (List.mem_of_getElem? g1)
    unfold FrB at hxb
    have hd : nums.drop i = x :: nums.drop (i + 1) := by
      rw [List.drop_eq_getElem_cons (by omega)]
      congr 1
      rw [List.getElem?_eq_getElem (by omega)] at hxi
      simpa using hxi
    obtain ⟨a, a1, a2⟩ := g57 x.1 x.2 (by unfold Sm; omega) (by unfold Sm; omega) (by omega)
    obtain ⟨b, b1, b2⟩ := g43 c 1 (by unfold Sm; omega) (by unfold Sm; omega) (by omega)
    obtain ⟨⟨s1, e1, D1, s2, e2, D2, k1, k2, k3⟩, kq⟩ := mulQ (m := 30) (k := 20) (p := frQ x) (q := Rat.divInt c 1) a2 b2 (frQ_b hxb.1 hxb.2) (QB.divInt (by omega) (by omega) (by omega)) (by omega)
    simp only [List.length_cons] at hm
    obtain ⟨⟨t1, f1, E1, t2, f2, E2, j1, j2, j3⟩, jq⟩ := addQ (m := m) (k := 50) hv (wr (e := e1) (e' := e2) k2 k3) hq kq (by omega)
    obtain ⟨y, y1, y2, y3⟩ := ih (i + 1) (m + 50 + 1) _ _ g3 (wr (e := f1) (e' := f2) j2 j3) jq (by omega)
    refine ⟨y, orc_of ?_, by rw [hd, sumQ]; exact y2, by rw [hd, sumQ, List.length_cons]; exact y3.mono (by omega)⟩
    rw [e41n3]
    simp only [gd1, hd1, tl1, dr0, dr1, dr2, dr3, dr4, dr5, dr6, bo1, in1, st1, ls1, le1, pt1, fi1, fb1, fs1, ct1, cf1, nt1, nf1, ak0, akT, akF, cdec, cndec, cbeq, cnbeq, ↓reduceIte, beq_self_eq_true, Int.reduceBEq, Int.reduceEq, Bool.and_true, Bool.true_and, Bool.false_and, Bool.and_false, h1, h2, h0, and_self, enc_len, encF_len, enc_get g1, encF_get hxi, a1, b1, k1, j1, next i (by omega)]
    exact y1
theorem s41 (e en : Bool) (of : List Int) (nums : List Fr) (hb : ∀ c ∈ of, -1000000 ≤ c ∧ c ≤ 1000000) (hx : ∀ x ∈ nums, FrB x) (hl : of.length ≤ nums.length) (hn : of.length ≤ 100) :
    ∃ y, Or (.call 85) [lst e of, LN en nums] [] = some [y] ∧ WR (sumQ of nums 0) y ∧ QB (51 * of.length) (sumQ of nums 0) := by
  obtain ⟨a, a1, a2⟩ := g43 0 1 (by unfold Sm; omega) (by unfold Sm; omega) (by omega)
  have h0 : Rat.divInt 0 1 = 0 := by simp
  rw [h0] at a2
  obtain ⟨y, y1, y2, y3⟩ := n41 e en of nums hb hx hl hn of 0 0 0 a rfl a2 ⟨by simp, by simp⟩ (by omega)
  refine ⟨y, orc_of ?_, by simpa using y2, by simpa using y3⟩
  rw [e41]
  simp only [gd1, hd1, tl1, dr0, dr1, dr2, dr3, dr4, dr5, dr6, bo1, in1, st1, ls1, le1, pt1, fi1, fb1, fs1, ct1, cf1, nt1, nf1, ak0, akT, akF, cdec, cndec, cbeq, cnbeq, ↓reduceIte, beq_self_eq_true, Int.reduceBEq, Int.reduceEq, Bool.and_true, Bool.true_and, Bool.false_and, Bool.and_false, a1]
  exact y1
end Go.Aev.Wd
