/-
  Wide numbers below 2^64: what they are as machine words, and quotients.
-/
import Derived.Test.YtobpninhnmmpeaaGreatZMul
set_option linter.unusedSimpArgs false
set_option linter.unusedVariables false
namespace Go.Aev.Wd
open Go Go.Aev Go.Aev.Gen

theorem rep_abs {z : Int} {s : Bool} {d : List Int} (h : Rep z s d) : val d = (z.natAbs : Int) := by
  have h1 := h.z
  have h2 := val_nonneg h.dg
  unfold num at h1
  split at h1 <;> omega
theorem rep_sg {z : Int} {s : Bool} {d : List Int} (h : Rep z s d) : s = decide (z < 0) := by
  have h1 := h.z
  have h2 := val_nonneg h.dg
  cases s with
  | false => simp [num] at h1; simp; omega
  | true =>
    have := can_pos h.dg h.can (h.sg rfl)
    simp [num] at h1; simp; omega
theorem pow_mono {n m : Nat} (h : n ≤ m) : (4294967296 : Int) ^ n ≤ 4294967296 ^ m := by
  have : m = n + (m - n) := by omega
  rw [this, Int.pow_add]
  have h4 : (4294967296 : Int) ^ n * 1 ≤ 4294967296 ^ n * 4294967296 ^ (m - n) := Int.mul_le_mul_of_nonneg_left (by have := pow_pos' (m - n); omega) (Int.le_of_lt (pow_pos' _))
  omega
theorem rep_len {z : Int} {s : Bool} {d : List Int} (h : Rep z s d) (n : Nat) (hz : (z.natAbs : Int) < 4294967296 ^ n) : d.length ≤ n := by
  rcases Nat.lt_or_ge n d.length with hl | hl
  · exfalso
    have h1 := can_ge (k := d.length - 1) h.dg h.can (by omega)
    rw [rep_abs h] at h1
    have h2 : (4294967296 : Int) ^ n ≤ 4294967296 ^ (d.length - 1) := pow_mono (by omega)
    omega
  · exact hl
theorem rep_two {z : Int} {s : Bool} {d : List Int} (h : Rep z s d) (hz : -18446744073709551616 < z ∧ z < 18446744073709551616) : d.length ≤ 2 := rep_len h 2 (by
  rw [show ((4294967296 : Int) ^ 2) = 18446744073709551616 from by decide]; omega)

theorem sh_or (a b : Nat) (hb : b < 2 ^ 32) : a * 2 ^ 32 ||| b = a * 2 ^ 32 + b := by
  rw [Nat.mul_comm, Nat.two_pow_add_eq_or_of_lt hb]
theorem or64 {v n : Int} (hv : 0 ≤ v ∧ v < 4294967296) (hn : 0 ≤ n ∧ n < 4294967296) :
    IntKind.u64.wrap (((BitVec.ofInt 64 (IntKind.u64.wrap (v * (2 : Int) ^ 32)) ||| BitVec.ofInt 64 (IntKind.u64.wrap n)).toNat : Nat) : Int) = v * 4294967296 + n := by
  obtain ⟨a, rfl⟩ := Int.eq_ofNat_of_zero_le hv.1
  obtain ⟨b, rfl⟩ := Int.eq_ofNat_of_zero_le hn.1
  have h1 : IntKind.u64.wrap ((a : Int) * (2 : Int) ^ 32) = ((a * 2 ^ 32 : Nat) : Int) := by
    rw [show ((2 : Int) ^ 32) = 4294967296 from by decide, w64 (by omega)]
    omega
  have h2 : IntKind.u64.wrap (b : Int) = ((b : Nat) : Int) := w64 (by omega)
  have e1 : (a * 2 ^ 32) % 2 ^ 64 = a * 2 ^ 32 := Nat.mod_eq_of_lt (by omega)
  have e2 : b % 2 ^ 64 = b := Nat.mod_eq_of_lt (by omega)
  rw [h1, h2, BitVec.ofInt_natCast, BitVec.ofInt_natCast, BitVec.toNat_or, BitVec.toNat_ofNat, BitVec.toNat_ofNat, e1, e2, sh_or a b (by omega), w64 (by omega)]
  omega
theorem k53 (s e : Bool) (d : List Int) (hd : Dg d) (k : Nat) (hk : k < d.length) (hl : d.length ≤ 2) (v : Int) (hv : 0 ≤ v ∧ v < 4294967296) (R : List T)
    (h : Or K53n3 [AV.t (T.ptr [tb s, T.lst 1 e (encD d)]), AV.t (T.int .u64 (v * 4294967296 + dat d k)), I ((k : Int) - 1)] [] = some R) :
    Or K53n3 [AV.t (T.ptr [tb s, T.lst 1 e (encD d)]), AV.t (T.int .u64 v), I (k : Int)] [] = some R := by
  have h1 : (k : Int) ≥ 0 := by omega
  have h2 : 0 ≤ (k : Int) ∧ (k : Int) < (d.length : Int) := by omega
  have hm : dat d k ∈ d := by
    simp only [dat, List.getD_eq_getElem?_getD, List.getElem?_eq_getElem hk, Option.getD_some]
    exact List.getElem_mem hk
  have hw : IntKind.i64.wrap ((k : Int) - 1) = (k : Int) - 1 := wr (by omega)
  refine orc_of ?_
  rw [e53n3]
  simp only [gd1, hd1, tl1, dr0, dr1, dr2, dr3, dr4, dr5, dr6, bo1, in1, st1, ls1, le1, pt1, fi1, fb1, fs1, ct1, cf1, nt1, nf1, ak0, akT, akF, cdec, cndec, cbeq, cnbeq, ↓reduceIte, beq_self_eq_true, Int.reduceBEq, Int.reduceEq, Bool.and_true, Bool.true_and, Bool.false_and, Bool.and_false, h1, h2, and_self, encD_len, encD_at hk, or64 hv (hd _ hm), hw]
  exact h
theorem z53 (s e : Bool) (d : List Int) (v : Int) : Or K53n3 [AV.t (T.ptr [tb s, T.lst 1 e (encD d)]), AV.t (T.int .u64 v), I (-1)] [] = some [T.int .u64 v] := by
  refine orc_of ?_
  rw [e53n3]
  have h1 : ¬ (-1 : Int) ≥ 0 := by omega
  simp only [gd1, hd1, tl1, dr0, dr1, dr2, dr3, dr4, dr5, dr6, bo1, in1, st1, ls1, le1, pt1, fi1, fb1, fs1, ct1, cf1, nt1, nf1, ak0, akT, akF, cdec, cndec, cbeq, cnbeq, ↓reduceIte, beq_self_eq_true, Int.reduceBEq, Int.reduceEq, Bool.and_true, Bool.true_and, Bool.false_and, Bool.and_false, h1]
theorem s53 (s e : Bool) (d : List Int) (hd : Dg d) (hl : d.length ≤ 2) : Or (.call 60) [AV.t (T.ptr [tb s, T.lst 1 e (encD d)])] [] = some [T.int .u64 (val d)] := by
  refine orc_of ?_
  rw [e53, encD_len, mm_min]
  match d, hd, hl with
  | [], _, _ =>
    rw [wr (by simp; omega)]
    exact z53 s e [] _
  | [a], hd, _ =>
    rw [show (min (([a] : List Int).length : Int) 2 - 1) = ((0 : Nat) : Int) from by simp; omega, wr (by simp)]
    refine k53 s e [a] hd 0 (by simp) (by simp) 0 (by omega) _ ?_
    rw [show (((0 : Nat) : Int) - 1) = -1 from rfl, show ((0 : Int) * 4294967296 + dat [a] 0) = val [a] from by simp [dat, val]]
    exact z53 s e [a] _
  | [a, b], hd, _ =>
    rw [show (min (([a, b] : List Int).length : Int) 2 - 1) = ((1 : Nat) : Int) from by simp; try omega, wr (by simp)]
    have hb := hd b (by simp)
    refine k53 s e [a, b] hd 1 (by simp) (by simp) 0 (by omega) _ ?_
    rw [show (((1 : Nat) : Int) - 1) = ((0 : Nat) : Int) from rfl, show ((0 : Int) * 4294967296 + dat [a, b] 1) = b from by simp [dat]]
    refine k53 s e [a, b] hd 0 (by simp) (by simp) b hb _ ?_
    rw [show (((0 : Nat) : Int) - 1) = -1 from rfl, show (b * 4294967296 + dat [a, b] 0) = val [a, b] from by simp [dat, val]; omega]
    exact z53 s e [a, b] _
  | a :: b :: c :: r, _, hl => simp at hl
/-- Int64. -/
theorem s39 (s e : Bool) (d : List Int) (z : Int) (h : Rep z s d) (hz : -9223372036854775808 < z ∧ z < 9223372036854775808) : Or (.call 104) [AV.t (T.ptr [tb s, T.lst 1 e (encD d)])] [] = some [ti z] := by
  have h53 := s53 s e d h.dg (rep_two h (by omega))
  rw [rep_abs h] at h53
  have hs := rep_sg h
  refine orc_of ?_
  rw [e39]
  cases s with
  | true =>
    have hn : z < 0 := by simpa using hs.symm
    have hw : IntKind.i64.wrap (0 - IntKind.i64.wrap (z.natAbs : Int)) = z := by rw [wr (v := (z.natAbs : Int)) (by omega), wr (by omega)]; omega
    simp only [gd1, hd1, tl1, dr0, dr1, dr2, dr3, dr4, dr5, dr6, bo1, in1, st1, ls1, le1, pt1, fi1, fb1, fs1, ct1, cf1, nt1, nf1, ak0, akT, akF, cdec, cndec, cbeq, cnbeq, ↓reduceIte, beq_self_eq_true, Int.reduceBEq, Int.reduceEq, Bool.and_true, Bool.true_and, Bool.false_and, Bool.and_false, h53, hw]
  | false =>
    have hn : ¬ z < 0 := by simpa using hs.symm
    have hw : IntKind.i64.wrap (z.natAbs : Int) = z := by rw [wr (v := (z.natAbs : Int)) (by omega)]; omega
    simp only [gd1, hd1, tl1, dr0, dr1, dr2, dr3, dr4, dr5, dr6, bo1, in1, st1, ls1, le1, pt1, fi1, fb1, fs1, ct1, cf1, nt1, nf1, ak0, akT, akF, cdec, cndec, cbeq, cnbeq, ↓reduceIte, beq_self_eq_true, Int.reduceBEq, Int.reduceEq, Bool.and_true, Bool.true_and, Bool.false_and, Bool.and_false, h53, hw]

theorem n51t (s e : Bool) (d : List Int) (hd : d.length ≤ 1000) : ∀ (k : Nat), k ≤ d.length →
    Or K51n2m1 [r0, I (k : Int)] [Blk.box [AV.t (T.bool s), lu e d]] = some [T.nilp, tb (s && decide (trimN d k ≠ 0)), T.lst 1 e (encD (d.take (trimN d k)))]
  | 0, hk => by
    refine orc_of ?_
    rw [e51n2s2]
    have hi : inB 0 ((0 : Nat) : Int) (d.length : Int) = some () := by unfold inB; rw [if_pos (by omega)]
    have h0 : ¬ ((0 : Nat) : Int) > 0 := by omega
    have h1 : ((0 : Nat) : Int) = 0 := rfl
    simp only [gd1, hd1, tl1, dr0, dr1, dr2, dr3, dr4, dr5, dr6, bo1, in1, st1, ls1, le1, pt1, fi1, fb1, fs1, ct1, cf1, nt1, nf1, ak0, akT, akF, cdec, cndec, cbeq, cnbeq, ↓reduceIte, beq_self_eq_true, Int.reduceBEq, Int.reduceEq, Bool.and_true, Bool.true_and, Bool.false_and, Bool.and_false, gdF, h0, encD_len, decide_false, hi]
    simp [trimN, encD, sub]
  | k + 1, hk => by
    refine orc_of ?_
    rw [e51n2s2]
    have h0 : ((k + 1 : Nat) : Int) > 0 := by omega
    have hw : IntKind.i64.wrap (((k + 1 : Nat) : Int) - 1) = (k : Int) := by rw [wr (by omega)]; omega
    have h2 : 0 ≤ (k : Int) ∧ (k : Int) < (d.length : Int) := by omega
    have hi : inB 0 ((k + 1 : Nat) : Int) (d.length : Int) = some () := by unfold inB; rw [if_pos (by omega)]
    have h3 : ¬ ((k + 1 : Nat) : Int) = 0 := by omega
    by_cases hz : dat d k = 0
    · have := n51t s e d hd k (by omega)
      rw [trimN, if_pos hz]
      simp only [gd1, hd1, tl1, dr0, dr1, dr2, dr3, dr4, dr5, dr6, bo1, in1, st1, ls1, le1, pt1, fi1, fb1, fs1, ct1, cf1, nt1, nf1, ak0, akT, akF, cdec, cndec, cbeq, cnbeq, ↓reduceIte, beq_self_eq_true, Int.reduceBEq, Int.reduceEq, Bool.and_true, Bool.true_and, Bool.false_and, Bool.and_false, h0, hw, h2, and_self, encD_len, encD_at (show k < d.length by omega), hz, decide_true]
      exact this
    · rw [trimN, if_neg hz]
      simp only [gd1, hd1, tl1, dr0, dr1, dr2, dr3, dr4, dr5, dr6, bo1, in1, st1, ls1, le1, pt1, fi1, fb1, fs1, ct1, cf1, nt1, nf1, ak0, akT, akF, cdec, cndec, cbeq, cnbeq, ↓reduceIte, beq_self_eq_true, Int.reduceBEq, Int.reduceEq, Bool.and_true, Bool.true_and, Bool.false_and, Bool.and_false, h0, hw, h2, and_self, encD_len, encD_at (show k < d.length by omega), hz, decide_true, hi, h3]
      simp [encD, List.map_take, sub]
theorem s51t (s e : Bool) (d : List Int) (hd : d.length ≤ 1000) :
    Or (.call 98) [r0] [Blk.box [AV.t (T.bool s), lu e d]] = some [T.nilp, tb (s && decide (trim d ≠ [])), T.lst 1 e (encD (trim d))] := by
  have := n51t s e d hd d.length (Nat.le_refl _)
  have hne : decide (trim d ≠ []) = decide (trimN d d.length ≠ 0) := by
    refine decide_eq_decide.2 ?_
    have := trimN_le d d.length
    unfold trim
    constructor
    · intro h h'
      rw [h'] at h; exact h rfl
    · intro h h'
      have := congrArg List.length h'
      simp only [List.length_take, List.length_nil] at this
      omega
  refine orc_of ?_
  rw [e51t, encD_len, hne]
  exact this
theorem num_div (s3 s2 : Bool) (A B : Int) (hA : 0 ≤ A) (hB : 0 < B) :
    (if s2 = true then -A else A).tdiv (if s3 = true then -B else B) = (if (!(s2 == s3)) = true then -(A / B) else A / B) ∧ (if s2 = true then -A else A).tmod (if s3 = true then -B else B) = (if s2 = true then -(A % B) else A % B) := by
  have h1 : A.tdiv B = A / B := Int.tdiv_eq_ediv_of_nonneg hA
  have h2 : A.tmod B = A % B := Int.tmod_eq_emod_of_nonneg hA
  cases s2 <;> cases s3 <;> simp [Int.neg_tdiv, Int.tdiv_neg, Int.neg_tmod, Int.tmod_neg, h1, h2]
/-- What a method answers that sets its receiver and its last argument. -/
def Sets2 (z m : Int) (r : Option (List T)) : Prop := ∃ s e d s' e' d', r = some [T.nilp, T.nilp, tb s, T.lst 1 e (encD d), tb s', T.lst 1 e' (encD d')] ∧ Rep z s d ∧ Rep m s' d' ∧ d.length ≤ 2 ∧ d'.length ≤ 2
theorem rep_zero_abs {z : Int} {s : Bool} {d : List Int} (h : Rep z s d) (hz : z ≠ 0) : 0 < val d := by rw [rep_abs h]; omega
/-- QuoRem of numbers of two digits. -/
theorem s70 (s : Bool) (y : T) (s2 e2 s3 e3 s4 : Bool) (y4 : T) (a b : List Int) (u v : Int) (ha : Rep u s2 a) (hb : Rep v s3 b) (la : a.length ≤ 2) (lb : b.length ≤ 2) (hv : v ≠ 0) :
    Sets2 (u.tdiv v) (u.tmod v) (Or (.call 119) [r0, AV.t (T.ptr [tb s2, T.lst 1 e2 (encD a)]), AV.t (T.ptr [tb s3, T.lst 1 e3 (encD b)]), AV.ref (Id.c 1) 0] [Blk.box [AV.t (T.bool s), AV.t y], Blk.box [AV.t (T.bool s4), AV.t y4]]) := by
  have h67 := s67 a b s2 e2 s3 e3 ha.dg hb.dg ha.can hb.can (by omega) (by omega)
  have hA := val_nonneg ha.dg
  have hB := rep_zero_abs hb hv
  obtain ⟨hq, hm⟩ := num_div s3 s2 (val a) (val b) hA hB
  have hu := ha.z
  have hv' := hb.z
  unfold num at hu hv'
  rw [hu, hv'] at hq hm
  by_cases hc : val a < val b
  · have h0 : cmp3 (val a) (val b) < 0 := by unfold cmp3; rw [if_pos hc]; omega
    obtain ⟨s', e', d', k1, k2, k3⟩ := s48 s y 0 (by omega)
    rw [Int.ediv_eq_zero_of_lt hA hc] at hq
    rw [Int.emod_eq_of_lt hA hc, hu] at hm
    refine ⟨s', e', d', s2, false, a, orc_of ?_, ?_, by rw [hm]; exact ha, k3, la⟩
    · rw [e70]
      simp only [gd1, hd1, tl1, dr0, dr1, dr2, dr3, dr4, dr5, dr6, bo1, in1, st1, ls1, le1, pt1, fi1, fb1, fs1, ct1, cf1, nt1, nf1, ak0, akT, akF, cdec, cndec, cbeq, cnbeq, ↓reduceIte, beq_self_eq_true, Int.reduceBEq, Int.reduceEq, Bool.and_true, Bool.true_and, Bool.false_and, Bool.and_false, h67, h0, s69 s4 y4 s2 e2 a (by omega), k1]
    · rw [hq]; simpa using k2
  · have h0 : ¬ cmp3 (val a) (val b) < 0 := by unfold cmp3; rw [if_neg hc]; split <;> omega
    have h3 : (a.length : Int) < 3 := by omega
    have h53a := s53 s2 e2 a ha.dg la
    have h53b := s53 s3 e3 b hb.dg lb
    have lta := val_lt ha.dg
    have ltb := val_lt hb.dg
    have hp : ∀ d : List Int, d.length ≤ 2 → (4294967296 : Int) ^ d.length ≤ 18446744073709551616 := fun d hd => by
      have h2 : (4294967296 : Int) ^ d.length ≤ 4294967296 ^ 2 := pow_mono hd
      rw [show ((4294967296 : Int) ^ 2) = 18446744073709551616 from by decide] at h2
      exact h2
    have hpa := hp a la
    have hpb := hp b lb
    have hne : ¬ val b = 0 := by omega
    have hdd1 : 0 ≤ val a / val b := Int.ediv_nonneg hA (by omega)
    have hdd2 : val a / val b ≤ val a := Int.ediv_le_self _ hA
    have hdd3 : 0 ≤ val a % val b := Int.emod_nonneg _ hne
    have hdd4 : val a % val b < val b := Int.emod_lt_of_pos _ hB
    have hw : IntKind.u64.wrap ((val a).tdiv (val b)) = val a / val b := by rw [Int.tdiv_eq_ediv_of_nonneg hA, w64 (by omega)]
    have hw2 : (val a).tmod (val b) = val a % val b := Int.tmod_eq_emod_of_nonneg hA
    obtain ⟨e5, d5, k51, k52, k53, k54, k55⟩ := s65 s y (val a / val b) (by omega)
    obtain ⟨e6, d6, k61, k62, k63, k64, k65⟩ := s65 s4 y4 (val a % val b) (by omega)
    have t5 := s51t (!s2 == s3) e5 d5 (by omega)
    have t6 := s51t s2 e6 d6 (by omega)
    have l5 := trim_len d5
    have l6 := trim_len d6
    refine ⟨(!s2 == s3) && decide (trim d5 ≠ []), e5, trim d5, s2 && decide (trim d6 ≠ []), e6, trim d6, orc_of ?_, trim_rep (s := !s2 == s3) k52 ?_, trim_rep (s := s2) k62 ?_, by omega, by omega⟩
    · rw [e70]
      simp only [gd1, hd1, tl1, dr0, dr1, dr2, dr3, dr4, dr5, dr6, bo1, in1, st1, ls1, le1, pt1, fi1, fb1, fs1, ct1, cf1, nt1, nf1, ak0, akT, akF, cdec, cndec, cbeq, cnbeq, ↓reduceIte, beq_self_eq_true, Int.reduceBEq, Int.reduceEq, Bool.and_true, Bool.true_and, Bool.false_and, Bool.and_false, h67, h0, encD_len, h3, h53a, h53b, hne, hw, hw2, k51, k61, t5, t6]
    · rw [hq]; unfold num; rw [k54]
    · rw [hm]; unfold num; rw [k64]
theorem tdiv_floor {u v : Int} (hv : 0 < v) : (u.tmod v < 0 → u.tdiv v - 1 = u / v ∧ u.tmod v + v = u % v) ∧ (¬ u.tmod v < 0 → u.tdiv v = u / v ∧ u.tmod v = u % v) := by
  have h1 : u.tdiv v = u / v + if 0 ≤ u ∨ v ∣ u then 0 else v.sign := Int.tdiv_eq_ediv
  have h2 : u.tmod v = u % v - if 0 ≤ u ∨ v ∣ u then 0 else v.natAbs := Int.tmod_eq_emod
  have h3 := Int.emod_nonneg u (show v ≠ 0 by omega)
  have h4 := Int.emod_lt_of_pos u hv
  have hs : v.sign = 1 := Int.sign_eq_one_of_pos hv
  rw [hs] at h1
  split at h1
  · rename_i h
    rw [if_pos h] at h2
    constructor <;> intro _ <;> omega
  · rename_i h
    rw [if_neg h] at h2
    constructor <;> intro _ <;> omega
/-- DivMod by a number above 0. -/
theorem s52 (s : Bool) (y : T) (s2 e2 s3 e3 s4 : Bool) (y4 : T) (a b : List Int) (u v : Int) (ha : Rep u s2 a) (hb : Rep v s3 b) (hu : -9223372036854775808 < u ∧ u < 9223372036854775808) (hv : 0 < v ∧ v < 9223372036854775808) :
    Sets2 (u / v) (u % v) (Or (.call 99) [r0, AV.t (T.ptr [tb s2, T.lst 1 e2 (encD a)]), AV.t (T.ptr [tb s3, T.lst 1 e3 (encD b)]), AV.ref (Id.c 1) 0] [Blk.box [AV.t (T.bool s), AV.t y], Blk.box [AV.t (T.bool s4), AV.t y4]]) := by
  have la := rep_two ha (by omega)
  have lb := rep_two hb (by omega)
  have h69 := s69 false (T.emp true) s3 e3 b (by omega)
  obtain ⟨sq, eq, dq, sm, em, dm, k1, k2, k3, k4, k5⟩ := s70 s y s2 e2 s3 e3 s4 y4 a b u v ha hb la lb (by omega)
  have hs3 := rep_sg hb
  have : s3 = false := by rw [hs3]; simp; omega
  subst this
  have hsm := rep_sg k3
  obtain ⟨f1, f2⟩ := tdiv_floor (u := u) hv.1
  have g1 := Int.emod_nonneg u (show v ≠ 0 by omega)
  have g2 := Int.emod_lt_of_pos u hv.1
  have g3 := Int.mul_ediv_add_emod u v
  have g4 : -9223372036854775808 ≤ u / v ∧ u / v ≤ 9223372036854775808 := by
    constructor
    · apply Int.le_ediv_of_mul_le hv.1
      have : -9223372036854775808 * v ≤ -9223372036854775808 * 1 := Int.mul_le_mul_of_nonpos_left (by omega) (by omega)
      omega
    · apply Int.ediv_le_of_le_mul hv.1
      have : 9223372036854775808 * 1 ≤ 9223372036854775808 * v := Int.mul_le_mul_of_nonneg_left (by omega) (by omega)
      omega
  by_cases hn : u.tmod v < 0
  · have : sm = true := by rw [hsm]; simpa using hn
    subst this
    obtain ⟨q1, q2⟩ := f1 hn
    obtain ⟨x1, j1, j2⟩ := s35 1 (by omega)
    obtain ⟨s', e', d', rfl, j3⟩ := j2
    have l1 := rep_two j3 (by omega)
    obtain ⟨sq', eq', dq', m1, m2, m3⟩ := s36z sq eq s' e' dq d' _ _ k2 j3 (by omega) (by omega)
    obtain ⟨sm', em', dm', w1, w2, w3⟩ := s49z true em false false dm b _ _ k3 hb (by omega) (by omega)
    rw [q1] at m2
    rw [q2] at w2
    refine ⟨sq', eq', dq', sm', em', dm', orc_of ?_, m2, w2, rep_two m2 (by omega), rep_two w2 (by omega)⟩
    rw [e52]
    simp only [gd1, hd1, tl1, dr0, dr1, dr2, dr3, dr4, dr5, dr6, bo1, in1, st1, ls1, le1, pt1, fi1, fb1, fs1, ct1, cf1, nt1, nf1, ak0, akT, akF, cdec, cndec, cbeq, cnbeq, ↓reduceIte, beq_self_eq_true, Int.reduceBEq, Int.reduceEq, Bool.and_true, Bool.true_and, Bool.false_and, Bool.and_false, h69, k1, j1, m1, w1]
  · have : sm = false := by rw [hsm]; simpa using hn
    subst this
    obtain ⟨q1, q2⟩ := f2 hn
    rw [q1] at k2
    rw [q2] at k3
    refine ⟨sq, eq, dq, false, em, dm, orc_of ?_, k2, k3, k4, k5⟩
    rw [e52]
    simp only [gd1, hd1, tl1, dr0, dr1, dr2, dr3, dr4, dr5, dr6, bo1, in1, st1, ls1, le1, pt1, fi1, fb1, fs1, ct1, cf1, nt1, nf1, ak0, akT, akF, cdec, cndec, cbeq, cnbeq, ↓reduceIte, beq_self_eq_true, Int.reduceBEq, Int.reduceEq, Bool.and_true, Bool.true_and, Bool.false_and, Bool.and_false, h69, k1]
end Go.Aev.Wd
