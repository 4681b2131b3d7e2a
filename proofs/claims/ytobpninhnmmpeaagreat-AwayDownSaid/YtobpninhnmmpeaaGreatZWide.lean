/-
  Wide numbers: digits of 32 bits, the least one first.
-/
import Derived.Test.YtobpninhnmmpeaaGreatZBase
import Derived.Test.YtobpninhnmmpeaaGreatZWGen
set_option linter.unusedSimpArgs false
set_option linter.unusedVariables false
namespace Go.Aev.Wd
open Go Go.Aev Go.Aev.Gen

def val : List Int → Int
  | [] => 0
  | a :: r => a + 4294967296 * val r
def Dg (d : List Int) : Prop := ∀ a ∈ d, 0 ≤ a ∧ a < 4294967296
def encD (d : List Int) : List (List T) := d.map fun a => [T.int .u32 a]
theorem encD_len (d : List Int) : (encD d).length = d.length := by simp [encD]
def dat (d : List Int) (i : Nat) : Int := d.getD i 0
theorem encD_at {d : List Int} {i : Nat} (h : i < d.length) : (encD d)[((i : Nat) : Int).toNat]? = some [T.int .u32 (dat d i)] := by
  simp [encD, dat, List.getD_eq_getElem?_getD, h]
theorem val_nonneg : ∀ {d : List Int}, Dg d → 0 ≤ val d
  | [], _ => Int.le_refl _
  | a :: d, h => by
    have h1 := h a List.mem_cons_self
    have h2 := val_nonneg (d := d) fun b hb => h b (List.mem_cons_of_mem _ hb)
    simp only [val]; omega
theorem val_append : ∀ (a b : List Int), val (a ++ b) = val a + 4294967296 ^ a.length * val b
  | [], b => by simp [val]
  | x :: a, b => by
    simp only [List.cons_append, val, val_append a b, List.length_cons, Int.pow_succ, Int.mul_add]
    rw [Int.mul_assoc, Int.mul_left_comm]
    omega
/-- How many digits are left where the noughts at the end are taken away. -/
def trimN (d : List Int) : Nat → Nat
  | 0 => 0
  | k + 1 => if dat d k = 0 then trimN d k else k + 1
def trim (d : List Int) : List Int := d.take (trimN d d.length)
theorem trimN_le (d : List Int) : ∀ k, trimN d k ≤ k
  | 0 => Nat.le_refl _
  | k + 1 => by
    rw [trimN]
    split
    · have := trimN_le d k; omega
    · exact Nat.le_refl _
theorem trimN_val {d : List Int} : ∀ k, k ≤ d.length → val (d.take (trimN d k)) = val (d.take k)
  | 0, _ => rfl
  | k + 1, h => by
    rw [trimN]
    split
    · rename_i hz
      rw [trimN_val k (by omega), List.take_add_one, val_append]
      have : d[k]? = some 0 := by
        have hk : k < d.length := by omega
        simp only [dat, List.getD_eq_getElem?_getD, List.getElem?_eq_getElem hk, Option.getD_some] at hz
        rw [List.getElem?_eq_getElem hk, hz]
      rw [this]
      simp [val]
    · rfl
theorem trim_val (d : List Int) : val (trim d) = val d := by
  rw [trim, trimN_val d.length (Nat.le_refl _), List.take_length]
theorem n51 (s e : Bool) (d : List Int) (hd : d.length ≤ 1000) : ∀ (k : Nat), k ≤ d.length →
    Or K51n2m2 [r0, I (k : Int)] [Blk.box [AV.t (T.bool s), o1], Blk.sl false 1 e (encD d)] = some [T.nilp, tb (s && decide (trimN d k ≠ 0)), T.lst 1 e (encD (d.take (trimN d k)))]
  | 0, hk => by
    refine orc_of ?_
    rw [e51n2]
    have hi : inB 0 ((0 : Nat) : Int) (d.length : Int) = some () := by unfold inB; rw [if_pos (by omega)]
    have h0 : ¬ ((0 : Nat) : Int) > 0 := by omega
    have h1 : ((0 : Nat) : Int) = 0 := rfl
    simp only [gd1, hd1, tl1, dr0, dr1, dr2, dr3, dr4, dr5, dr6, bo1, in1, st1, ls1, le1, pt1, fi1, fb1, fs1, ct1, cf1, nt1, nf1, ak0, akT, akF, cdec, cndec, cbeq, cnbeq, ↓reduceIte, beq_self_eq_true, Int.reduceBEq, Int.reduceEq, Bool.and_true, Bool.true_and, Bool.false_and, Bool.and_false, gdF, h0, encD_len, decide_false, hi]
    simp [trimN, encD]
  | k + 1, hk => by
    refine orc_of ?_
    rw [e51n2]
    have h0 : ((k + 1 : Nat) : Int) > 0 := by omega
    have hw : IntKind.i64.wrap (((k + 1 : Nat) : Int) - 1) = (k : Int) := by rw [wr (by omega)]; omega
    have h2 : 0 ≤ (k : Int) ∧ (k : Int) < (d.length : Int) := by omega
    have hi : inB 0 ((k + 1 : Nat) : Int) (d.length : Int) = some () := by unfold inB; rw [if_pos (by omega)]
    have h3 : ¬ ((k + 1 : Nat) : Int) = 0 := by omega
    by_cases hz : dat d k = 0
    · have := n51 s e d hd k (by omega)
      rw [trimN, if_pos hz]
      simp only [gd1, hd1, tl1, dr0, dr1, dr2, dr3, dr4, dr5, dr6, bo1, in1, st1, ls1, le1, pt1, fi1, fb1, fs1, ct1, cf1, nt1, nf1, ak0, akT, akF, cdec, cndec, cbeq, cnbeq, ↓reduceIte, beq_self_eq_true, Int.reduceBEq, Int.reduceEq, Bool.and_true, Bool.true_and, Bool.false_and, Bool.and_false, h0, hw, h2, and_self, encD_len, encD_at (show k < d.length by omega), hz, decide_true]
      exact this
    · rw [trimN, if_neg hz]
      simp only [gd1, hd1, tl1, dr0, dr1, dr2, dr3, dr4, dr5, dr6, bo1, in1, st1, ls1, le1, pt1, fi1, fb1, fs1, ct1, cf1, nt1, nf1, ak0, akT, akF, cdec, cndec, cbeq, cnbeq, ↓reduceIte, beq_self_eq_true, Int.reduceBEq, Int.reduceEq, Bool.and_true, Bool.true_and, Bool.false_and, Bool.and_false, h0, hw, h2, and_self, encD_len, encD_at (show k < d.length by omega), hz, decide_true, hi, h3]
      simp [encD, List.map_take]
theorem s51 (s e : Bool) (d : List Int) (hd : d.length ≤ 1000) :
    Or (.call 98) [r0] [Blk.box [AV.t (T.bool s), o1], Blk.sl false 1 e (encD d)] = some [T.nilp, tb (s && decide (trim d ≠ [])), T.lst 1 e (encD (trim d))] := by
  have := n51 s e d hd d.length (Nat.le_refl _)
  have hne : decide (trim d ≠ []) = decide (trimN d d.length ≠ 0) := by
    refine decide_eq_decide.2 ?_
    have := trimN_le d d.length
    unfold trim
    constructor
    · intro h h'
      rw [h'] at h; exact h rfl
    · intro h h'
      have := congrArg List.length h'
      simp only [List.length_take, List.length_nil] at this
      omega
  refine orc_of ?_
  rw [e51, encD_len, hne]
  exact this
theorem wr32 (v : Int) : IntKind.u32.wrap v = v % 4294967296 := by simp [IntKind.wrap, IntKind.signed, IntKind.bits]
theorem wr64 (v : Int) : IntKind.u64.wrap v = v % 18446744073709551616 := by simp [IntKind.wrap, IntKind.signed, IntKind.bits]
/-- No noughts at the end. -/
def Can (d : List Int) : Prop := ∀ k, d.length = k + 1 → dat d k ≠ 0
theorem trimN_can {d : List Int} : ∀ k, k ≤ d.length → ∀ j, trimN d k = j + 1 → dat d j ≠ 0
  | 0, _, j, h => by cases h
  | k + 1, hk, j, h => by
    rw [trimN] at h
    split at h
    · exact trimN_can k (by omega) j h
    · rename_i hz
      simp only [Nat.add_right_cancel_iff] at h
      subst h; exact hz
theorem dat_take {d : List Int} {n k : Nat} (h : k < n) : dat (d.take n) k = dat d k := by
  simp only [dat, List.getD_eq_getElem?_getD, List.getElem?_take, if_pos h]
theorem trim_can (d : List Int) : Can (trim d) := by
  intro k hk
  have hle := trimN_le d d.length
  have hl : (trim d).length = trimN d d.length := by unfold trim; rw [List.length_take]; omega
  rw [hl] at hk
  have := trimN_can d.length (Nat.le_refl _) k hk
  unfold trim
  rw [dat_take (by omega)]; exact this
theorem trim_dg {d : List Int} (h : Dg d) : Dg (trim d) := fun a ha => h a (List.mem_of_mem_take ha)
theorem trim_len (d : List Int) : (trim d).length ≤ d.length := by unfold trim; rw [List.length_take]; omega
def num (s : Bool) (d : List Int) : Int := if s = true then -val d else val d
/-- Digits and sign of a number. -/
structure Rep (z : Int) (s : Bool) (d : List Int) : Prop where
  dg : Dg d
  can : Can d
  sg : s = true → d ≠ []
  z : num s d = z
/-- A wide number that is handed on. -/
def WI (z : Int) (x : T) : Prop := ∃ s e d, x = T.ptr [tb s, T.lst 1 e (encD d)] ∧ Rep z s d
theorem can_pos {d : List Int} (h : Dg d) (hc : Can d) (hn : d ≠ []) : 0 < val d := by
  have h0 := val_nonneg h
  rcases Int.lt_or_eq_of_le h0 with h1 | h1
  · exact h1
  · exfalso
    have : ∀ d : List Int, Dg d → val d = 0 → ∀ k, dat d k = 0 := by
      intro d
      induction d with
      | nil => intro _ _ k; simp [dat]
      | cons a d ih =>
        intro h hv k
        have ha := h a List.mem_cons_self
        have hd : Dg d := fun b hb => h b (List.mem_cons_of_mem _ hb)
        have := val_nonneg hd
        simp only [val] at hv
        cases k with
        | zero => simp only [dat, List.getD_cons_zero]; omega
        | succ k =>
          have := ih hd (by omega) k
          simpa only [dat, List.getD_cons_succ] using this
    have hl : d.length = (d.length - 1) + 1 := by have := List.length_pos_iff.2 hn; omega
    exact hc _ hl (this d h h1.symm _)
theorem s65 (s : Bool) (y : T) (n : Int) (hn : 0 ≤ n ∧ n < 18446744073709551616) : ∃ e d, Or (.call 61) [r0, AV.t (T.int .u64 n)] [Blk.box [AV.t (T.bool s), AV.t y]] = some [T.nilp, tb false, T.lst 1 e (encD d)] ∧ Dg d ∧ Can d ∧ val d = n ∧ d.length ≤ 2 := by
  have hd : Dg [n % 4294967296, n / 4294967296] := by
    intro a ha
    simp only [List.mem_cons, List.not_mem_nil, or_false] at ha
    rcases ha with rfl | rfl <;> omega
  have h51 := s51 false false [n % 4294967296, n / 4294967296] (by simp)
  refine ⟨false, trim [n % 4294967296, n / 4294967296], orc_of ?_, trim_dg hd, trim_can _, by rw [trim_val]; simp only [val]; omega, by have := trim_len [n % 4294967296, n / 4294967296]; simpa using this⟩
  rw [e65]
  have h1 : n.fdiv ((2 : Int) ^ 32) = n / 4294967296 := by
    rw [show ((2 : Int) ^ 32) = 4294967296 from by decide]
    rw [Int.fdiv_eq_ediv_of_nonneg _ (by omega)]
  have h2 : n / 4294967296 % 4294967296 = n / 4294967296 := by omega
  have he : encD [n % 4294967296, n / 4294967296] = [[T.int IntKind.u32 (n % 4294967296)], [T.int IntKind.u32 (n / 4294967296)]] := rfl
  rw [he] at h51
  simp only [Bool.false_and] at h51
  simp only [h1, wr32, h2]
  simp only [gd1, hd1, tl1, dr0, dr1, dr2, dr3, dr4, dr5, dr6, bo1, in1, st1, ls1, le1, pt1, fi1, fb1, fs1, ct1, cf1, nt1, nf1, ak0, akT, akF, cdec, cndec, cbeq, cnbeq, ↓reduceIte, beq_self_eq_true, Int.reduceBEq, Int.reduceEq, Bool.and_true, Bool.true_and, Bool.false_and, Bool.and_false, h51]
theorem s48 (s : Bool) (y : T) (n : Int) (hn : -9223372036854775808 ≤ n ∧ n < 9223372036854775808) : ∃ s' e d, Or (.call 64) [r0, I n] [Blk.box [AV.t (T.bool s), AV.t y]] = some [T.nilp, tb s', T.lst 1 e (encD d)] ∧ Rep n s' d ∧ d.length ≤ 2 := by
  by_cases h0 : n < 0
  · have hw : IntKind.u64.wrap (0 - IntKind.u64.wrap n) = -n := by rw [wr64, wr64]; omega
    obtain ⟨e, d, k1, k2, k3, k4, k5⟩ := s65 s y (-n) (by omega)
    refine ⟨true, e, d, orc_of ?_, ⟨k2, k3, fun _ h => ?_, by simp only [num, if_true]; omega⟩, k5⟩
    · rw [e48]
      simp only [gd1, hd1, tl1, dr0, dr1, dr2, dr3, dr4, dr5, dr6, bo1, in1, st1, ls1, le1, pt1, fi1, fb1, fs1, ct1, cf1, nt1, nf1, ak0, akT, akF, cdec, cndec, cbeq, cnbeq, ↓reduceIte, beq_self_eq_true, Int.reduceBEq, Int.reduceEq, Bool.and_true, Bool.true_and, Bool.false_and, Bool.and_false, h0, hw, k1]
    · subst h
      simp only [val] at k4; omega
  · have hw : IntKind.u64.wrap n = n := by rw [wr64]; omega
    obtain ⟨e, d, k1, k2, k3, k4, k5⟩ := s65 s y n (by omega)
    refine ⟨false, e, d, orc_of ?_, ⟨k2, k3, fun h => (by cases h), by simpa [num] using k4⟩, k5⟩
    rw [e48]
    simp only [gd1, hd1, tl1, dr0, dr1, dr2, dr3, dr4, dr5, dr6, bo1, in1, st1, ls1, le1, pt1, fi1, fb1, fs1, ct1, cf1, nt1, nf1, ak0, akT, akF, cdec, cndec, cbeq, cnbeq, ↓reduceIte, beq_self_eq_true, Int.reduceBEq, Int.reduceEq, Bool.and_true, Bool.true_and, Bool.false_and, Bool.and_false, h0, hw, k1]
theorem s35 (n : Int) (hn : -9223372036854775808 ≤ n ∧ n < 9223372036854775808) : ∃ x, Or (.call 27) [I n] [] = some [x] ∧ WI n x := by
  obtain ⟨s', e, d, k1, k2, _⟩ := s48 false (T.emp true) n hn
  refine ⟨T.ptr [tb s', T.lst 1 e (encD d)], orc_of ?_, s', e, d, rfl, k2⟩
  rw [e35]
  simp only [gd1, hd1, tl1, dr0, dr1, dr2, dr3, dr4, dr5, dr6, bo1, in1, st1, ls1, le1, pt1, fi1, fb1, fs1, ct1, cf1, nt1, nf1, ak0, akT, akF, cdec, cndec, cbeq, cnbeq, ↓reduceIte, beq_self_eq_true, Int.reduceBEq, Int.reduceEq, Bool.and_true, Bool.true_and, Bool.false_and, Bool.and_false, k1]
theorem s69 (s : Bool) (y : T) (s2 e2 : Bool) (d : List Int) (hd : d.length ≤ 1000) : Or (.call 63) [r0, AV.t (T.ptr [tb s2, T.lst 1 e2 (encD d)])] [Blk.box [AV.t (T.bool s), AV.t y]] = some [T.nilp, tb s2, T.lst 1 false (encD d)] := by
  refine orc_of ?_
  rw [e69]
  have : small 4 (encD d).length = some () := small_ok (by rw [encD_len]; omega)
  simp only [gd1, hd1, tl1, dr0, dr1, dr2, dr3, dr4, dr5, dr6, bo1, in1, st1, ls1, le1, pt1, fi1, fb1, fs1, ct1, cf1, nt1, nf1, ak0, akT, akF, cdec, cndec, cbeq, cnbeq, ↓reduceIte, beq_self_eq_true, Int.reduceBEq, Int.reduceEq, Bool.and_true, Bool.true_and, Bool.false_and, Bool.and_false, this]
theorem s50 (s : Bool) (y : T) (s2 e2 : Bool) (d : List Int) (z : Int) (hd : d.length ≤ 1000) (hz : Rep z s2 d) : ∃ s', Or (.call 103) [r0, AV.t (T.ptr [tb s2, T.lst 1 e2 (encD d)])] [Blk.box [AV.t (T.bool s), AV.t y]] = some [T.nilp, tb s', T.lst 1 false (encD d)] ∧ Rep (-z) s' d := by
  refine ⟨!s2 && decide ((d.length : Int) > 0), orc_of ?_, hz.dg, hz.can, fun h => ?_, ?_⟩
  · rw [e50]
    simp only [gd1, hd1, tl1, dr0, dr1, dr2, dr3, dr4, dr5, dr6, bo1, in1, st1, ls1, le1, pt1, fi1, fb1, fs1, ct1, cf1, nt1, nf1, ak0, akT, akF, cdec, cndec, cbeq, cnbeq, ↓reduceIte, beq_self_eq_true, Int.reduceBEq, Int.reduceEq, Bool.and_true, Bool.true_and, Bool.false_and, Bool.and_false, s69 s y s2 e2 d hd, encD_len, cand]
  · simp only [Bool.and_eq_true, decide_eq_true_eq] at h
    intro h'; subst h'
    simp at h
  · have := hz.z
    unfold num at this ⊢
    cases s2 with
    | true => simp at this ⊢; omega
    | false =>
      simp only [Bool.false_eq_true, if_false] at this
      by_cases hl : (d.length : Int) > 0
      · simp [hl]; omega
      · have : d = [] := List.length_eq_zero_iff.1 (by omega)
        subst this
        simp [val] at *
        omega
theorem w64 {v : Int} (h : 0 ≤ v ∧ v < 18446744073709551616) : IntKind.u64.wrap v = v := by rw [wr64]; omega
theorem encD_set {d : List Int} {i : Nat} (hi : i < d.length) (v : Int) : storeIn (i : Int).toNat 0 [T.int .u32 v] (encD d) = some (encD (d.set i v)) := by
  have h1 := encD_at hi
  simp only [storeIn, h1]
  simp [repl, encD, List.map_set]
abbrev lu (e : Bool) (d : List Int) : AV := AV.t (T.lst 1 e (encD d))
def sumL : List Int → List Int → Int → List Int
  | [], _, c => [c]
  | a :: x, [], c => ((c + a) % 4294967296) :: sumL x [] ((c + a) / 4294967296)
  | a :: x, b :: y, c => ((c + a + b) % 4294967296) :: sumL x y ((c + a + b) / 4294967296)
theorem Dg.tail {a : Int} {d : List Int} (h : Dg (a :: d)) : Dg d := fun b hb => h b (List.mem_cons_of_mem _ hb)
theorem sumL_val : ∀ {x y : List Int} {c : Int}, y.length ≤ x.length → val (sumL x y c) = c + val x + val y
  | [], [], c, _ => by simp [sumL, val]
  | [], b :: y, c, h => by simp at h
  | a :: x, [], c, h => by
    have := sumL_val (x := x) (y := []) (c := (c + a) / 4294967296) (by simp)
    simp only [sumL, val] at this ⊢
    rw [this]; omega
  | a :: x, b :: y, c, h => by
    have := sumL_val (x := x) (y := y) (c := (c + a + b) / 4294967296) (by simpa using h)
    simp only [sumL, val] at this ⊢
    rw [this]; omega
theorem sumL_dg : ∀ {x y : List Int} {c : Int}, Dg x → Dg y → 0 ≤ c ∧ c ≤ 1 → Dg (sumL x y c)
  | [], _, c, _, _, hc => by
    intro a ha
    simp only [sumL, List.mem_singleton] at ha
    subst ha; omega
  | a :: x, [], c, hx, hy, hc => by
    have h1 := hx a List.mem_cons_self
    have := sumL_dg (x := x) (y := []) (c := (c + a) / 4294967296) hx.tail hy (by omega)
    intro b hb
    simp only [sumL] at hb
    rcases List.mem_cons.1 hb with rfl | hb
    · omega
    · exact this b hb
  | a :: x, b :: y, c, hx, hy, hc => by
    have h1 := hx a List.mem_cons_self
    have h2 := hy b List.mem_cons_self
    have := sumL_dg (x := x) (y := y) (c := (c + a + b) / 4294967296) hx.tail hy.tail (by omega)
    intro u hu
    simp only [sumL] at hu
    rcases List.mem_cons.1 hu with rfl | hu
    · omega
    · exact this u hu
theorem sumL_len : ∀ {x y : List Int} {c : Int}, (sumL x y c).length = x.length + 1
  | [], _, c => rfl
  | a :: x, [], c => by simp [sumL, sumL_len]
  | a :: x, b :: y, c => by simp [sumL, sumL_len]
theorem set_mid (a : List Int) (b v : Int) (r : List Int) (i : Nat) (h : a.length = i) : (a ++ b :: r).set i v = a ++ v :: r := by
  subst h; simp
theorem dat_of {d : List Int} {i : Nat} {r : Int} {rest : List Int} (h : d.drop i = r :: rest) : dat d i = r := by
  obtain ⟨g1, _, _⟩ := at_drop h
  simp [dat, List.getD_eq_getElem?_getD, g1]
theorem fd32 {v : Int} : v.fdiv ((2 : Int) ^ 32) = v / 4294967296 := by
  rw [show ((2 : Int) ^ 32) = 4294967296 from by decide, Int.fdiv_eq_ediv_of_nonneg _ (by omega)]
theorem n66 (x y : List Int) (ex ey : Bool) (hx : Dg x) (hy : Dg y) (hl : y.length ≤ x.length) (hn : x.length ≤ 1000) : ∀ (xr : List Int) (i : Nat) (c : Int) (done : List Int), x.drop i = xr → done.length = i → i ≤ x.length → 0 ≤ c ∧ c ≤ 1 →
    Or K66n6 [lu ex x, lu ey y, o0, AV.t (T.int .u64 c), lu ex x, I (x.length : Int), I (i : Int)] [Blk.sl false 1 false (encD (done ++ List.replicate (xr.length + 1) 0))] = some [T.lst 1 false (encD (done ++ sumL xr (y.drop i) c))] := by
  intro xr
  induction xr with
  | nil =>
    intro i c done h hd hi hc
    have hle := at_end h
    obtain rfl : i = x.length := by omega
    have h1 : ¬ (x.length : Int) < (x.length : Int) := by omega
    have h2 : 0 ≤ (x.length : Int) ∧ (x.length : Int) < ((done ++ List.replicate (([] : List Int).length + 1) 0).length : Int) := by simp; omega
    have hs := encD_set (d := done ++ List.replicate (([] : List Int).length + 1) 0) (i := x.length) (by simp; omega) c
    rw [show done ++ List.replicate (([] : List Int).length + 1) 0 = done ++ 0 :: [] from rfl, set_mid done 0 c [] x.length hd] at hs
    have hw : IntKind.u32.wrap c = c := by rw [wr32]; omega
    refine orc_of ?_
    rw [e66n6]
    simp only [gd1, hd1, tl1, dr0, dr1, dr2, dr3, dr4, dr5, dr6, bo1, in1, st1, ls1, le1, pt1, fi1, fb1, fs1, ct1, cf1, nt1, nf1, ak0, akT, akF, cdec, cndec, cbeq, cnbeq, ↓reduceIte, beq_self_eq_true, Int.reduceBEq, Int.reduceEq, Bool.and_true, Bool.true_and, Bool.false_and, Bool.and_false, h1, encD_len, h2, and_self, hw]
    rw [show done ++ List.replicate (([] : List Int).length + 1) 0 = done ++ 0 :: [] from rfl, hs]
    simp only [gd1, hd1, tl1, dr0, dr1, dr2, dr3, dr4, dr5, dr6, bo1, in1, st1, ls1, le1, pt1, fi1, fb1, fs1, ct1, cf1, nt1, nf1, ak0, akT, akF, cdec, cndec, cbeq, cnbeq, ↓reduceIte, beq_self_eq_true, Int.reduceBEq, Int.reduceEq, Bool.and_true, Bool.true_and, Bool.false_and, Bool.and_false, sumL]
  | cons a xr ih =>
    intro i c done h hd hi hc
    obtain ⟨g1, g2, g3⟩ := at_drop h
    have h1 : (i : Int) < (x.length : Int) := by omega
    have h0 : 0 ≤ (i : Int) := by omega
    have ha := hx a (List.mem_of_getElem? g1)
    have hda := dat_of h
    have hcl : (i : Int) < ((done ++ List.replicate ((a :: xr).length + 1) 0).length : Int) := by simp; omega
    have hset : ∀ v, storeIn (i : Int).toNat 0 [T.int .u32 v] (encD (done ++ List.replicate ((a :: xr).length + 1) 0)) = some (encD ((done ++ [v]) ++ List.replicate (xr.length + 1) 0)) := fun v => by
      rw [encD_set (by simp; omega), show done ++ List.replicate ((a :: xr).length + 1) 0 = done ++ 0 :: List.replicate (xr.length + 1) 0 from rfl, set_mid done 0 v _ i hd]
      simp
    refine orc_of ?_
    rw [e66n6]
    cases hyr : y.drop i with
    | nil =>
      have hyl := at_end hyr
      have h2 : ¬ (i : Int) < (y.length : Int) := by omega
      have hw1 : IntKind.u64.wrap a = a := w64 (by omega)
      have hw2 : IntKind.u64.wrap (c + a) = c + a := w64 (by omega)
      have hy1 : y.drop (i + 1) = [] := by simp; omega
      have := ih (i + 1) ((c + a) / 4294967296) (done ++ [(c + a) % 4294967296]) g3 (by simp [hd]) (by omega) (by omega)
      rw [hy1, show done ++ [(c + a) % 4294967296] ++ sumL xr [] ((c + a) / 4294967296) = done ++ sumL (a :: xr) [] c from by simp [sumL]] at this
      simp only [gd1, hd1, tl1, dr0, dr1, dr2, dr3, dr4, dr5, dr6, bo1, in1, st1, ls1, le1, pt1, fi1, fb1, fs1, ct1, cf1, nt1, nf1, ak0, akT, akF, cdec, cndec, cbeq, cnbeq, ↓reduceIte, beq_self_eq_true, Int.reduceBEq, Int.reduceEq, Bool.and_true, Bool.true_and, Bool.false_and, Bool.and_false, h1, h0, and_self, encD_len, encD_at g2, hda, h2, hw1, hw2, hcl, wr32, hset, fd32, next i (by omega)]
      exact this
    | cons b yr =>
      obtain ⟨k1, k2, k3⟩ := at_drop hyr
      have hb := hy b (List.mem_of_getElem? k1)
      have hdb := dat_of hyr
      have h2 : (i : Int) < (y.length : Int) := by omega
      have hw1 : IntKind.u64.wrap a = a := w64 (by omega)
      have hw2 : IntKind.u64.wrap (c + a) = c + a := w64 (by omega)
      have hw3 : IntKind.u64.wrap b = b := w64 (by omega)
      have hw4 : IntKind.u64.wrap (c + a + b) = c + a + b := w64 (by omega)
      have := ih (i + 1) ((c + a + b) / 4294967296) (done ++ [(c + a + b) % 4294967296]) g3 (by simp [hd]) (by omega) (by omega)
      rw [k3, show done ++ [(c + a + b) % 4294967296] ++ sumL xr yr ((c + a + b) / 4294967296) = done ++ sumL (a :: xr) (b :: yr) c from by simp [sumL]] at this
      simp only [gd1, hd1, tl1, dr0, dr1, dr2, dr3, dr4, dr5, dr6, bo1, in1, st1, ls1, le1, pt1, fi1, fb1, fs1, ct1, cf1, nt1, nf1, ak0, akT, akF, cdec, cndec, cbeq, cnbeq, ↓reduceIte, beq_self_eq_true, Int.reduceBEq, Int.reduceEq, Bool.and_true, Bool.true_and, Bool.false_and, Bool.and_false, h1, h0, and_self, encD_len, encD_at g2, encD_at k2, hda, hdb, h2, hw1, hw2, hw3, hw4, hcl, wr32, hset, fd32, next i (by omega)]
      exact this
/-- The sum of two lists of digits. -/
theorem s66 (x y : List Int) (ex ey : Bool) (hx : Dg x) (hy : Dg y) (hnx : x.length ≤ 900) (hny : y.length ≤ 900) : ∃ d, Or (.call 105) [lu ex x, lu ey y] [] = some [T.lst 1 false (encD d)] ∧ Dg d ∧ val d = val x + val y ∧ d.length ≤ max x.length y.length + 1 := by
  by_cases hl : (x.length : Int) < (y.length : Int)
  · have h1 := n66 y x ey ex hy hx (by omega) (by omega) y 0 0 [] rfl rfl (by omega) (by omega)
    refine ⟨sumL y x 0, orc_of ?_, sumL_dg hy hx (by omega), by rw [sumL_val (by omega)]; omega, by rw [sumL_len]; omega⟩
    have hw : IntKind.i64.wrap ((y.length : Int) + 1) = ((y.length + 1 : Nat) : Int) := next y.length (by omega)
    have hmk : mkOk ((y.length + 1 : Nat) : Int) ((y.length + 1 : Nat) : Int) = some () := by unfold mkOk lim; rw [if_pos (by omega)]
    have he : encD ([] ++ List.replicate (y.length + 1) 0) = List.replicate (y.length + 1) [T.int IntKind.u32 0] := by simp [encD]
    rw [he] at h1
    rw [e66]
    simp only [gd1, hd1, tl1, dr0, dr1, dr2, dr3, dr4, dr5, dr6, bo1, in1, st1, ls1, le1, pt1, fi1, fb1, fs1, ct1, cf1, nt1, nf1, ak0, akT, akF, cdec, cndec, cbeq, cnbeq, ↓reduceIte, beq_self_eq_true, Int.reduceBEq, Int.reduceEq, Bool.and_true, Bool.true_and, Bool.false_and, Bool.and_false, encD_len, hl, hw, hmk, Int.toNat_natCast]
    exact h1
  · have h1 := n66 x y ex ey hx hy (by omega) (by omega) x 0 0 [] rfl rfl (by omega) (by omega)
    refine ⟨sumL x y 0, orc_of ?_, sumL_dg hx hy (by omega), by rw [sumL_val (by omega)]; omega, by rw [sumL_len]; omega⟩
    have hw : IntKind.i64.wrap ((x.length : Int) + 1) = ((x.length + 1 : Nat) : Int) := next x.length (by omega)
    have hmk : mkOk ((x.length + 1 : Nat) : Int) ((x.length + 1 : Nat) : Int) = some () := by unfold mkOk lim; rw [if_pos (by omega)]
    have he : encD ([] ++ List.replicate (x.length + 1) 0) = List.replicate (x.length + 1) [T.int IntKind.u32 0] := by simp [encD]
    rw [he] at h1
    rw [e66]
    simp only [gd1, hd1, tl1, dr0, dr1, dr2, dr3, dr4, dr5, dr6, bo1, in1, st1, ls1, le1, pt1, fi1, fb1, fs1, ct1, cf1, nt1, nf1, ak0, akT, akF, cdec, cndec, cbeq, cnbeq, ↓reduceIte, beq_self_eq_true, Int.reduceBEq, Int.reduceEq, Bool.and_true, Bool.true_and, Bool.false_and, Bool.and_false, encD_len, hl, hw, hmk, Int.toNat_natCast]
    exact h1
/-! ### Comparing without signs -/
theorem pow_pos' (n : Nat) : 0 < (4294967296 : Int) ^ n := Int.pow_pos (by decide)
theorem val_lt : ∀ {d : List Int}, Dg d → val d < 4294967296 ^ d.length
  | [], _ => by simp [val]
  | a :: d, h => by
    have h1 := h a List.mem_cons_self
    have h2 := val_lt h.tail
    simp only [val, List.length_cons, Int.pow_succ]
    omega
theorem Dg.take {d : List Int} (h : Dg d) (n : Nat) : Dg (d.take n) := fun a ha => h a (List.mem_of_mem_take ha)
theorem val_take {d : List Int} {k : Nat} (hk : k < d.length) : val (d.take (k + 1)) = val (d.take k) + 4294967296 ^ k * dat d k := by
  have : d.take (k + 1) = d.take k ++ [dat d k] := by
    rw [List.take_add_one, List.getElem?_eq_getElem hk]
    simp [dat, List.getD_eq_getElem?_getD, hk]
  rw [this, val_append, List.length_take, Nat.min_eq_left (by omega)]
  simp [val]
theorem can_ge {d : List Int} {k : Nat} (h : Dg d) (hc : Can d) (hl : d.length = k + 1) : 4294967296 ^ k ≤ val d := by
  have h1 := val_take (d := d) (k := k) (by omega)
  rw [← hl, List.take_length] at h1
  have h2 := hc k hl
  have h3 := val_nonneg (h.take k)
  have h4 : 0 ≤ dat d k := by
    have hk : k < d.length := by omega
    have : dat d k ∈ d := by
      simp only [dat, List.getD_eq_getElem?_getD, List.getElem?_eq_getElem hk, Option.getD_some]
      exact List.getElem_mem hk
    exact (h _ this).1
  have h5 : (4294967296 : Int) ^ k * 1 ≤ 4294967296 ^ k * dat d k := Int.mul_le_mul_of_nonneg_left (by omega) (Int.le_of_lt (pow_pos' k))
  omega
def cmp3 (u v : Int) : Int := if u < v then -1 else if u = v then 0 else 1
theorem cmp3_add (u v w : Int) : cmp3 (u + w) (v + w) = cmp3 u v := by
  have h1 : u + w < v + w ↔ u < v := by omega
  have h2 : u + w = v + w ↔ u = v := by omega
  unfold cmp3
  simp only [h1, h2]
theorem dat_lt {a b : List Int} {k : Nat} (ha : Dg a) (hb : Dg b) (hka : k < a.length) (hkb : k < b.length) (h : dat a k < dat b k) : val (a.take (k + 1)) < val (b.take (k + 1)) := by
  rw [val_take hka, val_take hkb]
  have h1 := val_lt (ha.take k)
  rw [List.length_take, Nat.min_eq_left (by omega)] at h1
  have h2 := val_nonneg (hb.take k)
  have h3 : (4294967296 : Int) ^ k * (dat a k + 1) ≤ 4294967296 ^ k * dat b k := Int.mul_le_mul_of_nonneg_left (by omega) (Int.le_of_lt (pow_pos' k))
  rw [Int.mul_add, Int.mul_one] at h3
  omega
theorem n67 (a b : List Int) (sa ea sb eb : Bool) (ha : Dg a) (hb : Dg b) (hl : a.length = b.length) (hn : a.length ≤ 1000) : ∀ (k : Nat) (z : Int), z = (k : Int) - 1 → k ≤ a.length →
    Or K67n6 [AV.t (T.ptr [tb sa, T.lst 1 ea (encD a)]), AV.t (T.ptr [tb sb, T.lst 1 eb (encD b)]), I z] [] = some [ti (cmp3 (val (a.take k)) (val (b.take k)))]
  | 0, z, hz, hk => by
    refine orc_of ?_
    rw [e67n6]
    have h1 : ¬ z ≥ 0 := by omega
    simp only [gd1, hd1, tl1, dr0, dr1, dr2, dr3, dr4, dr5, dr6, bo1, in1, st1, ls1, le1, pt1, fi1, fb1, fs1, ct1, cf1, nt1, nf1, ak0, akT, akF, cdec, cndec, cbeq, cnbeq, ↓reduceIte, beq_self_eq_true, Int.reduceBEq, Int.reduceEq, Bool.and_true, Bool.true_and, Bool.false_and, Bool.and_false, h1]
    simp [cmp3]
  | k + 1, z, hz, hk => by
    obtain rfl : z = (k : Int) := by omega
    have h1 : (k : Int) ≥ 0 := by omega
    have h2 : 0 ≤ (k : Int) ∧ (k : Int) < (a.length : Int) := by omega
    have h3 : (k : Int) < (b.length : Int) := by omega
    have hw : IntKind.i64.wrap ((k : Int) - 1) = (k : Int) - 1 := wr (by omega)
    refine orc_of ?_
    rw [e67n6]
    by_cases he : dat a k = dat b k
    · have := n67 a b sa ea sb eb ha hb hl hn k ((k : Int) - 1) rfl (by omega)
      have hv : cmp3 (val (a.take (k + 1))) (val (b.take (k + 1))) = cmp3 (val (a.take k)) (val (b.take k)) := by
        rw [val_take (by omega), val_take (by omega), he, cmp3_add]
      rw [hv]
      simp only [gd1, hd1, tl1, dr0, dr1, dr2, dr3, dr4, dr5, dr6, bo1, in1, st1, ls1, le1, pt1, fi1, fb1, fs1, ct1, cf1, nt1, nf1, ak0, akT, akF, cdec, cndec, cbeq, cnbeq, ↓reduceIte, beq_self_eq_true, Int.reduceBEq, Int.reduceEq, Bool.and_true, Bool.true_and, Bool.false_and, Bool.and_false, h1, h2, h3, and_self, encD_len, encD_at (show k < a.length by omega), encD_at (show k < b.length by omega), he, hw]
      exact this
    · by_cases hlt : dat a k < dat b k
      · have := dat_lt ha hb (show k < a.length by omega) (by omega) hlt
        simp only [gd1, hd1, tl1, dr0, dr1, dr2, dr3, dr4, dr5, dr6, bo1, in1, st1, ls1, le1, pt1, fi1, fb1, fs1, ct1, cf1, nt1, nf1, ak0, akT, akF, cdec, cndec, cbeq, cnbeq, ↓reduceIte, beq_self_eq_true, Int.reduceBEq, Int.reduceEq, Bool.and_true, Bool.true_and, Bool.false_and, Bool.and_false, h1, h2, h3, and_self, encD_len, encD_at (show k < a.length by omega), encD_at (show k < b.length by omega), he, hlt]
        unfold cmp3
        rw [if_pos this]
      · have := dat_lt hb ha (show k < b.length by omega) (by omega) (show dat b k < dat a k by omega)
        simp only [gd1, hd1, tl1, dr0, dr1, dr2, dr3, dr4, dr5, dr6, bo1, in1, st1, ls1, le1, pt1, fi1, fb1, fs1, ct1, cf1, nt1, nf1, ak0, akT, akF, cdec, cndec, cbeq, cnbeq, ↓reduceIte, beq_self_eq_true, Int.reduceBEq, Int.reduceEq, Bool.and_true, Bool.true_and, Bool.false_and, Bool.and_false, h1, h2, h3, and_self, encD_len, encD_at (show k < a.length by omega), encD_at (show k < b.length by omega), he, hlt]
        unfold cmp3
        rw [if_neg (by omega), if_neg (by omega)]
theorem len_lt {a b : List Int} (ha : Dg a) (hb : Dg b) (hc : Can b) (h : a.length < b.length) : val a < val b := by
  have h1 := val_lt ha
  have h2 := can_ge (k := b.length - 1) hb hc (by omega)
  have h3 : (4294967296 : Int) ^ a.length ≤ 4294967296 ^ (b.length - 1) := by
    have : b.length - 1 = a.length + (b.length - 1 - a.length) := by omega
    rw [this, Int.pow_add]
    have h4 : (4294967296 : Int) ^ a.length * 1 ≤ 4294967296 ^ a.length * 4294967296 ^ (b.length - 1 - a.length) := Int.mul_le_mul_of_nonneg_left (by have := pow_pos' (b.length - 1 - a.length); omega) (Int.le_of_lt (pow_pos' _))
    omega
  omega
/-- CmpAbs. -/
theorem s67 (a b : List Int) (sa ea sb eb : Bool) (ha : Dg a) (hb : Dg b) (ca : Can a) (cb : Can b) (hna : a.length ≤ 1000) (hnb : b.length ≤ 1000) :
    Or (.call 65) [AV.t (T.ptr [tb sa, T.lst 1 ea (encD a)]), AV.t (T.ptr [tb sb, T.lst 1 eb (encD b)])] [] = some [ti (cmp3 (val a) (val b))] := by
  refine orc_of ?_
  rw [e67]
  by_cases hl : (a.length : Int) = (b.length : Int)
  · have := n67 a b sa ea sb eb ha hb (by omega) hna a.length _ rfl (Nat.le_refl _)
    rw [List.take_length, show b.take a.length = b from List.take_of_length_le (by omega)] at this
    have hw : IntKind.i64.wrap ((a.length : Int) - 1) = (a.length : Int) - 1 := wr (by omega)
    simp only [encD_len, hw]
    simp only [gd1, hd1, tl1, dr0, dr1, dr2, dr3, dr4, dr5, dr6, bo1, in1, st1, ls1, le1, pt1, fi1, fb1, fs1, ct1, cf1, nt1, nf1, ak0, akT, akF, cdec, cndec, cbeq, cnbeq, ↓reduceIte, beq_self_eq_true, Int.reduceBEq, Int.reduceEq, Bool.and_true, Bool.true_and, Bool.false_and, Bool.and_false, hl]
    rw [hl] at this
    exact this
  · by_cases hlt : (a.length : Int) < (b.length : Int)
    · have := len_lt ha hb cb (by omega)
      simp only [gd1, hd1, tl1, dr0, dr1, dr2, dr3, dr4, dr5, dr6, bo1, in1, st1, ls1, le1, pt1, fi1, fb1, fs1, ct1, cf1, nt1, nf1, ak0, akT, akF, cdec, cndec, cbeq, cnbeq, ↓reduceIte, beq_self_eq_true, Int.reduceBEq, Int.reduceEq, Bool.and_true, Bool.true_and, Bool.false_and, Bool.and_false, encD_len, hl, hlt]
      unfold cmp3
      rw [if_pos this]
    · have := len_lt hb ha ca (by omega)
      simp only [gd1, hd1, tl1, dr0, dr1, dr2, dr3, dr4, dr5, dr6, bo1, in1, st1, ls1, le1, pt1, fi1, fb1, fs1, ct1, cf1, nt1, nf1, ak0, akT, akF, cdec, cndec, cbeq, cnbeq, ↓reduceIte, beq_self_eq_true, Int.reduceBEq, Int.reduceEq, Bool.and_true, Bool.true_and, Bool.false_and, Bool.and_false, encD_len, hl, hlt]
      unfold cmp3
      rw [if_neg (by omega), if_neg (by omega)]
/-! ### Differences -/
def bor (v : Int) : Int := if v < 0 then 1 else 0
def lessL : List Int → List Int → Int → List Int
  | [], _, _ => []
  | a :: x, [], c => ((a - c) % 4294967296) :: lessL x [] (bor (a - c))
  | a :: x, b :: y, c => ((a - c - b) % 4294967296) :: lessL x y (bor (a - c - b))
theorem lessL_val : ∀ {x y : List Int} {c : Int}, Dg x → Dg y → y.length ≤ x.length → 0 ≤ c ∧ c ≤ 1 → val y + c ≤ val x → val (lessL x y c) = val x - val y - c
  | [], [], c, _, _, _, hc, h => by simp [lessL, val] at h ⊢; omega
  | [], b :: y, c, _, _, h, _, _ => by simp at h
  | a :: x, [], c, hx, hy, hl, hc, h => by
    have h1 := hx a List.mem_cons_self
    simp only [val] at h
    have := lessL_val (x := x) (y := []) (c := bor (a - c)) hx.tail hy (by simp) (by unfold bor; split <;> omega) (by simp only [val]; unfold bor; split <;> omega)
    simp only [lessL, val] at this ⊢
    rw [this]
    unfold bor
    split <;> omega
  | a :: x, b :: y, c, hx, hy, hl, hc, h => by
    have h1 := hx a List.mem_cons_self
    have h2 := hy b List.mem_cons_self
    simp only [val] at h
    have := lessL_val (x := x) (y := y) (c := bor (a - c - b)) hx.tail hy.tail (by simpa using hl) (by unfold bor; split <;> omega) (by unfold bor; split <;> omega)
    simp only [lessL, val] at this ⊢
    rw [this]
    unfold bor
    split <;> omega
theorem lessL_dg : ∀ {x y : List Int} {c : Int}, Dg (lessL x y c)
  | [], _, c => by intro a ha; simp [lessL] at ha
  | a :: x, [], c => by
    intro u hu
    simp only [lessL] at hu
    rcases List.mem_cons.1 hu with rfl | hu
    · omega
    · exact lessL_dg u hu
  | a :: x, b :: y, c => by
    intro u hu
    simp only [lessL] at hu
    rcases List.mem_cons.1 hu with rfl | hu
    · omega
    · exact lessL_dg u hu
theorem lessL_len : ∀ {x y : List Int} {c : Int}, (lessL x y c).length = x.length
  | [], _, c => rfl
  | a :: x, [], c => by simp [lessL, lessL_len]
  | a :: x, b :: y, c => by simp [lessL, lessL_len]
theorem fd63 {v : Int} (h : -1000000000000 ≤ v ∧ v ≤ 1000000000000) : (IntKind.u64.wrap v).fdiv ((2 : Int) ^ 63) = bor v := by
  rw [show ((2 : Int) ^ 63) = 9223372036854775808 from by decide, Int.fdiv_eq_ediv_of_nonneg _ (by omega), wr64]
  unfold bor
  split <;> omega
theorem wr3264 (v : Int) : IntKind.u32.wrap (IntKind.u64.wrap v) = v % 4294967296 := by rw [wr32, wr64]; omega
theorem ww64 (v b : Int) : IntKind.u64.wrap (IntKind.u64.wrap v - b) = IntKind.u64.wrap (v - b) := by simp only [wr64]; omega
theorem n68 (x y : List Int) (ex ey : Bool) (hx : Dg x) (hy : Dg y) (hn : x.length ≤ 1000) : ∀ (xr : List Int) (i : Nat) (c : Int) (done : List Int), x.drop i = xr → done.length = i → 0 ≤ c ∧ c ≤ 1 →
    Or K68n4 [lu ey y, o0, AV.t (T.int .u64 c), lu ex x, I (x.length : Int), I (i : Int)] [Blk.sl false 1 false (encD (done ++ List.replicate xr.length 0))] = some [T.lst 1 false (encD (done ++ lessL xr (y.drop i) c))] := by
  intro xr
  induction xr with
  | nil =>
    intro i c done h hd hc
    have hle := at_end h
    have h1 : ¬ (i : Int) < (x.length : Int) := by omega
    refine orc_of ?_
    rw [e68n4]
    simp only [gd1, hd1, tl1, dr0, dr1, dr2, dr3, dr4, dr5, dr6, bo1, in1, st1, ls1, le1, pt1, fi1, fb1, fs1, ct1, cf1, nt1, nf1, ak0, akT, akF, cdec, cndec, cbeq, cnbeq, ↓reduceIte, beq_self_eq_true, Int.reduceBEq, Int.reduceEq, Bool.and_true, Bool.true_and, Bool.false_and, Bool.and_false, h1]
    simp [lessL]
  | cons a xr ih =>
    intro i c done h hd hc
    obtain ⟨g1, g2, g3⟩ := at_drop h
    have h1 : (i : Int) < (x.length : Int) := by omega
    have h0 : 0 ≤ (i : Int) := by omega
    have ha := hx a (List.mem_of_getElem? g1)
    have hda := dat_of h
    have hcl : (i : Int) < ((done ++ List.replicate (a :: xr).length 0).length : Int) := by simp; omega
    have hset : ∀ v, storeIn (i : Int).toNat 0 [T.int .u32 v] (encD (done ++ List.replicate (a :: xr).length 0)) = some (encD ((done ++ [v]) ++ List.replicate xr.length 0)) := fun v => by
      rw [encD_set (by simp; omega), show done ++ List.replicate (a :: xr).length 0 = done ++ 0 :: List.replicate xr.length 0 from rfl, set_mid done 0 v _ i hd]
      simp
    have hw1 : IntKind.u64.wrap a = a := w64 (by omega)
    refine orc_of ?_
    rw [e68n4]
    cases hyr : y.drop i with
    | nil =>
      have hyl := at_end hyr
      have h2 : ¬ (i : Int) < (y.length : Int) := by omega
      have hy1 : y.drop (i + 1) = [] := by simp; omega
      have := ih (i + 1) (bor (a - c)) (done ++ [(a - c) % 4294967296]) g3 (by simp [hd]) (by unfold bor; split <;> omega)
      rw [hy1, show done ++ [(a - c) % 4294967296] ++ lessL xr [] (bor (a - c)) = done ++ lessL (a :: xr) [] c from by simp [lessL]] at this
      simp only [gd1, hd1, tl1, dr0, dr1, dr2, dr3, dr4, dr5, dr6, bo1, in1, st1, ls1, le1, pt1, fi1, fb1, fs1, ct1, cf1, nt1, nf1, ak0, akT, akF, cdec, cndec, cbeq, cnbeq, ↓reduceIte, beq_self_eq_true, Int.reduceBEq, Int.reduceEq, Bool.and_true, Bool.true_and, Bool.false_and, Bool.and_false, h1, h0, and_self, encD_len, encD_at g2, hda, h2, hw1, hcl, wr3264, hset, fd63 (v := a - c) (by omega), next i (by omega)]
      exact this
    | cons b yr =>
      obtain ⟨k1, k2, k3⟩ := at_drop hyr
      have hb := hy b (List.mem_of_getElem? k1)
      have hdb := dat_of hyr
      have h2 : (i : Int) < (y.length : Int) := by omega
      have hw3 : IntKind.u64.wrap b = b := w64 (by omega)
      have := ih (i + 1) (bor (a - c - b)) (done ++ [(a - c - b) % 4294967296]) g3 (by simp [hd]) (by unfold bor; split <;> omega)
      rw [k3, show done ++ [(a - c - b) % 4294967296] ++ lessL xr yr (bor (a - c - b)) = done ++ lessL (a :: xr) (b :: yr) c from by simp [lessL]] at this
      simp only [gd1, hd1, tl1, dr0, dr1, dr2, dr3, dr4, dr5, dr6, bo1, in1, st1, ls1, le1, pt1, fi1, fb1, fs1, ct1, cf1, nt1, nf1, ak0, akT, akF, cdec, cndec, cbeq, cnbeq, ↓reduceIte, beq_self_eq_true, Int.reduceBEq, Int.reduceEq, Bool.and_true, Bool.true_and, Bool.false_and, Bool.and_false, h1, h0, and_self, encD_len, encD_at g2, encD_at k2, hda, hdb, h2, hw1, hw3, ww64, hcl, wr3264, hset, fd63 (v := a - c - b) (by omega), next i (by omega)]
      exact this
/-- The difference of two lists of digits, of which the second is no more. -/
theorem s68 (x y : List Int) (ex ey : Bool) (hx : Dg x) (hy : Dg y) (hl : y.length ≤ x.length) (hv : val y ≤ val x) (hn : x.length ≤ 900) : ∃ d, Or (.call 106) [lu ex x, lu ey y] [] = some [T.lst 1 false (encD d)] ∧ Dg d ∧ val d = val x - val y ∧ d.length = x.length := by
  have h1 := n68 x y ex ey hx hy (by omega) x 0 0 [] rfl rfl (by omega)
  refine ⟨lessL x y 0, orc_of ?_, lessL_dg, by rw [lessL_val hx hy hl (by omega) (by omega)]; omega, lessL_len⟩
  have hmk : mkOk (x.length : Int) (x.length : Int) = some () := by unfold mkOk lim; rw [if_pos (by omega)]
  have he : encD ([] ++ List.replicate x.length 0) = List.replicate x.length [T.int IntKind.u32 0] := by simp [encD]
  rw [he] at h1
  rw [e68]
  simp only [gd1, hd1, tl1, dr0, dr1, dr2, dr3, dr4, dr5, dr6, bo1, in1, st1, ls1, le1, pt1, fi1, fb1, fs1, ct1, cf1, nt1, nf1, ak0, akT, akF, cdec, cndec, cbeq, cnbeq, ↓reduceIte, beq_self_eq_true, Int.reduceBEq, Int.reduceEq, Bool.and_true, Bool.true_and, Bool.false_and, Bool.and_false, encD_len, hmk, Int.toNat_natCast]
  exact h1
end Go.Aev.Wd
