/-
  Bits of sets and of assignments.
-/
import Derived.Test.YtmpjdngpblfecaaYBase
set_option linter.unusedSimpArgs false
set_option linter.unusedVariables false
namespace Go.Aev.Gen
open Go Go.Aev

theorem toN (i : Nat) : ((i : Nat) : Int).toNat = i := by omega
/-- The set without one. -/
def clr (s i : Nat) : Nat := (BitVec.ofNat 64 s &&& ~~~BitVec.ofNat 64 (2 ^ i)).toNat
set_option maxRecDepth 100000 in
theorem bit_all : ∀ s < 256, ∀ i < 8, IntKind.i64.wrap (((BitVec.ofInt 64 (((s : Nat) : Int).fdiv ((2 : Int) ^ min ((i : Nat) : Int).toNat 64)) &&& BitVec.ofInt 64 (1 : Int)).toNat : Nat) : Int) = if s.testBit i then 1 else 0 := by decide +kernel
set_option maxRecDepth 100000 in
theorem clr_all : ∀ s < 256, ∀ i < 8, IntKind.i64.wrap (((BitVec.ofInt 64 ((s : Nat) : Int) &&& ~~~BitVec.ofInt 64 (IntKind.i64.wrap ((1 : Int) * (2 : Int) ^ min ((i : Nat) : Int).toNat 64))).toNat : Nat) : Int) = ((clr s i : Nat) : Int) := by decide +kernel
set_option maxRecDepth 100000 in
theorem clr_lt : ∀ s < 256, ∀ i < 8, s.testBit i = true → clr s i < s := by decide +kernel
set_option maxRecDepth 100000 in
theorem clr_bit : ∀ s < 256, ∀ i < 8, ∀ j < 8, (clr s i).testBit j = (s.testBit j && !(i == j)) := by decide +kernel
/-! ### Words -/
theorem orN {m p : Nat} (hm : m < 2 ^ 64) (hp : p < 2 ^ 64) : (BitVec.ofInt 64 ((m : Nat) : Int) ||| BitVec.ofInt 64 ((p : Nat) : Int)).toNat = m ||| p := by
  rw [BitVec.ofInt_natCast, BitVec.ofInt_natCast, BitVec.toNat_or, BitVec.toNat_ofNat, BitVec.toNat_ofNat, Nat.mod_eq_of_lt hm, Nat.mod_eq_of_lt hp]
theorem andN {m p : Nat} (hm : m < 2 ^ 64) (hp : p < 2 ^ 64) : (BitVec.ofInt 64 ((m : Nat) : Int) &&& BitVec.ofInt 64 ((p : Nat) : Int)).toNat = m &&& p := by
  rw [BitVec.ofInt_natCast, BitVec.ofInt_natCast, BitVec.toNat_and, BitVec.toNat_ofNat, BitVec.toNat_ofNat, Nat.mod_eq_of_lt hm, Nat.mod_eq_of_lt hp]
theorem wrU {m : Nat} (h : m < 2 ^ 64) : IntKind.u64.wrap ((m : Nat) : Int) = ((m : Nat) : Int) := by
  have h' : ((m : Nat) : Int) < 18446744073709551616 := by
    have : (2 : Nat) ^ 64 = 18446744073709551616 := by decide
    omega
  simp only [IntKind.wrap, IntKind.signed, IntKind.bits]
  first
    | (rw [if_neg (by decide)]; omega)
    | (simp; omega)
/-- The word of a clause: a bit for each assignment under which it holds. -/
def mk (f : Nat → Bool) : Nat → Nat
  | 0 => 0
  | k + 1 => if f k then mk f k ||| 2 ^ k else mk f k
theorem mk_lt (f : Nat → Bool) : ∀ k, mk f k < 2 ^ k
  | 0 => by show 0 < 1; omega
  | k + 1 => by
    have ih := mk_lt f k
    have h2 : 2 ^ k < 2 ^ (k + 1) := Nat.pow_lt_pow_right (by decide) (by omega)
    rw [mk]
    split
    · exact Nat.or_lt_two_pow (by omega) h2
    · omega
theorem mk_bit (f : Nat → Bool) (j : Nat) : ∀ k, (mk f k).testBit j = (decide (j < k) && f j)
  | 0 => by simp [mk]
  | k + 1 => by
    have ih := mk_bit f j k
    rw [mk]
    by_cases e : j = k
    · subst e
      have : ¬ j < j := by omega
      simp only [this, decide_false, Bool.false_and] at ih
      split
      · rename_i hf
        simp [hf]
      · rename_i hf
        rw [ih]
        have : f j = false := by simpa using hf
        simp [this]
    · have h1 : (j < k + 1) ↔ (j < k) := by omega
      split
      · rw [Nat.testBit_or, ih, Nat.testBit_two_pow]
        have : ¬ k = j := fun h => e h.symm
        simp [this, h1]
      · rw [ih]; simp [h1]
/-- What some words have in common. -/
def andF (inn : Nat → Bool) : List Nat → Nat → Nat → Nat
  | [], _, x => x
  | w :: ws, i, x => andF inn ws (i + 1) (if inn i then x &&& w else x)
theorem andF_bit (inn : Nat → Bool) (j : Nat) : ∀ (ws : List Nat) (i x : Nat), (andF inn ws i x).testBit j = (x.testBit j && (List.range ws.length).all fun k => !inn (i + k) || (ws.getD k 0).testBit j)
  | [], i, x => by simp [andF]
  | w :: ws, i, x => by
    rw [andF, andF_bit inn j ws (i + 1), List.length_cons, List.range_succ_eq_map, List.all_cons, List.all_map]
    have e : (fun k => !inn (i + 1 + k) || (ws.getD k 0).testBit j) = ((fun k => !inn (i + k) || ((w :: ws).getD k 0).testBit j) ∘ Nat.succ) := by
      funext k
      simp only [Function.comp, Nat.succ_eq_add_one, List.getD_cons_succ]
      rw [show i + 1 + k = i + (k + 1) by omega]
    rw [e, ← Bool.and_assoc]
    congr 1
    rw [Nat.add_zero, List.getD_cons_zero]
    cases inn i
    · simp
    · simp [Nat.testBit_and]
theorem andF_le (inn : Nat → Bool) : ∀ (ws : List Nat) (i x : Nat), andF inn ws i x ≤ x
  | [], _, x => Nat.le_refl x
  | w :: ws, i, x => by
    rw [andF]
    refine Nat.le_trans (andF_le inn ws (i + 1) _) ?_
    split
    · exact Nat.and_le_left
    · exact Nat.le_refl x
/-- Do some clauses hold together? -/
def opB (v : Nat) (ws : List Nat) (inn : Nat → Bool) : Bool := andF inn ws 0 (2 ^ 2 ^ v - 1) != 0
theorem opB_iff (v : Nat) (ws : List Nat) (inn : Nat → Bool) : opB v ws inn = true ↔ ∃ j, j < 2 ^ v ∧ ∀ k, k < ws.length → inn k = true → (ws.getD k 0).testBit j = true := by
  have hb := fun j => andF_bit inn j ws 0 (2 ^ 2 ^ v - 1)
  unfold opB
  generalize andF inn ws 0 (2 ^ 2 ^ v - 1) = x at hb
  simp only [Nat.testBit_two_pow_sub_one, Nat.zero_add] at hb
  constructor
  · intro h
    have h0 : x ≠ 0 := by simpa using h
    obtain ⟨j, hj⟩ := Nat.exists_testBit_of_ne_zero h0
    rw [hb j] at hj
    simp only [Bool.and_eq_true, decide_eq_true_eq, List.all_eq_true, List.mem_range, Bool.or_eq_true, Bool.not_eq_true'] at hj
    refine ⟨j, hj.1, fun k hk hi => ?_⟩
    rcases hj.2 k hk with h' | h'
    · rw [hi] at h'; cases h'
    · exact h'
  · rintro ⟨j, hj, h⟩
    have : x.testBit j = true := by
      rw [hb j]
      simp only [Bool.and_eq_true, decide_eq_true_eq, List.all_eq_true, List.mem_range, Bool.or_eq_true, Bool.not_eq_true']
      refine ⟨hj, fun k hk => ?_⟩
      cases hi : inn k with
      | false => exact .inl rfl
      | true => exact .inr (h k hk hi)
    have h0 : x ≠ 0 := fun e => by rw [e, Nat.zero_testBit] at this; cases this
    simpa using h0
/-! ### Least sets -/
def minB (n : Nat) (f : Nat → Bool) (s : Nat) : Bool := f s && (List.range n).all fun i => !s.testBit i || !f (clr s i)
def bitsL (n s : Nat) : List Int := ((List.range n).filter fun i => s.testBit i).map fun i => ((i : Nat) : Int)
def lstF (n : Nat) (f : Nat → Bool) : List (List Int) := ((List.range (2 ^ n)).filter (minB n f)).map (bitsL n)
end Go.Aev.Gen
