/-
  Steps that simp takes as steps, not as computations; numbers of 64 bits. No program is named here.
-/
import Derived.Test.YtmpjdngpblfecaaAevGlue
set_option linter.unusedSimpArgs false
set_option linter.unusedVariables false
namespace Go.Aev
open Go

abbrev I (n : Int) : AV := .t (.int .i64 n)
abbrev B (b : Bool) : AV := .t (.bool b)

theorem gd1 {α R : Type} [Inhabited α] (c : Option Bool) (a : α) (k : α → Option R) : gdK c (some a) k = k a := by cases c <;> rfl
theorem gdF {α R : Type} [Inhabited α] (m : Option α) (k : α → Option R) : gdK (some false) m k = k (m.getD default) := by cases m <;> rfl
theorem hd1 {α : Type} (x : α) (l : List α) : (x :: l).head? = some x := by cases l <;> rfl
theorem tl1 {α : Type} (x : α) (l : List α) : (x :: l).tail = l := by cases l <;> rfl
theorem dr0 {α : Type} (l : List α) : l.drop 0 = l := by cases l <;> rfl
theorem dr1 {α : Type} (x : α) (l : List α) : (x :: l).drop 1 = l := by cases l <;> rfl
theorem dr2 {α : Type} (x y : α) (l : List α) : (x :: y :: l).drop 2 = l := by cases l <;> rfl
theorem dr3 {α : Type} (x y z : α) (l : List α) : (x :: y :: z :: l).drop 3 = l := by cases l <;> rfl
theorem dr4 {α : Type} (x y z u : α) (l : List α) : (x :: y :: z :: u :: l).drop 4 = l := by cases l <;> rfl
theorem dr5 {α : Type} (x y z u v : α) (l : List α) : (x :: y :: z :: u :: v :: l).drop 5 = l := by cases l <;> rfl
theorem dr6 {α : Type} (x y z u v t : α) (l : List α) : (x :: y :: z :: u :: v :: t :: l).drop 6 = l := by cases l <;> rfl
theorem bo1 (b : Bool) : (T.bool b).bool? = some b := by cases b <;> rfl
theorem in1 (k : IntKind) (n : Int) : (T.int k n).int? k = some n := by cases k <;> simp [T.int?]
theorem st1 (s : ByteArray) : (T.str s).str? = some s := by cases s; rfl
theorem ls1 (sz : Nat) (b : Bool) (l : List (List T)) : (T.lst sz b l).lst? sz = some (b, l) := by cases b <;> simp [T.lst?]
theorem le1 (sz : Nat) (b : Bool) : (T.emp b).lst? sz = some (b, []) := by cases b <;> rfl
theorem pt1 (l : List T) : (T.ptr l).ptr? = some l := by cases l <;> rfl
theorem fi1 (k : IntKind) (n : Int) : (T.int k n).flat? = some () := by cases k <;> rfl
theorem fb1 (b : Bool) : (T.bool b).flat? = some () := by cases b <;> rfl
theorem fs1 (b : ByteArray) : (T.str b).flat? = some () := by cases b; rfl
theorem ct1 {α : Type} (a b : α) : cond true a b = a := by simp
theorem cf1 {α : Type} (a b : α) : cond false a b = b := by simp
theorem nt1 : (!true) = false := by decide
theorem nf1 : (!false) = true := by decide
theorem ak0 (m : Option (List T)) : askO none m = m := by cases m <;> rfl
theorem akT (m : Option (List T)) : askO (some true) m = m := by cases m <;> rfl
theorem akF (m : Option (List T)) : askO (some false) m = some [] := by cases m <;> rfl
theorem cdec {α : Type} (p : Prop) [Decidable p] (a b : α) : (bif decide p then a else b) = if p then a else b := by by_cases h : p <;> simp [h]
theorem cndec {α : Type} (p : Prop) [Decidable p] (a b : α) : (bif !decide p then a else b) = if p then b else a := by by_cases h : p <;> simp [h]
theorem cbeq {α : Type} (m n : Int) (a b : α) : (bif m == n then a else b) = if m = n then a else b := by
  by_cases h : m = n
  · simp [h]
  · have : (m == n) = false := by simpa using h
    simp [h, this]
theorem cnbeq {α : Type} (m n : Int) (a b : α) : (bif !m == n then a else b) = if m = n then b else a := by
  by_cases h : m = n
  · simp [h]
  · have : (m == n) = false := by simpa using h
    simp [h, this]
theorem cand (a b : Bool) : (bif a then b else false) = (a && b) := by cases a <;> simp
theorem cor (a b : Bool) : (bif a then true else b) = (a || b) := by cases a <;> simp
theorem guardI {R : Type} {p : Prop} [Decidable p] (h : p) (k : Unit → Option R) : gdK none (if p then some () else none) k = k () := by rw [if_pos h]; rfl
theorem guardN {R : Type} {p : Prop} [Decidable p] (h : ¬ p) (k : Unit → Option R) : gdK none (if p then none else some ()) k = k () := by rw [if_neg h]; rfl

theorem wr {v : Int} (h : -9223372036854775808 ≤ v ∧ v < 9223372036854775808) : IntKind.i64.wrap v = v := by
  simp [IntKind.wrap, IntKind.signed, IntKind.bits]
  omega
theorem wr_lo (v : Int) : -9223372036854775808 ≤ IntKind.i64.wrap v := by
  simp [IntKind.wrap, IntKind.signed, IntKind.bits]
  omega
theorem wr_hi (v : Int) : IntKind.i64.wrap v < 9223372036854775808 := by
  simp [IntKind.wrap, IntKind.signed, IntKind.bits]
  omega
end Go.Aev
