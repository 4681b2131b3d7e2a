/-
  The laws of words, for arguments as a row reads them.
-/
import Derived.Test.YtldfekaodgfgmaaWLaw
import Derived.Test.YtldfekaodgfgmaaAevFrame
set_option linter.unusedSimpArgs false
set_option linter.unusedVariables false
namespace Go.Aev.Gen
open Go Go.Aev Go.Proofs

set_option maxRecDepth 1000000 in
theorem int_arg {n : Nat} {a : AV} (h : (isAggT PROG 3 = true ∧ ∃ l, Wt PROG (n + 1) 3 l ∧ a = .agg (l.map .t)) ∨ (isAggT PROG 3 = false ∧ ∃ x, Wt PROG (n + 1) 3 [x] ∧ a = .t x)) : ∃ m, a = I m := by
  obtain ⟨x, h1, rfl⟩ := arg_one h (by kernel_rfl)
  have hu : PROG.underlying 3 = some (.int .i64) := Try.underlying3
  have h3 := @wt_int PROG n 3 [x] .i64 hu h1
  obtain ⟨m, h2, _⟩ := h3
  simp only [List.cons.injEq, and_true] at h2
  subst h2
  exact ⟨m, rfl⟩
set_option maxRecDepth 100000 in
theorem claim5 (vs : List AV) (h : ArgWt PROG (19 + 1) Try.f5.params.toList vs) : Or (.call 5) vs [] = some [.bool true] := by
  rw [Try.params5] at h
  obtain ⟨a, _, rfl, h1, b, _, rfl, h2, c, _, rfl, h3, d, _, rfl, h4, rfl⟩ := h
  obtain ⟨x, rfl⟩ := int_arg h1
  obtain ⟨y, rfl⟩ := int_arg h2
  obtain ⟨z, rfl⟩ := int_arg h3
  obtain ⟨w, rfl⟩ := int_arg h4
  exact law5 x y z w
set_option maxRecDepth 100000 in
theorem claim6 (vs : List AV) (h : ArgWt PROG (19 + 1) Try.f6.params.toList vs) : Or (.call 6) vs [] = some [.bool true] := by
  rw [Try.params6] at h
  obtain ⟨a, _, rfl, h1, b, _, rfl, h2, c, _, rfl, h3, rfl⟩ := h
  obtain ⟨x, rfl⟩ := int_arg h1
  obtain ⟨y, rfl⟩ := int_arg h2
  obtain ⟨z, rfl⟩ := int_arg h3
  exact law6 x y z
end Go.Aev.Gen
