/-
  HeapSays, for arguments as a row reads them.
-/
import Derived.Test.YtcjfkgkobblonaaHSay
import Derived.Test.YtcjfkgkobblonaaHArg
set_option linter.unusedSimpArgs false
set_option linter.unusedVariables false
namespace Go.Aev.Gen
open Go Go.Aev Go.Aev.Hp Go.Proofs
set_option maxRecDepth 1000000
theorem claim5 (vs : List AV) (h : ArgWt PROG (19 + 1) Try.f5.params.toList vs) : Or (.call 5) vs [] = some [.bool true] := by
  rw [Try.params5] at h
  obtain ⟨a, _, rfl, h1, b, _, rfl, h2, c, _, rfl, h3, d, _, rfl, h4, e, _, rfl, h5, rfl⟩ := h
  obtain ⟨e1, f1, x, rfl⟩ := heap_arg h1
  obtain ⟨e2, f2, y, rfl⟩ := heap_arg h2
  obtain ⟨n, rfl⟩ := int_arg h3
  obtain ⟨g, hs, rfl⟩ := bools_arg h4
  obtain ⟨d, rfl⟩ := int_arg h5
  exact law5 e1 f1 e2 f2 g x y n d hs
end Go.Aev.Gen
