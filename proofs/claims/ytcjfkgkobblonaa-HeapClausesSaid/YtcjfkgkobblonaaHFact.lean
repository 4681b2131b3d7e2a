/-
  heapFact: a closed fact.
-/
import Derived.Test.YtcjfkgkobblonaaHBase
set_option linter.unusedSimpArgs false
set_option linter.unusedVariables false
namespace Go.Aev.Gen
open Go Go.Aev
theorem fact8 : Or (.call 8) [] [] = some [T.bool true] := orc_of_N (n := 60) (by kernel_rfl)
end Go.Aev.Gen
