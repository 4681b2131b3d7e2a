/-
  A closed fact of spans.
-/
import Derived.Test.YteigjcdcmgjdeaaSSpec
set_option linter.unusedSimpArgs false
set_option linter.unusedVariables false
namespace Go.Aev.Gen
open Go Go.Aev
theorem s9 : Or (.call 9) [] [] = some [tb true] := orc_of_N (n := 400) (by kernel_rfl)
end Go.Aev.Gen
