/-
  The closed fact of away's laws.
-/
import Derived.Test.YtobpninhnmmpeaaGreatZBase
import Derived.Test.YtobpninhnmmpeaaGreatAevFix
set_option linter.unusedSimpArgs false
set_option linter.unusedVariables false
namespace Go.Aev.Gen
open Go Go.Aev
theorem s11 : Or (.call 11) [] [] = some [tb true] := orc_of_N (n := 60) (by kernel_rfl)
end Go.Aev.Gen
