import Derived.Test.YticjdhgokemdlaaGreatMostTakesQ6
set_option linter.unusedSimpArgs false
set_option linter.unusedVariables false
namespace Go.Aev.Wd.Lg
open Go Go.Aev Go.Aev.Gen
end Go.Aev.Wd.Lg
