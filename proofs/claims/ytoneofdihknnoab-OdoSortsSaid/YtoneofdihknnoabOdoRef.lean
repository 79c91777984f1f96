/- The document's numbers: far, down, up, Whole, Between. -/
import Derived.Test.YtoneofdihknnoabOdoBetween
set_option linter.unusedSimpArgs false
set_option linter.unusedVariables false
namespace Go.Proofs.Ytoneofdihknnoab
open Go.RowKit Ieee

end Go.Proofs.Ytoneofdihknnoab
