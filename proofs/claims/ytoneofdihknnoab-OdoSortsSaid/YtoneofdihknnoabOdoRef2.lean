/- The document's Whole and Between. -/
import Derived.Test.YtoneofdihknnoabOdoRef
set_option linter.unusedSimpArgs false
set_option linter.unusedVariables false
namespace Go.Proofs.Ytoneofdihknnoab
open Go.RowKit Ieee

end Go.Proofs.Ytoneofdihknnoab
