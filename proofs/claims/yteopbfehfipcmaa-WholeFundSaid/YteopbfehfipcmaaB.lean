/- Contracts of a state's methods. -/
import Derived.Test.YteopbfehfipcmaaA
import Derived.Deep.QuietTactic
import Derived.BigQuiet
namespace Go.Proofs.Yteopbfehfipcmaa
set_option linter.unusedSimpArgs false
set_option linter.unusedVariables false
open Go.RowKit

end Go.Proofs.Yteopbfehfipcmaa
