/- The types of the laws and their helper functions. -/
import Derived.Test.YtfjieglppmcelaaFnSealsCodes
import Derived.Test.YtfjieglppmcelaaAmFz
set_option linter.unusedSimpArgs false
set_option linter.unusedVariables false
set_option linter.unusedSectionVars false
namespace Go.Proofs.Wb
open Go Go.Am

end Go.Proofs.Wb
