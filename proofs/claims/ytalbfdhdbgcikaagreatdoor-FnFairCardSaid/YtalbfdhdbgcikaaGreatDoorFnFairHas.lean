import Derived.Test.YtalbfdhdbgcikaaGreatDoorFnFairP9
import Derived.Test.YtalbfdhdbgcikaaGreatDoorAmRead
set_option linter.unusedSimpArgs false
set_option linter.unusedVariables false
set_option linter.unusedSectionVars false
set_option maxRecDepth 100000
namespace Go.Proofs.Wb
open Go Go.Am
end Go.Proofs.Wb
