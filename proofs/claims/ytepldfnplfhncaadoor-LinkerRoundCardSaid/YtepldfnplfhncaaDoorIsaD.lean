/- The chapter's examples: ontimelaw04.awake returns true. -/
import Derived.Test.YtepldfnplfhncaaDoorIsaC
set_option linter.unusedVariables false
set_option linter.unusedSimpArgs false
namespace Go.Proofs.YtepldfnplfhncaaDoor
open Go.RowKit

end Go.Proofs.YtepldfnplfhncaaDoor
