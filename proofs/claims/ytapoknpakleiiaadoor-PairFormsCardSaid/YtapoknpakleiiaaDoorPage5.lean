import Derived.Test.YtapoknpakleiiaaDoorPage4
import Derived.Test.YtapoknpakleiiaaDoorPage3
/- The contracts of package page, on: Fill. -/
set_option linter.unusedVariables false
set_option linter.unusedSimpArgs false
namespace Go.Proofs.YtapoknpakleiiaaDoor
open Go.RowKit Go.Tm
set_option maxHeartbeats 400000
set_option maxRecDepth 100000
attribute [local go_sem ↓] Go.wp_at_zero Go.wp_at_succ
end Go.Proofs.YtapoknpakleiiaaDoor
