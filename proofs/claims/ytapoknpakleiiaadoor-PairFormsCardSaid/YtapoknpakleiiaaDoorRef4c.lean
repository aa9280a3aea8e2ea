import Derived.Test.YtapoknpakleiiaaDoorRef4b
/- The contracts of the document's answer for layer 4, on. -/
set_option linter.unusedVariables false
set_option linter.unusedSimpArgs false
namespace Go.Proofs.YtapoknpakleiiaaDoor
open Go.RowKit Go.Tm
set_option maxHeartbeats 400000
set_option maxRecDepth 100000

end Go.Proofs.YtapoknpakleiiaaDoor
