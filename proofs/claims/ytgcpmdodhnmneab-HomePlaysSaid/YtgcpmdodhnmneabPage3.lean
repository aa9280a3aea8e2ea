import Derived.Test.YtgcpmdodhnmneabPage2
/- The contracts of package page, on: Make, Stamp, Check. -/
set_option linter.unusedVariables false
set_option linter.unusedSimpArgs false
namespace Go.Proofs.Ytgcpmdodhnmneab
open Go.RowKit Go.Tm
set_option maxHeartbeats 400000
set_option maxRecDepth 100000


end Go.Proofs.Ytgcpmdodhnmneab
