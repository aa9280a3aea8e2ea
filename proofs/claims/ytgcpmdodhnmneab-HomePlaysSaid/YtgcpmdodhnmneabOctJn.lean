import Derived.Test.YtgcpmdodhnmneabOct
/- The contracts of slices.Grow (of nil), slices.Concat, octet.Join. -/
set_option linter.unusedVariables false
set_option linter.unusedSimpArgs false
namespace Go.Proofs.Ytgcpmdodhnmneab
open Go.RowKit Go.Tm
set_option maxHeartbeats 400000
set_option maxRecDepth 100000
end Go.Proofs.Ytgcpmdodhnmneab
