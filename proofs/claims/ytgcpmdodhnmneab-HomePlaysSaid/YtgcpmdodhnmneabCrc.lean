import Derived.Test.YtgcpmdodhnmneabProg
import Derived.Test.YtgcpmdodhnmneabLib
import Derived.Test.YtgcpmdodhnmneabCrcPure
import Derived.Test.YtgcpmdodhnmneabOct
/- The contracts of package crc, and of the document's answer for layer 2. -/
set_option linter.unusedVariables false
set_option linter.unusedSimpArgs false
namespace Go.Proofs.Ytgcpmdodhnmneab
open Go.RowKit Go.Tm
set_option maxHeartbeats 400000
set_option maxRecDepth 100000

theorem crcL_take (s : Nat) (l : List UInt8) (k : Nat) (h : k < l.length) : crcL s (l.take (k + 1)) = crcB (crcL s (l.take k)) (l.getD k 0) := by
  rw [List.take_succ_eq_append_getElem h, crcL_snoc]
  simp [List.getD, List.getElem?_eq_getElem h]
end Go.Proofs.Ytgcpmdodhnmneab
