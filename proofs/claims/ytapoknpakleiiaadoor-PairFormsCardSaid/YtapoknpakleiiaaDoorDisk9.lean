import Derived.Test.YtapoknpakleiiaaDoorDisk8
import Derived.Test.YtapoknpakleiiaaDoorDiskMem3
/- The contracts of package disk: the log. -/
set_option linter.unusedVariables false
set_option linter.unusedSimpArgs false
namespace Go.Proofs.YtapoknpakleiiaaDoor
open Go.RowKit Go.Tm
set_option maxHeartbeats 400000
set_option maxRecDepth 100000
attribute [local go_sem ↓] Go.wp_at_zero Go.wp_at_succ

theorem ActD.of_act0 {w w1 w2 : World} {χ : Col} {j p : Nat} {s : DSt} {q : DPl} (hD : DiskR w1 χ j p s q) (hK : KeptBut (fun k => k = p) w w1) (hb : Below w1.heap.size w1 w2) : ActD w w2 χ χ j p s :=
  ⟨⟨q, hD.below (Ext.refl _ _) hb⟩, (Touch.of_own hK (by rw [hD.col]) (Ext.refl _ _)).below (Ext.refl _ _) hb⟩
end Go.Proofs.YtapoknpakleiiaaDoor
