import Derived.Test.YtapoknpakleiiaaDoorCards
import Derived.Test.YtapoknpakleiiaaDoorTie
import Derived.Test.YtapoknpakleiiaaDoorCrc
import Derived.Test.YtapoknpakleiiaaDoorRow
import Derived.OpenShut
import Derived.Deep.DeepHandedRow
import Derived.Lib.LaidTab
/- What a row that lists the table of package crc gives, and a world that pays for its witness. -/
set_option linter.unusedVariables false
set_option linter.unusedSimpArgs false
namespace Go.Proofs.YtapoknpakleiiaaDoor
open Go.RowKit Go.Tm
set_option maxHeartbeats 400000

theorem gTab : Tryd.prog.globalNamed "tidemark/crc.table" = some 0 := by kernel_rfl
theorem gTabType : (Tryd.prog.globals[0]?).map (·.type) = some 144 := by kernel_rfl
theorem cellsTab : Tryd.prog.cellsOf 144 = 16 := by kernel_rfl
theorem cellsU32 : Tryd.prog.cellsOf 81 = 1 := by kernel_rfl
def tabI : List Int := tab.map fun (n : Nat) => (n : Int)
theorem tab_data : (Rows.laid_tidemark_crc_table : DataW Unit) = Lib.tabData .u32 tabI := by rfl
theorem tabI_at (i : Nat) (h : i < 16) : tabI.getD i 0 = ((tab.getD i 0 : Nat) : Int) := by
  have : ∀ i : Fin 16, tabI.getD i 0 = ((tab.getD i 0 : Nat) : Int) := by decide
  exact this ⟨i, h⟩
theorem tb_of {W : World} (h : laidMetH Tryd.prog [("tidemark/crc.table", Rows.laid_tidemark_crc_table)] W) : Tb W := by
  have h' : laidMetH Tryd.prog [("tidemark/crc.table", Lib.tabData .u32 tabI)] W := h
  have hT := Lib.tabIs_of_head (rest := []) gTab gTabType Tryd.underlying144 Tryd.underlying81 cellsU32 cellsTab h'
  refine ⟨fun i hi => ?_⟩
  rw [hT.cell gTab i (by show i < 16; exact hi), tabI_at i hi]

/-- The settled world, the table's block holding what its initialiser lays. -/
noncomputable def laidWorld (os : Os) : World :=
  { World.holding Tryd.prog os ⟨#[], #[], []⟩ with heap := (World.holding Tryd.prog os ⟨#[], #[], []⟩).heap.modify 0 fun
      | .cells _ t frozen => .cells (tabI.map fun z => Value.int .u32 z).toArray t frozen
      | o => o }
end Go.Proofs.YtapoknpakleiiaaDoor
