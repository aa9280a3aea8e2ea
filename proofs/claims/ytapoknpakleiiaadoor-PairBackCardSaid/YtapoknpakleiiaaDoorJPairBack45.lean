import Derived.Test.YtapoknpakleiiaaDoorCards
import Derived.Test.YtapoknpakleiiaaDoorTie
import Derived.Test.YtapoknpakleiiaaDoorCrc
import Derived.Test.YtapoknpakleiiaaDoorRow
import Derived.OpenShut
import Derived.Deep.DeepHandedRow
import Derived.Lib.LaidTab
import Derived.Test.YtapoknpakleiiaaDoorCrcPure
/- What a row that lists the table of package crc gives, and a world that pays for its witness. -/
set_option linter.unusedVariables false
set_option linter.unusedSimpArgs false
namespace Go.Proofs.YtapoknpakleiiaaDoor
open Go.RowKit Go.Tm
set_option maxHeartbeats 400000

theorem gTab : Tryd.prog.globalNamed "tidemark/crc.table" = some 0 := by kernel_rfl
theorem gTabType : (Tryd.prog.globals[0]?).map (·.type) = some 144 := by kernel_rfl
theorem cellsTab : Tryd.prog.cellsOf 144 = 16 := by kernel_rfl
theorem cellsU32 : Tryd.prog.cellsOf 81 = 1 := by kernel_rfl
def tabI : List Int := tab.map fun (n : Nat) => (n : Int)
theorem tab_data : (Rows.laid_tidemark_crc_table : DataW Unit) = Lib.tabData .u32 tabI := by rfl
theorem tabI_at (i : Nat) (h : i < 16) : tabI.getD i 0 = ((tab.getD i 0 : Nat) : Int) := by
  have : ∀ i : Fin 16, tabI.getD i 0 = ((tab.getD i 0 : Nat) : Int) := by decide
  exact this ⟨i, h⟩
theorem tb_of {W : World} (h : laidMetH Tryd.prog [("tidemark/crc.table", Rows.laid_tidemark_crc_table)] W) : Tb W := by
  have h' : laidMetH Tryd.prog [("tidemark/crc.table", Lib.tabData .u32 tabI)] W := h
  have hT := Lib.tabIs_of_head (rest := []) gTab gTabType Tryd.underlying144 Tryd.underlying81 cellsU32 cellsTab h'
  refine ⟨fun i hi => ?_⟩
  rw [hT.cell gTab i (by show i < 16; exact hi), tabI_at i hi]

/-- The settled world, the table's block holding what its initialiser lays. -/
noncomputable def laidWorld (os : Os) : World :=
  { World.holding Tryd.prog os ⟨#[], #[], []⟩ with heap := (World.holding Tryd.prog os ⟨#[], #[], []⟩).heap.modify 0 fun
      | .cells _ t frozen => .cells (tabI.map fun z => Value.int .u32 z).toArray t frozen
      | o => o }
end Go.Proofs.YtapoknpakleiiaaDoor

/- The sum tells two lists apart that differ in one byte. -/
set_option linter.unusedVariables false
set_option linter.unusedSimpArgs false
namespace Go.Tm

theorem bit1_top (w : Nat) (h : w < 4294967296) : (bit1 w).testBit 31 = decide (w % 2 = 1) := by
  have h2 : (w / 2).testBit 31 = false := Nat.testBit_lt_two_pow (by omega)
  unfold bit1
  by_cases hw : w % 2 = 1
  · rw [if_pos hw, Nat.testBit_xor, h2, decide_eq_true hw]
    decide
  · rw [if_neg hw, h2, decide_eq_false hw]
theorem xor_cancel {a b c : Nat} (h : a ^^^ c = b ^^^ c) : a = b := by
  have := congrArg (· ^^^ c) h
  simpa [Nat.xor_assoc] using this
theorem bit1_inj {a b : Nat} (ha : a < 4294967296) (hb : b < 4294967296) (h : bit1 a = bit1 b) : a = b := by
  have t := congrArg (fun x => x.testBit 31) h
  simp only [bit1_top a ha, bit1_top b hb] at t
  unfold bit1 at h
  by_cases h1 : a % 2 = 1 <;> by_cases h2 : b % 2 = 1
  · rw [if_pos h1, if_pos h2] at h
    have := xor_cancel h
    omega
  · simp [h1, h2] at t
  · simp [h1, h2] at t
  · rw [if_neg h1, if_neg h2] at h
    omega
theorem bitN_inj : ∀ (k a b : Nat), a < 4294967296 → b < 4294967296 → bitN k a = bitN k b → a = b
  | 0, _, _, _, _, h => h
  | k + 1, a, b, ha, hb, h => bitN_inj k a b ha hb (bit1_inj (bitN_lt k a ha) (bitN_lt k b hb) h)
theorem crcB_inj {a b : Nat} {c d : UInt8} (ha : a < 4294967296) (hb : b < 4294967296) (h : crcB a c = crcB b d) : a ^^^ c.toNat = b ^^^ d.toNat := by
  unfold crcB at h
  rw [← bitN_8, ← bitN_8] at h
  exact bitN_inj 8 _ _ (xor_lt32 ha (by have := c.toNat_lt; omega)) (xor_lt32 hb (by have := d.toNat_lt; omega)) h
theorem crcL_inj : ∀ (l : List UInt8) (a b : Nat), a < 4294967296 → b < 4294967296 → crcL a l = crcL b l → a = b
  | [], _, _, _, _, h => h
  | c :: l, a, b, ha, hb, h => xor_cancel (crcB_inj ha hb (crcL_inj l (crcB a c) (crcB b c) (crcB_lt a c ha) (crcB_lt b c hb) h))
theorem crcM_one (l m : List UInt8) (a b : UInt8) (h : crcM 0 (l ++ a :: m) = crcM 0 (l ++ b :: m)) : a = b := by
  unfold crcM at h
  rw [Nat.xor_comm, Nat.xor_comm 4294967295 (crcL _ (l ++ b :: m))] at h
  have h := xor_cancel h
  rw [crcL_append, crcL_append] at h
  have hs : crcL (4294967295 ^^^ 0) l < 4294967296 := crcL_lt l _ (by decide)
  have h2 := crcL_inj m _ _ (crcB_lt _ a hs) (crcB_lt _ b hs) h
  have h3 := crcB_inj hs hs h2
  rw [Nat.xor_comm, Nat.xor_comm _ b.toNat] at h3
  exact UInt8.toNat_inj.1 (xor_cancel h3)
end Go.Tm
