import Derived.Test.YtapoknpakleiiaaDoorCards
import Derived.Test.YtapoknpakleiiaaDoorTie
import Derived.Test.YtapoknpakleiiaaDoorCrc
import Derived.Test.YtapoknpakleiiaaDoorRow
import Derived.OpenShut
import Derived.Deep.DeepHandedRow
import Derived.Lib.LaidTab
import Derived.Test.YtapoknpakleiiaaDoorJPairTwice37
import Derived.Test.YtapoknpakleiiaaDoorJPairTwice39
/- What a row that lists the table of package crc gives, and a world that pays for its witness. -/
set_option linter.unusedVariables false
set_option linter.unusedSimpArgs false
namespace Go.Proofs.YtapoknpakleiiaaDoor
open Go.RowKit Go.Tm
set_option maxHeartbeats 400000

theorem gTab : Tryd.prog.globalNamed "tidemark/crc.table" = some 0 := by kernel_rfl
theorem gTabType : (Tryd.prog.globals[0]?).map (·.type) = some 144 := by kernel_rfl
theorem cellsTab : Tryd.prog.cellsOf 144 = 16 := by kernel_rfl
theorem cellsU32 : Tryd.prog.cellsOf 81 = 1 := by kernel_rfl
def tabI : List Int := tab.map fun (n : Nat) => (n : Int)
theorem tab_data : (Rows.laid_tidemark_crc_table : DataW Unit) = Lib.tabData .u32 tabI := by rfl
theorem tabI_at (i : Nat) (h : i < 16) : tabI.getD i 0 = ((tab.getD i 0 : Nat) : Int) := by
  have : ∀ i : Fin 16, tabI.getD i 0 = ((tab.getD i 0 : Nat) : Int) := by decide
  exact this ⟨i, h⟩
theorem tb_of {W : World} (h : laidMetH Tryd.prog [("tidemark/crc.table", Rows.laid_tidemark_crc_table)] W) : Tb W := by
  have h' : laidMetH Tryd.prog [("tidemark/crc.table", Lib.tabData .u32 tabI)] W := h
  have hT := Lib.tabIs_of_head (rest := []) gTab gTabType Tryd.underlying144 Tryd.underlying81 cellsU32 cellsTab h'
  refine ⟨fun i hi => ?_⟩
  rw [hT.cell gTab i (by show i < 16; exact hi), tabI_at i hi]

/-- The settled world, the table's block holding what its initialiser lays. -/
noncomputable def laidWorld (os : Os) : World :=
  { World.holding Tryd.prog os ⟨#[], #[], []⟩ with heap := (World.holding Tryd.prog os ⟨#[], #[], []⟩).heap.modify 0 fun
      | .cells _ t frozen => .cells (tabI.map fun z => Value.int .u32 z).toArray t frozen
      | o => o }
end Go.Proofs.YtapoknpakleiiaaDoor

/- The disk in memory: images, rows of ints. -/
set_option linter.unusedVariables false
set_option linter.unusedSimpArgs false
namespace Go.Proofs.YtapoknpakleiiaaDoor
open Go.RowKit Go.Tm
set_option maxHeartbeats 400000
set_option maxRecDepth 100000

def imgV (pages pair log m0 m1 : Value) : Value := .agg #[pages, pair, log, m0, m1]
/-- An image that a call has made. -/
structure ImgR (w : World) (χ : Col) (j : Nat) (v : Value) (P : Nat) (rows : List (List UInt8)) (log : List UInt8) (g : Nat) (vs : List Value) (lv : Value) : Prop where
  val : v = imgV (.slice (some ⟨g, 0, none⟩) P P) (vs.getD P undef) lv (vs.getD (P + 1) undef) (vs.getD (P + 2) undef)
  len : rows.length = P + 3
  ground : GroundK w χ j 100 g vs rows (P + 3)
  log : LogR w χ j lv log
def IsImg (w : World) (χ : Col) (j : Nat) (v : Value) (P : Nat) (rows : List (List UInt8)) (log : List UInt8) : Prop := ∃ g vs lv, ImgR w χ j v P rows log g vs lv
structure NewI (w w' : World) (χ χ' : Col) (j : Nat) (v : Value) (P : Nat) (rows : List (List UInt8)) (log : List UInt8) : Prop where
  img : IsImg w' χ' j v P rows log
  below : Below w.heap.size w w'
  ext : Ext w.heap.size χ χ'
  new : ∀ q, w.heap.size ≤ q → (χ' q).1 = j
/-- Rows of ints. -/
structure RdI (w : World) (A : Option Addr) (c : Nat) (l : List Int) : Prop where
  cap : l.length ≤ c
  max : c ≤ maxLen
  cells : 0 < l.length → ∃ b o, A = some ⟨b, o, none⟩ ∧ ∀ j, j < l.length → w.cell? ⟨b, o + j, none⟩ = some (.int .i64 (l.getD j 0))
theorem RdI.below {w w' : World} {A : Option Addr} {c : Nat} {l : List Int} (h : RdI w A c l) (hb : Below w.heap.size w w') : RdI w' A c l :=
  ⟨h.cap, h.max, fun hl => by
    obtain ⟨b, o, e, hc⟩ := h.cells hl
    refine ⟨b, o, e, fun j hj => ?_⟩
    have := hc j hj
    exact (hb.cell (p := ⟨b, o + j, none⟩) (World.block_lt_of_cell? _ _ this)).trans this⟩
end Go.Proofs.YtapoknpakleiiaaDoor

/- The contracts of package disk: images. -/
set_option linter.unusedVariables false
set_option linter.unusedSimpArgs false
namespace Go.Proofs.YtapoknpakleiiaaDoor
open Go.RowKit Go.Tm
set_option maxHeartbeats 400000
set_option maxRecDepth 100000
attribute [local go_sem ↓] Go.wp_at_zero Go.wp_at_succ

theorem cell_far1 {W : World} {b g o i : Nat} {v : Value} (h : g ≠ b) : (W.setCell ⟨b, i, none⟩ v).cell? ⟨g, o, none⟩ = W.cell? ⟨g, o, none⟩ := World.cell?_of_block (Below.heap_setCell _ _ _ _ h)
end Go.Proofs.YtapoknpakleiiaaDoor

/- The contracts of package disk: Image, Lasts. -/
set_option linter.unusedVariables false
set_option linter.unusedSimpArgs false
namespace Go.Proofs.YtapoknpakleiiaaDoor
open Go.RowKit Go.Tm
set_option maxHeartbeats 400000
set_option maxRecDepth 100000
attribute [local go_sem ↓] Go.wp_at_zero Go.wp_at_succ

theorem NewI.lit {w w' : World} {χ χ' : Col} {j P : Nat} {v : Value} {rows : List (List UInt8)} {log : List UInt8} (h : NewI w w' χ χ' j v P rows log) : ∃ g b0 k0 A2 c2 b1 k1 b2 k2 V0 LL V1 V2, v = imgV (.slice (some ⟨g, 0, none⟩) P P) (.slice (some ⟨b0, 0, none⟩) V0 k0) (.slice A2 LL c2) (.slice (some ⟨b1, 0, none⟩) V1 k1) (.slice (some ⟨b2, 0, none⟩) V2 k2) := by
  obtain ⟨g, vs, lv, hI⟩ := h.img
  obtain ⟨b0, k0, _, v0, _, _⟩ := hI.ground.cell (i := P) (by omega)
  obtain ⟨b1, k1, _, v1, _, _⟩ := hI.ground.cell (i := P + 1) (by omega)
  obtain ⟨b2, k2, _, v2, _, _⟩ := hI.ground.cell (i := P + 2) (by omega)
  obtain ⟨A2, c2, hlv, _⟩ := own_rda hI.log.own
  refine ⟨g, b0, k0, A2, c2, b1, k1, b2, k2, (rows.getD P []).length, log.length, (rows.getD (P + 1) []).length, (rows.getD (P + 2) []).length, ?_⟩
  rw [hI.val, hlv]
  simp [List.getD, v0, v1, v2]
theorem NewI.stored {w w1 w2 w5 : World} {χ χ2 : Col} {j P SZ : Nat} {v : Value} {rows : List (List UInt8)} {log : List UInt8} (hb : Below w.heap.size w w1) (h1 : w.heap.size ≤ SZ) (h2 : SZ < w1.heap.size) (N : NewI w1 w2 (paint w.heap.size χ (j, 9)) χ2 j v P rows log) (g5 : w2.grownBy w5 (some SZ)) : NewI w w5 χ χ2 j v P rows log := by
  obtain ⟨g, vs, lv, hI⟩ := N.img
  have hc : χ2 SZ = (j, 9) := (N.ext SZ h2).trans (paint_new h1)
  have hB2 := below_then hb N.below
  refine ⟨⟨g, vs, lv, hI.val, hI.len, hI.ground.ext (Ext.refl _ _) fun q hq hj a b => g5.block q hq (fun e => ?_), hI.log.ext (Ext.refl _ _) fun q hq a => g5.block q hq (fun e => ?_)⟩, hB2.grown g5 hB2.size (fun q hq => by injection hq with hq; omega), (paint_ext w.heap.size χ (j, 9)).trans N.ext hb.size, fun q hq => ?_⟩
  · injection e with e
    rw [e, hc] at a
    dsimp only at a
    omega
  · injection e with e
    rw [e, hc] at a
    injection a with _ a
    omega
  · by_cases h : q < w1.heap.size
    · rw [N.ext q h, paint_new hq]
    · exact N.new q (by omega)
theorem rows_pos {P K : Nat} {rows : List (List UInt8)} (h : RowsOk P K rows) (hk : K ≤ 8) : ∀ r ∈ rows, 0 < r.length ∧ r.length ≤ 200 := fun r hr => by
  obtain ⟨i, hi⟩ := List.mem_iff_getElem?.1 hr
  have h1 := h.each i r hi
  have := sizeD_lo P K i
  have := sizeD_hi P K i
  omega
end Go.Proofs.YtapoknpakleiiaaDoor
