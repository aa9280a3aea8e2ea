import Derived.Test.YtgelgjghmoddoaaDoorDiskMem4
/- The disk in memory: images, rows of ints. -/
set_option linter.unusedVariables false
set_option linter.unusedSimpArgs false
namespace Go.Proofs.YtgelgjghmoddoaaDoor
open Go.RowKit Go.Tm
set_option maxHeartbeats 400000
set_option maxRecDepth 100000

def imgV (pages pair log m0 m1 : Value) : Value := .agg #[pages, pair, log, m0, m1]
/-- An image that a call has made. -/
structure ImgR (w : World) (χ : Col) (j : Nat) (v : Value) (P : Nat) (rows : List (List UInt8)) (log : List UInt8) (g : Nat) (vs : List Value) (lv : Value) : Prop where
  val : v = imgV (.slice (some ⟨g, 0, none⟩) P P) (vs.getD P undef) lv (vs.getD (P + 1) undef) (vs.getD (P + 2) undef)
  len : rows.length = P + 3
  ground : GroundK w χ j 100 g vs rows (P + 3)
  log : LogR w χ j lv log
def IsImg (w : World) (χ : Col) (j : Nat) (v : Value) (P : Nat) (rows : List (List UInt8)) (log : List UInt8) : Prop := ∃ g vs lv, ImgR w χ j v P rows log g vs lv
structure NewI (w w' : World) (χ χ' : Col) (j : Nat) (v : Value) (P : Nat) (rows : List (List UInt8)) (log : List UInt8) : Prop where
  img : IsImg w' χ' j v P rows log
  below : Below w.heap.size w w'
  ext : Ext w.heap.size χ χ'
  new : ∀ q, w.heap.size ≤ q → (χ' q).1 = j
/-- Rows of ints. -/
structure RdI (w : World) (A : Option Addr) (c : Nat) (l : List Int) : Prop where
  cap : l.length ≤ c
  max : c ≤ maxLen
  cells : 0 < l.length → ∃ b o, A = some ⟨b, o, none⟩ ∧ ∀ j, j < l.length → w.cell? ⟨b, o + j, none⟩ = some (.int .i64 (l.getD j 0))
theorem RdI.below {w w' : World} {A : Option Addr} {c : Nat} {l : List Int} (h : RdI w A c l) (hb : Below w.heap.size w w') : RdI w' A c l :=
  ⟨h.cap, h.max, fun hl => by
    obtain ⟨b, o, e, hc⟩ := h.cells hl
    refine ⟨b, o, e, fun j hj => ?_⟩
    have := hc j hj
    exact (hb.cell (p := ⟨b, o + j, none⟩) (World.block_lt_of_cell? _ _ this)).trans this⟩
end Go.Proofs.YtgelgjghmoddoaaDoor
