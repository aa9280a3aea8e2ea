import Derived.Test.YtapoknpakleiiaaDoorPage2
import Derived.Deep.RegionHeld3
import Derived.Deep.DrawnRows
/- The contracts of package page, on: at, Slot, Fill, Free. -/
set_option linter.unusedVariables false
set_option linter.unusedSimpArgs false
namespace Go.Proofs.YtapoknpakleiiaaDoor
open Go.RowKit Go.Tm
set_option maxHeartbeats 400000
set_option maxRecDepth 100000

def placeV (b : List UInt8) (i : Int) : Int := if placeE b i = 0 then 16 + i * 16 else 0

theorem place_ok {b : List UInt8} {i : Int} (h : placeE b i = 0) : 0 ≤ i ∧ b.length = 24 + 16 * slotsP b.length ∧ i.toNat < slotsP b.length ∧ slotsP b.length ≤ 8 := by
  unfold placeE at h
  split at h
  · simp at h
  · rename_i hs
    split at h
    · simp at h
    · have := slotsP_len (n := b.length) (by omega)
      have := slotsP_le b.length
      omega
end Go.Proofs.YtapoknpakleiiaaDoor
