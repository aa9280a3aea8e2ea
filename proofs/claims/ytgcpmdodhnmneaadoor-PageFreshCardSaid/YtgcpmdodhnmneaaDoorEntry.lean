import Derived.Test.YtgcpmdodhnmneaaDoorRow
import Derived.Lib.SmallJoins
import Derived.Deep.Strs
/- An entry handed in: a struct of an int and a uint64. -/
set_option linter.unusedVariables false
set_option linter.unusedSimpArgs false
namespace Go.Proofs.YtgcpmdodhnmneaaDoor
open Go.RowKit Go.ChangeShapes Go.WideShapes Go.ChangeAt Go.Deep Go.Joins Go.Tm
set_option maxRecDepth 100000
theorem open_entry {H : Type} {enc : TypeId × Value → H} {w : World} {base : Nat} {spare : Nat → Bool} {held : Bool} {r : Reach} {b0 : Nat} {v : Value} {d : DataW H} {p : List MemPlace}
    (hv : Value.okWide Tryd.prog w r b0 53 v) (h : DataW.Trod enc Tryd.prog w base spare held 53 v d p) :
    ∃ key val, v = .agg #[.int .i64 key, .int .u64 val] ∧ 0 ≤ val ∧ val < 18446744073709551616 := by
  obtain ⟨v0, v1, y0, y1, n, rfl, _, _, g0, g1⟩ := open_agg2 Tryd.underlying53 (by kernel_rfl) (by kernel_rfl) hv h
  obtain ⟨a, ha, _, _⟩ := DataW.trod_int Tryd.underlying3 g0
  obtain ⟨b, hb, _, hw⟩ := DataW.trod_int Tryd.underlying51 g1
  obtain rfl : v0 = .int .i64 a := by simpa using ha
  obtain rfl : v1 = .int .u64 b := by simpa using hb
  have := bounds_u64 hw
  exact ⟨a, b, rfl, by omega, by omega⟩
end Go.Proofs.YtgcpmdodhnmneaaDoor
