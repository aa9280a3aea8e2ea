import Derived.Test.YtpmcdooplnmjnaaRow
import Derived.Lib.SmallJoins
import Derived.Deep.Strs
/- A shape, and two writes, handed in. -/
set_option linter.unusedVariables false
set_option linter.unusedSimpArgs false
namespace Go.Proofs.Ytpmcdooplnmjnaa
open Go.RowKit Go.ChangeShapes Go.WideShapes Go.ChangeAt Go.Deep Go.Joins Go.Tm
set_option maxRecDepth 100000
theorem open_shape {H : Type} {enc : TypeId × Value → H} {w : World} {base : Nat} {spare : Nat → Bool} {held : Bool} {r : Reach} {b0 : Nat} {v : Value} {d : DataW H} {p : List MemPlace}
    (hv : Value.okWide Try.prog w r b0 23 v) (h : DataW.Trod enc Try.prog w base spare held 23 v d p) :
    ∃ x y z : Int, v = .agg #[.int .i64 x, .int .i64 y, .int .i64 z] := by
  obtain ⟨v0, v1, v2, y0, y1, y2, n, rfl, _, _, g0, g1, g2⟩ := open_agg3 Try.underlying23 (by kernel_rfl) (by kernel_rfl) hv h
  obtain ⟨a, ha, _, _⟩ := DataW.trod_int Try.underlying3 g0
  obtain ⟨b, hb, _, _⟩ := DataW.trod_int Try.underlying3 g1
  obtain ⟨c, hc, _, _⟩ := DataW.trod_int Try.underlying3 g2
  obtain rfl : v0 = .int .i64 a := by simpa using ha
  obtain rfl : v1 = .int .i64 b := by simpa using hb
  obtain rfl : v2 = .int .i64 c := by simpa using hc
  exact ⟨a, b, c, rfl⟩
theorem open_two {H : Type} {enc : TypeId × Value → H} {w : World} {base : Nat} {spare : Nat → Bool} {held : Bool} {r : Reach} {b0 : Nat} {v : Value} {d : DataW H} {p : List MemPlace}
    (hv : Value.okWide Try.prog w r b0 25 v) (h : DataW.Trod enc Try.prog w base spare held 25 v d p) :
    ∃ x y z u : Int, v = .agg #[.int .u8 x, .int .u8 y, .int .i64 z, .int .i64 u] ∧ (0 ≤ x ∧ x ≤ 255) ∧ (0 ≤ y ∧ y ≤ 255) ∧ (-9223372036854775808 ≤ z ∧ z ≤ 9223372036854775807) ∧ (-9223372036854775808 ≤ u ∧ u ≤ 9223372036854775807) := by
  obtain ⟨v0, v1, v2, v3, y0, y1, y2, y3, n, rfl, _, _, g0, g1, g2, g3⟩ := open_agg4 Try.underlying25 (by kernel_rfl) (by kernel_rfl) hv h
  obtain ⟨a, ha, _, h1⟩ := DataW.trod_int Try.underlying5 g0
  obtain ⟨b, hb, _, h2⟩ := DataW.trod_int Try.underlying5 g1
  obtain ⟨c, hc, _, h3⟩ := DataW.trod_int Try.underlying3 g2
  obtain ⟨d, hd, _, h4⟩ := DataW.trod_int Try.underlying3 g3
  obtain rfl : v0 = .int .u8 a := by simpa using ha
  obtain rfl : v1 = .int .u8 b := by simpa using hb
  obtain rfl : v2 = .int .i64 c := by simpa using hc
  obtain rfl : v3 = .int .i64 d := by simpa using hd
  exact ⟨a, b, c, d, rfl, bounds_u8 h1, bounds_u8 h2, bounds_i64 h3, bounds_i64 h4⟩
end Go.Proofs.Ytpmcdooplnmjnaa
