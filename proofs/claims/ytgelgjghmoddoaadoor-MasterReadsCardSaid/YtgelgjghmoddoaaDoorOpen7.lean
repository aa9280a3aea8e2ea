import Derived.Test.YtgelgjghmoddoaaDoorOpen
import Derived.Test.YtgelgjghmoddoaaDoorOct
/- What layer 7's statements are handed. -/
set_option linter.unusedVariables false
set_option linter.unusedSimpArgs false
namespace Go.Proofs.YtgelgjghmoddoaaDoor
open Go.RowKit Go.ChangeShapes Go.WideShapes Go.ChangeAt Go.Deep Go.Tm
set_option maxRecDepth 100000
theorem opInt : Opens Tryd.prog 3 1 rInt := opens_int Tryd.underlying3 (by kernel_rfl)
theorem opBool : Opens Tryd.prog 4 1 rBool := opens_bool Tryd.underlying4 (by kernel_rfl)
theorem opBytes : Opens Tryd.prog 24 1 rBytes := opens_bytes tU8 (by kernel_rfl) (by kernel_rfl) (by kernel_rfl)

theorem opens_state7 : Opens Tryd.prog 30 3 (rThen 1 rInt (rThen 1 rInt rInt)) :=
  opens_struct Tryd.underlying30 (by kernel_rfl) (opensF_cons rfl opInt (opensF_cons rfl opInt (opensF_one rfl opInt rfl)))
theorem opens_spoil7 : Opens Tryd.prog 38 5 (rThen 1 rInt (rThen 1 rInt (rThen 1 rBool (rThen 1 rBool rBytes)))) :=
  opens_struct Tryd.underlying38 (by kernel_rfl) (opensF_cons rfl opInt (opensF_cons rfl opInt (opensF_cons rfl opBool (opensF_cons rfl opBool (opensF_one rfl opBytes rfl)))))

section
variable {H : Type} {enc : TypeId × Value → H} {w : World} {base : Nat} {spare : Nat → Bool} {held : Bool} {r : Reach} {b0 : Nat} {v : Value} {d : DataW H} {p : List MemPlace}
theorem open_state7 (hv : Value.okWide Tryd.prog w r b0 30 v) (h : DataW.Trod enc Tryd.prog w base spare held 30 v d p) (hz : (DataW.weights Tryd.prog 30 d).all (· ≤ reachBytes) = true) :
    ∃ x y z : Int, v = .agg #[.int .i64 x, .int .i64 y, .int .i64 z] := by
  obtain ⟨cs, rfl, _⟩ := okWide_struct Tryd.underlying30 hv
  obtain ⟨⟨x, y, z⟩, hR⟩ := open_arg opens_state7 h hz
  obtain ⟨⟨e1, _⟩, ⟨e2, _⟩, ⟨e3, _⟩⟩ := hR
  refine ⟨x, y, z, ?_⟩
  congr 1
  apply Array.ext'
  have := List.take_append_drop 1 cs.toList
  simp only [Value.cells] at e1 e2 e3
  rw [← this, e1, ← List.take_append_drop 1 (cs.toList.drop 1), e2, e3]
  rfl
theorem open_spoil7 (hv : Value.okWide Tryd.prog w r b0 38 v) (h : DataW.Trod enc Tryd.prog w base spare held 38 v d p) (hz : (DataW.weights Tryd.prog 38 d).all (· ≤ reachBytes) = true) :
    ∃ (x y : Int) (s t : Bool) (A : Option Addr) (c : Nat) (l : List UInt8), v = .agg #[.int .i64 x, .int .i64 y, .bool s, .bool t, .slice A l.length c] ∧ Rda w A c l ∧ l.length ≤ 140737488351232 ∧ -9223372036854775808 ≤ x ∧ x ≤ 9223372036854775807 := by
  obtain ⟨cs, rfl, _⟩ := okWide_struct Tryd.underlying38 hv
  obtain ⟨⟨x, y, s, t, l⟩, hR⟩ := open_arg opens_spoil7 h hz
  obtain ⟨⟨e1, bx⟩, ⟨e2, _⟩, e3, e4, ⟨A, c, e5, hr, hl⟩⟩ := hR
  refine ⟨x, y, s, t, A, c, l, ?_, hr, hl, bx⟩
  congr 1
  apply Array.ext'
  simp only [Value.cells, rBool] at e1 e2 e3 e4 e5
  rw [← List.take_append_drop 1 cs.toList, e1, ← List.take_append_drop 1 (cs.toList.drop 1), e2, ← List.take_append_drop 1 ((cs.toList.drop 1).drop 1), e3, ← List.take_append_drop 1 (((cs.toList.drop 1).drop 1).drop 1), e4, e5]
  rfl
end
end Go.Proofs.YtgelgjghmoddoaaDoor
