import Derived.Test.YtgelgjghmoddoaaDoorOpen
import Derived.Test.YtgelgjghmoddoaaDoorOct
/- What layer 7's statements are handed. -/
set_option linter.unusedVariables false
set_option linter.unusedSimpArgs false
namespace Go.Proofs.YtgelgjghmoddoaaDoor
open Go.RowKit Go.ChangeShapes Go.WideShapes Go.ChangeAt Go.Deep Go.Tm
set_option maxRecDepth 100000
theorem opInt : Opens Tryd.prog 3 1 rInt := opens_int Tryd.underlying3 (by kernel_rfl)
theorem opBool : Opens Tryd.prog 4 1 rBool := opens_bool Tryd.underlying4 (by kernel_rfl)
theorem opBytes : Opens Tryd.prog 24 1 rBytes := opens_bytes tU8 (by kernel_rfl) (by kernel_rfl) (by kernel_rfl)

theorem opens_state7 : Opens Tryd.prog 30 3 (rThen 1 rInt (rThen 1 rInt rInt)) :=
  opens_struct Tryd.underlying30 (by kernel_rfl) (opensF_cons rfl opInt (opensF_cons rfl opInt (opensF_one rfl opInt rfl)))
theorem opens_spoil7 : Opens Tryd.prog 38 5 (rThen 1 rInt (rThen 1 rInt (rThen 1 rBool (rThen 1 rBool rBytes)))) :=
  opens_struct Tryd.underlying38 (by kernel_rfl) (opensF_cons rfl opInt (opensF_cons rfl opInt (opensF_cons rfl opBool (opensF_cons rfl opBool (opensF_one rfl opBytes rfl)))))

theorem opInts : Opens Tryd.prog 56 1 (rSlice 1 8 rInt) := opens_slice Tryd.underlying56 (by kernel_rfl) (by kernel_rfl) opInt ⟨0⟩ (by decide)
theorem opens_says7 : Opens Tryd.prog 46 1 (rSlice 2 16 (rThen 1 rInt rInt)) :=
  opens_slice Tryd.underlying46 (by kernel_rfl) (by kernel_rfl) (opens_struct Tryd.underlying51 (by kernel_rfl) (opensF_cons rfl opInt (opensF_one rfl opInt rfl))) ⟨(0, 0)⟩ (by decide)
theorem opens_choices : Opens Tryd.prog 47 1 (rSlice 2 32 (rThen 1 rInt (rSlice 1 8 rInt))) :=
  opens_slice Tryd.underlying47 (by kernel_rfl) (by kernel_rfl) (opens_struct Tryd.underlying58 (by kernel_rfl) (opensF_cons rfl opInt (opensF_one rfl opInts rfl))) ⟨(0, [])⟩ (by decide)
theorem open_row {α : Type} {P : Program} {T e : TypeId} {size bytes : Nat} {R : Rdr α} (hT : P.underlying T = some (.slice e)) (hO : Opens P T 1 (rSlice size bytes R)) (hb : 0 < bytes) {H : Type} {enc : TypeId × Value → H} {w : World} {base : Nat} {spare : Nat → Bool} {held : Bool} {r : Reach} {b0 : Nat} {v : Value} {d : DataW H} {p : List MemPlace}
    (hv : Value.okWide P w r b0 T v) (h : DataW.Trod enc P w base spare held T v d p) (hz : (DataW.weights P T d).all (· ≤ reachBytes) = true) : ∃ A c l, v = .slice A l.length c ∧ RdS size R w A c l ∧ l.length * bytes ≤ 140737488351232 ∧ l.length ≤ 140737488351232 := by
  obtain ⟨a, len, cap, rfl⟩ := okWide_slice hT hv
  obtain ⟨l, A, c, e1, e2, e3⟩ := open_arg hO h hz
  have e4 : Value.slice a len cap = .slice A l.length c := by simpa [Value.cells] using e1
  exact ⟨A, c, l, e4, e2, e3, Nat.le_trans (Nat.le_mul_of_pos_right _ hb) e3⟩

section
variable {H : Type} {enc : TypeId × Value → H} {w : World} {base : Nat} {spare : Nat → Bool} {held : Bool} {r : Reach} {b0 : Nat} {v : Value} {d : DataW H} {p : List MemPlace}
theorem open_state7 (hv : Value.okWide Tryd.prog w r b0 30 v) (h : DataW.Trod enc Tryd.prog w base spare held 30 v d p) (hz : (DataW.weights Tryd.prog 30 d).all (· ≤ reachBytes) = true) :
    ∃ x y z : Int, v = .agg #[.int .i64 x, .int .i64 y, .int .i64 z] := by
  obtain ⟨cs, rfl, _⟩ := okWide_struct Tryd.underlying30 hv
  obtain ⟨⟨x, y, z⟩, hR⟩ := open_arg opens_state7 h hz
  obtain ⟨⟨e1, _⟩, ⟨e2, _⟩, ⟨e3, _⟩⟩ := hR
  refine ⟨x, y, z, ?_⟩
  congr 1
  apply Array.ext'
  have := List.take_append_drop 1 cs.toList
  simp only [Value.cells] at e1 e2 e3
  rw [← this, e1, ← List.take_append_drop 1 (cs.toList.drop 1), e2, e3]
  rfl
theorem open_spoil7 (hv : Value.okWide Tryd.prog w r b0 38 v) (h : DataW.Trod enc Tryd.prog w base spare held 38 v d p) (hz : (DataW.weights Tryd.prog 38 d).all (· ≤ reachBytes) = true) :
    ∃ (x y : Int) (s t : Bool) (A : Option Addr) (c : Nat) (l : List UInt8), v = .agg #[.int .i64 x, .int .i64 y, .bool s, .bool t, .slice A l.length c] ∧ Rda w A c l ∧ l.length ≤ 140737488351232 ∧ -9223372036854775808 ≤ x ∧ x ≤ 9223372036854775807 := by
  obtain ⟨cs, rfl, _⟩ := okWide_struct Tryd.underlying38 hv
  obtain ⟨⟨x, y, s, t, l⟩, hR⟩ := open_arg opens_spoil7 h hz
  obtain ⟨⟨e1, bx⟩, ⟨e2, _⟩, e3, e4, ⟨A, c, e5, hr, hl⟩⟩ := hR
  refine ⟨x, y, s, t, A, c, l, ?_, hr, hl, bx⟩
  congr 1
  apply Array.ext'
  simp only [Value.cells, rBool] at e1 e2 e3 e4 e5
  rw [← List.take_append_drop 1 cs.toList, e1, ← List.take_append_drop 1 (cs.toList.drop 1), e2, ← List.take_append_drop 1 ((cs.toList.drop 1).drop 1), e3, ← List.take_append_drop 1 (((cs.toList.drop 1).drop 1).drop 1), e4, e5]
  rfl
theorem open_says7 (hv : Value.okWide Tryd.prog w r b0 46 v) (h : DataW.Trod enc Tryd.prog w base spare held 46 v d p) (hz : (DataW.weights Tryd.prog 46 d).all (· ≤ reachBytes) = true) : ∃ A c, ∃ l : List (Int × Int), v = .slice A l.length c ∧ RdS 2 (rThen 1 rInt rInt) w A c l ∧ l.length * 16 ≤ 140737488351232 ∧ l.length ≤ 140737488351232 :=
  open_row Tryd.underlying46 opens_says7 (by decide) hv h hz
theorem open_choices (hv : Value.okWide Tryd.prog w r b0 47 v) (h : DataW.Trod enc Tryd.prog w base spare held 47 v d p) (hz : (DataW.weights Tryd.prog 47 d).all (· ≤ reachBytes) = true) : ∃ A c, ∃ l : List (Int × List Int), v = .slice A l.length c ∧ RdS 2 (rThen 1 rInt (rSlice 1 8 rInt)) w A c l ∧ l.length * 32 ≤ 140737488351232 ∧ l.length ≤ 140737488351232 :=
  open_row Tryd.underlying47 opens_choices (by decide) hv h hz
end
end Go.Proofs.YtgelgjghmoddoaaDoor
