import Derived.Test.YtiaehoppdihbdaaRec6
/- What layer 9's statements are handed: a record. -/
set_option linter.unusedVariables false
set_option linter.unusedSimpArgs false
namespace Go.Proofs.Ytiaehoppdihbdaa
open Go.RowKit Go.ChangeShapes Go.WideShapes Go.ChangeAt Go.Deep Go.Tm
set_option maxRecDepth 100000
theorem opInt : Opens Try.prog 3 1 rInt := opens_int Try.underlying3 (by kernel_rfl)
theorem opBytes : Opens Try.prog 22 1 rBytes := opens_bytes tU8 (by kernel_rfl) (by kernel_rfl) (by kernel_rfl)
theorem opRows : Opens Try.prog 23 1 (rSlice 5 40 rRow9) :=
  opens_slice Try.underlying23 (by kernel_rfl) (by kernel_rfl) (opens_struct Try.underlying58 (by kernel_rfl) (opensF_cons rfl opInt (opensF_cons rfl opInt (opensF_cons rfl opInt (opensF_cons rfl opInt (opensF_one rfl opInt rfl)))))) ⟨(0, 0, 0, 0, 0)⟩ (by decide)
theorem opDirt : Opens Try.prog 24 1 (rSlice 2 16 rDirt) :=
  opens_slice Try.underlying24 (by kernel_rfl) (by kernel_rfl) (opens_struct Try.underlying60 (by kernel_rfl) (opensF_cons rfl opInt (opensF_one rfl opInt rfl))) ⟨(0, 0)⟩ (by decide)
abbrev rRec := rThen 1 rInt (rThen 1 rInt (rThen 1 rInt (rThen 1 rInt (rThen 1 rInt (rThen 1 rInt (rThen 1 rBytes (rThen 1 rBytes (rThen 1 rInt (rThen 1 (rSlice 5 40 rRow9) (rSlice 2 16 rDirt))))))))))
theorem opens_rec : Opens Try.prog 26 11 rRec :=
  opens_struct Try.underlying26 (by kernel_rfl) (opensF_cons rfl opInt (opensF_cons rfl opInt (opensF_cons rfl opInt (opensF_cons rfl opInt (opensF_cons rfl opInt (opensF_cons rfl opInt (opensF_cons rfl opBytes (opensF_cons rfl opBytes (opensF_cons rfl opInt (opensF_cons rfl opRows (opensF_one rfl opDirt rfl)))))))))))
theorem rRec_is {w : World} {cs : List Value} {t} (h : rRec w cs t) : ∃ (x : RecD) (q : RPl), cs = recC x q ∧ RecR w x q := by
  obtain ⟨kind, birth, prev, id, page, frm, before, after, next, rows, dirty⟩ := t
  obtain ⟨⟨e1, b1⟩, ⟨e2, b2⟩, ⟨e3, b3⟩, ⟨e4, b4⟩, ⟨e5, b5⟩, ⟨e6, b6⟩, ⟨A1, c1, e7, r1, l1⟩, ⟨A2, c2, e8, r2, l2⟩, ⟨e9, b9⟩, ⟨A3, c3, e10, r3, l3⟩, A4, c4, e11, r4, l4⟩ := h
  dsimp only at e1 b1 e2 b2 e3 b3 e4 b4 e5 b5 e6 b6 e7 r1 l1 e8 r2 l2 e9 b9 e10 r3 l3 e11 r4 l4
  refine ⟨⟨kind, birth, prev, id, page, frm, before, after, next, rows, dirty⟩, ⟨.slice A1 before.length c1, .slice A2 after.length c2, .slice A3 rows.length c3, .slice A4 dirty.length c4⟩, ?_, ⟨⟨A1, c1, rfl, r1⟩, ⟨A2, c2, rfl, r2⟩, ⟨A3, c3, rfl, r3⟩, ⟨A4, c4, rfl, r4⟩, ⟨b1, b2, b3, b4, b5, b6, b9⟩, by dsimp only; omega⟩⟩
  rw [take1 e1, take1 e2, take1 e3, take1 e4, take1 e5, take1 e6, take1 e7, take1 e8, take1 e9, take1 e10, e11]
  rfl
section
variable {H : Type} {enc : TypeId × Value → H} {w : World} {base : Nat} {spare : Nat → Bool} {held : Bool} {r : Reach} {b0 : Nat} {v : Value} {d : DataW H} {p : List MemPlace}
theorem open_record (hv : Value.okWide Try.prog w r b0 26 v) (h : DataW.Trod enc Try.prog w base spare held 26 v d p) (hz : (DataW.weights Try.prog 26 d).all (· ≤ reachBytes) = true) :
    ∃ (x : RecD) (q : RPl), v = .agg (recC x q).toArray ∧ RecR w x q := by
  obtain ⟨cs, rfl, _⟩ := okWide_struct Try.underlying26 hv
  obtain ⟨t, hR⟩ := open_arg opens_rec h hz
  obtain ⟨x, q, e, hr⟩ := rRec_is hR
  refine ⟨x, q, ?_, hr⟩
  simp only [Value.cells] at e
  rw [← e]
end
end Go.Proofs.Ytiaehoppdihbdaa
