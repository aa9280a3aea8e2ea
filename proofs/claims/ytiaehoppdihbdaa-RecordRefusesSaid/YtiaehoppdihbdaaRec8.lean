import Derived.Test.YtiaehoppdihbdaaRec7
/- The contracts of package record: Parse's two doors. -/
set_option linter.unusedVariables false
set_option linter.unusedSimpArgs false
namespace Go.Proofs.Ytiaehoppdihbdaa
open Go.RowKit Go.Tm
set_option maxHeartbeats 400000
set_option maxRecDepth 100000
attribute [local go_sem ↓] Go.wp_at_zero Go.wp_at_succ

/-- What Parse answers. -/
def parV (l : List UInt8) : RecD := (pRec l).getD recZ
def parE (l : List UInt8) : Int := if (pRec l).isSome then 0 else 90
theorem par_some {l : List UInt8} {x : RecD} (h : pRec l = some x) : parV l = x ∧ parE l = 0 := by unfold parV parE; rw [h]; exact ⟨rfl, rfl⟩
theorem par_none {l : List UInt8} (h : pRec l = none) : parV l = recZ ∧ parE l = 90 := by unfold parV parE; rw [h]; exact ⟨rfl, rfl⟩
set_option maxHeartbeats 2000000 in
/-- The door, where nothing gave up. -/
theorem parse_ret {R : Ending → World → Prop} {W : World} {p1 p2 : Nat} {a0 a1 a2 a3 a4 a5 a6 a7 a8 a9 a10 v2 : Value} (h1 : RowC W p1 26 [a0, a1, a2, a3, a4, a5, a6, a7, a8, a9, a10]) (h2 : RowC W p2 30 [v2]) {T : Array Value} (t2 : T[2]? = some (.pointer (some ⟨p1, 0, none⟩))) (t3 : T[3]? = some (.pointer (some ⟨p2, 0, none⟩)))
    (hR : R (.returned (.tuple #[.agg #[a0, a1, a2, a3, a4, a5, a6, a7, a8, a9, a10], v2])) W) :
    bodyPostD Try.prog Try.f18 R Exit.ret { tmps := T, defers := [{ target := Target.fn (Fn.func 35) #[.pointer (some ⟨p1, 0, none⟩), .pointer (some ⟨p2, 0, none⟩)], args := #[] }] } W := by
  refine leaves_cons (f := 35) (args := #[.pointer (some ⟨p1, 0, none⟩), .pointer (some ⟨p2, 0, none⟩)]) (by simp) (by simp [go_sem]) ?_
  refine (catch_idle p1 p2 W).mono ?_
  rintro e u' w'' ⟨rfl, rfl, rfl⟩
  have c0 := h1.cell (j := 0) rfl
  have c1 := h1.cell (j := 1) rfl
  have c2 := h1.cell (j := 2) rfl
  have c3 := h1.cell (j := 3) rfl
  have c4 := h1.cell (j := 4) rfl
  have c5 := h1.cell (j := 5) rfl
  have c6 := h1.cell (j := 6) rfl
  have c7 := h1.cell (j := 7) rfl
  have c8 := h1.cell (j := 8) rfl
  have c9 := h1.cell (j := 9) rfl
  have c10 := h1.cell (j := 10) rfl
  have d0 := h2.cell (j := 0) rfl
  have HR := Lib.hid hR
  clear hR h1 h2
  simp [Leaves, settle, results, Try.results18, go_sem, t2, t3, c0, c1, c2, c3, c4, c5, c6, c7, c8, c9, c10, d0]
  exact HR.out
set_option maxHeartbeats 2000000 in
/-- The door, where the reading gave up. -/
theorem parse_early {R : Ending → World → Prop} {W : World} {p1 p2 : Nat} {a0 a1 a2 a3 a4 a5 a6 a7 a8 a9 a10 v2 : Value} (h1 : RowC W p1 26 [a0, a1, a2, a3, a4, a5, a6, a7, a8, a9, a10]) (h2 : RowC W p2 30 [v2]) (hne : p1 ≠ p2) {T : Array Value} (t2 : T[2]? = some (.pointer (some ⟨p1, 0, none⟩))) (t3 : T[3]? = some (.pointer (some ⟨p2, 0, none⟩)))
    (hR : ∀ W', KeptBut (fun k => k = p1 ∨ k = p2) W W' → R (.returned (.tuple #[.agg (recC recZ nilQ).toArray, .int .i64 90])) W') :
    bodyPostD Try.prog Try.f18 R (Exit.panic [{ v := .iface 70 (.agg #[]), recovered := false }]) { tmps := T, defers := [{ target := Target.fn (Fn.func 35) #[.pointer (some ⟨p1, 0, none⟩), .pointer (some ⟨p2, 0, none⟩)], args := #[] }] } W := by
  refine leaves_cons (f := 35) (args := #[.pointer (some ⟨p1, 0, none⟩), .pointer (some ⟨p2, 0, none⟩)]) (by simp) (by simp [go_sem]) ?_
  refine (catch_early p1 p2 W h1 h2 hne).mono ?_
  rintro e u' W2 ⟨rfl, C⟩
  obtain ⟨rfl, hk, r1, r2⟩ := C
  have HR := Lib.hid (hR W2 hk)
  have c0 := r1.cell (j := 0) rfl
  have c1 := r1.cell (j := 1) rfl
  have c2 := r1.cell (j := 2) rfl
  have c3 := r1.cell (j := 3) rfl
  have c4 := r1.cell (j := 4) rfl
  have c5 := r1.cell (j := 5) rfl
  have c6 := r1.cell (j := 6) rfl
  have c7 := r1.cell (j := 7) rfl
  have c8 := r1.cell (j := 8) rfl
  have c9 := r1.cell (j := 9) rfl
  have c10 := r1.cell (j := 10) rfl
  have d0 := r2.cell (j := 0) rfl
  clear hR h1 h2 r1 r2
  simp [Leaves, settle, results, Try.results18, go_sem, t2, t3, c0, c1, c2, c3, c4, c5, c6, c7, c8, c9, c10, d0]
  exact HR.out
end Go.Proofs.Ytiaehoppdihbdaa
