import Derived.Test.YtiaehoppdihbdaaRec6
import Derived.Test.YtiaehoppdihbdaaRec2b
import Derived.Test.YtiaehoppdihbdaaRec2c
import Derived.Defers
import Derived.Recover
/- The contracts of package record: what catches a reading that gives up. -/
set_option linter.unusedVariables false
set_option linter.unusedSimpArgs false
namespace Go.Proofs.Ytiaehoppdihbdaa
open Go.RowKit Go.Tm
set_option maxHeartbeats 400000
set_option maxRecDepth 100000
attribute [local go_sem ↓] Go.wp_at_zero Go.wp_at_succ

theorem catch_idle (p1 p2 : Nat) (w : World) :
    CallsD Try.prog 35 #[.pointer (some ⟨p1, 0, none⟩), .pointer (some ⟨p2, 0, none⟩)] .returning w fun e u' w' => e = .returned (.tuple #[]) ∧ u' = .returning ∧ w' = w := by
  refine callsD_of_wpS Try.func35 rfl fun c₀ cs hu => ?_
  apply wpS_seq
  apply wpS_region
  simp [wpOpsS, go_sem, recoverD, hu, Try.ntmps35, Exit.thenS]
  refine wpS_of_wp ?_
  go_wp2
  cases c₀
  simp_all [bodyPostS, results, Try.results35]
structure Caught (p1 p2 : Nat) (w : World) (e : Ending) (w' : World) : Prop where
  e : e = .returned (.tuple #[])
  kept : KeptBut (fun k => k = p1 ∨ k = p2) w w'
  r1 : RowC w' p1 26 (recC recZ nilQ)
  r2 : RowC w' p2 30 [.int .i64 90]
set_option maxHeartbeats 8000000 in
theorem catch_early (p1 p2 : Nat) (w : World) {a0 a1 a2 a3 a4 a5 a6 a7 a8 a9 a10 : Value} (h1 : RowC w p1 26 [a0, a1, a2, a3, a4, a5, a6, a7, a8, a9, a10]) {v2 : Value} (h2 : RowC w p2 30 [v2]) (hne : p1 ≠ p2) :
    CallsD Try.prog 35 #[.pointer (some ⟨p1, 0, none⟩), .pointer (some ⟨p2, 0, none⟩)] (.panicking [{ v := .iface 70 (.agg #[]), recovered := false }]) w fun e u' w' => u' = .panicking [{ v := .iface 70 (.agg #[]), recovered := true }] ∧ Caught p1 p2 w e w' := by
  have hta : ∀ W : World, (Instr.typeAssert (.iface 70 (.agg #[])) 20 70 true).run Try.prog W = .ok (.tuple #[.agg #[], .bool true]) W := fun _ => by kernel_rfl
  have hb := (Below.refl w.heap.size w).alloc (Nat.le_refl _) (.cells #[] 70)
  have R1 := h1.below hb
  have R2 := h2.below hb
  have c0 := R1.cell (j := 0) rfl
  have f0 := R1.free 0
  have c1 := R1.cell (j := 1) rfl
  have f1 := R1.free 1
  have c2 := R1.cell (j := 2) rfl
  have f2 := R1.free 2
  have c3 := R1.cell (j := 3) rfl
  have f3 := R1.free 3
  have c4 := R1.cell (j := 4) rfl
  have f4 := R1.free 4
  have c5 := R1.cell (j := 5) rfl
  have f5 := R1.free 5
  have c6 := R1.cell (j := 6) rfl
  have f6 := R1.free 6
  have c7 := R1.cell (j := 7) rfl
  have f7 := R1.free 7
  have c8 := R1.cell (j := 8) rfl
  have f8 := R1.free 8
  have c9 := R1.cell (j := 9) rfl
  have f9 := R1.free 9
  have c10 := R1.cell (j := 10) rfl
  have f10 := R1.free 10
  have d0 := R2.cell (j := 0) rfl
  have g0 := R2.free 0
  have hne2 : p2 ≠ p1 := hne.symm
  refine callsD_of_wpS Try.func35 rfl fun c₀ cs hu => ?_
  apply wpS_seq
  apply wpS_region
  simp [wpOpsS, go_sem, recoverD, hu, Try.ntmps35, Exit.thenS]
  refine wpS_of_wp ?_
  have HR1 := Lib.hid R1
  have HR2 := Lib.hid R2
  have HB := Lib.hid hb
  have HNE := Lib.hid hne
  clear R1 R2 hb h1 h2
  go_wp2_with fail
  simp [bodyPostS, results, Try.results35]
  have k1 : ∀ (W : World) (k : Nat) (v : Value), KeptBut (fun k => k = p1 ∨ k = p2) w W → KeptBut (fun k => k = p1 ∨ k = p2) w (W.setCell ⟨p1, k, none⟩ v) := fun W k v K => K.grown (cell_grown W p1 k v) (fun q e => .inl (.inl (by injection e with e; exact e.symm)))
  have k2 : ∀ (W : World) (k : Nat) (v : Value), KeptBut (fun k => k = p1 ∨ k = p2) w W → KeptBut (fun k => k = p1 ∨ k = p2) w (W.setCell ⟨p2, k, none⟩ v) := fun W k v K => K.grown (cell_grown W p2 k v) (fun q e => .inl (.inr (by injection e with e; exact e.symm)))
  have k3 : ∀ (W : World) (k : Nat) (v : Value), RowC W p2 30 [v2] → RowC (W.setCell ⟨p1, k, none⟩ v) p2 30 [v2] := fun W k v R => R.grown (cell_grown W p1 k v) (fun e => HNE.out (by injection e))
  refine ⟨rfl, ?_, ?_, ?_⟩
  · refine k2 _ _ _ ?_
    iterate 11 (refine k1 _ _ _ ?_)
    exact (KeptBut.refl _ w).below HB.out
  · have T := (((((((((((HR1.out.stored 0 (.int .i64 0)).stored 1 (.int .i64 0)).stored 2 (.int .i64 0)).stored 3 (.int .i64 0)).stored 4 (.int .i64 0)).stored 5 (.int .i64 0)).stored 6 (.slice none 0 0)).stored 7 (.slice none 0 0)).stored 8 (.int .i64 0)).stored 9 (.slice none 0 0)).stored 10 (.slice none 0 0)).grown (cell_grown _ p2 0 (.int .i64 90)) (fun e => HNE.out (by injection e with e; exact e.symm))
    exact T
  · have T : RowC _ p2 30 [v2] := k3 _ 10 (.slice none 0 0) (k3 _ 9 (.slice none 0 0) (k3 _ 8 (.int .i64 0) (k3 _ 7 (.slice none 0 0) (k3 _ 6 (.slice none 0 0) (k3 _ 5 (.int .i64 0) (k3 _ 4 (.int .i64 0) (k3 _ 3 (.int .i64 0) (k3 _ 2 (.int .i64 0) (k3 _ 1 (.int .i64 0) (k3 _ 0 (.int .i64 0) HR2.out))))))))))
    exact T.stored 0 _
end Go.Proofs.Ytiaehoppdihbdaa
