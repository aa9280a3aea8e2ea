import Derived.Test.YtapoknpakleiiaaDoorDisk3
/- The contracts of package disk: act, places, reads. -/
set_option linter.unusedVariables false
set_option linter.unusedSimpArgs false
namespace Go.Proofs.YtapoknpakleiiaaDoor
open Go.RowKit Go.Tm
set_option maxHeartbeats 400000
set_option maxRecDepth 100000
attribute [local go_sem ↓] Go.wp_at_zero Go.wp_at_succ

theorem act_no {s : DSt} (h : s.dead = true ∨ (0 < s.stop ∧ s.stop ≤ s.acts + 1)) : actB s = false ∧ actS s = { s with dead := true } := by
  have : actB s = false := by
    unfold actB
    rcases h with h | ⟨h1, h2⟩
    · rw [h]; rfl
    · simp [h1, h2]
  exact ⟨this, by unfold actS; rw [this]; rfl⟩
theorem act_yes {s : DSt} (h : s.dead = false) (h2 : s.stop = 0 ∨ s.acts + 1 < s.stop) : actB s = true ∧ actS s = { s with acts := s.acts + 1 } := by
  have : actB s = true := by
    unfold actB
    rw [h]
    rcases h2 with h2 | h2
    · simp [h2]
    · simp; omega
  exact ⟨this, by unfold actS; rw [this]; rfl⟩

set_option maxHeartbeats 1600000 in
theorem act_any {w : World} {χ : Col} {j p : Nat} {s : DSt} {q : DPl} (h : DiskR w χ j p s q) (ha : s.acts < 4611686018427387904) :
    Calls Tryd.prog 89 #[.pointer (some ⟨p, 0, none⟩)] w fun e w' => e = .returned (.bool (actB s)) ∧ DiskR w' χ j p (actS s) q ∧ KeptBut (fun k => k = p) w w' := by
  have c8 := h.row.cell (j := 8) (v := .int .i64 s.acts) rfl
  have c9 := h.row.cell (j := 9) (v := .int .i64 s.stop) rfl
  have c10 := h.row.cell (j := 10) (v := .bool s.dead) rfl
  have f8 := h.row.free 8
  have f10 := h.row.free 10
  have HW := IntWalk.i64_in ((s.acts : Int) + 1) (by omega)
  have HN := Lib.hid (fun (n : Nat) (hn : s.dead = true ∨ (0 < s.stop ∧ s.stop ≤ s.acts + 1)) => (show actB s = false ∧ (DiskR ((w.drewN n).setCell ⟨p, 10, none⟩ (.bool true)) χ j p (actS s) q ∧ KeptBut (fun k => k = p) w ((w.drewN n).setCell ⟨p, 10, none⟩ (.bool true))) by
    obtain ⟨e1, e2⟩ := act_no hn
    have hg := cell_grown (w.drewN n) p 10 (.bool true)
    have hr := (h.below (Ext.refl _ _) (drewN_below w n)).row.stored 10 (.bool true)
    have hg2 : w.grownBy ((w.drewN n).setCell ⟨p, 10, none⟩ (.bool true)) (some p) := ⟨hg.os, hg.tape, hg.output, hg.size, hg.block⟩
    refine ⟨e1, ?_, kept_grown hg2⟩
    rw [e2]
    exact h.restate hg2 hr rfl rfl rfl rfl rfl (by rw [← e2]; exact h.ok.act)))
  have HY := Lib.hid (fun (n : Nat) (h1 : s.dead = false) (h2 : s.stop = 0 ∨ s.acts + 1 < s.stop) => (show actB s = true ∧ (DiskR ((w.drewN n).setCell ⟨p, 8, none⟩ (.int .i64 ((s.acts : Int) + 1))) χ j p (actS s) q ∧ KeptBut (fun k => k = p) w ((w.drewN n).setCell ⟨p, 8, none⟩ (.int .i64 ((s.acts : Int) + 1)))) by
    obtain ⟨e1, e2⟩ := act_yes h1 h2
    have hg := cell_grown (w.drewN n) p 8 (.int .i64 ((s.acts : Int) + 1))
    have hr := (h.below (Ext.refl _ _) (drewN_below w n)).row.stored 8 (.int .i64 ((s.acts : Int) + 1))
    have hg2 : w.grownBy ((w.drewN n).setCell ⟨p, 8, none⟩ (.int .i64 ((s.acts : Int) + 1))) (some p) := ⟨hg.os, hg.tape, hg.output, hg.size, hg.block⟩
    refine ⟨e1, ?_, kept_grown hg2⟩
    rw [e2]
    exact h.restate hg2 hr rfl rfl rfl rfl rfl (by rw [← e2]; exact h.ok.act)))
  obtain ⟨B, hB⟩ : ∃ B, actB s = B := ⟨_, rfl⟩
  obtain ⟨T, hT⟩ : ∃ T, actS s = T := ⟨_, rfl⟩
  obtain ⟨A, hA⟩ : ∃ A, s.acts = A := ⟨_, rfl⟩
  obtain ⟨S, hS⟩ : ∃ S, s.stop = S := ⟨_, rfl⟩
  obtain ⟨D, hD⟩ : ∃ D, s.dead = D := ⟨_, rfl⟩
  rw [hB, hT, hA, hS, hD] at HN
  rw [hB, hT, hA, hS, hD] at HY
  rw [hB, hT]
  rw [hA] at c8 HW
  rw [hS] at c9
  rw [hD] at c10
  clear h ha hB hT hA hS hD
  cases D with
  | true =>
    have HR := Lib.hid (fun n => HN.out n (.inl rfl))
    clear HN HY
    go_enter Tryd.func89, Tryd.ntmps89
    go_wp2_with fail
    go_quiet (fail)
    go_wp2_with fail
    go_ret
    have hw : wrap64 ((A : Int) + 1) = (A : Int) + 1 := (IntWalk.i64_left _).symm.trans HW
    first | exact ⟨by rw [(HR.out nq).1]; rfl, (HR.out nq).2⟩ | (rw [hw]; exact ⟨by rw [(HR.out nq).1]; rfl, (HR.out nq).2⟩)
  | false =>
    by_cases h0 : S = 0
    · subst h0
      have HR := Lib.hid (fun n => HY.out n rfl (.inl rfl))
      clear HN HY
      go_enter Tryd.func89, Tryd.ntmps89
      go_wp2_with fail
      go_quiet (fail)
      go_wp2_with fail
      go_ret
      have hw : wrap64 ((A : Int) + 1) = (A : Int) + 1 := (IntWalk.i64_left _).symm.trans HW
      first | exact ⟨by rw [(HR.out nq).1]; rfl, (HR.out nq).2⟩ | (rw [hw]; exact ⟨by rw [(HR.out nq).1]; rfl, (HR.out nq).2⟩)
    · have g0 : decide (0 < S) = true := decide_eq_true (by omega)
      by_cases h1 : S ≤ A + 1
      · have g1 : (S : Int) ≤ (A : Int) + 1 := by omega
        have g2 : decide (S ≤ A + 1) = true := decide_eq_true h1
        have HR := Lib.hid (fun n => HN.out n (.inr ⟨by omega, h1⟩))
        clear HN HY h1 h0
        go_enter Tryd.func89, Tryd.ntmps89
        go_wp2_with fail
        go_quiet (fail)
        go_wp2_with fail
        go_ret
        have hw : wrap64 ((A : Int) + 1) = (A : Int) + 1 := (IntWalk.i64_left _).symm.trans HW
        first | exact ⟨by rw [(HR.out nq).1]; rfl, (HR.out nq).2⟩ | (rw [hw]; exact ⟨by rw [(HR.out nq).1]; rfl, (HR.out nq).2⟩)
      · have g1 : decide ((S : Int) ≤ (A : Int) + 1) = false := decide_eq_false (by omega)
        have g2 : decide (S ≤ A + 1) = false := decide_eq_false h1
        have HR := Lib.hid (fun n => HY.out n rfl (.inr (by omega)))
        clear HN HY h1 h0
        go_enter Tryd.func89, Tryd.ntmps89
        go_wp2_with fail
        go_quiet (fail)
        go_wp2_with fail
        go_ret
        have hw : wrap64 ((A : Int) + 1) = (A : Int) + 1 := (IntWalk.i64_left _).symm.trans HW
        first | exact ⟨by rw [(HR.out nq).1]; rfl, (HR.out nq).2⟩ | (rw [hw]; exact ⟨by rw [(HR.out nq).1]; rfl, (HR.out nq).2⟩)
end Go.Proofs.YtapoknpakleiiaaDoor
