import Derived.Test.YtiaehoppdihbdaaRec6
/- The helpers of the statements of layer 9. -/
set_option linter.unusedVariables false
set_option linter.unusedSimpArgs false
namespace Go.Proofs.Ytiaehoppdihbdaa
open Go.RowKit Go.Tm
set_option maxHeartbeats 400000
set_option maxRecDepth 100000
attribute [local go_sem ↓] Go.wp_at_zero Go.wp_at_succ

theorem num_any {w : World} (x : Int) : Calls Try.prog 13 #[.int .i64 x] w fun e w' => e = .returned (.int .i64 x) ∧ w = w' := by
  go_enter Try.func13, Try.ntmps13
  go_wp2_with fail
  go_ret
  exact ⟨rfl, rfl⟩

theorem right_bounds {x : RecD} (h : rgtB x = true) : (x.kind = 2 ∨ x.kind = 3 → x.after.length ≤ 128) ∧ (x.kind = 7 → x.rows.length ≤ 8 ∧ x.dirty.length ≤ 16) := by
  rcases right_cases h with h | h | h | h | h
  · obtain ⟨h, _⟩ := h
    exact ⟨fun g => by omega, fun g => by omega⟩
  · obtain ⟨hk, _, _, _, hg, _⟩ := h
    obtain ⟨_, ⟨k0, k1⟩, f0, f1⟩ := (rangB_iff _ _ _).1 hg
    exact ⟨fun g => by omega, fun g => by omega⟩
  · obtain ⟨hk, _, _, _, hg, _⟩ := h
    obtain ⟨_, ⟨k0, k1⟩, f0, f1⟩ := (rangB_iff _ _ _).1 hg
    exact ⟨fun g => by omega, fun g => by omega⟩
  · obtain ⟨h, _⟩ := h
    exact ⟨fun g => by omega, fun g => by omega⟩
  · obtain ⟨_, _, _, _, _, _, _, _, _, hl⟩ := h
    simp only [listsB, Bool.and_eq_true, decide_eq_true_eq] at hl
    exact ⟨fun g => by omega, fun g => ⟨hl.1.1.1, hl.1.1.2⟩⟩

set_option maxHeartbeats 4000000 in
theorem lsize_any {w : World} {x : RecD} {q : RPl} (h : RecR w x q) {cs : Array Value} (hcs : cs = (recC x q).toArray) (hr : rgtB x = true) :
    Calls Try.prog 22 #[.agg cs] w fun e w' => e = .returned (.int .i64 (sizeR x : Int)) ∧ Below w.heap.size w w' := by
  obtain ⟨B1, B2⟩ := right_bounds hr
  obtain ⟨⟨A1, c1, e1, r1⟩, ⟨A2, c2, e2, r2⟩, ⟨A3, c3, e3, r3⟩, ⟨A4, c4, e4, r4⟩, _, n1, n2, n3, n4⟩ := h
  obtain ⟨kind, birth, prev, id, page, frm, before, after, next, rows, dirty⟩ := x
  dsimp only at e1 e2 e3 e4 r1 r2 r3 r4 n1 n2 n3 n4 B1 B2
  have HZ : Hid (sizeR ⟨kind, birth, prev, id, page, frm, before, after, next, rows, dirty⟩ = if kind = 1 then 18 else if kind = 2 then 22 + 2 * after.length else if kind = 3 then 30 + after.length else if kind = 7 then 19 + 26 * rows.length + 9 * dirty.length else 17) := Lib.hid rfl
  obtain ⟨k1, hk1⟩ : ∃ k, before.length = k := ⟨_, rfl⟩
  obtain ⟨k2, hk2⟩ : ∃ k, after.length = k := ⟨_, rfl⟩
  obtain ⟨k3, hk3⟩ : ∃ k, rows.length = k := ⟨_, rfl⟩
  obtain ⟨k4, hk4⟩ : ∃ k, dirty.length = k := ⟨_, rfl⟩
  have hcs2 : cs = #[.int .i64 kind, .int .i64 birth, .int .i64 prev, .int .i64 id, .int .i64 page, .int .i64 frm, .slice A1 k1 c1, .slice A2 k2 c2, .int .i64 next, .slice A3 k3 c3, .slice A4 k4 c4] := by rw [hcs]; unfold recC; rw [e1, e2, e3, e4, hk1, hk2, hk3, hk4]
  subst hcs2
  rw [hk2, hk3, hk4] at HZ
  rw [hk2] at B1
  rw [hk3, hk4] at B2
  rw [HZ.out]
  clear hcs e1 e2 e3 e4 r1 r2 r3 r4 n1 n2 n3 n4 hk1 hk2 hk3 hk4 HZ hr
  have HB0 := Lib.hid ((Below.refl w.heap.size w).alloc (Nat.le_refl _) (.cells #[.int .i64 kind, .int .i64 birth, .int .i64 prev, .int .i64 id, .int .i64 page, .int .i64 frm, .slice A1 k1 c1, .slice A2 k2 c2, .int .i64 next, .slice A3 k3 c3, .slice A4 k4 c4] 26))
  by_cases g1 : kind = 1
  · subst g1
    clear B1 B2
    go_enter Try.func22, Try.ntmps22
    go_wp2_with fail
    go_ret
    exact ⟨by simp, HB0.out⟩
  by_cases g2 : kind = 2
  · subst g2
    have B := B1 (.inl rfl)
    clear B1 B2 g1
    go_enter Try.func22, Try.ntmps22
    go_wp2_with fail
    go_ret
    exact ⟨by simp, HB0.out⟩
  by_cases g3 : kind = 3
  · subst g3
    have B := B1 (.inr rfl)
    clear B1 B2 g1 g2
    go_enter Try.func22, Try.ntmps22
    go_wp2_with fail
    go_ret
    exact ⟨by simp, HB0.out⟩
  by_cases g4 : kind = 7
  · subst g4
    obtain ⟨B, B'⟩ := B2 rfl
    clear B1 B2 g1 g2 g3
    go_enter Try.func22, Try.ntmps22
    go_wp2_with fail
    go_ret
    exact ⟨by simp, HB0.out⟩
  clear B1 B2
  rw [if_neg g1, if_neg g2, if_neg g3, if_neg g4]
  go_enter Try.func22, Try.ntmps22
  go_wp2_with fail
  go_ret
  exact ⟨rfl, HB0.out⟩
end Go.Proofs.Ytiaehoppdihbdaa
