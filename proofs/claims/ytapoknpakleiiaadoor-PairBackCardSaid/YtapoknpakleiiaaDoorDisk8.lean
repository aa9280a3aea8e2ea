import Derived.Test.YtapoknpakleiiaaDoorDisk7
/- The contracts of package disk: the writes, and what only asks. -/
set_option linter.unusedVariables false
set_option linter.unusedSimpArgs false
namespace Go.Proofs.YtapoknpakleiiaaDoor
open Go.RowKit Go.Tm
set_option maxHeartbeats 400000
set_option maxRecDepth 100000
attribute [local go_sem ↓] Go.wp_at_zero Go.wp_at_succ

theorem writePage_any {w : World} {χ : Col} {j p : Nat} {s : DSt} (hd : IsDisk w χ j p s) (ha : s.acts < 4611686018427387904) (hlo : s.loose.length < 5000000000000) (n : Int) {A : Option Addr} {c : Nat} {b : List UInt8} (hb : Rda w A c b) (hbl : b.length ≤ 140737488351232) (hA : ∀ a, A = some a → χ a.block ≠ (j, 1)) {L : Nat} (hL : L = b.length) :
    Calls Tryd.prog 61 #[.pointer (some ⟨p, 0, none⟩), .int .i64 n, .slice A L c] w fun e w' => ∃ χ', e = .returned (.int .i64 (writeE s (pageI s.P n) b)) ∧ ActD w w' χ χ' j p (writeS s (pageI s.P n) b) := by
  subst hL
  obtain ⟨q, h⟩ := hd
  have HP := Lib.hid (page_any_d h n)
  have HR := Lib.hid (write_any_d h ha hlo (pageI s.P n) (pageI_hi _ _) hb hbl hA)
  obtain ⟨i, hi⟩ : ∃ i, pageI s.P n = i := ⟨_, rfl⟩
  rw [hi] at HP HR ⊢
  obtain ⟨S, hS⟩ : ∃ S, writeS s i b = S := ⟨_, rfl⟩
  obtain ⟨E, hE⟩ : ∃ E, writeE s i b = E := ⟨_, rfl⟩
  rw [hS, hE] at HR
  rw [hS, hE]
  obtain ⟨L, hL⟩ : ∃ L, b.length = L := ⟨_, rfl⟩
  rw [hL] at HR ⊢
  clear h hi hS hE hL ha hb hbl hA hlo
  go_enter Tryd.func61, Tryd.ntmps61
  go_wp2_with fail
  refine HP.out.mono ?_
  rintro e wx ⟨rfl, rfl⟩
  go_wp2_with fail
  refine HR.out.mono ?_
  rintro e w1 ⟨χ', rfl, hD⟩
  go_wp2_with fail
  go_ret
  exact ⟨χ', rfl, hD⟩

theorem writePair_any {w : World} {χ : Col} {j p : Nat} {s : DSt} (hd : IsDisk w χ j p s) (ha : s.acts < 4611686018427387904) (hlo : s.loose.length < 5000000000000) {A : Option Addr} {c : Nat} {b : List UInt8} (hb : Rda w A c b) (hbl : b.length ≤ 140737488351232) (hA : ∀ a, A = some a → χ a.block ≠ (j, 1)) {L : Nat} (hL : L = b.length) :
    Calls Tryd.prog 58 #[.pointer (some ⟨p, 0, none⟩), .slice A L c] w fun e w' => ∃ χ', e = .returned (.int .i64 (writeE s (s.P : Int) b)) ∧ ActD w w' χ χ' j p (writeS s (s.P : Int) b) := by
  subst hL
  obtain ⟨q, h⟩ := hd
  have c0 := h.row.cell (j := 0) (v := .int .i64 s.P) rfl
  have HR := Lib.hid (write_any_d h ha hlo (s.P : Int) (.inr (by omega)) hb hbl hA)
  obtain ⟨S, hS⟩ : ∃ S, writeS s (s.P : Int) b = S := ⟨_, rfl⟩
  obtain ⟨E, hE⟩ : ∃ E, writeE s (s.P : Int) b = E := ⟨_, rfl⟩
  rw [hS, hE] at HR
  rw [hS, hE]
  obtain ⟨L, hL⟩ : ∃ L, b.length = L := ⟨_, rfl⟩
  rw [hL] at HR ⊢
  clear h hS hE hL ha hb hbl hA hlo
  go_enter Tryd.func58, Tryd.ntmps58
  go_wp2_with fail
  refine HR.out.mono ?_
  rintro e w1 ⟨χ', rfl, hD⟩
  go_wp2_with fail
  go_ret
  exact ⟨χ', rfl, hD⟩

theorem acts_any {w : World} {χ : Col} {j p : Nat} {s : DSt} (hd : IsDisk w χ j p s) :
    Calls Tryd.prog 43 #[.pointer (some ⟨p, 0, none⟩)] w fun e w' => e = .returned (.int .i64 (s.acts : Int)) ∧ w = w' := by
  obtain ⟨q, h⟩ := hd
  have c8 := h.row.cell (j := 8) (v := .int .i64 s.acts) rfl
  clear h
  go_enter Tryd.func43, Tryd.ntmps43
  go_wp2_with fail
  go_ret
  exact ⟨rfl, rfl⟩

theorem shape_any {w : World} {χ : Col} {j p : Nat} {s : DSt} (hd : IsDisk w χ j p s) :
    Calls Tryd.prog 55 #[.pointer (some ⟨p, 0, none⟩)] w fun e w' => e = .returned (.agg #[.int .i64 s.P, .int .i64 s.K, .int .i64 s.M]) ∧ Below w.heap.size w w' := by
  obtain ⟨q, h⟩ := hd
  have c0 := h.row.cell (j := 0) (v := .int .i64 s.P) rfl
  have c1 := h.row.cell (j := 1) (v := .int .i64 s.K) rfl
  have c2 := h.row.cell (j := 2) (v := .int .i64 s.M) rfl
  have hlt := h.row.lt
  clear h
  go_enter Tryd.func55, Tryd.ntmps55
  go_wp2_with fail
  exact bodyPost_ret (v := .agg #[.int .i64 s.P, .int .i64 s.K, .int .i64 s.M]) (by simp [results, Tryd.results55, go_sem]) rfl ⟨rfl, (Below.refl _ _).alloc (Nat.le_refl _) _⟩

theorem stop_any {w : World} {χ : Col} {j p : Nat} {s : DSt} (hd : IsDisk w χ j p s) (ha : s.acts < 4611686018427387904) (n : Int) (hn : n ≤ 9223372036854775807) :
    Calls Tryd.prog 32 #[.pointer (some ⟨p, 0, none⟩), .int .i64 n] w fun e w' => (∃ v, e = .returned v) ∧ IsDisk w' χ j p (stopS s n) ∧ Touch w w' χ χ j := by
  obtain ⟨q, h⟩ := hd
  have c6 := h.row.cell (j := 8) (v := .int .i64 s.acts) rfl
  have c7 := h.row.cell (j := 9) (v := .int .i64 s.stop) rfl
  have c8 := h.row.cell (j := 10) (v := .bool s.dead) rfl
  have f7 := h.row.free 9
  have HF : Hid (∀ (w' : World) (m : Nat) , s.dead = false → stopN s n = m → w.grownBy w' (some p) → RowC w' p 100 (diskC { s with stop := m } q) → IsDisk w' χ j p (stopS s n) ∧ Touch w w' χ χ j) := Lib.hid fun w' m hd hm hg hr => by
    have hok := stopS_ok h.ok n hn ha
    have e : stopS s n = { s with stop := m } := by unfold stopS; rw [if_neg (by rw [hd]; decide), hm]
    rw [e] at hok ⊢
    exact ⟨⟨q, h.restate hg hr rfl rfl rfl rfl rfl hok⟩, Touch.of_own (kept_grown hg) (by rw [h.col]) (Ext.refl _ _)⟩
  have HR : Hid (∀ (w' : World) (m : Nat), RowC w' p 100 (diskC s q) → ∀ v, v = Value.int .i64 (m : Int) → RowC (w'.setCell ⟨p, 9, none⟩ v) p 100 (diskC { s with stop := m } q)) := Lib.hid fun w' m hr v hv => by subst hv; exact hr.stored 9 _
  have HR2 : Hid (∀ (w' : World) (m0 m : Nat), RowC w' p 100 (diskC { s with stop := m0 } q) → ∀ v, v = Value.int .i64 (m : Int) → RowC (w'.setCell ⟨p, 9, none⟩ v) p 100 (diskC { s with stop := m } q)) := Lib.hid fun w' m0 m hr v hv => by subst hv; exact hr.stored 9 _
  have HROW := Lib.hid h.row
  obtain ⟨D, hD⟩ : ∃ D, s.dead = D := ⟨_, rfl⟩
  rw [hD] at c8
  cases D with
  | true =>
    have HS : Hid (IsDisk w χ j p (stopS s n)) := Lib.hid (by unfold stopS; rw [hD]; exact ⟨q, h⟩)
    clear h hD HF HR HROW
    go_enter Tryd.func32, Tryd.ntmps32
    go_wp2_with fail
    refine bodyPost_ret (results_none rfl _ _ _) rfl ?_
    exact ⟨⟨_, rfl⟩, HS.out, Touch.of_below (Ext.refl _ _) (Below.refl _ _)⟩
  | false =>
    have HF := Lib.hid (fun w' m => HF.out w' m hD)
    clear h hD
    by_cases h1 : n < 1
    · have h1' : ¬ (1 : Int) ≤ n := by omega
      have hm : stopN s n = 0 := by unfold stopN; rw [if_pos h1]
      have HM := Lib.hid hm
      clear hm
      go_enter Tryd.func32, Tryd.ntmps32
      go_wp2_with fail
      go_end0
      have := HF.out _ 0 HM.out (cell_grown _ _ _ _) (HR.out _ 0 HROW.out _ rfl)
      exact ⟨⟨_, rfl⟩, this⟩
    · have h1' : (1 : Int) ≤ n := by omega
      by_cases h2 : n ≤ 4611686018427387904
      · have hm : stopN s n = n.toNat + s.acts := by unfold stopN; rw [if_neg h1, if_pos h2]
        have HM := Lib.hid hm
        have hw : IntKind.i64.wrap (n + (s.acts : Int)) = n + (s.acts : Int) := IntWalk.i64_in _ (by omega)
        have e1 : n + (s.acts : Int) = ((n.toNat + s.acts : Nat) : Int) := by omega
        have e2 : n = ((n.toNat : Nat) : Int) := by omega
        have HN := Lib.hid e2
        have HE := Lib.hid e1
        have HW := Lib.hid hw
        clear hm e1 e2 hw
        go_enter Tryd.func32, Tryd.ntmps32
        go_wp2_with fail
        go_region
        go_wp2_with fail
        go_end0
        have g3 := grown_trans (grown_trans (cell_grown w p 9 (.int .i64 0)) (cell_grown _ p 9 (.int .i64 n))) (cell_grown _ p 9 (.int .i64 (n + (s.acts : Int))))
        have r3 := HR2.out _ n.toNat (n.toNat + s.acts) (HR2.out _ 0 n.toNat (HR.out _ 0 HROW.out _ rfl) (.int .i64 n) (by rw [← HN.out])) (.int .i64 (n + (s.acts : Int))) (by rw [HE.out])
        exact ⟨⟨_, rfl⟩, HF.out _ _ HM.out ⟨g3.os, g3.tape, g3.output, g3.size, g3.block⟩ r3⟩
      · have hm : stopN s n = n.toNat := by unfold stopN; rw [if_neg h1, if_neg h2]
        have HM := Lib.hid hm
        have e1 : n = ((n.toNat : Nat) : Int) := by omega
        have HE := Lib.hid e1
        clear hm e1
        go_enter Tryd.func32, Tryd.ntmps32
        go_wp2_with fail
        go_end0
        have := HF.out _ n.toNat HM.out (grown_trans (cell_grown w p 9 (.int .i64 0)) (cell_grown _ p 9 (.int .i64 n))) (HR2.out _ 0 n.toNat (HR.out _ 0 HROW.out _ rfl) _ (by rw [← HE.out]))
        exact ⟨⟨_, rfl⟩, this⟩
end Go.Proofs.YtapoknpakleiiaaDoor
