import Derived.Test.YtapoknpakleiiaaDoorJPairBack38
/- The contracts of package disk: Sync, SyncMasters; images. -/
set_option linter.unusedVariables false
set_option linter.unusedSimpArgs false
namespace Go.Proofs.YtapoknpakleiiaaDoor
open Go.RowKit Go.Tm
set_option maxHeartbeats 400000
set_option maxRecDepth 100000
attribute [local go_sem ↓] Go.wp_at_zero Go.wp_at_succ

theorem sync_any {w : World} {χ : Col} {j p : Nat} {s : DSt} (hd : IsDisk w χ j p s) (ha : s.acts < 4611686018427387904) (hlo : s.loose.length < 5000000000000) :
    Calls Tryd.prog 59 #[.pointer (some ⟨p, 0, none⟩)] w fun e w' => ∃ χ', e = .returned (.int .i64 (syncE s)) ∧ ActD w w' χ χ' j p (syncS s false) := by
  have HR := Lib.hid (synced_any hd ha hlo false)
  clear hd ha hlo
  go_enter Tryd.func59, Tryd.ntmps59
  go_wp2_with fail
  refine HR.out.mono ?_
  rintro e w1 ⟨χ', rfl, hD⟩
  go_wp2_with fail
  go_ret
  exact ⟨χ', rfl, hD⟩

theorem rest_any {w : World} (n : Int) (m : Nat) (h0 : -9223372036854775808 ≤ n) (h1 : n ≤ 9223372036854775807) (hm : 0 < m) (hm2 : m ≤ 1000000) :
    Calls Tryd.prog 69 #[.int .i64 n, .int .i64 (m : Int)] w fun e w' => e = .returned (.int .i64 (restI n m : Nat)) ∧ w = w' := by
  have hm0 : (m : Int) ≠ 0 := by omega
  have hb : ((m : Int) == 0) = false := beq_eq_false_iff_ne.2 hm0
  have hr : (wrap64 (n.tmod (m : Int) + (m : Int))).tmod (m : Int) = ((restI n m : Nat) : Int) := by
    have g0 := Int.emod_nonneg n hm0
    have g1 := Int.emod_lt_of_pos n (show (0 : Int) < m by omega)
    have e0 : n.tmod (m : Int) = n % (m : Int) ∨ n.tmod (m : Int) = n % (m : Int) - (m : Int) := by
      rw [Int.tmod_eq_emod]
      split
      · exact .inl (by omega)
      · exact .inr (by omega)
    have e1 : wrap64 (n.tmod (m : Int) + (m : Int)) = n.tmod (m : Int) + (m : Int) := (IntWalk.i64_left _).symm.trans (IntWalk.i64_in _ (by omega))
    rw [e1, Int.tmod_eq_emod_of_nonneg (by omega)]
    unfold restI
    rcases e0 with e0 | e0 <;> rw [e0]
    · rw [Int.add_emod_right, Int.emod_emod]
      omega
    · rw [Int.sub_add_cancel, Int.emod_emod]
      omega
  have HR := Lib.hid hr
  clear hr
  go_enter Tryd.func69, Tryd.ntmps69
  go_wp2_with fail
  go_ret
  exact ⟨ret_int HR.out, rfl⟩
end Go.Proofs.YtapoknpakleiiaaDoor
