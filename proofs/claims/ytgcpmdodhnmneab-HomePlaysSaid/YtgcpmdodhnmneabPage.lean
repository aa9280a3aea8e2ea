import Derived.Test.YtgcpmdodhnmneabCrc
import Derived.Test.YtgcpmdodhnmneabOctGet
import Derived.Test.YtgcpmdodhnmneabOctJn
import Derived.Test.YtgcpmdodhnmneabOctRd
import Derived.Test.YtgcpmdodhnmneabBuf
/- The contracts of package page. -/
set_option linter.unusedVariables false
set_option linter.unusedSimpArgs false
namespace Go.Proofs.Ytgcpmdodhnmneab
open Go.RowKit Go.Tm
set_option maxHeartbeats 400000
set_option maxRecDepth 100000

theorem bytes_any (s : Int) (w : World) : Calls Try.prog 58 #[.int .i64 s] w fun e w' => e = .returned (.int .i64 (bytesP s)) ∧ w = w' := by
  by_cases h1 : s < 1
  · rw [bytesP_no s (.inl h1)]
    go_enter Try.func58, Try.ntmps58
    go_wp2
    go_ret
    exact ⟨rfl, rfl⟩
  · by_cases h2 : 8 < s
    · rw [bytesP_no s (.inr h2)]
      go_enter Try.func58, Try.ntmps58
      go_wp2
      go_ret
      exact ⟨rfl, rfl⟩
    · have h3 : 1 ≤ s := by omega
      have h4 : s ≤ 8 := by omega
      have e : bytesP s = 16 + s * 16 + 8 := by rw [bytesP_ok s h3 h4]; omega
      rw [e]
      clear e h1 h2
      go_enter Try.func58, Try.ntmps58
      go_wp2
      go_ret
      exact ⟨rfl, rfl⟩

theorem slots_any (A : Option Addr) (n c : Nat) (hn : n ≤ 140737488355328) (w : World) : Calls Try.prog 54 #[.slice A n c] w fun e w' => e = .returned (.int .i64 (slotsP n : Nat)) ∧ w = w' := by
  by_cases hp : 0 < slotsP n
  · have hl := slotsP_len hp
    have h8 := slotsP_le n
    obtain ⟨s, hs⟩ : ∃ s, slotsP n = s := ⟨_, rfl⟩
    rw [hs] at hl hp h8 ⊢
    clear hs
    subst hl
    have P1 := bytes_any (s : Int) w
    rw [bytesP_ok _ (by omega) (by omega)] at P1
    have P1' := Lib.hid P1
    clear P1
    go_enter Try.func54, Try.ntmps54
    go_wp2_with fail
    have e : (24 + 16 * (s : Int) - 16 - 8) / 16 = s := by omega
    rw [e]
    refine P1'.out.mono ?_
    rintro e w1 ⟨rfl, rfl⟩
    clear e
    have e : (24 + 16 * (s : Int) - 16 - 8) / 16 = s := by omega
    go_wp2_with fail
    go_ret
    exact ⟨rfl, rfl⟩
  · have h0 : slotsP n = 0 := by omega
    have hno : ¬ (40 ≤ n ∧ n ≤ 152 ∧ n % 16 = 8) := fun h => hp (slotsP_pos.2 h)
    rw [h0]
    clear h0 hp
    by_cases h24 : 24 ≤ n
    · by_cases h40 : 40 ≤ n
      · obtain ⟨q, hq⟩ : ∃ q : Int, ((n : Int) - 16 - 8) / 16 = q := ⟨_, rfl⟩
        have hq1 : 1 ≤ q := by omega
        have hb : (bytesP q != (n : Int)) = true := by
          rw [bne_iff_ne]
          by_cases h8 : q ≤ 8
          · rw [bytesP_ok q hq1 h8]; omega
          · rw [bytesP_no q (by omega)]; omega
        have P1 := Lib.hid (bytes_any q w)
        have HB := Lib.hid hb
        obtain ⟨B, hB⟩ : ∃ B, bytesP q = B := ⟨_, rfl⟩
        rw [hB] at hb P1
        clear HB hB hno
        go_enter Try.func54, Try.ntmps54
        go_wp2_with fail
        refine P1.out.mono ?_
        rintro e w1 ⟨rfl, rfl⟩
        go_wp2_with fail
        go_ret
        exact ⟨rfl, rfl⟩
      · have hlt : ((n : Int) - 16 - 8) / 16 < 1 := by omega
        clear hno
        go_enter Try.func54, Try.ntmps54
        go_wp2_with fail
        go_ret
        exact ⟨rfl, rfl⟩
    · have hlt : ((n : Int) - 16 - 8).tdiv 16 < 1 := by
        have : (-((n : Int) - 16 - 8)).tdiv 16 = -(((n : Int) - 16 - 8).tdiv 16) := Int.neg_tdiv _ _
        rw [Int.tdiv_eq_ediv_of_nonneg (by omega)] at this
        omega
      clear hno
      go_enter Try.func54, Try.ntmps54
      go_wp2_with fail
      go_ret
      exact ⟨rfl, rfl⟩
end Go.Proofs.Ytgcpmdodhnmneab
