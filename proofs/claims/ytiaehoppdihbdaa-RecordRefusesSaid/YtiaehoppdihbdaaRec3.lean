import Derived.Test.YtiaehoppdihbdaaRecPure
import Derived.Test.YtiaehoppdihbdaaOct
import Derived.Test.YtiaehoppdihbdaaOpen
import Derived.Test.YtiaehoppdihbdaaSlotPure
/- The contracts of package record: which records are right. -/
set_option linter.unusedVariables false
set_option linter.unusedSimpArgs false
namespace Go.Proofs.Ytiaehoppdihbdaa
open Go.RowKit Go.Tm
set_option maxHeartbeats 400000
set_option maxRecDepth 100000

theorem isLsn_any {w : World} (n : Int) : Calls Try.prog 48 #[.int .i64 n] w fun e w' => e = .returned (.bool (lsnB n)) ∧ w = w' := by
  by_cases h1 : 1 ≤ n
  · by_cases h2 : n ≤ 1152921504606846976
    · have e : lsnB n = true := (lsnB_iff n).2 ⟨h1, h2⟩
      rw [e]
      clear e
      go_enter Try.func48, Try.ntmps48
      go_wp2
      go_ret
      exact ⟨rfl, rfl⟩
    · have e : lsnB n = false := by have := mt (lsnB_iff n).1 (fun h => h2 h.2); simpa using this
      rw [e]
      clear e
      have h2' : 1152921504606846976 < n := by omega
      go_enter Try.func48, Try.ntmps48
      go_wp2
      go_ret
      exact ⟨rfl, rfl⟩
  · have e : lsnB n = false := by have := mt (lsnB_iff n).1 (fun h => h1 h.1); simpa using this
    rw [e]
    clear e
    have h1' : n < 1 := by omega
    go_enter Try.func48, Try.ntmps48
    go_wp2
    go_ret
    exact ⟨rfl, rfl⟩
theorem isNext_any {w : World} (n : Int) : Calls Try.prog 51 #[.int .i64 n] w fun e w' => e = .returned (.bool (nxtB n)) ∧ w = w' := by
  by_cases h0 : n = 0
  · subst h0
    go_enter Try.func51, Try.ntmps51
    go_wp2
    go_ret
    exact ⟨rfl, rfl⟩
  · have e : nxtB n = lsnB n := by
      by_cases h : nxtB n = true
      · rw [h, (lsnB_iff n).2 (by have := (nxtB_iff n).1 h; omega)]
      · have h2 : ¬ lsnB n = true := fun h' => h ((nxtB_iff n).2 (by have := (lsnB_iff n).1 h'; omega))
        simp only [Bool.not_eq_true] at h h2
        rw [h, h2]
    rw [e]
    have hb : (n == 0) = false := by simpa using h0
    have hP := isLsn_any (w := w) n
    obtain ⟨B, hB⟩ : ∃ B, lsnB n = B := ⟨_, rfl⟩
    rw [hB] at hP ⊢
    have HP := Lib.hid hP
    clear e hP hB h0
    go_enter Try.func51, Try.ntmps51
    go_wp2_with fail
    refine HP.out.mono ?_
    rintro e w' ⟨rfl, rfl⟩
    go_wp2_with fail
    go_ret
    exact ⟨rfl, rfl⟩
def pageB (p : Int) : Bool := decide (0 ≤ p) && decide (p < 16)
theorem isPage_any {w : World} (p : Int) : Calls Try.prog 49 #[.int .i64 p] w fun e w' => e = .returned (.bool (pageB p)) ∧ w = w' := by
  by_cases h1 : 0 ≤ p
  · by_cases h2 : p < 16
    · have e : pageB p = true := by simp [pageB, h1, h2]
      rw [e]
      clear e
      go_enter Try.func49, Try.ntmps49
      go_wp2
      go_ret
      exact ⟨rfl, rfl⟩
    · have e : pageB p = false := by simp [pageB, h2]
      rw [e]
      clear e
      go_enter Try.func49, Try.ntmps49
      go_wp2
      go_ret
      exact ⟨rfl, rfl⟩
  · have e : pageB p = false := by simp [pageB, h1]
    rw [e]
    clear e
    have h1' : p < 0 := by omega
    go_enter Try.func49, Try.ntmps49
    go_wp2
    go_ret
    exact ⟨rfl, rfl⟩
def withB (frm : Int) (n : Nat) : Bool := decide (1 ≤ n) && decide (n ≤ 128) && decide (16 ≤ frm) && decide (frm ≤ 144 - (n : Int))
theorem rangB_eq (p f : Int) (n : Nat) : rangB p f n = (pageB p && withB f n) := by simp [rangB, pageB, withB, Bool.and_assoc]
theorem recWithin_any {w : World} (frm : Int) (n : Nat) (hn : n ≤ 140737488355328) : Calls Try.prog 50 #[.int .i64 frm, .int .i64 (n : Int)] w fun e w' => e = .returned (.bool (withB frm n)) ∧ w = w' := by
  by_cases h1 : 1 ≤ n
  · by_cases h2 : n ≤ 128
    · by_cases h3 : 16 ≤ frm
      · by_cases h4 : frm ≤ 144 - (n : Int)
        · have e : withB frm n = true := by simp [withB, h1, h2, h3, h4]
          rw [e]
          clear e
          go_enter Try.func50, Try.ntmps50
          go_wp2
          go_ret
          exact ⟨rfl, rfl⟩
        · have e : withB frm n = false := by simp [withB, h4]
          rw [e]
          clear e
          have h4' : 144 - (n : Int) < frm := by omega
          go_enter Try.func50, Try.ntmps50
          go_wp2
          go_ret
          exact ⟨rfl, rfl⟩
      · have e : withB frm n = false := by simp [withB, h3]
        rw [e]
        clear e
        have h3' : frm < 16 := by omega
        go_enter Try.func50, Try.ntmps50
        go_wp2
        go_ret
        exact ⟨rfl, rfl⟩
    · have e : withB frm n = false := by simp [withB, h2]
      rw [e]
      clear e
      have h2' : (128 : Int) < (n : Int) := by omega
      go_enter Try.func50, Try.ntmps50
      go_wp2
      go_ret
      exact ⟨rfl, rfl⟩
  · have e : withB frm n = false := by simp [withB, h1]
    rw [e]
    clear e
    have h0 : n = 0 := by omega
    subst h0
    go_enter Try.func50, Try.ntmps50
    go_wp2
    go_ret
    exact ⟨rfl, rfl⟩
end Go.Proofs.Ytiaehoppdihbdaa
