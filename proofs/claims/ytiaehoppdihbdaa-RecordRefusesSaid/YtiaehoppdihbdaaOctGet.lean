import Derived.Test.YtiaehoppdihbdaaOct
/- The contracts of package octet: numbers that are read, and the reader. -/
set_option linter.unusedVariables false
set_option linter.unusedSimpArgs false
namespace Go.Proofs.Ytiaehoppdihbdaa
open Go.RowKit Go.Tm
set_option maxHeartbeats 400000
set_option maxRecDepth 100000


theorem little_any {w : World} {A : Option Addr} {n c : Nat} {l : List UInt8} (h : Rda w A c l) (hn : n = l.length) (hl : l.length ≤ 8) :
    Calls Try.prog 72 #[.slice A n c] w fun e w' => e = .returned (.int .u64 (leN l : Nat)) ∧ w = w' := by
  subst hn
  go_enter Try.func72, Try.ntmps72
  go_wp2
  go_loop [3, 4] (fun v i => ∃ j : Nat, j ≤ l.length ∧ i = .int .i64 ((j : Int) - 1) ∧ v = .int .u64 (leN (l.drop j) : Nat)) (fun _ i => (intOf i + 1).toNat)
  case atStart => exact ⟨l.length, by omega, rfl, by simp [leN]⟩
  case round =>
    obtain ⟨j, hj, rfl, rfl⟩ := hrel
    by_cases hlt : 0 < j
    · obtain ⟨b, o, rfl, hc⟩ := h.cells (by omega)
      obtain ⟨k, rfl⟩ : ∃ k, j = k + 1 := ⟨j - 1, by omega⟩
      have hcj := hc k (by omega)
      have hor := Lib.hid (leN_or l k (by omega) hl)
      go_wp2
      go_round
      case rel => exact ⟨k, by omega, rfl, congrArg (Value.int IntKind.u64) (by have := hor.out; rw [List.getD_eq_getElem?_getD] at this; exact this)⟩
      case measure => simp [intOf]
    · have : j = 0 := by omega
      subst this
      go_wp2
      go_ret
      exact ⟨rfl, rfl⟩




theorem get8_any {w : World} {A : Option Addr} {n c : Nat} {l : List UInt8} (h : Rda w A c l) (hn : n = l.length) :
    Calls Try.prog 73 #[.slice A n c] w fun e w' => e = .returned (.tuple #[.int .u64 (getV 8 l : Nat), .int .i64 (getE 8 l)]) ∧ w = w' := by
  subst hn
  have hcap := h.cap
  have hmax := h.max
  unfold maxLen at hmax
  by_cases hlt : l.length < 8
  · have e1 : getV 8 l = 0 := if_pos hlt
    have e2 : getE 8 l = 10 := if_pos hlt
    rw [e1, e2]
    clear e1 e2
    go_enter Try.func73, Try.ntmps73
    go_wp2_with (go_at_call 53; refine (width8_any _).mono ?_; rintro e w1 ⟨rfl, rfl⟩)
    go_ret2
    exact ⟨rfl, rfl⟩
  · have e1 : getV 8 l = leN (l.take 8) := if_neg hlt
    have e2 : getE 8 l = 0 := if_neg hlt
    have hb := getV_lt 8 l
    rw [e1, e2]
    rw [e1] at hb
    clear e1 e2
    obtain ⟨V, hV0, hVb⟩ : ∃ V : Int, (leN (l.take 8) : Int) = V ∧ 0 ≤ V ∧ V < 18446744073709551616 := ⟨_, rfl, by omega, by omega⟩
    obtain ⟨hV1, hV2⟩ := hVb
    rw [hV0]
    have hV := Lib.hid hV0
    clear hV0 hb
    go_enter Try.func73, Try.ntmps73
    go_wp2_with (first | (go_at_call 53; refine (width8_any _).mono ?_; rintro e w1 ⟨rfl, rfl⟩) | ((with_reducible refine at_slice ?_); refine wpList_slice8 (L := 0) (H := 8) (M := c) rfl _ _ _ _ rfl tU8 rfl rfl h rfl rfl rfl (.no _) (.at _ _ _ _ (by omega)) (.no _) (.inl rfl) (by omega) (by omega) (by omega) (by omega) ?_))
    intro hp
    go_wp2_with fail
    refine (little_any hp (by simp; omega) (by simp; omega)).mono ?_
    rw [hV.out]
    rintro e w1 ⟨rfl, rfl⟩
    go_wp2_with fail
    go_ret2
    exact ⟨rfl, rfl⟩

end Go.Proofs.Ytiaehoppdihbdaa
