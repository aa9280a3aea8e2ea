import Derived.Test.YtehmpdioofldaaaOctGet
/- The contracts of the document's answer for layer 1 (package tidemarkref01). -/
set_option linter.unusedVariables false
set_option linter.unusedSimpArgs false
namespace Go.Proofs.Ytehmpdioofldaaa
open Go.RowKit Go.Tm
set_option maxHeartbeats 400000
set_option maxRecDepth 100000

theorem leN_sum (l : List UInt8) (k : Nat) (h : k < l.length) : ((leN (l.drop (k + 1)) : Int) * 256 + ((l.getD k 0).toNat : Int)) = (leN (l.drop k) : Int) := by
  have h1 := leN_step l k h
  omega

theorem refGet_any {w : World} {A : Option Addr} {n c : Nat} {l : List UInt8} (h : Rda w A c l) (hn : n = l.length) (K : Nat) (hK : K ≤ 8) {kk : Int} (hkk : kk = (K : Int)) :
    Calls Try.prog 33 #[.slice A n c, .int .i64 kk] w fun e w' => e = .returned (.tuple #[.int .u64 (getV K l : Nat), .int .i64 (getE K l)]) ∧ w = w' := by
  subst hn hkk
  have hcap := h.cap
  have hmax := h.max
  unfold maxLen at hmax
  by_cases hlt : l.length < K
  · have e1 : getV K l = 0 := if_pos hlt
    have e2 : getE K l = 10 := if_pos hlt
    rw [e1, e2]
    clear e1 e2
    have hlt' : (l.length : Int) < (K : Int) := by omega
    go_enter Try.func33, Try.ntmps33
    go_wp2
    go_ret2
    exact ⟨rfl, rfl⟩
  · have e1 : getV K l = leN (l.take K) := if_neg hlt
    have e2 : getE K l = 0 := if_neg hlt
    rw [e1, e2]
    clear e1 e2
    have hm : (l.take K).length = K := by simp; omega
    have hr := h.take K (by omega)
    obtain ⟨m, hme⟩ : ∃ m, l.take K = m := ⟨_, rfl⟩
    rw [hme] at hm hr ⊢
    subst hm
    have hlt' : (m.length : Int) ≤ (l.length : Int) := by omega
    clear h hme
    go_enter Try.func33, Try.ntmps33
    go_wp2
    go_loop [6, 7] (fun v i => ∃ j : Nat, j ≤ m.length ∧ i = .int .i64 ((j : Int) - 1) ∧ v = .int .u64 (leN (m.drop j) : Nat)) (fun _ i => (intOf i + 1).toNat)
    case atStart => exact ⟨m.length, by omega, rfl, by simp [leN]⟩
    case round =>
      obtain ⟨j, hj, rfl, rfl⟩ := hrel
      by_cases hlt : 0 < j
      · obtain ⟨b, o, rfl, hc⟩ := hr.cells (by omega)
        obtain ⟨k, rfl⟩ : ∃ k, j = k + 1 := ⟨j - 1, by omega⟩
        have hcj := hc k (by omega)
        have hsum := leN_sum m k (by omega)
        have hvb := leN_lt8 (m.drop k) (by simp; omega)
        obtain ⟨V, hV⟩ : ∃ V : Nat, leN (m.drop (k + 1)) = V := ⟨_, rfl⟩
        obtain ⟨X, hX⟩ : ∃ X : UInt8, m.getD k 0 = X := ⟨_, rfl⟩
        have hx := X.toNat_lt
        rw [hX] at hcj
        rw [hV]
        rw [hV, hX] at hsum
        have hb1 : (V : Int) * 256 + (X.toNat : Int) < 18446744073709551616 := by omega
        have HS := Lib.hid hsum
        clear hsum hV hX hvb hc
        go_wp2
        go_round
        case rel => exact ⟨k, by omega, rfl, by rw [HS.out]⟩
        case measure => simp [intOf]
      · have : j = 0 := by omega
        subst this
        go_wp2
        go_ret2
        exact ⟨rfl, rfl⟩
end Go.Proofs.Ytehmpdioofldaaa
