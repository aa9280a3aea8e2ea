import Derived.Test.YtapoknpakleiiaaDoorOctGet
/- The contracts of the document's answer for layer 1 (package tidemarkref01). -/
set_option linter.unusedVariables false
set_option linter.unusedSimpArgs false
namespace Go.Proofs.YtapoknpakleiiaaDoor
open Go.RowKit Go.Tm
set_option maxHeartbeats 400000
set_option maxRecDepth 100000

theorem refPut_any {w : World} {A : Option Addr} {n c : Nat} {l : List UInt8} (h : Rda w A c l) (hn : n = l.length) (hl : l.length + 8 ≤ 140737488355328) (x : Int) (h0 : 0 ≤ x) (h1 : x < 18446744073709551616) (K : Nat) (hK : K ≤ 8) {kk : Int} (hkk : kk = (K : Int)) :
    Calls Tryd.prog 98 #[.slice A n c, .int .u64 x, .int .i64 kk] w fun e w' => ∃ A' c', e = .returned (.slice A' (l ++ leB K x.toNat).length c') ∧ New 5 w w' A' c' (l ++ leB K x.toNat) := by
  subst hn hkk
  have hnil := Own8.nilRow w w.heap.size 5
  go_enter Tryd.func98, Tryd.ntmps98
  go_wp2_with (at_builtin; refine wpList_app (l := []) (m := l) _ rfl _ _ rfl tU8 rfl hnil rfl rfl h (by simp; omega) (by omega) ?_)
  intro v1 w1 hown1 hg1
  have hb1 : Below w.heap.size w w1 := hnil.grown hg1 (Below.refl _ _) (Nat.le_refl _) (Nat.le_refl _)
  clear hnil
  go_wp2_with fail
  go_loopw [1, 7, 8] (fun v o i wr => ∃ k : Nat, k ≤ K ∧ i = .int .i64 k ∧ v = .int .u64 (x / 256 ^ k) ∧ Own8 wr w.heap.size 5 o (l ++ leB k x.toNat) ∧ Below w.heap.size w wr) (fun _ _ i _ => K - (intOf i).toNat)
  case atStart => exact ⟨0, by omega, rfl, by simp, by simpa [leB] using hown1, hb1⟩
  case round =>
    obtain ⟨k, hk, rfl, rfl, hown, hb⟩ := hrel
    have hB := hb.size
    have hk8 : k ≤ 8 := by omega
    have hq0 : 0 ≤ x / 256 ^ k := Int.ediv_nonneg h0 (Int.pow_nonneg (by omega))
    have hq1 : x / 256 ^ k < 18446744073709551616 := Int.lt_of_le_of_lt (Int.ediv_le_self _ h0) h1
    have hqd := Lib.hid (u64_div256 _ hq0 hq1)
    by_cases hlt : k < K
    · have hown1 := hown.alloc (.cells #[.int .u8 (x / 256 ^ k % 256)] 5)
      have hbx := Rda.box wr 5 (x / 256 ^ k % 256) _ (tmByte x h0 k)
      go_wp2_with (at_builtin; refine wpList_app (l := l ++ leB k x.toNat) _ rfl _ _ rfl tU8 rfl hown1 rfl rfl hbx ?c1 ?c2 ?_)
      case c1 => simp [leB_length]; omega
      case c2 => simp; omega
      intro v' w' hown' hg
      have hb1 : Below w.heap.size w w' := hown1.grown hg (hb.alloc hB _) (by simp; omega) (Nat.le_refl _)
      clear hown hown1 hbx
      go_wp2
      go_roundw
      case rel => exact ⟨k + 1, by omega, by go_num, by first | rw [div_step] | rw [hqd.out, div_step], by rw [leB_succ]; simpa using hown', hb1⟩
      case measure => simp [intOf]; omega
    · have he : k = K := by omega
      subst he
      obtain ⟨A', c', rfl, hr⟩ := own_rda hown
      go_wp2
      go_ret
      exact ⟨A', c', rfl, ⟨hown, hb⟩⟩

theorem leN_sum (l : List UInt8) (k : Nat) (h : k < l.length) : ((leN (l.drop (k + 1)) : Int) * 256 + ((l.getD k 0).toNat : Int)) = (leN (l.drop k) : Int) := by
  have h1 := leN_step l k h
  omega

theorem refGet_any {w : World} {A : Option Addr} {n c : Nat} {l : List UInt8} (h : Rda w A c l) (hn : n = l.length) (K : Nat) (hK : K ≤ 8) {kk : Int} (hkk : kk = (K : Int)) :
    Calls Tryd.prog 81 #[.slice A n c, .int .i64 kk] w fun e w' => e = .returned (.tuple #[.int .u64 (getV K l : Nat), .int .i64 (getE K l)]) ∧ w = w' := by
  subst hn hkk
  have hcap := h.cap
  have hmax := h.max
  unfold maxLen at hmax
  by_cases hlt : l.length < K
  · have e1 : getV K l = 0 := if_pos hlt
    have e2 : getE K l = 10 := if_pos hlt
    rw [e1, e2]
    clear e1 e2
    have hlt' : (l.length : Int) < (K : Int) := by omega
    go_enter Tryd.func81, Tryd.ntmps81
    go_wp2
    go_ret2
    exact ⟨rfl, rfl⟩
  · have e1 : getV K l = leN (l.take K) := if_neg hlt
    have e2 : getE K l = 0 := if_neg hlt
    rw [e1, e2]
    clear e1 e2
    have hm : (l.take K).length = K := by simp; omega
    have hr := h.take K (by omega)
    obtain ⟨m, hme⟩ : ∃ m, l.take K = m := ⟨_, rfl⟩
    rw [hme] at hm hr ⊢
    subst hm
    have hlt' : (m.length : Int) ≤ (l.length : Int) := by omega
    clear h hme
    go_enter Tryd.func81, Tryd.ntmps81
    go_wp2
    go_loop [6, 7] (fun v i => ∃ j : Nat, j ≤ m.length ∧ i = .int .i64 ((j : Int) - 1) ∧ v = .int .u64 (leN (m.drop j) : Nat)) (fun _ i => (intOf i + 1).toNat)
    case atStart => exact ⟨m.length, by omega, rfl, by simp [leN]⟩
    case round =>
      obtain ⟨j, hj, rfl, rfl⟩ := hrel
      by_cases hlt : 0 < j
      · obtain ⟨b, o, rfl, hc⟩ := hr.cells (by omega)
        obtain ⟨k, rfl⟩ : ∃ k, j = k + 1 := ⟨j - 1, by omega⟩
        have hcj := hc k (by omega)
        have hsum := leN_sum m k (by omega)
        have hvb := leN_lt8 (m.drop k) (by simp; omega)
        obtain ⟨V, hV⟩ : ∃ V : Nat, leN (m.drop (k + 1)) = V := ⟨_, rfl⟩
        obtain ⟨X, hX⟩ : ∃ X : UInt8, m.getD k 0 = X := ⟨_, rfl⟩
        have hx := X.toNat_lt
        rw [hX] at hcj
        rw [hV]
        rw [hV, hX] at hsum
        have hb1 : (V : Int) * 256 + (X.toNat : Int) < 18446744073709551616 := by omega
        have HS := Lib.hid hsum
        clear hsum hV hX hvb hc
        go_wp2
        go_round
        case rel => exact ⟨k, by omega, rfl, by rw [HS.out]⟩
        case measure => simp [intOf]
      · have : j = 0 := by omega
        subst this
        go_wp2
        go_ret2
        exact ⟨rfl, rfl⟩
end Go.Proofs.YtapoknpakleiiaaDoor
