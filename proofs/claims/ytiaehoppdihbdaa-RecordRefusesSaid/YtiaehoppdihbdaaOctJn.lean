import Derived.Test.YtiaehoppdihbdaaOct
/- The contracts of slices.Grow (of nil), slices.Concat, octet.Join. -/
set_option linter.unusedVariables false
set_option linter.unusedSimpArgs false
namespace Go.Proofs.Ytiaehoppdihbdaa
open Go.RowKit Go.Tm
set_option maxHeartbeats 400000
set_option maxRecDepth 100000

theorem grow_any {w : World} (n : Nat) (hn : n ≤ 140737488355328) :
    Calls Try.prog 69 #[.slice none 0 0, .int .i64 (n : Int)] w fun e w' => ∃ A' c', e = .returned (.slice A' 0 c') ∧ New 5 w w' A' c' [] := by
  by_cases h0 : n = 0
  · subst h0
    go_enter Try.func69, Try.ntmps69
    go_wp2
    go_ret
    exact ⟨none, 0, rfl, ⟨Own8.nilRow _ _ _, Below.refl _ _⟩⟩
  · obtain ⟨c, w', hr, hc, hown, hb⟩ := zeros_own (P := Try.prog) w (ty := 22) tU8 (tn := 3) Try.underlying3 n (by omega) hn
    have HR := Lib.hid hr
    clear hr
    have hp : (0 : Int) < (n : Int) := by omega
    go_enter Try.func69, Try.ntmps69
    go_wp2_with (at_builtin; refine Lib.wpList_append_run _ rfl _ _ _ _ rfl _ _ rfl rfl _ _ HR.out ?_)
    go_ret
    exact ⟨_, _, rfl, ⟨hown, hb⟩⟩

theorem concat_any {w : World} {A : Option Addr} {n c : Nat} {ls : List (List UInt8)} (h : RdRows w A c ls) (hn : n = ls.length) (hl : (cat ls).length ≤ 140737488355328) :
    Calls Try.prog 56 #[.slice A n c] w fun e w' => ∃ A' c', e = .returned (.slice A' (cat ls).length c') ∧ New 5 w w' A' c' (cat ls) := by
  subst hn
  have hcap := h.cap
  have hmax := h.max
  unfold maxLen at hmax
  go_enter Try.func56, Try.ntmps56
  go_wp2
  go_loop [3, 11] (fun s i => ∃ k : Nat, k ≤ ls.length ∧ i = .int .i64 k ∧ s = .int .i64 ((cat (ls.take k)).length : Nat)) (fun _ i => ls.length - (intOf i).toNat)
  case atStart => exact ⟨0, by omega, rfl, rfl⟩
  case round =>
    obtain ⟨k, hk, rfl, rfl⟩ := hrel
    by_cases hlt : k < ls.length
    · obtain ⟨b, o, rfl, hc⟩ := h.cells (by omega)
      obtain ⟨Aj, cj, hcj, hj⟩ := hc k hlt
      have hst := Lib.hid (cat_take_succ ls k hlt)
      have hle := cat_take_le ls (k + 1)
      rw [hst.out, List.length_append] at hle
      obtain ⟨S, hS⟩ : ∃ S, (cat (ls.take k)).length = S := ⟨_, rfl⟩
      obtain ⟨L, hL⟩ : ∃ L, (ls.getD k []).length = L := ⟨_, rfl⟩
      rw [hS, hL] at hle
      rw [hL] at hcj
      rw [hS]
      have HS := Lib.hid hS
      have HL := Lib.hid hL
      clear hS hL
      go_wp2
      go_round
      case rel => exact ⟨k + 1, by omega, by go_num, by rw [hst.out, List.length_append, HS.out, HL.out]; go_num⟩
      case measure => simp [intOf]; omega
    · have he : k = ls.length := by omega
      subst he
      rw [List.take_length]
      go_wp2_with fail
      refine (grow_any (cat ls).length (by omega)).mono ?_
      rintro e w1 ⟨A1, c1, rfl, hN⟩
      have h1 := h.below hN.below
      have hB1 := hN.below.size
      go_wp2_with fail
      go_loopw [6, 27] (fun o i wr => ∃ k : Nat, k ≤ ls.length ∧ i = .int .i64 k ∧ Own8 wr w.heap.size 5 o (cat (ls.take k)) ∧ Below w.heap.size w wr) (fun _ i _ => ls.length - (intOf i).toNat)
      case atStart => exact ⟨0, by omega, rfl, hN.own, hN.below⟩
      case round =>
        obtain ⟨k, hk, rfl, hown, hb⟩ := hrel
        have hB := hb.size
        by_cases hlt : k < ls.length
        · have hr := h.below hb
          obtain ⟨b, o, rfl, hc⟩ := hr.cells (by omega)
          obtain ⟨Aj, cj, hcj, hj⟩ := hc k hlt
          have hst0 := cat_take_succ ls k hlt
          obtain ⟨R, hR⟩ : ∃ R, ls.getD k [] = R := ⟨_, rfl⟩
          have hle := cat_take_le ls (k + 1)
          rw [hst0, hR, List.length_append] at hle
          rw [hR] at hst0 hcj hj
          have hst := Lib.hid hst0
          clear h h1 hr hc hst0 hR
          go_wp2_with (at_builtin; refine wpList_app (l := (cat (ls.take k))) (m := R) _ rfl _ _ rfl tU8 rfl hown rfl rfl hj (by omega) (by omega) ?_)
          intro v' w2 hown' hg
          have hb2 : Below w.heap.size w w2 := hown.grown hg hb hB (Nat.le_refl _)
          rw [← hst.out] at hown'
          clear hown hj hcj
          go_wp2
          go_roundw
          case rel => exact ⟨k + 1, by omega, by go_num, hown', hb2⟩
          case measure => simp [intOf]; omega
        · have he : k = ls.length := by omega
          subst he
          rw [List.take_length] at hown
          obtain ⟨A', c', rfl, hr⟩ := own_rda hown
          go_wp2
          go_ret
          exact ⟨A', c', rfl, ⟨hown, hb⟩⟩

theorem join_any {w : World} {A : Option Addr} {n c : Nat} {ls : List (List UInt8)} (h : RdRows w A c ls) (hn : n = ls.length) (hl : (cat ls).length ≤ 140737488355328) :
    Calls Try.prog 32 #[.slice A n c] w fun e w' => ∃ A' c', e = .returned (.slice A' (cat ls).length c') ∧ New 5 w w' A' c' (cat ls) := by
  subst hn
  go_enter Try.func32, Try.ntmps32
  go_wp2_with fail
  refine (concat_any h rfl hl).mono ?_
  rintro e w1 ⟨A1, c1, rfl, hN⟩
  go_wp2_with fail
  go_ret
  exact ⟨A1, c1, rfl, hN⟩
end Go.Proofs.Ytiaehoppdihbdaa
