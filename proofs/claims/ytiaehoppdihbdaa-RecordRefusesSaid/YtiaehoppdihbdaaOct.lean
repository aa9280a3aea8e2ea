import Derived.Test.YtiaehoppdihbdaaProg
import Derived.Test.YtiaehoppdihbdaaLib
/- The contracts of package octet, of slices.Clone, slices.Grow and slices.Concat, and of the document's answer for layer 1. -/
set_option linter.unusedVariables false
set_option linter.unusedSimpArgs false
namespace Go.Proofs.Ytiaehoppdihbdaa
open Go.RowKit Go.Tm
set_option maxHeartbeats 400000
set_option maxRecDepth 100000

theorem tU8 : U8 Try.prog 22 5 := ⟨Try.underlying22, Try.underlying5, by
  obtain ⟨i, h, h1, h2, h3⟩ := info_parts (P := Try.prog) (e := 5) (z := .int .u8 0) (size := 1) (bytes := 1) (by kernel_rfl)
  exact ⟨i, h, h1, h2, h3⟩⟩

theorem own_knob : ownKnob Try.prog.godebug = none := by kernel_rfl
theorem laid_out : laidOutB Try.prog = true := by kernel_rfl

theorem clone_any {w : World} {A : Option Addr} {n c : Nat} {l : List UInt8} (h : Rda w A c l) (hn : n = l.length) (hl : l.length ≤ 140737488355328) :
    Calls Try.prog 52 #[.slice A n c] w fun e w' => ∃ A' c', e = .returned (.slice A' l.length c') ∧ New 5 w w' A' c' l := by
  subst hn
  cases A with
  | none =>
    have h0 := h.nil rfl
    subst h0
    have : l = [] := List.eq_nil_of_length_eq_zero (by have := h.cap; omega)
    subst this
    go_enter Try.func52, Try.ntmps52
    go_wp2
    go_ret
    exact ⟨none, 0, rfl, ⟨Own8.nilRow _ _ _, Below.refl _ _⟩⟩
  | some a =>
    have hown := Own8.none_ w w.heap.size 5 (Nat.le_refl _)
    go_enter Try.func52, Try.ntmps52
    go_wp2_with (at_builtin; refine wpList_app (l := []) _ rfl _ _ rfl tU8 rfl hown rfl rfl (h.alloc _) (by simpa using hl) (by simp) ?_)
    intro v' w' hown' hg
    go_wp2
    go_ret
    obtain ⟨A', c', rfl, hr⟩ := own_rda hown'
    exact ⟨A', c', rfl, ⟨hown', hown.grown hg ((Below.refl _ _).alloc (Nat.le_refl _) _) (by simp) (Nat.le_refl _)⟩⟩

def topOf (n k : Nat) : Int := (256 ^ n / 256 ^ k - 1 : Nat)
theorem topOf_all : ∀ n, n < 9 → ∀ k, k < n → 0 < topOf n k ∧ topOf n k / 256 = topOf n (k + 1) := by decide +kernel
theorem topOf_end : ∀ n, n < 9 → topOf n n = 0 := by decide +kernel


theorem width1_any (w : World) : Calls Try.prog 54 #[] w fun e w' => e = .returned (.int .i64 1) ∧ w = w' := by
  go_enter Try.func54, Try.ntmps54
  go_wp2
  have e0 : IntKind.u64.wrap (bits BinOp.xor IntKind.u8 IntKind.u8.max 0) = topOf 1 0 := by kernel_rfl
  rw [e0]
  clear e0
  go_loop [1, 2] (fun n t => ∃ k : Nat, k ≤ 1 ∧ n = .int .i64 k ∧ t = .int .u64 (topOf 1 k)) (fun n _ => 1 - (intOf n).toNat)
  case atStart => exact ⟨0, by omega, rfl, rfl⟩
  case round =>
    obtain ⟨k, hk, rfl, rfl⟩ := hrel
    by_cases h : k < 1
    · obtain ⟨hpos, hst0⟩ := topOf_all 1 (by omega) k h
      have hst := Lib.hid hst0
      clear hst0
      go_wp2
      go_round
      case rel => exact ⟨k + 1, by omega, by go_num, by rw [hst.out]⟩
      case measure => simp [intOf]; omega
    · have he : k = 1 := by omega
      subst he
      have hz := topOf_end 1 (by omega)
      rw [hz]
      clear hz h hk
      go_wp2
      go_ret
      exact ⟨rfl, rfl⟩

theorem width2_any (w : World) : Calls Try.prog 55 #[] w fun e w' => e = .returned (.int .i64 2) ∧ w = w' := by
  go_enter Try.func55, Try.ntmps55
  go_wp2
  have e0 : IntKind.u64.wrap (bits BinOp.xor IntKind.u16 IntKind.u16.max 0) = topOf 2 0 := by kernel_rfl
  rw [e0]
  clear e0
  go_loop [1, 2] (fun n t => ∃ k : Nat, k ≤ 2 ∧ n = .int .i64 k ∧ t = .int .u64 (topOf 2 k)) (fun n _ => 2 - (intOf n).toNat)
  case atStart => exact ⟨0, by omega, rfl, rfl⟩
  case round =>
    obtain ⟨k, hk, rfl, rfl⟩ := hrel
    by_cases h : k < 2
    · obtain ⟨hpos, hst0⟩ := topOf_all 2 (by omega) k h
      have hst := Lib.hid hst0
      clear hst0
      go_wp2
      go_round
      case rel => exact ⟨k + 1, by omega, by go_num, by rw [hst.out]⟩
      case measure => simp [intOf]; omega
    · have he : k = 2 := by omega
      subst he
      have hz := topOf_end 2 (by omega)
      rw [hz]
      clear hz h hk
      go_wp2
      go_ret
      exact ⟨rfl, rfl⟩


theorem width8_any (w : World) : Calls Try.prog 53 #[] w fun e w' => e = .returned (.int .i64 8) ∧ w = w' := by
  go_enter Try.func53, Try.ntmps53
  go_wp2
  have e0 : bits BinOp.xor IntKind.u64 IntKind.u64.max 0 = topOf 8 0 := by kernel_rfl
  rw [e0]
  clear e0
  go_loop [1, 2] (fun n t => ∃ k : Nat, k ≤ 8 ∧ n = .int .i64 k ∧ t = .int .u64 (topOf 8 k)) (fun n _ => 8 - (intOf n).toNat)
  case atStart => exact ⟨0, by omega, rfl, rfl⟩
  case round =>
    obtain ⟨k, hk, rfl, rfl⟩ := hrel
    by_cases h : k < 8
    · obtain ⟨hpos, hst0⟩ := topOf_all 8 (by omega) k h
      have hst := Lib.hid hst0
      clear hst0
      go_wp2
      go_round
      case rel => exact ⟨k + 1, by omega, by go_num, by rw [hst.out]⟩
      case measure => simp [intOf]; omega
    · have he : k = 8 := by omega
      subst he
      have hz := topOf_end 8 (by omega)
      rw [hz]
      clear hz h hk
      go_wp2
      go_ret
      exact ⟨rfl, rfl⟩
theorem put1_any {w : World} {A : Option Addr} {n c : Nat} {l : List UInt8} (h : Rda w A c l) (hn : n = l.length) (hl : l.length + 1 ≤ 140737488355328) (x : Int) (h0 : 0 ≤ x) (h1 : x < 256) :
    Calls Try.prog 30 #[.slice A n c, .int .u8 x] w fun e w' => ∃ A' c', e = .returned (.slice A' (l ++ leB 1 x.toNat).length c') ∧ New 5 w w' A' c' (l ++ leB 1 x.toNat) := by
  subst hn
  go_enter Try.func30, Try.ntmps30
  go_wp2_with fail
  refine (clone_any h rfl (by omega)).mono ?_
  rintro e w1 ⟨A1, c1, rfl, hN⟩
  go_wp2_with fail
  refine (width1_any _).mono ?_
  rintro e w2 ⟨rfl, rfl⟩
  go_wp2_with fail
  go_loopw [5, 6, 12] (fun o r i wr => ∃ k : Nat, k ≤ 1 ∧ i = .int .i64 k ∧ r = .int .u64 (x / 256 ^ k) ∧ Own8 wr w.heap.size 5 o (l ++ leB k x.toNat) ∧ Below w.heap.size w wr) (fun _ _ i _ => 1 - (intOf i).toNat)
  case atStart => exact ⟨0, by omega, rfl, by simp, by simpa [leB] using hN.own, hN.below⟩
  case round =>
    obtain ⟨k, hk, rfl, rfl, hown, hb⟩ := hrel
    have hB := hb.size
    by_cases hlt : k < 1
    · have hown1 := hown.alloc (.cells #[.int .u8 (x / 256 ^ k % 256)] 5)
      have hbx := Rda.box wr 5 (x / 256 ^ k % 256) _ (tmByte x h0 k)
      go_wp2_with (at_builtin; refine wpList_app (l := l ++ leB k x.toNat) _ rfl _ _ rfl tU8 rfl hown1 rfl rfl hbx ?c1 ?c2 ?_)
      case c1 => simp [leB_length]; omega
      case c2 => simp; omega
      intro v' w' hown' hg
      have hb1 : Below w.heap.size w w' := hown1.grown hg (hb.alloc hB _) (by simp; omega) (Nat.le_refl _)
      clear hown hown1 hbx
      go_wp2
      go_roundw
      case rel => exact ⟨k + 1, by omega, by go_num, by rw [div_step], by rw [leB_succ]; simpa using hown', hb1⟩
      case measure => simp [intOf]; omega
    · have he : k = 1 := by omega
      subst he
      obtain ⟨A', c', rfl, hr⟩ := own_rda hown
      go_wp2
      go_ret
      exact ⟨A', c', rfl, ⟨hown, hb⟩⟩

theorem put2_any {w : World} {A : Option Addr} {n c : Nat} {l : List UInt8} (h : Rda w A c l) (hn : n = l.length) (hl : l.length + 2 ≤ 140737488355328) (x : Int) (h0 : 0 ≤ x) (h1 : x < 65536) :
    Calls Try.prog 31 #[.slice A n c, .int .u16 x] w fun e w' => ∃ A' c', e = .returned (.slice A' (l ++ leB 2 x.toNat).length c') ∧ New 5 w w' A' c' (l ++ leB 2 x.toNat) := by
  subst hn
  go_enter Try.func31, Try.ntmps31
  go_wp2_with fail
  refine (clone_any h rfl (by omega)).mono ?_
  rintro e w1 ⟨A1, c1, rfl, hN⟩
  go_wp2_with fail
  refine (width2_any _).mono ?_
  rintro e w2 ⟨rfl, rfl⟩
  go_wp2_with fail
  go_loopw [5, 6, 12] (fun o r i wr => ∃ k : Nat, k ≤ 2 ∧ i = .int .i64 k ∧ r = .int .u64 (x / 256 ^ k) ∧ Own8 wr w.heap.size 5 o (l ++ leB k x.toNat) ∧ Below w.heap.size w wr) (fun _ _ i _ => 2 - (intOf i).toNat)
  case atStart => exact ⟨0, by omega, rfl, by simp, by simpa [leB] using hN.own, hN.below⟩
  case round =>
    obtain ⟨k, hk, rfl, rfl, hown, hb⟩ := hrel
    have hB := hb.size
    by_cases hlt : k < 2
    · have hown1 := hown.alloc (.cells #[.int .u8 (x / 256 ^ k % 256)] 5)
      have hbx := Rda.box wr 5 (x / 256 ^ k % 256) _ (tmByte x h0 k)
      go_wp2_with (at_builtin; refine wpList_app (l := l ++ leB k x.toNat) _ rfl _ _ rfl tU8 rfl hown1 rfl rfl hbx ?c1 ?c2 ?_)
      case c1 => simp [leB_length]; omega
      case c2 => simp; omega
      intro v' w' hown' hg
      have hb1 : Below w.heap.size w w' := hown1.grown hg (hb.alloc hB _) (by simp; omega) (Nat.le_refl _)
      clear hown hown1 hbx
      go_wp2
      go_roundw
      case rel => exact ⟨k + 1, by omega, by go_num, by rw [div_step], by rw [leB_succ]; simpa using hown', hb1⟩
      case measure => simp [intOf]; omega
    · have he : k = 2 := by omega
      subst he
      obtain ⟨A', c', rfl, hr⟩ := own_rda hown
      go_wp2
      go_ret
      exact ⟨A', c', rfl, ⟨hown, hb⟩⟩


theorem put8_any {w : World} {A : Option Addr} {n c : Nat} {l : List UInt8} (h : Rda w A c l) (hn : n = l.length) (hl : l.length + 8 ≤ 140737488355328) (x : Int) (h0 : 0 ≤ x) (h1 : x < 18446744073709551616) :
    Calls Try.prog 29 #[.slice A n c, .int .u64 x] w fun e w' => ∃ A' c', e = .returned (.slice A' (l ++ leB 8 x.toNat).length c') ∧ New 5 w w' A' c' (l ++ leB 8 x.toNat) := by
  subst hn
  go_enter Try.func29, Try.ntmps29
  go_wp2_with fail
  refine (clone_any h rfl (by omega)).mono ?_
  rintro e w1 ⟨A1, c1, rfl, hN⟩
  go_wp2_with fail
  refine (width8_any _).mono ?_
  rintro e w2 ⟨rfl, rfl⟩
  go_wp2_with fail
  go_loopw [5, 6, 11] (fun o r i wr => ∃ k : Nat, k ≤ 8 ∧ i = .int .i64 k ∧ r = .int .u64 (x / 256 ^ k) ∧ Own8 wr w.heap.size 5 o (l ++ leB k x.toNat) ∧ Below w.heap.size w wr) (fun _ _ i _ => 8 - (intOf i).toNat)
  case atStart => exact ⟨0, by omega, rfl, by simp, by simpa [leB] using hN.own, hN.below⟩
  case round =>
    obtain ⟨k, hk, rfl, rfl, hown, hb⟩ := hrel
    have hB := hb.size
    by_cases hlt : k < 8
    · have hown1 := hown.alloc (.cells #[.int .u8 (x / 256 ^ k % 256)] 5)
      have hbx := Rda.box wr 5 (x / 256 ^ k % 256) _ (tmByte x h0 k)
      go_wp2_with (at_builtin; refine wpList_app (l := l ++ leB k x.toNat) _ rfl _ _ rfl tU8 rfl hown1 rfl rfl hbx ?c1 ?c2 ?_)
      case c1 => simp [leB_length]; omega
      case c2 => simp; omega
      intro v' w' hown' hg
      have hb1 : Below w.heap.size w w' := hown1.grown hg (hb.alloc hB _) (by simp; omega) (Nat.le_refl _)
      clear hown hown1 hbx
      go_wp2
      go_roundw
      case rel => exact ⟨k + 1, by omega, by go_num, by rw [div_step], by rw [leB_succ]; simpa using hown', hb1⟩
      case measure => simp [intOf]; omega
    · have he : k = 8 := by omega
      subst he
      obtain ⟨A', c', rfl, hr⟩ := own_rda hown
      go_wp2
      go_ret
      exact ⟨A', c', rfl, ⟨hown, hb⟩⟩

end Go.Proofs.Ytiaehoppdihbdaa
