import Derived.Test.YtapoknpakleiiaaDoorProg
import Derived.Test.YtapoknpakleiiaaDoorLib
import Derived.Test.YtapoknpakleiiaaDoorCrcPure
import Derived.Test.YtapoknpakleiiaaDoorOct
/- The contracts of package crc, and of the document's answer for layer 2. -/
set_option linter.unusedVariables false
set_option linter.unusedSimpArgs false
namespace Go.Proofs.YtapoknpakleiiaaDoor
open Go.RowKit Go.Tm
set_option maxHeartbeats 400000
set_option maxRecDepth 100000

/-- The table of package crc holds its sixteen words. -/
structure Tb (w : World) : Prop where
  at_ : ∀ i, i < 16 → w.cell? ⟨0, i, none⟩ = some (.int .u32 ((tab.getD i 0 : Nat) : Int))
theorem Tb.below {w w' : World} (h : Tb w) (hb : Below w.heap.size w w') : Tb w' :=
  ⟨fun i hi => (hb.cell (p := ⟨0, i, none⟩) (World.block_lt_of_cell? w _ (h.at_ i hi))).trans (h.at_ i hi)⟩

theorem crcL_take (s : Nat) (l : List UInt8) (k : Nat) (h : k < l.length) : crcL s (l.take (k + 1)) = crcB (crcL s (l.take k)) (l.getD k 0) := by
  rw [List.take_succ_eq_append_getElem h, crcL_snoc]
  simp [List.getD, List.getElem?_eq_getElem h]

theorem and15 (S : Nat) (h : S < 4294967296) : bits BinOp.and IntKind.u32 (S : Int) 15 = ((S % 16 : Nat) : Int) := by
  have := bits_mask .u32 32 (by decide) wraps_u32 4 (by decide) (S : Int) (by omega) (by omega)
  rw [show (2 : Int) ^ 4 - 1 = 15 from rfl] at this
  rw [this]
  omega
/-- One step of four bits, as the walk spells it. -/
theorem nib_facts {w : World} (hT : Tb w) (S : Nat) (h : S < 4294967296) : ∃ i T R : Nat, i < 16 ∧ R < 4294967296 ∧ R = nib S ∧ bits BinOp.and IntKind.u32 (S : Int) 15 = (i : Int) ∧
    w.cell? ⟨0, i, none⟩ = some (.int .u32 (T : Int)) ∧ bits BinOp.xor IntKind.u32 ((S : Int) / 16) (T : Int) = (R : Int) := by
  refine ⟨S % 16, tab.getD (S % 16) 0, nib S, Nat.mod_lt _ (by omega), nib_lt S h, rfl, and15 S h, hT.at_ _ (Nat.mod_lt _ (by omega)), ?_⟩
  rw [show (S : Int) / 16 = ((S / 16 : Nat) : Int) by omega]
  exact u32_xor_nat _ _ (by omega) (tab_lt _ (Nat.mod_lt _ (by omega)))

theorem crcMore_any {w : World} (hT : Tb w) {A : Option Addr} {n c : Nat} {l : List UInt8} (hA : Rda w A c l) (hn : n = l.length) (s : Nat) (hs : s < 4294967296) {x : Int} (hx : x = (s : Int)) :
    Calls Tryd.prog 99 #[.int .u32 x, .slice A n c] w fun e w' => e = .returned (.int .u32 (crcM s l : Nat)) ∧ w = w' := by
  subst hn hx
  have hcap := hA.cap
  have hmax := hA.max
  unfold maxLen at hmax
  have hi := Lib.hid (show bits BinOp.xor IntKind.u32 IntKind.u32.max (s : Int) = ((4294967295 ^^^ s : Nat) : Int) from u32_xor_nat 4294967295 s (by omega) hs)
  go_enter Tryd.func99, Tryd.ntmps99
  go_wp2
  rw [hi.out]
  have h0 : 4294967295 ^^^ s < 4294967296 := xor_lt32 (by omega) hs
  obtain ⟨S0, hS0⟩ : ∃ S0, 4294967295 ^^^ s = S0 := ⟨_, rfl⟩
  rw [hS0] at h0 ⊢
  have HS0 := Lib.hid hS0
  clear hS0 hi
  go_loop [5, 12] (fun s i => ∃ k : Nat, k ≤ l.length ∧ i = .int .i64 k ∧ s = .int .u32 (crcL S0 (l.take k) : Nat)) (fun _ i => l.length - (intOf i).toNat)
  case atStart => exact ⟨0, by omega, rfl, rfl⟩
  case round =>
    obtain ⟨k, hk, rfl, rfl⟩ := hrel
    by_cases hlt : k < l.length
    · obtain ⟨b, o, rfl, hc⟩ := hA.cells (by omega)
      have hck := hc k hlt
      have hst0 := crcL_take S0 l k hlt
      have hSb := crcL_lt (l.take k) S0 h0
      obtain ⟨S, hS⟩ : ∃ S, crcL S0 (l.take k) = S := ⟨_, rfl⟩
      obtain ⟨Y, hY⟩ : ∃ Y : UInt8, l.getD k 0 = Y := ⟨_, rfl⟩
      rw [hS, hY] at hst0
      rw [hS] at hSb ⊢
      rw [hY] at hck
      have hyb := Y.toNat_lt
      obtain ⟨y, hy⟩ : ∃ y, Y.toNat = y := ⟨_, rfl⟩
      rw [hy] at hck hyb
      have hS1b : S ^^^ y < 4294967296 := xor_lt32 hSb (by omega)
      have e1 : bits BinOp.xor IntKind.u32 (S : Int) (y : Int) = ((S ^^^ y : Nat) : Int) := u32_xor_nat S y hSb (by omega)
      obtain ⟨S1, hS1⟩ : ∃ S1, S ^^^ y = S1 := ⟨_, rfl⟩
      rw [hS1] at e1 hS1b
      have hst1 : crcL S0 (l.take (k + 1)) = nib (nib S1) := by rw [hst0, crcB, hy, hS1]
      have hst := Lib.hid hst1
      clear hst0 hst1 hS hY hy hc hS1 hA
      obtain ⟨i1, T1, S2, b1, c1, d1, f1, g1, j1⟩ := nib_facts hT S1 hS1b
      obtain ⟨i2, T2, S3, b2, c2, d2, f2, g2, j2⟩ := nib_facts hT S2 c1
      have D1 := Lib.hid d1
      have D2 := Lib.hid d2
      clear d1 d2
      go_wp2
      go_round
      case rel => exact ⟨k + 1, by omega, by go_num, by rw [hst.out, ← D1.out, ← D2.out]⟩
      case measure => simp [intOf]; omega
    · have he : k = l.length := by omega
      subst he
      rw [List.take_length]
      have hb := crcL_lt l S0 h0
      have hf := Lib.hid (show bits BinOp.xor IntKind.u32 IntKind.u32.max ((crcL S0 l : Nat) : Int) = ((crcM s l : Nat) : Int) by rw [crcM, HS0.out]; exact u32_xor_nat 4294967295 _ (by omega) hb)
      clear hb
      go_wp2
      go_ret
      exact ⟨by rw [← hf.out]; rfl, rfl⟩

theorem crcSum_any {w : World} (hT : Tb w) {A : Option Addr} {n c : Nat} {ls : List (List UInt8)} (h : RdRows w A c ls) (hn : n = ls.length) :
    Calls Tryd.prog 85 #[.slice A n c] w fun e w' => e = .returned (.int .u32 (crcM 0 (cat ls) : Nat)) ∧ w = w' := by
  subst hn
  have hcap := h.cap
  have hmax := h.max
  unfold maxLen at hmax
  go_enter Tryd.func85, Tryd.ntmps85
  go_wp2
  go_loop [3, 8] (fun s i => ∃ k : Nat, k ≤ ls.length ∧ i = .int .i64 k ∧ s = .int .u32 (crcM 0 (cat (ls.take k)) : Nat)) (fun _ i => ls.length - (intOf i).toNat)
  case atStart => exact ⟨0, by omega, rfl, by rw [List.take_zero, cat_nil, show crcM 0 [] = 0 by decide]; rfl⟩
  case round =>
    obtain ⟨k, hk, rfl, rfl⟩ := hrel
    by_cases hlt : k < ls.length
    · obtain ⟨b, o, rfl, _⟩ := h.cells (by omega)
      obtain ⟨Aj, cj, hcj, hj⟩ := h.at_ k hlt
      have hst0 := cat_take_succ ls k hlt
      obtain ⟨R, hR⟩ : ∃ R, ls.getD k [] = R := ⟨_, rfl⟩
      rw [hR] at hst0 hcj hj
      have hSb := crcM_lt 0 (cat (ls.take k)) (by omega)
      have hst1 : crcM 0 (cat (ls.take (k + 1))) = crcM (crcM 0 (cat (ls.take k))) R := by rw [hst0, crcM_append _ _ _ (by omega)]
      obtain ⟨S, hS⟩ : ∃ S, crcM 0 (cat (ls.take k)) = S := ⟨_, rfl⟩
      rw [hS] at hst1 hSb ⊢
      have hst := Lib.hid hst1
      clear hst0 hst1 hS hR h
      go_wp2_with fail
      refine (crcMore_any hT hj rfl S hSb rfl).mono ?_
      rintro e w1 ⟨rfl, rfl⟩
      go_wp2_with fail
      go_round
      case rel => exact ⟨k + 1, by omega, by go_num, by rw [hst.out]⟩
      case measure => simp [intOf]; omega
    · have he : k = ls.length := by omega
      subst he
      rw [List.take_length]
      go_wp2
      go_ret
      exact ⟨rfl, rfl⟩

theorem refMore_any {w : World} {A : Option Addr} {n c : Nat} {l : List UInt8} (hA : Rda w A c l) (hn : n = l.length) (s : Nat) (hs : s < 4294967296) {x : Int} (hx : x = (s : Int)) :
    Calls Tryd.prog 103 #[.int .u32 x, .slice A n c] w fun e w' => e = .returned (.int .u32 (crcM s l : Nat)) ∧ w = w' := by
  subst hn hx
  have hcap := hA.cap
  have hmax := hA.max
  unfold maxLen at hmax
  have hi := Lib.hid (show bits BinOp.xor IntKind.u32 (s : Int) 4294967295 = ((4294967295 ^^^ s : Nat) : Int) by rw [Nat.xor_comm]; exact u32_xor_nat s 4294967295 hs (by omega))
  go_enter Tryd.func103, Tryd.ntmps103
  go_wp2
  rw [hi.out]
  have h0 : 4294967295 ^^^ s < 4294967296 := xor_lt32 (by omega) hs
  obtain ⟨S0, hS0⟩ : ∃ S0, 4294967295 ^^^ s = S0 := ⟨_, rfl⟩
  rw [hS0] at h0 ⊢
  have HS0 := Lib.hid hS0
  clear hS0 hi
  go_loop [5, 6] (fun s i => ∃ k : Nat, k ≤ l.length ∧ i = .int .i64 k ∧ s = .int .u32 (crcL S0 (l.take k) : Nat)) (fun _ i => l.length - (intOf i).toNat)
  case atStart => exact ⟨0, by omega, rfl, rfl⟩
  case round =>
    obtain ⟨k, hk, rfl, rfl⟩ := hrel
    by_cases hlt : k < l.length
    · obtain ⟨b, o, rfl, hc⟩ := hA.cells (by omega)
      have hck := hc k hlt
      have hst0 := crcL_take S0 l k hlt
      have hSb := crcL_lt (l.take k) S0 h0
      obtain ⟨S, hS⟩ : ∃ S, crcL S0 (l.take k) = S := ⟨_, rfl⟩
      obtain ⟨Y, hY⟩ : ∃ Y : UInt8, l.getD k 0 = Y := ⟨_, rfl⟩
      rw [hS, hY] at hst0
      rw [hS] at hSb ⊢
      rw [hY] at hck
      have hyb := Y.toNat_lt
      obtain ⟨y, hy⟩ : ∃ y, Y.toNat = y := ⟨_, rfl⟩
      rw [hy] at hck hyb
      have hS1b : S ^^^ y < 4294967296 := xor_lt32 hSb (by omega)
      have e1 : bits BinOp.xor IntKind.u32 (S : Int) (y : Int) = ((S ^^^ y : Nat) : Int) := u32_xor_nat S y hSb (by omega)
      obtain ⟨S1, hS1⟩ : ∃ S1, S ^^^ y = S1 := ⟨_, rfl⟩
      rw [hS1] at e1 hS1b
      have hst1 : crcL S0 (l.take (k + 1)) = bitN 8 S1 := by rw [hst0, crcB, hy, hS1, bitN_8]
      have hst := Lib.hid hst1
      clear hst0 hst1 hS hY hy hc hS1 hA
      go_wp2
      clear e1
      go_loop [5, 7] (fun s i => ∃ j : Nat, j ≤ 8 ∧ i = .int .i64 j ∧ s = .int .u32 (bitN j S1 : Nat)) (fun _ i => 8 - (intOf i).toNat)
      case atStart => exact ⟨0, by omega, rfl, rfl⟩
      case round =>
        obtain ⟨j, hj, rfl, rfl⟩ := hrel
        by_cases hj8 : j < 8
        · have hXb := bitN_lt j S1 hS1b
          obtain ⟨X, hX⟩ : ∃ X, bitN j S1 = X := ⟨_, rfl⟩
          have hnx : bitN (j + 1) S1 = bit1 X := by rw [← hX]; rfl
          rw [hX] at hXb ⊢
          have HN := Lib.hid hnx
          clear hX hnx
          by_cases hodd : X % 2 = 1
          · have t1 : (((X : Int) % 2) == 1) = true := by rw [beq_iff_eq]; omega
            have e2 : bits BinOp.xor IntKind.u32 ((X : Int) / 2) 3988292384 = ((bit1 X : Nat) : Int) := by
              rw [bit1, if_pos hodd, show (X : Int) / 2 = ((X / 2 : Nat) : Int) by omega]
              exact u32_xor_nat _ 3988292384 (by omega) (by omega)
            have E2 := Lib.hid e2
            clear e2 hodd
            go_wp2
            go_round
            case rel => exact ⟨j + 1, by omega, by go_num, by rw [HN.out, ← E2.out]⟩
            case measure => simp [intOf]; omega
          · have t1 : (((X : Int) % 2) == 1) = false := by rw [beq_eq_false_iff_ne]; omega
            have e2 : ((X : Int) / 2) = ((bit1 X : Nat) : Int) := by
              rw [bit1, if_neg hodd]
              omega
            have E2 := Lib.hid e2
            clear e2 hodd
            go_wp2
            go_round
            case rel => exact ⟨j + 1, by omega, by go_num, by rw [HN.out, ← E2.out]⟩
            case measure => simp [intOf]; omega
        · have he : j = 8 := by omega
          subst he
          rw [← hst.out]
          go_wp2
          go_round
          case rel => exact ⟨k + 1, by omega, by go_num, rfl⟩
          case measure => simp [intOf]; omega
    · have he : k = l.length := by omega
      subst he
      rw [List.take_length]
      have hb := crcL_lt l S0 h0
      have hf := Lib.hid (show bits BinOp.xor IntKind.u32 ((crcL S0 l : Nat) : Int) 4294967295 = ((crcM s l : Nat) : Int) by rw [crcM, HS0.out, Nat.xor_comm]; exact u32_xor_nat _ 4294967295 hb (by omega))
      clear hb
      go_wp2
      go_ret
      exact ⟨by rw [← hf.out]; rfl, rfl⟩
end Go.Proofs.YtapoknpakleiiaaDoor
