import Derived.Test.YtgelgjghmoddoaaDoorMasterPure
import Derived.Test.YtgelgjghmoddoaaDoorOctRd
import Derived.Test.YtgelgjghmoddoaaDoorCrc
import Derived.Test.YtgelgjghmoddoaaDoorStore
import Derived.Test.YtgelgjghmoddoaaDoorMem
import Derived.Test.YtgelgjghmoddoaaDoorBuf
import Derived.Test.YtgelgjghmoddoaaDoorSlotPure
import Derived.IntWalk
/- The contracts of the document's answer for layer 7 (package tidemarkref07): May, number, read; and of the document's sum. -/
set_option linter.unusedVariables false
set_option linter.unusedSimpArgs false
namespace Go.Proofs.YtgelgjghmoddoaaDoor
open Go.RowKit Go.Tm
set_option maxHeartbeats 400000
set_option maxRecDepth 100000

set_option maxHeartbeats 1600000 in
theorem refMay_any {w : World} (t b c : Int) : Calls Tryd.prog 32 #[.agg #[.int .i64 t, .int .i64 b, .int .i64 c]] w fun e w' => e = .returned (.bool (mayB t b c)) ∧ Below w.heap.size w w' := by
  by_cases a1 : (1 : Int) ≤ t
  · by_cases a2 : t ≤ 1152921504606846976
    · by_cases a3 : (0 : Int) ≤ b
      · by_cases a4 : b ≤ 1152921504606846976
        · by_cases a5 : (0 : Int) ≤ c
          · by_cases a6 : c ≤ 1152921504606846976
            · go_enter Tryd.func32, Tryd.ntmps32
              go_wp2_with fail
              go_ret
              exact ⟨(by simp [mayB, a1, a2, a3, a4, a5, a6] <;> omega), (Below.refl _ _).alloc (Nat.le_refl _) _⟩
            · go_enter Tryd.func32, Tryd.ntmps32
              go_wp2_with fail
              go_ret
              exact ⟨(by simp [mayB, a1, a2, a3, a4, a5, a6] <;> omega), (Below.refl _ _).alloc (Nat.le_refl _) _⟩
          · go_enter Tryd.func32, Tryd.ntmps32
            go_wp2_with fail
            go_ret
            exact ⟨(by simp [mayB, a1, a2, a3, a4, a5] <;> omega), (Below.refl _ _).alloc (Nat.le_refl _) _⟩
        · go_enter Tryd.func32, Tryd.ntmps32
          go_wp2_with fail
          go_ret
          exact ⟨(by simp [mayB, a1, a2, a3, a4] <;> omega), (Below.refl _ _).alloc (Nat.le_refl _) _⟩
      · go_enter Tryd.func32, Tryd.ntmps32
        go_wp2_with fail
        go_ret
        exact ⟨(by simp [mayB, a1, a2, a3] <;> omega), (Below.refl _ _).alloc (Nat.le_refl _) _⟩
    · go_enter Tryd.func32, Tryd.ntmps32
      go_wp2_with fail
      go_ret
      exact ⟨(by simp [mayB, a1, a2] <;> omega), (Below.refl _ _).alloc (Nat.le_refl _) _⟩
  · go_enter Tryd.func32, Tryd.ntmps32
    go_wp2_with fail
    go_ret
    exact ⟨(by simp [mayB, a1] <;> omega), (Below.refl _ _).alloc (Nat.le_refl _) _⟩


theorem refSum2_any {w : World} {A : Option Addr} {n c : Nat} {ls : List (List UInt8)} (h : RdRows w A c ls) (hn : n = ls.length) :
    Calls Tryd.prog 34 #[.slice A n c] w fun e w' => e = .returned (.int .u32 (crcM 0 (cat ls) : Nat)) ∧ w = w' := by
  subst hn
  have hcap := h.cap
  have hmax := h.max
  unfold maxLen at hmax
  go_enter Tryd.func34, Tryd.ntmps34
  go_wp2
  go_loop [3, 4] (fun s i => ∃ k : Nat, k ≤ ls.length ∧ i = .int .i64 k ∧ s = .int .u32 (crcM 0 (cat (ls.take k)) : Nat)) (fun _ i => ls.length - (intOf i).toNat)
  case atStart => exact ⟨0, by omega, rfl, by rw [List.take_zero, cat_nil, show crcM 0 [] = 0 by decide]; rfl⟩
  case round =>
    obtain ⟨k, hk, rfl, rfl⟩ := hrel
    by_cases hlt : k < ls.length
    · obtain ⟨b, o, rfl, _⟩ := h.cells (by omega)
      obtain ⟨Aj, cj, hcj, hj⟩ := h.at_ k hlt
      have hst0 := cat_take_succ ls k hlt
      obtain ⟨R, hR⟩ : ∃ R, ls.getD k [] = R := ⟨_, rfl⟩
      rw [hR] at hst0 hcj hj
      have hSb := crcM_lt 0 (cat (ls.take k)) (by omega)
      have hst1 : crcM 0 (cat (ls.take (k + 1))) = crcM (crcM 0 (cat (ls.take k))) R := by rw [hst0, crcM_append _ _ _ (by omega)]
      obtain ⟨S, hS⟩ : ∃ S, crcM 0 (cat (ls.take k)) = S := ⟨_, rfl⟩
      rw [hS] at hst1 hSb ⊢
      have hst := Lib.hid hst1
      clear hst0 hst1 hS hR h
      go_wp2_with fail
      refine (refMore_any hj rfl S hSb rfl).mono ?_
      rintro e w1 ⟨rfl, rfl⟩
      go_wp2_with fail
      go_round
      case rel => exact ⟨k + 1, by omega, by go_num, by rw [hst.out]⟩
      case measure => simp [intOf]; omega
    · have he : k = ls.length := by omega
      subst he
      rw [List.take_length]
      go_wp2
      go_ret
      exact ⟨rfl, rfl⟩


theorem refNumber_any {w : World} (x : Int) (h0 : 0 ≤ x) (h1 : x < 18446744073709551616) (K : Nat) (hK : K ≤ 8) {kk : Int} (hkk : kk = (K : Int)) :
    Calls Tryd.prog 33 #[.int .u64 x, .int .i64 kk] w fun e w' => ∃ A' c', e = .returned (.slice A' (leB K x.toNat).length c') ∧ New 5 w w' A' c' (leB K x.toNat) := by
  subst hkk
  have hnil := Own8.nilRow w w.heap.size 5
  go_enter Tryd.func33, Tryd.ntmps33
  go_wp2_with fail
  go_loopw [0, 5, 6] (fun v o i wr => ∃ k : Nat, k ≤ K ∧ i = .int .i64 k ∧ v = .int .u64 (x / 256 ^ k) ∧ Own8 wr w.heap.size 5 o (leB k x.toNat) ∧ Below w.heap.size w wr) (fun _ _ i _ => K - (intOf i).toNat)
  case atStart => exact ⟨0, by omega, rfl, by simp, by simpa [leB] using hnil, Below.refl _ _⟩
  case round =>
    obtain ⟨k, hk, rfl, rfl, hown, hb⟩ := hrel
    have hB := hb.size
    have hk8 : k ≤ 8 := by omega
    have hq0 : 0 ≤ x / 256 ^ k := Int.ediv_nonneg h0 (Int.pow_nonneg (by omega))
    have hq1 : x / 256 ^ k < 18446744073709551616 := Int.lt_of_le_of_lt (Int.ediv_le_self _ h0) h1
    have hqd := Lib.hid (u64_div256 _ hq0 hq1)
    by_cases hlt : k < K
    · have hown1 := hown.alloc (.cells #[.int .u8 (x / 256 ^ k % 256)] 5)
      have hbx := Rda.box wr 5 (x / 256 ^ k % 256) _ (tmByte x h0 k)
      go_wp2_with (at_builtin; refine wpList_app (l := leB k x.toNat) _ rfl _ _ rfl tU8 rfl hown1 rfl rfl hbx ?c1 ?c2 ?_)
      case c1 => simp [leB_length]; omega
      case c2 => simp; omega
      intro v' w' hown' hg
      have hb1 : Below w.heap.size w w' := hown1.grown hg (hb.alloc hB _) (by simp; omega) (Nat.le_refl _)
      clear hown hown1 hbx
      go_wp2
      go_roundw
      case rel => exact ⟨k + 1, by omega, by go_num, by first | rw [div_step] | rw [hqd.out, div_step], by rw [leB_succ]; simpa using hown', hb1⟩
      case measure => simp [intOf]; omega
    · have he : k = K := by omega
      subst he
      obtain ⟨A', c', rfl, hr⟩ := own_rda hown
      go_wp2
      go_ret
      exact ⟨A', c', rfl, ⟨hown, hb⟩⟩

theorem leN_sum7 (l : List UInt8) (k : Nat) (h : k < l.length) : ((leN (l.drop (k + 1)) : Int) * 256 + ((l.getD k 0).toNat : Int)) = (leN (l.drop k) : Int) := by
  have h1 := leN_step l k h
  omega
def readV (l : List UInt8) : Int := if 1152921504606846976 < leN l then -1 else (leN l : Int)
theorem refRead_any {w : World} {A : Option Addr} {n c : Nat} {m : List UInt8} (hr : Rda w A c m) (hm : m.length = 8) (hn : n = 8) :
    Calls Tryd.prog 39 #[.slice A n c] w fun e w' => e = .returned (.int .i64 (readV m)) ∧ w = w' := by
  subst hn
  have hcap := hr.cap
  go_enter Tryd.func39, Tryd.ntmps39
  go_wp2
  go_loop [3, 4] (fun v i => ∃ j : Nat, j ≤ 8 ∧ i = .int .i64 ((j : Int) - 1) ∧ v = .int .u64 (leN (m.drop j) : Nat)) (fun _ i => (intOf i + 1).toNat)
  case atStart => exact ⟨8, by omega, rfl, by rw [← hm]; simp [leN]⟩
  case round =>
    obtain ⟨j, hj, rfl, rfl⟩ := hrel
    by_cases hlt : 0 < j
    · obtain ⟨b, o, rfl, hc⟩ := hr.cells (by omega)
      obtain ⟨k, rfl⟩ : ∃ k, j = k + 1 := ⟨j - 1, by omega⟩
      have hcj := hc k (by omega)
      have hsum := leN_sum7 m k (by omega)
      have hvb := leN_lt8 (m.drop k) (by simp; omega)
      obtain ⟨V, hV⟩ : ∃ V : Nat, leN (m.drop (k + 1)) = V := ⟨_, rfl⟩
      obtain ⟨X, hX⟩ : ∃ X : UInt8, m.getD k 0 = X := ⟨_, rfl⟩
      have hx := X.toNat_lt
      rw [hX] at hcj
      rw [hV]
      rw [hV, hX] at hsum
      have hb1 : (V : Int) * 256 + (X.toNat : Int) < 18446744073709551616 := by omega
      have HS := Lib.hid hsum
      clear hsum hV hX hvb hc hr hcap
      go_wp2
      go_round
      case rel => exact ⟨k, by omega, rfl, by rw [HS.out]⟩
      case measure => simp [intOf]
    · have : j = 0 := by omega
      subst this
      rw [List.drop_zero]
      by_cases hbig : 1152921504606846976 < leN m
      · have HRV := Lib.hid (show readV m = -1 from if_pos hbig)
        have hbi : (1152921504606846976 : Int) < (leN m : Int) := by omega
        obtain ⟨V, hV⟩ : ∃ V : Nat, leN m = V := ⟨_, rfl⟩
        rw [hV] at hbi ⊢
        clear hbig hV hr hcap
        go_wp2_with fail
        go_ret
        exact ⟨by rw [HRV.out]; rfl, rfl⟩
      · have HRV := Lib.hid (show readV m = (leN m : Int) from if_neg hbig)
        have hbi : (leN m : Int) ≤ (1152921504606846976 : Int) := by omega
        obtain ⟨V, hV⟩ : ∃ V : Nat, leN m = V := ⟨_, rfl⟩
        rw [hV] at hbi HRV ⊢
        clear hbig hV hr hcap
        go_wp2_with fail
        go_ret
        exact ⟨by rw [HRV.out]; rfl, rfl⟩
end Go.Proofs.YtgelgjghmoddoaaDoor
