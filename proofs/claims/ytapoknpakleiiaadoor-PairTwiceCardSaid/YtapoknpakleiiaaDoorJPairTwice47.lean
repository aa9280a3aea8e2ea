import Derived.Test.YtapoknpakleiiaaDoorJPairTwice42
import Derived.Test.YtapoknpakleiiaaDoorJPairTwice46
/- The law's pages of one slot, for layer 13; the document's last example, in plain lists. -/
set_option linter.unusedVariables false
set_option linter.unusedSimpArgs false
namespace Go.Proofs.YtapoknpakleiiaaDoor
open Go.RowKit Go.Tm
set_option maxHeartbeats 400000
set_option maxRecDepth 100000
attribute [local go_sem ↓] Go.wp_at_zero Go.wp_at_succ

def oneK (key : UInt8) (v k : Nat) : List UInt8 := (zeroL 16 ++ [1, 0, 0, 0, key, 0, 0, 0]) ++ (leB k v ++ zeroL (16 - k))
theorem oneK_length (key : UInt8) (v k : Nat) (hk : k ≤ 8) : (oneK key v k).length = 40 := by
  unfold oneK
  rw [List.length_append, List.length_append, List.length_append, zeroL_length, zeroL_length, leB_length]
  simp
  omega
theorem oneK_step (key : UInt8) (v k : Nat) (hk : k < 8) : (oneK key v k).set (24 + k) (UInt8.ofNat (v / 256 ^ k % 256)) = oneK key v (k + 1) := by
  unfold oneK
  have h1 : 16 - k = (16 - (k + 1)) + 1 := by omega
  rw [h1, leB_succ]
  show ((zeroL 16 ++ [1, 0, 0, 0, key, 0, 0, 0]) ++ (leB k v ++ (0 : UInt8) :: zeroL (16 - (k + 1)))).set (24 + k) _ = _
  rw [← List.append_assoc, set_mid _ _ _ _ (by simp [zeroL]; try omega)]
  simp
def oneL (key : UInt8) (v : Nat) : List UInt8 := oneK key v 8

set_option maxHeartbeats 1000000 in
theorem one_any {w : World} (hT : Tb w) (number lsn : Int) (key : UInt8) (v : Nat) (hv : v < 18446744073709551616) (he : stampE (oneL key v) number lsn = 0) (hl : (stampV (oneL key v) number lsn).length = 40) {kk vv : Int} (hkk : kk = (key.toNat : Int)) (hvv : vv = (v : Int)) :
    Calls Tryd.prog 31 #[.int .i64 number, .int .i64 lsn, .int .u8 kk, .int .u64 vv] w fun e w' => ∃ A c, e = .returned (.slice A 40 c) ∧ New 5 w w' A c (stampV (oneL key v) number lsn) := by
  subst hkk hvv
  have HST : Hid (∀ (W : World) (A : Option Addr) (c : Nat), Tb W → Rda W A c (oneL key v) → Calls Tryd.prog 23 #[.slice A 40 c, .int .i64 number, .int .i64 lsn] W fun e w' => ∃ A' c', e = .returned (.tuple #[.slice A' 40 c', .int .i64 0]) ∧ New 5 W w' A' c' (stampV (oneL key v) number lsn)) := Lib.hid fun W A c hT hr => by
    have h40 : (oneL key v).length = 40 := oneK_length key v 8 (by omega)
    have := stamp_any hT hr (n := 40) h40.symm (by rw [h40]; omega) number lsn
    rwa [he, hl] at this
  have HT := Lib.hid hT
  clear he hl hT
  obtain ⟨ST, hST⟩ : ∃ ST, stampV (oneL key v) number lsn = ST := ⟨_, rfl⟩
  rw [hST] at HST ⊢
  clear hST
  have HV : Lt64 (v : Int) := ⟨by omega, by omega⟩
  go_enter Tryd.func31, Tryd.ntmps31
  go_wp2_with (with_reducible refine wpList_make8 rfl _ _ rfl tU8 40 rfl rfl rfl rfl (by omega) ?_)
  intro w1 hW hb1
  obtain ⟨SZ, hSZ⟩ : ∃ SZ, w.heap.size = SZ := ⟨_, rfl⟩
  rw [hSZ] at hW ⊢
  have HSZ := Lib.hid hSZ
  have x16 := hW.cell 16 (by simp [zeroL])
  have f16 := hW.free 16
  have hW2 := hW.stored 16 1
  have x20 := hW2.cell 20 (by simp [zeroL])
  have f20 := hW2.free 20
  have hW3 := hW2.stored 20 key
  have hWK : Whole8 ((w1.setCell ⟨SZ, 16, none⟩ (.int .u8 ((1 : UInt8).toNat : Int))).setCell ⟨SZ, 20, none⟩ (.int .u8 (key.toNat : Int))) SZ 5 (oneK key v 0) := by
    have e : ((zeroL 40).set 16 1).set 20 key = oneK key v 0 := by simp [zeroL, oneK, leB, List.replicate]
    rwa [e] at hW3
  have hbK : Below w.heap.size w ((w1.setCell ⟨SZ, 16, none⟩ (.int .u8 ((1 : UInt8).toNat : Int))).setCell ⟨SZ, 20, none⟩ (.int .u8 (key.toNat : Int))) :=
    hb1.grown (grown_trans (cell_grown w1 SZ 16 _) (cell_grown _ SZ 20 _)) hb1.size (fun q hq => by injection hq with hq; omega)
  have f20' : (w1.setCell ⟨SZ, 16, none⟩ (.int .u8 1)).frozen? ⟨SZ, 20, none⟩ = false := f20
  have hWK' : Whole8 ((w1.setCell ⟨SZ, 16, none⟩ (.int .u8 1)).setCell ⟨SZ, 20, none⟩ (.int .u8 (key.toNat : Int))) SZ 5 (oneK key v 0) := hWK
  have hbK' : Below w.heap.size w ((w1.setCell ⟨SZ, 16, none⟩ (.int .u8 1)).setCell ⟨SZ, 20, none⟩ (.int .u8 (key.toNat : Int))) := hbK
  have x20' : ∃ u, (w1.setCell ⟨SZ, 16, none⟩ (.int .u8 1)).cell? ⟨SZ, 20, none⟩ = some u := ⟨_, x20⟩
  obtain ⟨u20, x20'⟩ := x20'
  have HWK := Lib.hid hWK'
  have HBK := Lib.hid hbK'
  clear hW hW2 hW3 hWK hbK hWK' hbK' x20 f20 hb1 hSZ
  go_wp2_with fail
  go_loopw [3, 10] (fun x i wr => ∃ k : Nat, k ≤ 8 ∧ i = .int .i64 k ∧ x = .int .u64 ((v : Int) / 256 ^ k) ∧ Whole8 wr SZ 5 (oneK key v k) ∧ Below w.heap.size w wr) (fun _ i _ => 8 - (intOf i).toNat)
  case atStart => exact ⟨0, by omega, rfl, by simp, HWK.out, HBK.out⟩
  case round =>
    obtain ⟨k, hk, rfl, rfl, hW, hb⟩ := hrel
    by_cases hkt : k < 8
    · have hc := hW.cell (24 + k) (by rw [oneK_length key v k hk]; omega)
      have hf := hW.free (24 + k)
      have hst := hW.stored (24 + k) (UInt8.ofNat (v / 256 ^ k % 256))
      rw [oneK_step key v k hkt] at hst
      have hby := tmByte (v : Int) (by omega) k
      rw [Int.toNat_natCast] at hby
      have hb2 := hb.grown (cell_grown wr SZ (24 + k) (.int .u8 ((UInt8.ofNat (v / 256 ^ k % 256)).toNat : Int))) hb.size (fun q hq => by injection hq with hq; have := HSZ.out; omega)
      rw [← hby] at hst hb2
      have hq0 : 0 ≤ (v : Int) / 256 ^ k := Int.ediv_nonneg (by omega) (Int.pow_nonneg (by omega))
      have hq1 : (v : Int) / 256 ^ k < 18446744073709551616 := Int.lt_of_le_of_lt (Int.ediv_le_self _ (by omega)) (by omega)
      have hqd := Lib.hid (u64_div256 _ hq0 hq1)
      have hds := Lib.hid (div_step (v : Int) k)
      have HST := Lib.hid hst
      have HB := Lib.hid hb2
      have m0 : (0 : Int) ≤ 24 + (k : Int) := by omega
      have m1 : (24 : Int) + (k : Int) < 40 := by omega
      have ht : ((24 : Int) + (k : Int)).toNat = 24 + k := by omega
      have i1 : IntKind.i64.wrap ((24 : Int) + (k : Int)) = (24 : Int) + (k : Int) := IntWalk.i64_in _ (by omega)
      clear hst hW hb hb2 hby hq1 hv
      go_wp2_with fail
      go_roundw
      case rel => exact ⟨k + 1, by omega, by go_num, by first | rw [hds.out] | rw [hqd.out, hds.out], HST.out, HB.out⟩
      case measure => simp [intOf]; omega
    · have he : k = 8 := by omega
      subst he
      have hr := hW.rda (by rw [oneK_length key v 8 (by omega)]; omega)
      rw [oneK_length key v 8 (by omega)] at hr
      have HC := Lib.hid (HST.out wr _ _ (HT.out.below hb) (show Rda wr (some ⟨SZ, 0, none⟩) 40 (oneL key v) from hr))
      have HB := Lib.hid hb
      clear hr hW hb hkt
      go_wp2_with fail
      refine HC.out.mono ?_
      rintro e w5 ⟨A5, c5, rfl, N5⟩
      have HN := Lib.hid (show New 5 w w5 A5 c5 ST from ⟨N5.own.mono HB.out.size, below_then HB.out N5.below⟩)
      clear N5
      go_wp2_with fail
      refine (num_any _).mono ?_
      rintro e w6 ⟨rfl, rfl⟩
      go_wp2_with fail
      go_ret
      exact ⟨A5, c5, rfl, HN.out⟩
end Go.Proofs.YtapoknpakleiiaaDoor
