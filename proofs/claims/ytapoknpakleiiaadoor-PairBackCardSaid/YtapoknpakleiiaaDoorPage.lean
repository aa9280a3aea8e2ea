import Derived.Test.YtapoknpakleiiaaDoorCrc
import Derived.Test.YtapoknpakleiiaaDoorOctGet
import Derived.Test.YtapoknpakleiiaaDoorOctJn
import Derived.Test.YtapoknpakleiiaaDoorOctRd
import Derived.Test.YtapoknpakleiiaaDoorBuf
/- The contracts of package page. -/
set_option linter.unusedVariables false
set_option linter.unusedSimpArgs false
namespace Go.Proofs.YtapoknpakleiiaaDoor
open Go.RowKit Go.Tm
set_option maxHeartbeats 400000
set_option maxRecDepth 100000

theorem bytes_any (s : Int) (w : World) : Calls Tryd.prog 56 #[.int .i64 s] w fun e w' => e = .returned (.int .i64 (bytesP s)) ∧ w = w' := by
  by_cases h1 : s < 1
  · rw [bytesP_no s (.inl h1)]
    go_enter Tryd.func56, Tryd.ntmps56
    go_wp2
    go_ret
    exact ⟨rfl, rfl⟩
  · by_cases h2 : 8 < s
    · rw [bytesP_no s (.inr h2)]
      go_enter Tryd.func56, Tryd.ntmps56
      go_wp2
      go_ret
      exact ⟨rfl, rfl⟩
    · have h3 : 1 ≤ s := by omega
      have h4 : s ≤ 8 := by omega
      have e : bytesP s = 16 + s * 16 + 8 := by rw [bytesP_ok s h3 h4]; omega
      rw [e]
      clear e h1 h2
      go_enter Tryd.func56, Tryd.ntmps56
      go_wp2
      go_ret
      exact ⟨rfl, rfl⟩

theorem numbered_any (s : Int) (w : World) : Calls Tryd.prog 49 #[.int .i64 s] w fun e w' => e = .returned (.bool (okNum s)) ∧ w = w' := by
  by_cases h1 : 0 ≤ s
  · by_cases h2 : s < 16
    · rw [(okNum_iff s).2 ⟨h1, h2⟩]
      go_enter Tryd.func49, Tryd.ntmps49
      go_wp2
      go_ret
      exact ⟨rfl, rfl⟩
    · have e : okNum s = false := by simp [okNum]; omega
      rw [e]
      go_enter Tryd.func49, Tryd.ntmps49
      go_wp2
      go_ret
      exact ⟨rfl, rfl⟩
  · have e : okNum s = false := by simp [okNum]; omega
    have h2 : s < 0 := by omega
    rw [e]
    go_enter Tryd.func49, Tryd.ntmps49
    go_wp2
    go_ret
    exact ⟨rfl, rfl⟩

theorem slots_any (A : Option Addr) (n c : Nat) (hn : n ≤ 140737488355328) (w : World) : Calls Tryd.prog 48 #[.slice A n c] w fun e w' => e = .returned (.int .i64 (slotsP n : Nat)) ∧ w = w' := by
  by_cases hp : 0 < slotsP n
  · have hl := slotsP_len hp
    have h8 := slotsP_le n
    obtain ⟨s, hs⟩ : ∃ s, slotsP n = s := ⟨_, rfl⟩
    rw [hs] at hl hp h8 ⊢
    clear hs
    subst hl
    have P1 := bytes_any (s : Int) w
    rw [bytesP_ok _ (by omega) (by omega)] at P1
    have P1' := Lib.hid P1
    clear P1
    go_enter Tryd.func48, Tryd.ntmps48
    go_wp2_with fail
    have e : (24 + 16 * (s : Int) - 16 - 8) / 16 = s := by omega
    rw [e]
    refine P1'.out.mono ?_
    rintro e w1 ⟨rfl, rfl⟩
    clear e
    have e : (24 + 16 * (s : Int) - 16 - 8) / 16 = s := by omega
    go_wp2_with fail
    go_ret
    exact ⟨rfl, rfl⟩
  · have h0 : slotsP n = 0 := by omega
    have hno : ¬ (40 ≤ n ∧ n ≤ 152 ∧ n % 16 = 8) := fun h => hp (slotsP_pos.2 h)
    rw [h0]
    clear h0 hp
    by_cases h24 : 24 ≤ n
    · by_cases h40 : 40 ≤ n
      · obtain ⟨q, hq⟩ : ∃ q : Int, ((n : Int) - 16 - 8) / 16 = q := ⟨_, rfl⟩
        have hq1 : 1 ≤ q := by omega
        have hb : (bytesP q != (n : Int)) = true := by
          rw [bne_iff_ne]
          by_cases h8 : q ≤ 8
          · rw [bytesP_ok q hq1 h8]; omega
          · rw [bytesP_no q (by omega)]; omega
        have P1 := Lib.hid (bytes_any q w)
        have HB := Lib.hid hb
        obtain ⟨B, hB⟩ : ∃ B, bytesP q = B := ⟨_, rfl⟩
        rw [hB] at hb P1
        clear HB hB hno
        go_enter Tryd.func48, Tryd.ntmps48
        go_wp2_with fail
        refine P1.out.mono ?_
        rintro e w1 ⟨rfl, rfl⟩
        go_wp2_with fail
        go_ret
        exact ⟨rfl, rfl⟩
      · have hlt : ((n : Int) - 16 - 8) / 16 < 1 := by omega
        clear hno
        go_enter Tryd.func48, Tryd.ntmps48
        go_wp2_with fail
        go_ret
        exact ⟨rfl, rfl⟩
    · have hlt : ((n : Int) - 16 - 8).tdiv 16 < 1 := by
        have : (-((n : Int) - 16 - 8)).tdiv 16 = -(((n : Int) - 16 - 8).tdiv 16) := Int.neg_tdiv _ _
        rw [Int.tdiv_eq_ediv_of_nonneg (by omega)] at this
        omega
      clear hno
      go_enter Tryd.func48, Tryd.ntmps48
      go_wp2_with fail
      go_ret
      exact ⟨rfl, rfl⟩

theorem stamped_any {w : World} (hT : Tb w) {A : Option Addr} {n c : Nat} {b : List UInt8} (h : Rda w A c b) (hn : n = b.length) (hb : 24 ≤ b.length) (hl : b.length ≤ 140737488351232) (number lsn : Int) (hn0 : 0 ≤ number) (hn1 : number < 16) (hl0 : 0 ≤ lsn) (hl1 : lsn ≤ 1152921504606846976) :
    Calls Tryd.prog 50 #[.slice A n c, .int .i64 number, .int .i64 lsn] w fun e w' => ∃ A' c', e = .returned (.slice A' b.length c') ∧ New 5 w w' A' c' (stampP b number.toNat lsn.toNat) := by
  subst hn
  have hcap := h.cap
  go_enter Tryd.func50, Tryd.ntmps50
  go_wp2_with fail
  refine (put8_any (Rda.nilRow w) (n := 0) rfl (by simp) lsn (by omega) (by omega)).mono ?_
  rintro e w1 ⟨A1, c1, rfl, hN⟩
  have bb1 := hN.below
  have r1 := hN.rda
  rw [List.nil_append] at r1 ⊢
  go_wp2_with fail
  refine (put4_any r1 rfl (by simp) number (by omega) (by omega)).mono ?_
  rintro e w2 ⟨A2, c2, rfl, hN⟩
  have bb2 := below_then bb1 hN.below
  have r2 := hN.rda
  have s2 := r1.below hN.below
  have T2 := hT.below bb2
  have h2 := h.below bb2
  clear r1 bb1 hN
  go_wp2_with fail
  have hpc := h2.pieceMap 16 (b.length - 8) (by omega) (by omega)
  have hcat : cat [(b.take (b.length - 8)).drop 16, leB 8 lsn.toNat] = restP b lsn.toNat := by simp [cat, restP]
  have hrl := restP_length b lsn.toNat hb
  have P3 := join_any ((((RowVals.nil w2).cons s2 (n := 8) (by simp)).cons hpc (n := b.length - 8 - 16) (by simp)).rows 22 2 rfl (by simp) rfl) (n := 2) rfl (by rw [hcat, hrl]; omega)
  rw [hcat] at P3
  refine P3.mono ?_
  clear P3 hcat hpc s2 h2
  rintro e w3 ⟨A3, c3, rfl, hN⟩
  have bb3 := below_then (bb2.alloc bb2.size _) hN.below
  have B3 := below_then ((Below.refl _ w2).alloc (Nat.le_refl _) _) hN.below
  have r3 := r2.below B3
  have t3 := hN.rda
  have T3 := hT.below bb3
  clear hN r2 bb2 T2 B3
  go_wp2_with fail
  obtain ⟨R, hR⟩ : ∃ R, restP b lsn.toNat = R := ⟨_, rfl⟩
  have hst : stampP b number.toNat lsn.toNat = (leB 8 lsn.toNat ++ leB 4 number.toNat) ++ (leB 4 (crcM 0 (leB 8 lsn.toNat ++ leB 4 number.toNat ++ R)) ++ R) := by rw [← hR]; rfl
  have hslen : (stampP b number.toNat lsn.toNat).length = b.length := stampP_length b _ _ hb
  obtain ⟨st, hst0⟩ : ∃ st, stampP b number.toNat lsn.toNat = st := ⟨_, rfl⟩
  rw [hst0] at hst hslen
  rw [hR] at hrl t3
  have HST0 := Lib.hid hst0
  obtain ⟨H, hH⟩ : ∃ H, leB 8 lsn.toNat ++ leB 4 number.toNat = H := ⟨_, rfl⟩
  have hHl : H.length = 12 := by rw [← hH]; simp
  rw [hH] at hst r3
  have hcat : cat [H, R] = H ++ R := by simp [cat]
  have P4 := crcSum_any (T3.below ((Below.refl _ _).alloc (Nat.le_refl _) _)) ((((RowVals.nil w3).cons t3 (n := b.length - 16) hrl.symm).cons r3 (n := 12) hHl.symm).rows 22 2 rfl (by simp) rfl) (n := 2) rfl
  rw [hcat] at P4
  have HST := Lib.hid hst
  have HSL := Lib.hid hslen
  have HHL := Lib.hid hHl
  have HRL := Lib.hid hrl
  have HP4 := Lib.hid P4
  have hcb := crcM_lt 0 (H ++ R) (by omega)
  clear hst hslen hHl hst0 hR hH P4 hcat hrl
  refine HP4.out.mono ?_
  rintro e w4 ⟨rfl, rfl⟩
  have bb4 := bb3.alloc bb3.size (.cells #[.slice A2 12 c2, .slice A3 (b.length - 16) c3] 22)
  have r4 := r3.alloc (.cells #[.slice A2 12 c2, .slice A3 (b.length - 16) c3] 22)
  have t4 := t3.alloc (.cells #[.slice A2 12 c2, .slice A3 (b.length - 16) c3] 22)
  have hsz4 : w.heap.size ≤ (w3.alloc (.cells #[.slice A2 12 c2, .slice A3 (b.length - 16) c3] 22)).heap.size := by have := bb3.size; simp; omega
  clear HP4 r3 t3 T3 bb3
  go_wp2_with fail
  have P5 := put4_any r4 HHL.out.symm (by rw [HHL.out]; omega) ((crcM 0 (H ++ R) : Nat) : Int) (by omega) (by omega)
  rw [Int.toNat_natCast] at P5
  refine P5.mono ?_
  clear P5
  rintro e w5 ⟨A5, c5, rfl, hN⟩
  have bb5 := below_of bb4 hsz4 hN.below
  have r5 := hN.rda
  have t5 := t4.below hN.below
  have hcat : cat [H ++ leB 4 (crcM 0 (H ++ R)), R] = stampP b number.toNat lsn.toNat := by rw [HST0.out, HST.out]; simp [cat]
  have hl5 : (H ++ leB 4 (crcM 0 (H ++ R))).length = 16 := by simp [HHL.out]
  have P6 := join_any ((((RowVals.nil w5).cons t5 (n := b.length - 16) HRL.out.symm).cons r5 (n := 16) hl5.symm).rows 22 2 rfl (by simp) rfl) (n := 2) rfl (by rw [hcat, HST0.out, HSL.out]; omega)
  rw [hcat, HST0.out, HSL.out] at P6
  rw [hl5]
  have HP6 := Lib.hid P6
  have HHL5 := Lib.hid hl5
  clear hN r4 t4 bb4 hcat hl5 P6 r5 t5
  go_wp2_with fail
  refine HP6.out.mono ?_
  rintro e w6 ⟨A6, c6, rfl, hN⟩
  go_wp2_with fail
  go_ret
  refine ⟨A6, c6, rfl, ?_⟩
  rw [HST0.out]
  refine ⟨?_, below_of (bb5.alloc bb5.size _) (by have := bb5.size; simp; omega) hN.below⟩
  have := hN.own
  exact this.mono (by have := bb5.size; simp; omega)
end Go.Proofs.YtapoknpakleiiaaDoor
