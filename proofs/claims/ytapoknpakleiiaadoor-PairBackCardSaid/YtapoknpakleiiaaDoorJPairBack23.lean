import Derived.Test.YtapoknpakleiiaaDoorPage2
import Derived.Deep.RegionHeld3
import Derived.Deep.DrawnRows
import Derived.Test.YtapoknpakleiiaaDoorPage3
import Derived.Test.YtapoknpakleiiaaDoorRef4
/- The contracts of package page, on: at, Slot, Fill, Free. -/
set_option linter.unusedVariables false
set_option linter.unusedSimpArgs false
namespace Go.Proofs.YtapoknpakleiiaaDoor
open Go.RowKit Go.Tm
set_option maxHeartbeats 400000
set_option maxRecDepth 100000

def placeV (b : List UInt8) (i : Int) : Int := if placeE b i = 0 then 16 + i * 16 else 0

theorem place_ok {b : List UInt8} {i : Int} (h : placeE b i = 0) : 0 ≤ i ∧ b.length = 24 + 16 * slotsP b.length ∧ i.toNat < slotsP b.length ∧ slotsP b.length ≤ 8 := by
  unfold placeE at h
  split at h
  · simp at h
  · rename_i hs
    split at h
    · simp at h
    · have := slotsP_len (n := b.length) (by omega)
      have := slotsP_le b.length
      omega
end Go.Proofs.YtapoknpakleiiaaDoor

/- The contracts of package page, on: Fill. -/
set_option linter.unusedVariables false
set_option linter.unusedSimpArgs false
namespace Go.Proofs.YtapoknpakleiiaaDoor
open Go.RowKit Go.Tm
set_option maxHeartbeats 400000
set_option maxRecDepth 100000
attribute [local go_sem ↓] Go.wp_at_zero Go.wp_at_succ
end Go.Proofs.YtapoknpakleiiaaDoor

/- The contracts of the document's answer for layer 4, on. -/
set_option linter.unusedVariables false
set_option linter.unusedSimpArgs false
namespace Go.Proofs.YtapoknpakleiiaaDoor
open Go.RowKit Go.Tm
set_option maxHeartbeats 400000
set_option maxRecDepth 100000

theorem refSum_any {w : World} {A : Option Addr} {n c : Nat} {b : List UInt8} (h : Rda w A c b) (hn : n = b.length) (hb : 16 ≤ b.length) :
    Calls Tryd.prog 82 #[.slice A n c] w fun e w' => e = .returned (.int .u32 (sumP b : Nat)) ∧ Below w.heap.size w w' := by
  subst hn
  have hcap := h.cap
  have q1 : (12 : Int) ≤ (c : Int) := by omega
  have q2 : (16 : Int) ≤ (b.length : Int) := by omega
  have q3 : (16 : Int) ≤ (c : Int) := by omega
  go_enter Tryd.func82, Tryd.ntmps82
  go_wp2_with fail
  refine region_tail 4 (by kernel_rfl) (by kernel_rfl) ?_
  simp only [List.take_succ_cons, List.take_zero, List.drop_succ_cons, List.drop_zero]
  repeat still_step
  refine wpStill_nil ?_
  have hD := below_drew1 (Below.refl w.heap.size w)
  have hW := h.below hD
  generalize w.drew = W at hD hW ⊢
  go_wp2_with fail
  have r12 := hW.take 12 (by omega)
  have r16 := hW.drop 16 (by omega)
  have hcat : cat [b.take 12, b.drop 16] = b.take 12 ++ b.drop 16 := by simp [cat]
  have P4 := refSum2_any ((((RowVals.nil W).cons r16 (n := b.length - 16) (by simp)).cons r12 (n := 12) (by simp; omega)).rows 22 2 rfl (by simp) rfl) (n := 2) rfl
  rw [hcat, show crcM 0 (b.take 12 ++ b.drop 16) = sumP b from rfl] at P4
  refine P4.mono ?_
  rintro e w4 ⟨rfl, rfl⟩
  go_wp2_with fail
  go_ret
  exact ⟨rfl, hD.alloc hD.size _⟩

theorem refStamped_any {w : World} {A : Option Addr} {n c : Nat} {b : List UInt8} (h : Rda w A c b) (hn : n = b.length) (hb : 24 ≤ b.length) (hl : b.length ≤ 140737488351232) (number lsn : Int) (hn0 : 0 ≤ number) (hn1 : number < 16) (hl0 : 0 ≤ lsn) (hl1 : lsn ≤ 1152921504606846976) :
    Calls Tryd.prog 83 #[.slice A n c, .int .i64 number, .int .i64 lsn] w fun e w' => ∃ A' c', e = .returned (.slice A' b.length c') ∧ New 5 w w' A' c' (stampP b number.toNat lsn.toNat) := by
  subst hn
  have hst := stamped_ref b number.toNat lsn.toNat hb
  have l1 := layL_length b 0 (leB 8 lsn.toNat) (by simp; omega)
  obtain ⟨b1, hb1⟩ : ∃ b1, layL b 0 (leB 8 lsn.toNat) = b1 := ⟨_, rfl⟩
  rw [hb1] at hst l1
  have l2 := layL_length b1 8 (leB 4 number.toNat) (by simp; omega)
  obtain ⟨b2, hb2⟩ : ∃ b2, layL b1 8 (leB 4 number.toNat) = b2 := ⟨_, rfl⟩
  rw [hb2] at hst l2
  have l3 := layL_length b2 (b.length - 8) (leB 8 lsn.toNat) (by simp; omega)
  obtain ⟨b3, hb3⟩ : ∃ b3, layL b2 (b.length - 8) (leB 8 lsn.toNat) = b3 := ⟨_, rfl⟩
  rw [hb3] at hst l3
  have m2 : b1.length = b.length := l1
  have m3 : b2.length = b.length := l2.trans l1
  have m4 : b3.length = b.length := l3.trans m3
  have L1 := Lib.hid m2
  have L2 := Lib.hid m3
  have L3 := Lib.hid m4
  have HST := Lib.hid hst
  have HB1 := Lib.hid hb1
  have HB2 := Lib.hid hb2
  have HB3 := Lib.hid hb3
  clear hst l1 l2 l3 m2 m3 m4 hb1 hb2 hb3
  have hsb : sumP b3 < 4294967296 := crcM_lt 0 _ (by omega)
  go_enter Tryd.func83, Tryd.ntmps83
  go_wp2_with fail
  refine (refPut_any (Rda.nilRow w) (n := 0) rfl (by simp) lsn (by omega) (by omega) 8 (by omega) (by rfl)).mono ?_
  rintro e v1 ⟨A1, c1, rfl, hN⟩
  have bb1 := hN.below
  have r1 := hN.rda
  rw [List.nil_append] at r1 ⊢
  clear hN
  go_wp2_with fail
  refine (refLaid_any (h.below bb1) r1 rfl (by simp) hl 0 (by simp; omega) (by omega)).mono ?_
  rintro e v2 ⟨A2, c2, rfl, hN⟩
  have bb2 := below_then bb1 hN.below
  have r2 := hN.rda
  rw [HB1.out] at r2
  clear hN r1 bb1
  go_wp2_with fail
  refine (refPut_any (Rda.nilRow v2) (n := 0) rfl (by simp) number (by omega) (by omega) 4 (by omega) (by rfl)).mono ?_
  rintro e v3 ⟨A3, c3, rfl, hN⟩
  have bb3 := below_then bb2 hN.below
  have r3 := r2.below hN.below
  have s3 := hN.rda
  rw [List.nil_append] at s3 ⊢
  clear hN r2 bb2
  go_wp2_with fail
  refine (refLaid_any r3 s3 L1.out.symm (by simp) (by rw [L1.out]; exact hl) 8 (by rw [L1.out]; simp; omega) (by rw [L1.out]; omega)).mono ?_
  rintro e v4 ⟨A4, c4, rfl, hN⟩
  have bb4 := below_then bb3 hN.below
  have r4 := hN.rda
  rw [HB2.out] at r4
  rw [L1.out]
  clear hN r3 s3 bb3
  go_wp2_with fail
  refine (refPut_any (Rda.nilRow v4) (n := 0) rfl (by simp) lsn (by omega) (by omega) 8 (by omega) (by rfl)).mono ?_
  rintro e v5 ⟨A5, c5, rfl, hN⟩
  have bb5 := below_then bb4 hN.below
  have r5 := r4.below hN.below
  have s5 := hN.rda
  rw [List.nil_append] at s5 ⊢
  clear hN r4 bb4
  have hx : (b.length : Int) - 8 = ((b.length - 8 : Nat) : Int) := by omega
  go_wp2_with fail
  try rw [hx]
  refine (refLaid_any r5 s5 L2.out.symm (by simp) (by rw [L2.out]; exact hl) (b.length - 8) (by rw [L2.out]; simp; omega) (by rw [L2.out]; omega)).mono ?_
  rintro e v6 ⟨A6, c6, rfl, hN⟩
  have bb6 := below_then bb5 hN.below
  have r6 := hN.rda
  rw [HB3.out] at r6
  rw [L2.out]
  clear hN r5 s5 bb5 hx
  go_wp2_with fail
  refine (refSum_any r6 L3.out.symm (by rw [L3.out]; omega)).mono ?_
  rintro e v7 ⟨rfl, hN⟩
  have bb7 := below_then bb6 hN
  have r7 := r6.below hN
  clear hN r6 bb6
  go_wp2_with fail
  have PP := refPut_any (Rda.nilRow v7) (n := 0) rfl (by simp) (sumP b3 : Nat) (by omega) (by omega) 4 (by omega) (by rfl)
  rw [Int.toNat_natCast] at PP
  refine PP.mono ?_
  clear PP
  rintro e v8 ⟨A8, c8, rfl, hN⟩
  have bb8 := below_then bb7 hN.below
  have r8 := r7.below hN.below
  have s8 := hN.rda
  rw [List.nil_append] at s8 ⊢
  clear hN r7 bb7
  go_wp2_with fail
  refine (refLaid_any r8 s8 L3.out.symm (by simp) (by rw [L3.out]; exact hl) 12 (by rw [L3.out]; simp; omega) (by rw [L3.out]; omega)).mono ?_
  rintro e v9 ⟨A9, c9, rfl, hN⟩
  go_wp2_with fail
  go_ret
  refine ⟨A9, c9, by rw [L3.out]; rfl, ?_⟩
  rw [HST.out] at hN
  exact ⟨hN.own.mono bb8.size, below_then bb8 hN.below⟩

end Go.Proofs.YtapoknpakleiiaaDoor

/- The contracts of the document's answer for layer 4, on. -/
set_option linter.unusedVariables false
set_option linter.unusedSimpArgs false
namespace Go.Proofs.YtapoknpakleiiaaDoor
open Go.RowKit Go.Tm
set_option maxHeartbeats 400000
set_option maxRecDepth 100000

end Go.Proofs.YtapoknpakleiiaaDoor
