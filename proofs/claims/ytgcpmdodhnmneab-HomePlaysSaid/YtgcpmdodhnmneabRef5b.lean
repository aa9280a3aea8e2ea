import Derived.Test.YtgcpmdodhnmneabRef5
/- The contracts of the document's answer for layer 5, on: Put. -/
set_option linter.unusedVariables false
set_option linter.unusedSimpArgs false
namespace Go.Proofs.Ytgcpmdodhnmneab
open Go.RowKit Go.Tm
set_option maxHeartbeats 400000
set_option maxRecDepth 100000

/-- The lowest slot from k on that is not used; 0: there is none. -/
def freeFrom (b : List UInt8) (S k : Nat) : Nat := ((List.range S).find? (fun j => decide (k ≤ j) && !(usedB b (j : Int)))).getD 0
theorem freeFrom_end (b : List UInt8) (S : Nat) : freeFrom b S S = 0 := by
  unfold freeFrom
  rw [range_find_none]
  · rfl
  · intro j hj
    rw [decide_eq_false (by omega), Bool.false_and]
theorem freeFrom_free {b : List UInt8} {S k : Nat} (hk : k < S) (hu : usedB b (k : Int) = false) : freeFrom b S k = k := by
  unfold freeFrom
  rw [range_find S k _ hk (fun j hj => by rw [decide_eq_false (by omega), Bool.false_and]) (by rw [decide_eq_true (Nat.le_refl k), hu]; rfl)]
  rfl
theorem freeFrom_used {b : List UInt8} {S k : Nat} (hu : usedB b (k : Int) = true) : freeFrom b S k = freeFrom b S (k + 1) := by
  unfold freeFrom
  have e : (fun j : Nat => decide (k ≤ j) && !(usedB b (j : Int))) = (fun j : Nat => decide (k + 1 ≤ j) && !(usedB b (j : Int))) := by
    funext j
    by_cases hj : j = k
    · subst hj
      rw [hu]; simp
    · rw [show decide (k ≤ j) = decide (k + 1 ≤ j) from decide_eq_decide.2 (by omega)]
  rw [e]
theorem freeFrom_zero (b : List UInt8) : freeFrom b (slotsP b.length) 0 = (freeO b).getD 0 := by
  unfold freeFrom freeO
  have e : (fun j : Nat => decide (0 ≤ j) && !(usedB b (j : Int))) = (fun j : Nat => !(usedB b (j : Int))) := by
    funext j
    rw [decide_eq_true (Nat.zero_le j), Bool.true_and]
  rw [e]
theorem freeO_none {b : List UInt8} (h : freeO b = none) {j : Nat} (hj : j < slotsP b.length) : usedB b (j : Int) = true := by
  unfold freeO at h
  rw [List.find?_eq_none] at h
  simpa using h j (by simpa using hj)

set_option maxHeartbeats 1000000 in
theorem refPut5_any {w : World} {A : Option Addr} {n c : Nat} {b : List UInt8} (h : Rda w A c b) (hn : n = b.length) (hl : b.length ≤ 140737488351232) (key val : Int) (hv0 : 0 ≤ val) (hv1 : val < 18446744073709551616) :
    Calls Try.prog 17 #[.slice A n c, .int .i64 key, .int .u64 val] w fun e w' => ∃ A' c', e = .returned (.tuple #[.slice A' (putV b key val).length c', .int .i64 (putE b key)]) ∧ New 5 w w' A' c' (putV b key val) := by
  subst hn
  have PN := refSlots_any A b.length c (by omega) w
  have HV : Lt64 val := ⟨hv0, hv1⟩
  clear hv1
  by_cases hs : slotsP b.length = 0
  · have e1 : putE b key = 40 := if_pos hs
    have e2 : putV b key val = [] := if_neg (by rw [e1]; decide)
    rw [e1, e2]
    rw [hs] at PN
    have HPN := Lib.hid PN
    clear PN e1 e2 hs
    go_enter Try.func17, Try.ntmps17
    go_wp2_with fail
    refine HPN.out.mono ?_
    rintro e w1 ⟨rfl, rfl⟩
    go_wp2_with fail
    go_ret2
    exact ⟨none, 0, rfl, ⟨Own8.nilRow _ _ _, Below.refl _ _⟩⟩
  · have h8 := slotsP_le b.length
    by_cases hr : key < 0 ∨ 4294967295 < key
    · have e1 : putE b key = 50 := by unfold putE; rw [if_neg hs, if_pos hr]
      have e2 : putV b key val = [] := if_neg (by rw [e1]; decide)
      rw [e1, e2]
      obtain ⟨S, hS⟩ : ∃ S, slotsP b.length = S := ⟨_, rfl⟩
      rw [hS] at PN hs h8
      have hne : ((S : Int) == 0) = false := by rw [beq_eq_false_iff_ne]; omega
      have HPN := Lib.hid PN
      clear e1 e2 hS PN hs
      by_cases hlo : key < 0
      · clear hr
        go_enter Try.func17, Try.ntmps17
        go_wp2_with fail
        refine HPN.out.mono ?_
        rintro e w1 ⟨rfl, rfl⟩
        go_wp2_with fail
        go_ret2
        exact ⟨none, 0, rfl, ⟨Own8.nilRow _ _ _, Below.refl _ _⟩⟩
      · have hhi : 4294967295 < key := by omega
        clear hr
        go_enter Try.func17, Try.ntmps17
        go_wp2_with fail
        refine HPN.out.mono ?_
        rintro e w1 ⟨rfl, rfl⟩
        go_wp2_with fail
        go_ret2
        exact ⟨none, 0, rfl, ⟨Own8.nilRow _ _ _, Below.refl _ _⟩⟩
    · have hk0 : 0 ≤ key := by omega
      have hk1 : key ≤ 4294967295 := by omega
      have PF := refFind_any h rfl hl key
      have PL := fun (i : Nat) (W : World) (hb : Below w.heap.size w W) => refFill_any (h.below hb) rfl hl (i : Int) key val HV.lo HV.hi
      have PS := fun (i : Nat) (W : World) (hb : Below w.heap.size w W) => refSlot_any (h.below hb) rfl hl (i : Int)
      obtain ⟨S, hS⟩ : ∃ S, slotsP b.length = S := ⟨_, rfl⟩
      have hne : ((S : Int) == 0) = false := by rw [beq_eq_false_iff_ne]; omega
      have hplc : ∀ i : Nat, i < S → placeE b (i : Int) = 0 := fun i hi => place_of (by rw [hS]; exact hi)
      have hfit : ∀ i : Nat, putAt b key = some i → fillE b (i : Int) key = 0 ∧ putE b key = 0 ∧ putV b key val = fillV b (i : Int) key val := fun i hi => by
        have f1 : fillE b (i : Int) key = 0 := by
          unfold fillE
          rw [if_neg (by rw [place_of (putAt_lt hi)]; decide), if_neg hr]
        have f2 : putE b key = 0 := by unfold putE; rw [if_neg hs, if_neg hr, hi]
        refine ⟨f1, f2, ?_⟩
        unfold putV fillV
        rw [if_pos f2, if_pos f1, hi]
        rfl
      cases hO : findO b key with
      | some x =>
        obtain ⟨m1, m2, m3, m4, m5⟩ := findO_mem hO
        have e1 : findI b key = (x.1 : Int) := by unfold findI; rw [hO]
        have e2 : findB b key = true := by unfold findB; rw [hO]; rfl
        obtain ⟨f1, f2, f3⟩ := hfit x.1 (by unfold putAt; rw [hO])
        have PL := PL x.1
        have PS := PS x.1
        rw [f1] at PL
        rw [m2, hplc x.1 (by rw [← hS]; exact m1)] at PS
        rw [e1, e2] at PF
        rw [f2, f3]
        rw [hS] at PN h8 hs
        obtain ⟨i, k, v⟩ := x
        obtain ⟨K0, hK0⟩ : ∃ K0, slotK b (i : Int) = K0 := ⟨_, rfl⟩
        obtain ⟨V0, hV0⟩ : ∃ V0, slotV b (i : Int) = V0 := ⟨_, rfl⟩
        have PS : ∀ (W : World) (hb : Below w.heap.size w W), Calls Try.prog 29 #[.slice A b.length c, .int .i64 (i : Int)] W fun e w' => e = .returned (.tuple #[.agg #[.int .i64 K0, .int .u64 V0], .bool true, .int .i64 0]) ∧ Below W.heap.size W w' := by
          intro W hb
          have := PS W hb
          rw [hK0, hV0] at this
          exact this
        have HPN := Lib.hid PN
        have HPF := Lib.hid PF
        have HPL := Lib.hid PL
        have HPS := Lib.hid PS
        clear PN PF PL PS e1 e2 f1 f2 f3 hO m1 m2 m3 m4 m5 hK0 hV0 hfit hplc hS hr
        go_enter Try.func17, Try.ntmps17
        go_wp2_with fail
        refine HPN.out.mono ?_
        rintro e w1 ⟨rfl, rfl⟩
        go_wp2_with fail
        refine HPF.out.mono ?_
        rintro e w1 ⟨rfl, hb⟩
        go_wp2_with fail
        go_loopw [9, 11] (fun a j wr => a = .int .i64 (i : Int) ∧ j = .int .i64 ((S : Int) - 1) ∧ Below w.heap.size w wr) (fun _ j _ => 0)
        case atStart => exact ⟨rfl, rfl, hb⟩
        case round =>
          obtain ⟨rfl, rfl, hbr⟩ := hrel
          go_wp2_with fail
          refine (HPS.out _ hbr).mono ?_
          rintro e w2 ⟨rfl, hb2⟩
          have hb3 := below_then hbr hb2
          have hb4 := hb3.alloc hb3.size (.cells #[.int .i64 K0, .int .u64 V0] 64)
          go_wp2_with fail
          refine (HPL.out _ hb4).mono ?_
          rintro e w3 ⟨A2, c2, rfl, hN⟩
          go_wp2_with fail
          go_ret2
          exact ⟨A2, c2, rfl, ⟨hN.own.mono hb4.size, below_then hb4 hN.below⟩⟩
      | none =>
        have e1 : findI b key = 0 := by unfold findI; rw [hO]
        have e2 : findB b key = false := by unfold findB; rw [hO]; rfl
        have e5 : putAt b key = freeO b := by unfold putAt; rw [hO]
        have e6 := freeFrom_zero b
        rw [hS] at e6
        rw [e1, e2] at PF
        rw [hS] at PN h8 hs
        have HPN := Lib.hid PN
        have HPF := Lib.hid PF
        have HPL := Lib.hid PL
        have HPS := Lib.hid PS
        have HPC := Lib.hid hplc
        have HFit := Lib.hid hfit
        have HE5 := Lib.hid e5
        have HE6 := Lib.hid e6
        have HS := Lib.hid hS
        have HR := Lib.hid hr
        have HFE := Lib.hid (freeFrom_end b S)
        clear PN PF PL PS e1 e2 e5 e6 hO hplc hfit hS hr
        go_enter Try.func17, Try.ntmps17
        go_wp2_with fail
        refine HPN.out.mono ?_
        rintro e w1 ⟨rfl, rfl⟩
        go_wp2_with fail
        refine HPF.out.mono ?_
        rintro e w1 ⟨rfl, hb⟩
        go_wp2_with fail
        go_loopw [9, 11] (fun a j wr => ∃ k F : Nat, k ≤ S ∧ Hid (freeFrom b S k = F) ∧ a = .int .i64 (F : Int) ∧ j = .int .i64 ((k : Int) - 1) ∧ Below w.heap.size w wr) (fun _ j _ => (intOf j + 1).toNat)
        case atStart => exact ⟨S, 0, Nat.le_refl _, HFE, rfl, rfl, hb⟩
        case round =>
          obtain ⟨k, F, hk, hF, rfl, rfl, hbr⟩ := hrel
          by_cases hkz : 0 < k
          · obtain ⟨m, rfl⟩ : ∃ m, k = m + 1 := ⟨k - 1, by omega⟩
            have P1 := HPS.out m _ hbr
            rw [HPC.out m (by omega)] at P1
            obtain ⟨K0, hK0⟩ : ∃ K0, slotK b (m : Int) = K0 := ⟨_, rfl⟩
            obtain ⟨V0, hV0⟩ : ∃ V0, slotV b (m : Int) = V0 := ⟨_, rfl⟩
            rw [hK0, hV0] at P1
            have hmm : ((m + 1 : Nat) : Int) - 1 = (m : Int) := by omega
            rw [hmm]
            cases hu : usedB b (m : Int) with
            | true =>
              have hF2 := Lib.hid ((freeFrom_used (S := S) hu).trans hF.out)
              rw [hu] at P1
              have HP1 := Lib.hid P1
              clear P1 hu hK0 hV0 hmm
              go_wp2_with fail
              refine HP1.out.mono ?_
              rintro e w2 ⟨rfl, hb2⟩
              have hb3 := below_then hbr hb2
              have hb4 := hb3.alloc hb3.size (.cells #[.int .i64 K0, .int .u64 V0] 64)
              go_wp2_with fail
              go_roundw
              case rel => exact ⟨m, F, by omega, hF2, rfl, by go_num, hb4⟩
              case measure => simp [intOf]
            | false =>
              have hF2 := Lib.hid (freeFrom_free (S := S) (by omega) hu)
              rw [hu] at P1
              have HP1 := Lib.hid P1
              clear P1 hu hK0 hV0 hmm
              go_wp2_with fail
              refine HP1.out.mono ?_
              rintro e w2 ⟨rfl, hb2⟩
              have hb3 := below_then hbr hb2
              have hb4 := hb3.alloc hb3.size (.cells #[.int .i64 K0, .int .u64 V0] 64)
              go_wp2_with fail
              go_roundw
              case rel => exact ⟨m, m, by omega, hF2, rfl, by go_num, hb4⟩
              case measure => simp [intOf]
          · have hk00 : k = 0 := by omega
            subst hk00
            have hz : (((0 : Nat) : Int) - 1) = -1 := by omega
            have hF0 : F = (freeO b).getD 0 := by rw [← hF.out, HE6.out]
            cases hfo : freeO b with
            | none =>
              have hFz : F = 0 := by rw [hF0, hfo]; rfl
              have p1 : putE b key = 42 := by unfold putE; rw [if_neg (by rw [HS.out]; exact hs), if_neg HR.out, HE5.out, hfo]
              have p2 : putV b key val = [] := if_neg (by rw [p1]; decide)
              have P1 := HPS.out 0 _ hbr
              rw [HPC.out 0 (by omega), freeO_none hfo (j := 0) (by rw [HS.out]; omega)] at P1
              obtain ⟨K0, hK0⟩ : ∃ K0, slotK b ((0 : Nat) : Int) = K0 := ⟨_, rfl⟩
              obtain ⟨V0, hV0⟩ : ∃ V0, slotV b ((0 : Nat) : Int) = V0 := ⟨_, rfl⟩
              rw [hK0, hV0] at P1
              have HP1 := Lib.hid P1
              have HP2 := Lib.hid p1
              have HP3 := Lib.hid p2
              subst hFz
              clear P1 p1 p2 hK0 hV0 hfo hF0
              go_wp2_with fail
              refine HP1.out.mono ?_
              rintro e w2 ⟨rfl, hb2⟩
              have hb3 := below_then hbr hb2
              have hb4 := hb3.alloc hb3.size (.cells #[.int .i64 K0, .int .u64 V0] 64)
              go_wp2_with fail
              go_ret2
              refine ⟨none, 0, ?_, ?_⟩
              · rw [HP2.out, HP3.out]; rfl
              · rw [HP3.out]; exact ⟨Own8.nilRow _ _ _, hb4⟩
            | some i =>
              have hFz : F = i := by rw [hF0, hfo]; rfl
              obtain ⟨f1, f2, f3⟩ := HFit.out i (by rw [HE5.out, hfo])
              obtain ⟨m1, m2⟩ := freeO_mem hfo
              have P1 := HPS.out i _ hbr
              rw [HPC.out i (by rw [← HS.out]; exact m1), m2] at P1
              have P2 := HPL.out i
              rw [f1] at P2
              obtain ⟨K0, hK0⟩ : ∃ K0, slotK b (i : Int) = K0 := ⟨_, rfl⟩
              obtain ⟨V0, hV0⟩ : ∃ V0, slotV b (i : Int) = V0 := ⟨_, rfl⟩
              rw [hK0, hV0] at P1
              have HP1 := Lib.hid P1
              have HP4 := Lib.hid P2
              have HP2 := Lib.hid f2
              have HP3 := Lib.hid f3
              subst hFz
              clear P1 P2 f1 f2 f3 m1 m2 hK0 hV0 hfo hF0
              go_wp2_with fail
              refine HP1.out.mono ?_
              rintro e w2 ⟨rfl, hb2⟩
              have hb3 := below_then hbr hb2
              have hb4 := hb3.alloc hb3.size (.cells #[.int .i64 K0, .int .u64 V0] 64)
              go_wp2_with fail
              refine (HP4.out _ hb4).mono ?_
              rintro e w3 ⟨A2, c2, rfl, hN⟩
              go_wp2_with fail
              go_ret2
              refine ⟨A2, c2, ?_, ?_⟩
              · rw [HP2.out, HP3.out]; rfl
              · rw [HP3.out]; exact ⟨hN.own.mono hb4.size, below_then hb4 hN.below⟩
end Go.Proofs.Ytgcpmdodhnmneab
