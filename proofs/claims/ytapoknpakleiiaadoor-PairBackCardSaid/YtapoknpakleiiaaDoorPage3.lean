import Derived.Test.YtapoknpakleiiaaDoorPage2
/- The contracts of package page, on: Make, Stamp, Check. -/
set_option linter.unusedVariables false
set_option linter.unusedSimpArgs false
namespace Go.Proofs.YtapoknpakleiiaaDoor
open Go.RowKit Go.Tm
set_option maxHeartbeats 400000
set_option maxRecDepth 100000

theorem stamp_any {w : World} (hT : Tb w) {A : Option Addr} {n c : Nat} {b : List UInt8} (h : Rda w A c b) (hn : n = b.length) (hl : b.length ≤ 140737488351232) (number lsn : Int) :
    Calls Tryd.prog 23 #[.slice A n c, .int .i64 number, .int .i64 lsn] w fun e w' => ∃ A' c', e = .returned (.tuple #[.slice A' (stampV b number lsn).length c', .int .i64 (stampE b number lsn)]) ∧ New 5 w w' A' c' (stampV b number lsn) := by
  subst hn
  have PS := fun W => slots_any A b.length c (by omega) W
  have PN := fun W => numbered_any number W
  by_cases hs : 0 < slotsP b.length
  · have h40 := (slotsP_pos.1 hs).1
    have hne : ((slotsP b.length : Int) == 0) = false := by rw [beq_eq_false_iff_ne]; omega
    have hs0 : slotsP b.length ≠ 0 := by omega
    obtain ⟨S, hS⟩ : ∃ S, slotsP b.length = S := ⟨_, rfl⟩
    rw [hS] at PS hne
    have HPS := Lib.hid PS
    clear PS
    cases hk : okNum number with
    | false =>
      have e1 : stampE b number lsn = 40 := if_pos (.inr hk)
      have e2 : stampV b number lsn = [] := if_neg (by rw [e1]; decide)
      rw [e1, e2]
      rw [hk] at PN
      have HPN := Lib.hid PN
      clear PN e1 e2 hk hS hs hs0
      go_enter Tryd.func23, Tryd.ntmps23
      go_wp2_with fail
      refine (HPS.out _).mono ?_
      rintro e w3 ⟨rfl, rfl⟩
      go_wp2_with fail
      refine (HPN.out _).mono ?_
      rintro e w3 ⟨rfl, rfl⟩
      go_wp2_with fail
      go_ret2
      exact ⟨none, 0, rfl, ⟨Own8.nilRow _ _ _, Below.refl _ _⟩⟩
    | true =>
      have hkk := (okNum_iff _).1 hk
      rw [hk] at PN
      have HPN := Lib.hid PN
      have hno : ¬ (slotsP b.length = 0 ∨ okNum number = false) := by rw [hk]; rintro (h | h); exact hs0 h; cases h
      clear PN
      by_cases hr : lsn < 0 ∨ 1152921504606846976 < lsn
      · have e1 : stampE b number lsn = 30 := by unfold stampE; rw [if_neg hno, if_pos hr]
        have e2 : stampV b number lsn = [] := if_neg (by rw [e1]; decide)
        rw [e1, e2]
        clear e1 e2 hno hk hS hs hs0 hkk
        by_cases hlo : lsn < 0
        · clear hr
          go_enter Tryd.func23, Tryd.ntmps23
          go_wp2_with fail
          refine (HPS.out _).mono ?_
          rintro e w3 ⟨rfl, rfl⟩
          go_wp2_with fail
          refine (HPN.out _).mono ?_
          rintro e w3 ⟨rfl, rfl⟩
          go_wp2_with fail
          go_ret2
          exact ⟨none, 0, rfl, ⟨Own8.nilRow _ _ _, Below.refl _ _⟩⟩
        · have hhi : 1152921504606846976 < lsn := by omega
          clear hr
          go_enter Tryd.func23, Tryd.ntmps23
          go_wp2_with fail
          refine (HPS.out _).mono ?_
          rintro e w3 ⟨rfl, rfl⟩
          go_wp2_with fail
          refine (HPN.out _).mono ?_
          rintro e w3 ⟨rfl, rfl⟩
          go_wp2_with fail
          go_ret2
          exact ⟨none, 0, rfl, ⟨Own8.nilRow _ _ _, Below.refl _ _⟩⟩
      · have e1 : stampE b number lsn = 0 := by unfold stampE; rw [if_neg hno, if_neg hr]
        have e2 : stampV b number lsn = stampP b number.toNat lsn.toNat := if_pos e1
        have hlo : 0 ≤ lsn := by omega
        have hhi : lsn ≤ 1152921504606846976 := by omega
        have hstl := stampP_length b number.toNat lsn.toNat (by omega)
        have HST := Lib.hid hstl
        rw [e1, e2]
        obtain ⟨hk1, hk2⟩ := hkk
        clear e1 e2 hno hk hS hs hs0 hr hstl
        go_enter Tryd.func23, Tryd.ntmps23
        go_wp2_with fail
        refine (HPS.out _).mono ?_
        rintro e w3 ⟨rfl, rfl⟩
        go_wp2_with fail
        refine (HPN.out _).mono ?_
        rintro e w3 ⟨rfl, rfl⟩
        go_wp2_with fail
        refine (stamped_any hT h rfl (by omega) hl number lsn hk1 hk2 hlo hhi).mono ?_
        rintro e w5 ⟨A5, c5, rfl, hN⟩
        go_wp2_with fail
        go_ret2
        exact ⟨A5, c5, by rw [HST.out]; rfl, hN⟩
  · have h0 : slotsP b.length = 0 := by omega
    have e1 : stampE b number lsn = 40 := if_pos (.inl h0)
    have e2 : stampV b number lsn = [] := if_neg (by rw [e1]; decide)
    rw [e1, e2]
    rw [h0] at PS
    have HPS := Lib.hid PS
    clear PS PN h0 e1 e2 hs
    go_enter Tryd.func23, Tryd.ntmps23
    go_wp2_with fail
    refine (HPS.out _).mono ?_
    rintro e w3 ⟨rfl, rfl⟩
    go_wp2_with fail
    go_ret2
    exact ⟨none, 0, rfl, ⟨Own8.nilRow _ _ _, Below.refl _ _⟩⟩

set_option maxHeartbeats 1000000 in
theorem check_any {w : World} (hT : Tb w) {A : Option Addr} {n c : Nat} {b : List UInt8} (h : Rda w A c b) (hn : n = b.length) (hl : b.length ≤ 140737488351232) (number slots : Int) :
    Calls Tryd.prog 35 #[.slice A n c, .int .i64 number, .int .i64 slots] w fun e w' => e = .returned (.tuple #[.int .i64 (checkV b number slots), .int .i64 (checkE b number slots)]) ∧ Below w.heap.size w w' := by
  subst hn
  have hcap := h.cap
  have PB := fun W => bytes_any slots W
  have PN := fun W => numbered_any number W
  by_cases hB : bytesP slots = 0
  · have e0 : checkOk b number slots = false := by simp [checkOk, hB]
    have e1 : checkE b number slots = 40 := if_pos e0
    have e2 : checkV b number slots = 0 := if_pos e0
    rw [e1, e2]
    rw [hB] at PB
    have HPB := Lib.hid PB
    clear PB PN e0 e1 e2 hB
    go_enter Tryd.func35, Tryd.ntmps35
    go_wp2_with fail
    refine (HPB.out _).mono ?_
    rintro e w3 ⟨rfl, rfl⟩
    go_wp2_with fail
    go_ret2
    exact ⟨rfl, Below.refl _ _⟩

  · have hBe : (bytesP slots == 0) = false := beq_eq_false_iff_ne.2 hB
    cases hk : okNum number with
    | false =>
      have e0 : checkOk b number slots = false := by simp [checkOk, hk]
      have e1 : checkE b number slots = 40 := if_pos e0
      have e2 : checkV b number slots = 0 := if_pos e0
      rw [e1, e2]
      rw [hk] at PN
      obtain ⟨B, hBB⟩ : ∃ B, bytesP slots = B := ⟨_, rfl⟩
      rw [hBB] at PB hBe
      have HPB := Lib.hid PB
      have HPN := Lib.hid PN
      clear PB PN e0 e1 e2 hB hBB hk
      go_enter Tryd.func35, Tryd.ntmps35
      go_wp2_with fail
      refine (HPB.out _).mono ?_
      rintro e w3 ⟨rfl, rfl⟩
      go_wp2_with fail
      refine (HPN.out _).mono ?_
      rintro e w3 ⟨rfl, rfl⟩
      go_wp2_with fail
      go_ret2
      exact ⟨rfl, Below.refl _ _⟩

    | true =>
      rw [hk] at PN
      have HPN := Lib.hid PN
      clear PN
      by_cases hle : (b.length : Int) = bytesP slots
      · have e0 : checkOk b number slots = true := by simp [checkOk, hk, hB, hle]
        rw [← hle] at PB hBe
        have HPB := Lib.hid PB
        clear PB
        have h40 : 40 ≤ b.length ∧ b.length ≤ 152 := by
          rw [bytesP] at hle hB
          split at hle
          · rename_i hc; rw [if_pos hc] at hB; exact absurd rfl hB
          · omega
        have hne0 : ¬ checkOk b number slots = false := by rw [e0]; decide
        have hs0 : slotsP b.length ≠ 0 := by
          have : 0 < slotsP b.length := slotsP_pos.2 ⟨h40.1, h40.2, by
            rw [bytesP] at hle
            split at hle <;> omega⟩
          omega
        have PBL := blank_any h rfl hl
        obtain ⟨h40a, h40b⟩ := h40
        cases hbl : blankB b with
        | true =>
          have e1 : checkE b number slots = 0 := by unfold checkE; rw [if_neg hne0, if_pos hbl]
          have e2 : checkV b number slots = 0 := by unfold checkV; rw [if_neg hne0, if_pos hbl]
          rw [e1, e2]
          rw [hbl] at PBL
          have HBL := Lib.hid PBL
          clear PBL e0 e1 e2 hle hne0 hs0 hbl hB hk
          go_enter Tryd.func35, Tryd.ntmps35
          go_wp2_with fail
          refine (HPB.out _).mono ?_
          rintro e w3 ⟨rfl, rfl⟩
          go_wp2_with fail
          refine (HPN.out _).mono ?_
          rintro e w3 ⟨rfl, rfl⟩
          go_wp2_with fail
          refine (HPB.out _).mono ?_
          rintro e w3 ⟨rfl, rfl⟩
          go_wp2_with fail
          refine HBL.out.mono ?_
          rintro e w3 ⟨rfl, rfl⟩
          go_wp2_with fail
          go_ret2
          exact ⟨rfl, Below.refl _ _⟩

        | false =>
          have hnb : ¬ blankB b = true := by rw [hbl]; decide
          have e1 : checkE b number slots = if rightB b number = true then 0 else 40 := by unfold checkE; rw [if_neg hne0, if_neg hnb]
          have e2 : checkV b number slots = if rightB b number = true then (frontN b : Int) else 0 := by unfold checkV; rw [if_neg hne0, if_neg hnb]
          rw [e1, e2]
          rw [hbl] at PBL
          have HBL := Lib.hid PBL
          have PL := lsn_any h rfl hl
          have g1 : getV 8 (b.drop (b.length - 8)) = backN b := by unfold getV backN; rw [if_neg (by rw [List.length_drop]; omega), List.take_of_length_le (by rw [List.length_drop]; omega)]
          have g2 : getV 4 (b.drop 8) = numN b := by unfold getV numN; rw [if_neg (by rw [List.length_drop]; omega)]
          have g3 : getV 4 (b.drop 12) = toldN b := by unfold getV toldN; rw [if_neg (by rw [List.length_drop]; omega)]
          have x1 := getV_lt 8 (b.drop (b.length - 8))
          have x2 := getV_lt 4 (b.drop 8)
          have x3 := getV_lt 4 (b.drop 12)
          have x4 : sumP b < 4294967296 := crcM_lt 0 _ (by omega)
          rw [g1] at x1
          rw [g2] at x2
          rw [g3] at x3
          have y1 : (backN b : Int) < 18446744073709551616 := by
            have : (256 : Nat) ^ 8 = 18446744073709551616 := by decide
            omega
          have Y1 : Lt64 (backN b : Int) := ⟨by omega, y1⟩
          have y2 : numN b < 4294967296 := by simpa using x2
          have y3 : toldN b < 4294967296 := by simpa using x3
          clear x1 x2 x3 y1 PBL e0 e1 e2 hle hne0 hnb hbl hB hk
          by_cases hf : 1152921504606846976 < frontN b
          · have q1 : lsnE b = 40 := by unfold lsnE; rw [if_neg hs0, if_pos hf]
            have q2 : lsnV b = 0 := if_neg (by rw [q1]; decide)
            have q3 : rightB b number = false := by simp [rightB]; omega
            rw [q3]
            rw [q1, q2] at PL
            have HLS := Lib.hid PL
            obtain ⟨K, hK⟩ : ∃ K, backN b = K := ⟨_, rfl⟩
            obtain ⟨N, hN⟩ : ∃ N, numN b = N := ⟨_, rfl⟩
            obtain ⟨T, hTT⟩ : ∃ T, toldN b = T := ⟨_, rfl⟩
            rw [hK] at g1 Y1
            rw [hN] at g2 y2
            rw [hTT] at g3 y3
            have G1 := Lib.hid g1
            have G2 := Lib.hid g2
            have G3 := Lib.hid g3
            clear q1 q2 q3 PL hs0 hf g1 g2 g3 hK hN hTT
            show Calls _ _ _ _ fun e w' => e = .returned (.tuple #[.int .i64 0, .int .i64 40]) ∧ _
            go_enter Tryd.func35, Tryd.ntmps35
            go_wp2_with fail
            refine (HPB.out _).mono ?_
            rintro e w3 ⟨rfl, rfl⟩
            go_wp2_with fail
            refine (HPN.out _).mono ?_
            rintro e w3 ⟨rfl, rfl⟩
            go_wp2_with fail
            refine (HPB.out _).mono ?_
            rintro e w3 ⟨rfl, rfl⟩
            go_wp2_with fail
            refine HBL.out.mono ?_
            rintro e w3 ⟨rfl, rfl⟩
            go_wp2_with fail
            refine HLS.out.mono ?_
            rintro e w1 ⟨rfl, hb1⟩
            have h1 := h.below hb1
            go_wp2_with ((with_reducible refine at_slice ?_); refine wpList_sliceAny (L := b.length - 8) (H := b.length) (M := c) rfl _ _ _ _ rfl tU8 rfl rfl rfl rfl (.at _ _ _ _ (by omega)) (.no _) (.no _) (.inl rfl) (by omega) (by omega) (by omega) ?_)
            refine (get8_any (h1.drop (b.length - 8) (by omega)) (by simp)).mono ?_
            rw [G1.out]
            rintro e w3 ⟨rfl, rfl⟩
            go_wp2_with fail
            refine (get4_any (h1.dropMap 8 (by omega)) (by simp)).mono ?_
            rw [G2.out]
            rintro e w3 ⟨rfl, rfl⟩
            go_wp2_with fail
            refine (get4_any (h1.dropMap 12 (by omega)) (by simp)).mono ?_
            rw [G3.out]
            rintro e w3 ⟨rfl, rfl⟩
            go_wp2_with fail
            go_ret2
            exact ⟨rfl, hb1⟩

          · have q1 : lsnE b = 0 := by unfold lsnE; rw [if_neg hs0, if_neg hf]
            have q2 : lsnV b = (frontN b : Int) := if_pos q1
            rw [q1, q2] at PL
            have HLS := Lib.hid PL
            have hf2 : frontN b ≤ 1152921504606846976 := by omega
            by_cases t1 : frontN b = backN b
            · by_cases t2 : (numN b : Int) = number
              · by_cases t3 : toldN b = sumP b
                · have q3 : rightB b number = true := by simp [rightB, t1, t2, t3]; omega
                  rw [q3]
                  have g4 : sumP b = toldN b := t3.symm
                  obtain ⟨F, hF⟩ : ∃ F, frontN b = F := ⟨_, rfl⟩
                  rw [hF] at t1 HLS hf2 ⊢
                  rw [← t1] at g1 Y1
                  obtain ⟨T, hTT⟩ : ∃ T, toldN b = T := ⟨_, rfl⟩
                  rw [hTT] at g3 y3 g4
                  obtain ⟨N, hN⟩ : ∃ N, numN b = N := ⟨_, rfl⟩
                  rw [hN] at g2 y2 t2
                  subst t2
                  have G1 := Lib.hid g1
                  have G2 := Lib.hid g2
                  have G3 := Lib.hid g3
                  have G4 := Lib.hid g4
                  clear q1 q2 q3 PL hs0 hf g1 g2 g3 g4 hF t1 t3 hTT hN x4
                  show Calls _ _ _ _ fun e w' => e = .returned (.tuple #[.int .i64 (F : Nat), .int .i64 0]) ∧ _
                  go_enter Tryd.func35, Tryd.ntmps35
                  go_wp2_with fail
                  refine (HPB.out _).mono ?_
                  rintro e w3 ⟨rfl, rfl⟩
                  go_wp2_with fail
                  refine (HPN.out _).mono ?_
                  rintro e w3 ⟨rfl, rfl⟩
                  go_wp2_with fail
                  refine (HPB.out _).mono ?_
                  rintro e w3 ⟨rfl, rfl⟩
                  go_wp2_with fail
                  refine HBL.out.mono ?_
                  rintro e w3 ⟨rfl, rfl⟩
                  go_wp2_with fail
                  refine HLS.out.mono ?_
                  rintro e w1 ⟨rfl, hb1⟩
                  have h1 := h.below hb1
                  go_wp2_with ((with_reducible refine at_slice ?_); refine wpList_sliceAny (L := b.length - 8) (H := b.length) (M := c) rfl _ _ _ _ rfl tU8 rfl rfl rfl rfl (.at _ _ _ _ (by omega)) (.no _) (.no _) (.inl rfl) (by omega) (by omega) (by omega) ?_)
                  refine (get8_any (h1.drop (b.length - 8) (by omega)) (by simp)).mono ?_
                  rw [G1.out]
                  rintro e w3 ⟨rfl, rfl⟩
                  go_wp2_with fail
                  refine (get4_any (h1.dropMap 8 (by omega)) (by simp)).mono ?_
                  rw [G2.out]
                  rintro e w3 ⟨rfl, rfl⟩
                  go_wp2_with fail
                  refine (get4_any (h1.dropMap 12 (by omega)) (by simp)).mono ?_
                  rw [G3.out]
                  rintro e w3 ⟨rfl, rfl⟩
                  go_wp2_with fail
                  refine (sum_any (hT.below hb1) h1 rfl (by omega)).mono ?_
                  rw [G4.out]
                  rintro e w4 ⟨rfl, hb4⟩
                  go_wp2_with fail
                  go_ret2
                  exact ⟨rfl, below_then hb1 hb4⟩

                · have q3 : rightB b number = false := by simp [rightB, t3]
                  rw [q3]
                  obtain ⟨F, hF⟩ : ∃ F, frontN b = F := ⟨_, rfl⟩
                  rw [hF] at t1 HLS hf2
                  rw [← t1] at g1 Y1
                  obtain ⟨T, hTT⟩ : ∃ T, toldN b = T := ⟨_, rfl⟩
                  obtain ⟨S, hSS⟩ : ∃ S, sumP b = S := ⟨_, rfl⟩
                  rw [hTT] at g3 y3 t3
                  rw [hSS] at t3 x4
                  obtain ⟨N, hN⟩ : ∃ N, numN b = N := ⟨_, rfl⟩
                  rw [hN] at g2 y2 t2
                  subst t2
                  have t3' : ((T : Int) != (S : Int)) = true := by rw [bne_iff_ne]; omega
                  have G1 := Lib.hid g1
                  have G2 := Lib.hid g2
                  have G3 := Lib.hid g3
                  have G4 := Lib.hid hSS
                  clear q1 q2 q3 PL hs0 hf g1 g2 g3 hF t1 t3 hTT hN hSS
                  show Calls _ _ _ _ fun e w' => e = .returned (.tuple #[.int .i64 0, .int .i64 40]) ∧ _
                  go_enter Tryd.func35, Tryd.ntmps35
                  go_wp2_with fail
                  refine (HPB.out _).mono ?_
                  rintro e w3 ⟨rfl, rfl⟩
                  go_wp2_with fail
                  refine (HPN.out _).mono ?_
                  rintro e w3 ⟨rfl, rfl⟩
                  go_wp2_with fail
                  refine (HPB.out _).mono ?_
                  rintro e w3 ⟨rfl, rfl⟩
                  go_wp2_with fail
                  refine HBL.out.mono ?_
                  rintro e w3 ⟨rfl, rfl⟩
                  go_wp2_with fail
                  refine HLS.out.mono ?_
                  rintro e w1 ⟨rfl, hb1⟩
                  have h1 := h.below hb1
                  go_wp2_with ((with_reducible refine at_slice ?_); refine wpList_sliceAny (L := b.length - 8) (H := b.length) (M := c) rfl _ _ _ _ rfl tU8 rfl rfl rfl rfl (.at _ _ _ _ (by omega)) (.no _) (.no _) (.inl rfl) (by omega) (by omega) (by omega) ?_)
                  refine (get8_any (h1.drop (b.length - 8) (by omega)) (by simp)).mono ?_
                  rw [G1.out]
                  rintro e w3 ⟨rfl, rfl⟩
                  go_wp2_with fail
                  refine (get4_any (h1.dropMap 8 (by omega)) (by simp)).mono ?_
                  rw [G2.out]
                  rintro e w3 ⟨rfl, rfl⟩
                  go_wp2_with fail
                  refine (get4_any (h1.dropMap 12 (by omega)) (by simp)).mono ?_
                  rw [G3.out]
                  rintro e w3 ⟨rfl, rfl⟩
                  go_wp2_with fail
                  refine (sum_any (hT.below hb1) h1 rfl (by omega)).mono ?_
                  rw [G4.out]
                  rintro e w4 ⟨rfl, hb4⟩
                  go_wp2_with fail
                  go_ret2
                  exact ⟨rfl, below_then hb1 hb4⟩

              · have q3 : rightB b number = false := by simp [rightB, t2]
                rw [q3]
                obtain ⟨F, hF⟩ : ∃ F, frontN b = F := ⟨_, rfl⟩
                rw [hF] at t1 HLS hf2
                rw [← t1] at g1 Y1
                obtain ⟨T, hTT⟩ : ∃ T, toldN b = T := ⟨_, rfl⟩
                rw [hTT] at g3 y3
                obtain ⟨N, hN⟩ : ∃ N, numN b = N := ⟨_, rfl⟩
                rw [hN] at g2 y2 t2
                have t2' : ((N : Int) != number) = true := by rw [bne_iff_ne]; exact t2
                have G1 := Lib.hid g1
                have G2 := Lib.hid g2
                have G3 := Lib.hid g3
                clear q1 q2 q3 PL hs0 hf g1 g2 g3 hF t1 t2 hTT hN
                show Calls _ _ _ _ fun e w' => e = .returned (.tuple #[.int .i64 0, .int .i64 40]) ∧ _
                go_enter Tryd.func35, Tryd.ntmps35
                go_wp2_with fail
                refine (HPB.out _).mono ?_
                rintro e w3 ⟨rfl, rfl⟩
                go_wp2_with fail
                refine (HPN.out _).mono ?_
                rintro e w3 ⟨rfl, rfl⟩
                go_wp2_with fail
                refine (HPB.out _).mono ?_
                rintro e w3 ⟨rfl, rfl⟩
                go_wp2_with fail
                refine HBL.out.mono ?_
                rintro e w3 ⟨rfl, rfl⟩
                go_wp2_with fail
                refine HLS.out.mono ?_
                rintro e w1 ⟨rfl, hb1⟩
                have h1 := h.below hb1
                go_wp2_with ((with_reducible refine at_slice ?_); refine wpList_sliceAny (L := b.length - 8) (H := b.length) (M := c) rfl _ _ _ _ rfl tU8 rfl rfl rfl rfl (.at _ _ _ _ (by omega)) (.no _) (.no _) (.inl rfl) (by omega) (by omega) (by omega) ?_)
                refine (get8_any (h1.drop (b.length - 8) (by omega)) (by simp)).mono ?_
                rw [G1.out]
                rintro e w3 ⟨rfl, rfl⟩
                go_wp2_with fail
                refine (get4_any (h1.dropMap 8 (by omega)) (by simp)).mono ?_
                rw [G2.out]
                rintro e w3 ⟨rfl, rfl⟩
                go_wp2_with fail
                refine (get4_any (h1.dropMap 12 (by omega)) (by simp)).mono ?_
                rw [G3.out]
                rintro e w3 ⟨rfl, rfl⟩
                go_wp2_with fail
                go_ret2
                exact ⟨rfl, hb1⟩

            · have q3 : rightB b number = false := by simp [rightB, t1]
              rw [q3]
              obtain ⟨F, hF⟩ : ∃ F, frontN b = F := ⟨_, rfl⟩
              obtain ⟨K, hK⟩ : ∃ K, backN b = K := ⟨_, rfl⟩
              rw [hF] at t1 HLS hf2
              rw [hK] at t1 g1 Y1
              obtain ⟨T, hTT⟩ : ∃ T, toldN b = T := ⟨_, rfl⟩
              rw [hTT] at g3 y3
              obtain ⟨N, hN⟩ : ∃ N, numN b = N := ⟨_, rfl⟩
              rw [hN] at g2 y2
              have t1' : ((F : Int) != (K : Int)) = true := by rw [bne_iff_ne]; omega
              have G1 := Lib.hid g1
              have G2 := Lib.hid g2
              have G3 := Lib.hid g3
              clear q1 q2 q3 PL hs0 hf g1 g2 g3 hF t1 hTT hN hK
              show Calls _ _ _ _ fun e w' => e = .returned (.tuple #[.int .i64 0, .int .i64 40]) ∧ _
              go_enter Tryd.func35, Tryd.ntmps35
              go_wp2_with fail
              refine (HPB.out _).mono ?_
              rintro e w3 ⟨rfl, rfl⟩
              go_wp2_with fail
              refine (HPN.out _).mono ?_
              rintro e w3 ⟨rfl, rfl⟩
              go_wp2_with fail
              refine (HPB.out _).mono ?_
              rintro e w3 ⟨rfl, rfl⟩
              go_wp2_with fail
              refine HBL.out.mono ?_
              rintro e w3 ⟨rfl, rfl⟩
              go_wp2_with fail
              refine HLS.out.mono ?_
              rintro e w1 ⟨rfl, hb1⟩
              have h1 := h.below hb1
              go_wp2_with ((with_reducible refine at_slice ?_); refine wpList_sliceAny (L := b.length - 8) (H := b.length) (M := c) rfl _ _ _ _ rfl tU8 rfl rfl rfl rfl (.at _ _ _ _ (by omega)) (.no _) (.no _) (.inl rfl) (by omega) (by omega) (by omega) ?_)
              refine (get8_any (h1.drop (b.length - 8) (by omega)) (by simp)).mono ?_
              rw [G1.out]
              rintro e w3 ⟨rfl, rfl⟩
              go_wp2_with fail
              refine (get4_any (h1.dropMap 8 (by omega)) (by simp)).mono ?_
              rw [G2.out]
              rintro e w3 ⟨rfl, rfl⟩
              go_wp2_with fail
              refine (get4_any (h1.dropMap 12 (by omega)) (by simp)).mono ?_
              rw [G3.out]
              rintro e w3 ⟨rfl, rfl⟩
              go_wp2_with fail
              go_ret2
              exact ⟨rfl, hb1⟩

      · have e0 : checkOk b number slots = false := by simp [checkOk, hle]
        have e1 : checkE b number slots = 40 := if_pos e0
        have e2 : checkV b number slots = 0 := if_pos e0
        rw [e1, e2]
        obtain ⟨B, hBB⟩ : ∃ B, bytesP slots = B := ⟨_, rfl⟩
        rw [hBB] at PB hBe hle
        have hle' : ((b.length : Int) != B) = true := by rw [bne_iff_ne]; exact hle
        have HPB := Lib.hid PB
        clear PB e0 e1 e2 hB hBB hk hle
        go_enter Tryd.func35, Tryd.ntmps35
        go_wp2_with fail
        refine (HPB.out _).mono ?_
        rintro e w3 ⟨rfl, rfl⟩
        go_wp2_with fail
        refine (HPN.out _).mono ?_
        rintro e w3 ⟨rfl, rfl⟩
        go_wp2_with fail
        refine (HPB.out _).mono ?_
        rintro e w3 ⟨rfl, rfl⟩
        go_wp2_with fail
        go_ret2
        exact ⟨rfl, Below.refl _ _⟩


end Go.Proofs.YtapoknpakleiiaaDoor
