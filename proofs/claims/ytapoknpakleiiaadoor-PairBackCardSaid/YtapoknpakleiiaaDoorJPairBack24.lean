import Derived.Test.YtapoknpakleiiaaDoorJPairBack23
/- The contracts of the document's answer for layer 4, on. -/
set_option linter.unusedVariables false
set_option linter.unusedSimpArgs false
namespace Go.Proofs.YtapoknpakleiiaaDoor
open Go.RowKit Go.Tm
set_option maxHeartbeats 400000
set_option maxRecDepth 100000

set_option maxHeartbeats 1000000 in
theorem refCheck_any {w : World} {A : Option Addr} {n c : Nat} {b : List UInt8} (h : Rda w A c b) (hn : n = b.length) (hl : b.length ≤ 140737488351232) (number slots : Int) :
    Calls Tryd.prog 40 #[.slice A n c, .int .i64 number, .int .i64 slots] w fun e w' => e = .returned (.tuple #[.int .i64 (checkV b number slots), .int .i64 (checkE b number slots)]) ∧ Below w.heap.size w w' := by
  subst hn
  have hcap := h.cap
  have PB := fun W => refBytes_any slots W
  by_cases hB : bytesP slots = 0
  · have e0 : checkOk b number slots = false := by simp [checkOk, hB]
    have e1 : checkE b number slots = 40 := if_pos e0
    have e2 : checkV b number slots = 0 := if_pos e0
    rw [e1, e2]
    rw [hB] at PB
    have HPB := Lib.hid PB
    clear PB e0 e1 e2 hB
    go_enter Tryd.func40, Tryd.ntmps40
    go_wp2_with fail
    refine (HPB.out _).mono ?_
    rintro e w3 ⟨rfl, rfl⟩
    go_wp2_with fail
    go_ret2
    exact ⟨rfl, Below.refl _ _⟩
  · have hBe : (bytesP slots == 0) = false := beq_eq_false_iff_ne.2 hB
    by_cases hk : okNum number = false
    · have e0 : checkOk b number slots = false := by simp [checkOk, hk]
      have e1 : checkE b number slots = 40 := if_pos e0
      have e2 : checkV b number slots = 0 := if_pos e0
      rw [e1, e2]
      have hno : ¬ (0 ≤ number ∧ number < 16) := fun hh => by rw [(okNum_iff _).2 hh] at hk; cases hk
      obtain ⟨B, hBB⟩ : ∃ B, bytesP slots = B := ⟨_, rfl⟩
      rw [hBB] at PB hBe
      have HPB := Lib.hid PB
      clear PB e0 e1 e2 hB hBB hk
      by_cases hlo : number < 0
      · clear hno
        go_enter Tryd.func40, Tryd.ntmps40
        go_wp2_with fail
        refine (HPB.out _).mono ?_
        rintro e w3 ⟨rfl, rfl⟩
        go_wp2_with fail
        go_ret2
        exact ⟨rfl, Below.refl _ _⟩
      · have hhi : 16 ≤ number := by omega
        clear hno
        go_enter Tryd.func40, Tryd.ntmps40
        go_wp2_with fail
        refine (HPB.out _).mono ?_
        rintro e w3 ⟨rfl, rfl⟩
        go_wp2_with fail
        go_ret2
        exact ⟨rfl, Below.refl _ _⟩
    · have hk1 : okNum number = true := by simpa using hk
      obtain ⟨n0, n1⟩ := (okNum_iff _).1 hk1
      by_cases hle : (b.length : Int) = bytesP slots
      · have e0 : checkOk b number slots = true := by simp [checkOk, hk1, hB, hle]
        rw [← hle] at PB hBe
        have HPB := Lib.hid PB
        clear PB
        have h40 : 40 ≤ b.length ∧ b.length ≤ 152 := by
          rw [bytesP] at hle hB
          split at hle
          · rename_i hc; rw [if_pos hc] at hB; exact absurd rfl hB
          · omega
        have hne0 : ¬ checkOk b number slots = false := by rw [e0]; decide
        have PBL := refBlank_any h rfl hl
        obtain ⟨h40a, h40b⟩ := h40
        cases hbl : blankB b with
        | true =>
          have e1 : checkE b number slots = 0 := by unfold checkE; rw [if_neg hne0, if_pos hbl]
          have e2 : checkV b number slots = 0 := by unfold checkV; rw [if_neg hne0, if_pos hbl]
          rw [e1, e2]
          rw [hbl] at PBL
          have HBL := Lib.hid PBL
          clear PBL e0 e1 e2 hle hne0 hbl hB hk hk1
          go_enter Tryd.func40, Tryd.ntmps40
          go_wp2_with fail
          refine (HPB.out _).mono ?_
          rintro e w3 ⟨rfl, rfl⟩
          go_wp2_with fail
          refine (HPB.out _).mono ?_
          rintro e w3 ⟨rfl, rfl⟩
          go_wp2_with fail
          refine HBL.out.mono ?_
          rintro e w3 ⟨rfl, rfl⟩
          go_wp2_with fail
          go_ret2
          exact ⟨rfl, Below.refl _ _⟩
        | false =>
          have hnb : ¬ blankB b = true := by rw [hbl]; decide
          have e1 : checkE b number slots = if rightB b number = true then 0 else 40 := by unfold checkE; rw [if_neg hne0, if_neg hnb]
          have e2 : checkV b number slots = if rightB b number = true then (frontN b : Int) else 0 := by unfold checkV; rw [if_neg hne0, if_neg hnb]
          rw [e1, e2]
          rw [hbl] at PBL
          have HBL := Lib.hid PBL
          have g0 : getV 8 b = frontN b := by unfold getV frontN; rw [if_neg (by omega)]
          have g1 : getV 8 (b.drop (b.length - 8)) = backN b := by unfold getV backN; rw [if_neg (by rw [List.length_drop]; omega), List.take_of_length_le (by rw [List.length_drop]; omega)]
          have g2 : getV 4 (b.drop 8) = numN b := by unfold getV numN; rw [if_neg (by rw [List.length_drop]; omega)]
          have g3 : getV 4 (b.drop 12) = toldN b := by unfold getV toldN; rw [if_neg (by rw [List.length_drop]; omega)]
          have x0 := getV_lt 8 b
          have x2 := getV_lt 4 (b.drop 8)
          have x3 := getV_lt 4 (b.drop 12)
          have x4 : sumP b < 4294967296 := crcM_lt 0 _ (by omega)
          rw [g0] at x0
          rw [g2] at x2
          rw [g3] at x3
          have y0 : (frontN b : Int) < 18446744073709551616 := by
            have : (256 : Nat) ^ 8 = 18446744073709551616 := by decide
            omega
          have Y0 : Lt64 (frontN b : Int) := ⟨by omega, y0⟩
          have y2 : numN b < 4294967296 := by simpa using x2
          have y3 : toldN b < 4294967296 := by simpa using x3
          clear x0 x2 x3 y0 PBL e0 e1 e2 hle hne0 hnb hbl hB hk hk1
          obtain ⟨X, hX⟩ : ∃ X, frontN b = X := ⟨_, rfl⟩
          obtain ⟨K, hK⟩ : ∃ K, backN b = K := ⟨_, rfl⟩
          obtain ⟨N, hN⟩ : ∃ N, numN b = N := ⟨_, rfl⟩
          obtain ⟨T, hT⟩ : ∃ T, toldN b = T := ⟨_, rfl⟩
          obtain ⟨S, hS⟩ : ∃ S, sumP b = S := ⟨_, rfl⟩
          have hR : rightB b number = (decide (X = K) && decide (X ≤ 1152921504606846976) && decide ((N : Int) = number) && decide (T = S)) := by unfold rightB; rw [hX, hK, hN, hT, hS]
          rw [hX] at g0 Y0 ⊢
          rw [hK] at g1
          rw [hN] at g2 y2
          rw [hT] at g3 y3
          rw [hS] at x4
          have G4 := Lib.hid hS
          rw [hR]
          clear hX hK hN hT hS hR
          by_cases t1 : X = K
          · subst t1
            have G0 := Lib.hid g0
            have G1 := Lib.hid g1
            have G2 := Lib.hid g2
            have G3 := Lib.hid g3
            clear g0 g1 g2 g3
            by_cases hf : 1152921504606846976 < X
            · rw [decide_eq_false (show ¬ X ≤ 1152921504606846976 by omega), Bool.and_false, Bool.false_and, Bool.false_and]
              have hf' : (1152921504606846976 : Int) < (X : Int) := by omega
              clear hf
              show Calls _ _ _ _ fun e w' => e = .returned (.tuple #[.int .i64 0, .int .i64 40]) ∧ _
              go_enter Tryd.func40, Tryd.ntmps40
              go_wp2_with fail
              refine (HPB.out _).mono ?_
              rintro e w3 ⟨rfl, rfl⟩
              go_wp2_with fail
              refine (HPB.out _).mono ?_
              rintro e w3 ⟨rfl, rfl⟩
              go_wp2_with fail
              refine HBL.out.mono ?_
              rintro e w3 ⟨rfl, rfl⟩
              go_wp2_with fail
              refine (refGet_any h rfl 8 (by omega) (kk := 8) (by rfl)).mono ?_
              rw [G0.out]
              rintro e w3 ⟨rfl, rfl⟩
              go_wp2_with ((with_reducible refine at_slice ?_); refine wpList_sliceAny (L := b.length - 8) (H := b.length) (M := c) rfl _ _ _ _ rfl tU8 rfl rfl rfl rfl (.at _ _ _ _ (by omega)) (.no _) (.no _) (.inl rfl) (by omega) (by omega) (by omega) ?_)
              refine (refGet_any (h.drop (b.length - 8) (by omega)) (by simp) 8 (by omega) (kk := 8) (by rfl)).mono ?_
              rw [G1.out]
              rintro e w3 ⟨rfl, rfl⟩
              go_wp2_with fail
              refine (refGet_any (h.dropMap 8 (by omega)) (by simp) 4 (by omega) (kk := 4) (by rfl)).mono ?_
              rw [G2.out]
              rintro e w3 ⟨rfl, rfl⟩
              go_wp2_with fail
              refine (refGet_any (h.dropMap 12 (by omega)) (by simp) 4 (by omega) (kk := 4) (by rfl)).mono ?_
              rw [G3.out]
              rintro e w3 ⟨rfl, rfl⟩
              go_wp2_with fail
              go_ret2
              exact ⟨rfl, Below.refl _ _⟩
            · have hf' : (X : Int) ≤ (1152921504606846976 : Int) := by omega
              rw [decide_eq_true (show X = X from rfl), decide_eq_true (show X ≤ 1152921504606846976 by omega), Bool.true_and, Bool.true_and]
              clear hf
              by_cases t2 : (N : Int) = number
              · subst t2
                rw [decide_eq_true (show (N : Int) = (N : Int) from rfl), Bool.true_and]
                by_cases t3 : T = S
                · subst t3
                  rw [decide_eq_true (show T = T from rfl)]
                  show Calls _ _ _ _ fun e w' => e = .returned (.tuple #[.int .i64 (X : Nat), .int .i64 0]) ∧ _
                  go_enter Tryd.func40, Tryd.ntmps40
                  go_wp2_with fail
                  refine (HPB.out _).mono ?_
                  rintro e w3 ⟨rfl, rfl⟩
                  go_wp2_with fail
                  refine (HPB.out _).mono ?_
                  rintro e w3 ⟨rfl, rfl⟩
                  go_wp2_with fail
                  refine HBL.out.mono ?_
                  rintro e w3 ⟨rfl, rfl⟩
                  go_wp2_with fail
                  refine (refGet_any h rfl 8 (by omega) (kk := 8) (by rfl)).mono ?_
                  rw [G0.out]
                  rintro e w3 ⟨rfl, rfl⟩
                  go_wp2_with ((with_reducible refine at_slice ?_); refine wpList_sliceAny (L := b.length - 8) (H := b.length) (M := c) rfl _ _ _ _ rfl tU8 rfl rfl rfl rfl (.at _ _ _ _ (by omega)) (.no _) (.no _) (.inl rfl) (by omega) (by omega) (by omega) ?_)
                  refine (refGet_any (h.drop (b.length - 8) (by omega)) (by simp) 8 (by omega) (kk := 8) (by rfl)).mono ?_
                  rw [G1.out]
                  rintro e w3 ⟨rfl, rfl⟩
                  go_wp2_with fail
                  refine (refGet_any (h.dropMap 8 (by omega)) (by simp) 4 (by omega) (kk := 4) (by rfl)).mono ?_
                  rw [G2.out]
                  rintro e w3 ⟨rfl, rfl⟩
                  go_wp2_with fail
                  refine (refGet_any (h.dropMap 12 (by omega)) (by simp) 4 (by omega) (kk := 4) (by rfl)).mono ?_
                  rw [G3.out]
                  rintro e w3 ⟨rfl, rfl⟩
                  go_wp2_with fail
                  refine (refSum_any h rfl (by omega)).mono ?_
                  rw [G4.out]
                  rintro e w4 ⟨rfl, hb4⟩
                  go_wp2_with fail
                  go_ret2
                  exact ⟨rfl, hb4⟩
                · rw [decide_eq_false t3]
                  have t3' : ((T : Int) != (S : Int)) = true := by rw [bne_iff_ne]; omega
                  clear t3
                  show Calls _ _ _ _ fun e w' => e = .returned (.tuple #[.int .i64 0, .int .i64 40]) ∧ _
                  go_enter Tryd.func40, Tryd.ntmps40
                  go_wp2_with fail
                  refine (HPB.out _).mono ?_
                  rintro e w3 ⟨rfl, rfl⟩
                  go_wp2_with fail
                  refine (HPB.out _).mono ?_
                  rintro e w3 ⟨rfl, rfl⟩
                  go_wp2_with fail
                  refine HBL.out.mono ?_
                  rintro e w3 ⟨rfl, rfl⟩
                  go_wp2_with fail
                  refine (refGet_any h rfl 8 (by omega) (kk := 8) (by rfl)).mono ?_
                  rw [G0.out]
                  rintro e w3 ⟨rfl, rfl⟩
                  go_wp2_with ((with_reducible refine at_slice ?_); refine wpList_sliceAny (L := b.length - 8) (H := b.length) (M := c) rfl _ _ _ _ rfl tU8 rfl rfl rfl rfl (.at _ _ _ _ (by omega)) (.no _) (.no _) (.inl rfl) (by omega) (by omega) (by omega) ?_)
                  refine (refGet_any (h.drop (b.length - 8) (by omega)) (by simp) 8 (by omega) (kk := 8) (by rfl)).mono ?_
                  rw [G1.out]
                  rintro e w3 ⟨rfl, rfl⟩
                  go_wp2_with fail
                  refine (refGet_any (h.dropMap 8 (by omega)) (by simp) 4 (by omega) (kk := 4) (by rfl)).mono ?_
                  rw [G2.out]
                  rintro e w3 ⟨rfl, rfl⟩
                  go_wp2_with fail
                  refine (refGet_any (h.dropMap 12 (by omega)) (by simp) 4 (by omega) (kk := 4) (by rfl)).mono ?_
                  rw [G3.out]
                  rintro e w3 ⟨rfl, rfl⟩
                  go_wp2_with fail
                  refine (refSum_any h rfl (by omega)).mono ?_
                  rw [G4.out]
                  rintro e w4 ⟨rfl, hb4⟩
                  go_wp2_with fail
                  go_ret2
                  exact ⟨rfl, hb4⟩
              · rw [decide_eq_false t2, Bool.false_and]
                have t2' : ((N : Int) != number) = true := by rw [bne_iff_ne]; exact t2
                clear t2
                show Calls _ _ _ _ fun e w' => e = .returned (.tuple #[.int .i64 0, .int .i64 40]) ∧ _
                go_enter Tryd.func40, Tryd.ntmps40
                go_wp2_with fail
                refine (HPB.out _).mono ?_
                rintro e w3 ⟨rfl, rfl⟩
                go_wp2_with fail
                refine (HPB.out _).mono ?_
                rintro e w3 ⟨rfl, rfl⟩
                go_wp2_with fail
                refine HBL.out.mono ?_
                rintro e w3 ⟨rfl, rfl⟩
                go_wp2_with fail
                refine (refGet_any h rfl 8 (by omega) (kk := 8) (by rfl)).mono ?_
                rw [G0.out]
                rintro e w3 ⟨rfl, rfl⟩
                go_wp2_with ((with_reducible refine at_slice ?_); refine wpList_sliceAny (L := b.length - 8) (H := b.length) (M := c) rfl _ _ _ _ rfl tU8 rfl rfl rfl rfl (.at _ _ _ _ (by omega)) (.no _) (.no _) (.inl rfl) (by omega) (by omega) (by omega) ?_)
                refine (refGet_any (h.drop (b.length - 8) (by omega)) (by simp) 8 (by omega) (kk := 8) (by rfl)).mono ?_
                rw [G1.out]
                rintro e w3 ⟨rfl, rfl⟩
                go_wp2_with fail
                refine (refGet_any (h.dropMap 8 (by omega)) (by simp) 4 (by omega) (kk := 4) (by rfl)).mono ?_
                rw [G2.out]
                rintro e w3 ⟨rfl, rfl⟩
                go_wp2_with fail
                refine (refGet_any (h.dropMap 12 (by omega)) (by simp) 4 (by omega) (kk := 4) (by rfl)).mono ?_
                rw [G3.out]
                rintro e w3 ⟨rfl, rfl⟩
                go_wp2_with fail
                go_ret2
                exact ⟨rfl, Below.refl _ _⟩
          · rw [decide_eq_false t1, Bool.false_and, Bool.false_and, Bool.false_and]
            have t1' : ((X : Int) != (K : Int)) = true := by rw [bne_iff_ne]; omega
            have G0 := Lib.hid g0
            have G1 := Lib.hid g1
            have G2 := Lib.hid g2
            have G3 := Lib.hid g3
            clear g0 g1 g2 g3 t1
            show Calls _ _ _ _ fun e w' => e = .returned (.tuple #[.int .i64 0, .int .i64 40]) ∧ _
            go_enter Tryd.func40, Tryd.ntmps40
            go_wp2_with fail
            refine (HPB.out _).mono ?_
            rintro e w3 ⟨rfl, rfl⟩
            go_wp2_with fail
            refine (HPB.out _).mono ?_
            rintro e w3 ⟨rfl, rfl⟩
            go_wp2_with fail
            refine HBL.out.mono ?_
            rintro e w3 ⟨rfl, rfl⟩
            go_wp2_with fail
            refine (refGet_any h rfl 8 (by omega) (kk := 8) (by rfl)).mono ?_
            rw [G0.out]
            rintro e w3 ⟨rfl, rfl⟩
            go_wp2_with ((with_reducible refine at_slice ?_); refine wpList_sliceAny (L := b.length - 8) (H := b.length) (M := c) rfl _ _ _ _ rfl tU8 rfl rfl rfl rfl (.at _ _ _ _ (by omega)) (.no _) (.no _) (.inl rfl) (by omega) (by omega) (by omega) ?_)
            refine (refGet_any (h.drop (b.length - 8) (by omega)) (by simp) 8 (by omega) (kk := 8) (by rfl)).mono ?_
            rw [G1.out]
            rintro e w3 ⟨rfl, rfl⟩
            go_wp2_with fail
            refine (refGet_any (h.dropMap 8 (by omega)) (by simp) 4 (by omega) (kk := 4) (by rfl)).mono ?_
            rw [G2.out]
            rintro e w3 ⟨rfl, rfl⟩
            go_wp2_with fail
            refine (refGet_any (h.dropMap 12 (by omega)) (by simp) 4 (by omega) (kk := 4) (by rfl)).mono ?_
            rw [G3.out]
            rintro e w3 ⟨rfl, rfl⟩
            go_wp2_with fail
            go_ret2
            exact ⟨rfl, Below.refl _ _⟩
      · have e0 : checkOk b number slots = false := by simp [checkOk, hle]
        have e1 : checkE b number slots = 40 := if_pos e0
        have e2 : checkV b number slots = 0 := if_pos e0
        rw [e1, e2]
        obtain ⟨B, hBB⟩ : ∃ B, bytesP slots = B := ⟨_, rfl⟩
        rw [hBB] at PB hBe hle
        have hle' : ((b.length : Int) != B) = true := by rw [bne_iff_ne]; exact hle
        have HPB := Lib.hid PB
        clear PB e0 e1 e2 hB hBB hk hle hk1
        go_enter Tryd.func40, Tryd.ntmps40
        go_wp2_with fail
        refine (HPB.out _).mono ?_
        rintro e w3 ⟨rfl, rfl⟩
        go_wp2_with fail
        refine (HPB.out _).mono ?_
        rintro e w3 ⟨rfl, rfl⟩
        go_wp2_with fail
        go_ret2
        exact ⟨rfl, Below.refl _ _⟩

end Go.Proofs.YtapoknpakleiiaaDoor
