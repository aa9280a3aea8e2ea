import Derived.Test.YtapoknpakleiiaaDoorJPairBack25
/- The contracts of the document's answer for layer 13: Make, Parse. -/
set_option linter.unusedVariables false
set_option linter.unusedSimpArgs false
namespace Go.Proofs.YtapoknpakleiiaaDoor
open Go.RowKit Go.Tm
set_option maxHeartbeats 400000
set_option maxRecDepth 100000

theorem num8_all : ∀ N, N < 16 → leB 4 N ++ leB 4 0 = [UInt8.ofNat N, 0, 0, 0, 0, 0, 0, 0] ∧ (UInt8.ofNat N).toNat = N := by decide
theorem rda_num8 (w : World) (e : TypeId) (N : Nat) (hN : N < 16) : Rda (w.alloc (.cells #[.int .u8 (N : Int), .int .u8 0, .int .u8 0, .int .u8 0, .int .u8 0, .int .u8 0, .int .u8 0, .int .u8 0] e)) (some ⟨w.heap.size, 0, none⟩) 8 (leB 4 N ++ leB 4 0) := by
  obtain ⟨e1, e2⟩ := num8_all N hN
  have h := Rda_lit w e [UInt8.ofNat N, 0, 0, 0, 0, 0, 0, 0] 8 rfl (by simp) rfl
  rw [e1]
  have e3 : (B8 [UInt8.ofNat N, 0, 0, 0, 0, 0, 0, 0]).toArray = #[.int .u8 (N : Int), .int .u8 0, .int .u8 0, .int .u8 0, .int .u8 0, .int .u8 0, .int .u8 0, .int .u8 0] := by
    simp only [B8, List.map_cons, List.map_nil, e2]
    rfl
  rw [e3] at h
  exact h

set_option maxHeartbeats 2000000 in
theorem refMake13_any {w : World} {A : Option Addr} {n c : Nat} {b : List UInt8} (h : Rda w A c b) (hn : n = b.length) (hl : b.length ≤ 140737488351232) (number : Int) :
    Calls Tryd.prog 10 #[.int .i64 number, .slice A n c] w fun e w' => ∃ A' c', e = .returned (.tuple #[.slice A' (pmV number b).length c', .int .i64 (pmE number b)]) ∧ New 5 w w' A' c' (pmV number b) := by
  subst hn
  have PS := fun W => refSlots13_any b.length (by omega) W
  have PC := refCheck_any h rfl hl number (slotsP b.length : Nat)
  have hv := checkV_le b number (slotsP b.length : Nat)
  have hck := fun he => checkOk_num (b := b) (n := number) (s := (slotsP b.length : Nat)) he
  have hs0 : slotsP b.length = 0 → checkE b number (slotsP b.length : Nat) = 40 := fun h0 => by
    rw [h0]
    exact if_pos (by simp [checkOk, bytesP])
  obtain ⟨S, hS⟩ : ∃ S, slotsP b.length = S := ⟨_, rfl⟩
  have hpm : pmE number b = if checkE b number (S : Nat) ≠ 0 ∨ checkV b number (S : Nat) < 1 then 40 else 0 := by unfold pmE; rw [hS]
  have hpv : pmV number b = if pmE number b = 0 then pairL (checkV b number (S : Nat)).toNat number.toNat b else [] := by unfold pmV; rw [hS]
  rw [hS] at PS PC hv hck hs0
  obtain ⟨E, hE⟩ : ∃ E, checkE b number (S : Nat) = E := ⟨_, rfl⟩
  obtain ⟨V, hV⟩ : ∃ V, checkV b number (S : Nat) = V := ⟨_, rfl⟩
  rw [hE, hV] at PC hpm
  rw [hE] at hck hs0
  rw [hV] at hpv hv
  obtain ⟨v0, v1⟩ := hv
  have HPS := Lib.hid PS
  have HPC := Lib.hid PC
  clear PS PC hS hE hV
  by_cases hS0 : S = 0
  · have e1 : pmE number b = 40 := by rw [hpm, if_pos (.inl (by rw [hs0 hS0]; decide))]
    have e2 : pmV number b = [] := by rw [hpv, if_neg (by rw [e1]; decide)]
    rw [e1, e2]
    clear e1 e2 hpm hpv hck hs0
    subst hS0
    go_enter Tryd.func10, Tryd.ntmps10
    go_wp2_with fail
    refine (HPS.out _).mono ?_
    rintro e w1 ⟨rfl, rfl⟩
    go_wp2_with fail
    refine HPC.out.mono ?_
    rintro e w2 ⟨rfl, hb⟩
    go_wp2_with fail
    refine (HPS.out _).mono ?_
    rintro e w3 ⟨rfl, rfl⟩
    go_wp2_with fail
    go_ret2
    exact ⟨none, 0, rfl, ⟨Own8.nilRow _ _ _, hb⟩⟩
  · have hSn : ((S : Int) == 0) = false := by rw [beq_eq_false_iff_ne]; omega
    clear hs0
    by_cases he : E = 0
    · subst he
      by_cases hv1 : V < 1
      · have e1 : pmE number b = 40 := by rw [hpm, if_pos (.inr hv1)]
        have e2 : pmV number b = [] := by rw [hpv, if_neg (by rw [e1]; decide)]
        have hv2 : V = 0 := by omega
        rw [e1, e2]
        clear e1 e2 hpm hpv hck hv1 v0 v1
        subst hv2
        go_enter Tryd.func10, Tryd.ntmps10
        go_wp2_with fail
        refine (HPS.out _).mono ?_
        rintro e w1 ⟨rfl, rfl⟩
        go_wp2_with fail
        refine HPC.out.mono ?_
        rintro e w2 ⟨rfl, hb⟩
        go_wp2_with fail
        refine (HPS.out _).mono ?_
        rintro e w3 ⟨rfl, rfl⟩
        go_wp2_with fail
        go_ret2
        exact ⟨none, 0, rfl, ⟨Own8.nilRow _ _ _, hb⟩⟩
      · have e1 : pmE number b = 0 := by rw [hpm, if_neg (by rintro (h | h); exact h rfl; exact hv1 h)]
        have e2 : pmV number b = pairL V.toNat number.toNat b := by rw [hpv, if_pos e1]
        obtain ⟨k1, k2, k3, k4⟩ := hck rfl
        have hpl := pairL_length V.toNat number.toNat b
        rw [e1, e2, hpl]
        have V1 : 1 ≤ V := by omega
        have hVn : (V == 0) = false := by rw [beq_eq_false_iff_ne]; omega
        have HPL := Lib.hid hpl
        obtain ⟨N, rfl⟩ := Int.eq_ofNat_of_zero_le k1
        have hN16 : N < 16 := by omega
        have HVT : Hid (0 ≤ V ∧ V ≤ 1152921504606846976) := Lib.hid ⟨v0, v1⟩
        rw [Int.toNat_natCast] at *
        clear k3 k4 e1 e2 hpm hpv hck hv1 hpl hS0 k2
        have hnil : ∀ (W : World), Below w.heap.size w W → Own8 W w.heap.size 5 (.slice none 0 0) [] := fun W hb => Own8.nilRow _ _ _
        go_enter Tryd.func10, Tryd.ntmps10
        go_wp2_with fail
        refine (HPS.out _).mono ?_
        rintro e w1 ⟨rfl, rfl⟩
        go_wp2_with fail
        refine HPC.out.mono ?_
        rintro e w2 ⟨rfl, hb2⟩
        have h2 := h.below hb2
        go_wp2_with fail
        refine (HPS.out _).mono ?_
        rintro e w3 ⟨rfl, rfl⟩
        go_wp2_with fail
        go_loopw [8, 9, 10] (fun o v i wr => ∃ k : Nat, k ≤ 8 ∧ i = .int .i64 k ∧ v = .int .i64 (V / 256 ^ k) ∧ Own8 wr w.heap.size 5 o (leB k V.toNat) ∧ Below w.heap.size w wr) (fun _ _ i _ => 8 - (intOf i).toNat)
        case atStart => exact ⟨0, by omega, rfl, by simp, by simpa [leB] using hnil _ hb2, hb2⟩
        case round =>
          obtain ⟨k, hk, rfl, rfl, hown, hb⟩ := hrel
          have hB := hb.size
          have hq0 : 0 ≤ V / 256 ^ k := Int.ediv_nonneg HVT.out.1 (Int.pow_nonneg (by omega))
          have hq1 : V / 256 ^ k ≤ 1152921504606846976 := Int.le_trans (Int.ediv_le_self _ HVT.out.1) HVT.out.2
          by_cases hlt : k < 8
          · have hown1 := hown.alloc (.cells #[.int .u8 (V / 256 ^ k % 256)] 5)
            have hbx := Rda.box wr 5 (V / 256 ^ k % 256) _ (tmByte V HVT.out.1 k)
            have hds := Lib.hid (div_step V k)
            obtain ⟨X, hX⟩ : ∃ X, V / 256 ^ k = X := ⟨_, rfl⟩
            rw [hX] at hown1 hbx hds hq0 hq1 ⊢
            clear hX
            go_wp2_with (at_builtin; refine wpList_app (l := leB k V.toNat) _ rfl _ _ rfl tU8 rfl hown1 rfl rfl hbx ?c1 ?c2 ?_)
            case c1 => simp [leB_length]; omega
            case c2 => simp; omega
            intro v' w' hown' hg
            have hb1 : Below w.heap.size w w' := hown1.grown hg (hb.alloc hB _) (by simp; omega) (Nat.le_refl _)
            clear hown hown1 hbx
            go_wp2_with fail
            go_roundw
            case rel => exact ⟨k + 1, by omega, by go_num, by rw [← hds.out], by rw [leB_succ]; simpa using hown', hb1⟩
            case measure => simp [intOf]; omega
          · have he : k = 8 := by omega
            subst he
            have hn8 := rda_num8 wr 5 N hN16
            have hown1 := hown.alloc (.cells #[.int .u8 (N : Int), .int .u8 0, .int .u8 0, .int .u8 0, .int .u8 0, .int .u8 0, .int .u8 0, .int .u8 0] 5)
            have hba := hb.alloc hB (.cells #[.int .u8 (N : Int), .int .u8 0, .int .u8 0, .int .u8 0, .int .u8 0, .int .u8 0, .int .u8 0, .int .u8 0] 5)
            clear hown hq0 hq1
            go_wp2_with (at_builtin; refine wpList_app (l := leB 8 V.toNat) (m := leB 4 N ++ leB 4 0) _ rfl _ _ rfl tU8 rfl hown1 rfl (by simp) hn8 (by simp) hba.size ?_)
            intro v1 w4 hown4 hg4
            have hb4 : Below w.heap.size w w4 := hown1.grown hg4 hba hba.size (Nat.le_refl _)
            have h4 := h.below hb4
            clear hown1 hn8 hba hg4
            go_wp2_with (at_builtin; refine wpList_app (l := leB 8 V.toNat ++ (leB 4 N ++ leB 4 0)) (m := b) _ rfl _ _ rfl tU8 rfl hown4 rfl rfl h4 (by simp; omega) hb4.size ?_)
            intro v5 w5 hown5 hg5
            have hb5 : Below w.heap.size w w5 := hown4.grown hg5 hb4 hb4.size (Nat.le_refl _)
            have hown6 : Own8 w5 w.heap.size 5 v5 (pairL V.toNat N b) := by simpa [pairL] using hown5
            clear hown5
            have hown5 := hown6
            clear hown6
            obtain ⟨A', c', rfl, hr⟩ := own_rda hown5
            have HO := Lib.hid hown5
            rw [HPL.out] at *
            clear hown5 hown4 hg5 hr h4
            go_wp2_with fail
            go_ret2
            exact ⟨A', c', rfl, ⟨HO.out, hb5⟩⟩
    · have e1 : pmE number b = 40 := by rw [hpm, if_pos (.inl he)]
      have e2 : pmV number b = [] := by rw [hpv, if_neg (by rw [e1]; decide)]
      have hne : (E != 0) = true := by rw [bne_iff_ne]; exact he
      rw [e1, e2]
      clear e1 e2 hpm hpv hck he hS0
      go_enter Tryd.func10, Tryd.ntmps10
      go_wp2_with fail
      refine (HPS.out _).mono ?_
      rintro e w1 ⟨rfl, rfl⟩
      go_wp2_with fail
      refine HPC.out.mono ?_
      rintro e w2 ⟨rfl, hb⟩
      go_wp2_with fail
      refine (HPS.out _).mono ?_
      rintro e w3 ⟨rfl, rfl⟩
      go_wp2_with fail
      go_ret2
      exact ⟨none, 0, rfl, ⟨Own8.nilRow _ _ _, hb⟩⟩

set_option maxHeartbeats 1000000 in
theorem refParse13_any {w : World} {A : Option Addr} {n c : Nat} {b : List UInt8} (h : Rda w A c b) (hn : n = b.length) (hl : b.length ≤ 140737488351232) (pages slots : Int) :
    Calls Tryd.prog 21 #[.slice A n c, .int .i64 pages, .int .i64 slots] w fun e w' => ∃ A' c', e = .returned (.tuple #[.int .i64 (ppN b pages slots : Nat), .slice A' (ppV b pages slots).length c', .int .i64 (ppE b pages slots)]) ∧ New 5 w w' A' c' (ppV b pages slots) := by
  subst hn
  have P1 := fun W (hr : Rda W A c b) => refPage13_any hr rfl hl
  have hpl : (pPage b).length ≤ 140737488351232 := by unfold pPage; rw [List.length_drop]; omega
  have P2 := refNumber13_any h rfl
  have P4 := fun W (hr : Rda W A c b) => refLsn13_any hr rfl
  have P3 := fun W A' c' (hr : Rda W A' c' (pPage b)) => refCheck_any hr rfl hpl (pNum b : Nat) slots
  have hv := checkV_le (pPage b) (pNum b : Nat) slots
  have hL := pLsn_le b
  have hN := pNum_lt b
  have hck := fun he => checkOk_num (b := pPage b) (n := (pNum b : Nat)) (s := slots) he
  have hok : ppOk b pages slots = (decide (checkE (pPage b) (pNum b) slots = 0) && decide ((pNum b : Int) < pages) && decide (1 ≤ checkV (pPage b) (pNum b) slots) && decide (checkV (pPage b) (pNum b) slots = (pLsn b : Int))) := rfl
  unfold ppN ppV ppE
  obtain ⟨OK, hOK⟩ : ∃ OK, ppOk b pages slots = OK := ⟨_, rfl⟩
  obtain ⟨C, hC⟩ : ∃ C, pPage b = C := ⟨_, rfl⟩
  obtain ⟨N, hNN⟩ : ∃ N, pNum b = N := ⟨_, rfl⟩
  obtain ⟨L, hLL⟩ : ∃ L, pLsn b = L := ⟨_, rfl⟩
  rw [hOK, hC, hNN, hLL] at hok
  rw [hOK, hC, hNN]
  rw [hC] at P1 P3 hv hpl hck
  rw [hNN] at P2 P3 hv hN hck
  rw [hLL] at P4 hL
  obtain ⟨E, hE⟩ : ∃ E, checkE C (N : Nat) slots = E := ⟨_, rfl⟩
  obtain ⟨V, hV⟩ : ∃ V, checkV C (N : Nat) slots = V := ⟨_, rfl⟩
  rw [hE, hV] at P3 hok
  rw [hV] at hv
  rw [hE] at hck
  have hN16 : E = 0 → N < 16 := fun he => by have := (hck he).2.1; omega
  obtain ⟨v0, v1⟩ := hv
  have H1 := Lib.hid P1
  have H2 := Lib.hid P2
  have H3 := Lib.hid P3
  have H4 := Lib.hid P4
  clear P1 P2 P3 P4 hOK hC hNN hLL hE hV hck
  by_cases he : E = 0
  · have hN2 := hN16 he
    clear hN16
    subst he
    by_cases hv1 : V = 0
    · have ho : OK = false := by rw [hok]; simp; omega
      subst ho
      rw [if_neg (by decide), if_neg (by decide), if_neg (by decide)]
      clear hok
      subst hv1
      go_enter Tryd.func21, Tryd.ntmps21
      go_wp2_with fail
      refine H2.out.mono ?_
      rintro e w1 ⟨rfl, rfl⟩
      go_wp2_with fail
      refine (H1.out _ h).mono ?_
      rintro e w1 ⟨A1, c1, rfl, hN1⟩
      go_wp2_with fail
      refine (H3.out w1 A1 c1 hN1.rda).mono ?_
      rintro e w2 ⟨rfl, hb⟩
      go_wp2_with fail
      exact bodyPost_ret (v := .tuple #[.int .i64 0, .slice none 0 0, .int .i64 130]) (by simp [results, Tryd.results21, go_sem]) rfl ⟨none, 0, rfl, ⟨Own8.nilRow _ _ _, below_then hN1.below hb⟩⟩
    · have hvz : (V == 0) = false := by rw [beq_eq_false_iff_ne]; exact hv1
      by_cases hvl : V = (L : Int)
      · have hne : (V != (L : Int)) = false := by simp [hvl]
        have hge : decide (pages ≤ (N : Int)) = !(decide ((N : Int) < pages)) := by
          by_cases hp : (N : Int) < pages
          · rw [decide_eq_true hp, decide_eq_false (by omega)]; rfl
          · rw [decide_eq_false hp, decide_eq_true (by omega)]; rfl
        by_cases hp : (N : Int) < pages
        · have ho : OK = true := by rw [hok]; simp; omega
          subst ho
          rw [if_pos rfl, if_pos rfl, if_pos rfl]
          have hp2 : decide (pages ≤ (N : Int)) = false := decide_eq_false (by omega)
          have hp3 : decide ((16 : Int) ≤ (N : Int)) = false := decide_eq_false (by omega)
          clear hok hvl hv1 hge
          go_enter Tryd.func21, Tryd.ntmps21
          go_wp2_with fail
          refine H2.out.mono ?_
          rintro e w1 ⟨rfl, rfl⟩
          go_wp2_with fail
          refine (H1.out _ h).mono ?_
          rintro e w1 ⟨A1, c1, rfl, hN1⟩
          go_wp2_with fail
          refine (H3.out w1 A1 c1 hN1.rda).mono ?_
          rintro e w2 ⟨rfl, hb⟩
          go_wp2_with fail
          refine (H4.out w2 (h.below (below_then hN1.below hb))).mono ?_
          rintro e w3 ⟨rfl, rfl⟩
          go_wp2_with fail
          exact bodyPost_ret (v := .tuple #[.int .i64 N, .slice A1 C.length c1, .int .i64 0]) (by simp [results, Tryd.results21, go_sem]) rfl ⟨A1, c1, rfl, ⟨hN1.own.below hb, below_then hN1.below hb⟩⟩
        · have ho : OK = false := by rw [hok]; simp; omega
          subst ho
          rw [if_neg (by decide), if_neg (by decide), if_neg (by decide)]
          have hp2 : pages ≤ (N : Int) := by omega
          clear hok hvl hv1 hge hp
          go_enter Tryd.func21, Tryd.ntmps21
          go_wp2_with fail
          refine H2.out.mono ?_
          rintro e w1 ⟨rfl, rfl⟩
          go_wp2_with fail
          refine (H1.out _ h).mono ?_
          rintro e w1 ⟨A1, c1, rfl, hN1⟩
          go_wp2_with fail
          refine (H3.out w1 A1 c1 hN1.rda).mono ?_
          rintro e w2 ⟨rfl, hb⟩
          go_wp2_with fail
          refine (H4.out w2 (h.below (below_then hN1.below hb))).mono ?_
          rintro e w3 ⟨rfl, rfl⟩
          go_wp2_with fail
          exact bodyPost_ret (v := .tuple #[.int .i64 0, .slice none 0 0, .int .i64 130]) (by simp [results, Tryd.results21, go_sem]) rfl ⟨none, 0, rfl, ⟨Own8.nilRow _ _ _, below_then hN1.below hb⟩⟩
      · have ho : OK = false := by rw [hok]; simp; omega
        subst ho
        rw [if_neg (by decide), if_neg (by decide), if_neg (by decide)]
        have hne : (V != (L : Int)) = true := by rw [bne_iff_ne]; exact hvl
        clear hok hvl hv1
        go_enter Tryd.func21, Tryd.ntmps21
        go_wp2_with fail
        refine H2.out.mono ?_
        rintro e w1 ⟨rfl, rfl⟩
        go_wp2_with fail
        refine (H1.out _ h).mono ?_
        rintro e w1 ⟨A1, c1, rfl, hN1⟩
        go_wp2_with fail
        refine (H3.out w1 A1 c1 hN1.rda).mono ?_
        rintro e w2 ⟨rfl, hb⟩
        go_wp2_with fail
        refine (H4.out w2 (h.below (below_then hN1.below hb))).mono ?_
        rintro e w3 ⟨rfl, rfl⟩
        go_wp2_with fail
        exact bodyPost_ret (v := .tuple #[.int .i64 0, .slice none 0 0, .int .i64 130]) (by simp [results, Tryd.results21, go_sem]) rfl ⟨none, 0, rfl, ⟨Own8.nilRow _ _ _, below_then hN1.below hb⟩⟩
  · have ho : OK = false := by rw [hok]; simp [he]
    subst ho
    rw [if_neg (by decide), if_neg (by decide), if_neg (by decide)]
    have hne : (E != 0) = true := by rw [bne_iff_ne]; exact he
    clear hok he
    go_enter Tryd.func21, Tryd.ntmps21
    go_wp2_with fail
    refine H2.out.mono ?_
    rintro e w1 ⟨rfl, rfl⟩
    go_wp2_with fail
    refine (H1.out _ h).mono ?_
    rintro e w1 ⟨A1, c1, rfl, hN1⟩
    go_wp2_with fail
    refine (H3.out w1 A1 c1 hN1.rda).mono ?_
    rintro e w2 ⟨rfl, hb⟩
    go_wp2_with fail
    exact bodyPost_ret (v := .tuple #[.int .i64 0, .slice none 0 0, .int .i64 130]) (by simp [results, Tryd.results21, go_sem]) rfl ⟨none, 0, rfl, ⟨Own8.nilRow _ _ _, below_then hN1.below hb⟩⟩
end Go.Proofs.YtapoknpakleiiaaDoor
