import Derived.Test.YtgcpmdodhnmneaaDoorRef4b
/- The contracts of the document's answer for layer 4, on. -/
set_option linter.unusedVariables false
set_option linter.unusedSimpArgs false
namespace Go.Proofs.YtgcpmdodhnmneaaDoor
open Go.RowKit Go.Tm
set_option maxHeartbeats 400000
set_option maxRecDepth 100000

theorem refMake_any {w : World} (number slots : Int) :
    Calls Tryd.prog 12 #[.int .i64 number, .int .i64 slots] w fun e w' => ∃ A' c', e = .returned (.tuple #[.slice A' (makeV number slots).length c', .int .i64 (makeE number slots)]) ∧ New 5 w w' A' c' (makeV number slots) := by
  have PB := fun W => refBytes_any slots W
  by_cases hB : bytesP slots = 0
  · have e1 : makeE number slots = 41 := if_pos hB
    have e2 : makeV number slots = [] := if_neg (by rw [e1]; decide)
    rw [e1, e2]
    rw [hB] at PB
    have HPB := Lib.hid PB
    clear PB e1 e2 hB
    go_enter Tryd.func12, Tryd.ntmps12
    go_wp2_with fail
    refine (HPB.out _).mono ?_
    rintro e w3 ⟨rfl, rfl⟩
    go_wp2_with fail
    go_ret2
    exact ⟨none, 0, rfl, ⟨Own8.nilRow _ _ _, Below.refl _ _⟩⟩
  · have hs : 1 ≤ slots ∧ slots ≤ 8 := by
      by_cases h1 : slots < 1
      · exact absurd (bytesP_no slots (.inl h1)) hB
      · by_cases h2 : 8 < slots
        · exact absurd (bytesP_no slots (.inr h2)) hB
        · omega
    have hBv := bytesP_ok slots hs.1 hs.2
    by_cases hk : okNum number = false
    · have e1 : makeE number slots = 40 := by unfold makeE; rw [if_neg hB, if_pos hk]
      have e2 : makeV number slots = [] := if_neg (by rw [e1]; decide)
      rw [e1, e2]
      have hBe : (bytesP slots == 0) = false := beq_eq_false_iff_ne.2 hB
      obtain ⟨B, hBB⟩ : ∃ B, bytesP slots = B := ⟨_, rfl⟩
      rw [hBB] at PB hBe
      have HPB := Lib.hid PB
      have hno : ¬ (0 ≤ number ∧ number < 16) := fun hh => by rw [(okNum_iff _).2 hh] at hk; cases hk
      clear PB e1 e2 hB hBB hk hBv
      by_cases hlo : number < 0
      · clear hno
        go_enter Tryd.func12, Tryd.ntmps12
        go_wp2_with fail
        refine (HPB.out _).mono ?_
        rintro e w3 ⟨rfl, rfl⟩
        go_wp2_with fail
        go_ret2
        exact ⟨none, 0, rfl, ⟨Own8.nilRow _ _ _, Below.refl _ _⟩⟩
      · have hhi : 16 ≤ number := by omega
        clear hno
        go_enter Tryd.func12, Tryd.ntmps12
        go_wp2_with fail
        refine (HPB.out _).mono ?_
        rintro e w3 ⟨rfl, rfl⟩
        go_wp2_with fail
        go_ret2
        exact ⟨none, 0, rfl, ⟨Own8.nilRow _ _ _, Below.refl _ _⟩⟩
    · have hk1 : okNum number = true := by simpa using hk
      have e1 : makeE number slots = 0 := by unfold makeE; rw [if_neg hB, if_neg hk]
      have e2 : makeV number slots = stampP (zeroL (bytesP slots).toNat) number.toNat 0 := if_pos e1
      obtain ⟨n0, n1⟩ := (okNum_iff _).1 hk1
      rw [e1, e2]
      have hBe : (bytesP slots == 0) = false := beq_eq_false_iff_ne.2 hB
      obtain ⟨B, hBB⟩ : ∃ B : Nat, bytesP slots = (B : Int) := Int.eq_ofNat_of_zero_le (by rw [hBv]; omega)
      rw [hBB] at PB hBe
      have hb1 : 40 ≤ B := by omega
      have hb2 : B ≤ 152 := by omega
      rw [hBB, Int.toNat_natCast]
      have HPB := Lib.hid PB
      clear PB e1 e2 hB hBB hk hk1 hBv
      have hzl := zeroL_length B
      have HZ := Lib.hid hzl
      have hstl := stampP_length (zeroL B) number.toNat 0 (by rw [hzl]; omega)
      rw [hzl] at hstl
      have HST := Lib.hid hstl
      clear hzl hstl
      go_enter Tryd.func12, Tryd.ntmps12
      go_wp2_with fail
      refine (HPB.out _).mono ?_
      rintro e w3 ⟨rfl, rfl⟩
      go_wp2_with fail
      refine (HPB.out _).mono ?_
      rintro e w3 ⟨rfl, rfl⟩
      go_wp2_with (with_reducible refine wpList_make8 rfl _ _ rfl tU8 B rfl rfl rfl rfl (by omega) ?_)
      intro w1 hW hb
      go_wp2_with fail
      have hr := hW.rda (by rw [HZ.out]; omega)
      rw [HZ.out] at hr
      have P5 := refStamped_any hr HZ.out.symm (by rw [HZ.out]; omega) (by rw [HZ.out]; omega) number 0 n0 n1 (by omega) (by omega)
      rw [HZ.out] at P5
      refine P5.mono ?_
      rintro e w5 ⟨A5, c5, rfl, hN⟩
      go_wp2_with fail
      go_ret2
      exact ⟨A5, c5, by rw [HST.out]; rfl, ⟨hN.own.mono hb.size, below_then hb hN.below⟩⟩

theorem refLsn_any {w : World} {A : Option Addr} {n c : Nat} {b : List UInt8} (h : Rda w A c b) (hn : n = b.length) (hl : b.length ≤ 140737488351232) :
    Calls Tryd.prog 20 #[.slice A n c] w fun e w' => e = .returned (.tuple #[.int .i64 (lsnV b), .int .i64 (lsnE b)]) ∧ w = w' := by
  subst hn
  have PS := fun W => refSlots_any A b.length c (by omega) W
  by_cases hs : 0 < slotsP b.length
  · have h40 := (slotsP_pos.1 hs).1
    have hne : ((slotsP b.length : Int) == 0) = false := by rw [beq_eq_false_iff_ne]; omega
    have hi8 : ¬ b.length < 8 := by omega
    have hs0 : slotsP b.length ≠ 0 := by omega
    obtain ⟨S, hS⟩ : ∃ S, slotsP b.length = S := ⟨_, rfl⟩
    rw [hS] at PS hne
    have HPS := Lib.hid PS
    have g1 : getV 8 b = frontN b := if_neg hi8
    have PG := refGet_any h rfl 8 (by omega) (kk := 8) (by rfl)
    rw [g1] at PG
    by_cases hf : 1152921504606846976 < frontN b
    · have e1 : lsnE b = 40 := by unfold lsnE; rw [if_neg hs0, if_pos hf]
      have e2 : lsnV b = 0 := if_neg (by rw [e1]; decide)
      rw [e1, e2]
      obtain ⟨X, hX⟩ : ∃ X, frontN b = X := ⟨_, rfl⟩
      rw [hX] at PG hf
      have HPG := Lib.hid PG
      have hf' : (1152921504606846976 : Int) < (X : Int) := by omega
      clear PS e1 e2 hS hs hs0 hf PG g1 hX
      go_enter Tryd.func20, Tryd.ntmps20
      go_wp2_with fail
      refine (HPS.out _).mono ?_
      rintro e w3 ⟨rfl, rfl⟩
      go_wp2_with fail
      refine HPG.out.mono ?_
      rintro e w3 ⟨rfl, rfl⟩
      go_wp2_with fail
      go_ret2
      exact ⟨rfl, rfl⟩
    · have e1 : lsnE b = 0 := by unfold lsnE; rw [if_neg hs0, if_neg hf]
      have e2 : lsnV b = (frontN b : Int) := if_pos e1
      rw [e1, e2]
      obtain ⟨X, hX⟩ : ∃ X, frontN b = X := ⟨_, rfl⟩
      rw [hX] at PG hf ⊢
      have HPG := Lib.hid PG
      have hf' : (X : Int) ≤ (1152921504606846976 : Int) := by omega
      clear PS e1 e2 hS hs hs0 hf PG g1 hX
      go_enter Tryd.func20, Tryd.ntmps20
      go_wp2_with fail
      refine (HPS.out _).mono ?_
      rintro e w3 ⟨rfl, rfl⟩
      go_wp2_with fail
      refine HPG.out.mono ?_
      rintro e w3 ⟨rfl, rfl⟩
      go_wp2_with fail
      go_ret2
      exact ⟨rfl, rfl⟩
  · have h0 : slotsP b.length = 0 := by omega
    have e1 : lsnE b = 40 := if_pos h0
    have e2 : lsnV b = 0 := if_neg (by rw [e1]; decide)
    rw [e1, e2]
    rw [h0] at PS
    have HPS := Lib.hid PS
    clear PS h0 e1 e2 hs
    go_enter Tryd.func20, Tryd.ntmps20
    go_wp2_with fail
    refine (HPS.out _).mono ?_
    rintro e w3 ⟨rfl, rfl⟩
    go_wp2_with fail
    go_ret2
    exact ⟨rfl, rfl⟩

theorem refStamp_any {w : World} {A : Option Addr} {n c : Nat} {b : List UInt8} (h : Rda w A c b) (hn : n = b.length) (hl : b.length ≤ 140737488351232) (number lsn : Int) :
    Calls Tryd.prog 22 #[.slice A n c, .int .i64 number, .int .i64 lsn] w fun e w' => ∃ A' c', e = .returned (.tuple #[.slice A' (stampV b number lsn).length c', .int .i64 (stampE b number lsn)]) ∧ New 5 w w' A' c' (stampV b number lsn) := by
  subst hn
  have PS := fun W => refSlots_any A b.length c (by omega) W
  by_cases hs : 0 < slotsP b.length
  · have h40 := (slotsP_pos.1 hs).1
    have hne : ((slotsP b.length : Int) == 0) = false := by rw [beq_eq_false_iff_ne]; omega
    have hs0 : slotsP b.length ≠ 0 := by omega
    obtain ⟨S, hS⟩ : ∃ S, slotsP b.length = S := ⟨_, rfl⟩
    rw [hS] at PS hne
    have HPS := Lib.hid PS
    clear PS
    by_cases hk : okNum number = false
    · have e1 : stampE b number lsn = 40 := if_pos (.inr hk)
      have e2 : stampV b number lsn = [] := if_neg (by rw [e1]; decide)
      rw [e1, e2]
      have hno : ¬ (0 ≤ number ∧ number < 16) := fun hh => by rw [(okNum_iff _).2 hh] at hk; cases hk
      clear e1 e2 hk hS hs hs0
      by_cases hlo : number < 0
      · clear hno
        go_enter Tryd.func22, Tryd.ntmps22
        go_wp2_with fail
        refine (HPS.out _).mono ?_
        rintro e w3 ⟨rfl, rfl⟩
        go_wp2_with fail
        go_ret2
        exact ⟨none, 0, rfl, ⟨Own8.nilRow _ _ _, Below.refl _ _⟩⟩
      · have hhi : 16 ≤ number := by omega
        clear hno
        go_enter Tryd.func22, Tryd.ntmps22
        go_wp2_with fail
        refine (HPS.out _).mono ?_
        rintro e w3 ⟨rfl, rfl⟩
        go_wp2_with fail
        go_ret2
        exact ⟨none, 0, rfl, ⟨Own8.nilRow _ _ _, Below.refl _ _⟩⟩
    · have hk1 : okNum number = true := by simpa using hk
      obtain ⟨n0, n1⟩ := (okNum_iff _).1 hk1
      have hno : ¬ (slotsP b.length = 0 ∨ okNum number = false) := by rintro (h | h); exact hs0 h; exact hk h
      by_cases hr : lsn < 0 ∨ 1152921504606846976 < lsn
      · have e1 : stampE b number lsn = 30 := by unfold stampE; rw [if_neg hno, if_pos hr]
        have e2 : stampV b number lsn = [] := if_neg (by rw [e1]; decide)
        rw [e1, e2]
        clear e1 e2 hno hk hS hs hs0 hk1
        by_cases hlo : lsn < 0
        · clear hr
          go_enter Tryd.func22, Tryd.ntmps22
          go_wp2_with fail
          refine (HPS.out _).mono ?_
          rintro e w3 ⟨rfl, rfl⟩
          go_wp2_with fail
          go_ret2
          exact ⟨none, 0, rfl, ⟨Own8.nilRow _ _ _, Below.refl _ _⟩⟩
        · have hhi : 1152921504606846976 < lsn := by omega
          clear hr
          go_enter Tryd.func22, Tryd.ntmps22
          go_wp2_with fail
          refine (HPS.out _).mono ?_
          rintro e w3 ⟨rfl, rfl⟩
          go_wp2_with fail
          go_ret2
          exact ⟨none, 0, rfl, ⟨Own8.nilRow _ _ _, Below.refl _ _⟩⟩
      · have e1 : stampE b number lsn = 0 := by unfold stampE; rw [if_neg hno, if_neg hr]
        have e2 : stampV b number lsn = stampP b number.toNat lsn.toNat := if_pos e1
        have hlo : 0 ≤ lsn := by omega
        have hhi : lsn ≤ 1152921504606846976 := by omega
        have hstl := stampP_length b number.toNat lsn.toNat (by omega)
        have HST := Lib.hid hstl
        rw [e1, e2]
        clear e1 e2 hno hk hS hs hs0 hr hstl hk1
        go_enter Tryd.func22, Tryd.ntmps22
        go_wp2_with fail
        refine (HPS.out _).mono ?_
        rintro e w3 ⟨rfl, rfl⟩
        go_wp2_with fail
        refine (refStamped_any h rfl (by omega) hl number lsn n0 n1 hlo hhi).mono ?_
        rintro e w5 ⟨A5, c5, rfl, hN⟩
        go_wp2_with fail
        go_ret2
        exact ⟨A5, c5, by rw [HST.out]; rfl, hN⟩
  · have h0 : slotsP b.length = 0 := by omega
    have e1 : stampE b number lsn = 40 := if_pos (.inl h0)
    have e2 : stampV b number lsn = [] := if_neg (by rw [e1]; decide)
    rw [e1, e2]
    rw [h0] at PS
    have HPS := Lib.hid PS
    clear PS h0 e1 e2 hs
    go_enter Tryd.func22, Tryd.ntmps22
    go_wp2_with fail
    refine (HPS.out _).mono ?_
    rintro e w3 ⟨rfl, rfl⟩
    go_wp2_with fail
    go_ret2
    exact ⟨none, 0, rfl, ⟨Own8.nilRow _ _ _, Below.refl _ _⟩⟩

end Go.Proofs.YtgcpmdodhnmneaaDoor
