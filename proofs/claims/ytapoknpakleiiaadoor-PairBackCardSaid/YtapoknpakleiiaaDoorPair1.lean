import Derived.Test.YtapoknpakleiiaaDoorPairPure
import Derived.Test.YtapoknpakleiiaaDoorPage3
import Derived.Test.YtapoknpakleiiaaDoorDisk1
/- The contracts of package pair: the number of slots, the methods, Make, Parse. -/
set_option linter.unusedVariables false
set_option linter.unusedSimpArgs false
namespace Go.Proofs.YtapoknpakleiiaaDoor
open Go.RowKit Go.Tm
set_option maxHeartbeats 400000
set_option maxRecDepth 100000

theorem slotsOf_any (n : Nat) (hn : n ≤ 140737488355328) (w : World) : Calls Tryd.prog 36 #[.int .i64 n] w fun e w' => e = .returned (.int .i64 (slotsP n : Nat)) ∧ w = w' := by
  go_enter Tryd.func36, Tryd.ntmps36
  go_wp2_with fail
  go_loop [3] (fun i => ∃ k : Nat, 1 ≤ k ∧ k ≤ 9 ∧ i = .int .i64 k ∧ Box (∀ j, 1 ≤ j → j < k → n ≠ 24 + 16 * j)) (fun i => 9 - (intOf i).toNat)
  case atStart => exact ⟨1, by omega, by omega, rfl, ⟨fun j h1 h2 => by omega⟩⟩
  case round =>
    obtain ⟨k, hk1, hk9, rfl, hz⟩ := hrel
    by_cases hkt : k < 9
    · have P := bytes_any (k : Int) w
      rw [bytesP_ok _ (by omega) (by omega)] at P
      have HP := Lib.hid P
      clear P
      by_cases he : n = 24 + 16 * k
      · have hs : slotsP n = k := by rw [he]; exact slotsP_of k hk1 (by omega)
        have HS := Lib.hid hs
        have hb : (24 + 16 * (k : Int) == (n : Int)) = true := by rw [beq_iff_eq]; omega
        clear hs he hz
        go_wp2_with fail
        refine HP.out.mono ?_
        rintro e w1 ⟨rfl, rfl⟩
        go_wp2_with fail
        go_ret
        exact ⟨by rw [HS.out]; rfl, rfl⟩
      · have hb : (24 + 16 * (k : Int) == (n : Int)) = false := by rw [beq_eq_false_iff_ne]; omega
        have hz2 : Box (∀ j, 1 ≤ j → j < k + 1 → n ≠ 24 + 16 * j) := ⟨fun j h1 h2 => by
          by_cases hjk : j < k
          · exact hz.out j h1 hjk
          · rw [show j = k by omega]; exact he⟩
        clear he hz
        go_wp2_with fail
        refine HP.out.mono ?_
        rintro e w1 ⟨rfl, rfl⟩
        go_wp2_with fail
        go_round
        case rel => exact ⟨k + 1, by omega, by omega, by go_num, hz2⟩
        case measure => simp [intOf]; omega
    · have he : k = 9 := by omega
      subst he
      have hs : slotsP n = 0 := by
        by_cases hp : 0 < slotsP n
        · exact absurd (slotsP_len hp) (hz.out _ hp (by have := slotsP_le n; omega))
        · omega
      have HS := Lib.hid hs
      clear hs hz
      go_wp2_with fail
      go_ret
      exact ⟨by rw [HS.out]; rfl, rfl⟩

theorem pLsn_any {w : World} {A : Option Addr} {n c : Nat} {l : List UInt8} (h : Rda w A c l) (hn : n = l.length) :
    Calls Tryd.prog 14 #[.slice A n c] w fun e w' => e = .returned (.int .i64 (pLsn l : Nat)) ∧ w = w' := by
  have P := get8_any h hn
  have hlt := getV_lt 8 l
  subst hn
  unfold pLsn
  by_cases h8 : l.length < 8
  · rw [if_pos h8]
    rw [show getV 8 l = 0 from if_pos h8, show getE 8 l = 10 from if_pos h8] at P
    have HP := Lib.hid P
    clear P hlt
    go_enter Tryd.func14, Tryd.ntmps14
    go_wp2_with fail
    refine HP.out.mono ?_
    rintro e w1 ⟨rfl, rfl⟩
    go_wp2_with fail
    go_ret
    exact ⟨rfl, rfl⟩
  · rw [if_neg h8]
    rw [show getV 8 l = leN (l.take 8) from if_neg h8] at P hlt
    rw [show getE 8 l = 0 from if_neg h8] at P
    obtain ⟨V, hV⟩ : ∃ V, leN (l.take 8) = V := ⟨_, rfl⟩
    rw [hV] at P hlt ⊢
    have y1 : (V : Int) < 18446744073709551616 := by
      have : (256 : Nat) ^ 8 = 18446744073709551616 := by decide
      omega
    have Y1 : Lt64 (V : Int) := ⟨by omega, y1⟩
    have HP := Lib.hid P
    clear P hlt y1 hV
    by_cases hb : 1152921504606846976 < V
    · rw [if_pos hb]
      go_enter Tryd.func14, Tryd.ntmps14
      go_wp2_with fail
      refine HP.out.mono ?_
      rintro e w1 ⟨rfl, rfl⟩
      go_wp2_with fail
      go_ret
      exact ⟨rfl, rfl⟩
    · rw [if_neg hb]
      have hb2 : V ≤ 1152921504606846976 := by omega
      clear hb
      go_enter Tryd.func14, Tryd.ntmps14
      go_wp2_with fail
      refine HP.out.mono ?_
      rintro e w1 ⟨rfl, rfl⟩
      go_wp2_with fail
      go_ret
      exact ⟨rfl, rfl⟩

theorem pNumber_any {w : World} {A : Option Addr} {n c : Nat} {l : List UInt8} (h : Rda w A c l) (hn : n = l.length) :
    Calls Tryd.prog 16 #[.slice A n c] w fun e w' => e = .returned (.int .i64 (pNum l : Nat)) ∧ w = w' := by
  subst hn
  have hcap := h.cap
  have hmax := h.max
  unfold maxLen at hmax
  unfold pNum
  by_cases h12 : l.length < 12
  · rw [if_pos h12]
    go_enter Tryd.func16, Tryd.ntmps16
    go_wp2_with fail
    go_ret
    exact ⟨rfl, rfl⟩
  · rw [if_neg h12]
    have g2 : getV 4 (l.drop 8) = leN ((l.drop 8).take 4) := by unfold getV; rw [if_neg (by rw [List.length_drop]; omega)]
    have hlt := getV_lt 4 (l.drop 8)
    rw [g2] at hlt
    obtain ⟨V, hV⟩ : ∃ V, leN ((l.drop 8).take 4) = V := ⟨_, rfl⟩
    rw [hV] at g2 hlt ⊢
    have y2 : V < 4294967296 := by simpa using hlt
    have G2 := Lib.hid g2
    clear g2 hlt hV
    go_enter Tryd.func16, Tryd.ntmps16
    go_wp2_with fail
    refine (get4_any (h.dropMap 8 (by omega)) (by simp)).mono ?_
    rw [G2.out]
    rintro e w3 ⟨rfl, rfl⟩
    go_wp2_with fail
    go_ret
    exact ⟨rfl, rfl⟩

theorem tPB : U8 Tryd.prog 24 5 := ⟨Tryd.underlying24, Tryd.underlying5, by
  obtain ⟨i, h, h1, h2, h3⟩ := info_parts (P := Tryd.prog) (e := 5) (z := .int .u8 0) (size := 1) (bytes := 1) (by kernel_rfl)
  exact ⟨i, h, h1, h2, h3⟩⟩
theorem cloneP_any {w : World} {A : Option Addr} {n c : Nat} {l : List UInt8} (h : Rda w A c l) (hn : n = l.length) (hl : l.length ≤ 140737488355328) :
    Calls Tryd.prog 47 #[.slice A n c] w fun e w' => ∃ A' c', e = .returned (.slice A' l.length c') ∧ New 5 w w' A' c' l := by
  subst hn
  cases A with
  | none =>
    have h0 := h.nil rfl
    subst h0
    have : l = [] := List.eq_nil_of_length_eq_zero (by have := h.cap; omega)
    subst this
    go_enter Tryd.func47, Tryd.ntmps47
    go_wp2
    go_ret
    exact ⟨none, 0, rfl, ⟨Own8.nilRow _ _ _, Below.refl _ _⟩⟩
  | some a =>
    have hown := Own8.none_ w w.heap.size 5 (Nat.le_refl _)
    go_enter Tryd.func47, Tryd.ntmps47
    go_wp2_with (at_builtin; refine wpList_app (l := []) _ rfl _ _ rfl tPB rfl hown rfl rfl (h.alloc _) (by simpa using hl) (by simp) ?_)
    intro v' w' hown' hg
    go_wp2
    go_ret
    obtain ⟨A', c', rfl, hr⟩ := own_rda hown'
    exact ⟨A', c', rfl, ⟨hown', hown.grown hg ((Below.refl _ _).alloc (Nat.le_refl _) _) (by simp) (Nat.le_refl _)⟩⟩

theorem pPage_any {w : World} {A : Option Addr} {n c : Nat} {l : List UInt8} (h : Rda w A c l) (hn : n = l.length) (hl : l.length ≤ 140737488355328) :
    Calls Tryd.prog 18 #[.slice A n c] w fun e w' => ∃ A' c', e = .returned (.slice A' (pPage l).length c') ∧ New 5 w w' A' c' (pPage l) := by
  subst hn
  have hcap := h.cap
  have hmax := h.max
  unfold maxLen at hmax
  unfold pPage
  by_cases h16 : l.length ≤ 16
  · have h0 : l.drop 16 = [] := List.drop_eq_nil_of_le h16
    rw [h0]
    clear h0
    go_enter Tryd.func18, Tryd.ntmps18
    go_wp2_with fail
    go_ret
    exact ⟨none, 0, rfl, ⟨Own8.nilRow _ _ _, Below.refl _ _⟩⟩
  · have hdl : (l.drop 16).length = l.length - 16 := List.length_drop
    have P := cloneP_any (h.dropMap 16 (by omega)) hdl.symm (by omega)
    rw [hdl] at P ⊢
    have HP := Lib.hid P
    clear P hdl
    go_enter Tryd.func18, Tryd.ntmps18
    go_wp2_with fail
    refine HP.out.mono ?_
    rintro e w3 ⟨A', c', rfl, hN⟩
    go_wp2_with fail
    go_ret
    exact ⟨A', c', rfl, hN⟩

set_option maxHeartbeats 1000000 in
theorem pMake_any {w : World} (hT : Tb w) {A : Option Addr} {n c : Nat} {b : List UInt8} (h : Rda w A c b) (hn : n = b.length) (hl : b.length ≤ 140737488351232) (number : Int) :
    Calls Tryd.prog 9 #[.int .i64 number, .slice A n c] w fun e w' => ∃ A' c', e = .returned (.tuple #[.slice A' (pmV number b).length c', .int .i64 (pmE number b)]) ∧ New 5 w w' A' c' (pmV number b) := by
  subst hn
  have PS := slotsOf_any b.length (by omega) w
  have PC := check_any hT h rfl hl number (slotsP b.length : Nat)
  have hv := checkV_le b number (slotsP b.length : Nat)
  have hck := fun he => checkOk_num (b := b) (n := number) (s := (slotsP b.length : Nat)) he
  obtain ⟨S, hS⟩ : ∃ S, slotsP b.length = S := ⟨_, rfl⟩
  have hpm : pmE number b = if checkE b number (S : Nat) ≠ 0 ∨ checkV b number (S : Nat) < 1 then 40 else 0 := by unfold pmE; rw [hS]
  have hpv : pmV number b = if pmE number b = 0 then pairL (checkV b number (S : Nat)).toNat number.toNat b else [] := by unfold pmV; rw [hS]
  rw [hS] at PS PC hv hck
  obtain ⟨E, hE⟩ : ∃ E, checkE b number (S : Nat) = E := ⟨_, rfl⟩
  obtain ⟨V, hV⟩ : ∃ V, checkV b number (S : Nat) = V := ⟨_, rfl⟩
  rw [hE, hV] at PC hpm
  rw [hE] at hck
  rw [hV] at hpv hv
  obtain ⟨v0, v1⟩ := hv
  have HPS := Lib.hid PS
  have HPC := Lib.hid PC
  clear PS PC hS hE hV
  by_cases he : E = 0
  · subst he
    by_cases hv1 : V < 1
    · have e1 : pmE number b = 40 := by rw [hpm, if_pos (.inr hv1)]
      have e2 : pmV number b = [] := by rw [hpv, if_neg (by rw [e1]; decide)]
      rw [e1, e2]
      clear e1 e2 hpm hpv hck
      go_enter Tryd.func9, Tryd.ntmps9
      go_wp2_with fail
      refine HPS.out.mono ?_
      rintro e w1 ⟨rfl, rfl⟩
      go_wp2_with fail
      refine HPC.out.mono ?_
      rintro e w2 ⟨rfl, hb⟩
      go_wp2_with fail
      go_ret2
      exact ⟨none, 0, rfl, ⟨Own8.nilRow _ _ _, hb⟩⟩
    · have e1 : pmE number b = 0 := by rw [hpm, if_neg (by rintro (h | h); exact h rfl; exact hv1 h)]
      have e2 : pmV number b = pairL V.toNat number.toNat b := by rw [hpv, if_pos e1]
      obtain ⟨k1, k2, k3, k4⟩ := hck rfl
      clear k3 k4
      have hpl := pairL_length V.toNat number.toNat b
      rw [e1, e2, hpl]
      have V1 : 1 ≤ V := by omega
      have HPL := Lib.hid hpl
      clear e1 e2 hpm hpv hck hv1 hpl
      go_enter Tryd.func9, Tryd.ntmps9
      go_wp2_with fail
      refine HPS.out.mono ?_
      rintro e w1 ⟨rfl, rfl⟩
      go_wp2_with fail
      refine HPC.out.mono ?_
      rintro e w2 ⟨rfl, hb2⟩
      have h2 := h.below hb2
      go_wp2_with fail
      refine (put8_any (Rda.nilRow w2) (n := 0) rfl (by simp) V (by omega) (by omega)).mono ?_
      rintro e w3 ⟨A3, c3, rfl, hN3⟩
      have bb3 := below_then hb2 hN3.below
      have r3 := hN3.rda
      have h3 := h2.below hN3.below
      rw [List.nil_append] at r3 ⊢
      clear hN3 h2
      go_wp2_with fail
      refine (put4_any r3 rfl (by simp) number (by omega) (by omega)).mono ?_
      rintro e w4 ⟨A4, c4, rfl, hN4⟩
      have bb4 := below_then bb3 hN4.below
      have r4 := hN4.rda
      have h4 := h3.below hN4.below
      clear hN4 h3 r3
      go_wp2_with fail
      refine (put4_any r4 rfl (by simp) 0 (by omega) (by omega)).mono ?_
      rintro e w5 ⟨A5, c5, rfl, hN5⟩
      have bb5 := below_then bb4 hN5.below
      have r5 := hN5.rda
      have h5 := h4.below hN5.below
      clear hN5 h4 r4
      have hcat : cat [leB 8 V.toNat ++ leB 4 number.toNat ++ leB 4 (0 : Int).toNat, b] = pairL V.toNat number.toNat b := by simp [cat, pairL]
      obtain ⟨H, hH⟩ : ∃ H, leB 8 V.toNat ++ leB 4 number.toNat ++ leB 4 (0 : Int).toNat = H := ⟨_, rfl⟩
      have hHl : H.length = 16 := by rw [← hH]; simp
      rw [hH] at hcat r5 ⊢
      have P6 := join_any ((((RowVals.nil w5).cons h5 (n := b.length) rfl).cons r5 (n := 16) hHl.symm).rows 22 2 rfl (by simp) rfl) (n := 2) rfl (by rw [hcat, HPL.out]; omega)
      rw [hcat, HPL.out] at P6
      rw [hHl]
      have HP6 := Lib.hid P6
      clear P6 hcat hH hHl r5 h5
      go_wp2_with fail
      refine HP6.out.mono ?_
      rintro e w6 ⟨A6, c6, rfl, hN6⟩
      go_wp2_with fail
      go_ret2
      exact ⟨A6, c6, rfl, ⟨hN6.own.mono (bb5.alloc bb5.size _).size, below_then (bb5.alloc bb5.size _) hN6.below⟩⟩
  · have e1 : pmE number b = 40 := by rw [hpm, if_pos (.inl he)]
    have e2 : pmV number b = [] := by rw [hpv, if_neg (by rw [e1]; decide)]
    have hne : (E != 0) = true := by rw [bne_iff_ne]; exact he
    rw [e1, e2]
    clear e1 e2 hpm hpv hck he
    go_enter Tryd.func9, Tryd.ntmps9
    go_wp2_with fail
    refine HPS.out.mono ?_
    rintro e w1 ⟨rfl, rfl⟩
    go_wp2_with fail
    refine HPC.out.mono ?_
    rintro e w2 ⟨rfl, hb⟩
    go_wp2_with fail
    go_ret2
    exact ⟨none, 0, rfl, ⟨Own8.nilRow _ _ _, hb⟩⟩

set_option maxHeartbeats 1000000 in
theorem pParse_any {w : World} (hT : Tb w) {A : Option Addr} {n c : Nat} {b : List UInt8} (h : Rda w A c b) (hn : n = b.length) (hl : b.length ≤ 140737488351232) (pages slots : Int) :
    Calls Tryd.prog 20 #[.slice A n c, .int .i64 pages, .int .i64 slots] w fun e w' => ∃ A' c', e = .returned (.tuple #[.int .i64 (ppN b pages slots : Nat), .slice A' (ppV b pages slots).length c', .int .i64 (ppE b pages slots)]) ∧ New 5 w w' A' c' (ppV b pages slots) := by
  subst hn
  have P1 := pPage_any h rfl (by omega)
  have hpl : (pPage b).length ≤ 140737488351232 := by unfold pPage; rw [List.length_drop]; omega
  have P2 := fun W (hr : Rda W A c b) => pNumber_any hr rfl
  have P4 := fun W (hr : Rda W A c b) => pLsn_any hr rfl
  have P3 := fun W (T : Tb W) A' c' (hr : Rda W A' c' (pPage b)) => check_any T hr rfl hpl (pNum b : Nat) slots
  have hv := checkV_le (pPage b) (pNum b : Nat) slots
  have hL := pLsn_le b
  have hN := pNum_lt b
  have hok : ppOk b pages slots = (decide (checkE (pPage b) (pNum b) slots = 0) && decide ((pNum b : Int) < pages) && decide (1 ≤ checkV (pPage b) (pNum b) slots) && decide (checkV (pPage b) (pNum b) slots = (pLsn b : Int))) := rfl
  unfold ppN ppV ppE
  obtain ⟨OK, hOK⟩ : ∃ OK, ppOk b pages slots = OK := ⟨_, rfl⟩
  obtain ⟨C, hC⟩ : ∃ C, pPage b = C := ⟨_, rfl⟩
  obtain ⟨N, hNN⟩ : ∃ N, pNum b = N := ⟨_, rfl⟩
  obtain ⟨L, hLL⟩ : ∃ L, pLsn b = L := ⟨_, rfl⟩
  rw [hOK, hC, hNN, hLL] at hok
  rw [hOK, hC, hNN]
  rw [hC] at P1 P3 hv hpl
  rw [hNN] at P2 P3 hv hN
  rw [hLL] at P4 hL
  obtain ⟨E, hE⟩ : ∃ E, checkE C (N : Nat) slots = E := ⟨_, rfl⟩
  obtain ⟨V, hV⟩ : ∃ V, checkV C (N : Nat) slots = V := ⟨_, rfl⟩
  rw [hE, hV] at P3 hok
  rw [hV] at hv
  obtain ⟨v0, v1⟩ := hv
  have H1 := Lib.hid P1
  have H2 := Lib.hid P2
  have H3 := Lib.hid P3
  have H4 := Lib.hid P4
  clear P1 P2 P3 P4 hOK hC hNN hLL hE hV
  by_cases he : E = 0
  · subst he
    by_cases hp : (N : Int) < pages
    · by_cases hv1 : V < 1
      · have ho : OK = false := by rw [hok]; simp; omega
        subst ho
        rw [if_neg (by decide), if_neg (by decide), if_neg (by decide)]
        clear hok
        go_enter Tryd.func20, Tryd.ntmps20
        go_wp2_with fail
        refine H1.out.mono ?_
        rintro e w1 ⟨A1, c1, rfl, hN1⟩
        go_wp2_with fail
        refine (H2.out w1 (h.below hN1.below)).mono ?_
        rintro e w2 ⟨rfl, rfl⟩
        go_wp2_with fail
        refine (H3.out w1 (hT.below hN1.below) A1 c1 hN1.rda).mono ?_
        rintro e w2 ⟨rfl, hb⟩
        go_wp2_with fail
        exact bodyPost_ret (v := .tuple #[.int .i64 0, .slice none 0 0, .int .i64 130]) (by simp [results, Tryd.results20, go_sem]) rfl ⟨none, 0, rfl, ⟨Own8.nilRow _ _ _, below_then hN1.below hb⟩⟩
      · have V1 : 1 ≤ V := by omega
        by_cases hvl : V = (L : Int)
        · have ho : OK = true := by rw [hok]; simp; omega
          subst ho
          rw [if_pos rfl, if_pos rfl, if_pos rfl]
          have hne : (V != (L : Int)) = false := by simp [hvl]
          clear hok hvl hv1
          go_enter Tryd.func20, Tryd.ntmps20
          go_wp2_with fail
          refine H1.out.mono ?_
          rintro e w1 ⟨A1, c1, rfl, hN1⟩
          go_wp2_with fail
          refine (H2.out w1 (h.below hN1.below)).mono ?_
          rintro e w2 ⟨rfl, rfl⟩
          go_wp2_with fail
          refine (H3.out w1 (hT.below hN1.below) A1 c1 hN1.rda).mono ?_
          rintro e w2 ⟨rfl, hb⟩
          go_wp2_with fail
          refine (H4.out w2 (h.below (below_then hN1.below hb))).mono ?_
          rintro e w3 ⟨rfl, rfl⟩
          go_wp2_with fail
          exact bodyPost_ret (v := .tuple #[.int .i64 N, .slice A1 C.length c1, .int .i64 0]) (by simp [results, Tryd.results20, go_sem]) rfl ⟨A1, c1, rfl, ⟨hN1.own.below hb, below_then hN1.below hb⟩⟩
        · have ho : OK = false := by rw [hok]; simp; omega
          subst ho
          rw [if_neg (by decide), if_neg (by decide), if_neg (by decide)]
          have hne : (V != (L : Int)) = true := by rw [bne_iff_ne]; exact hvl
          clear hok hvl hv1
          go_enter Tryd.func20, Tryd.ntmps20
          go_wp2_with fail
          refine H1.out.mono ?_
          rintro e w1 ⟨A1, c1, rfl, hN1⟩
          go_wp2_with fail
          refine (H2.out w1 (h.below hN1.below)).mono ?_
          rintro e w2 ⟨rfl, rfl⟩
          go_wp2_with fail
          refine (H3.out w1 (hT.below hN1.below) A1 c1 hN1.rda).mono ?_
          rintro e w2 ⟨rfl, hb⟩
          go_wp2_with fail
          refine (H4.out w2 (h.below (below_then hN1.below hb))).mono ?_
          rintro e w3 ⟨rfl, rfl⟩
          go_wp2_with fail
          exact bodyPost_ret (v := .tuple #[.int .i64 0, .slice none 0 0, .int .i64 130]) (by simp [results, Tryd.results20, go_sem]) rfl ⟨none, 0, rfl, ⟨Own8.nilRow _ _ _, below_then hN1.below hb⟩⟩
    · have ho : OK = false := by rw [hok]; simp; omega
      subst ho
      rw [if_neg (by decide), if_neg (by decide), if_neg (by decide)]
      have hp2 : pages ≤ (N : Int) := by omega
      clear hok hp
      go_enter Tryd.func20, Tryd.ntmps20
      go_wp2_with fail
      refine H1.out.mono ?_
      rintro e w1 ⟨A1, c1, rfl, hN1⟩
      go_wp2_with fail
      refine (H2.out w1 (h.below hN1.below)).mono ?_
      rintro e w2 ⟨rfl, rfl⟩
      go_wp2_with fail
      refine (H3.out w1 (hT.below hN1.below) A1 c1 hN1.rda).mono ?_
      rintro e w2 ⟨rfl, hb⟩
      go_wp2_with fail
      exact bodyPost_ret (v := .tuple #[.int .i64 0, .slice none 0 0, .int .i64 130]) (by simp [results, Tryd.results20, go_sem]) rfl ⟨none, 0, rfl, ⟨Own8.nilRow _ _ _, below_then hN1.below hb⟩⟩
  · have ho : OK = false := by rw [hok]; simp [he]
    subst ho
    rw [if_neg (by decide), if_neg (by decide), if_neg (by decide)]
    have hne : (E != 0) = true := by rw [bne_iff_ne]; exact he
    clear hok he
    go_enter Tryd.func20, Tryd.ntmps20
    go_wp2_with fail
    refine H1.out.mono ?_
    rintro e w1 ⟨A1, c1, rfl, hN1⟩
    go_wp2_with fail
    refine (H2.out w1 (h.below hN1.below)).mono ?_
    rintro e w2 ⟨rfl, rfl⟩
    go_wp2_with fail
    refine (H3.out w1 (hT.below hN1.below) A1 c1 hN1.rda).mono ?_
    rintro e w2 ⟨rfl, hb⟩
    go_wp2_with fail
    exact bodyPost_ret (v := .tuple #[.int .i64 0, .slice none 0 0, .int .i64 130]) (by simp [results, Tryd.results20, go_sem]) rfl ⟨none, 0, rfl, ⟨Own8.nilRow _ _ _, below_then hN1.below hb⟩⟩
end Go.Proofs.YtapoknpakleiiaaDoor
