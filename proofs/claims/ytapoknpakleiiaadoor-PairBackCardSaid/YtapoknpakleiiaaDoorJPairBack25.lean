import Derived.Test.YtapoknpakleiiaaDoorPair1
import Derived.Test.YtapoknpakleiiaaDoorJPairBack24
import Derived.IntWalk
/- The contracts of the document's answer for layer 13 (package tidemarkref13): Slots, number, Lsn, Number, Page. -/
set_option linter.unusedVariables false
set_option linter.unusedSimpArgs false
namespace Go.Proofs.YtapoknpakleiiaaDoor
open Go.RowKit Go.Tm
set_option maxHeartbeats 400000
set_option maxRecDepth 100000

theorem refSlots13_any (n : Nat) (hn : n ≤ 140737488355328) (w : World) : Calls Tryd.prog 41 #[.int .i64 n] w fun e w' => e = .returned (.int .i64 (slotsP n : Nat)) ∧ w = w' := by
  go_enter Tryd.func41, Tryd.ntmps41
  go_wp2_with fail
  go_loop [3] (fun i => ∃ k : Nat, 1 ≤ k ∧ k ≤ 9 ∧ i = .int .i64 k ∧ Box (∀ j, 1 ≤ j → j < k → n ≠ 24 + 16 * j)) (fun i => 9 - (intOf i).toNat)
  case atStart => exact ⟨1, by omega, by omega, rfl, ⟨fun j h1 h2 => by omega⟩⟩
  case round =>
    obtain ⟨k, hk1, hk9, rfl, hz⟩ := hrel
    by_cases hkt : k < 9
    · by_cases he : n = 24 + 16 * k
      · have hs : slotsP n = k := by rw [he]; exact slotsP_of k hk1 (by omega)
        have HS := Lib.hid hs
        have hb : ((n : Int) == 24 + 16 * (k : Int)) = true := by rw [beq_iff_eq]; omega
        clear hs he hz
        go_wp2_with fail
        go_ret
        exact ⟨by rw [HS.out]; rfl, rfl⟩
      · have hb : ((n : Int) == 24 + 16 * (k : Int)) = false := by rw [beq_eq_false_iff_ne]; omega
        have hz2 : Box (∀ j, 1 ≤ j → j < k + 1 → n ≠ 24 + 16 * j) := ⟨fun j h1 h2 => by
          by_cases hjk : j < k
          · exact hz.out j h1 hjk
          · rw [show j = k by omega]; exact he⟩
        clear he hz
        go_wp2_with fail
        go_round
        case rel => exact ⟨k + 1, by omega, by omega, by go_num, hz2⟩
        case measure => simp [intOf]; omega
    · have he : k = 9 := by omega
      subst he
      have hs : slotsP n = 0 := by
        by_cases hp : 0 < slotsP n
        · exact absurd (slotsP_len hp) (hz.out _ hp (by have := slotsP_le n; omega))
        · omega
      have HS := Lib.hid hs
      clear hs hz
      go_wp2_with fail
      go_ret
      exact ⟨by rw [HS.out]; rfl, rfl⟩

theorem leN_drop_le (l : List UInt8) (k : Nat) : leN (l.drop k) ≤ leN l := by
  induction k with
  | zero => simp
  | succ k ih =>
    by_cases h : k < l.length
    · have := leN_step l k h; omega
    · rw [List.drop_eq_nil_of_le (by omega)]; simp [leN]
def num13 (m : List UInt8) : Int := if 1152921504606846976 < leN m then -1 else (leN m : Int)
theorem num13_over (m : List UInt8) (k : Nat) (hk : k < m.length) (h : 4503599627370496 < leN (m.drop (k + 1))) : num13 m = -1 := by
  have h1 := leN_step m k hk
  have h2 := leN_drop_le m k
  exact if_pos (by omega)
theorem refNum13_any {w : World} {A : Option Addr} {n c : Nat} {l : List UInt8} (h : Rda w A c l) (hn : n = l.length) (F T : Nat) (hFT : F ≤ T) (hT : T ≤ l.length) (h8 : T ≤ 99) {f t : Int} (hf : f = (F : Int)) (ht : t = (T : Int)) :
    Calls Tryd.prog 45 #[.slice A n c, .int .i64 f, .int .i64 t] w fun e w' => e = .returned (.int .i64 (num13 ((l.drop F).take (T - F)))) ∧ w = w' := by
  subst hn hf ht
  have hcap := h.cap
  have hml : ((l.drop F).take (T - F)).length = T - F := by rw [List.length_take, List.length_drop]; omega
  have hmg : ∀ j, j < T - F → ((l.drop F).take (T - F)).getD j 0 = l.getD (F + j) 0 := fun j hj => by
    rw [List.getD_eq_getElem?_getD, List.getElem?_take, if_pos hj, List.getElem?_drop, ← List.getD_eq_getElem?_getD]
  obtain ⟨m, hm⟩ : ∃ m, (l.drop F).take (T - F) = m := ⟨_, rfl⟩
  rw [hm] at hml hmg ⊢
  have HML := Lib.hid hml
  have HMG := Lib.hid hmg
  clear hm hml hmg
  go_enter Tryd.func45, Tryd.ntmps45
  go_wp2_with fail
  go_loop [7, 8] (fun v i => ∃ j : Nat, F + j ≤ T ∧ i = .int .i64 ((F : Int) + (j : Int) - 1) ∧ v = .int .i64 (leN (m.drop j) : Nat) ∧ Box (leN (m.drop j) ≤ 1152921504606847231)) (fun _ i => (intOf i - (F : Int) + 1).toNat)
  case atStart => exact ⟨T - F, by omega, by go_num, by rw [List.drop_eq_nil_of_le (by rw [HML.out]; omega)]; rfl, ⟨by rw [List.drop_eq_nil_of_le (by rw [HML.out]; omega)]; simp [leN]⟩⟩
  case round =>
    obtain ⟨j, hj, rfl, rfl, hbx⟩ := hrel
    by_cases hlt : 0 < j
    · obtain ⟨b, o, rfl, hc⟩ := h.cells (by omega)
      obtain ⟨k, rfl⟩ : ∃ k, j = k + 1 := ⟨j - 1, by omega⟩
      have hcj := hc (F + k) (by omega)
      have e1 : (F : Int) + ((k + 1 : Nat) : Int) - 1 = ((F + k : Nat) : Int) := by omega
      rw [e1]
      have hsum := leN_step m k (by rw [HML.out]; omega)
      rw [HMG.out k (by omega)] at hsum
      by_cases hov : 4503599627370496 < leN (m.drop (k + 1))
      · have HO := Lib.hid (num13_over m k (by rw [HML.out]; omega) hov)
        obtain ⟨V, hV⟩ : ∃ V : Nat, leN (m.drop (k + 1)) = V := ⟨_, rfl⟩
        rw [hV] at hov hbx ⊢
        have hb1 := hbx.out
        have hov2 : (4503599627370496 : Int) < (V : Int) := by omega
        clear hsum hV hc hcj h hcap e1 hbx
        go_wp2_with fail
        go_ret
        exact ⟨by rw [HO.out]; rfl, rfl⟩
      · obtain ⟨V, hV⟩ : ∃ V : Nat, leN (m.drop (k + 1)) = V := ⟨_, rfl⟩
        obtain ⟨X, hX⟩ : ∃ X : UInt8, l.getD (F + k) 0 = X := ⟨_, rfl⟩
        have hx := X.toNat_lt
        rw [hX] at hcj
        rw [hV] at hov ⊢
        rw [hV, hX] at hsum
        have hov2 : (V : Int) ≤ 4503599627370496 := by omega
        have hs2 : (V : Int) * 256 + (X.toNat : Int) = (leN (m.drop k) : Int) := by omega
        have HS := Lib.hid hs2
        have HB : Box (leN (m.drop k) ≤ 1152921504606847231) := ⟨by omega⟩
        have hxi : (X.toNat : Int) < 256 := by omega
        clear hsum hs2 hV hX hc h hcap hx hov hbx
        go_wp2_with fail
        go_round
        case rel => exact ⟨k, by omega, by go_num, by rw [HS.out], HB⟩
        case measure => simp [intOf]; omega
    · have : j = 0 := by omega
      subst this
      rw [List.drop_zero] at hbx ⊢
      have hb1 := hbx.out
      by_cases hbig : 1152921504606846976 < leN m
      · have HRV := Lib.hid (show num13 m = -1 from if_pos hbig)
        have hbi : (1152921504606846976 : Int) < (leN m : Int) := by omega
        obtain ⟨V, hV⟩ : ∃ V : Nat, leN m = V := ⟨_, rfl⟩
        rw [hV] at hbi hb1 ⊢
        clear hbig hV h hcap hbx
        go_wp2_with fail
        go_ret
        exact ⟨by rw [HRV.out]; rfl, rfl⟩
      · have HRV := Lib.hid (show num13 m = (leN m : Int) from if_neg hbig)
        have hbi : (leN m : Int) ≤ (1152921504606846976 : Int) := by omega
        obtain ⟨V, hV⟩ : ∃ V : Nat, leN m = V := ⟨_, rfl⟩
        rw [hV] at hbi HRV ⊢
        clear hbig hV h hcap hbx hb1
        go_wp2_with fail
        go_ret
        exact ⟨by rw [HRV.out]; rfl, rfl⟩

theorem refLsn13_any {w : World} {A : Option Addr} {n c : Nat} {l : List UInt8} (h : Rda w A c l) (hn : n = l.length) :
    Calls Tryd.prog 15 #[.slice A n c] w fun e w' => e = .returned (.int .i64 (pLsn l : Nat)) ∧ w = w' := by
  subst hn
  unfold pLsn
  by_cases h8 : l.length < 8
  · rw [if_pos h8]
    go_enter Tryd.func15, Tryd.ntmps15
    go_wp2_with fail
    go_ret
    exact ⟨rfl, rfl⟩
  · rw [if_neg h8]
    have P := refNum13_any h rfl 0 8 (by omega) (by omega) (by omega) (f := 0) (t := 8) rfl rfl
    rw [List.drop_zero] at P
    have h8' : 8 ≤ l.length := by omega
    by_cases hb : 1152921504606846976 < leN (l.take 8)
    · rw [if_pos hb]
      rw [show num13 (l.take (8 - 0)) = -1 from if_pos hb] at P
      have HP := Lib.hid P
      clear P hb
      go_enter Tryd.func15, Tryd.ntmps15
      go_wp2_with fail
      refine HP.out.mono ?_
      rintro e w1 ⟨rfl, rfl⟩
      go_wp2_with fail
      go_ret
      exact ⟨rfl, rfl⟩
    · rw [if_neg hb]
      rw [show num13 (l.take (8 - 0)) = (leN (l.take 8) : Int) from if_neg hb] at P
      obtain ⟨V, hV⟩ : ∃ V : Nat, leN (l.take 8) = V := ⟨_, rfl⟩
      rw [hV] at hb P ⊢
      have HP := Lib.hid P
      have hb2 : V ≤ 1152921504606846976 := by omega
      clear P hb hV
      go_enter Tryd.func15, Tryd.ntmps15
      go_wp2_with fail
      refine HP.out.mono ?_
      rintro e w1 ⟨rfl, rfl⟩
      go_wp2_with fail
      refine HP.out.mono ?_
      rintro e w1 ⟨rfl, rfl⟩
      go_wp2_with fail
      go_ret
      exact ⟨rfl, rfl⟩

theorem refNumber13_any {w : World} {A : Option Addr} {n c : Nat} {l : List UInt8} (h : Rda w A c l) (hn : n = l.length) :
    Calls Tryd.prog 17 #[.slice A n c] w fun e w' => e = .returned (.int .i64 (pNum l : Nat)) ∧ w = w' := by
  subst hn
  unfold pNum
  by_cases h12 : l.length < 12
  · rw [if_pos h12]
    go_enter Tryd.func17, Tryd.ntmps17
    go_wp2_with fail
    go_ret
    exact ⟨rfl, rfl⟩
  · rw [if_neg h12]
    have P := refNum13_any h rfl 8 12 (by omega) (by omega) (by omega) (f := 8) (t := 12) rfl rfl
    have h12' : 12 ≤ l.length := by omega
    have hlt := leN_lt ((l.drop 8).take 4)
    rw [List.length_take, List.length_drop, Nat.min_eq_left (by omega)] at hlt
    have e1 : num13 ((l.drop 8).take (12 - 8)) = (leN ((l.drop 8).take 4) : Int) := if_neg (by show ¬ 1152921504606846976 < leN ((l.drop 8).take 4); omega)
    rw [e1] at P
    obtain ⟨V, hV⟩ : ∃ V : Nat, leN ((l.drop 8).take 4) = V := ⟨_, rfl⟩
    rw [hV] at P ⊢
    have HP := Lib.hid P
    clear P hV hlt e1
    go_enter Tryd.func17, Tryd.ntmps17
    go_wp2_with fail
    refine HP.out.mono ?_
    rintro e w1 ⟨rfl, rfl⟩
    go_wp2_with fail
    go_ret
    exact ⟨rfl, rfl⟩

theorem refPage13_any {w : World} {A : Option Addr} {n c : Nat} {l : List UInt8} (h : Rda w A c l) (hn : n = l.length) (hl : l.length ≤ 140737488351232) :
    Calls Tryd.prog 19 #[.slice A n c] w fun e w' => ∃ A' c', e = .returned (.slice A' (pPage l).length c') ∧ New 5 w w' A' c' (pPage l) := by
  subst hn
  have hnil := Own8.nilRow w w.heap.size 5
  have hpl : (pPage l).length = l.length - 16 := by unfold pPage; exact List.length_drop
  have hpg : ∀ j, 16 + j < l.length → (pPage l).take (j + 1) = (pPage l).take j ++ [l.getD (16 + j) 0] := fun j hj => by
    rw [List.take_add_one]
    congr 1
    unfold pPage
    rw [List.getElem?_drop, List.getD_eq_getElem?_getD, List.getElem?_eq_getElem hj]
    rfl
  obtain ⟨C, hC⟩ : ∃ C, pPage l = C := ⟨_, rfl⟩
  rw [hC] at hpl hpg ⊢
  have HPL := Lib.hid hpl
  have HPG := Lib.hid hpg
  clear hC hpl hpg
  go_enter Tryd.func19, Tryd.ntmps19
  go_wp2_with fail
  go_loopw [3, 4] (fun o i wr => ∃ j : Nat, (j = 0 ∨ 16 + j ≤ l.length) ∧ i = .int .i64 ((16 : Int) + (j : Int)) ∧ Own8 wr w.heap.size 5 o (C.take j) ∧ Below w.heap.size w wr) (fun _ i _ => l.length - (intOf i).toNat)
  case atStart => exact ⟨0, .inl rfl, by go_num, by simpa using hnil, Below.refl _ _⟩
  case round =>
    obtain ⟨j, hj, rfl, hown, hb⟩ := hrel
    have hB := hb.size
    by_cases hlt : 16 + j < l.length
    · obtain ⟨g, o, rfl, hc⟩ := h.cells (by omega)
      have hcj := hc (16 + j) hlt
      have hcj2 := (hb.cell (p := ⟨g, o + (16 + j), none⟩) (World.block_lt_of_cell? _ _ hcj)).trans hcj
      have HG := Lib.hid (HPG.out j hlt)
      have htl : (C.take j).length = j := by rw [List.length_take, HPL.out]; omega
      obtain ⟨X, hX⟩ : ∃ X : UInt8, l.getD (16 + j) 0 = X := ⟨_, rfl⟩
      rw [hX] at hcj2 HG
      have hown1 := hown.alloc (.cells #[.int .u8 (X.toNat : Int)] 5)
      have hbx := Rda.box wr 5 (X.toNat : Int) X rfl
      have HTL := Lib.hid htl
      clear hcj hc hX htl
      go_wp2_with (at_builtin; refine wpList_app (l := C.take j) _ rfl _ _ rfl tU8 rfl hown1 rfl rfl hbx ?c1 ?c2 ?_)
      case c1 => rw [HTL.out]; simp; omega
      case c2 => simp; omega
      intro v' w' hown' hg
      have hb1 : Below w.heap.size w w' := hown1.grown hg (hb.alloc hB _) (by simp; omega) (Nat.le_refl _)
      clear hown hown1 hbx
      go_wp2_with fail
      go_roundw
      case rel => exact ⟨j + 1, .inr (by omega), by go_num, by rw [HG.out]; exact hown', hb1⟩
      case measure => simp [intOf]; omega
    · have htk : C.take j = C := List.take_of_length_le (by rw [HPL.out]; omega)
      rw [htk] at hown
      obtain ⟨A', c', rfl, hr⟩ := own_rda hown
      have hge : (l.length : Int) ≤ 16 + (j : Int) := by omega
      clear htk hlt
      go_wp2_with fail
      go_ret
      exact ⟨A', c', rfl, ⟨hown, hb⟩⟩
end Go.Proofs.YtapoknpakleiiaaDoor
