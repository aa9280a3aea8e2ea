import Derived.Test.YtgcpmdodhnmneabLaw5
import Derived.Test.YtgcpmdodhnmneabSlotPure
/- What Put and Delete do to a page's slots. -/
set_option linter.unusedVariables false
set_option linter.unusedSimpArgs false
namespace Go.Proofs.Ytgcpmdodhnmneab
open Go.RowKit Go.Tm
set_option maxHeartbeats 400000
set_option maxRecDepth 100000

theorem hit_row {n : Nat} {b : List UInt8} (h : IsPage n b) {j : Nat} (hj : j < n) (key : Int) : hitB b key j = (usedR (rowP b j) && decide ((keyR (rowP b j) : Int) = key)) := by
  unfold hitB
  rw [usedB_row (by rw [h.slots]; exact hj), keyN_row]
theorem hit_slot {n : Nat} {b : List UInt8} (h : IsPage n b) {j : Nat} (hj : j < n) {k v : Nat} (hk : k < 4294967296) (hr : rowP b j = slotRow k v) (key : Int) : hitB b key j = decide ((k : Int) = key) := by
  rw [hit_row h hj, hr, usedR_slot, keyR_slot k v hk, Bool.true_and]
theorem hit_zero {n : Nat} {b : List UInt8} (h : IsPage n b) {j : Nat} (hj : j < n) (hr : rowP b j = zeroL 16) (key : Int) : hitB b key j = false := by
  rw [hit_row h hj, hr, usedR_zero, Bool.false_and]
theorem used_zero {n : Nat} {b : List UInt8} (h : IsPage n b) {j : Nat} (hj : j < n) (hr : rowP b j = zeroL 16) : usedB b (j : Int) = false := by
  rw [usedB_row (by rw [h.slots]; exact hj), hr, usedR_zero]

/-- Put lays a row where putAt says. -/
theorem put_at {n : Nat} {b : List UInt8} (h : IsPage n b) {key : Int} (h0 : 0 ≤ key) (h1 : key ≤ 4294967295) {i : Nat} (hi : putAt b key = some i) : putE b key = 0 ∧ ∀ val, putV b key val = layL b (16 + 16 * i) (slotRow key.toNat val.toNat) := by
  have e : putE b key = 0 := by
    unfold putE
    rw [if_neg (by rw [h.slots]; have := h.lo; omega), if_neg (by omega), hi]
  refine ⟨e, fun val => ?_⟩
  unfold putV
  rw [if_pos e, hi]
theorem put_full {n : Nat} {b : List UInt8} (h : IsPage n b) {key : Int} (h0 : 0 ≤ key) (h1 : key ≤ 4294967295) (hi : putAt b key = none) : putE b key = 42 ∧ ∀ val, putV b key val = [] := by
  have e : putE b key = 42 := by
    unfold putE
    rw [if_neg (by rw [h.slots]; have := h.lo; omega), if_neg (by omega), hi]
  exact ⟨e, fun val => if_neg (by rw [e]; decide)⟩

/-- The page of HomeFresh. -/
def freshP (n : Nat) (key val : Int) : List UInt8 := layL (zeroL (24 + 16 * n)) 16 (slotRow key.toNat val.toNat)
theorem fresh_page {n : Nat} (h1 : 1 ≤ n) (h8 : n ≤ 8) (key val : Int) : IsPage n (freshP n key val) := (zero_page h1 h8).lay (i := 0) h1 (slotRow_length _ _)
theorem fresh_row0 {n : Nat} (h1 : 1 ≤ n) (h8 : n ≤ 8) (key val : Int) : rowP (freshP n key val) 0 = slotRow key.toNat val.toNat :=
  rowP_same _ _ 0 (slotRow_length _ _) ((zero_page h1 h8).fits h1)
theorem fresh_row {n : Nat} (h1 : 1 ≤ n) (h8 : n ≤ 8) (key val : Int) {j : Nat} (hj : j < n) (h0 : 0 < j) : rowP (freshP n key val) j = zeroL 16 := by
  rw [show freshP n key val = layL (zeroL (24 + 16 * n)) (16 + 16 * 0) (slotRow key.toNat val.toNat) from rfl, rowP_other _ _ 0 j (slotRow_length _ _) ((zero_page h1 h8).fits h1) (by omega), rowP_zero _ _ (by omega)]
theorem fresh_first {n : Nat} (h1 : 1 ≤ n) (h8 : n ≤ 8) {key : Int} (k0 : 0 ≤ key) (k1 : key ≤ 4294967295) (val : Int) : putE (zeroL (24 + 16 * n)) key = 0 ∧ putV (zeroL (24 + 16 * n)) key val = freshP n key val := by
  have hz := zero_page h1 h8
  have hf : findO (zeroL (24 + 16 * n)) key = none := findO_no fun j hj => by
    rw [hz.slots] at hj
    exact hit_zero hz hj (rowP_zero _ _ (by omega)) key
  have hfr : freeO (zeroL (24 + 16 * n)) = some 0 := by
    unfold freeO
    rw [hz.slots]
    exact range_find n 0 _ h1 (fun j hj => by omega) (by rw [used_zero hz (j := 0) h1 (rowP_zero _ _ (by omega))]; rfl)
  obtain ⟨a, b⟩ := put_at hz k0 k1 (i := 0) (by unfold putAt; rw [hf]; exact hfr)
  exact ⟨a, b val⟩
theorem fresh_find {n : Nat} (h1 : 1 ≤ n) (h8 : n ≤ 8) {key : Int} (k0 : 0 ≤ key) (k1 : key ≤ 4294967295) (val : Int) : ∃ k v, findO (freshP n key val) key = some (0, k, v) := by
  have hp := fresh_page h1 h8 key val
  exact ⟨_, _, findO_at (by rw [hp.slots]; exact h1) (fun j hj => by omega) (by
    rw [hit_slot hp h1 (by omega) (fresh_row0 h1 h8 key val)]
    exact decide_eq_true (by omega))⟩
theorem fresh_again {n : Nat} (h1 : 1 ≤ n) (h8 : n ≤ 8) {key : Int} (k0 : 0 ≤ key) (k1 : key ≤ 4294967295) (val : Int) :
    putE (freshP n key val) key = 0 ∧ (∀ x, (putV (freshP n key val) key x).length = 24 + 16 * n) ∧ putV (freshP n key val) key val = freshP n key val ∧ delB (freshP n key val) key = true ∧ (delV (freshP n key val) key).length = 24 + 16 * n := by
  have hp := fresh_page h1 h8 key val
  obtain ⟨k, v, hf⟩ := fresh_find h1 h8 k0 k1 val
  obtain ⟨a, b⟩ := put_at hp k0 k1 (i := 0) (by unfold putAt; rw [hf])
  refine ⟨a, fun x => ?_, ?_, ?_, ?_⟩
  · rw [b x]
    exact (hp.lay h1 (slotRow_length _ _)).len
  · rw [b val]
    unfold freshP
    rw [Nat.mul_zero, Nat.add_zero, layL_twice _ _ _ _ rfl (by rw [slotRow_length, zeroL_length]; omega)]
  · unfold delB
    rw [hf]
    rfl
  · unfold delV
    rw [hf]
    exact (hp.lay h1 (zeroL_length 16)).len
theorem fresh_turned {n : Nat} (h1 : 1 ≤ n) (h8 : n ≤ 8) {key : Int} (k0 : 0 ≤ key) (k1 : key ≤ 4294967295) (val : Int) {u : UInt8} (hu : u ≠ (freshP n key val).getD 20 0) : delB ((freshP n key val).set 20 u) key = false := by
  have hp := fresh_page h1 h8 key val
  have hq : IsPage n ((freshP n key val).set 20 u) := ⟨h1, h8, by rw [List.length_set]; exact hp.len⟩
  unfold delB
  rw [findO_no]
  · rfl
  · intro j hj
    rw [hq.slots] at hj
    by_cases h0 : j = 0
    · subst h0
      unfold hitB
      have hne := keyN_set (b := freshP n key val) (v := u) (by rw [hp.len]; omega) hu
      have hk : keyN (freshP n key val) 0 = key.toNat := by rw [keyN_row, fresh_row0 h1 h8, keyR_slot _ _ (by omega)]
      rw [hk] at hne
      rw [decide_eq_false (by omega), Bool.and_false]
    · refine hit_zero hq hj ?_ key
      rw [← fresh_row h1 h8 key val hj (by omega)]
      apply List.ext_getElem?
      intro x
      rw [rowP_get?, rowP_get?]
      split
      · rw [List.getElem?_set_ne (by omega)]
      · rfl
end Go.Proofs.Ytgcpmdodhnmneab
