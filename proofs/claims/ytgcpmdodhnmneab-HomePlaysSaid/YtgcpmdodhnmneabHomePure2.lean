import Derived.Test.YtgcpmdodhnmneabHomePure
/- Pages that Put and Delete have made out of an empty one. -/
set_option linter.unusedVariables false
set_option linter.unusedSimpArgs false
namespace Go.Proofs.Ytgcpmdodhnmneab
open Go.RowKit Go.Tm
set_option maxHeartbeats 400000
set_option maxRecDepth 100000

theorem findO_iff {b : List UInt8} {key : Int} {x : Nat × Nat × Nat} (h : findO b key = some x) : x.1 < slotsP b.length ∧ hitB b key x.1 = true ∧ (∀ j, j < x.1 → hitB b key j = false) ∧ x.2.1 = keyN b x.1 ∧ x.2.2 = valN b x.1 := by
  rw [findO_range] at h
  rw [Option.map_eq_some_iff] at h
  obtain ⟨i, hi, rfl⟩ := h
  rw [List.find?_range_eq_some] at hi
  obtain ⟨a, b, c⟩ := hi
  exact ⟨by simpa using b, a, fun j hj => by simpa using c j hj, rfl, rfl⟩
theorem findO_none_iff {b : List UInt8} {key : Int} (h : findO b key = none) : ∀ j, j < slotsP b.length → hitB b key j = false := by
  rw [findO_range, Option.map_eq_none_iff, List.find?_eq_none] at h
  intro j hj
  simpa using h j (by simpa using hj)
theorem hit_other {n : Nat} {b r : List UInt8} (h : IsPage n b) {i j : Nat} (hi : i < n) (hj : j < n) (hr : r.length = 16) (hij : i ≠ j) (key : Int) : hitB (layL b (16 + 16 * i) r) key j = hitB b key j := by
  rw [hit_row (h.lay hi hr) hj, hit_row h hj, rowP_other _ _ i j hr (h.fits hi) hij]

/-- Each slot of the page holds nothing, or just what Put lays there. -/
structure WellP (n : Nat) (b : List UInt8) : Prop extends IsPage n b where
  row : ∀ j, j < n → rowP b j = zeroL 16 ∨ ∃ k v, k < 4294967296 ∧ v < 18446744073709551616 ∧ rowP b j = slotRow k v
theorem WellP.page {n : Nat} {b : List UInt8} (h : WellP n b) : IsPage n b := h.toIsPage
theorem well_zero {n : Nat} (h1 : 1 ≤ n) (h8 : n ≤ 8) : WellP n (zeroL (24 + 16 * n)) := ⟨zero_page h1 h8, fun j hj => .inl (rowP_zero _ _ (by omega))⟩
theorem WellP.fill {n : Nat} {b : List UInt8} (h : WellP n b) {i : Nat} (hi : i < n) {k v : Nat} (hk : k < 4294967296) (hv : v < 18446744073709551616) : WellP n (layL b (16 + 16 * i) (slotRow k v)) :=
  ⟨h.page.lay hi (slotRow_length _ _), fun j hj => by
    by_cases hij : i = j
    · subst hij
      exact .inr ⟨k, v, hk, hv, rowP_same _ _ i (slotRow_length _ _) (h.page.fits hi)⟩
    · rw [rowP_other _ _ i j (slotRow_length _ _) (h.page.fits hi) hij]
      exact h.row j hj⟩
theorem WellP.free {n : Nat} {b : List UInt8} (h : WellP n b) {i : Nat} (hi : i < n) : WellP n (layL b (16 + 16 * i) (zeroL 16)) :=
  ⟨h.page.lay hi (zeroL_length _), fun j hj => by
    by_cases hij : i = j
    · subst hij
      exact .inl (rowP_same _ _ i (zeroL_length _) (h.page.fits hi))
    · rw [rowP_other _ _ i j (zeroL_length _) (h.page.fits hi) hij]
      exact h.row j hj⟩
theorem WellP.unused {n : Nat} {b : List UInt8} (h : WellP n b) {i : Nat} (hi : i < n) (hu : usedB b (i : Int) = false) : rowP b i = zeroL 16 := by
  rcases h.row i hi with h0 | ⟨k, v, _, _, h0⟩
  · exact h0
  · rw [usedB_row (by rw [h.page.slots]; exact hi), h0, usedR_slot] at hu
    cases hu
/-- A slot that has the key. -/
theorem WellP.hit {n : Nat} {b : List UInt8} (h : WellP n b) {i : Nat} (hi : i < n) {key : Int} (k0 : 0 ≤ key) (hh : hitB b key i = true) : rowP b i = slotRow key.toNat (valN b i) ∧ valN b i < 18446744073709551616 := by
  rcases h.row i hi with h0 | ⟨k, v, hk, hv, h0⟩
  · rw [hit_zero h.page hi h0] at hh
    cases hh
  · rw [hit_slot h.page hi hk h0] at hh
    have hk2 : (k : Int) = key := of_decide_eq_true hh
    have : valN b i = v := by rw [valN_row, h0, valR_slot k v hv]
    rw [this]
    exact ⟨by rw [h0, show key.toNat = k by omega], hv⟩

theorem put_lt {n : Nat} {b : List UInt8} (h : IsPage n b) {key : Int} {i : Nat} (hi : putAt b key = some i) : i < n := by
  have := putAt_lt hi
  rwa [h.slots] at this
theorem put_err {n : Nat} {b : List UInt8} (h : IsPage n b) {key : Int} (k0 : 0 ≤ key) (k1 : key ≤ 4294967295) : putE b key = 0 ∨ putE b key = 42 := by
  cases hi : putAt b key with
  | none => exact .inr (put_full h k0 k1 hi).1
  | some i => exact .inl (put_at h k0 k1 hi).1
theorem put_some {n : Nat} {b : List UInt8} (h : IsPage n b) {key : Int} (k0 : 0 ≤ key) (k1 : key ≤ 4294967295) (he : putE b key = 0) : ∃ i, putAt b key = some i := by
  cases hi : putAt b key with
  | none => rw [(put_full h k0 k1 hi).1] at he; cases he
  | some i => exact ⟨i, rfl⟩
theorem WellP.put {n : Nat} {b : List UInt8} (h : WellP n b) {key val : Int} (k0 : 0 ≤ key) (k1 : key ≤ 4294967295) (v0 : 0 ≤ val) (v1 : val < 18446744073709551616) (he : putE b key = 0) : WellP n (putV b key val) := by
  obtain ⟨i, hi⟩ := put_some h.page k0 k1 he
  rw [(put_at h.page k0 k1 hi).2]
  exact h.fill (put_lt h.page hi) (by omega) (by omega)
theorem WellP.del {n : Nat} {b : List UInt8} (h : WellP n b) {key : Int} (he : delB b key = true) : WellP n (delV b key) := by
  unfold delB at he
  unfold delV
  cases hf : findO b key with
  | none => rw [hf] at he; cases he
  | some x =>
    have hx := (findO_iff hf).1
    rw [h.page.slots] at hx
    exact h.free hx
/-- What Put has put is found there. -/
theorem found_put {n : Nat} {b : List UInt8} (h : IsPage n b) {key : Int} (k0 : 0 ≤ key) (k1 : key ≤ 4294967295) {i : Nat} (hi : putAt b key = some i) (v : Nat) : ∃ x, findO (layL b (16 + 16 * i) (slotRow key.toNat v)) key = some (i, x) := by
  have hin := put_lt h hi
  have hq := h.lay hin (slotRow_length key.toNat v)
  refine ⟨_, findO_at (by rw [hq.slots]; exact hin) (fun j hj => ?_) ?_⟩
  · rw [hit_other h hin (by omega) (slotRow_length _ _) (by omega)]
    unfold putAt at hi
    cases hf : findO b key with
    | some x =>
      rw [hf] at hi
      injection hi with hi
      exact (findO_iff hf).2.2.1 j (by omega)
    | none => exact findO_none_iff hf j (by rw [h.slots]; omega)
  · rw [hit_slot hq hin (by omega) (rowP_same _ _ i (slotRow_length _ _) (h.fits hin))]
    exact decide_eq_true (by omega)
/-- A put into a free slot is undone by a delete. -/
theorem undo_new {n : Nat} {b : List UInt8} (h : WellP n b) {key val : Int} (k0 : 0 ≤ key) (k1 : key ≤ 4294967295) (he : putE b key = 0) (hf : findB b key = false) : delB (putV b key val) key = true ∧ delV (putV b key val) key = b := by
  obtain ⟨i, hi⟩ := put_some h.page k0 k1 he
  rw [(put_at h.page k0 k1 hi).2]
  have hin := put_lt h.page hi
  obtain ⟨x, hx⟩ := found_put h.page k0 k1 hi val.toNat
  have hfn : findO b key = none := by
    unfold findB at hf
    cases hh : findO b key with
    | none => rfl
    | some y => rw [hh] at hf; cases hf
  have hfr : freeO b = some i := by
    unfold putAt at hi
    rw [hfn] at hi
    exact hi
  refine ⟨by unfold delB; rw [hx]; rfl, ?_⟩
  unfold delV
  rw [hx]
  show layL (layL b (16 + 16 * i) (slotRow key.toNat val.toNat)) (16 + 16 * i) (zeroL 16) = b
  rw [layL_twice _ _ _ _ (by rw [zeroL_length, slotRow_length]) (by rw [slotRow_length]; have := h.page.fits hin; omega), ← h.unused hin (freeO_mem hfr).2, layL_self _ _ (h.page.fits hin)]
/-- A put over a value is undone by a put of that value. -/
theorem undo_old {n : Nat} {b : List UInt8} (h : WellP n b) {key val : Int} (k0 : 0 ≤ key) (k1 : key ≤ 4294967295) (hf : findB b key = true) :
    putE b key = 0 ∧ putE (putV b key val) key = 0 ∧ putV (putV b key val) key (valueI b key) = b ∧ 0 ≤ valueI b key ∧ valueI b key < 18446744073709551616 := by
  unfold findB at hf
  cases hh : findO b key with
  | none => rw [hh] at hf; cases hf
  | some y =>
    obtain ⟨m1, m2, m3, m4, m5⟩ := findO_iff hh
    rw [h.page.slots] at m1
    have hi : putAt b key = some y.1 := by unfold putAt; rw [hh]
    obtain ⟨e1, e2⟩ := put_at h.page k0 k1 hi
    obtain ⟨r1, r2⟩ := h.hit m1 k0 m2
    have hval : valueI b key = (valN b y.1 : Int) := by unfold valueI; rw [hh, ← m5]
    have hq := h.page.lay m1 (slotRow_length key.toNat val.toNat)
    obtain ⟨x, hx⟩ := found_put h.page k0 k1 hi val.toNat
    obtain ⟨g1, g2⟩ := put_at hq k0 k1 (i := y.1) (by unfold putAt; rw [hx])
    rw [e2 val]
    refine ⟨e1, g1, ?_, by omega, by omega⟩
    rw [g2, hval, layL_twice _ _ _ _ (by rw [slotRow_length, slotRow_length]) (by rw [slotRow_length]; have := h.page.fits m1; omega), Int.toNat_natCast, ← r1, layL_self _ _ (h.page.fits m1)]
end Go.Proofs.Ytgcpmdodhnmneab
