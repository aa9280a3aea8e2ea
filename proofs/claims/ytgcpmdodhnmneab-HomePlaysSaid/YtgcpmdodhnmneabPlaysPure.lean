import Derived.Test.YtgcpmdodhnmneabHomePure2
/- HomePlays, in plain lists: a page and the list of what it holds. -/
set_option linter.unusedVariables false
set_option linter.unusedSimpArgs false
namespace Go.Proofs.Ytgcpmdodhnmneab
open Go.RowKit Go.Tm
set_option maxHeartbeats 400000
set_option maxRecDepth 100000

theorem nodup_lt : ∀ (n : Nat) (l : List Nat), l.Pairwise (fun x y => x ≠ y) → (∀ x ∈ l, x < n) → l.length ≤ n
  | 0, l, _, h => by
    cases l with
    | nil => simp
    | cons x r => have := h x (by simp); omega
  | n + 1, l, hp, h => by
    have h1 : (l.filter fun x => decide (x ≠ n)).length ≤ n := by
      refine nodup_lt n _ (hp.filter _) fun x hx => ?_
      have := List.mem_filter.1 hx
      have h2 := h x this.1
      have h3 : x ≠ n := of_decide_eq_true this.2
      omega
    have h2 : ∀ l : List Nat, l.Pairwise (fun x y => x ≠ y) → l.length ≤ (l.filter fun x => decide (x ≠ n)).length + 1 := by
      intro l hp
      induction l with
      | nil => simp
      | cons x r ih =>
        have hr := List.pairwise_cons.1 hp
        by_cases hx : x = n
        · subst hx
          have hrf : (r.filter fun y => decide (y ≠ x)) = r := List.filter_eq_self.2 (fun y hy => decide_eq_true (fun (e : y = x) => hr.1 y hy e.symm))
          rw [List.filter_cons_of_neg (by simp), hrf]
          simp
        · rw [List.filter_cons_of_pos (by simpa using hx)]
          have := ih hr.2
          simp only [List.length_cons]
          omega
    have := h2 l hp
    omega

abbrev Hd := Int × Int × Nat
/-- The page holds just this. -/
structure Ledger (n : Nat) (b : List UInt8) (L : List Hd) : Prop where
  page : IsPage n b
  mem : ∀ e ∈ L, e.2.2 < n ∧ 0 ≤ e.1 ∧ e.1 < 4294967296 ∧ 0 ≤ e.2.1 ∧ e.2.1 < 18446744073709551616 ∧ rowP b e.2.2 = slotRow e.1.toNat e.2.1.toNat
  keys : L.Pairwise fun x y => x.1 ≠ y.1
  slots : L.Pairwise fun x y => x.2.2 ≠ y.2.2
  free : ∀ j, j < n → (∀ e ∈ L, e.2.2 ≠ j) → rowP b j = zeroL 16
section
variable {n : Nat} {b : List UInt8} {L : List Hd}
theorem Ledger.small (h : Ledger n b L) : L.length ≤ n := by
  have := nodup_lt n (L.map fun e => e.2.2) (List.pairwise_map.2 h.slots) (fun x hx => by
    obtain ⟨e, he, rfl⟩ := List.mem_map.1 hx
    exact (h.mem e he).1)
  simpa using this
theorem Ledger.hit (h : Ledger n b L) {e : Hd} (he : e ∈ L) (key : Int) : hitB b key e.2.2 = decide (e.1 = key) := by
  obtain ⟨a1, a2, a3, a4, a5, a6⟩ := h.mem e he
  rw [hit_slot h.page a1 (by omega) a6]
  exact decide_eq_decide.2 (by omega)
theorem Ledger.miss (h : Ledger n b L) {j : Nat} (hj : j < n) (hn : ∀ e ∈ L, e.2.2 ≠ j) (key : Int) : hitB b key j = false := hit_zero h.page hj (h.free j hj hn) key
theorem pair_eq {α β : Type} {f : α → β} : ∀ {l : List α}, l.Pairwise (fun x y => f x ≠ f y) → ∀ {x y : α}, x ∈ l → y ∈ l → f x = f y → x = y
  | [], _, _, _, h, _, _ => by cases h
  | a :: r, hp, x, y, hx, hy, e => by
    have hr := List.pairwise_cons.1 hp
    rcases List.mem_cons.1 hx with hx0 | hx <;> rcases List.mem_cons.1 hy with hy0 | hy
    · rw [hx0, hy0]
    · exact absurd (by rw [← hx0]; exact e) (hr.1 y hy)
    · exact absurd (by rw [← hy0]; exact e.symm) (hr.1 x hx)
    · exact pair_eq hr.2 hx hy e
theorem Ledger.found (h : Ledger n b L) {e : Hd} (he : e ∈ L) : findI b e.1 = (e.2.2 : Int) ∧ findB b e.1 = true ∧ valueI b e.1 = e.2.1 ∧ ∃ k v, findO b e.1 = some (e.2.2, k, v) := by
  obtain ⟨a1, a2, a3, a4, a5, a6⟩ := h.mem e he
  have hf := findO_at (b := b) (key := e.1) (k := e.2.2) (by rw [h.page.slots]; exact a1) (fun j hj => by
    by_cases hx : ∃ e' ∈ L, e'.2.2 = j
    · obtain ⟨e', he', rfl⟩ := hx
      rw [h.hit he']
      refine decide_eq_false fun hk => ?_
      have := pair_eq (f := fun (x : Hd) => x.1) h.keys he' he hk
      subst this
      omega
    · exact h.miss (by omega) (fun e' he' hs => hx ⟨e', he', hs⟩) _) (by rw [h.hit he]; exact decide_eq_true rfl)
  refine ⟨by unfold findI; rw [hf], by unfold findB; rw [hf]; rfl, ?_, _, _, hf⟩
  unfold valueI
  rw [hf]
  show (valN b e.2.2 : Int) = e.2.1
  rw [valN_row, a6, valR_slot _ _ (by omega)]
  omega
theorem Ledger.lost (h : Ledger n b L) {key : Int} (hk : ∀ e ∈ L, e.1 ≠ key) : findO b key = none ∧ findB b key = false := by
  have hf : findO b key = none := findO_no fun j hj => by
    rw [h.page.slots] at hj
    by_cases hx : ∃ e' ∈ L, e'.2.2 = j
    · obtain ⟨e', he', rfl⟩ := hx
      rw [h.hit he']
      exact decide_eq_false (hk e' he')
    · exact h.miss hj (fun e' he' hs => hx ⟨e', he', hs⟩) _
  exact ⟨hf, by unfold findB; rw [hf]; rfl⟩
/-- Is a slot taken, by the list? -/
def takenB (L : List Hd) (s : Int) : Bool := L.any fun e => decide ((e.2.2 : Int) = s)
theorem takenB_yes {e : Hd} (he : e ∈ L) : takenB L (e.2.2 : Int) = true := List.any_eq_true.2 ⟨e, he, decide_eq_true rfl⟩
theorem takenB_no {s : Int} (h : takenB L s = false) : ∀ e ∈ L, (e.2.2 : Int) ≠ s := fun e he hs => by
  have : takenB L s = true := List.any_eq_true.2 ⟨e, he, decide_eq_true hs⟩
  rw [this] at h
  cases h
theorem Ledger.used (h : Ledger n b L) {j : Nat} (hj : j < n) : usedB b (j : Int) = takenB L (j : Int) := by
  cases ht : takenB L (j : Int) with
  | true =>
    obtain ⟨e, he, hs⟩ := List.any_eq_true.1 ht
    have hs : (e.2.2 : Int) = (j : Int) := of_decide_eq_true hs
    have : e.2.2 = j := by omega
    subst this
    obtain ⟨a1, a2, a3, a4, a5, a6⟩ := h.mem e he
    rw [usedB_row (by rw [h.page.slots]; exact hj), a6, usedR_slot]
  | false => exact used_zero h.page hj (h.free j hj (fun e he hs => takenB_no ht e he (by omega)))
/-- The lowest free slot. -/
theorem Ledger.low (h : Ledger n b L) {s : Nat} (hs : s < n) (hlt : ∀ j, j < s → takenB L (j : Int) = true) (hf : takenB L (s : Int) = false) : freeO b = some s := by
  unfold freeO
  rw [h.page.slots]
  exact range_find n s _ hs (fun j hj => by rw [h.used (by omega), hlt j hj]; rfl) (by rw [h.used hs, hf]; rfl)
theorem Ledger.full (h : Ledger n b L) (hlt : ∀ j, j < n → takenB L (j : Int) = true) : freeO b = none := by
  unfold freeO
  rw [h.page.slots]
  exact range_find_none n _ (fun j hj => by rw [h.used hj, hlt j hj]; rfl)

/-- Put over a value. -/
theorem Ledger.over (h : Ledger n b L) {i : Nat} {e : Hd} (hi : L[i]? = some e) {val : Int} (v0 : 0 ≤ val) (v1 : val < 18446744073709551616) :
    putE b e.1 = 0 ∧ putV b e.1 val = layL b (16 + 16 * e.2.2) (slotRow e.1.toNat val.toNat) ∧ Ledger n (layL b (16 + 16 * e.2.2) (slotRow e.1.toNat val.toNat)) (L.set i (e.1, val, e.2.2)) := by
  have he := List.mem_of_getElem? hi
  obtain ⟨a1, a2, a3, a4, a5, a6⟩ := h.mem e he
  obtain ⟨_, _, _, k, v, hf⟩ := h.found he
  obtain ⟨p1, p2⟩ := put_at h.page a2 (by omega) (i := e.2.2) (by unfold putAt; rw [hf])
  have hil := (List.getElem?_eq_some_iff.1 hi).1
  have hie := (List.getElem?_eq_some_iff.1 hi).2
  refine ⟨p1, p2 val, h.page.lay a1 (slotRow_length _ _), fun x hx => ?_, ?_, ?_, fun j hj hn => ?_⟩
  · rcases List.mem_or_eq_of_mem_set hx with hx' | rfl
    · obtain ⟨c1, c2, c3, c4, c5, c6⟩ := h.mem x hx'
      by_cases hs : x.2.2 = e.2.2
      · -- the old one is not in the list any more
        obtain ⟨q, hq, hxq⟩ := List.mem_iff_getElem.1 hx
        have hql : q < L.length := by simpa using hq
        by_cases hqi : q = i
        · subst hqi
          have : x = (e.1, val, e.2.2) := by rw [← hxq]; simp
          subst this
          exact ⟨a1, a2, a3, v0, v1, rowP_same _ _ _ (slotRow_length _ _) (h.page.fits a1)⟩
        · rw [List.getElem_set_ne (fun e => hqi e.symm)] at hxq
          have h1 := (List.pairwise_iff_getElem.1 h.slots)
          rcases Nat.lt_or_gt_of_ne hqi with hl | hl
          · exact absurd (by rw [hxq, hie]; exact hs) (h1 q i hql hil hl)
          · exact absurd (by rw [hxq, hie]; exact hs.symm) (h1 i q hil hql hl)
      · exact ⟨c1, c2, c3, c4, c5, by rw [rowP_other _ _ _ _ (slotRow_length _ _) (h.page.fits a1) (fun e => hs e.symm)]; exact c6⟩
    · exact ⟨a1, a2, a3, v0, v1, rowP_same _ _ _ (slotRow_length _ _) (h.page.fits a1)⟩
  · have : (L.set i (e.1, val, e.2.2)).map (fun (x : Hd) => x.1) = L.map (fun (x : Hd) => x.1) := by
      rw [List.map_set]
      refine List.ext_getElem? fun q => ?_
      rw [List.getElem?_set]
      split
      · rename_i hq
        subst hq
        simp [hie, hil]
      · rfl
    have hp : (L.map (fun (x : Hd) => x.1)).Pairwise (· ≠ ·) := List.pairwise_map.2 h.keys
    rw [← this] at hp
    exact List.pairwise_map.1 hp
  · have : (L.set i (e.1, val, e.2.2)).map (fun (x : Hd) => x.2.2) = L.map (fun (x : Hd) => x.2.2) := by
      rw [List.map_set]
      refine List.ext_getElem? fun q => ?_
      rw [List.getElem?_set]
      split
      · rename_i hq
        subst hq
        simp [hie, hil]
      · rfl
    have hp : (L.map (fun (x : Hd) => x.2.2)).Pairwise (· ≠ ·) := List.pairwise_map.2 h.slots
    rw [← this] at hp
    exact List.pairwise_map.1 hp
  · have hne : e.2.2 ≠ j := hn (e.1, val, e.2.2) (List.mem_iff_getElem.2 ⟨i, by simpa using hil, by simp⟩)
    rw [rowP_other _ _ _ _ (slotRow_length _ _) (h.page.fits a1) hne]
    refine h.free j hj fun x hx hs => ?_
    obtain ⟨q, hq, rfl⟩ := List.mem_iff_getElem.1 hx
    by_cases hqi : q = i
    · subst hqi
      rw [hie] at hs
      exact hne hs
    · exact hn L[q] (List.mem_iff_getElem.2 ⟨q, by simpa using hq, by rw [List.getElem_set_ne (fun e => hqi e.symm)]⟩) hs
/-- Put of a new key. -/
theorem Ledger.add (h : Ledger n b L) {key val : Int} (k0 : 0 ≤ key) (k1 : key < 4294967296) (v0 : 0 ≤ val) (v1 : val < 18446744073709551616) (hk : ∀ e ∈ L, e.1 ≠ key) {s : Nat} (hs : s < n) (hlt : ∀ j, j < s → takenB L (j : Int) = true) (hf : takenB L (s : Int) = false) :
    putE b key = 0 ∧ putV b key val = layL b (16 + 16 * s) (slotRow key.toNat val.toNat) ∧ Ledger n (layL b (16 + 16 * s) (slotRow key.toNat val.toNat)) (L ++ [(key, val, s)]) := by
  obtain ⟨p1, p2⟩ := put_at h.page k0 (by omega) (i := s) (by unfold putAt; rw [(h.lost hk).1]; exact h.low hs hlt hf)
  have hns : ∀ e ∈ L, e.2.2 ≠ s := fun e he hh => takenB_no hf e he (by omega)
  refine ⟨p1, p2 val, h.page.lay hs (slotRow_length _ _), fun x hx => ?_, ?_, ?_, fun j hj hn => ?_⟩
  · rcases List.mem_append.1 hx with hx | hx
    · obtain ⟨c1, c2, c3, c4, c5, c6⟩ := h.mem x hx
      exact ⟨c1, c2, c3, c4, c5, by rw [rowP_other _ _ _ _ (slotRow_length _ _) (h.page.fits hs) (fun e => hns x hx e.symm)]; exact c6⟩
    · have : x = (key, val, s) := by simpa using hx
      subst this
      exact ⟨hs, k0, k1, v0, v1, rowP_same _ _ _ (slotRow_length _ _) (h.page.fits hs)⟩
  · rw [List.pairwise_append]
    refine ⟨h.keys, List.pairwise_singleton _ _, fun x hx y hy => ?_⟩
    have : y = (key, val, s) := by simpa using hy
    subst this
    exact hk x hx
  · rw [List.pairwise_append]
    refine ⟨h.slots, List.pairwise_singleton _ _, fun x hx y hy => ?_⟩
    have : y = (key, val, s) := by simpa using hy
    subst this
    exact hns x hx
  · have hne : s ≠ j := hn (key, val, s) (by simp)
    rw [rowP_other _ _ _ _ (slotRow_length _ _) (h.page.fits hs) hne]
    exact h.free j hj fun x hx => hn x (List.mem_append_left _ hx)
theorem Ledger.no (h : Ledger n b L) {key : Int} (k0 : 0 ≤ key) (k1 : key < 4294967296) (hk : ∀ e ∈ L, e.1 ≠ key) (hlt : ∀ j, j < n → takenB L (j : Int) = true) : putE b key = 42 ∧ ∀ val, putV b key val = [] :=
  put_full h.page k0 (by omega) (by unfold putAt; rw [(h.lost hk).1]; exact h.full hlt)
/-- Delete. -/
theorem Ledger.del (h : Ledger n b L) {i : Nat} {e : Hd} (hi : L[i]? = some e) :
    delB b e.1 = true ∧ delV b e.1 = layL b (16 + 16 * e.2.2) (zeroL 16) ∧ Ledger n (layL b (16 + 16 * e.2.2) (zeroL 16)) (L.take i ++ L.drop (i + 1)) := by
  have he := List.mem_of_getElem? hi
  obtain ⟨a1, a2, a3, a4, a5, a6⟩ := h.mem e he
  obtain ⟨_, _, _, k, v, hf⟩ := h.found he
  have hil := (List.getElem?_eq_some_iff.1 hi).1
  have hie := (List.getElem?_eq_some_iff.1 hi).2
  have hsub : (L.take i ++ L.drop (i + 1)).Sublist L := by
    rw [← List.eraseIdx_eq_take_drop_succ]
    exact List.eraseIdx_sublist _ _
  have hL : L = L.take i ++ e :: L.drop (i + 1) := by
    rw [← hie, List.getElem_cons_drop, List.take_append_drop]
  have hsl := h.slots
  rw [hL, List.pairwise_append, List.pairwise_cons] at hsl
  have hns : ∀ x ∈ L.take i ++ L.drop (i + 1), x.2.2 ≠ e.2.2 := fun x hx => by
    rcases List.mem_append.1 hx with hx | hx
    · exact hsl.2.2 x hx e (by simp)
    · exact fun hh => hsl.2.1.1 x hx hh.symm
  refine ⟨by unfold delB; rw [hf]; rfl, by unfold delV; rw [hf], h.page.lay a1 (zeroL_length 16), fun x hx => ?_, h.keys.sublist hsub, h.slots.sublist hsub, fun j hj hn => ?_⟩
  · obtain ⟨c1, c2, c3, c4, c5, c6⟩ := h.mem x (hsub.subset hx)
    exact ⟨c1, c2, c3, c4, c5, by rw [rowP_other _ _ _ _ (zeroL_length 16) (h.page.fits a1) (fun e => hns x hx e.symm)]; exact c6⟩
  · by_cases hje : e.2.2 = j
    · subst hje
      exact rowP_same _ _ _ (zeroL_length 16) (h.page.fits a1)
    · rw [rowP_other _ _ _ _ (zeroL_length 16) (h.page.fits a1) hje]
      refine h.free j hj fun x hx hs => ?_
      rw [hL] at hx
      rcases List.mem_append.1 hx with hx | hx
      · exact hn x (List.mem_append_left _ hx) hs
      · rcases List.mem_cons.1 hx with rfl | hx
        · exact hje hs
        · exact hn x (List.mem_append_right _ hx) hs
theorem Ledger.nodel (h : Ledger n b L) {key : Int} (hk : ∀ e ∈ L, e.1 ≠ key) : delB b key = false ∧ delV b key = [] :=
  ⟨by unfold delB; rw [(h.lost hk).1]; rfl, by unfold delV; rw [(h.lost hk).1]⟩
end
end Go.Proofs.Ytgcpmdodhnmneab
