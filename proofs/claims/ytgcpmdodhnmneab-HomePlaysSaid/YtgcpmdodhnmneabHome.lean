import Derived.Test.YtgcpmdodhnmneabFind
/- The contracts of package home. -/
set_option linter.unusedVariables false
set_option linter.unusedSimpArgs false
namespace Go.Proofs.Ytgcpmdodhnmneab
open Go.RowKit Go.Tm
set_option maxHeartbeats 400000
set_option maxRecDepth 100000

theorem findO_mem {b : List UInt8} {key : Int} {x : Nat × Nat × Nat} (h : findO b key = some x) : x.1 < slotsP b.length ∧ usedB b (x.1 : Int) = true ∧ x.2.1 = keyN b x.1 ∧ x.2.2 = valN b x.1 ∧ ((x.2.1 : Nat) : Int) = key := by
  have h1 := List.mem_of_find?_eq_some h
  have h2 := List.find?_some h
  unfold entL at h1
  rw [List.mem_filterMap] at h1
  obtain ⟨i, hi, hx⟩ := h1
  split at hx
  · rename_i hu
    injection hx with hx
    subst hx
    exact ⟨by simpa using hi, hu, rfl, rfl, by simpa using h2⟩
  · cases hx
def valueI (b : List UInt8) (key : Int) : Int := match findO b key with | some x => (x.2.2 : Int) | none => 0
/-- The lowest slot that is not used. -/
def freeO (b : List UInt8) : Option Nat := (List.range (slotsP b.length)).find? fun (i : Nat) => !(usedB b (i : Int))
theorem freeO_mem {b : List UInt8} {i : Nat} (h : freeO b = some i) : i < slotsP b.length ∧ usedB b (i : Int) = false := by
  have h1 := List.mem_of_find?_eq_some h
  have h2 := List.find?_some h
  exact ⟨by simpa using h1, by simpa using h2⟩
theorem range_find (S k : Nat) (p : Nat → Bool) (hk : k < S) (hlt : ∀ j, j < k → p j = false) (hp : p k = true) : (List.range S).find? p = some k := by
  have e : List.range S = List.range k ++ (k :: (List.range S).drop (k + 1)) := by
    have h1 : List.range S = (List.range S).take k ++ (List.range S).drop k := (List.take_append_drop k _).symm
    rw [List.take_range, Nat.min_eq_left (by omega), List.drop_eq_getElem_cons (by simpa using hk)] at h1
    simpa using h1
  rw [e, List.find?_append]
  have h1 : (List.range k).find? p = none := by
    rw [List.find?_eq_none]
    intro j hj
    simp [hlt j (by simpa using hj)]
  rw [h1]
  simp [hp]
theorem range_find_none (S : Nat) (p : Nat → Bool) (hlt : ∀ j, j < S → p j = false) : (List.range S).find? p = none := by
  rw [List.find?_eq_none]
  intro j hj
  simp [hlt j (by simpa using hj)]
/-- The slot that Put fills. -/
def putAt (b : List UInt8) (key : Int) : Option Nat := match findO b key with | some x => some x.1 | none => freeO b
def putE (b : List UInt8) (key : Int) : Int := if slotsP b.length = 0 then 40 else if key < 0 ∨ 4294967295 < key then 50 else match putAt b key with | some _ => 0 | none => 42
def putV (b : List UInt8) (key val : Int) : List UInt8 := if putE b key = 0 then (match putAt b key with | some i => layL b (16 + 16 * i) (slotRow key.toNat val.toNat) | none => []) else []
def delB (b : List UInt8) (key : Int) : Bool := (findO b key).isSome
def delV (b : List UInt8) (key : Int) : List UInt8 := match findO b key with | some x => layL b (16 + 16 * x.1) (zeroL 16) | none => []
theorem place_of {b : List UInt8} {i : Nat} (h : i < slotsP b.length) : placeE b (i : Int) = 0 := by
  unfold placeE
  rw [if_neg (by omega), if_neg (by omega)]

theorem value_any {w : World} {A : Option Addr} {n c : Nat} {b : List UInt8} (h : Rda w A c b) (hn : n = b.length) (hl : b.length ≤ 140737488351232) (key : Int) :
    Calls Try.prog 14 #[.slice A n c, .int .i64 key] w fun e w' => e = .returned (.tuple #[.int .u64 (valueI b key), .bool (findB b key)]) ∧ Below w.heap.size w w' := by
  subst hn
  have PF := find_any h rfl hl key
  cases hO : findO b key with
  | none =>
    have e1 : findI b key = 0 := by unfold findI; rw [hO]
    have e2 : findB b key = false := by unfold findB; rw [hO]; rfl
    have e3 : valueI b key = 0 := by unfold valueI; rw [hO]
    rw [e1, e2] at PF
    rw [e2, e3]
    have HPF := Lib.hid PF
    clear PF e1 e2 e3 hO
    go_enter Try.func14, Try.ntmps14
    go_wp2_with fail
    refine HPF.out.mono ?_
    rintro e w1 ⟨rfl, hb⟩
    go_wp2_with fail
    go_ret2
    exact ⟨rfl, hb⟩
  | some x =>
    obtain ⟨m1, m2, m3, m4, m5⟩ := findO_mem hO
    have e1 : findI b key = (x.1 : Int) := by unfold findI; rw [hO]
    have e2 : findB b key = true := by unfold findB; rw [hO]; rfl
    have e3 : valueI b key = (x.2.2 : Int) := by unfold valueI; rw [hO]
    have v1 : slotV b (x.1 : Int) = (x.2.2 : Int) := by unfold slotV; rw [if_pos m2, m4]; rfl
    have v2 : slotK b (x.1 : Int) = (x.2.1 : Int) := by unfold slotK; rw [if_pos m2, m3]; rfl
    have PS := fun (W : World) (hr : Rda W A c b) => slot_any hr rfl hl (x.1 : Int)
    rw [m2, v1, v2, place_of m1] at PS
    rw [e1, e2] at PF
    rw [e2, e3]
    obtain ⟨i, k, v⟩ := x
    have HPF := Lib.hid PF
    have HPS := Lib.hid PS
    clear PF PS e1 e2 e3 hO m1 m2 m3 m4 m5 v1 v2
    go_enter Try.func14, Try.ntmps14
    go_wp2_with fail
    refine HPF.out.mono ?_
    rintro e w1 ⟨rfl, hb⟩
    go_wp2_with fail
    refine (HPS.out _ (h.below hb)).mono ?_
    rintro e w2 ⟨rfl, hb2⟩
    go_wp2_with fail
    go_ret2
    exact ⟨rfl, (below_then hb hb2).alloc (below_then hb hb2).size _⟩

theorem free_slot_any {w : World} {A : Option Addr} {n c : Nat} {b : List UInt8} (h : Rda w A c b) (hn : n = b.length) (hl : b.length ≤ 140737488351232) (hs : 0 < slotsP b.length) :
    Calls Try.prog 34 #[.slice A n c] w fun e w' => (∃ i : Nat, freeO b = some i ∧ e = .returned (.tuple #[.int .i64 (i : Int), .int .i64 0]) ∨ (freeO b = none ∧ e = .returned (.tuple #[.int .i64 0, .int .i64 42]))) ∧ Below w.heap.size w w' := by
  subst hn
  have h8 := slotsP_le b.length
  obtain ⟨S, hS⟩ : ∃ S, slotsP b.length = S := ⟨_, rfl⟩
  have HS := Lib.hid hS
  rw [hS] at hs h8
  clear hS
  go_enter Try.func34, Try.ntmps34
  go_wp2_with fail
  go_loopw [4] (fun i wr => ∃ k : Nat, k ≤ S ∧ i = .int .i64 k ∧ Box (∀ j, j < k → usedB b (j : Int) = true) ∧ Below w.heap.size w wr) (fun i _ => 9 - (intOf i).toNat)
  case atStart => exact ⟨0, by omega, rfl, ⟨fun j hj => by omega⟩, Below.refl _ _⟩
  case round =>
    obtain ⟨k, hk, rfl, hz, hb⟩ := hrel
    have P1 := slot_any (h.below hb) rfl hl (k : Int)
    by_cases hkt : k < S
    · have hp := place_of (b := b) (i := k) (by rw [HS.out]; exact hkt)
      rw [hp] at P1
      obtain ⟨K, hK⟩ : ∃ K, slotK b (k : Int) = K := ⟨_, rfl⟩
      obtain ⟨V, hV⟩ : ∃ V, slotV b (k : Int) = V := ⟨_, rfl⟩
      rw [hK, hV] at P1
      cases hu : usedB b (k : Int) with
      | true =>
        rw [hu] at P1
        have hz2 : Box (∀ j, j < k + 1 → usedB b ((j : Nat) : Int) = true) := ⟨fun j hj => by
          by_cases hjk : j < k
          · exact hz.out j hjk
          · rw [show j = k by omega]; exact hu⟩
        have HP1 := Lib.hid P1
        clear P1 hp hu hz hK hV
        go_wp2_with fail
        refine HP1.out.mono ?_
        rintro e w1 ⟨rfl, hb1⟩
        have hb2 := below_then hb hb1
        have hb3 := hb2.alloc hb2.size (.cells #[.int .i64 K, .int .u64 V] 64)
        go_wp2_with fail
        go_roundw
        case rel => exact ⟨k + 1, by omega, by go_num, hz2, hb3⟩
        case measure => simp [intOf]; omega
      | false =>
        rw [hu] at P1
        have hf : freeO b = some k := range_find _ k _ (by rw [HS.out]; exact hkt) (fun j hj => by simp [hz.out j hj]) (by simp [hu])
        have HF := Lib.hid hf
        have HP1 := Lib.hid P1
        clear P1 hp hu hz hK hV hf
        go_wp2_with fail
        refine HP1.out.mono ?_
        rintro e w1 ⟨rfl, hb1⟩
        have hb2 := below_then hb hb1
        have hb3 := hb2.alloc hb2.size (.cells #[.int .i64 K, .int .u64 V] 64)
        go_wp2_with fail
        go_ret2
        exact ⟨⟨k, .inl ⟨HF.out, rfl⟩⟩, hb3⟩
    · have he : k = S := by omega
      subst he
      have hp : placeE b (k : Int) = 41 := by unfold placeE; rw [HS.out, if_neg (by omega), if_pos (by omega)]
      have hu : usedB b (k : Int) = false := by unfold usedB; rw [hp]; rfl
      have hf : freeO b = none := range_find_none _ _ (fun j hj => by rw [HS.out] at hj; simp [hz.out j hj])
      have e3 : slotK b (k : Int) = 0 := if_neg (by rw [hu]; decide)
      have e4 : slotV b (k : Int) = 0 := if_neg (by rw [hu]; decide)
      rw [hp, hu, e3, e4] at P1
      have HF := Lib.hid hf
      have HP1 := Lib.hid P1
      clear P1 hp hu hz hf e3 e4
      go_wp2_with fail
      refine HP1.out.mono ?_
      rintro e w1 ⟨rfl, hb1⟩
      have hb2 := below_then hb hb1
      have hb3 := hb2.alloc hb2.size (.cells #[.int .i64 0, .int .u64 0] 64)
      go_wp2_with fail
      go_ret2
      exact ⟨⟨0, .inr ⟨HF.out, rfl⟩⟩, hb3⟩

def ofE (key pages keys : Int) : Int := if pages < 1 ∨ 16 < pages then 40 else if keys < 1 ∨ 1048576 < keys ∨ key < 0 ∨ keys ≤ key then 50 else 0
def ofV (key pages keys : Int) : Int := if ofE key pages keys = 0 then key % pages else 0

theorem of_any (key pages keys : Int) (w : World) :
    Calls Try.prog 9 #[.int .i64 key, .int .i64 pages, .int .i64 keys] w fun e w' => e = .returned (.tuple #[.int .i64 (ofV key pages keys), .int .i64 (ofE key pages keys)]) ∧ w = w' := by
  by_cases h1 : pages < 1 ∨ 16 < pages
  · have e1 : ofE key pages keys = 40 := if_pos h1
    have e2 : ofV key pages keys = 0 := if_neg (by rw [e1]; decide)
    rw [e1, e2]
    by_cases ha : pages < 1
    · clear h1 e1 e2
      go_enter Try.func9, Try.ntmps9
      go_wp2
      go_ret2
      exact ⟨rfl, rfl⟩
    · have hb : 16 < pages := by omega
      clear h1 e1 e2
      go_enter Try.func9, Try.ntmps9
      go_wp2
      go_ret2
      exact ⟨rfl, rfl⟩
  · have p1 : 1 ≤ pages := by omega
    have p2 : pages ≤ 16 := by omega
    by_cases h2 : keys < 1 ∨ 1048576 < keys ∨ key < 0 ∨ keys ≤ key
    · have e1 : ofE key pages keys = 50 := by unfold ofE; rw [if_neg h1, if_pos h2]
      have e2 : ofV key pages keys = 0 := if_neg (by rw [e1]; decide)
      rw [e1, e2]
      by_cases ha : keys < 1
      · clear h1 h2 e1 e2
        go_enter Try.func9, Try.ntmps9
        go_wp2
        go_ret2
        exact ⟨rfl, rfl⟩
      · by_cases hb : 1048576 < keys
        · clear h1 h2 e1 e2
          go_enter Try.func9, Try.ntmps9
          go_wp2
          go_ret2
          exact ⟨rfl, rfl⟩
        · by_cases hc : key < 0
          · have k1 : 1 ≤ keys := by omega
            have k2 : keys ≤ 1048576 := by omega
            clear h1 h2 e1 e2
            go_enter Try.func9, Try.ntmps9
            go_wp2
            go_ret2
            exact ⟨rfl, rfl⟩
          · have k1 : 1 ≤ keys := by omega
            have k2 : keys ≤ 1048576 := by omega
            have k3 : keys ≤ key := by omega
            have k4 : 0 ≤ key := by omega
            clear h1 h2 e1 e2
            go_enter Try.func9, Try.ntmps9
            go_wp2
            go_ret2
            exact ⟨rfl, rfl⟩
    · have e1 : ofE key pages keys = 0 := by unfold ofE; rw [if_neg h1, if_neg h2]
      have e2 : ofV key pages keys = key % pages := if_pos e1
      rw [e1, e2]
      have k1 : 1 ≤ keys := by omega
      have k2 : keys ≤ 1048576 := by omega
      have k3 : key < keys := by omega
      have k4 : 0 ≤ key := by omega
      clear h1 h2 e1 e2
      go_enter Try.func9, Try.ntmps9
      go_wp2
      go_ret2
      exact ⟨rfl, rfl⟩
end Go.Proofs.Ytgcpmdodhnmneab
