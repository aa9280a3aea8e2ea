import Derived.Test.YtgcpmdodhnmneabPut2
import Derived.Test.YtgcpmdodhnmneabRef4s
/- The contracts of the document's answer for layer 5. -/
set_option linter.unusedVariables false
set_option linter.unusedSimpArgs false
namespace Go.Proofs.Ytgcpmdodhnmneab
open Go.RowKit Go.Tm
set_option maxHeartbeats 400000
set_option maxRecDepth 100000

theorem refOf_any (key pages keys : Int) (w : World) :
    Calls Try.prog 10 #[.int .i64 key, .int .i64 pages, .int .i64 keys] w fun e w' => e = .returned (.tuple #[.int .i64 (ofV key pages keys), .int .i64 (ofE key pages keys)]) ∧ w = w' := by
  by_cases h1 : pages < 1 ∨ 16 < pages
  · have e1 : ofE key pages keys = 40 := if_pos h1
    have e2 : ofV key pages keys = 0 := if_neg (by rw [e1]; decide)
    rw [e1, e2]
    by_cases ha : pages < 1
    · clear h1 e1 e2
      go_enter Try.func10, Try.ntmps10
      go_wp2
      go_ret2
      exact ⟨rfl, rfl⟩
    · have hb : 16 < pages := by omega
      clear h1 e1 e2
      go_enter Try.func10, Try.ntmps10
      go_wp2
      go_ret2
      exact ⟨rfl, rfl⟩
  · have p1 : 1 ≤ pages := by omega
    have p2 : pages ≤ 16 := by omega
    by_cases h2 : keys < 1 ∨ 1048576 < keys ∨ key < 0 ∨ keys ≤ key
    · have e1 : ofE key pages keys = 50 := by unfold ofE; rw [if_neg h1, if_pos h2]
      have e2 : ofV key pages keys = 0 := if_neg (by rw [e1]; decide)
      rw [e1, e2]
      by_cases ha : keys < 1
      · clear h1 h2 e1 e2
        go_enter Try.func10, Try.ntmps10
        go_wp2
        go_ret2
        exact ⟨rfl, rfl⟩
      · by_cases hb : 1048576 < keys
        · clear h1 h2 e1 e2
          go_enter Try.func10, Try.ntmps10
          go_wp2
          go_ret2
          exact ⟨rfl, rfl⟩
        · by_cases hc : key < 0
          · have k1 : 1 ≤ keys := by omega
            have k2 : keys ≤ 1048576 := by omega
            clear h1 h2 e1 e2
            go_enter Try.func10, Try.ntmps10
            go_wp2
            go_ret2
            exact ⟨rfl, rfl⟩
          · have k1 : 1 ≤ keys := by omega
            have k2 : keys ≤ 1048576 := by omega
            have k3 : keys ≤ key := by omega
            have k4 : 0 ≤ key := by omega
            clear h1 h2 e1 e2
            go_enter Try.func10, Try.ntmps10
            go_wp2
            go_ret2
            exact ⟨rfl, rfl⟩
    · have e1 : ofE key pages keys = 0 := by unfold ofE; rw [if_neg h1, if_neg h2]
      have e2 : ofV key pages keys = key % pages := if_pos e1
      rw [e1, e2]
      have k1 : 1 ≤ keys := by omega
      have k2 : keys ≤ 1048576 := by omega
      have k3 : key < keys := by omega
      have k4 : 0 ≤ key := by omega
      clear h1 h2 e1 e2
      go_enter Try.func10, Try.ntmps10
      go_wp2
      go_ret2
      exact ⟨rfl, rfl⟩

/-- This slot is used and has the key. -/
def hitB (b : List UInt8) (key : Int) (j : Nat) : Bool := usedB b (j : Int) && decide ((keyN b j : Int) = key)
theorem findO_range (b : List UInt8) (key : Int) : findO b key = ((List.range (slotsP b.length)).find? (hitB b key)).map (fun i => (i, keyN b i, valN b i)) := by
  unfold findO entL
  rw [List.find?_filterMap]
  have e : (fun (i : Nat) => (if usedB b (i : Int) = true then some (i, keyN b i, valN b i) else none).any (fun (x : Nat × Nat × Nat) => decide ((x.2.1 : Int) = key))) = hitB b key := by
    funext i
    unfold hitB
    cases usedB b (i : Int) <;> simp
  rw [e]
  cases hf : (List.range (slotsP b.length)).find? (hitB b key) with
  | none => rfl
  | some i =>
    have h2 := List.find?_some hf
    unfold hitB at h2
    rw [Bool.and_eq_true] at h2
    simp [h2.1]
theorem findO_at {b : List UInt8} {key : Int} {k : Nat} (hk : k < slotsP b.length) (hn : ∀ j, j < k → hitB b key j = false) (hh : hitB b key k = true) : findO b key = some (k, keyN b k, valN b k) := by
  rw [findO_range, range_find _ k _ hk hn hh]
  rfl
theorem findO_no {b : List UInt8} {key : Int} (hn : ∀ j, j < slotsP b.length → hitB b key j = false) : findO b key = none := by
  rw [findO_range, range_find_none _ _ hn]
  rfl

theorem refFind_any {w : World} {A : Option Addr} {n c : Nat} {b : List UInt8} (h : Rda w A c b) (hn : n = b.length) (hl : b.length ≤ 140737488351232) (key : Int) :
    Calls Try.prog 13 #[.slice A n c, .int .i64 key] w fun e w' => e = .returned (.tuple #[.int .i64 (findI b key), .bool (findB b key)]) ∧ Below w.heap.size w w' := by
  subst hn
  have PS := fun W => refSlots_any A b.length c (by omega) W
  obtain ⟨S, hS⟩ : ∃ S, slotsP b.length = S := ⟨_, rfl⟩
  have HS := Lib.hid hS
  have h8 := slotsP_le b.length
  rw [hS] at PS h8
  have HPS := Lib.hid PS
  clear hS PS
  go_enter Try.func13, Try.ntmps13
  go_wp2_with fail
  go_loopw [6] (fun i wr => ∃ k : Nat, k ≤ S ∧ i = .int .i64 k ∧ Box (∀ j, j < k → hitB b key j = false) ∧ Below w.heap.size w wr) (fun i _ => 9 - (intOf i).toNat)
  case atStart => exact ⟨0, by omega, rfl, ⟨fun j hj => by omega⟩, Below.refl _ _⟩
  case round =>
    obtain ⟨k, hk, rfl, hz, hb⟩ := hrel
    by_cases hkt : k < S
    · have P1 := refSlot_any (h.below hb) rfl hl (k : Int)
      have hp := place_of (b := b) (i := k) (by rw [HS.out]; exact hkt)
      rw [hp] at P1
      obtain ⟨V, hV⟩ : ∃ V, slotV b (k : Int) = V := ⟨_, rfl⟩
      rw [hV] at P1
      cases hu : usedB b (k : Int) with
      | true =>
        have e0 : slotK b (k : Int) = (keyN b k : Int) := if_pos hu
        rw [hu, e0] at P1
        by_cases hke : (keyN b k : Int) = key
        · have hO := findO_at (by rw [HS.out]; exact hkt) hz.out (by unfold hitB; rw [hu, decide_eq_true hke]; rfl)
          have e1 : findI b key = (k : Int) := by unfold findI; rw [hO]
          have e2 : findB b key = true := by unfold findB; rw [hO]; rfl
          have E1 := Lib.hid e1
          have E2 := Lib.hid e2
          rw [hke] at P1
          have HP1 := Lib.hid P1
          clear P1 hp hu hz hV e0 hke hO e1 e2
          go_wp2_with fail
          refine (HPS.out _).mono ?_
          rintro e wx ⟨rfl, rfl⟩
          go_wp2_with fail
          refine HP1.out.mono ?_
          rintro e w1 ⟨rfl, hb1⟩
          have hb2 := below_then hb hb1
          have hb3 := hb2.alloc hb2.size (.cells #[.int .i64 key, .int .u64 V] 64)
          have cX := pair_cell0 (heap_alloc_new w1 (.cells #[.int .i64 key, .int .u64 V] 64))
          go_wp2_with fail
          go_ret2
          exact ⟨by rw [E1.out, E2.out]; rfl, hb3⟩
        · have hz2 : Box (∀ j, j < k + 1 → hitB b key j = false) := ⟨fun j hj => by
            by_cases hjk : j < k
            · exact hz.out j hjk
            · rw [show j = k by omega]; unfold hitB; rw [decide_eq_false hke, Bool.and_false]⟩
          obtain ⟨X, hX⟩ : ∃ X : Int, (keyN b k : Int) = X := ⟨_, rfl⟩
          rw [hX] at P1 hke
          have hkb : (X == key) = false := by rw [beq_eq_false_iff_ne]; exact hke
          have HP1 := Lib.hid P1
          clear P1 hp hu hz hV e0 hke hX
          go_wp2_with fail
          refine (HPS.out _).mono ?_
          rintro e wx ⟨rfl, rfl⟩
          go_wp2_with fail
          refine HP1.out.mono ?_
          rintro e w1 ⟨rfl, hb1⟩
          have hb2 := below_then hb hb1
          have hb3 := hb2.alloc hb2.size (.cells #[.int .i64 X, .int .u64 V] 64)
          have cX := pair_cell0 (heap_alloc_new w1 (.cells #[.int .i64 X, .int .u64 V] 64))
          go_wp2_with fail
          go_roundw
          case rel => exact ⟨k + 1, by omega, by go_num, hz2, hb3⟩
          case measure => simp [intOf]; omega
      | false =>
        have hz2 : Box (∀ j, j < k + 1 → hitB b key j = false) := ⟨fun j hj => by
          by_cases hjk : j < k
          · exact hz.out j hjk
          · rw [show j = k by omega]; unfold hitB; rw [hu, Bool.false_and]⟩
        obtain ⟨X, hX⟩ : ∃ X : Int, slotK b (k : Int) = X := ⟨_, rfl⟩
        rw [hu, hX] at P1
        have HP1 := Lib.hid P1
        clear P1 hp hu hz hV hX
        go_wp2_with fail
        refine (HPS.out _).mono ?_
        rintro e wx ⟨rfl, rfl⟩
        go_wp2_with fail
        refine HP1.out.mono ?_
        rintro e w1 ⟨rfl, hb1⟩
        have hb2 := below_then hb hb1
        have hb3 := hb2.alloc hb2.size (.cells #[.int .i64 X, .int .u64 V] 64)
        go_wp2_with fail
        go_roundw
        case rel => exact ⟨k + 1, by omega, by go_num, hz2, hb3⟩
        case measure => simp [intOf]; omega
    · have he : k = S := by omega
      subst he
      have hO := findO_no (b := b) (key := key) (fun j hj => hz.out j (by rw [HS.out] at hj; exact hj))
      have e1 : findI b key = 0 := by unfold findI; rw [hO]
      have e2 : findB b key = false := by unfold findB; rw [hO]; rfl
      have E1 := Lib.hid e1
      have E2 := Lib.hid e2
      clear hO e1 e2 hz
      go_wp2_with fail
      refine (HPS.out _).mono ?_
      rintro e wx ⟨rfl, rfl⟩
      go_wp2_with fail
      go_ret2
      exact ⟨by rw [E1.out, E2.out]; rfl, hb⟩

theorem refValue_any {w : World} {A : Option Addr} {n c : Nat} {b : List UInt8} (h : Rda w A c b) (hn : n = b.length) (hl : b.length ≤ 140737488351232) (key : Int) :
    Calls Try.prog 15 #[.slice A n c, .int .i64 key] w fun e w' => e = .returned (.tuple #[.int .u64 (valueI b key), .bool (findB b key)]) ∧ Below w.heap.size w w' := by
  subst hn
  have PF := refFind_any h rfl hl key
  cases hO : findO b key with
  | none =>
    have e1 : findI b key = 0 := by unfold findI; rw [hO]
    have e2 : findB b key = false := by unfold findB; rw [hO]; rfl
    have e3 : valueI b key = 0 := by unfold valueI; rw [hO]
    rw [e1, e2] at PF
    rw [e2, e3]
    have HPF := Lib.hid PF
    clear PF e1 e2 e3 hO
    go_enter Try.func15, Try.ntmps15
    go_wp2_with fail
    refine HPF.out.mono ?_
    rintro e w1 ⟨rfl, hb⟩
    go_wp2_with fail
    go_ret2
    exact ⟨rfl, hb⟩
  | some x =>
    obtain ⟨m1, m2, m3, m4, m5⟩ := findO_mem hO
    have e1 : findI b key = (x.1 : Int) := by unfold findI; rw [hO]
    have e2 : findB b key = true := by unfold findB; rw [hO]; rfl
    have e3 : valueI b key = (x.2.2 : Int) := by unfold valueI; rw [hO]
    have v1 : slotV b (x.1 : Int) = (x.2.2 : Int) := by unfold slotV; rw [if_pos m2, m4]; rfl
    have v2 : slotK b (x.1 : Int) = (x.2.1 : Int) := by unfold slotK; rw [if_pos m2, m3]; rfl
    have PS := fun (W : World) (hr : Rda W A c b) => refSlot_any hr rfl hl (x.1 : Int)
    rw [m2, v1, v2, place_of m1] at PS
    rw [e1, e2] at PF
    rw [e2, e3]
    obtain ⟨i, k, v⟩ := x
    have HPF := Lib.hid PF
    have HPS := Lib.hid PS
    clear PF PS e1 e2 e3 hO m1 m2 m3 m4 m5 v1 v2
    go_enter Try.func15, Try.ntmps15
    go_wp2_with fail
    refine HPF.out.mono ?_
    rintro e w1 ⟨rfl, hb⟩
    go_wp2_with fail
    refine (HPS.out _ (h.below hb)).mono ?_
    rintro e w2 ⟨rfl, hb2⟩
    go_wp2_with fail
    go_ret2
    exact ⟨rfl, (below_then hb hb2).alloc (below_then hb hb2).size _⟩

theorem refDelete_any {w : World} {A : Option Addr} {n c : Nat} {b : List UInt8} (h : Rda w A c b) (hn : n = b.length) (hl : b.length ≤ 140737488351232) (key : Int) :
    Calls Try.prog 19 #[.slice A n c, .int .i64 key] w fun e w' => ∃ A' c', e = .returned (.tuple #[.slice A' (delV b key).length c', .bool (delB b key)]) ∧ New 5 w w' A' c' (delV b key) := by
  subst hn
  have PF := refFind_any h rfl hl key
  cases hO : findO b key with
  | some x =>
    have e1 : findI b key = (x.1 : Int) := by unfold findI; rw [hO]
    have e2 : findB b key = true := by unfold findB; rw [hO]; rfl
    have e0 : placeE b (x.1 : Int) = 0 := place_of (findO_mem hO).1
    have e3 : delB b key = true := by unfold delB; rw [hO]; rfl
    have e4 : delV b key = freeV b (x.1 : Int) := by unfold delV freeV; rw [hO, if_pos e0]; rfl
    have PL := fun (W : World) (hb : Below w.heap.size w W) => refFree_any (h.below hb) rfl hl (x.1 : Int)
    rw [e0] at PL
    have HPL := Lib.hid PL
    rw [e1, e2] at PF
    rw [e3, e4]
    have HPF := Lib.hid PF
    clear PF e0 e1 e2 e3 e4 hO PL
    go_enter Try.func19, Try.ntmps19
    go_wp2_with fail
    refine HPF.out.mono ?_
    rintro e w1 ⟨rfl, hb⟩
    go_wp2_with fail
    refine (HPL.out w1 hb).mono ?_
    rintro e w2 ⟨A2, c2, rfl, hN⟩
    go_wp2_with fail
    go_ret2
    exact ⟨A2, c2, rfl, ⟨hN.own.mono hb.size, below_then hb hN.below⟩⟩
  | none =>
    have e1 : findI b key = 0 := by unfold findI; rw [hO]
    have e2 : findB b key = false := by unfold findB; rw [hO]; rfl
    have e3 : delB b key = false := by unfold delB; rw [hO]; rfl
    have e4 : delV b key = [] := by unfold delV; rw [hO]
    rw [e1, e2] at PF
    rw [e3, e4]
    have HPF := Lib.hid PF
    clear PF e1 e2 e3 e4 hO
    go_enter Try.func19, Try.ntmps19
    go_wp2_with fail
    refine HPF.out.mono ?_
    rintro e w1 ⟨rfl, hb⟩
    go_wp2_with fail
    go_ret2
    exact ⟨none, 0, rfl, ⟨Own8.nilRow _ _ _, hb⟩⟩
end Go.Proofs.Ytgcpmdodhnmneab
