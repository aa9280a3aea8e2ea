import Derived.Test.YtgcpmdodhnmneabPut
/- Put and Delete. -/
set_option linter.unusedVariables false
set_option linter.unusedSimpArgs false
namespace Go.Proofs.Ytgcpmdodhnmneab
open Go.RowKit Go.Tm
set_option maxHeartbeats 400000
set_option maxRecDepth 100000

theorem putAt_lt {b : List UInt8} {key : Int} {i : Nat} (h : putAt b key = some i) : i < slotsP b.length := by
  unfold putAt at h
  split at h
  · rename_i x hO
    injection h with h
    rw [← h]
    exact (findO_mem hO).1
  · exact (freeO_mem h).1
theorem place_zero {b : List UInt8} : placeE b 0 = if slotsP b.length = 0 then 40 else 0 := by
  unfold placeE
  split
  · rfl
  · rw [if_neg (by omega)]

set_option maxHeartbeats 800000 in
theorem put_any {w : World} {A : Option Addr} {n c : Nat} {b : List UInt8} (h : Rda w A c b) (hn : n = b.length) (hl : b.length ≤ 140737488351232) (key val : Int) (hv0 : 0 ≤ val) (hv1 : val < 18446744073709551616) :
    Calls Try.prog 16 #[.slice A n c, .int .i64 key, .int .u64 val] w fun e w' => ∃ A' c', e = .returned (.tuple #[.slice A' (putV b key val).length c', .int .i64 (putE b key)]) ∧ New 5 w w' A' c' (putV b key val) := by
  subst hn
  have bW := ((Below.refl w.heap.size w).alloc (Nat.le_refl _) (.cells #[.int .i64 key] 3)).alloc (by simp) (.cells #[.int .u64 val] 30)
  have PS := fun (W : World) (hr : Rda W A c b) => slot_any hr rfl hl 0
  have HV : Lt64 val := ⟨hv0, hv1⟩
  clear hv1
  obtain ⟨K0, hK0⟩ : ∃ K0, slotK b 0 = K0 := ⟨_, rfl⟩
  obtain ⟨V0, hV0⟩ : ∃ V0, slotV b 0 = V0 := ⟨_, rfl⟩
  obtain ⟨U0, hU0⟩ : ∃ U0, usedB b 0 = U0 := ⟨_, rfl⟩
  rw [place_zero, hK0, hV0, hU0] at PS
  clear hK0 hV0 hU0
  by_cases hs : slotsP b.length = 0
  · have e1 : putE b key = 40 := if_pos hs
    have e2 : putV b key val = [] := if_neg (by rw [e1]; decide)
    rw [e1, e2]
    rw [if_pos hs] at PS
    have HPS := Lib.hid PS
    clear PS e1 e2 hs
    go_enter Try.func16, Try.ntmps16
    go_wp2_with fail
    refine (HPS.out _ (h.below bW)).mono ?_
    rintro e w1 ⟨rfl, hb⟩
    have hb2 := below_then bW hb
    have hb3 := hb2.alloc hb2.size (.cells #[.int .i64 K0, .int .u64 V0] 64)
    go_wp2_with fail
    go_ret2
    exact ⟨none, 0, rfl, ⟨Own8.nilRow _ _ _, hb3⟩⟩
  · have hs0 : 0 < slotsP b.length := by omega
    rw [if_neg hs] at PS
    have HPS := Lib.hid PS
    clear PS
    have k0 : ((w.alloc (.cells #[.int .i64 key] 3)).alloc (.cells #[.int .u64 val] 30)).cell? ⟨w.heap.size, 0, none⟩ = some (.int .i64 key) := by
      refine box_cell (T := 3) ?_
      rw [Below.heap_alloc _ _ _ (by simp), heap_alloc_new]
    have k1 : ((w.alloc (.cells #[.int .i64 key] 3)).alloc (.cells #[.int .u64 val] 30)).cell? ⟨w.heap.size + 1, 0, none⟩ = some (.int .u64 val) := by
      refine box_cell (T := 30) ?_
      have := heap_alloc_new (w.alloc (.cells #[.int .i64 key] 3)) (.cells #[.int .u64 val] 30)
      simpa using this
    by_cases hr : key < 0 ∨ 4294967295 < key
    · have e1 : putE b key = 50 := by unfold putE; rw [if_neg hs, if_pos hr]
      have e2 : putV b key val = [] := if_neg (by rw [e1]; decide)
      rw [e1, e2]
      clear e1 e2 hs hs0
      by_cases hlo : key < 0
      · clear hr
        go_enter Try.func16, Try.ntmps16
        go_wp2_with fail
        refine (HPS.out _ (h.below bW)).mono ?_
        rintro e w1 ⟨rfl, hb⟩
        have hb2 := below_then bW hb
        have hb3 := hb2.alloc hb2.size (.cells #[.int .i64 K0, .int .u64 V0] 64)
        have hbq := hb.alloc hb.size (.cells #[.int .i64 K0, .int .u64 V0] 64)
        have q0 := (hbq.cell (p := ⟨w.heap.size, 0, none⟩) (World.block_lt_of_cell? _ _ k0)).trans k0
        go_wp2_with fail
        go_ret2
        exact ⟨none, 0, rfl, ⟨Own8.nilRow _ _ _, hb3⟩⟩
      · have hhi : 4294967295 < key := by omega
        clear hr
        go_enter Try.func16, Try.ntmps16
        go_wp2_with fail
        refine (HPS.out _ (h.below bW)).mono ?_
        rintro e w1 ⟨rfl, hb⟩
        have hb2 := below_then bW hb
        have hb3 := hb2.alloc hb2.size (.cells #[.int .i64 K0, .int .u64 V0] 64)
        have hbq := hb.alloc hb.size (.cells #[.int .i64 K0, .int .u64 V0] 64)
        have q0 := (hbq.cell (p := ⟨w.heap.size, 0, none⟩) (World.block_lt_of_cell? _ _ k0)).trans k0
        go_wp2_with fail
        go_ret2
        exact ⟨none, 0, rfl, ⟨Own8.nilRow _ _ _, hb3⟩⟩
    · have hk0 : 0 ≤ key := by omega
      have hk1 : key ≤ 4294967295 := by omega
      have e1 : doneE b key = putE b key := by
        unfold doneE putE
        rw [if_neg hs, if_neg hr]
        cases hP : putAt b key with
        | none => rfl
        | some i =>
          show fillE b (i : Int) key = 0
          unfold fillE
          rw [if_neg (by rw [place_of (putAt_lt hP)]; decide), if_neg hr]
      have e2 : doneV b key val = putV b key val := by
        unfold doneV putV
        rw [← e1]
        unfold doneE
        cases hP : putAt b key with
        | none => rfl
        | some i =>
          show fillV b (i : Int) key val = if fillE b (i : Int) key = 0 then layL b (16 + 16 * i) (slotRow key.toNat val.toNat) else []
          rfl
      have PD := fun (W : World) (hb : Below ((w.alloc (.cells #[.int .i64 key] 3)).alloc (.cells #[.int .u64 val] 30)).heap.size ((w.alloc (.cells #[.int .i64 key] 3)).alloc (.cells #[.int .u64 val] 30)) W) =>
        doneput_any ((h.below bW).below hb) rfl hl key val w.heap.size (w.heap.size + 1) HV.lo HV.hi hs0 ((hb.cell (p := ⟨w.heap.size, 0, none⟩) (World.block_lt_of_cell? _ _ k0)).trans k0) ((hb.cell (p := ⟨w.heap.size + 1, 0, none⟩) (World.block_lt_of_cell? _ _ k1)).trans k1)
      rw [e1, e2] at PD
      have HPD := Lib.hid PD
      clear PD e1 e2 hs hs0 hr
      go_enter Try.func16, Try.ntmps16
      go_wp2_with fail
      refine (HPS.out _ (h.below bW)).mono ?_
      rintro e w1 ⟨rfl, hb⟩
      have hb2 := below_then bW hb
      have hb3 := hb2.alloc hb2.size (.cells #[.int .i64 K0, .int .u64 V0] 64)
      have hbq := hb.alloc hb.size (.cells #[.int .i64 K0, .int .u64 V0] 64)
      have q0 := (hbq.cell (p := ⟨w.heap.size, 0, none⟩) (World.block_lt_of_cell? _ _ k0)).trans k0
      have HQ := Lib.hid hbq
      have HB3 := Lib.hid hb3
      clear hbq hb3 hb2 hb k0 k1 bW h
      go_wp2_with fail
      refine (HPD.out _ HQ.out).mono ?_
      rintro e w2 ⟨A2, c2, rfl, hN⟩
      go_wp2_with fail
      go_ret2
      exact ⟨A2, c2, rfl, ⟨hN.own.mono HB3.out.size, below_then HB3.out hN.below⟩⟩

theorem delf_any {A : Option Addr} {n c : Nat} {w : World} :
    Calls Try.prog 36 #[.slice A n c] w fun e w' => e = .returned (.tuple #[.int .i64 0, .int .i64 50]) ∧ w = w' := by
  go_enter Try.func36, Try.ntmps36
  go_wp2_with fail
  go_ret2
  exact ⟨rfl, rfl⟩

def ddE (b : List UInt8) (key : Int) : Int := if findB b key = true then 0 else 50
theorem donedel_any {w : World} {A : Option Addr} {n c : Nat} {b : List UInt8} (h : Rda w A c b) (hn : n = b.length) (hl : b.length ≤ 140737488351232) (key : Int) :
    Calls Try.prog 33 #[.slice A n c, .int .i64 key, .func (.func 37) #[] #[], .func (.func 36) #[] #[]] w fun e w' => ∃ A' c', e = .returned (.tuple #[.slice A' (delV b key).length c', .int .i64 (ddE b key)]) ∧ New 5 w w' A' c' (delV b key) := by
  subst hn
  have PF := find_any h rfl hl key
  cases hO : findO b key with
  | some x =>
    have e1 : findI b key = (x.1 : Int) := by unfold findI; rw [hO]
    have e2 : findB b key = true := by unfold findB; rw [hO]; rfl
    have e0 : placeE b (x.1 : Int) = 0 := place_of (findO_mem hO).1
    have e3 : ddE b key = 0 := by unfold ddE; rw [if_pos e2]
    have e4 : delV b key = freeV b (x.1 : Int) := by unfold delV freeV; rw [hO, if_pos e0]; rfl
    have PL := fun (W : World) (hb : Below w.heap.size w W) => free_any (h.below hb) rfl hl (x.1 : Int)
    rw [e0] at PL
    have HPL := Lib.hid PL
    rw [e1, e2] at PF
    rw [e3, e4]
    have HPF := Lib.hid PF
    clear PF e0 e1 e2 e3 e4 hO PL
    go_enter Try.func33, Try.ntmps33
    go_wp2_with fail
    refine HPF.out.mono ?_
    rintro e w1 ⟨rfl, hb⟩
    go_wp2_with fail
    refine (HPL.out w1 hb).mono ?_
    rintro e w2 ⟨A2, c2, rfl, hN⟩
    go_wp2_with fail
    go_ret2
    exact ⟨A2, c2, rfl, ⟨hN.own.mono hb.size, below_then hb hN.below⟩⟩
  | none =>
    have e1 : findI b key = 0 := by unfold findI; rw [hO]
    have e2 : findB b key = false := by unfold findB; rw [hO]; rfl
    have e3 : ddE b key = 50 := by unfold ddE; rw [e2]; rfl
    have e4 : delV b key = [] := by unfold delV; rw [hO]
    rw [e1, e2] at PF
    rw [e3, e4]
    have HPF := Lib.hid PF
    clear PF e1 e2 e3 e4 hO
    go_enter Try.func33, Try.ntmps33
    go_wp2_with fail
    refine HPF.out.mono ?_
    rintro e w1 ⟨rfl, hb⟩
    go_wp2_with fail
    refine delf_any.mono ?_
    rintro e w2 ⟨rfl, rfl⟩
    go_wp2_with fail
    go_ret2
    exact ⟨none, 0, rfl, ⟨Own8.nilRow _ _ _, hb⟩⟩

theorem delete_any {w : World} {A : Option Addr} {n c : Nat} {b : List UInt8} (h : Rda w A c b) (hn : n = b.length) (hl : b.length ≤ 140737488351232) (key : Int) :
    Calls Try.prog 18 #[.slice A n c, .int .i64 key] w fun e w' => ∃ A' c', e = .returned (.tuple #[.slice A' (delV b key).length c', .bool (delB b key)]) ∧ New 5 w w' A' c' (delV b key) := by
  subst hn
  have PD := donedel_any h rfl hl key
  have e1 : delB b key = (ddE b key == 0) := by
    unfold delB ddE findB
    cases (findO b key).isSome <;> rfl
  rw [e1]
  obtain ⟨E, hE⟩ : ∃ E, ddE b key = E := ⟨_, rfl⟩
  rw [hE] at PD ⊢
  have HPD := Lib.hid PD
  clear PD hE e1
  go_enter Try.func18, Try.ntmps18
  go_wp2_with fail
  refine HPD.out.mono ?_
  rintro e w1 ⟨A1, c1, rfl, hN⟩
  go_wp2_with fail
  go_ret2
  exact ⟨A1, c1, rfl, hN⟩
end Go.Proofs.Ytgcpmdodhnmneab
