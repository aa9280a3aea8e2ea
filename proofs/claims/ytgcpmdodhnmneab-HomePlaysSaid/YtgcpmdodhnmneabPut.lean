import Derived.Test.YtgcpmdodhnmneabHome
/- home.done, Put and Delete. -/
set_option linter.unusedVariables false
set_option linter.unusedSimpArgs false
namespace Go.Proofs.Ytgcpmdodhnmneab
open Go.RowKit Go.Tm
set_option maxHeartbeats 400000
set_option maxRecDepth 100000

theorem putf_any {w : World} {A : Option Addr} {n c : Nat} {b : List UInt8} (h : Rda w A c b) (hn : n = b.length) (hl : b.length ≤ 140737488351232) (i key val : Int) (kb vb : Nat) (hv0 : 0 ≤ val) (hv1 : val < 18446744073709551616)
    (hk : w.cell? ⟨kb, 0, none⟩ = some (.int .i64 key)) (hv : w.cell? ⟨vb, 0, none⟩ = some (.int .u64 val)) :
    Calls Try.prog 31 #[.slice A n c, .int .i64 i, .pointer (some ⟨kb, 0, none⟩), .pointer (some ⟨vb, 0, none⟩)] w fun e w' => ∃ A' c', e = .returned (.tuple #[.slice A' (fillV b i key val).length c', .int .i64 (fillE b i key)]) ∧ New 5 w w' A' c' (fillV b i key val) := by
  subst hn
  have HPF := Lib.hid (fill_any h rfl hl i key val hv0 hv1)
  clear hv1
  go_enter Try.func31, Try.ntmps31
  go_wp2_with fail
  refine HPF.out.mono ?_
  rintro e w1 ⟨A', c', rfl, hN⟩
  go_wp2_with fail
  go_ret2
  exact ⟨A', c', rfl, hN⟩

def doneE (b : List UInt8) (key : Int) : Int := match putAt b key with | some i => fillE b (i : Int) key | none => 42
def doneV (b : List UInt8) (key val : Int) : List UInt8 := match putAt b key with | some i => fillV b (i : Int) key val | none => []

set_option maxHeartbeats 800000 in
theorem doneput_any {w : World} {A : Option Addr} {n c : Nat} {b : List UInt8} (h : Rda w A c b) (hn : n = b.length) (hl : b.length ≤ 140737488351232) (key val : Int) (kb vb : Nat) (hv0 : 0 ≤ val) (hv1 : val < 18446744073709551616) (hs : 0 < slotsP b.length)
    (hk : w.cell? ⟨kb, 0, none⟩ = some (.int .i64 key)) (hv : w.cell? ⟨vb, 0, none⟩ = some (.int .u64 val)) :
    Calls Try.prog 33 #[.slice A n c, .int .i64 key, .func (.func 31) #[] #[.pointer (some ⟨kb, 0, none⟩), .pointer (some ⟨vb, 0, none⟩)], .func (.func 34) #[] #[]] w fun e w' => ∃ A' c', e = .returned (.tuple #[.slice A' (doneV b key val).length c', .int .i64 (doneE b key)]) ∧ New 5 w w' A' c' (doneV b key val) := by
  subst hn
  have PF := find_any h rfl hl key
  have PL := fun (i : Nat) (W : World) (hb : Below w.heap.size w W) => putf_any (h.below hb) rfl hl (i : Int) key val kb vb hv0 hv1 ((hb.cell (p := ⟨kb, 0, none⟩) (World.block_lt_of_cell? _ _ hk)).trans hk) ((hb.cell (p := ⟨vb, 0, none⟩) (World.block_lt_of_cell? _ _ hv)).trans hv)
  have HPL := Lib.hid PL
  clear PL hv1
  cases hO : findO b key with
  | some x =>
    have e1 : findI b key = (x.1 : Int) := by unfold findI; rw [hO]
    have e2 : findB b key = true := by unfold findB; rw [hO]; rfl
    have e3 : doneE b key = fillE b (x.1 : Int) key := by unfold doneE putAt; rw [hO]
    have e4 : doneV b key val = fillV b (x.1 : Int) key val := by unfold doneV putAt; rw [hO]
    rw [e1, e2] at PF
    rw [e3, e4]
    have HPF := Lib.hid PF
    clear PF e1 e2 e3 e4 hO
    go_enter Try.func33, Try.ntmps33
    go_wp2_with fail
    refine HPF.out.mono ?_
    rintro e w1 ⟨rfl, hb⟩
    go_wp2_with fail
    refine (HPL.out x.1 w1 hb).mono ?_
    rintro e w2 ⟨A2, c2, rfl, hN⟩
    go_wp2_with fail
    go_ret2
    exact ⟨A2, c2, rfl, ⟨hN.own.mono hb.size, below_then hb hN.below⟩⟩
  | none =>
    have e1 : findI b key = 0 := by unfold findI; rw [hO]
    have e2 : findB b key = false := by unfold findB; rw [hO]; rfl
    have e5 : putAt b key = freeO b := by unfold putAt; rw [hO]
    rw [e1, e2] at PF
    have HPF := Lib.hid PF
    have HFS := Lib.hid (fun (W : World) (hb : Below w.heap.size w W) => free_slot_any (h.below hb) rfl hl hs)
    cases hF : freeO b with
    | none =>
      have e3 : doneE b key = 42 := by unfold doneE; rw [e5, hF]
      have e4 : doneV b key val = [] := by unfold doneV; rw [e5, hF]
      rw [e3, e4]
      have HF := Lib.hid hF
      clear PF e1 e2 e3 e4 e5 hO hF
      go_enter Try.func33, Try.ntmps33
      go_wp2_with fail
      refine HPF.out.mono ?_
      rintro e w1 ⟨rfl, hb⟩
      go_wp2_with fail
      refine (HFS.out w1 hb).mono ?_
      rintro e w2 ⟨⟨i, ⟨hi, he⟩ | ⟨hi, rfl⟩⟩, hb2⟩
      · rw [HF.out] at hi; cases hi
      clear hi
      go_wp2_with fail
      go_ret2
      exact ⟨none, 0, rfl, ⟨Own8.nilRow _ _ _, below_then hb hb2⟩⟩
    | some i =>
      have e3 : doneE b key = fillE b (i : Int) key := by unfold doneE; rw [e5, hF]
      have e4 : doneV b key val = fillV b (i : Int) key val := by unfold doneV; rw [e5, hF]
      rw [e3, e4]
      have HF := Lib.hid hF
      clear PF e1 e2 e3 e4 e5 hO hF
      go_enter Try.func33, Try.ntmps33
      go_wp2_with fail
      refine HPF.out.mono ?_
      rintro e w1 ⟨rfl, hb⟩
      go_wp2_with fail
      refine (HFS.out w1 hb).mono ?_
      rintro e w2 ⟨⟨j, ⟨hi, rfl⟩ | ⟨hi, he⟩⟩, hb2⟩
      rotate_left
      · rw [HF.out] at hi; cases hi
      have hij : i = j := by rw [HF.out] at hi; injection hi
      subst hij
      clear hi
      go_wp2_with fail
      refine (HPL.out i w2 (below_then hb hb2)).mono ?_
      rintro e w3 ⟨A2, c2, rfl, hN⟩
      go_wp2_with fail
      go_ret2
      exact ⟨A2, c2, rfl, ⟨hN.own.mono (below_then hb hb2).size, below_then (below_then hb hb2) hN.below⟩⟩
end Go.Proofs.Ytgcpmdodhnmneab
