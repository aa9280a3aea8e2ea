import Derived.Test.YtgcpmdodhnmneabPlays
/- HomePlays: outside, tells. -/
set_option linter.unusedVariables false
set_option linter.unusedSimpArgs false
namespace Go.Proofs.Ytgcpmdodhnmneab
open Go.RowKit Go.Tm
set_option maxHeartbeats 400000
set_option maxRecDepth 100000

theorem outside_any {w : World} {A B : Option Addr} {N c d : Nat} {a b : List UInt8} (ha : Rda w A c a) (hb : Rda w B d b) (hn : a.length = N) (hm : b.length = N) (hN : N ≤ 152) {s : Nat} (hs : s < 8)
    (hout : ∀ i, i < N → (i < 16 + 16 * s ∨ 32 + 16 * s ≤ i) → a.getD i 0 = b.getD i 0) :
    Calls Try.prog 23 #[.slice A N c, .slice B N d, .int .i64 (s : Int)] w fun e w' => e = .returned (.bool true) ∧ Below w.heap.size w w' := by
  have HO := Lib.hid hout
  have hca := ha.cap
  have hcb := hb.cap
  rw [hn] at hca
  rw [hm] at hcb
  have HAC : Hid (∀ W, Below w.heap.size w W → ∀ i, i < N → ∃ g o, A = some ⟨g, o, none⟩ ∧ W.cell? ⟨g, o + i, none⟩ = some (.int .u8 ((a.getD i 0).toNat : Int))) := Lib.hid fun W hW i hi => by
    obtain ⟨g, o, e, h⟩ := (ha.below hW).cells (by omega)
    exact ⟨g, o, e, h i (by omega)⟩
  have HBC : Hid (∀ W, Below w.heap.size w W → ∀ i, i < N → ∃ g o, B = some ⟨g, o, none⟩ ∧ W.cell? ⟨g, o + i, none⟩ = some (.int .u8 ((b.getD i 0).toNat : Int))) := Lib.hid fun W hW i hi => by
    obtain ⟨g, o, e, h⟩ := (hb.below hW).cells (by omega)
    exact ⟨g, o, e, h i (by omega)⟩
  clear hout ha hb
  go_enter Try.func23, Try.ntmps23
  go_wp2_with fail
  go_loopw [7] (fun i wr => ∃ k : Nat, k ≤ N ∧ i = .int .i64 k ∧ Below w.heap.size w wr) (fun i _ => N - (intOf i).toNat)
  case atStart => exact ⟨0, by omega, rfl, Below.refl _ _⟩
  case round =>
    obtain ⟨k, hk, rfl, hbb⟩ := hrel
    obtain ⟨wo, rfl⟩ : ∃ wo : World, wo = wr := ⟨_, rfl⟩
    by_cases hkt : k < N
    · obtain ⟨ga, oa, rfl, za⟩ := HAC.out wo hbb k hkt
      obtain ⟨gb, ob, rfl, zb⟩ := HBC.out wo hbb k hkt
      have HBB := Lib.hid hbb
      have m0 : (0 : Int) ≤ (k : Int) := by omega
      have m1 : (k : Int) < (N : Int) := by omega
      have w1 : IntKind.i64.wrap (16 * (s : Int)) = 16 * (s : Int) := IntWalk.i64_in _ (by omega)
      have w2 : IntKind.i64.wrap (16 + 16 * (s : Int)) = 16 + 16 * (s : Int) := IntWalk.i64_in _ (by omega)
      have w3 : IntKind.i64.wrap (32 + 16 * (s : Int)) = 32 + 16 * (s : Int) := IntWalk.i64_in _ (by omega)
      obtain ⟨xa, hxa⟩ : ∃ x : Int, ((a.getD k 0).toNat : Int) = x := ⟨_, rfl⟩
      obtain ⟨xb, hxb⟩ : ∃ x : Int, ((b.getD k 0).toNat : Int) = x := ⟨_, rfl⟩
      rw [hxa] at za
      rw [hxb] at zb
      by_cases h1 : k < 16 + 16 * s
      · have hx : xb = xa := by rw [← hxa, ← hxb, HO.out k hkt (.inl h1)]
        subst hx
        have d1 : decide ((k : Int) < 16 + 16 * (s : Int)) = true := decide_eq_true (by omega)
        clear h1 hxa hxb hbb
        go_wp2_with fail
        go_quiet (fail)
        clear w1 w2 w3
        go_wp2_with fail
        go_roundw
        case rel => exact ⟨k + 1, by omega, by go_num, below_drewN HBB.out _⟩
        case measure => simp [intOf]; omega
      · by_cases h2 : 32 + 16 * s ≤ k
        · have hx : xb = xa := by rw [← hxa, ← hxb, HO.out k hkt (.inr h2)]
          subst hx
          have d1 : decide ((k : Int) < 16 + 16 * (s : Int)) = false := decide_eq_false (by omega)
          have d2 : decide (32 + 16 * (s : Int) ≤ (k : Int)) = true := decide_eq_true (by omega)
          clear h1 h2 hxa hxb hbb
          go_wp2_with fail
          go_quiet (fail)
          clear w1 w2 w3
          go_wp2_with fail
          go_roundw
          case rel => exact ⟨k + 1, by omega, by go_num, below_drewN HBB.out _⟩
          case measure => simp [intOf]; omega
        · have d1 : decide ((k : Int) < 16 + 16 * (s : Int)) = false := decide_eq_false (by omega)
          have d2 : decide (32 + 16 * (s : Int) ≤ (k : Int)) = false := decide_eq_false (by omega)
          clear h1 h2 hxa hxb hbb
          go_wp2_with fail
          go_quiet (fail)
          clear w1 w2 w3
          go_wp2_with fail
          go_roundw
          case rel => exact ⟨k + 1, by omega, by go_num, below_drewN HBB.out _⟩
          case measure => simp [intOf]; omega
    · have he : k = N := by omega
      subst he
      go_wp2_with fail
      go_ret
      exact ⟨rfl, hbb⟩
/-- Outside of a slot nothing has turned. -/
theorem outside_lay {n : Nat} {b r : List UInt8} (h : IsPage n b) {s : Nat} (hs : s < n) (hr : r.length = 16) : ∀ i, i < b.length → (i < 16 + 16 * s ∨ 32 + 16 * s ≤ i) → b.getD i 0 = (layL b (16 + 16 * s) r).getD i 0 := fun i _ hi =>
  (layL_outside b r (16 + 16 * s) i (by have := h.fits hs; omega) (by omega)).symm

theorem spot_tells {n : Nat} {b : List UInt8} {L : List Hd} (h : Ledger n b L) (key : Int) : findB b key = decide (0 ≤ spotI L key) := by
  unfold spotI
  cases hs : spotO L key with
  | some i =>
    obtain ⟨e, he, hk⟩ := spot_some hs
    rw [← hk, (h.found (List.mem_of_getElem? he)).2.1]
    exact (decide_eq_true (by simp)).symm
  | none =>
    rw [(h.lost (spot_none hs)).2]
    exact (decide_eq_false (by simp)).symm

theorem tells_any {w : World} {A B : Option Addr} {N n c d : Nat} {b : List UInt8} {L : List Hd} (hb : Rda w A c b) (hN : b.length = N) (h : Ledger n b L) (hL : HoldR w B d L) (key : Int) :
    Calls Try.prog 25 #[.slice A N c, .slice B L.length d, .int .i64 key] w fun e w' => e = .returned (.bool true) ∧ Below w.heap.size w w' := by
  have hn8 := h.page.hi
  have hL8 : L.length ≤ 8 := Nat.le_trans h.small hn8
  have hNl := h.page.len
  have HF := Lib.hid (fun (W : World) (hW : Below w.heap.size w W) (k : Int) => find_any (hb.below hW) (n := N) hN.symm (by omega) k)
  have HV := Lib.hid (fun (W : World) (hW : Below w.heap.size w W) (k : Int) => value_any (hb.below hW) (n := N) hN.symm (by omega) k)
  have HS := Lib.hid (fun (W : World) (hW : Below w.heap.size w W) => spot_any (hL.below hW) hL8 key)
  have HX := Lib.hid (fun (q : Nat) (e : Hd) (he : L[q]? = some e) => h.found (List.mem_of_getElem? he))
  have HT := Lib.hid (spot_tells h key)
  have HC := Lib.hid (fun (W : World) (hW : Below w.heap.size w W) => (hL.below hW).cells)
  have HG : Hid (∀ k, k < L.length → L[k]? = some (L.getD k (0, 0, 0))) := Lib.hid fun k hk => by simp [List.getD, hk]
  have hcap := hL.cap
  obtain ⟨M, hM⟩ : ∃ M, L.length = M := ⟨_, rfl⟩
  rw [hM] at HG hL8 HS hcap ⊢
  clear hM h hL hb hNl hN
  go_enter Try.func25, Try.ntmps25
  go_wp2_with fail
  go_loopw [7, 8, 9, 10, 11] (fun i _ _ _ _ wr => ∃ k : Nat, k ≤ M ∧ i = .int .i64 k ∧ Below w.heap.size w wr) (fun i _ _ _ _ _ => M - (intOf i).toNat)
  case atStart => exact ⟨0, by omega, rfl, Below.refl _ _⟩
  case round =>
    obtain ⟨k, hk, rfl, hbb⟩ := hrel
    obtain ⟨wo, rfl⟩ : ∃ wo : World, wo = wr := ⟨_, rfl⟩
    by_cases hkt : k < M
    · have hx := HX.out k _ (HG.out k hkt)
      obtain ⟨f1, f2, f3, _⟩ := hx
      obtain ⟨g, he, a0, a1, a2, _⟩ := HC.out wo hbb k _ (HG.out k hkt)
      obtain ⟨⟨ek, ev, es⟩, hee⟩ : ∃ e, L.getD k (0, 0, 0) = e := ⟨_, rfl⟩
      rw [hee] at f1 f2 f3 a0 a1 a2
      have P1 := HF.out wo hbb ek
      rw [f1, f2] at P1
      have HP1 := Lib.hid P1
      have P2 := fun W hW => HV.out W hW ek
      rw [f3, f2] at P2
      have HP2 := Lib.hid P2
      have m0 : (0 : Int) ≤ (k : Int) := by omega
      have m1 : (k : Int) < (M : Int) := by omega
      subst he
      clear P1 P2 f1 f2 f3 hee
      go_wp2_with fail
      refine HP1.out.mono ?_
      rintro e w1 ⟨rfl, hb1⟩
      have bb1 := below_then hbb hb1
      have c0 := (hb1.cell (p := ⟨g, k * 3, none⟩) (World.block_lt_of_cell? _ _ a0)).trans a0
      have c1 := (hb1.cell (p := ⟨g, k * 3 + 1, none⟩) (World.block_lt_of_cell? _ _ a1)).trans a1
      have c2 := (hb1.cell (p := ⟨g, k * 3 + 2, none⟩) (World.block_lt_of_cell? _ _ a2)).trans a2
      clear a0 a1 a2 hb1 hbb
      go_wp2_with fail
      refine (HP2.out _ bb1).mono ?_
      rintro e w2 ⟨rfl, hb2⟩
      have bb2 := below_then bb1 hb2
      have e0 := (hb2.cell (p := ⟨g, k * 3, none⟩) (World.block_lt_of_cell? _ _ c0)).trans c0
      have e1 := (hb2.cell (p := ⟨g, k * 3 + 1, none⟩) (World.block_lt_of_cell? _ _ c1)).trans c1
      have e2 := (hb2.cell (p := ⟨g, k * 3 + 2, none⟩) (World.block_lt_of_cell? _ _ c2)).trans c2
      have HB2 := Lib.hid bb2
      clear c0 c1 c2 hb2 bb1 bb2
      go_wp2_with fail
      go_roundw
      case rel => exact ⟨k + 1, by omega, by go_num, HB2.out⟩
      case measure => simp [intOf]; omega
    · have he : k = M := by omega
      subst he
      have P1 := HF.out wo hbb key
      have P2 := fun W hW => HV.out W hW key
      rw [HT.out] at P1 P2
      obtain ⟨sp, hsp⟩ : ∃ sp, spotI L key = sp := ⟨_, rfl⟩
      rw [hsp] at P1 P2 HS
      have HP1 := Lib.hid P1
      have HP2 := Lib.hid P2
      clear P1 P2 hsp
      go_wp2_with fail
      refine HP1.out.mono ?_
      rintro e w1 ⟨rfl, hb1⟩
      have bb1 := below_then hbb hb1
      go_wp2_with fail
      refine (HP2.out _ bb1).mono ?_
      rintro e w2 ⟨rfl, hb2⟩
      have bb2 := below_then bb1 hb2
      go_wp2_with fail
      refine (HS.out _ bb2).mono ?_
      rintro e wx ⟨rfl, rfl⟩
      go_wp2_with fail
      go_ret
      exact ⟨by simp, bb2⟩
end Go.Proofs.Ytgcpmdodhnmneab
