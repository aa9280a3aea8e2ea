import Derived.Test.YtgcpmdodhnmneaaDoorLaw4
import Derived.Test.YtgcpmdodhnmneaaDoorRefEnts
import Derived.Test.YtgcpmdodhnmneaaDoorBuilt
import Derived.Test.YtgcpmdodhnmneaaDoorPool
import Derived.Deep.QuietTactic
import Derived.BigQuiet
/- 'answers' and 'alike' of the laws of layer 4. -/
set_option linter.unusedVariables false
set_option linter.unusedSimpArgs false
namespace Go.Proofs.YtgcpmdodhnmneaaDoor
open Go.RowKit Go.Tm
set_option maxHeartbeats 400000
set_option maxRecDepth 100000

/-- The four answers to a page. -/
def ans4 (b : List UInt8) (num i key val : Int) : List (List UInt8) := [makeV num 1, stampV b num 9, fillV b i key val, freeV b i]
/-- What 'answers' leaves: a row of four slices, each new memory, apart from one another. -/
structure Ans4 (w w' : World) (g : Nat) (rs : List PRow) (ls : List (List UInt8)) : Prop where
  row : RowC w' g 22 (rs.map pv)
  pool : Pool w' w.heap.size 5 rs
  lists : rs.map (fun r => r.2.2) = ls
  below : Below w.heap.size w w'
  new : w.heap.size ≤ g

set_option maxHeartbeats 800000 in
theorem answers4_any {w : World} (hT : Tb w) {A : Option Addr} {n c : Nat} {b : List UInt8} (h : Rda w A c b) (hn : n = b.length) (hl : b.length ≤ 140737488351232) (num i key val : Int) (hv0 : 0 ≤ val) (hv1 : val < 18446744073709551616) :
    Calls Tryd.prog 34 #[.slice A n c, .int .i64 num, .int .i64 i, .agg #[.int .i64 key, .int .u64 val]] w fun e w' => ∃ g rs, e = .returned (.slice (some ⟨g, 0, none⟩) 4 4) ∧ Ans4 w w' g rs (ans4 b num i key val) := by
  subst hn
  have hbx := (Below.refl w.heap.size w).alloc (Nat.le_refl _) (.cells #[.int .i64 key, .int .u64 val] 53)
  have hX : RowC (w.alloc (.cells #[.int .i64 key, .int .u64 val] 53)) w.heap.size 53 [.int .i64 key, .int .u64 val] := heap_alloc_new _ _
  have H3 := Lib.hid (fun (W : World) (hr : Rda W A c b) => fill_any hr rfl hl i key val hv0 hv1)
  go_enter Tryd.func34, Tryd.ntmps34
  go_wp2_with fail
  refine (make_any (hT.below hbx) num 1).mono ?_
  rintro e w1 ⟨A1, c1, rfl, hN⟩
  have P1 := (Pool.nil _ w.heap.size 5).push hN (by simp)
  have bb1 := below_then hbx hN.below
  have hX1 := hX.below hN.below
  clear hN hX hbx
  go_wp2_with fail
  refine (stamp_any (hT.below bb1) (h.below bb1) rfl hl num 9).mono ?_
  rintro e w2 ⟨A2, c2, rfl, hN⟩
  have P2 := P1.push hN bb1.size
  have bb2 := below_then bb1 hN.below
  have hX2 := hX1.below hN.below
  clear hN hX1 bb1 P1
  have x0 := hX2.cell (j := 0) rfl
  have x1 := hX2.cell (j := 1) rfl
  go_wp2_with fail
  refine (H3.out _ (h.below bb2)).mono ?_
  rintro e w3 ⟨A3, c3, rfl, hN⟩
  have P3 := P2.push hN bb2.size
  have bb3 := below_then bb2 hN.below
  clear hN hX2 bb2 P2 x0 x1
  go_wp2_with fail
  refine (free_any (h.below bb3) rfl hl i).mono ?_
  rintro e w4 ⟨A4, c4, rfl, hN⟩
  have P4 := P3.push hN bb3.size
  have bb4 := below_then bb3 hN.below
  clear hN bb3 P3
  simp only [List.cons_append, List.nil_append] at P4
  have P5 := P4.below ((Below.refl w4.heap.size w4).alloc (Nat.le_refl _) (.cells #[.slice A1 (makeV num 1).length c1, .slice A2 (stampV b num 9).length c2, .slice A3 (fillV b i key val).length c3, .slice A4 (freeV b i).length c4] 22))
  have bb5 := bb4.alloc bb4.size (.cells #[.slice A1 (makeV num 1).length c1, .slice A2 (stampV b num 9).length c2, .slice A3 (fillV b i key val).length c3, .slice A4 (freeV b i).length c4] 22)
  have hz := bb4.size
  have HP5 := Lib.hid P5
  have HB5 := Lib.hid bb5
  clear P4 bb4 P5 bb5
  go_wp2_with fail
  go_ret
  exact ⟨_, [(A1, c1, makeV num 1), (A2, c2, stampV b num 9), (A3, c3, fillV b i key val), (A4, c4, freeV b i)], rfl, ⟨heap_alloc_new w4 _, HP5.out, rfl, HB5.out, hz⟩⟩

/-- A slice of used slots is read as L. -/
structure UsedR (w : World) (A : Option Addr) (c : Nat) (L : List (Nat × Nat × Nat)) : Prop where
  cap : L.length ≤ c
  cells : ∀ (q : Nat) (x : Nat × Nat × Nat), L[q]? = some x → ∃ g, A = some ⟨g, 0, none⟩ ∧ w.cell? ⟨g, q * 3, none⟩ = some (.int .i64 (x.1 : Int)) ∧ w.cell? ⟨g, q * 3 + 1, none⟩ = some (.int .i64 (x.2.1 : Int)) ∧ w.cell? ⟨g, q * 3 + 2, none⟩ = some (.int .u64 (x.2.2 : Int))
theorem UsedR.of_own {w : World} {base : Nat} {T : TypeId} {v : Value} {L : List (Nat × Nat × Nat)} (h : w.ownsRow base T 3 v L.length (useC L)) : ∃ A c, v = .slice A L.length c ∧ UsedR w A c L ∧ ∀ a, A = some a → base ≤ a.block ∧ a.block < w.heap.size := by
  rcases h.2 with ⟨e1, e2⟩ | ⟨g, cap, cur, e1, hg, hblk, hnc, _, hsz, htk⟩
  · exact ⟨none, 0, by rw [e1, e2], ⟨by omega, fun q x hq => by have := (List.getElem?_eq_some_iff.1 hq).1; omega⟩, fun a ha => by cases ha⟩
  · refine ⟨some ⟨g, 0, none⟩, cap, e1, ⟨hnc, fun q x hq => ?_⟩, fun a ha => ?_⟩
    · have hu := useC_get _ _ _ hq
      have hcell : ∀ (j : Nat) (y : Value), (useC L)[j]? = some y → w.cell? ⟨g, j, none⟩ = some y := fun j y hj => by
        rw [← htk, List.getElem?_take] at hj
        split at hj
        · unfold World.cell?
          rw [hblk]
          simpa using hj
        · cases hj
      exact ⟨g, rfl, hcell _ _ hu.1, hcell _ _ hu.2.1, hcell _ _ hu.2.2⟩
    · injection ha with ha
      subst ha
      exact ⟨hg, (Array.getElem?_eq_some_iff.1 hblk).1⟩
theorem UsedR.kept {w w' : World} {A : Option Addr} {c : Nat} {L : List (Nat × Nat × Nat)} (h : UsedR w A c L) {S : Nat → Prop} (hk : KeptBut S w w') (hS : ∀ a, A = some a → ¬ S a.block) : UsedR w' A c L :=
  ⟨h.cap, fun q x hq => by
    obtain ⟨g, e, a, b, d⟩ := h.cells q x hq
    exact ⟨g, e, hk.cell a (hS ⟨g, 0, none⟩ e), hk.cell b (hS ⟨g, 0, none⟩ e), hk.cell d (hS ⟨g, 0, none⟩ e)⟩⟩
theorem UsedR.below {w w' : World} {A : Option Addr} {c : Nat} {L : List (Nat × Nat × Nat)} (h : UsedR w A c L) (hb : Below w.heap.size w w') : UsedR w' A c L :=
  ⟨h.cap, fun q x hq => by
    obtain ⟨g, e, a, b, d⟩ := h.cells q x hq
    exact ⟨g, e, (hb.cell (p := ⟨g, _, none⟩) (World.block_lt_of_cell? _ _ a)).trans a, (hb.cell (p := ⟨g, _, none⟩) (World.block_lt_of_cell? _ _ b)).trans b, (hb.cell (p := ⟨g, _, none⟩) (World.block_lt_of_cell? _ _ d)).trans d⟩⟩

theorem alike_yes {w : World} {A B : Option Addr} {c d : Nat} {L : List (Nat × Nat × Nat)} (hA : UsedR w A c L) (hB : UsedR w B d L) (hL : L.length ≤ 8) :
    Calls Tryd.prog 36 #[.slice A L.length c, .slice B L.length d] w fun e w' => e = .returned (.bool true) ∧ Below w.heap.size w w' := by
  have hc := hA.cap
  have hd := hB.cap
  have HA := Lib.hid hA.cells
  have HB := Lib.hid hB.cells
  have HG : Hid (∀ q, q < L.length → ∃ x, L[q]? = some x) := Lib.hid fun q hq => ⟨_, List.getElem?_eq_getElem hq⟩
  obtain ⟨M, hM⟩ : ∃ M, L.length = M := ⟨_, rfl⟩
  rw [hM] at HG hL hc hd ⊢
  clear hM hA hB
  go_enter Tryd.func36, Tryd.ntmps36
  go_wp2_with fail
  go_loopw [5] (fun i wr => ∃ k : Nat, k ≤ M ∧ i = .int .i64 k ∧ Below w.heap.size w wr) (fun i _ => M - (intOf i).toNat)
  case atStart => exact ⟨0, by omega, rfl, Below.refl _ _⟩
  case round =>
    obtain ⟨k, hk, rfl, hb⟩ := hrel
    by_cases hkt : k < M
    · obtain ⟨x, hx⟩ := HG.out k hkt
      obtain ⟨g, rfl, a0, a1, a2⟩ := HA.out k x hx
      obtain ⟨g', rfl, b0, b1, b2⟩ := HB.out k x hx
      have a0' := (hb.cell (p := ⟨g, _, none⟩) (World.block_lt_of_cell? _ _ a0)).trans a0
      have a1' := (hb.cell (p := ⟨g, _, none⟩) (World.block_lt_of_cell? _ _ a1)).trans a1
      have a2' := (hb.cell (p := ⟨g, _, none⟩) (World.block_lt_of_cell? _ _ a2)).trans a2
      have b0' := (hb.cell (p := ⟨g', _, none⟩) (World.block_lt_of_cell? _ _ b0)).trans b0
      have b1' := (hb.cell (p := ⟨g', _, none⟩) (World.block_lt_of_cell? _ _ b1)).trans b1
      have b2' := (hb.cell (p := ⟨g', _, none⟩) (World.block_lt_of_cell? _ _ b2)).trans b2
      have m0 : (0 : Int) ≤ (k : Int) := by omega
      have m1 : (k : Int) < (M : Int) := by omega
      have HBB := Lib.hid hb
      clear a0 a1 a2 b0 b1 b2 hx hb
      go_wp2_with fail
      go_quiet (fail)
      go_wp2_with fail
      go_roundw
      case rel => exact ⟨k + 1, by omega, by go_num, below_drewN HBB.out _⟩
      case measure => simp [intOf]; omega
    · have he : k = M := by omega
      subst he
      go_wp2_with fail
      go_ret
      exact ⟨rfl, hb⟩
end Go.Proofs.YtgcpmdodhnmneaaDoor
