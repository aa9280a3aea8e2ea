import Derived.Test.YtgcpmdodhnmneabPage5
import Derived.Test.YtgcpmdodhnmneabIter
import Derived.Shelf.Abstract
import Derived.Shelf.RegionOpen
import Derived.OwnWalkIn
import Derived.TacticsInMore
import Derived.LoopNIn
import Derived.LoopIn
/- The iterators of package page: every, Entries. -/
set_option linter.unusedVariables false
set_option linter.unusedSimpArgs false
namespace Go.Proofs.Ytgcpmdodhnmneab
open Go.RowKit Go.Tm Go.Shelf
set_option maxHeartbeats 400000
set_option maxRecDepth 100000
attribute [local go_sem] Oper.semAt_some

theorem round_in {m m' : Nat} {P : Program} {l l' : Nat} {f : FuncId} {tmps : Array Value} {assign body : Code} {w : World} {R : Ending → World → Prop}
    (h : RoundIn Fence.wide m P l f tmps assign body w R) : RoundIn (Fence.wide.inRound l') m' P l f tmps assign body w R := ⟨trivial, fun c cs _ => h.2 c cs (room_wide _)⟩
theorem round_at {m m' : Nat} {P : Program} {l : Nat} {f : FuncId} {tmps : Array Value} {assign body : Code} {w : World} {R : Ending → World → Prop}
    (h : RoundIn Fence.wide m P l f tmps assign body w R) : RoundIn Fence.wide m' P l f tmps assign body w R := ⟨trivial, fun c cs _ => h.2 c cs (room_wide _)⟩

theorem every1_seq (n Bn : Nat) (K : Nat → Prop) (A : Option Addr) (m c : Nat) (hm : m ≤ 140737488351232) (w : World) (hB : w.cell? ⟨Bn, 0, none⟩ = some (.slice A m c)) :
    SeqO Fence.wide n Try.prog 53 #[.pointer (some ⟨Bn, 0, none⟩)] (fun i : Nat => #[.int .i64 (i : Int)]) K (fun xs => xs = List.range (slotsP m)) (fun pre => pre <+: List.range (slotsP m)) (slotsP m) w := by
  intro l J Jx W hW hJ hJx hY h0
  have hBW : W.cell? ⟨Bn, 0, none⟩ = some (.slice A m c) := (hW.cell (p := ⟨Bn, 0, none⟩) (World.block_lt_of_cell? _ _ hB)).trans hB
  have hS8 := slotsP_le m
  have PS := fun V => slots_any A m c (by omega) V
  obtain ⟨S, hS⟩ : ∃ S, slotsP m = S := ⟨_, rfl⟩
  rw [hS] at hY hS8 PS ⊢
  clear hS
  have HPS := Lib.hid PS
  clear PS hB
  refine callsIn_of_wp Try.func53 rfl trivial ?_ rfl
  simp only [Try.ntmps53, List.size_toArray, List.length_cons, List.length_nil, Nat.reduceAdd, Nat.reduceSub, Array.replicate_succ, Array.replicate_zero, List.push_toArray, List.append_toArray, List.nil_append, List.cons_append]
  gi_wp2
  refine ⟨trivial, fun h => absurd h (by decide), (callsIn_wide.2 (HPS.out _)).mono ?_⟩
  rintro e w' ⟨rfl, rfl⟩
  gi_wp2
  gi_loopw [6] (fun i wr => ∃ k : Nat, k ≤ S ∧ i = .int .i64 k ∧ J (List.range k) wr) (fun i _ => S - (intOf i).toNat)
  case atStart => exact ⟨0, by omega, rfl, h0⟩
  case round =>
    obtain ⟨k, hk, rfl, hJk⟩ := hrel
    by_cases hkt : k < S
    · obtain ⟨fn, tmps, assign, body, hy, hR⟩ := hY (List.range k) k wr hJk (by simpa using hkt)
      have hrs : List.range k ++ [k] = List.range (k + 1) := List.range_succ.symm
      rw [hrs] at hR
      have HR := Lib.hid hR
      have hpre : List.range (k + 1) <+: List.range S := by
        refine ⟨(List.range S).drop (k + 1), ?_⟩
        rw [show List.range (k + 1) = (List.range S).take (k + 1) by rw [List.take_range, Nat.min_eq_left (by omega)], List.take_append_drop]
      have HPR := Lib.hid hpre
      clear hR hY hJk hrs hpre
      try dsimp only at hy
      gi_wp2
      refine ⟨fun h => absurd h (by decide), (round_at HR.out).mono ?_⟩
      rintro e W3 (⟨rfl, hJ3, hk3⟩ | ⟨rfl, hJx3, _⟩)
      · gi_wp2
        go_roundw
        case rel => exact ⟨k + 1, by omega, by go_num, hJ3⟩
        case measure => simp [intOf]; omega
      · gi_wp2
        refine bodyPost_ret (results_none rfl _ _ _) rfl ?_
        exact ⟨⟨_, rfl⟩, .inr ⟨_, HPR.out, hJx3⟩⟩
    · have he : k = S := by omega
      subst he
      clear hY
      gi_wp2
      go_end0
      exact ⟨⟨_, rfl⟩, .inl ⟨_, rfl, hJk⟩⟩

/-- What a page's iterator gives: each used slot, its key, its value. -/
def entL (b : List UInt8) (is : List Nat) : List (Nat × Nat × Nat) := is.filterMap fun (i : Nat) => if usedB b (i : Int) = true then some (i, keyN b i, valN b i) else none
theorem entL_nil (b : List UInt8) : entL b [] = [] := rfl
theorem entL_snoc (b : List UInt8) (is : List Nat) (i : Nat) : entL b (is ++ [i]) = entL b is ++ (if usedB b (i : Int) = true then [(i, keyN b i, valN b i)] else []) := by
  unfold entL
  rw [List.filterMap_append]
  by_cases h : usedB b (i : Int) = true <;> simp [h]
theorem entL_len (b : List UInt8) (is : List Nat) : (entL b is).length ≤ is.length := List.length_filterMap_le _ _
def encE (x : Nat × Nat × Nat) : Array Value := #[.int .i64 (x.1 : Int), .agg #[.int .i64 (x.2.1 : Int), .int .u64 (x.2.2 : Int)]]

theorem every_any (A : Option Addr) (m c : Nat) (w : World) :
    Calls Try.prog 41 #[.slice A m c] w fun e w' => e = .returned (.func (.func 53) #[] #[.pointer (some ⟨w.heap.size, 0, none⟩)]) ∧ w.alloc (.cells #[.slice A m c] 29) = w' := by
  go_enter Try.func41, Try.ntmps41
  go_wp2
  go_ret
  exact ⟨rfl, rfl⟩

theorem entries1_seq (n Be : Nat) (K : Nat → Prop) (hn : 6 ≤ n) (A : Option Addr) (c : Nat) (b : List UInt8) (hl : b.length ≤ 140737488351232) (w : World) (hB : w.cell? ⟨Be, 0, none⟩ = some (.slice A b.length c)) (hb : Rda w A c b) (hBe : K Be) (hAb : ∀ a, A = some a → K a.block) (hn0 : ∀ k, K k → k < w.heap.size) :
    SeqO Fence.wide n Try.prog 40 #[.pointer (some ⟨Be, 0, none⟩)] encE K (fun xs => xs = entL b (List.range (slotsP b.length))) (fun pre => pre <+: entL b (List.range (slotsP b.length))) (slotsP b.length) w := by
  intro l J Jx W hW hJ hJx hY h0
  have hBW : W.cell? ⟨Be, 0, none⟩ = some (.slice A b.length c) := (hW.cell (p := ⟨Be, 0, none⟩) (World.block_lt_of_cell? _ _ hB)).trans hB
  have hbW := hb.below hW
  clear hB hb hW
  have hB1 : ∀ o : Obj, (W.alloc o).cell? ⟨Be, 0, none⟩ = some (.slice A b.length c) := fun o => (((Below.refl W.heap.size W).alloc (Nat.le_refl _) o).cell (p := ⟨Be, 0, none⟩) (World.block_lt_of_cell? _ _ hBW)).trans hBW
  refine callsIn_of_wp_marks Try.func40 rfl trivial ?_ rfl
  simp only [Try.ntmps40, List.size_toArray, List.length_cons, List.length_nil, Nat.reduceAdd, Nat.reduceSub, Array.replicate_succ, Array.replicate_zero, List.push_toArray, List.append_toArray, List.nil_append, List.cons_append]
  gi_wp2
  refine ⟨trivial, fun h => absurd h (by decide), (callsIn_wide.2 (every_any A b.length c _)).mono ?_⟩
  rintro e w' ⟨rfl, rfl⟩
  gi_wp2
  obtain ⟨W2, hW2⟩ : ∃ W2, (W.alloc (.cells #[.func (.yield l) #[] #[]] 77)).alloc (.cells #[.slice A b.length c] 29) = W2 := ⟨_, rfl⟩
  have hs2 : W2.heap.size = W.heap.size + 2 := by rw [← hW2]; simp
  have hWW2 : Below W.heap.size W W2 := by rw [← hW2]; exact ((Below.refl _ _).alloc (Nat.le_refl _) _).alloc (by simp) _
  have cy : W2.cell? ⟨W.heap.size, 0, none⟩ = some (.func (.yield l) #[] #[]) := by rw [← hW2, World.cell?_alloc_lt _ _ _ (by simp), World.cell?_alloc_at _ _ _ _ rfl]; rfl
  have cs : W2.cell? ⟨W.heap.size + 1, 0, none⟩ = some (.slice A b.length c) := by rw [← hW2, World.cell?_alloc_at _ _ _ _ (by simp)]; rfl
  have ce : W2.cell? ⟨Be, 0, none⟩ = some (.slice A b.length c) := (hWW2.cell (p := ⟨Be, 0, none⟩) (World.block_lt_of_cell? _ _ hBW)).trans hBW
  have hb2 := hbW.below hWW2
  have hJ2 : J [] W2 := by rw [← hW2]; exact hJ.alloc _ (hJ.alloc _ h0)
  rw [hW2]
  clear hW2 hB1 hBW hbW h0
  refine rangeO (F := Fence.wide) rfl (by omega) (gf := 53) (lb := #[.pointer (some ⟨W.heap.size + 1, 0, none⟩)]) rfl trivial (enters_of Try.func53 (by kernel_rfl) rfl)
    (every1_seq (n - 1) (W.heap.size + 1) (fun _ => False) A b.length c hl W2 cs) (fun _ h => h.elim) (Below.refl _ _) (fun _ => rfl)
    (fun pre V => J (entL b pre) V ∧ V.cell? ⟨W.heap.size, 0, none⟩ = some (.func (.yield l) #[] #[]) ∧ V.cell? ⟨Be, 0, none⟩ = some (.slice A b.length c) ∧ Rda V A c b)
    (fun k pre V => k = .ret ∧ Jx (entL b pre) V)
    (fun s V V' row hs hg hr => ⟨hJ _ _ _ _ hs.1 hg (fun r e => ⟨by have := (hr r e).1; omega, (hr r e).2⟩), cell_kept hs.2.1 hg (fun r e => (hr r e).2), cell_kept hs.2.2.1 hg (fun r e => (hr r e).2), hs.2.2.2.kept fun b o e j v hj => cell_kept hj hg (fun r e => (hr r e).2)⟩)
    (fun k s V V' row hs hg hr => ⟨hs.1, hJx _ _ _ _ hs.2 hg (fun r e => ⟨by have := (hr r e).1; omega, (hr r e).2⟩)⟩)
    ⟨hJ2, cy, ce, hb2⟩
    (fun x => { tmps := #[.func (.yield l) #[] #[], .pointer (some ⟨Be, 0, none⟩), .pointer (some ⟨W.heap.size, 0, none⟩), .int .i64 (x : Int), undef, undef, undef, .slice A b.length c, .func (.func 53) #[] #[.pointer (some ⟨W.heap.size + 1, 0, none⟩)], .int .i64 (x : Int), undef, undef, undef, undef, undef, undef, undef, undef, undef, undef, undef, undef, undef, undef, undef], defers := [] }) ?assign ?body ?done ?stop
  case assign =>
    intro l' x V K hK
    gi_wp2
    exact hK
  case body =>
    rintro l' pre x V ⟨hJV, hyV, heV, hrV⟩ hlen
    have P1 := slot_any hrV rfl hl (x : Int)
    have hpl : (entL b pre).length < slotsP b.length := Nat.lt_of_le_of_lt (entL_len b pre) hlen
    have hsn := entL_snoc b pre x
    cases hu : usedB b (x : Int) with
    | true =>
      have e3 : slotK b (x : Int) = (keyN b x : Int) := if_pos hu
      have e4 : slotV b (x : Int) = (valN b x : Int) := if_pos hu
      rw [hu, e3, e4] at P1
      rw [if_pos hu] at hsn
      have HP1 := Lib.hid P1
      have HSN := Lib.hid hsn
      clear P1 hsn hu e3 e4
      gi_wp2
      refine ⟨trivial, fun h => absurd h (by decide), (CallsIn.inRound l' (callsIn_wide.2 HP1.out)).mono ?_⟩
      rintro e V1 ⟨rfl, hb1⟩
      have hV2 : Below V.heap.size V (V1.alloc (.cells #[.int .i64 (keyN b x : Int), .int .u64 (valN b x : Int)] 64)) := hb1.alloc hb1.size _
      have hJV2 : J (entL b pre) (V1.alloc (.cells #[.int .i64 (keyN b x : Int), .int .u64 (valN b x : Int)] 64)) := hJ _ _ _ none hJV (below_grown hV2 none) (fun r e => by cases e)
      have hyV2 : (V1.alloc (.cells #[.int .i64 (keyN b x : Int), .int .u64 (valN b x : Int)] 64)).cell? ⟨W.heap.size, 0, none⟩ = some (.func (.yield l) #[] #[]) := (hV2.cell (p := ⟨W.heap.size, 0, none⟩) (World.block_lt_of_cell? _ _ hyV)).trans hyV
      have heV2 : (V1.alloc (.cells #[.int .i64 (keyN b x : Int), .int .u64 (valN b x : Int)] 64)).cell? ⟨Be, 0, none⟩ = some (.slice A b.length c) := (hV2.cell (p := ⟨Be, 0, none⟩) (World.block_lt_of_cell? _ _ heV)).trans heV
      have hrV2 := hrV.below hV2
      obtain ⟨fn, tmps, assign, body, hy, hR⟩ := hY (entL b pre) (x, keyN b x, valN b x) _ hJV2 hpl
      rw [← HSN.out] at hR
      have HR := Lib.hid hR
      have HE2 := Lib.hid heV2
      have HJ2 := Lib.hid hJV2
      have HV2 := Lib.hid hV2
      have HY2 := Lib.hid hyV2
      have HRV2 := Lib.hid hrV2
      clear hR hJV2 heV2 hV2 hJV hyV heV hrV hrV2
      unfold encE at hy
      dsimp only at hy
      gi_wp2
      refine ⟨fun h => absurd h (by decide), (round_in HR.out).mono ?_⟩
      have hzV := HV2.out.size
      have lY := World.block_lt_of_cell? _ _ HY2.out
      have lE := World.block_lt_of_cell? _ _ HE2.out
      rintro e V3 (⟨rfl, hJ3, hk3⟩ | ⟨rfl, hJ3, hk3⟩)
      all_goals
        have hz3 := Nat.le_trans hzV hk3.size
        have keep : ∀ k, k < V.heap.size → (K k ∨ W.heap.size ≤ k) → V3.heap[k]? = V.heap[k]? := fun k hk hc => (hk3.block k (Nat.lt_of_lt_of_le hk hzV) hc).trans (HV2.out.block k hk)
        have kf : KeepsFrom W2.heap.size V V3 := ⟨hz3, fun k o hB hk _ => (keep k (Array.getElem?_eq_some_iff.1 hk).1 (.inr (by omega))).trans hk⟩
        have kr : RK (fun _ => False) (W2.heap.size + 2) V V3 := ⟨hz3, fun k hk hc => keep k hk (.inr (by rcases hc with hc | hc; exact hc.elim; omega))⟩
        have iy : V3.cell? ⟨W.heap.size, 0, none⟩ = some (.func (.yield l) #[] #[]) := (World.cell?_of_block (a := ⟨W.heap.size, 0, none⟩) (hk3.block _ lY (.inr (Nat.le_refl _)))).trans HY2.out
        have ie : V3.cell? ⟨Be, 0, none⟩ = some (.slice A b.length c) := (World.cell?_of_block (a := ⟨Be, 0, none⟩) (hk3.block _ lE (.inl hBe))).trans HE2.out
        have ir : Rda V3 A c b := HRV2.out.kept fun g o e j v hj => (World.cell?_of_block (a := ⟨g, j, none⟩) (hk3.block _ (World.block_lt_of_cell? _ _ hj) (.inl (show K g from hAb ⟨g, o, none⟩ e)))).trans hj
        have KF := Lib.hid kf
        have KR := Lib.hid kr
        have IY := Lib.hid iy
        have IE := Lib.hid ie
        have IR := Lib.hid ir
        have IJ := Lib.hid hJ3
        clear keep kf kr iy ie ir hJ3 hk3 hy
      · gi_wp2
        exact ⟨KF.out, KR.out, IJ.out, IY.out, IE.out, IR.out⟩
      · gi_wp2
        exact ⟨KF.out, KR.out, rfl, IJ.out⟩
    | false =>
      have e3 : slotK b (x : Int) = 0 := if_neg (by rw [hu]; decide)
      have e4 : slotV b (x : Int) = 0 := if_neg (by rw [hu]; decide)
      rw [hu, e3, e4] at P1
      rw [if_neg (by rw [hu]; decide), List.append_nil] at hsn
      have HP1 := Lib.hid P1
      have HSN := Lib.hid hsn
      clear P1 hsn hu e3 e4
      gi_wp2
      refine ⟨trivial, fun h => absurd h (by decide), (CallsIn.inRound l' (callsIn_wide.2 HP1.out)).mono ?_⟩
      rintro e V1 ⟨rfl, hb1⟩
      have hV2 : Below V.heap.size V (V1.alloc (.cells #[.int .i64 0, .int .u64 0] 64)) := hb1.alloc hb1.size _
      have kf : KeepsFrom W2.heap.size V (V1.alloc (.cells #[.int .i64 0, .int .u64 0] 64)) := ⟨hV2.size, fun k o hB hk _ => (hV2.block k (Array.getElem?_eq_some_iff.1 hk).1).trans hk⟩
      have kr : RK (fun _ => False) (W2.heap.size + 2) V (V1.alloc (.cells #[.int .i64 0, .int .u64 0] 64)) := ⟨hV2.size, fun k hk hc => hV2.block k hk⟩
      have iy := (hV2.cell (p := ⟨W.heap.size, 0, none⟩) (World.block_lt_of_cell? _ _ hyV)).trans hyV
      have ie := (hV2.cell (p := ⟨Be, 0, none⟩) (World.block_lt_of_cell? _ _ heV)).trans heV
      have ir := hrV.below hV2
      have ij : J (entL b (pre ++ [x])) (V1.alloc (.cells #[.int .i64 0, .int .u64 0] 64)) := by rw [HSN.out]; exact hJ _ _ _ none hJV (below_grown hV2 none) (fun r e => by cases e)
      have KF := Lib.hid kf
      have KR := Lib.hid kr
      have IY := Lib.hid iy
      have IE := Lib.hid ie
      have IR := Lib.hid ir
      have IJ := Lib.hid ij
      clear kf kr iy ie ir ij hJV hyV heV hrV hV2
      gi_wp2
      refine ⟨fun _ h => (by cases h), ?_⟩
      gi_wp2
      exact ⟨KF.out, KR.out, IJ.out, IY.out, IE.out, IR.out⟩
  case done =>
    rintro D xs V hD rfl ⟨hJV, _, _, _⟩ hK
    gi_wp2
    refine ⟨by simp, .inl ⟨_, _, rfl, run_takeDeferred hK, ?_⟩⟩
    refine ⟨_, results_none rfl _ _ _, ⟨_, rfl⟩, .inl ⟨_, rfl, hJ.putObj _ hJV (by omega) hK rfl⟩⟩
  case stop =>
    rintro D k pre V hD hp ⟨rfl, hJV⟩ hK
    gi_wp2
    refine ⟨by simp, .inl ⟨_, _, rfl, run_takeDeferred hK, ?_⟩⟩
    refine ⟨_, results_none rfl _ _ _, ⟨_, rfl⟩, .inr ⟨_, ?_, hJx.putObj _ hJV (by omega) hK rfl⟩⟩
    obtain ⟨t, ht⟩ := hp
    exact ⟨entL b t, by rw [← ht]; simp [entL, List.filterMap_append]⟩
end Go.Proofs.Ytgcpmdodhnmneab
