import Derived.Test.YtapoknpakleiiaaDoorDisk1
/- The contracts of package disk: grounds that are made. -/
set_option linter.unusedVariables false
set_option linter.unusedSimpArgs false
namespace Go.Proofs.YtapoknpakleiiaaDoor
open Go.RowKit Go.Tm
set_option maxHeartbeats 400000
set_option maxRecDepth 100000

/-- A ground that a call has made. -/
structure NewG (w w' : World) (χ χ' : Col) (j t g : Nat) (vs : List Value) (rows : List (List UInt8)) : Prop where
  ground : GroundK w' χ' j t g vs rows rows.length
  below : Below w.heap.size w w'
  ext : Ext w.heap.size χ χ'
  new : ∀ q, w.heap.size ≤ q → (χ' q).1 = j
theorem made_rows (n : Nat) : madeCells (Value.slice none 0 0).cells (n * 1) = (List.replicate n (Value.slice none 0 0)).toArray := by
  rw [Nat.mul_one]
  exact made_one _ n
theorem paint_new1 {N : Nat} {χ : Col} {j t : Nat} (M : Nat) (h : ∀ q, M ≤ q → (χ q).1 = j) : ∀ q, M ≤ q → (paint N χ (j, t) q).1 = j := fun q hq => by
  unfold paint
  split
  · exact h q hq
  · rfl

theorem dblank_any {w : World} (P K : Nat) (M : Int) (p1 : P ≤ 16) (k1 : K ≤ 8) (χ : Col) (j t : Nat) : Calls Tryd.prog 52 #[.agg #[.int .i64 P, .int .i64 K, .int .i64 M]] w fun e w' =>
    ∃ g vs χ', e = .returned (.slice (some ⟨g, 0, none⟩) (P + 3) (P + 3)) ∧ NewG w w' χ χ' j t g vs (blankR P K) := by
  have HS := Lib.hid (fun (W : World) (i : Nat) => size_any (w := W) P K M k1 i)
  have hb0 := (Below.refl w.heap.size w).alloc (Nat.le_refl _) (.cells #[.int .i64 P, .int .i64 K, .int .i64 M] 50)
  have hR0 : RowC (w.alloc (.cells #[.int .i64 P, .int .i64 K, .int .i64 M] 50)) w.heap.size 50 [.int .i64 P, .int .i64 K, .int .i64 M] := heap_alloc_new _ _
  have HB : Hid ((blankR P K).length = P + 3 ∧ ∀ i, i < P + 3 → (blankR P K)[i]? = some (zeroL (sizeD P K i))) := Lib.hid ⟨(blankR_ok P K).len, fun i hi => blankR_get hi⟩
  obtain ⟨rows, hrows⟩ : ∃ rows, blankR P K = rows := ⟨_, rfl⟩
  rw [hrows] at HB ⊢
  clear hrows
  have HM := Lib.hid (made_rows (P + 3))
  go_enter Tryd.func52, Tryd.ntmps52
  go_wp2_with (with_reducible refine wpList_makeRow rfl _ _ rfl Tryd.underlying96 (z := .slice none 0 0) (size := 1) (bytes := 24) (by kernel_rfl) (P + 3) rfl rfl (by omega) (by omega) (by omega) (by omega) _ HM.out ?_)
  intro w1 hR1 hb1
  have hg1 : (w.alloc (.cells #[.int .i64 P, .int .i64 K, .int .i64 M] 50)).heap.size = w.heap.size + 1 := by simp
  have hb1' : Below w.heap.size w w1 := below_then hb0 (by rw [hg1]; exact hb1)
  have hS1 : RowC w1 w.heap.size 50 [.int .i64 P, .int .i64 K, .int .i64 M] := (hb1.block w.heap.size (by omega)).trans hR0
  have hG1 : GroundK w1 (paint w.heap.size χ (j, t)) j t (w.heap.size + 1) (List.replicate (P + 3) (.slice none 0 0)) rows 0 :=
    ⟨paint_new (by omega), hR1, by rw [List.length_replicate, HB.out.1], fun i hi => by omega⟩
  obtain ⟨vs0, hvs0⟩ : ∃ vs0, List.replicate (P + 3) (Value.slice none 0 0) = vs0 := ⟨_, rfl⟩
  rw [hvs0] at hG1 hR1
  have hp3 : (0 : Int) ≤ (P : Int) + 3 := by omega
  clear hb0 hR0 hb1 hg1 HM hvs0 hR1
  go_wp2_with fail
  go_loopw [4, 11] (fun _ i wr => ∃ (k : Nat) (χ' : Col) (vs : List Value), k ≤ P + 3 ∧ i = .int .i64 k ∧ GroundK wr χ' j t (w.heap.size + 1) vs rows k ∧ Below w.heap.size w wr ∧ Ext w.heap.size χ χ' ∧ (∀ q, w.heap.size ≤ q → (χ' q).1 = j) ∧ RowC wr w.heap.size 50 [.int .i64 P, .int .i64 K, .int .i64 M]) (fun _ i _ => P + 3 - (intOf i).toNat)
  case atStart => exact ⟨0, _, vs0, by omega, rfl, hG1, hb1', paint_ext _ _ _, fun q hq => by rw [paint_new hq], hS1⟩
  case round =>
    obtain ⟨k, χ', vs, hk, rfl, hG, hb, hx, hn, hS⟩ := hrel
    obtain ⟨wo, rfl⟩ : ∃ wo : World, wo = wr := ⟨_, rfl⟩
    by_cases hkt : k < P + 3
    · have m0 : (0 : Int) ≤ (k : Int) := by omega
      have m1 : (k : Int) < (P : Int) + 3 := by omega
      have s0 := hS.cell (j := 0) (v := .int .i64 P) rfl
      have s1 := hS.cell (j := 1) (v := .int .i64 K) rfl
      have s2 := hS.cell (j := 2) (v := .int .i64 M) rfl
      have PS := HS.out wo k
      have hrk := HB.out.2 k hkt
      have hz : sizeD P K k ≤ 168 := Nat.le_trans (sizeD_hi P K k) (by omega)
      obtain ⟨Z, hZ⟩ : ∃ Z, sizeD P K k = Z := ⟨_, rfl⟩
      rw [hZ] at PS hrk hz
      have HPS := Lib.hid PS
      have HRK := Lib.hid hrk
      have hkl : k < vs.length := by rw [hG.len, HB.out.1]; exact hkt
      have hv0 : ∃ v0, vs[k]? = some v0 := ⟨_, List.getElem?_eq_getElem hkl⟩
      clear PS hrk hZ
      go_wp2_with fail
      refine HPS.out.mono ?_
      rintro e w2 ⟨rfl, hb2⟩
      go_wp2_with (with_reducible refine wpList_make8 rfl _ _ rfl tU8 Z rfl rfl rfl rfl (by omega) ?_)
      intro w3 hW hb3
      have hb23 := below_then hb2 hb3
      have hZl : (zeroL Z).length = Z := zeroL_length Z
      have ho : Own8 w3 wo.heap.size 5 (.slice (some ⟨w2.heap.size, 0, none⟩) (zeroL Z).length Z) (zeroL Z) := by
        have := hW.own (base := wo.heap.size) hb2.size (by rw [hZl]; omega)
        rwa [hZl] at this ⊢
      have hst := hG.step hb23 HRK.out ho
      rw [hZl] at hst
      obtain ⟨v0, hv0⟩ := hv0
      have hG3 := hG.below (Ext.refl _ _) hb23
      have hc3 := hG3.row.cell hv0
      have hf3 := hG3.row.free k
      have b3 := (below_then hb hb23).grown (cell_grown w3 (w.heap.size + 1) k (.slice (some ⟨w2.heap.size, 0, none⟩) Z Z)) (below_then hb hb23).size (fun q hq => by injection hq with hq; omega)
      have S3 : RowC (w3.setCell ⟨w.heap.size + 1, k, none⟩ (.slice (some ⟨w2.heap.size, 0, none⟩) Z Z)) w.heap.size 50 [.int .i64 P, .int .i64 K, .int .i64 M] := (hS.below hb23).grown (cell_grown w3 (w.heap.size + 1) k _) (fun e => by injection e with e; omega)
      have HST := Lib.hid hst
      clear hst hG hG3 ho hW hZl hb23 hv0
      go_wp2_with fail
      go_roundw
      case rel => exact ⟨k + 1, _, _, by omega, by go_num, HST.out, b3, hx.trans (paint_ext _ _ _) hb.size, paint_new1 _ hn, S3⟩
      case measure => simp [intOf]; omega
    · have he : k = P + 3 := by omega
      subst he
      have hrl := HB.out.1
      go_wp2_with fail
      go_ret
      exact ⟨w.heap.size + 1, vs, χ', rfl, by rw [hrl]; exact hG, hb, hx, hn⟩

theorem gcopy_any {w : World} {A : Option Addr} {n c : Nat} {rows : List (List UInt8)} (h : RdRows w A c rows) (hn : n = rows.length) (hl : rows.length ≤ 19) (hr : ∀ r ∈ rows, 0 < r.length ∧ r.length ≤ 200) (χ : Col) (j t : Nat) :
    Calls Tryd.prog 68 #[.slice A n c] w fun e w' => ∃ g vs χ', e = .returned (.slice (some ⟨g, 0, none⟩) n n) ∧ NewG w w' χ χ' j t g vs rows := by
  have hcap := h.cap
  have HR := Lib.hid (fun (W : World) (hb : Below w.heap.size w W) => h.below hb)
  have HL := Lib.hid (fun (i : Nat) (hi : i < rows.length) => hr (rows.getD i []) (by simp [List.getD, hi]))
  have HG : Hid (∀ i, i < rows.length → rows[i]? = some (rows.getD i [])) := Lib.hid fun i hi => by simp [List.getD, hi]
  have HN := Lib.hid hn
  rw [← hn] at hcap hl
  have HM := Lib.hid (made_rows n)
  clear hr h hn
  go_enter Tryd.func68, Tryd.ntmps68
  go_wp2_with (with_reducible refine wpList_makeRow rfl _ _ rfl Tryd.underlying96 (z := .slice none 0 0) (size := 1) (bytes := 24) (by kernel_rfl) n rfl rfl (by omega) (by omega) (by omega) (by omega) _ HM.out ?_)
  intro w1 hR1 hb1
  have hG1 : GroundK w1 (paint w.heap.size χ (j, t)) j t w.heap.size (List.replicate n (.slice none 0 0)) rows 0 :=
    ⟨paint_new (Nat.le_refl _), hR1, by rw [List.length_replicate, HN.out], fun i hi => by omega⟩
  obtain ⟨vs0, hvs0⟩ : ∃ vs0, List.replicate n (Value.slice none 0 0) = vs0 := ⟨_, rfl⟩
  rw [hvs0] at hG1 hR1
  clear HM hvs0 hR1
  go_wp2_with fail
  go_loopw [4, 5, 11] (fun _ _ i wr => ∃ (k : Nat) (χ' : Col) (vs : List Value), k ≤ n ∧ i = .int .i64 k ∧ GroundK wr χ' j t w.heap.size vs rows k ∧ Below w.heap.size w wr ∧ Ext w.heap.size χ χ' ∧ (∀ q, w.heap.size ≤ q → (χ' q).1 = j)) (fun _ _ i _ => n - (intOf i).toNat)
  case atStart => exact ⟨0, _, vs0, by omega, rfl, hG1, hb1, paint_ext _ _ _, fun q hq => by rw [paint_new hq]⟩
  case round =>
    obtain ⟨k, χ', vs, hk, rfl, hG, hb, hx, hn⟩ := hrel
    obtain ⟨wo, rfl⟩ : ∃ wo : World, wo = wr := ⟨_, rfl⟩
    by_cases hkt : k < n
    · have hkr : k < rows.length := by rw [← HN.out]; exact hkt
      obtain ⟨gA, oA, rfl, hcA⟩ := (HR.out wo hb).cells (by omega)
      obtain ⟨Ak, ck, c1, c2⟩ := hcA k hkr
      have m0 : (0 : Int) ≤ (k : Int) := by omega
      have m1 : (k : Int) < (n : Int) := by omega
      have hrk := HG.out k hkr
      obtain ⟨l1, l2⟩ := HL.out k hkr
      obtain ⟨r, hr⟩ : ∃ r, rows.getD k [] = r := ⟨_, rfl⟩
      rw [hr] at c1 c2 hrk l1 l2
      have PC := bclone_any c2 rfl (by omega)
      have HRK := Lib.hid hrk
      have hkl : k < vs.length := by rw [hG.len]; exact hkr
      have hv0 : ∃ v0, vs[k]? = some v0 := ⟨_, List.getElem?_eq_getElem hkl⟩
      obtain ⟨RL, hRL⟩ : ∃ RL, r.length = RL := ⟨_, rfl⟩
      rw [hRL] at c1 PC
      have HPC := Lib.hid PC
      have HRL := Lib.hid hRL
      clear PC hrk hr hcA c2 hRL
      go_wp2_with fail
      refine HPC.out.mono ?_
      rintro e w3 ⟨A', c', rfl, hN⟩
      have hb3 := hN.below
      obtain ⟨b, rfl, _⟩ := hN.own.block l1
      have ho := hN.own
      have hst := hG.step hb3 HRK.out ho
      rw [HRL.out] at hst
      obtain ⟨v0, hv0⟩ := hv0
      have hG3 := hG.below (Ext.refl _ _) hb3
      have hc3 := hG3.row.cell hv0
      have hf3 := hG3.row.free k
      have b3 := (below_then hb hb3).grown (cell_grown w3 w.heap.size k (.slice (some ⟨b, 0, none⟩) RL c')) (below_then hb hb3).size (fun q hq => by injection hq with hq; omega)
      have HST := Lib.hid hst
      clear hst hG hG3 ho hN hv0
      go_wp2_with fail
      go_roundw
      case rel => exact ⟨k + 1, _, _, by omega, by go_num, HST.out, b3, hx.trans (paint_ext _ _ _) hb.size, paint_new1 _ hn⟩
      case measure => simp [intOf]; omega
    · have he : k = n := by omega
      subst he
      have hrl := HN.out
      go_wp2_with fail
      go_ret
      exact ⟨w.heap.size, vs, χ', rfl, by rw [← hrl]; exact hG, hb, hx, hn⟩
end Go.Proofs.YtapoknpakleiiaaDoor
