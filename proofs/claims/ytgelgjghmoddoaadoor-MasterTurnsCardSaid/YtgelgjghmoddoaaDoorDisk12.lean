import Derived.Test.YtgelgjghmoddoaaDoorDisk11
import Derived.Test.YtgelgjghmoddoaaDoorDiskMem5
/- The contracts of package disk: images. -/
set_option linter.unusedVariables false
set_option linter.unusedSimpArgs false
namespace Go.Proofs.YtgelgjghmoddoaaDoor
open Go.RowKit Go.Tm
set_option maxHeartbeats 400000
set_option maxRecDepth 100000
attribute [local go_sem ↓] Go.wp_at_zero Go.wp_at_succ

theorem cell_far1 {W : World} {b g o i : Nat} {v : Value} (h : g ≠ b) : (W.setCell ⟨b, i, none⟩ v).cell? ⟨g, o, none⟩ = W.cell? ⟨g, o, none⟩ := World.cell?_of_block (Below.heap_setCell _ _ _ _ h)

set_option maxHeartbeats 1600000 in
theorem image_any_d {w : World} {p P : Nat} (c0 : w.cell? ⟨p, 0, none⟩ = some (.int .i64 P)) (hP : P ≤ 16) {A : Option Addr} {c : Nat} {rows : List (List UInt8)} (hR : RdRows w A c rows) (hrl : rows.length = P + 3) (hr : ∀ r ∈ rows, 0 < r.length ∧ r.length ≤ 200) {B : Option Addr} {d : Nat} {log : List UInt8} (hL : Rda w B d log) (hll : log.length ≤ 65536) (χ : Col) (j : Nat) :
    Calls Tryd.prog 80 #[.pointer (some ⟨p, 0, none⟩), .slice A (P + 3) c, .slice B log.length d] w fun e w' => ∃ v χ', e = .returned v ∧ NewI w w' χ χ' j v P rows log := by
  have hb0 := (Below.refl w.heap.size w).alloc (Nat.le_refl _) (.cells #[.slice none 0 0, .slice none 0 0, .slice none 0 0, .slice none 0 0, .slice none 0 0] 112)
  have HG := Lib.hid (gcopy_any (hR.below hb0) hrl.symm (by omega) hr (paint w.heap.size χ (j, 9)) j 100)
  have HL := Lib.hid (hL.below hb0)
  have HRL := Lib.hid hrl
  obtain ⟨LL, hLL⟩ : ∃ LL, log.length = LL := ⟨_, rfl⟩
  have HLL := Lib.hid hLL
  rw [hLL]
  rw [hLL] at hll
  have hp := World.block_lt_of_cell? _ _ c0
  clear hR hL hr hrl hLL
  go_enter Tryd.func80, Tryd.ntmps80
  go_wp2_with fail
  refine HG.out.mono ?_
  rintro e w1 ⟨g, vs, χ1, rfl, N1⟩
  have c0' := (N1.below.cell (p := ⟨p, 0, none⟩) (World.block_lt_of_cell? _ _ ((hb0.cell (p := ⟨p, 0, none⟩) hp).trans c0))).trans ((hb0.cell (p := ⟨p, 0, none⟩) hp).trans c0)
  have G := N1.ground
  rw [HRL.out] at G
  obtain ⟨b0, k0, _, v0, _, _⟩ := G.cell (i := P) (by omega)
  obtain ⟨b1, k1, _, v1, _, _⟩ := G.cell (i := P + 1) (by omega)
  obtain ⟨b2, k2, _, v2, _, _⟩ := G.cell (i := P + 2) (by omega)
  have d0 := G.row.cell v0
  have d1 := G.row.cell v1
  have d2 := G.row.cell v2
  have hR6 : RowC w1 w.heap.size 112 [.slice none 0 0, .slice none 0 0, .slice none 0 0, .slice none 0 0, .slice none 0 0] := (show RowC (w.alloc (.cells #[.slice none 0 0, .slice none 0 0, .slice none 0 0, .slice none 0 0, .slice none 0 0] 112)) w.heap.size 112 [.slice none 0 0, .slice none 0 0, .slice none 0 0, .slice none 0 0, .slice none 0 0] from heap_alloc_new _ _).below N1.below
  have HL1 := Lib.hid (HL.out.below N1.below)
  have HN1 := Lib.hid N1
  have hbw := (Below.refl w1.heap.size w1).drew
  have i1 : IntKind.i64.wrap ((P : Int) + 1) = (P : Int) + 1 := IntWalk.i64_in _ (by omega)
  have i2 : IntKind.i64.wrap ((P : Int) + 2) = (P : Int) + 2 := IntWalk.i64_in _ (by omega)
  have m0 : (0 : Int) ≤ (P : Int) := by omega
  have m1 : (0 : Int) ≤ (P : Int) + 1 := by omega
  have m2 : (0 : Int) ≤ (P : Int) + 2 := by omega
  have l0 : (P : Int) < (P : Int) + 3 := by omega
  have l1 : (P : Int) + 1 < (P : Int) + 3 := by omega
  have l2 : (P : Int) + 2 < (P : Int) + 3 := by omega
  have l3 : (P : Int) ≤ (P : Int) + 3 := by omega
  have l4 : (P : Int) ≤ (P : Int) := by omega
  have l5 : P ≤ P + 3 := by omega
  have t1 : ((P : Int) + 1).toNat = P + 1 := by omega
  have t2 : ((P : Int) + 2).toNat = P + 2 := by omega
  obtain ⟨V0, hV0⟩ : ∃ V0, (rows.getD P []).length = V0 := ⟨_, rfl⟩
  obtain ⟨V1, hV1⟩ : ∃ V1, (rows.getD (P + 1) []).length = V1 := ⟨_, rfl⟩
  obtain ⟨V2, hV2⟩ : ∃ V2, (rows.getD (P + 2) []).length = V2 := ⟨_, rfl⟩
  rw [hV0] at d0 v0
  rw [hV1] at d1 v1
  rw [hV2] at d2 v2
  have HV := Lib.hid (And.intro v0 (And.intro v1 v2))
  have HB0 := Lib.hid hb0
  have HPC : Hid (∀ (W : World), Below w1.heap.size w1 W → Calls Tryd.prog 42 #[.slice B LL d] W fun e w' => ∃ A' c', e = .returned (.slice A' LL c') ∧ New 5 W w' A' c' log) := Lib.hid fun W hb => by
    have := bclone_any (HL1.out.below hb) HLL.out.symm (by rw [HLL.out]; omega)
    rwa [HLL.out] at this
  have hgs : g ≠ w.heap.size := fun e => by
    have h1 := G.col
    rw [e, N1.ext w.heap.size (by simp), paint_new (Nat.le_refl _)] at h1
    injection h1 with _ h1
    omega
  clear G N1 hb0 HG HL v0 v1 v2 hV0 hV1 hV2 hp c0
  go_wp2_with fail
  obtain ⟨SZ, hSZ⟩ : ∃ SZ, w.heap.size = SZ := ⟨_, rfl⟩
  have HSZ := Lib.hid hSZ
  rw [hSZ] at hR6 hgs ⊢
  clear hSZ
  go_region_held3 (fun w' => w'.cell? ⟨g, P, none⟩ = some (.slice (some ⟨b0, 0, none⟩) V0 k0) ∧ w'.cell? ⟨g, P + 1, none⟩ = some (.slice (some ⟨b1, 0, none⟩) V1 k1) ∧ w'.cell? ⟨g, P + 2, none⟩ = some (.slice (some ⟨b2, 0, none⟩) V2 k2)) (first | (with_reducible exact ⟨d0, d1, d2⟩) | (with_reducible exact ⟨y0, y1, y2⟩) | exact ⟨(cell_far1 hgs).trans ((cell_far1 hgs).trans ((cell_far1 hgs).trans ((cell_far1 hgs).trans ((cell_far1 hgs).trans y0)))), (cell_far1 hgs).trans ((cell_far1 hgs).trans ((cell_far1 hgs).trans ((cell_far1 hgs).trans ((cell_far1 hgs).trans y1)))), (cell_far1 hgs).trans ((cell_far1 hgs).trans ((cell_far1 hgs).trans ((cell_far1 hgs).trans ((cell_far1 hgs).trans y2))))⟩ | go_keep)
    (first
      | (go_at_call 42; refine (HPC.out _ hbw).mono ?_; rintro e w2 ⟨A2, c2, rfl, N2⟩; have hb2 := below_then hbw N2.below; have y0 := (hb2.cell (p := ⟨g, P, none⟩) (World.block_lt_of_cell? _ _ d0)).trans d0; have y1 := (hb2.cell (p := ⟨g, P + 1, none⟩) (World.block_lt_of_cell? _ _ d1)).trans d1; have y2 := (hb2.cell (p := ⟨g, P + 2, none⟩) (World.block_lt_of_cell? _ _ d2)).trans d2; have R2 := hR6.below hb2; have a0 := R2.cell (j := 0) (v := .slice none 0 0) rfl; have a1 := R2.cell (j := 1) (v := .slice none 0 0) rfl; have a2 := R2.cell (j := 2) (v := .slice none 0 0) rfl; have a3 := R2.cell (j := 3) (v := .slice none 0 0) rfl; have a4 := R2.cell (j := 4) (v := .slice none 0 0) rfl; have f0 := R2.free 0; have f1 := R2.free 1; have f2 := R2.free 2; have f3 := R2.free 3; have f4 := R2.free 4; have HN2 := Lib.hid N2; have HR2 := Lib.hid R2; have HB2 := Lib.hid hb2; clear N2 R2 hR6 hb2 hbw c0' d0 d1 d2 i1 i2 m0 m1 m2 l0 l1 l2 l3 l4 l5 t1 t2 HL1 HPC))
  have g5 := grown_trans (grown_trans (grown_trans (grown_trans (cell_grown w2 SZ 0 (.slice (some ⟨g, 0, none⟩) P P)) (cell_grown _ SZ 1 (.slice (some ⟨b0, 0, none⟩) V0 k0))) (cell_grown _ SZ 2 (.slice A2 LL c2))) (cell_grown _ SZ 3 (.slice (some ⟨b1, 0, none⟩) V1 k1))) (cell_grown _ SZ 4 (.slice (some ⟨b2, 0, none⟩) V2 k2))
  have r0 := (((((HR2.out.stored 0 (.slice (some ⟨g, 0, none⟩) P P)).stored 1 (.slice (some ⟨b0, 0, none⟩) V0 k0)).stored 2 (.slice A2 LL c2)).stored 3 (.slice (some ⟨b1, 0, none⟩) V1 k1)).stored 4 (.slice (some ⟨b2, 0, none⟩) V2 k2))
  obtain ⟨w5, hw5⟩ : ∃ w5, (((((w2.setCell ⟨SZ, 0, none⟩ (.slice (some ⟨g, 0, none⟩) P P)).setCell ⟨SZ, 1, none⟩ (.slice (some ⟨b0, 0, none⟩) V0 k0)).setCell ⟨SZ, 2, none⟩ (.slice A2 LL c2)).setCell ⟨SZ, 3, none⟩ (.slice (some ⟨b1, 0, none⟩) V1 k1)).setCell ⟨SZ, 4, none⟩ (.slice (some ⟨b2, 0, none⟩) V2 k2)) = w5 := ⟨_, rfl⟩
  rw [hw5] at g5 r0 ⊢
  have s0 := r0.cell (j := 0) (v := .slice (some ⟨g, 0, none⟩) P P) rfl
  have s1 := r0.cell (j := 1) (v := .slice (some ⟨b0, 0, none⟩) V0 k0) rfl
  have s2 := r0.cell (j := 2) (v := .slice A2 LL c2) rfl
  have s3 := r0.cell (j := 3) (v := .slice (some ⟨b1, 0, none⟩) V1 k1) rfl
  have s4 := r0.cell (j := 4) (v := .slice (some ⟨b2, 0, none⟩) V2 k2) rfl
  have hB1 : Below w.heap.size w w1 := below_then HB0.out HN1.out.below
  have hB2 : Below w.heap.size w w2 := below_then hB1 HB2.out
  have hX2 : Ext w1.heap.size χ1 (paint w1.heap.size χ1 (j, 5)) := paint_ext _ _ _
  have hs1 : w.heap.size < w1.heap.size := by have := HN1.out.below.size; simp at this; omega
  have hcSZ : paint w1.heap.size χ1 (j, 5) SZ = (j, 9) := by
    rw [← HSZ.out, hX2 _ hs1, HN1.out.ext _ (by simp)]
    exact paint_new (Nat.le_refl _)
  have hGr : GroundK w5 (paint w1.heap.size χ1 (j, 5)) j 100 g vs rows (P + 3) := by
    have h := HN1.out.ground
    rw [HRL.out] at h
    refine (h.below hX2 HB2.out).ext (Ext.refl _ _) fun q hq hj h1 h2 => g5.block q hq (fun e => ?_)
    injection e with e
    rw [e, hcSZ] at h1
    dsimp only at h1
    omega
  have hLg : LogR w5 (paint w1.heap.size χ1 (j, 5)) j (.slice A2 LL c2) log := by
    have ho := HN2.out.own
    rw [HLL.out] at ho
    refine ⟨own8_same (Own8.mono ho (Nat.zero_le _)) fun q hq => g5.block q (World.ownsRow.lt ho q hq).2 (fun e => ?_), fun q hq => paint_new (World.ownsRow.lt ho q hq).1⟩
    injection e with e
    have h1 : w1.heap.size ≤ q := (World.ownsRow.lt ho q hq).1
    have := HSZ.out
    omega
  have hgd : ∀ i v, vs[i]? = some v → vs.getD i undef = v := fun i v h => by simp [List.getD, h]
  have HNI : Hid (NewI w w5 χ (paint w1.heap.size χ1 (j, 5)) j (imgV (.slice (some ⟨g, 0, none⟩) P P) (.slice (some ⟨b0, 0, none⟩) V0 k0) (.slice A2 LL c2) (.slice (some ⟨b1, 0, none⟩) V1 k1) (.slice (some ⟨b2, 0, none⟩) V2 k2)) P rows log) := Lib.hid
    ⟨⟨g, vs, _, ⟨by rw [hgd P _ HV.out.1, hgd (P + 1) _ HV.out.2.1, hgd (P + 2) _ HV.out.2.2], HRL.out, hGr, hLg⟩⟩, hB2.grown g5 hB2.size (fun q hq => by injection hq with hq; have := HSZ.out; omega),
      ((paint_ext w.heap.size χ (j, 9)).trans HN1.out.ext (by simp)).trans hX2 hB1.size, fun q hq => by
        by_cases h1 : q < w1.heap.size
        · rw [hX2 q h1]
          by_cases h2 : q < w.heap.size + 1
          · rw [HN1.out.ext q (by simpa using h2), paint_new hq]
          · exact HN1.out.new q (by simp; omega)
        · rw [paint_new (by omega)]⟩
  clear g5 r0 hw5 a0 a1 a2 a3 a4 f0 f1 f2 f3 f4 y0 y1 y2 hGr hLg hgd hB1 hB2 hX2 hcSZ hs1
  go_wp2_with fail
  exact bodyPost_ret (v := imgV (.slice (some ⟨g, 0, none⟩) P P) (.slice (some ⟨b0, 0, none⟩) V0 k0) (.slice A2 LL c2) (.slice (some ⟨b1, 0, none⟩) V1 k1) (.slice (some ⟨b2, 0, none⟩) V2 k2)) (by simp [results, Tryd.results80, go_sem, s0, s1, s2, s3, s4, imgV]) rfl ⟨_, _, rfl, HNI.out⟩
end Go.Proofs.YtgelgjghmoddoaaDoor
