import Derived.Test.YtgelgjghmoddoaaDoorDisk12
/- The contracts of package disk: Image, Lasts. -/
set_option linter.unusedVariables false
set_option linter.unusedSimpArgs false
namespace Go.Proofs.YtgelgjghmoddoaaDoor
open Go.RowKit Go.Tm
set_option maxHeartbeats 400000
set_option maxRecDepth 100000
attribute [local go_sem ↓] Go.wp_at_zero Go.wp_at_succ

theorem NewI.lit {w w' : World} {χ χ' : Col} {j P : Nat} {v : Value} {rows : List (List UInt8)} {log : List UInt8} (h : NewI w w' χ χ' j v P rows log) : ∃ g b0 k0 A2 c2 b1 k1 b2 k2 V0 LL V1 V2, v = imgV (.slice (some ⟨g, 0, none⟩) P P) (.slice (some ⟨b0, 0, none⟩) V0 k0) (.slice A2 LL c2) (.slice (some ⟨b1, 0, none⟩) V1 k1) (.slice (some ⟨b2, 0, none⟩) V2 k2) := by
  obtain ⟨g, vs, lv, hI⟩ := h.img
  obtain ⟨b0, k0, _, v0, _, _⟩ := hI.ground.cell (i := P) (by omega)
  obtain ⟨b1, k1, _, v1, _, _⟩ := hI.ground.cell (i := P + 1) (by omega)
  obtain ⟨b2, k2, _, v2, _, _⟩ := hI.ground.cell (i := P + 2) (by omega)
  obtain ⟨A2, c2, hlv, _⟩ := own_rda hI.log.own
  refine ⟨g, b0, k0, A2, c2, b1, k1, b2, k2, (rows.getD P []).length, log.length, (rows.getD (P + 1) []).length, (rows.getD (P + 2) []).length, ?_⟩
  rw [hI.val, hlv]
  simp [List.getD, v0, v1, v2]
theorem NewI.stored {w w1 w2 w5 : World} {χ χ2 : Col} {j P SZ : Nat} {v : Value} {rows : List (List UInt8)} {log : List UInt8} (hb : Below w.heap.size w w1) (h1 : w.heap.size ≤ SZ) (h2 : SZ < w1.heap.size) (N : NewI w1 w2 (paint w.heap.size χ (j, 9)) χ2 j v P rows log) (g5 : w2.grownBy w5 (some SZ)) : NewI w w5 χ χ2 j v P rows log := by
  obtain ⟨g, vs, lv, hI⟩ := N.img
  have hc : χ2 SZ = (j, 9) := (N.ext SZ h2).trans (paint_new h1)
  have hB2 := below_then hb N.below
  refine ⟨⟨g, vs, lv, hI.val, hI.len, hI.ground.ext (Ext.refl _ _) fun q hq hj a b => g5.block q hq (fun e => ?_), hI.log.ext (Ext.refl _ _) fun q hq a => g5.block q hq (fun e => ?_)⟩, hB2.grown g5 hB2.size (fun q hq => by injection hq with hq; omega), (paint_ext w.heap.size χ (j, 9)).trans N.ext hb.size, fun q hq => ?_⟩
  · injection e with e
    rw [e, hc] at a
    dsimp only at a
    omega
  · injection e with e
    rw [e, hc] at a
    injection a with _ a
    omega
  · by_cases h : q < w1.heap.size
    · rw [N.ext q h, paint_new hq]
    · exact N.new q (by omega)
theorem rows_pos {P K : Nat} {rows : List (List UInt8)} (h : RowsOk P K rows) (hk : K ≤ 8) : ∀ r ∈ rows, 0 < r.length ∧ r.length ≤ 200 := fun r hr => by
  obtain ⟨i, hi⟩ := List.mem_iff_getElem?.1 hr
  have h1 := h.each i r hi
  have := sizeD_lo P K i
  have := sizeD_hi P K i
  omega

set_option maxHeartbeats 1600000 in
theorem lasts_any {w : World} {χ : Col} {j p : Nat} {s : DSt} (hd : IsDisk w χ j p s) (i : Nat) :
    Calls Tryd.prog 55 #[.pointer (some ⟨p, 0, none⟩)] w fun e w' => ∃ v χ', e = .returned v ∧ NewI w w' χ χ' i v s.P s.lasts (s.log.take s.lasted) := by
  obtain ⟨q, h⟩ := hd
  obtain ⟨A, c, hv, hrd⟩ := own_rda h.log.own
  have hb0 := (Below.refl w.heap.size w).alloc (Nat.le_refl _) (.cells #[.slice none 0 0, .slice none 0 0, .slice none 0 0, .slice none 0 0, .slice none 0 0] 112)
  have hR6 : RowC (w.alloc (.cells #[.slice none 0 0, .slice none 0 0, .slice none 0 0, .slice none 0 0, .slice none 0 0] 112)) w.heap.size 112 [.slice none 0 0, .slice none 0 0, .slice none 0 0, .slice none 0 0, .slice none 0 0] := heap_alloc_new _ _
  have hp1 := h.ok.p1
  have hlen := h.ok.lasts.len
  have hll := h.ok.log
  have hm1 := h.ok.m1
  have hlst := h.ok.lasted
  have hcap := hrd.cap
  obtain ⟨wa, hwa⟩ : ∃ wa, w.alloc (.cells #[.slice none 0 0, .slice none 0 0, .slice none 0 0, .slice none 0 0, .slice none 0 0] 112) = wa := ⟨_, rfl⟩
  have hsz : w.heap.size < wa.heap.size := by rw [← hwa]; simp
  rw [hwa] at hb0 hR6
  have hba : Below w.heap.size w wa.drew := below_drew1 hb0
  have hRow := h.row.below hb0
  have c4 := hRow.cell (j := 3) (v := .slice (some ⟨q.g1, 0, none⟩) (s.P + 3) (s.P + 3)) rfl
  have c6 := hRow.cell (j := 6) (v := q.vg) rfl
  have c7 := hRow.cell (j := 7) (v := .int .i64 s.lasted) rfl
  rw [hv] at c6
  have c0' := (h.row.below hba).cell (j := 0) (v := .int .i64 s.P) rfl
  have hG := h.lasts.below (Ext.refl _ _) hba
  rw [← hlen] at hG
  have hRR := hG.rd (by omega)
  rw [hlen] at hRR
  have hta : (s.log.take s.lasted).length = s.lasted := by rw [List.length_take]; omega
  have PI := image_any_d c0' hp1 hRR hlen (rows_pos h.ok.lasts h.ok.k1) ((hrd.take s.lasted hlst).below hba) (by rw [hta]; omega) (paint w.heap.size χ (i, 9)) i
  rw [hta] at PI
  have HPI := Lib.hid PI
  have HR6 := Lib.hid (hR6.below (below_drew1 (Below.refl _ _)))
  have HBA := Lib.hid hba
  have m1 : (0 : Int) ≤ (s.lasted : Int) := by omega
  have m2 : (s.lasted : Int) ≤ (c : Int) := by omega
  have m3 : ((s.lasted : Int)).toNat = s.lasted := by omega
  have hpw := hRow.lt
  clear PI hG hRR hv hrd hR6 hba hb0 hRow h hlen hll hm1 hlst hcap hta c0'
  go_enter Tryd.func55, Tryd.ntmps55
  go_wp2_with fail
  have HWA := Lib.hid hwa
  clear hwa
  obtain ⟨SZ, hSZ⟩ : ∃ SZ, w.heap.size = SZ := ⟨_, rfl⟩
  have HSZ := Lib.hid hSZ
  rw [hSZ] at hsz HR6 ⊢
  clear hSZ
  go_still_tail 14, (by kernel_rfl)
  change wpList _ _ _ _ _ wa.drew
  go_wp2_with fail
  refine HPI.out.mono ?_
  rintro e w2 ⟨v, χ', rfl, N2⟩
  obtain ⟨g, b0, k0, A2, c2, b1, k1, b2, k2, V0, LL, V1, V2, rfl⟩ := N2.lit
  have r2 := HR6.out.below N2.below
  have a0 := r2.cell (j := 0) (v := .slice none 0 0) rfl
  have a1 := r2.cell (j := 1) (v := .slice none 0 0) rfl
  have a2 := r2.cell (j := 2) (v := .slice none 0 0) rfl
  have a3 := r2.cell (j := 3) (v := .slice none 0 0) rfl
  have a4 := r2.cell (j := 4) (v := .slice none 0 0) rfl
  have f0 := r2.free 0
  have f1 := r2.free 1
  have f2 := r2.free 2
  have f3 := r2.free 3
  have f4 := r2.free 4
  have g5 := grown_trans (grown_trans (grown_trans (grown_trans (cell_grown w2 SZ 0 (.slice (some ⟨g, 0, none⟩) s.P s.P)) (cell_grown _ SZ 1 (.slice (some ⟨b0, 0, none⟩) V0 k0))) (cell_grown _ SZ 2 (.slice A2 LL c2))) (cell_grown _ SZ 3 (.slice (some ⟨b1, 0, none⟩) V1 k1))) (cell_grown _ SZ 4 (.slice (some ⟨b2, 0, none⟩) V2 k2))
  have HNI := Lib.hid (NewI.stored HBA.out (by rw [HSZ.out]; exact Nat.le_refl _) hsz N2 g5)
  have HR2 := Lib.hid r2
  clear N2 g5 r2
  unfold imgV
  go_wp2_with fail
  have r0 := (((((HR2.out.stored 0 (.slice (some ⟨g, 0, none⟩) s.P s.P)).stored 1 (.slice (some ⟨b0, 0, none⟩) V0 k0)).stored 2 (.slice A2 LL c2)).stored 3 (.slice (some ⟨b1, 0, none⟩) V1 k1)).stored 4 (.slice (some ⟨b2, 0, none⟩) V2 k2))
  have s0 := r0.cell (j := 0) (v := .slice (some ⟨g, 0, none⟩) s.P s.P) rfl
  have s1 := r0.cell (j := 1) (v := .slice (some ⟨b0, 0, none⟩) V0 k0) rfl
  have s2 := r0.cell (j := 2) (v := .slice A2 LL c2) rfl
  have s3 := r0.cell (j := 3) (v := .slice (some ⟨b1, 0, none⟩) V1 k1) rfl
  have s4 := r0.cell (j := 4) (v := .slice (some ⟨b2, 0, none⟩) V2 k2) rfl
  clear r0
  exact bodyPost_ret (v := imgV (.slice (some ⟨g, 0, none⟩) s.P s.P) (.slice (some ⟨b0, 0, none⟩) V0 k0) (.slice A2 LL c2) (.slice (some ⟨b1, 0, none⟩) V1 k1) (.slice (some ⟨b2, 0, none⟩) V2 k2)) (by simp [results, Tryd.results55, go_sem, s0, s1, s2, s3, s4, imgV]) rfl ⟨_, _, rfl, HNI.out⟩

set_option maxHeartbeats 1600000 in
theorem image_any {w : World} {χ : Col} {j p : Nat} {s : DSt} (hd : IsDisk w χ j p s) (i : Nat) :
    Calls Tryd.prog 54 #[.pointer (some ⟨p, 0, none⟩)] w fun e w' => ∃ v χ', e = .returned v ∧ NewI w w' χ χ' i v s.P s.reads s.log := by
  obtain ⟨q, h⟩ := hd
  obtain ⟨A, c, hv, hrd⟩ := own_rda h.log.own
  have hb0 := (Below.refl w.heap.size w).alloc (Nat.le_refl _) (.cells #[.slice none 0 0, .slice none 0 0, .slice none 0 0, .slice none 0 0, .slice none 0 0] 112)
  have hR6 : RowC (w.alloc (.cells #[.slice none 0 0, .slice none 0 0, .slice none 0 0, .slice none 0 0, .slice none 0 0] 112)) w.heap.size 112 [.slice none 0 0, .slice none 0 0, .slice none 0 0, .slice none 0 0, .slice none 0 0] := heap_alloc_new _ _
  have hp1 := h.ok.p1
  have hlen := h.ok.reads.len
  have hll := h.ok.log
  have hm1 := h.ok.m1
  have hlst := h.ok.lasted
  have hcap := hrd.cap
  obtain ⟨wa, hwa⟩ : ∃ wa, w.alloc (.cells #[.slice none 0 0, .slice none 0 0, .slice none 0 0, .slice none 0 0, .slice none 0 0] 112) = wa := ⟨_, rfl⟩
  have hsz : w.heap.size < wa.heap.size := by rw [← hwa]; simp
  rw [hwa] at hb0 hR6
  have hba : Below w.heap.size w wa.drew := below_drew1 hb0
  have hRow := h.row.below hb0
  have c4 := hRow.cell (j := 4) (v := .slice (some ⟨q.g2, 0, none⟩) (s.P + 3) (s.P + 3)) rfl
  have c6 := hRow.cell (j := 6) (v := q.vg) rfl
  have c7 := hRow.cell (j := 7) (v := .int .i64 s.lasted) rfl
  rw [hv] at c6
  have c0' := (h.row.below hba).cell (j := 0) (v := .int .i64 s.P) rfl
  have hG := h.reads.below (Ext.refl _ _) hba
  rw [← hlen] at hG
  have hRR := hG.rd (by omega)
  rw [hlen] at hRR
  obtain ⟨LN, hLN⟩ : ∃ LN, s.log.length = LN := ⟨_, rfl⟩
  have PI := image_any_d c0' hp1 hRR hlen (rows_pos h.ok.reads h.ok.k1) (hrd.below hba) (by omega) (paint w.heap.size χ (i, 9)) i
  rw [hLN] at PI c6
  have HPI := Lib.hid PI
  have HR6 := Lib.hid (hR6.below (below_drew1 (Below.refl _ _)))
  have HBA := Lib.hid hba
  have hpw := hRow.lt
  clear PI hG hRR hv hrd hR6 hba hb0 hRow h hlen hll hm1 hlst hcap hLN c0' c7
  go_enter Tryd.func54, Tryd.ntmps54
  go_wp2_with fail
  have HWA := Lib.hid hwa
  clear hwa
  obtain ⟨SZ, hSZ⟩ : ∃ SZ, w.heap.size = SZ := ⟨_, rfl⟩
  have HSZ := Lib.hid hSZ
  rw [hSZ] at hsz HR6 ⊢
  clear hSZ
  go_still_tail 9, (by kernel_rfl)
  change wpList _ _ _ _ _ wa.drew
  go_wp2_with fail
  refine HPI.out.mono ?_
  rintro e w2 ⟨v, χ', rfl, N2⟩
  obtain ⟨g, b0, k0, A2, c2, b1, k1, b2, k2, V0, LL, V1, V2, rfl⟩ := N2.lit
  have r2 := HR6.out.below N2.below
  have a0 := r2.cell (j := 0) (v := .slice none 0 0) rfl
  have a1 := r2.cell (j := 1) (v := .slice none 0 0) rfl
  have a2 := r2.cell (j := 2) (v := .slice none 0 0) rfl
  have a3 := r2.cell (j := 3) (v := .slice none 0 0) rfl
  have a4 := r2.cell (j := 4) (v := .slice none 0 0) rfl
  have f0 := r2.free 0
  have f1 := r2.free 1
  have f2 := r2.free 2
  have f3 := r2.free 3
  have f4 := r2.free 4
  have g5 := grown_trans (grown_trans (grown_trans (grown_trans (cell_grown w2 SZ 0 (.slice (some ⟨g, 0, none⟩) s.P s.P)) (cell_grown _ SZ 1 (.slice (some ⟨b0, 0, none⟩) V0 k0))) (cell_grown _ SZ 2 (.slice A2 LL c2))) (cell_grown _ SZ 3 (.slice (some ⟨b1, 0, none⟩) V1 k1))) (cell_grown _ SZ 4 (.slice (some ⟨b2, 0, none⟩) V2 k2))
  have HNI := Lib.hid (NewI.stored HBA.out (by rw [HSZ.out]; exact Nat.le_refl _) hsz N2 g5)
  have HR2 := Lib.hid r2
  clear N2 g5 r2
  unfold imgV
  go_wp2_with fail
  have r0 := (((((HR2.out.stored 0 (.slice (some ⟨g, 0, none⟩) s.P s.P)).stored 1 (.slice (some ⟨b0, 0, none⟩) V0 k0)).stored 2 (.slice A2 LL c2)).stored 3 (.slice (some ⟨b1, 0, none⟩) V1 k1)).stored 4 (.slice (some ⟨b2, 0, none⟩) V2 k2))
  have s0 := r0.cell (j := 0) (v := .slice (some ⟨g, 0, none⟩) s.P s.P) rfl
  have s1 := r0.cell (j := 1) (v := .slice (some ⟨b0, 0, none⟩) V0 k0) rfl
  have s2 := r0.cell (j := 2) (v := .slice A2 LL c2) rfl
  have s3 := r0.cell (j := 3) (v := .slice (some ⟨b1, 0, none⟩) V1 k1) rfl
  have s4 := r0.cell (j := 4) (v := .slice (some ⟨b2, 0, none⟩) V2 k2) rfl
  clear r0
  exact bodyPost_ret (v := imgV (.slice (some ⟨g, 0, none⟩) s.P s.P) (.slice (some ⟨b0, 0, none⟩) V0 k0) (.slice A2 LL c2) (.slice (some ⟨b1, 0, none⟩) V1 k1) (.slice (some ⟨b2, 0, none⟩) V2 k2)) (by simp [results, Tryd.results54, go_sem, s0, s1, s2, s3, s4, imgV]) rfl ⟨_, _, rfl, HNI.out⟩
end Go.Proofs.YtgelgjghmoddoaaDoor
