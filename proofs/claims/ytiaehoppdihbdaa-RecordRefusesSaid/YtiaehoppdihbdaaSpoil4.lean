import Derived.Test.YtiaehoppdihbdaaSpoil0
import Derived.StillTailTactics
/- RecordRefuses: spoilt, a record of kind 1, 4, 5, 6, 7. -/
set_option linter.unusedVariables false
set_option linter.unusedSimpArgs false
namespace Go.Proofs.Ytiaehoppdihbdaa
open Go.RowKit Go.Tm
set_option maxHeartbeats 400000
set_option maxRecDepth 100000
attribute [local go_sem ↓] Go.wp_at_zero Go.wp_at_succ

set_option maxHeartbeats 40000000 in
theorem spoilt0_any {w : World} {x : RecD} {q : RPl} (h : RecR w x q) (hr : rgtB x = true) (hk : x.kind ≠ 2 ∧ x.kind ≠ 3) {cs : Array Value} (hcs : cs = (recC x q).toArray) :
    Calls Try.prog 23 #[.agg cs] w (SpoilP w) := by
  have HI := Lib.hid (recI_of h hr)
  have HA := Lib.hid (right_all hr)
  have HCP : Hid (∀ W, Below w.heap.size w W → Calls Try.prog 26 #[.agg cs] W (CopP x W)) := Lib.hid fun W hb => copied_any (h.below hb) (by have := HA.out.rows.1; omega) (by have := HA.out.dirt.1; omega) hcs
  obtain ⟨⟨A1, c1, e1, r1⟩, ⟨A2, c2, e2, r2⟩, ⟨A3, c3, e3, r3⟩, ⟨A4, c4, e4, r4⟩, ii, n1, n2, n3, n4⟩ := h
  obtain ⟨kind, birth, prev, id, page, frm, before, after, next, rows, dirty⟩ := x
  dsimp only at e1 e2 e3 e4 r1 r2 r3 r4 n1 n2 n3 n4 hk
  obtain ⟨hk2, hk3⟩ := hk
  have hkb : 1 ≤ kind ∧ kind ≤ 7 := HA.out.kind
  obtain ⟨hkb1, hkb2⟩ := hkb
  obtain ⟨k1, hk1'⟩ : ∃ k, before.length = k := ⟨_, rfl⟩
  have HK1 := Lib.hid hk1'
  obtain ⟨k2, hk2'⟩ : ∃ k, after.length = k := ⟨_, rfl⟩
  have HK2 := Lib.hid hk2'
  obtain ⟨k3, hk3'⟩ : ∃ k, rows.length = k := ⟨_, rfl⟩
  have HK3 := Lib.hid hk3'
  obtain ⟨k4, hk4'⟩ : ∃ k, dirty.length = k := ⟨_, rfl⟩
  have HK4 := Lib.hid hk4'
  have hcs2 : cs = #[.int .i64 kind, .int .i64 birth, .int .i64 prev, .int .i64 id, .int .i64 page, .int .i64 frm, .slice A1 k1 c1, .slice A2 k2 c2, .int .i64 next, .slice A3 k3 c3, .slice A4 k4 c4] := by rw [hcs]; unfold recC; rw [e1, e2, e3, e4]; simp only [HK1.out, HK2.out, HK3.out, HK4.out]
  subst hcs2
  have HX := Lib.hid hr
  have m1 : k1 ≤ 128 := by rw [← HK1.out]; exact bef128 HA.out
  have m2 : k2 ≤ 128 := by rw [← HK2.out]; exact HA.out.aft
  have m3 : k3 ≤ 8 := by rw [← HK3.out]; exact HA.out.rows.1
  have m4 : k4 ≤ 16 := by rw [← HK4.out]; exact HA.out.dirt.1
  clear ii hcs e1 e2 e3 e4 r1 r2 r3 r4 n1 n2 n3 n4 hk1' hk2' hk3' hk4' hr
  have hb0 := (Below.refl w.heap.size w).alloc (Nat.le_refl _) (.cells #[.int .i64 kind, .int .i64 birth, .int .i64 prev, .int .i64 id, .int .i64 page, .int .i64 frm, .slice A1 k1 c1, .slice A2 k2 c2, .int .i64 next, .slice A3 k3 c3, .slice A4 k4 c4] 26)
  have R0 : RowC (w.alloc (.cells #[.int .i64 kind, .int .i64 birth, .int .i64 prev, .int .i64 id, .int .i64 page, .int .i64 frm, .slice A1 k1 c1, .slice A2 k2 c2, .int .i64 next, .slice A3 k3 c3, .slice A4 k4 c4] 26)) w.heap.size 26 [.int .i64 kind, .int .i64 birth, .int .i64 prev, .int .i64 id, .int .i64 page, .int .i64 frm, .slice A1 k1 c1, .slice A2 k2 c2, .int .i64 next, .slice A3 k3 c3, .slice A4 k4 c4] := heap_alloc_new w _
  have HB0 := Lib.hid hb0
  have HR0 := Lib.hid R0
  go_enter Try.func23, Try.ntmps23
  go_wp2_with fail
  refine (HCP.out _ HB0.out).mono ?_
  rintro e w1 ⟨q2, rfl, hb2, hl2⟩
  obtain ⟨B1, d1, B2, d2, B3, d3, B4, d4, hq⟩ := recLs_spell hl2
  have hq' : q2 = ⟨.slice B1 k1 d1, .slice B2 k2 d2, .slice B3 k3 d3, .slice B4 k4 d4⟩ := by rw [hq]; simp only [HK1.out, HK2.out, HK3.out, HK4.out]
  clear hq
  subst hq'
  rw [show (recC ⟨kind, birth, prev, id, page, frm, before, after, next, rows, dirty⟩ ⟨.slice B1 k1 d1, .slice B2 k2 d2, .slice B3 k3 d3, .slice B4 k4 d4⟩).toArray = #[.int .i64 kind, .int .i64 birth, .int .i64 prev, .int .i64 id, .int .i64 page, .int .i64 frm, .slice B1 k1 d1, .slice B2 k2 d2, .int .i64 next, .slice B3 k3 d3, .slice B4 k4 d4] from rfl]
  have S0 := Sp.first HB0.out HR0.out hb2 (hl2.mono HB0.out.size) (cs := [.int .i64 (kind - 8), .int .i64 birth, .int .i64 prev, .int .i64 id, .int .i64 page, .int .i64 frm, .slice B1 k1 d1, .slice B2 k2 d2, .int .i64 next, .slice B3 k3 d3, .slice B4 k4 d4]) (y := (⟨kind - 8, birth, prev, id, page, frm, before, after, next, rows, dirty⟩ : RecD)) (p := (⟨.slice B1 k1 d1, .slice B2 k2 d2, .slice B3 k3 d3, .slice B4 k4 d4⟩ : RPl)) rfl (fun W b h => ⟨h.vb, h.va, h.vr, h.vd, h.ap⟩)
  have b0 := (HR0.out.below hb2).cell (j := 0) rfl
  have b0' := ((HR0.out.below hb2).below ((Below.refl _ _).alloc (Nat.le_refl _) (.cells #[.int .i64 kind, .int .i64 birth, .int .i64 prev, .int .i64 id, .int .i64 page, .int .i64 frm, .slice B1 k1 d1, .slice B2 k2 d2, .int .i64 next, .slice B3 k3 d3, .slice B4 k4 d4] 26))).cell (j := 0) rfl
  have tt : RowC _ w1.heap.size 26 [.int .i64 (kind - 8), .int .i64 birth, .int .i64 prev, .int .i64 id, .int .i64 page, .int .i64 frm, .slice B1 k1 d1, .slice B2 k2 d2, .int .i64 next, .slice B3 k3 d3, .slice B4 k4 d4] := S0.tmp
  have y0 := tt.cell (j := 0) rfl
  have y1 := tt.cell (j := 1) rfl
  have y2 := tt.cell (j := 2) rfl
  have y3 := tt.cell (j := 3) rfl
  have y4 := tt.cell (j := 4) rfl
  have y5 := tt.cell (j := 5) rfl
  have y6 := tt.cell (j := 6) rfl
  have y7 := tt.cell (j := 7) rfl
  have y8 := tt.cell (j := 8) rfl
  have y9 := tt.cell (j := 9) rfl
  have y10 := tt.cell (j := 10) rfl
  have zf := tt.free
  have HL := Lib.hid hl2
  clear hb2 hl2 tt
  have HSP := Lib.hid S0
  go_wp2_with (at_builtin; refine wpList_push rfl _ _ rfl rfl rfl (HSP.out.below ((Below.refl _ _).alloc (Nat.le_refl _) _)) (rowC_new (by simp)) (by omega) (bad_kind (k := kind - 8) _ (by omega) rfl) (recI_kind HI.out ⟨by omega, by omega⟩) (m := 1) (by rfl) ?_)
  intro Al cl w2 HS
  clear HSP
  replace HS := Lib.hid HS
  clear S0 b0 b0' y0 y1 y2 y3 y4 y5 y6 y7 y8 y9 y10 zf HL HB0 HR0
  obtain ⟨B, hB⟩ : ∃ b, w1.heap.size = b := ⟨_, rfl⟩
  rw [hB] at HS ⊢
  clear hB
  have tz : RowC _ B 26 [.int .i64 (kind - 8), .int .i64 birth, .int .i64 prev, .int .i64 id, .int .i64 page, .int .i64 frm, .slice B1 k1 d1, .slice B2 k2 d2, .int .i64 next, .slice B3 k3 d3, .slice B4 k4 d4] := HS.out.tmp
  have z0 := tz.cell (j := 0) rfl
  have z1 := tz.cell (j := 1) rfl
  have z2 := tz.cell (j := 2) rfl
  have z3 := tz.cell (j := 3) rfl
  have z4 := tz.cell (j := 4) rfl
  have z5 := tz.cell (j := 5) rfl
  have z6 := tz.cell (j := 6) rfl
  have z7 := tz.cell (j := 7) rfl
  have z8 := tz.cell (j := 8) rfl
  have z9 := tz.cell (j := 9) rfl
  have z10 := tz.cell (j := 10) rfl
  have zf := tz.free
  have d0 := HS.out.box.cell (j := 0) rfl
  have S1 := HS.out.put 0 (.int .i64 (kind + 7)) (y' := (⟨kind + 7, birth, prev, id, page, frm, before, after, next, rows, dirty⟩ : RecD)) (p' := (⟨.slice B1 k1 d1, .slice B2 k2 d2, .slice B3 k3 d3, .slice B4 k4 d4⟩ : RPl)) rfl (fun W b h => ⟨h.vb, h.va, h.vr, h.vd, h.ap⟩)
  have tt : RowC _ B 26 [.int .i64 (kind + 7), .int .i64 birth, .int .i64 prev, .int .i64 id, .int .i64 page, .int .i64 frm, .slice B1 k1 d1, .slice B2 k2 d2, .int .i64 next, .slice B3 k3 d3, .slice B4 k4 d4] := S1.tmp
  have y0 := tt.cell (j := 0) rfl
  have y1 := tt.cell (j := 1) rfl
  have y2 := tt.cell (j := 2) rfl
  have y3 := tt.cell (j := 3) rfl
  have y4 := tt.cell (j := 4) rfl
  have y5 := tt.cell (j := 5) rfl
  have y6 := tt.cell (j := 6) rfl
  have y7 := tt.cell (j := 7) rfl
  have y8 := tt.cell (j := 8) rfl
  have y9 := tt.cell (j := 9) rfl
  have y10 := tt.cell (j := 10) rfl
  clear tz tt HS
  have HSP := Lib.hid S1
  go_wp2_with (at_builtin; refine wpList_push rfl _ _ rfl rfl rfl (HSP.out.below ((Below.refl _ _).alloc (Nat.le_refl _) _)) (rowC_new (by simp)) (by omega) (bad_kind (k := kind + 7) _ (by omega) rfl) (recI_kind HI.out ⟨by omega, by omega⟩) (m := 2) (by rfl) ?_)
  intro Al cl w3 HS
  clear HSP
  replace HS := Lib.hid HS
  clear S1 zf y0 y1 y2 y3 y4 y5 y6 y7 y8 y9 y10 z0 z1 z2 z3 z4 z5 z6 z7 z8 z9 z10 d0
  have d0 := HS.out.box.cell (j := 0) rfl
  have d1 := HS.out.box.cell (j := 1) rfl
  have d2 := HS.out.box.cell (j := 2) rfl
  have d3 := HS.out.box.cell (j := 3) rfl
  have d4 := HS.out.box.cell (j := 4) rfl
  have d5 := HS.out.box.cell (j := 5) rfl
  have d6 := HS.out.box.cell (j := 6) rfl
  have d7 := HS.out.box.cell (j := 7) rfl
  have d8 := HS.out.box.cell (j := 8) rfl
  have d9 := HS.out.box.cell (j := 9) rfl
  have d10 := HS.out.box.cell (j := 10) rfl
  go_wp2_with fail
  refine (HCP.out _ HS.out.low).mono ?_
  clear d0 d1 d2 d3 d4 d5 d6 d7 d8 d9 d10
  rintro e w4 ⟨q2, rfl, hb2, hl2⟩
  obtain ⟨B1, d1, B2, d2, B3, d3, B4, d4, hq⟩ := recLs_spell hl2
  have hq' : q2 = ⟨.slice B1 k1 d1, .slice B2 k2 d2, .slice B3 k3 d3, .slice B4 k4 d4⟩ := by rw [hq]; simp only [HK1.out, HK2.out, HK3.out, HK4.out]
  clear hq
  subst hq'
  rw [show (recC ⟨kind, birth, prev, id, page, frm, before, after, next, rows, dirty⟩ ⟨.slice B1 k1 d1, .slice B2 k2 d2, .slice B3 k3 d3, .slice B4 k4 d4⟩).toArray = #[.int .i64 kind, .int .i64 birth, .int .i64 prev, .int .i64 id, .int .i64 page, .int .i64 frm, .slice B1 k1 d1, .slice B2 k2 d2, .int .i64 next, .slice B3 k3 d3, .slice B4 k4 d4] from rfl]
  have G0 := Sg.start HS.out.tmp hb2 hl2 rfl (a0 := .int .i64 kind) (a1 := .int .i64 birth) (a2 := .int .i64 prev) (a3 := .int .i64 id) (a4 := .int .i64 page) (a5 := .int .i64 frm) (a6 := .slice B1 k1 d1) (a7 := .slice B2 k2 d2) (a8 := .int .i64 next) (a9 := .slice B3 k3 d3) (a10 := .slice B4 k4 d4) rfl
  have tz0 := HS.out.tmp.below hb2
  have zf := tz0.free
  have z0 := tz0.cell (j := 0) rfl
  have z1 := tz0.cell (j := 1) rfl
  have z2 := tz0.cell (j := 2) rfl
  have z3 := tz0.cell (j := 3) rfl
  have z4 := tz0.cell (j := 4) rfl
  have z5 := tz0.cell (j := 5) rfl
  have z6 := tz0.cell (j := 6) rfl
  have z7 := tz0.cell (j := 7) rfl
  have z8 := tz0.cell (j := 8) rfl
  have z9 := tz0.cell (j := 9) rfl
  have z10 := tz0.cell (j := 10) rfl
  go_upto_region 8 with (fail)
  obtain ⟨W4, hW⟩ : ∃ W, (((((((((((w4.setCell ⟨B, 0, none⟩ (.int .i64 kind)).setCell ⟨B, 1, none⟩ (.int .i64 birth)).setCell ⟨B, 2, none⟩ (.int .i64 prev)).setCell ⟨B, 3, none⟩ (.int .i64 id)).setCell ⟨B, 4, none⟩ (.int .i64 page)).setCell ⟨B, 5, none⟩ (.int .i64 frm)).setCell ⟨B, 6, none⟩ (.slice B1 k1 d1)).setCell ⟨B, 7, none⟩ (.slice B2 k2 d2)).setCell ⟨B, 8, none⟩ (.int .i64 next)).setCell ⟨B, 9, none⟩ (.slice B3 k3 d3)).setCell ⟨B, 10, none⟩ (.slice B4 k4 d4)) = W := ⟨_, rfl⟩
  unfold lay11 at G0
  rw [hW] at G0 ⊢
  clear hW tz0 zf z0 z1 z2 z3 z4 z5 z6 z7 z8 z9 z10 hb2 hl2
  have tt0 : RowC W4 B 26 [.int .i64 kind, .int .i64 birth, .int .i64 prev, .int .i64 id, .int .i64 page, .int .i64 frm, .slice B1 k1 d1, .slice B2 k2 d2, .int .i64 next, .slice B3 k3 d3, .slice B4 k4 d4] := G0.tmp
  have zf := tt0.free
  have z1 := tt0.cell (j := 1) rfl
  have G1 := G0.put 1 (.int .i64 (-1)) (y' := (⟨kind, -1, prev, id, page, frm, before, after, next, rows, dirty⟩ : RecD)) (p' := (⟨.slice B1 k1 d1, .slice B2 k2 d2, .slice B3 k3 d3, .slice B4 k4 d4⟩ : RPl)) rfl (fun W b h => ⟨h.vb, h.va, h.vr, h.vd, h.ap⟩)
  have tt : RowC _ B 26 [.int .i64 kind, .int .i64 (-1), .int .i64 prev, .int .i64 id, .int .i64 page, .int .i64 frm, .slice B1 k1 d1, .slice B2 k2 d2, .int .i64 next, .slice B3 k3 d3, .slice B4 k4 d4] := G1.tmp
  have y0 := tt.cell (j := 0) rfl
  have y1 := tt.cell (j := 1) rfl
  have y2 := tt.cell (j := 2) rfl
  have y3 := tt.cell (j := 3) rfl
  have y4 := tt.cell (j := 4) rfl
  have y5 := tt.cell (j := 5) rfl
  have y6 := tt.cell (j := 6) rfl
  have y7 := tt.cell (j := 7) rfl
  have y8 := tt.cell (j := 8) rfl
  have y9 := tt.cell (j := 9) rfl
  have y10 := tt.cell (j := 10) rfl
  have S1 := HS.out.seg G1
  clear tt0 tt HS
  have HSP := Lib.hid S1
  go_wp2_with (at_builtin; refine wpList_push rfl _ _ rfl rfl rfl (HSP.out.below ((Below.refl _ _).alloc (Nat.le_refl _) _)) (rowC_new (by simp)) (by omega) (bad_birth (k := -1) _ (by omega) rfl) (recI_birth HI.out ⟨by omega, by omega⟩) (m := 3) (by rfl) ?_)
  intro Al cl w5 HS
  clear HSP
  replace HS := Lib.hid HS
  clear S1 y0 y1 y2 y3 y4 y5 y6 y7 y8 y9 y10 G0 G1 z1 zf
  have tz : RowC _ B 26 [.int .i64 kind, .int .i64 (-1), .int .i64 prev, .int .i64 id, .int .i64 page, .int .i64 frm, .slice B1 k1 d1, .slice B2 k2 d2, .int .i64 next, .slice B3 k3 d3, .slice B4 k4 d4] := HS.out.tmp
  have z0 := tz.cell (j := 0) rfl
  have z1 := tz.cell (j := 1) rfl
  have z2 := tz.cell (j := 2) rfl
  have z3 := tz.cell (j := 3) rfl
  have z4 := tz.cell (j := 4) rfl
  have z5 := tz.cell (j := 5) rfl
  have z6 := tz.cell (j := 6) rfl
  have z7 := tz.cell (j := 7) rfl
  have z8 := tz.cell (j := 8) rfl
  have z9 := tz.cell (j := 9) rfl
  have z10 := tz.cell (j := 10) rfl
  have zf := tz.free
  have S1 := HS.out.put 1 (.int .i64 1152921504606846977) (y' := (⟨kind, 1152921504606846977, prev, id, page, frm, before, after, next, rows, dirty⟩ : RecD)) (p' := (⟨.slice B1 k1 d1, .slice B2 k2 d2, .slice B3 k3 d3, .slice B4 k4 d4⟩ : RPl)) rfl (fun W b h => ⟨h.vb, h.va, h.vr, h.vd, h.ap⟩)
  have tt : RowC _ B 26 [.int .i64 kind, .int .i64 1152921504606846977, .int .i64 prev, .int .i64 id, .int .i64 page, .int .i64 frm, .slice B1 k1 d1, .slice B2 k2 d2, .int .i64 next, .slice B3 k3 d3, .slice B4 k4 d4] := S1.tmp
  have y0 := tt.cell (j := 0) rfl
  have y1 := tt.cell (j := 1) rfl
  have y2 := tt.cell (j := 2) rfl
  have y3 := tt.cell (j := 3) rfl
  have y4 := tt.cell (j := 4) rfl
  have y5 := tt.cell (j := 5) rfl
  have y6 := tt.cell (j := 6) rfl
  have y7 := tt.cell (j := 7) rfl
  have y8 := tt.cell (j := 8) rfl
  have y9 := tt.cell (j := 9) rfl
  have y10 := tt.cell (j := 10) rfl
  clear tz tt HS
  have HSP := Lib.hid S1
  go_wp2_with (at_builtin; refine wpList_push rfl _ _ rfl rfl rfl (HSP.out.below ((Below.refl _ _).alloc (Nat.le_refl _) _)) (rowC_new (by simp)) (by omega) (bad_birth (k := 1152921504606846977) _ (by omega) rfl) (recI_birth HI.out ⟨by omega, by omega⟩) (m := 4) (by rfl) ?_)
  intro Al cl w6 HS
  clear HSP
  replace HS := Lib.hid HS
  clear S1 zf y0 y1 y2 y3 y4 y5 y6 y7 y8 y9 y10 z0 z1 z2 z3 z4 z5 z6 z7 z8 z9 z10
  have d0 := HS.out.box.cell (j := 0) rfl
  have d1 := HS.out.box.cell (j := 1) rfl
  have d2 := HS.out.box.cell (j := 2) rfl
  have d3 := HS.out.box.cell (j := 3) rfl
  have d4 := HS.out.box.cell (j := 4) rfl
  have d5 := HS.out.box.cell (j := 5) rfl
  have d6 := HS.out.box.cell (j := 6) rfl
  have d7 := HS.out.box.cell (j := 7) rfl
  have d8 := HS.out.box.cell (j := 8) rfl
  have d9 := HS.out.box.cell (j := 9) rfl
  have d10 := HS.out.box.cell (j := 10) rfl
  go_wp2_with fail
  refine (HCP.out _ HS.out.low).mono ?_
  clear d0 d1 d2 d3 d4 d5 d6 d7 d8 d9 d10
  rintro e w7 ⟨q2, rfl, hb2, hl2⟩
  obtain ⟨B1, d1, B2, d2, B3, d3, B4, d4, hq⟩ := recLs_spell hl2
  have hq' : q2 = ⟨.slice B1 k1 d1, .slice B2 k2 d2, .slice B3 k3 d3, .slice B4 k4 d4⟩ := by rw [hq]; simp only [HK1.out, HK2.out, HK3.out, HK4.out]
  clear hq
  subst hq'
  rw [show (recC ⟨kind, birth, prev, id, page, frm, before, after, next, rows, dirty⟩ ⟨.slice B1 k1 d1, .slice B2 k2 d2, .slice B3 k3 d3, .slice B4 k4 d4⟩).toArray = #[.int .i64 kind, .int .i64 birth, .int .i64 prev, .int .i64 id, .int .i64 page, .int .i64 frm, .slice B1 k1 d1, .slice B2 k2 d2, .int .i64 next, .slice B3 k3 d3, .slice B4 k4 d4] from rfl]
  have G0 := Sg.start HS.out.tmp hb2 hl2 rfl (a0 := .int .i64 kind) (a1 := .int .i64 birth) (a2 := .int .i64 prev) (a3 := .int .i64 id) (a4 := .int .i64 page) (a5 := .int .i64 frm) (a6 := .slice B1 k1 d1) (a7 := .slice B2 k2 d2) (a8 := .int .i64 next) (a9 := .slice B3 k3 d3) (a10 := .slice B4 k4 d4) rfl
  have tz0 := HS.out.tmp.below hb2
  have zf := tz0.free
  have z0 := tz0.cell (j := 0) rfl
  have z1 := tz0.cell (j := 1) rfl
  have z2 := tz0.cell (j := 2) rfl
  have z3 := tz0.cell (j := 3) rfl
  have z4 := tz0.cell (j := 4) rfl
  have z5 := tz0.cell (j := 5) rfl
  have z6 := tz0.cell (j := 6) rfl
  have z7 := tz0.cell (j := 7) rfl
  have z8 := tz0.cell (j := 8) rfl
  have z9 := tz0.cell (j := 9) rfl
  have z10 := tz0.cell (j := 10) rfl
  go_upto_region 13 with (fail)
  obtain ⟨W7, hW⟩ : ∃ W, (((((((((((w7.setCell ⟨B, 0, none⟩ (.int .i64 kind)).setCell ⟨B, 1, none⟩ (.int .i64 birth)).setCell ⟨B, 2, none⟩ (.int .i64 prev)).setCell ⟨B, 3, none⟩ (.int .i64 id)).setCell ⟨B, 4, none⟩ (.int .i64 page)).setCell ⟨B, 5, none⟩ (.int .i64 frm)).setCell ⟨B, 6, none⟩ (.slice B1 k1 d1)).setCell ⟨B, 7, none⟩ (.slice B2 k2 d2)).setCell ⟨B, 8, none⟩ (.int .i64 next)).setCell ⟨B, 9, none⟩ (.slice B3 k3 d3)).setCell ⟨B, 10, none⟩ (.slice B4 k4 d4)) = W := ⟨_, rfl⟩
  unfold lay11 at G0
  rw [hW] at G0 ⊢
  clear hW tz0 zf z0 z1 z2 z3 z4 z5 z6 z7 z8 z9 z10 hb2 hl2
  have tt0 : RowC W7 B 26 [.int .i64 kind, .int .i64 birth, .int .i64 prev, .int .i64 id, .int .i64 page, .int .i64 frm, .slice B1 k1 d1, .slice B2 k2 d2, .int .i64 next, .slice B3 k3 d3, .slice B4 k4 d4] := G0.tmp
  have zf := tt0.free
  have z2 := tt0.cell (j := 2) rfl
  have G1 := G0.put 2 (.int .i64 (-1)) (y' := (⟨kind, birth, -1, id, page, frm, before, after, next, rows, dirty⟩ : RecD)) (p' := (⟨.slice B1 k1 d1, .slice B2 k2 d2, .slice B3 k3 d3, .slice B4 k4 d4⟩ : RPl)) rfl (fun W b h => ⟨h.vb, h.va, h.vr, h.vd, h.ap⟩)
  have tt : RowC _ B 26 [.int .i64 kind, .int .i64 birth, .int .i64 (-1), .int .i64 id, .int .i64 page, .int .i64 frm, .slice B1 k1 d1, .slice B2 k2 d2, .int .i64 next, .slice B3 k3 d3, .slice B4 k4 d4] := G1.tmp
  have y0 := tt.cell (j := 0) rfl
  have y1 := tt.cell (j := 1) rfl
  have y2 := tt.cell (j := 2) rfl
  have y3 := tt.cell (j := 3) rfl
  have y4 := tt.cell (j := 4) rfl
  have y5 := tt.cell (j := 5) rfl
  have y6 := tt.cell (j := 6) rfl
  have y7 := tt.cell (j := 7) rfl
  have y8 := tt.cell (j := 8) rfl
  have y9 := tt.cell (j := 9) rfl
  have y10 := tt.cell (j := 10) rfl
  have S1 := HS.out.seg G1
  clear tt0 tt HS
  have HSP := Lib.hid S1
  go_wp2_with (at_builtin; refine wpList_push rfl _ _ rfl rfl rfl (HSP.out.below ((Below.refl _ _).alloc (Nat.le_refl _) _)) (rowC_new (by simp)) (by omega) (bad_prev (k := -1) _ (by omega) rfl) (recI_prev HI.out ⟨by omega, by omega⟩) (m := 5) (by rfl) ?_)
  intro Al cl w8 HS
  clear HSP
  replace HS := Lib.hid HS
  clear S1 y0 y1 y2 y3 y4 y5 y6 y7 y8 y9 y10 G0 G1 z2 zf
  have d0 := HS.out.box.cell (j := 0) rfl
  have d1 := HS.out.box.cell (j := 1) rfl
  have d2 := HS.out.box.cell (j := 2) rfl
  have d3 := HS.out.box.cell (j := 3) rfl
  have d4 := HS.out.box.cell (j := 4) rfl
  have d5 := HS.out.box.cell (j := 5) rfl
  have d6 := HS.out.box.cell (j := 6) rfl
  have d7 := HS.out.box.cell (j := 7) rfl
  have d8 := HS.out.box.cell (j := 8) rfl
  have d9 := HS.out.box.cell (j := 9) rfl
  have d10 := HS.out.box.cell (j := 10) rfl
  go_wp2_with fail
  refine (HCP.out _ HS.out.low).mono ?_
  clear d0 d1 d2 d3 d4 d5 d6 d7 d8 d9 d10
  rintro e w9 ⟨q2, rfl, hb2, hl2⟩
  obtain ⟨B1, d1, B2, d2, B3, d3, B4, d4, hq⟩ := recLs_spell hl2
  have hq' : q2 = ⟨.slice B1 k1 d1, .slice B2 k2 d2, .slice B3 k3 d3, .slice B4 k4 d4⟩ := by rw [hq]; simp only [HK1.out, HK2.out, HK3.out, HK4.out]
  clear hq
  subst hq'
  rw [show (recC ⟨kind, birth, prev, id, page, frm, before, after, next, rows, dirty⟩ ⟨.slice B1 k1 d1, .slice B2 k2 d2, .slice B3 k3 d3, .slice B4 k4 d4⟩).toArray = #[.int .i64 kind, .int .i64 birth, .int .i64 prev, .int .i64 id, .int .i64 page, .int .i64 frm, .slice B1 k1 d1, .slice B2 k2 d2, .int .i64 next, .slice B3 k3 d3, .slice B4 k4 d4] from rfl]
  have G0 := Sg.start HS.out.tmp hb2 hl2 rfl (a0 := .int .i64 kind) (a1 := .int .i64 birth) (a2 := .int .i64 prev) (a3 := .int .i64 id) (a4 := .int .i64 page) (a5 := .int .i64 frm) (a6 := .slice B1 k1 d1) (a7 := .slice B2 k2 d2) (a8 := .int .i64 next) (a9 := .slice B3 k3 d3) (a10 := .slice B4 k4 d4) rfl
  have tz0 := HS.out.tmp.below hb2
  have zf := tz0.free
  have z0 := tz0.cell (j := 0) rfl
  have z1 := tz0.cell (j := 1) rfl
  have z2 := tz0.cell (j := 2) rfl
  have z3 := tz0.cell (j := 3) rfl
  have z4 := tz0.cell (j := 4) rfl
  have z5 := tz0.cell (j := 5) rfl
  have z6 := tz0.cell (j := 6) rfl
  have z7 := tz0.cell (j := 7) rfl
  have z8 := tz0.cell (j := 8) rfl
  have z9 := tz0.cell (j := 9) rfl
  have z10 := tz0.cell (j := 10) rfl
  go_upto_region 16 with (fail)
  obtain ⟨W9, hW⟩ : ∃ W, (((((((((((w9.setCell ⟨B, 0, none⟩ (.int .i64 kind)).setCell ⟨B, 1, none⟩ (.int .i64 birth)).setCell ⟨B, 2, none⟩ (.int .i64 prev)).setCell ⟨B, 3, none⟩ (.int .i64 id)).setCell ⟨B, 4, none⟩ (.int .i64 page)).setCell ⟨B, 5, none⟩ (.int .i64 frm)).setCell ⟨B, 6, none⟩ (.slice B1 k1 d1)).setCell ⟨B, 7, none⟩ (.slice B2 k2 d2)).setCell ⟨B, 8, none⟩ (.int .i64 next)).setCell ⟨B, 9, none⟩ (.slice B3 k3 d3)).setCell ⟨B, 10, none⟩ (.slice B4 k4 d4)) = W := ⟨_, rfl⟩
  unfold lay11 at G0
  rw [hW] at G0 ⊢
  clear hW tz0 zf z0 z1 z2 z3 z4 z5 z6 z7 z8 z9 z10 hb2 hl2
  have tt0 : RowC W9 B 26 [.int .i64 kind, .int .i64 birth, .int .i64 prev, .int .i64 id, .int .i64 page, .int .i64 frm, .slice B1 k1 d1, .slice B2 k2 d2, .int .i64 next, .slice B3 k3 d3, .slice B4 k4 d4] := G0.tmp
  have zf := tt0.free
  have z8 := tt0.cell (j := 8) rfl
  have G1 := G0.put 8 (.int .i64 (-1)) (y' := (⟨kind, birth, prev, id, page, frm, before, after, -1, rows, dirty⟩ : RecD)) (p' := (⟨.slice B1 k1 d1, .slice B2 k2 d2, .slice B3 k3 d3, .slice B4 k4 d4⟩ : RPl)) rfl (fun W b h => ⟨h.vb, h.va, h.vr, h.vd, h.ap⟩)
  have tt : RowC _ B 26 [.int .i64 kind, .int .i64 birth, .int .i64 prev, .int .i64 id, .int .i64 page, .int .i64 frm, .slice B1 k1 d1, .slice B2 k2 d2, .int .i64 (-1), .slice B3 k3 d3, .slice B4 k4 d4] := G1.tmp
  have y0 := tt.cell (j := 0) rfl
  have y1 := tt.cell (j := 1) rfl
  have y2 := tt.cell (j := 2) rfl
  have y3 := tt.cell (j := 3) rfl
  have y4 := tt.cell (j := 4) rfl
  have y5 := tt.cell (j := 5) rfl
  have y6 := tt.cell (j := 6) rfl
  have y7 := tt.cell (j := 7) rfl
  have y8 := tt.cell (j := 8) rfl
  have y9 := tt.cell (j := 9) rfl
  have y10 := tt.cell (j := 10) rfl
  have S1 := HS.out.seg G1
  clear tt0 tt HS
  have HSP := Lib.hid S1
  go_wp2_with (at_builtin; refine wpList_push rfl _ _ rfl rfl rfl (HSP.out.below ((Below.refl _ _).alloc (Nat.le_refl _) _)) (rowC_new (by simp)) (by omega) (bad_next (k := -1) _ (by omega) rfl) (recI_next HI.out ⟨by omega, by omega⟩) (m := 6) (by rfl) ?_)
  intro Al cl w10 HS
  clear HSP
  replace HS := Lib.hid HS
  clear S1 y0 y1 y2 y3 y4 y5 y6 y7 y8 y9 y10 G0 G1 z8 zf
  have tz : RowC _ B 26 [.int .i64 kind, .int .i64 birth, .int .i64 prev, .int .i64 id, .int .i64 page, .int .i64 frm, .slice B1 k1 d1, .slice B2 k2 d2, .int .i64 (-1), .slice B3 k3 d3, .slice B4 k4 d4] := HS.out.tmp
  have z0 := tz.cell (j := 0) rfl
  have z1 := tz.cell (j := 1) rfl
  have z2 := tz.cell (j := 2) rfl
  have z3 := tz.cell (j := 3) rfl
  have z4 := tz.cell (j := 4) rfl
  have z5 := tz.cell (j := 5) rfl
  have z6 := tz.cell (j := 6) rfl
  have z7 := tz.cell (j := 7) rfl
  have z8 := tz.cell (j := 8) rfl
  have z9 := tz.cell (j := 9) rfl
  have z10 := tz.cell (j := 10) rfl
  have zf := tz.free
  have S1 := HS.out.put 8 (.int .i64 1152921504606846977) (y' := (⟨kind, birth, prev, id, page, frm, before, after, 1152921504606846977, rows, dirty⟩ : RecD)) (p' := (⟨.slice B1 k1 d1, .slice B2 k2 d2, .slice B3 k3 d3, .slice B4 k4 d4⟩ : RPl)) rfl (fun W b h => ⟨h.vb, h.va, h.vr, h.vd, h.ap⟩)
  have tt : RowC _ B 26 [.int .i64 kind, .int .i64 birth, .int .i64 prev, .int .i64 id, .int .i64 page, .int .i64 frm, .slice B1 k1 d1, .slice B2 k2 d2, .int .i64 1152921504606846977, .slice B3 k3 d3, .slice B4 k4 d4] := S1.tmp
  have y0 := tt.cell (j := 0) rfl
  have y1 := tt.cell (j := 1) rfl
  have y2 := tt.cell (j := 2) rfl
  have y3 := tt.cell (j := 3) rfl
  have y4 := tt.cell (j := 4) rfl
  have y5 := tt.cell (j := 5) rfl
  have y6 := tt.cell (j := 6) rfl
  have y7 := tt.cell (j := 7) rfl
  have y8 := tt.cell (j := 8) rfl
  have y9 := tt.cell (j := 9) rfl
  have y10 := tt.cell (j := 10) rfl
  clear tz tt HS
  have HSP := Lib.hid S1
  go_wp2_with (at_builtin; refine wpList_push rfl _ _ rfl rfl rfl (HSP.out.below ((Below.refl _ _).alloc (Nat.le_refl _) _)) (rowC_new (by simp)) (by omega) (bad_next (k := 1152921504606846977) _ (by omega) rfl) (recI_next HI.out ⟨by omega, by omega⟩) (m := 7) (by rfl) ?_)
  intro Al cl w11 HS
  clear HSP
  replace HS := Lib.hid HS
  clear S1 zf y0 y1 y2 y3 y4 y5 y6 y7 y8 y9 y10 z0 z1 z2 z3 z4 z5 z6 z7 z8 z9 z10
  have d0 := HS.out.box.cell (j := 0) rfl
  have d1 := HS.out.box.cell (j := 1) rfl
  have d2 := HS.out.box.cell (j := 2) rfl
  have d3 := HS.out.box.cell (j := 3) rfl
  have d4 := HS.out.box.cell (j := 4) rfl
  have d5 := HS.out.box.cell (j := 5) rfl
  have d6 := HS.out.box.cell (j := 6) rfl
  have d7 := HS.out.box.cell (j := 7) rfl
  have d8 := HS.out.box.cell (j := 8) rfl
  have d9 := HS.out.box.cell (j := 9) rfl
  have d10 := HS.out.box.cell (j := 10) rfl
  go_wp2_with fail
  refine (HCP.out _ HS.out.low).mono ?_
  clear d0 d1 d2 d3 d4 d5 d6 d7 d8 d9 d10
  rintro e w12 ⟨q2, rfl, hb2, hl2⟩
  obtain ⟨B1, d1, B2, d2, B3, d3, B4, d4, hq⟩ := recLs_spell hl2
  have hq' : q2 = ⟨.slice B1 k1 d1, .slice B2 k2 d2, .slice B3 k3 d3, .slice B4 k4 d4⟩ := by rw [hq]; simp only [HK1.out, HK2.out, HK3.out, HK4.out]
  clear hq
  subst hq'
  rw [show (recC ⟨kind, birth, prev, id, page, frm, before, after, next, rows, dirty⟩ ⟨.slice B1 k1 d1, .slice B2 k2 d2, .slice B3 k3 d3, .slice B4 k4 d4⟩).toArray = #[.int .i64 kind, .int .i64 birth, .int .i64 prev, .int .i64 id, .int .i64 page, .int .i64 frm, .slice B1 k1 d1, .slice B2 k2 d2, .int .i64 next, .slice B3 k3 d3, .slice B4 k4 d4] from rfl]
  have G0 := Sg.start HS.out.tmp hb2 hl2 rfl (a0 := .int .i64 kind) (a1 := .int .i64 birth) (a2 := .int .i64 prev) (a3 := .int .i64 id) (a4 := .int .i64 page) (a5 := .int .i64 frm) (a6 := .slice B1 k1 d1) (a7 := .slice B2 k2 d2) (a8 := .int .i64 next) (a9 := .slice B3 k3 d3) (a10 := .slice B4 k4 d4) rfl
  have tz0 := HS.out.tmp.below hb2
  have zf := tz0.free
  have z0 := tz0.cell (j := 0) rfl
  have z1 := tz0.cell (j := 1) rfl
  have z2 := tz0.cell (j := 2) rfl
  have z3 := tz0.cell (j := 3) rfl
  have z4 := tz0.cell (j := 4) rfl
  have z5 := tz0.cell (j := 5) rfl
  have z6 := tz0.cell (j := 6) rfl
  have z7 := tz0.cell (j := 7) rfl
  have z8 := tz0.cell (j := 8) rfl
  have z9 := tz0.cell (j := 9) rfl
  have z10 := tz0.cell (j := 10) rfl
  go_upto_region 21 with (fail)
  obtain ⟨W12, hW⟩ : ∃ W, (((((((((((w12.setCell ⟨B, 0, none⟩ (.int .i64 kind)).setCell ⟨B, 1, none⟩ (.int .i64 birth)).setCell ⟨B, 2, none⟩ (.int .i64 prev)).setCell ⟨B, 3, none⟩ (.int .i64 id)).setCell ⟨B, 4, none⟩ (.int .i64 page)).setCell ⟨B, 5, none⟩ (.int .i64 frm)).setCell ⟨B, 6, none⟩ (.slice B1 k1 d1)).setCell ⟨B, 7, none⟩ (.slice B2 k2 d2)).setCell ⟨B, 8, none⟩ (.int .i64 next)).setCell ⟨B, 9, none⟩ (.slice B3 k3 d3)).setCell ⟨B, 10, none⟩ (.slice B4 k4 d4)) = W := ⟨_, rfl⟩
  unfold lay11 at G0
  rw [hW] at G0 ⊢
  clear hW tz0 zf z0 z1 z2 z3 z4 z5 z6 z7 z8 z9 z10 hb2 hl2
  have tt0 : RowC W12 B 26 [.int .i64 kind, .int .i64 birth, .int .i64 prev, .int .i64 id, .int .i64 page, .int .i64 frm, .slice B1 k1 d1, .slice B2 k2 d2, .int .i64 next, .slice B3 k3 d3, .slice B4 k4 d4] := G0.tmp
  have zf := tt0.free
  have z3 := tt0.cell (j := 3) rfl
  have G1 := G0.put 3 (.int .i64 65) (y' := (⟨kind, birth, prev, 65, page, frm, before, after, next, rows, dirty⟩ : RecD)) (p' := (⟨.slice B1 k1 d1, .slice B2 k2 d2, .slice B3 k3 d3, .slice B4 k4 d4⟩ : RPl)) rfl (fun W b h => ⟨h.vb, h.va, h.vr, h.vd, h.ap⟩)
  have tt : RowC _ B 26 [.int .i64 kind, .int .i64 birth, .int .i64 prev, .int .i64 65, .int .i64 page, .int .i64 frm, .slice B1 k1 d1, .slice B2 k2 d2, .int .i64 next, .slice B3 k3 d3, .slice B4 k4 d4] := G1.tmp
  have y0 := tt.cell (j := 0) rfl
  have y1 := tt.cell (j := 1) rfl
  have y2 := tt.cell (j := 2) rfl
  have y3 := tt.cell (j := 3) rfl
  have y4 := tt.cell (j := 4) rfl
  have y5 := tt.cell (j := 5) rfl
  have y6 := tt.cell (j := 6) rfl
  have y7 := tt.cell (j := 7) rfl
  have y8 := tt.cell (j := 8) rfl
  have y9 := tt.cell (j := 9) rfl
  have y10 := tt.cell (j := 10) rfl
  have S1 := HS.out.seg G1
  clear tt0 tt HS
  have HSP := Lib.hid S1
  go_wp2_with (at_builtin; refine wpList_push rfl _ _ rfl rfl rfl (HSP.out.below ((Below.refl _ _).alloc (Nat.le_refl _) _)) (rowC_new (by simp)) (by omega) (bad_id (k := 65) _ (by omega) rfl) (recI_id HI.out ⟨by omega, by omega⟩) (m := 8) (by rfl) ?_)
  intro Al cl w13 HS
  clear HSP
  replace HS := Lib.hid HS
  clear S1 y0 y1 y2 y3 y4 y5 y6 y7 y8 y9 y10 G0 G1 z3 zf
  have d0 := HS.out.box.cell (j := 0) rfl
  have d1 := HS.out.box.cell (j := 1) rfl
  have d2 := HS.out.box.cell (j := 2) rfl
  have d3 := HS.out.box.cell (j := 3) rfl
  have d4 := HS.out.box.cell (j := 4) rfl
  have d5 := HS.out.box.cell (j := 5) rfl
  have d6 := HS.out.box.cell (j := 6) rfl
  have d7 := HS.out.box.cell (j := 7) rfl
  have d8 := HS.out.box.cell (j := 8) rfl
  have d9 := HS.out.box.cell (j := 9) rfl
  have d10 := HS.out.box.cell (j := 10) rfl
  go_wp2_with fail
  refine (HCP.out _ HS.out.low).mono ?_
  clear d0 d1 d2 d3 d4 d5 d6 d7 d8 d9 d10
  rintro e w14 ⟨q2, rfl, hb2, hl2⟩
  obtain ⟨B1, d1, B2, d2, B3, d3, B4, d4, hq⟩ := recLs_spell hl2
  have hq' : q2 = ⟨.slice B1 k1 d1, .slice B2 k2 d2, .slice B3 k3 d3, .slice B4 k4 d4⟩ := by rw [hq]; simp only [HK1.out, HK2.out, HK3.out, HK4.out]
  clear hq
  subst hq'
  rw [show (recC ⟨kind, birth, prev, id, page, frm, before, after, next, rows, dirty⟩ ⟨.slice B1 k1 d1, .slice B2 k2 d2, .slice B3 k3 d3, .slice B4 k4 d4⟩).toArray = #[.int .i64 kind, .int .i64 birth, .int .i64 prev, .int .i64 id, .int .i64 page, .int .i64 frm, .slice B1 k1 d1, .slice B2 k2 d2, .int .i64 next, .slice B3 k3 d3, .slice B4 k4 d4] from rfl]
  have G0 := Sg.start HS.out.tmp hb2 hl2 rfl (a0 := .int .i64 kind) (a1 := .int .i64 birth) (a2 := .int .i64 prev) (a3 := .int .i64 id) (a4 := .int .i64 page) (a5 := .int .i64 frm) (a6 := .slice B1 k1 d1) (a7 := .slice B2 k2 d2) (a8 := .int .i64 next) (a9 := .slice B3 k3 d3) (a10 := .slice B4 k4 d4) rfl
  have tz0 := HS.out.tmp.below hb2
  have zf := tz0.free
  have z0 := tz0.cell (j := 0) rfl
  have z1 := tz0.cell (j := 1) rfl
  have z2 := tz0.cell (j := 2) rfl
  have z3 := tz0.cell (j := 3) rfl
  have z4 := tz0.cell (j := 4) rfl
  have z5 := tz0.cell (j := 5) rfl
  have z6 := tz0.cell (j := 6) rfl
  have z7 := tz0.cell (j := 7) rfl
  have z8 := tz0.cell (j := 8) rfl
  have z9 := tz0.cell (j := 9) rfl
  have z10 := tz0.cell (j := 10) rfl
  go_upto_region 24 with (fail)
  obtain ⟨W14, hW⟩ : ∃ W, (((((((((((w14.setCell ⟨B, 0, none⟩ (.int .i64 kind)).setCell ⟨B, 1, none⟩ (.int .i64 birth)).setCell ⟨B, 2, none⟩ (.int .i64 prev)).setCell ⟨B, 3, none⟩ (.int .i64 id)).setCell ⟨B, 4, none⟩ (.int .i64 page)).setCell ⟨B, 5, none⟩ (.int .i64 frm)).setCell ⟨B, 6, none⟩ (.slice B1 k1 d1)).setCell ⟨B, 7, none⟩ (.slice B2 k2 d2)).setCell ⟨B, 8, none⟩ (.int .i64 next)).setCell ⟨B, 9, none⟩ (.slice B3 k3 d3)).setCell ⟨B, 10, none⟩ (.slice B4 k4 d4)) = W := ⟨_, rfl⟩
  unfold lay11 at G0
  rw [hW] at G0 ⊢
  clear hW tz0 zf z0 z1 z2 z3 z4 z5 z6 z7 z8 z9 z10 hb2 hl2
  have tt0 : RowC W14 B 26 [.int .i64 kind, .int .i64 birth, .int .i64 prev, .int .i64 id, .int .i64 page, .int .i64 frm, .slice B1 k1 d1, .slice B2 k2 d2, .int .i64 next, .slice B3 k3 d3, .slice B4 k4 d4] := G0.tmp
  have zf := tt0.free
  have z4 := tt0.cell (j := 4) rfl
  have G1 := G0.put 4 (.int .i64 16) (y' := (⟨kind, birth, prev, id, 16, frm, before, after, next, rows, dirty⟩ : RecD)) (p' := (⟨.slice B1 k1 d1, .slice B2 k2 d2, .slice B3 k3 d3, .slice B4 k4 d4⟩ : RPl)) rfl (fun W b h => ⟨h.vb, h.va, h.vr, h.vd, h.ap⟩)
  have tt : RowC _ B 26 [.int .i64 kind, .int .i64 birth, .int .i64 prev, .int .i64 id, .int .i64 16, .int .i64 frm, .slice B1 k1 d1, .slice B2 k2 d2, .int .i64 next, .slice B3 k3 d3, .slice B4 k4 d4] := G1.tmp
  have y0 := tt.cell (j := 0) rfl
  have y1 := tt.cell (j := 1) rfl
  have y2 := tt.cell (j := 2) rfl
  have y3 := tt.cell (j := 3) rfl
  have y4 := tt.cell (j := 4) rfl
  have y5 := tt.cell (j := 5) rfl
  have y6 := tt.cell (j := 6) rfl
  have y7 := tt.cell (j := 7) rfl
  have y8 := tt.cell (j := 8) rfl
  have y9 := tt.cell (j := 9) rfl
  have y10 := tt.cell (j := 10) rfl
  have S1 := HS.out.seg G1
  clear tt0 tt HS
  have HSP := Lib.hid S1
  go_wp2_with (at_builtin; refine wpList_push rfl _ _ rfl rfl rfl (HSP.out.below ((Below.refl _ _).alloc (Nat.le_refl _) _)) (rowC_new (by simp)) (by omega) (bad_page (k := 16) _ (by omega) rfl) (recI_page HI.out ⟨by omega, by omega⟩) (m := 9) (by rfl) ?_)
  intro Al cl w15 HS
  clear HSP
  replace HS := Lib.hid HS
  clear S1 y0 y1 y2 y3 y4 y5 y6 y7 y8 y9 y10 G0 G1 z4 zf
  have d0 := HS.out.box.cell (j := 0) rfl
  have d1 := HS.out.box.cell (j := 1) rfl
  have d2 := HS.out.box.cell (j := 2) rfl
  have d3 := HS.out.box.cell (j := 3) rfl
  have d4 := HS.out.box.cell (j := 4) rfl
  have d5 := HS.out.box.cell (j := 5) rfl
  have d6 := HS.out.box.cell (j := 6) rfl
  have d7 := HS.out.box.cell (j := 7) rfl
  have d8 := HS.out.box.cell (j := 8) rfl
  have d9 := HS.out.box.cell (j := 9) rfl
  have d10 := HS.out.box.cell (j := 10) rfl
  go_wp2_with fail
  refine (HCP.out _ HS.out.low).mono ?_
  clear d0 d1 d2 d3 d4 d5 d6 d7 d8 d9 d10
  rintro e w16 ⟨q2, rfl, hb2, hl2⟩
  obtain ⟨B1, d1, B2, d2, B3, d3, B4, d4, hq⟩ := recLs_spell hl2
  have hq' : q2 = ⟨.slice B1 k1 d1, .slice B2 k2 d2, .slice B3 k3 d3, .slice B4 k4 d4⟩ := by rw [hq]; simp only [HK1.out, HK2.out, HK3.out, HK4.out]
  clear hq
  subst hq'
  rw [show (recC ⟨kind, birth, prev, id, page, frm, before, after, next, rows, dirty⟩ ⟨.slice B1 k1 d1, .slice B2 k2 d2, .slice B3 k3 d3, .slice B4 k4 d4⟩).toArray = #[.int .i64 kind, .int .i64 birth, .int .i64 prev, .int .i64 id, .int .i64 page, .int .i64 frm, .slice B1 k1 d1, .slice B2 k2 d2, .int .i64 next, .slice B3 k3 d3, .slice B4 k4 d4] from rfl]
  have G0 := Sg.start HS.out.tmp hb2 hl2 rfl (a0 := .int .i64 kind) (a1 := .int .i64 birth) (a2 := .int .i64 prev) (a3 := .int .i64 id) (a4 := .int .i64 page) (a5 := .int .i64 frm) (a6 := .slice B1 k1 d1) (a7 := .slice B2 k2 d2) (a8 := .int .i64 next) (a9 := .slice B3 k3 d3) (a10 := .slice B4 k4 d4) rfl
  have tz0 := HS.out.tmp.below hb2
  have zf := tz0.free
  have z0 := tz0.cell (j := 0) rfl
  have z1 := tz0.cell (j := 1) rfl
  have z2 := tz0.cell (j := 2) rfl
  have z3 := tz0.cell (j := 3) rfl
  have z4 := tz0.cell (j := 4) rfl
  have z5 := tz0.cell (j := 5) rfl
  have z6 := tz0.cell (j := 6) rfl
  have z7 := tz0.cell (j := 7) rfl
  have z8 := tz0.cell (j := 8) rfl
  have z9 := tz0.cell (j := 9) rfl
  have z10 := tz0.cell (j := 10) rfl
  go_upto_region 27 with (fail)
  obtain ⟨W16, hW⟩ : ∃ W, (((((((((((w16.setCell ⟨B, 0, none⟩ (.int .i64 kind)).setCell ⟨B, 1, none⟩ (.int .i64 birth)).setCell ⟨B, 2, none⟩ (.int .i64 prev)).setCell ⟨B, 3, none⟩ (.int .i64 id)).setCell ⟨B, 4, none⟩ (.int .i64 page)).setCell ⟨B, 5, none⟩ (.int .i64 frm)).setCell ⟨B, 6, none⟩ (.slice B1 k1 d1)).setCell ⟨B, 7, none⟩ (.slice B2 k2 d2)).setCell ⟨B, 8, none⟩ (.int .i64 next)).setCell ⟨B, 9, none⟩ (.slice B3 k3 d3)).setCell ⟨B, 10, none⟩ (.slice B4 k4 d4)) = W := ⟨_, rfl⟩
  unfold lay11 at G0
  rw [hW] at G0 ⊢
  clear hW tz0 zf z0 z1 z2 z3 z4 z5 z6 z7 z8 z9 z10 hb2 hl2
  have tt0 : RowC W16 B 26 [.int .i64 kind, .int .i64 birth, .int .i64 prev, .int .i64 id, .int .i64 page, .int .i64 frm, .slice B1 k1 d1, .slice B2 k2 d2, .int .i64 next, .slice B3 k3 d3, .slice B4 k4 d4] := G0.tmp
  have zf := tt0.free
  have z5 := tt0.cell (j := 5) rfl
  have G1 := G0.put 5 (.int .i64 145) (y' := (⟨kind, birth, prev, id, page, 145, before, after, next, rows, dirty⟩ : RecD)) (p' := (⟨.slice B1 k1 d1, .slice B2 k2 d2, .slice B3 k3 d3, .slice B4 k4 d4⟩ : RPl)) rfl (fun W b h => ⟨h.vb, h.va, h.vr, h.vd, h.ap⟩)
  have tt : RowC _ B 26 [.int .i64 kind, .int .i64 birth, .int .i64 prev, .int .i64 id, .int .i64 page, .int .i64 145, .slice B1 k1 d1, .slice B2 k2 d2, .int .i64 next, .slice B3 k3 d3, .slice B4 k4 d4] := G1.tmp
  have y0 := tt.cell (j := 0) rfl
  have y1 := tt.cell (j := 1) rfl
  have y2 := tt.cell (j := 2) rfl
  have y3 := tt.cell (j := 3) rfl
  have y4 := tt.cell (j := 4) rfl
  have y5 := tt.cell (j := 5) rfl
  have y6 := tt.cell (j := 6) rfl
  have y7 := tt.cell (j := 7) rfl
  have y8 := tt.cell (j := 8) rfl
  have y9 := tt.cell (j := 9) rfl
  have y10 := tt.cell (j := 10) rfl
  have S1 := HS.out.seg G1
  clear tt0 tt HS
  have HSP := Lib.hid S1
  go_wp2_with (at_builtin; refine wpList_push rfl _ _ rfl rfl rfl (HSP.out.below ((Below.refl _ _).alloc (Nat.le_refl _) _)) (rowC_new (by simp)) (by omega) (bad_frm (k := 145) _ (by omega) rfl) (recI_frm HI.out ⟨by omega, by omega⟩) (m := 10) (by rfl) ?_)
  intro Al cl w17 HS
  clear HSP
  replace HS := Lib.hid HS
  clear S1 y0 y1 y2 y3 y4 y5 y6 y7 y8 y9 y10 G0 G1 z5 zf
  have tz : RowC _ B 26 [.int .i64 kind, .int .i64 birth, .int .i64 prev, .int .i64 id, .int .i64 page, .int .i64 145, .slice B1 k1 d1, .slice B2 k2 d2, .int .i64 next, .slice B3 k3 d3, .slice B4 k4 d4] := HS.out.tmp
  have z0 := tz.cell (j := 0) rfl
  have z1 := tz.cell (j := 1) rfl
  have z2 := tz.cell (j := 2) rfl
  have z3 := tz.cell (j := 3) rfl
  have z4 := tz.cell (j := 4) rfl
  have z5 := tz.cell (j := 5) rfl
  have z6 := tz.cell (j := 6) rfl
  have z7 := tz.cell (j := 7) rfl
  have z8 := tz.cell (j := 8) rfl
  have z9 := tz.cell (j := 9) rfl
  have z10 := tz.cell (j := 10) rfl
  have zf := tz.free
  have S1 := HS.out.put 5 (.int .i64 4611686018427387904) (y' := (⟨kind, birth, prev, id, page, 4611686018427387904, before, after, next, rows, dirty⟩ : RecD)) (p' := (⟨.slice B1 k1 d1, .slice B2 k2 d2, .slice B3 k3 d3, .slice B4 k4 d4⟩ : RPl)) rfl (fun W b h => ⟨h.vb, h.va, h.vr, h.vd, h.ap⟩)
  have tt : RowC _ B 26 [.int .i64 kind, .int .i64 birth, .int .i64 prev, .int .i64 id, .int .i64 page, .int .i64 4611686018427387904, .slice B1 k1 d1, .slice B2 k2 d2, .int .i64 next, .slice B3 k3 d3, .slice B4 k4 d4] := S1.tmp
  have y0 := tt.cell (j := 0) rfl
  have y1 := tt.cell (j := 1) rfl
  have y2 := tt.cell (j := 2) rfl
  have y3 := tt.cell (j := 3) rfl
  have y4 := tt.cell (j := 4) rfl
  have y5 := tt.cell (j := 5) rfl
  have y6 := tt.cell (j := 6) rfl
  have y7 := tt.cell (j := 7) rfl
  have y8 := tt.cell (j := 8) rfl
  have y9 := tt.cell (j := 9) rfl
  have y10 := tt.cell (j := 10) rfl
  clear tz tt HS
  have HSP := Lib.hid S1
  go_wp2_with (at_builtin; refine wpList_push rfl _ _ rfl rfl rfl (HSP.out.below ((Below.refl _ _).alloc (Nat.le_refl _) _)) (rowC_new (by simp)) (by omega) (bad_frm (k := 4611686018427387904) _ (by omega) rfl) (recI_frm HI.out ⟨by omega, by omega⟩) (m := 11) (by rfl) ?_)
  intro Al cl w18 HS
  clear HSP
  replace HS := Lib.hid HS
  clear S1 zf y0 y1 y2 y3 y4 y5 y6 y7 y8 y9 y10 z0 z1 z2 z3 z4 z5 z6 z7 z8 z9 z10
  have d0 := HS.out.box.cell (j := 0) rfl
  have d1 := HS.out.box.cell (j := 1) rfl
  have d2 := HS.out.box.cell (j := 2) rfl
  have d3 := HS.out.box.cell (j := 3) rfl
  have d4 := HS.out.box.cell (j := 4) rfl
  have d5 := HS.out.box.cell (j := 5) rfl
  have d6 := HS.out.box.cell (j := 6) rfl
  have d7 := HS.out.box.cell (j := 7) rfl
  have d8 := HS.out.box.cell (j := 8) rfl
  have d9 := HS.out.box.cell (j := 9) rfl
  have d10 := HS.out.box.cell (j := 10) rfl
  go_wp2_with fail
  refine (HCP.out _ HS.out.low).mono ?_
  clear d0 d1 d2 d3 d4 d5 d6 d7 d8 d9 d10
  rintro e w19 ⟨q2, rfl, hb2, hl2⟩
  obtain ⟨B1, d1, B2, d2, B3, d3, B4, d4, hq⟩ := recLs_spell hl2
  have hq' : q2 = ⟨.slice B1 k1 d1, .slice B2 k2 d2, .slice B3 k3 d3, .slice B4 k4 d4⟩ := by rw [hq]; simp only [HK1.out, HK2.out, HK3.out, HK4.out]
  clear hq
  subst hq'
  rw [show (recC ⟨kind, birth, prev, id, page, frm, before, after, next, rows, dirty⟩ ⟨.slice B1 k1 d1, .slice B2 k2 d2, .slice B3 k3 d3, .slice B4 k4 d4⟩).toArray = #[.int .i64 kind, .int .i64 birth, .int .i64 prev, .int .i64 id, .int .i64 page, .int .i64 frm, .slice B1 k1 d1, .slice B2 k2 d2, .int .i64 next, .slice B3 k3 d3, .slice B4 k4 d4] from rfl]
  have G0 := Sg.start HS.out.tmp hb2 hl2 rfl (a0 := .int .i64 kind) (a1 := .int .i64 birth) (a2 := .int .i64 prev) (a3 := .int .i64 id) (a4 := .int .i64 page) (a5 := .int .i64 frm) (a6 := .slice B1 k1 d1) (a7 := .slice B2 k2 d2) (a8 := .int .i64 next) (a9 := .slice B3 k3 d3) (a10 := .slice B4 k4 d4) rfl
  have tz0 := HS.out.tmp.below hb2
  have zf := tz0.free
  have z0 := tz0.cell (j := 0) rfl
  have z1 := tz0.cell (j := 1) rfl
  have z2 := tz0.cell (j := 2) rfl
  have z3 := tz0.cell (j := 3) rfl
  have z4 := tz0.cell (j := 4) rfl
  have z5 := tz0.cell (j := 5) rfl
  have z6 := tz0.cell (j := 6) rfl
  have z7 := tz0.cell (j := 7) rfl
  have z8 := tz0.cell (j := 8) rfl
  have z9 := tz0.cell (j := 9) rfl
  have z10 := tz0.cell (j := 10) rfl
  go_upto_region 32 with (fail)
  obtain ⟨W19, hW⟩ : ∃ W, (((((((((((w19.setCell ⟨B, 0, none⟩ (.int .i64 kind)).setCell ⟨B, 1, none⟩ (.int .i64 birth)).setCell ⟨B, 2, none⟩ (.int .i64 prev)).setCell ⟨B, 3, none⟩ (.int .i64 id)).setCell ⟨B, 4, none⟩ (.int .i64 page)).setCell ⟨B, 5, none⟩ (.int .i64 frm)).setCell ⟨B, 6, none⟩ (.slice B1 k1 d1)).setCell ⟨B, 7, none⟩ (.slice B2 k2 d2)).setCell ⟨B, 8, none⟩ (.int .i64 next)).setCell ⟨B, 9, none⟩ (.slice B3 k3 d3)).setCell ⟨B, 10, none⟩ (.slice B4 k4 d4)) = W := ⟨_, rfl⟩
  unfold lay11 at G0
  rw [hW] at G0 ⊢
  clear hW tz0 zf z0 z1 z2 z3 z4 z5 z6 z7 z8 z9 z10 hb2 hl2
  have tt0 : RowC W19 B 26 [.int .i64 kind, .int .i64 birth, .int .i64 prev, .int .i64 id, .int .i64 page, .int .i64 frm, .slice B1 k1 d1, .slice B2 k2 d2, .int .i64 next, .slice B3 k3 d3, .slice B4 k4 d4] := G0.tmp
  have zf := tt0.free
  have x6 := tt0.cell (j := 6) rfl
  have HG := Lib.hid G0
  clear tt0 G0
  go_wp2_with (at_builtin; refine wpList_app2 (l := before) (m := [1]) rfl _ _ rfl tU8 rfl (HG.out.cur.vb.alloc _) rfl rfl (Rda.box _ _ 1 1 rfl) (by rw [HK1.out]; simp only [List.length_singleton]; omega) (Nat.le_trans HG.out.kept.size (by simp)) ?_)
  intro v' w20 o3 hw3
  obtain ⟨B5, d5, rfl, _⟩ := own_rda o3
  have hlen : (before ++ [(1 : UInt8)]).length = k1 + 1 := by rw [List.length_append, HK1.out]; rfl
  rw [hlen] at o3 hw3 ⊢
  have G1 := (HG.out.below ((Below.refl _ _).alloc (Nat.le_refl _) _)).bef o3 hw3
  have tz1 : RowC w20 B 26 _ := (HG.out.tmp.below ((Below.refl _ _).alloc (Nat.le_refl _) (.cells #[.int .u8 1] 5))).grown hw3.grown (fun e => by have h1 := (World.ownsRow.lt HG.out.cur.vb B e).1; have h2 := HG.out.hB; omega)
  have zf2 := tz1.free
  have z6 := tz1.cell (j := 6) rfl
  have tt0 := G1.tmp
  clear hw3 o3 x6 zf tz1
  have tt : RowC _ B 26 [.int .i64 kind, .int .i64 birth, .int .i64 prev, .int .i64 id, .int .i64 page, .int .i64 frm, .slice B5 (k1 + 1) d5, .slice B2 k2 d2, .int .i64 next, .slice B3 k3 d3, .slice B4 k4 d4] := G1.tmp
  have y0 := tt.cell (j := 0) rfl
  have y1 := tt.cell (j := 1) rfl
  have y2 := tt.cell (j := 2) rfl
  have y3 := tt.cell (j := 3) rfl
  have y4 := tt.cell (j := 4) rfl
  have y5 := tt.cell (j := 5) rfl
  have y6 := tt.cell (j := 6) rfl
  have y7 := tt.cell (j := 7) rfl
  have y8 := tt.cell (j := 8) rfl
  have y9 := tt.cell (j := 9) rfl
  have y10 := tt.cell (j := 10) rfl
  have S1 := HS.out.seg G1
  clear tt0 tt HS
  have HSP := Lib.hid S1
  go_wp2_with (at_builtin; refine wpList_push rfl _ _ rfl rfl rfl (HSP.out.below ((Below.refl _ _).alloc (Nat.le_refl _) _)) (rowC_new (by simp)) (by omega) (bad_before HX.out 1) (recI_before HI.out (by simp only [List.length_append, List.length_singleton]; exact Nat.le_trans (Nat.succ_le_succ (bef128 HA.out)) (by decide))) (m := 12) (by rfl) ?_)
  intro Al cl w21 HS
  clear HSP
  replace HS := Lib.hid HS
  clear S1 y0 y1 y2 y3 y4 y5 y6 y7 y8 y9 y10 HG G1 z6 zf2 hlen
  have d0 := HS.out.box.cell (j := 0) rfl
  have d1 := HS.out.box.cell (j := 1) rfl
  have d2 := HS.out.box.cell (j := 2) rfl
  have d3 := HS.out.box.cell (j := 3) rfl
  have d4 := HS.out.box.cell (j := 4) rfl
  have d5 := HS.out.box.cell (j := 5) rfl
  have d6 := HS.out.box.cell (j := 6) rfl
  have d7 := HS.out.box.cell (j := 7) rfl
  have d8 := HS.out.box.cell (j := 8) rfl
  have d9 := HS.out.box.cell (j := 9) rfl
  have d10 := HS.out.box.cell (j := 10) rfl
  go_wp2_with fail
  refine (HCP.out _ HS.out.low).mono ?_
  clear d0 d1 d2 d3 d4 d5 d6 d7 d8 d9 d10
  rintro e w22 ⟨q2, rfl, hb2, hl2⟩
  obtain ⟨B1, d1, B2, d2, B3, d3, B4, d4, hq⟩ := recLs_spell hl2
  have hq' : q2 = ⟨.slice B1 k1 d1, .slice B2 k2 d2, .slice B3 k3 d3, .slice B4 k4 d4⟩ := by rw [hq]; simp only [HK1.out, HK2.out, HK3.out, HK4.out]
  clear hq
  subst hq'
  rw [show (recC ⟨kind, birth, prev, id, page, frm, before, after, next, rows, dirty⟩ ⟨.slice B1 k1 d1, .slice B2 k2 d2, .slice B3 k3 d3, .slice B4 k4 d4⟩).toArray = #[.int .i64 kind, .int .i64 birth, .int .i64 prev, .int .i64 id, .int .i64 page, .int .i64 frm, .slice B1 k1 d1, .slice B2 k2 d2, .int .i64 next, .slice B3 k3 d3, .slice B4 k4 d4] from rfl]
  have G0 := Sg.start HS.out.tmp hb2 hl2 rfl (a0 := .int .i64 kind) (a1 := .int .i64 birth) (a2 := .int .i64 prev) (a3 := .int .i64 id) (a4 := .int .i64 page) (a5 := .int .i64 frm) (a6 := .slice B1 k1 d1) (a7 := .slice B2 k2 d2) (a8 := .int .i64 next) (a9 := .slice B3 k3 d3) (a10 := .slice B4 k4 d4) rfl
  have tz0 := HS.out.tmp.below hb2
  have zf := tz0.free
  have z0 := tz0.cell (j := 0) rfl
  have z1 := tz0.cell (j := 1) rfl
  have z2 := tz0.cell (j := 2) rfl
  have z3 := tz0.cell (j := 3) rfl
  have z4 := tz0.cell (j := 4) rfl
  have z5 := tz0.cell (j := 5) rfl
  have z6 := tz0.cell (j := 6) rfl
  have z7 := tz0.cell (j := 7) rfl
  have z8 := tz0.cell (j := 8) rfl
  have z9 := tz0.cell (j := 9) rfl
  have z10 := tz0.cell (j := 10) rfl
  go_upto_region 35 with (fail)
  obtain ⟨W22, hW⟩ : ∃ W, (((((((((((w22.setCell ⟨B, 0, none⟩ (.int .i64 kind)).setCell ⟨B, 1, none⟩ (.int .i64 birth)).setCell ⟨B, 2, none⟩ (.int .i64 prev)).setCell ⟨B, 3, none⟩ (.int .i64 id)).setCell ⟨B, 4, none⟩ (.int .i64 page)).setCell ⟨B, 5, none⟩ (.int .i64 frm)).setCell ⟨B, 6, none⟩ (.slice B1 k1 d1)).setCell ⟨B, 7, none⟩ (.slice B2 k2 d2)).setCell ⟨B, 8, none⟩ (.int .i64 next)).setCell ⟨B, 9, none⟩ (.slice B3 k3 d3)).setCell ⟨B, 10, none⟩ (.slice B4 k4 d4)) = W := ⟨_, rfl⟩
  unfold lay11 at G0
  rw [hW] at G0 ⊢
  clear hW tz0 zf z0 z1 z2 z3 z4 z5 z6 z7 z8 z9 z10 hb2 hl2
  have tt0 : RowC W22 B 26 [.int .i64 kind, .int .i64 birth, .int .i64 prev, .int .i64 id, .int .i64 page, .int .i64 frm, .slice B1 k1 d1, .slice B2 k2 d2, .int .i64 next, .slice B3 k3 d3, .slice B4 k4 d4] := G0.tmp
  have zf := tt0.free
  have HG := Lib.hid G0
  clear tt0 G0
  go_wp2_with (refine wpList_make8 rfl _ _ rfl tU8 129 rfl rfl rfl rfl (by omega) ?_)
  intro w23 o3 hb3
  obtain ⟨Lz, hLz⟩ : ∃ l, zeroL 129 = l := ⟨_, rfl⟩
  have hLn : Lz.length = 129 := by rw [← hLz]; simp [zeroL]
  rw [hLz] at o3
  obtain ⟨gN, hgN⟩ : ∃ g, W22.heap.size = g := ⟨_, rfl⟩
  have ho3 := o3.own (Nat.le_refl _) (by rw [hLn]; omega)
  rw [hLn] at ho3
  have G1 := HG.out.aft ho3 hb3
  have tz1 := HG.out.tmp.below hb3
  have zf2 := tz1.free
  have z7 := tz1.cell (j := 7) rfl
  rw [hgN] at G1 ⊢
  have HLZ := Lib.hid hLn
  have tt0 := G1.tmp
  clear o3 ho3 hb3 zf tz1 hLz hLn hgN
  have tt : RowC _ B 26 [.int .i64 kind, .int .i64 birth, .int .i64 prev, .int .i64 id, .int .i64 page, .int .i64 frm, .slice B1 k1 d1, .slice (some ⟨gN, 0, none⟩) 129 129, .int .i64 next, .slice B3 k3 d3, .slice B4 k4 d4] := G1.tmp
  have y0 := tt.cell (j := 0) rfl
  have y1 := tt.cell (j := 1) rfl
  have y2 := tt.cell (j := 2) rfl
  have y3 := tt.cell (j := 3) rfl
  have y4 := tt.cell (j := 4) rfl
  have y5 := tt.cell (j := 5) rfl
  have y6 := tt.cell (j := 6) rfl
  have y7 := tt.cell (j := 7) rfl
  have y8 := tt.cell (j := 8) rfl
  have y9 := tt.cell (j := 9) rfl
  have y10 := tt.cell (j := 10) rfl
  have S1 := HS.out.seg G1
  clear tt0 tt HS
  have HSP := Lib.hid S1
  go_wp2_with (at_builtin; refine wpList_push rfl _ _ rfl rfl rfl (HSP.out.below ((Below.refl _ _).alloc (Nat.le_refl _) _)) (rowC_new (by simp)) (by omega) (bad_after _ (by dsimp only; rw [HLZ.out]; omega)) (recI_after HI.out (by rw [HLZ.out]; omega)) (m := 13) (by rfl) ?_)
  intro Al cl w24 HS
  clear HSP
  replace HS := Lib.hid HS
  clear S1 y0 y1 y2 y3 y4 y5 y6 y7 y8 y9 y10 HG G1 z7 zf2 HLZ
  have hkb2 : (kind == 2) = false := by simp [hk2]
  have hkb3 : (kind == 3) = false := by simp [hk3]
  have d0 := HS.out.box.cell (j := 0) rfl
  go_upto_region 55 with (fail)
  clear d0
  have d0 := HS.out.box.cell (j := 0) rfl
  have d1 := HS.out.box.cell (j := 1) rfl
  have d2 := HS.out.box.cell (j := 2) rfl
  have d3 := HS.out.box.cell (j := 3) rfl
  have d4 := HS.out.box.cell (j := 4) rfl
  have d5 := HS.out.box.cell (j := 5) rfl
  have d6 := HS.out.box.cell (j := 6) rfl
  have d7 := HS.out.box.cell (j := 7) rfl
  have d8 := HS.out.box.cell (j := 8) rfl
  have d9 := HS.out.box.cell (j := 9) rfl
  have d10 := HS.out.box.cell (j := 10) rfl
  go_wp2_with fail
  refine (HCP.out _ HS.out.low).mono ?_
  clear d0 d1 d2 d3 d4 d5 d6 d7 d8 d9 d10
  rintro e w25 ⟨q2, rfl, hb2, hl2⟩
  obtain ⟨B1, d1, B2, d2, B3, d3, B4, d4, hq⟩ := recLs_spell hl2
  have hq' : q2 = ⟨.slice B1 k1 d1, .slice B2 k2 d2, .slice B3 k3 d3, .slice B4 k4 d4⟩ := by rw [hq]; simp only [HK1.out, HK2.out, HK3.out, HK4.out]
  clear hq
  subst hq'
  rw [show (recC ⟨kind, birth, prev, id, page, frm, before, after, next, rows, dirty⟩ ⟨.slice B1 k1 d1, .slice B2 k2 d2, .slice B3 k3 d3, .slice B4 k4 d4⟩).toArray = #[.int .i64 kind, .int .i64 birth, .int .i64 prev, .int .i64 id, .int .i64 page, .int .i64 frm, .slice B1 k1 d1, .slice B2 k2 d2, .int .i64 next, .slice B3 k3 d3, .slice B4 k4 d4] from rfl]
  have G0 := Sg.start HS.out.tmp hb2 hl2 rfl (a0 := .int .i64 kind) (a1 := .int .i64 birth) (a2 := .int .i64 prev) (a3 := .int .i64 id) (a4 := .int .i64 page) (a5 := .int .i64 frm) (a6 := .slice B1 k1 d1) (a7 := .slice B2 k2 d2) (a8 := .int .i64 next) (a9 := .slice B3 k3 d3) (a10 := .slice B4 k4 d4) rfl
  have tz0 := HS.out.tmp.below hb2
  have zf := tz0.free
  have z0 := tz0.cell (j := 0) rfl
  have z1 := tz0.cell (j := 1) rfl
  have z2 := tz0.cell (j := 2) rfl
  have z3 := tz0.cell (j := 3) rfl
  have z4 := tz0.cell (j := 4) rfl
  have z5 := tz0.cell (j := 5) rfl
  have z6 := tz0.cell (j := 6) rfl
  have z7 := tz0.cell (j := 7) rfl
  have z8 := tz0.cell (j := 8) rfl
  have z9 := tz0.cell (j := 9) rfl
  have z10 := tz0.cell (j := 10) rfl
  go_upto_region 56 with (fail)
  obtain ⟨W25, hW⟩ : ∃ W, (((((((((((w25.setCell ⟨B, 0, none⟩ (.int .i64 kind)).setCell ⟨B, 1, none⟩ (.int .i64 birth)).setCell ⟨B, 2, none⟩ (.int .i64 prev)).setCell ⟨B, 3, none⟩ (.int .i64 id)).setCell ⟨B, 4, none⟩ (.int .i64 page)).setCell ⟨B, 5, none⟩ (.int .i64 frm)).setCell ⟨B, 6, none⟩ (.slice B1 k1 d1)).setCell ⟨B, 7, none⟩ (.slice B2 k2 d2)).setCell ⟨B, 8, none⟩ (.int .i64 next)).setCell ⟨B, 9, none⟩ (.slice B3 k3 d3)).setCell ⟨B, 10, none⟩ (.slice B4 k4 d4)) = W := ⟨_, rfl⟩
  unfold lay11 at G0
  rw [hW] at G0 ⊢
  clear hW tz0 zf z0 z1 z2 z3 z4 z5 z6 z7 z8 z9 z10 hb2 hl2
  have tt0 : RowC W25 B 26 [.int .i64 kind, .int .i64 birth, .int .i64 prev, .int .i64 id, .int .i64 page, .int .i64 frm, .slice B1 k1 d1, .slice B2 k2 d2, .int .i64 next, .slice B3 k3 d3, .slice B4 k4 d4] := G0.tmp
  have zf := tt0.free
  have x9 := tt0.cell (j := 9) rfl
  have HG := Lib.hid G0
  clear tt0 G0
  go_wp2_with (at_builtin; refine wpList_rows9 rfl _ _ rfl (HG.out.below ((Below.refl _ _).alloc (Nat.le_refl _) _)) rfl rfl ([(1152921504606846976, 1, 3, 1, 0)] : List Row9) (rowC_new rfl) rfl (by dsimp only; rw [HK3.out]; omega) (by omega) (n := k3 + 1) (by dsimp only; rw [HK3.out]) ?_)
  intro A5 d5 w26 o3 hg3
  have HAL := Lib.hid ((Below.refl W25.heap.size W25).alloc (Nat.le_refl _) (.cells #[.int .i64 1152921504606846976, .int .i64 1, .int .i64 3, .int .i64 1, .int .i64 0] 58))
  obtain ⟨R, hR⟩ : ∃ l, rows ++ ([(1152921504606846976, 1, 3, 1, 0)] : List Row9) = l := ⟨_, rfl⟩
  replace o3 : OwnLe _ _ 58 5 (.slice A5 (k3 + 1) d5) (rows.length + 1) (rowsC (rows ++ ([(1152921504606846976, 1, 3, 1, 0)] : List Row9))) := o3
  have e9 : rows.length + 1 = R.length := by rw [← hR, List.length_append]; rfl
  rw [hR, e9] at o3
  clear e9
  have HR := Lib.hid hR
  clear hR
  have G1 := (HG.out.below HAL.out).rows o3 hg3
  have tz1 := (HG.out.below HAL.out).tmp.grown hg3 (fun e => by have h1 := (ownLe_block (HG.out.below HAL.out).cur.vr e).1; have h2 := HG.out.hB; omega)
  have zf2 := tz1.free
  have z9 := tz1.cell (j := 9) rfl
  have tt0 := G1.tmp
  clear o3 hg3 x9 zf tz1
  have tt : RowC _ B 26 [.int .i64 kind, .int .i64 birth, .int .i64 prev, .int .i64 id, .int .i64 page, .int .i64 frm, .slice B1 k1 d1, .slice B2 k2 d2, .int .i64 next, .slice A5 (k3 + 1) d5, .slice B4 k4 d4] := G1.tmp
  have y0 := tt.cell (j := 0) rfl
  have y1 := tt.cell (j := 1) rfl
  have y2 := tt.cell (j := 2) rfl
  have y3 := tt.cell (j := 3) rfl
  have y4 := tt.cell (j := 4) rfl
  have y5 := tt.cell (j := 5) rfl
  have y6 := tt.cell (j := 6) rfl
  have y7 := tt.cell (j := 7) rfl
  have y8 := tt.cell (j := 8) rfl
  have y9 := tt.cell (j := 9) rfl
  have y10 := tt.cell (j := 10) rfl
  have S1 := HS.out.seg G1
  clear tt0 tt HS
  have HSP := Lib.hid S1
  go_wp2_with (at_builtin; refine wpList_push rfl _ _ rfl rfl rfl (HSP.out.below ((Below.refl _ _).alloc (Nat.le_refl _) _)) (rowC_new (by simp)) (by omega) (bad_rows _ rows [(1152921504606846976, 1, 3, 1, 0)] HR.out.symm badm1) (by have hh := recI_rows HI.out inR1 (by dsimp only; rw [List.length_append, HK3.out]; simp only [List.length_cons, List.length_nil]; omega); dsimp only at hh; rw [HR.out] at hh; exact hh) (m := 14) (by rfl) ?_)
  intro Al cl w27 HS
  clear HSP
  replace HS := Lib.hid HS
  clear S1 y0 y1 y2 y3 y4 y5 y6 y7 y8 y9 y10 HG G1 z9 zf2 HR HAL
  have d0 := HS.out.box.cell (j := 0) rfl
  have d1 := HS.out.box.cell (j := 1) rfl
  have d2 := HS.out.box.cell (j := 2) rfl
  have d3 := HS.out.box.cell (j := 3) rfl
  have d4 := HS.out.box.cell (j := 4) rfl
  have d5 := HS.out.box.cell (j := 5) rfl
  have d6 := HS.out.box.cell (j := 6) rfl
  have d7 := HS.out.box.cell (j := 7) rfl
  have d8 := HS.out.box.cell (j := 8) rfl
  have d9 := HS.out.box.cell (j := 9) rfl
  have d10 := HS.out.box.cell (j := 10) rfl
  go_wp2_with fail
  refine (HCP.out _ HS.out.low).mono ?_
  clear d0 d1 d2 d3 d4 d5 d6 d7 d8 d9 d10
  rintro e w28 ⟨q2, rfl, hb2, hl2⟩
  obtain ⟨B1, d1, B2, d2, B3, d3, B4, d4, hq⟩ := recLs_spell hl2
  have hq' : q2 = ⟨.slice B1 k1 d1, .slice B2 k2 d2, .slice B3 k3 d3, .slice B4 k4 d4⟩ := by rw [hq]; simp only [HK1.out, HK2.out, HK3.out, HK4.out]
  clear hq
  subst hq'
  rw [show (recC ⟨kind, birth, prev, id, page, frm, before, after, next, rows, dirty⟩ ⟨.slice B1 k1 d1, .slice B2 k2 d2, .slice B3 k3 d3, .slice B4 k4 d4⟩).toArray = #[.int .i64 kind, .int .i64 birth, .int .i64 prev, .int .i64 id, .int .i64 page, .int .i64 frm, .slice B1 k1 d1, .slice B2 k2 d2, .int .i64 next, .slice B3 k3 d3, .slice B4 k4 d4] from rfl]
  have G0 := Sg.start HS.out.tmp hb2 hl2 rfl (a0 := .int .i64 kind) (a1 := .int .i64 birth) (a2 := .int .i64 prev) (a3 := .int .i64 id) (a4 := .int .i64 page) (a5 := .int .i64 frm) (a6 := .slice B1 k1 d1) (a7 := .slice B2 k2 d2) (a8 := .int .i64 next) (a9 := .slice B3 k3 d3) (a10 := .slice B4 k4 d4) rfl
  have tz0 := HS.out.tmp.below hb2
  have zf := tz0.free
  have z0 := tz0.cell (j := 0) rfl
  have z1 := tz0.cell (j := 1) rfl
  have z2 := tz0.cell (j := 2) rfl
  have z3 := tz0.cell (j := 3) rfl
  have z4 := tz0.cell (j := 4) rfl
  have z5 := tz0.cell (j := 5) rfl
  have z6 := tz0.cell (j := 6) rfl
  have z7 := tz0.cell (j := 7) rfl
  have z8 := tz0.cell (j := 8) rfl
  have z9 := tz0.cell (j := 9) rfl
  have z10 := tz0.cell (j := 10) rfl
  go_upto_region 59 with (fail)
  obtain ⟨W28, hW⟩ : ∃ W, (((((((((((w28.setCell ⟨B, 0, none⟩ (.int .i64 kind)).setCell ⟨B, 1, none⟩ (.int .i64 birth)).setCell ⟨B, 2, none⟩ (.int .i64 prev)).setCell ⟨B, 3, none⟩ (.int .i64 id)).setCell ⟨B, 4, none⟩ (.int .i64 page)).setCell ⟨B, 5, none⟩ (.int .i64 frm)).setCell ⟨B, 6, none⟩ (.slice B1 k1 d1)).setCell ⟨B, 7, none⟩ (.slice B2 k2 d2)).setCell ⟨B, 8, none⟩ (.int .i64 next)).setCell ⟨B, 9, none⟩ (.slice B3 k3 d3)).setCell ⟨B, 10, none⟩ (.slice B4 k4 d4)) = W := ⟨_, rfl⟩
  unfold lay11 at G0
  rw [hW] at G0 ⊢
  clear hW tz0 zf z0 z1 z2 z3 z4 z5 z6 z7 z8 z9 z10 hb2 hl2
  have tt0 : RowC W28 B 26 [.int .i64 kind, .int .i64 birth, .int .i64 prev, .int .i64 id, .int .i64 page, .int .i64 frm, .slice B1 k1 d1, .slice B2 k2 d2, .int .i64 next, .slice B3 k3 d3, .slice B4 k4 d4] := G0.tmp
  have zf := tt0.free
  have x9 := tt0.cell (j := 9) rfl
  have HG := Lib.hid G0
  clear tt0 G0
  go_wp2_with (at_builtin; refine wpList_rows9 rfl _ _ rfl (HG.out.below ((Below.refl _ _).alloc (Nat.le_refl _) _)) rfl rfl ([(5, 1, 1, 5, 0), (5, 2, 1, 6, 0)] : List Row9) (rowC_new rfl) rfl (by dsimp only; rw [HK3.out]; omega) (by omega) (n := k3 + 2) (by dsimp only; rw [HK3.out]) ?_)
  intro A5 d5 w29 o3 hg3
  have HAL := Lib.hid ((Below.refl W28.heap.size W28).alloc (Nat.le_refl _) (.cells #[.int .i64 5, .int .i64 1, .int .i64 1, .int .i64 5, .int .i64 0, .int .i64 5, .int .i64 2, .int .i64 1, .int .i64 6, .int .i64 0] 58))
  obtain ⟨R, hR⟩ : ∃ l, rows ++ ([(5, 1, 1, 5, 0), (5, 2, 1, 6, 0)] : List Row9) = l := ⟨_, rfl⟩
  replace o3 : OwnLe _ _ 58 5 (.slice A5 (k3 + 2) d5) (rows.length + 2) (rowsC (rows ++ ([(5, 1, 1, 5, 0), (5, 2, 1, 6, 0)] : List Row9))) := o3
  have e9 : rows.length + 2 = R.length := by rw [← hR, List.length_append]; rfl
  rw [hR, e9] at o3
  clear e9
  have HR := Lib.hid hR
  clear hR
  have G1 := (HG.out.below HAL.out).rows o3 hg3
  have tz1 := (HG.out.below HAL.out).tmp.grown hg3 (fun e => by have h1 := (ownLe_block (HG.out.below HAL.out).cur.vr e).1; have h2 := HG.out.hB; omega)
  have zf2 := tz1.free
  have z9 := tz1.cell (j := 9) rfl
  have tt0 := G1.tmp
  clear o3 hg3 x9 zf tz1
  have tt : RowC _ B 26 [.int .i64 kind, .int .i64 birth, .int .i64 prev, .int .i64 id, .int .i64 page, .int .i64 frm, .slice B1 k1 d1, .slice B2 k2 d2, .int .i64 next, .slice A5 (k3 + 2) d5, .slice B4 k4 d4] := G1.tmp
  have y0 := tt.cell (j := 0) rfl
  have y1 := tt.cell (j := 1) rfl
  have y2 := tt.cell (j := 2) rfl
  have y3 := tt.cell (j := 3) rfl
  have y4 := tt.cell (j := 4) rfl
  have y5 := tt.cell (j := 5) rfl
  have y6 := tt.cell (j := 6) rfl
  have y7 := tt.cell (j := 7) rfl
  have y8 := tt.cell (j := 8) rfl
  have y9 := tt.cell (j := 9) rfl
  have y10 := tt.cell (j := 10) rfl
  have S1 := HS.out.seg G1
  clear tt0 tt HS
  have HSP := Lib.hid S1
  go_wp2_with (at_builtin; refine wpList_push rfl _ _ rfl rfl rfl (HSP.out.below ((Below.refl _ _).alloc (Nat.le_refl _) _)) (rowC_new (by simp)) (by omega) (bad_rows _ rows [(5, 1, 1, 5, 0), (5, 2, 1, 6, 0)] HR.out.symm badm2) (by have hh := recI_rows HI.out inR2 (by dsimp only; rw [List.length_append, HK3.out]; simp only [List.length_cons, List.length_nil]; omega); dsimp only at hh; rw [HR.out] at hh; exact hh) (m := 15) (by rfl) ?_)
  intro Al cl w30 HS
  clear HSP
  replace HS := Lib.hid HS
  clear S1 y0 y1 y2 y3 y4 y5 y6 y7 y8 y9 y10 HG G1 z9 zf2 HR HAL
  have d0 := HS.out.box.cell (j := 0) rfl
  have d1 := HS.out.box.cell (j := 1) rfl
  have d2 := HS.out.box.cell (j := 2) rfl
  have d3 := HS.out.box.cell (j := 3) rfl
  have d4 := HS.out.box.cell (j := 4) rfl
  have d5 := HS.out.box.cell (j := 5) rfl
  have d6 := HS.out.box.cell (j := 6) rfl
  have d7 := HS.out.box.cell (j := 7) rfl
  have d8 := HS.out.box.cell (j := 8) rfl
  have d9 := HS.out.box.cell (j := 9) rfl
  have d10 := HS.out.box.cell (j := 10) rfl
  go_wp2_with fail
  refine (HCP.out _ HS.out.low).mono ?_
  clear d0 d1 d2 d3 d4 d5 d6 d7 d8 d9 d10
  rintro e w31 ⟨q2, rfl, hb2, hl2⟩
  obtain ⟨B1, d1, B2, d2, B3, d3, B4, d4, hq⟩ := recLs_spell hl2
  have hq' : q2 = ⟨.slice B1 k1 d1, .slice B2 k2 d2, .slice B3 k3 d3, .slice B4 k4 d4⟩ := by rw [hq]; simp only [HK1.out, HK2.out, HK3.out, HK4.out]
  clear hq
  subst hq'
  rw [show (recC ⟨kind, birth, prev, id, page, frm, before, after, next, rows, dirty⟩ ⟨.slice B1 k1 d1, .slice B2 k2 d2, .slice B3 k3 d3, .slice B4 k4 d4⟩).toArray = #[.int .i64 kind, .int .i64 birth, .int .i64 prev, .int .i64 id, .int .i64 page, .int .i64 frm, .slice B1 k1 d1, .slice B2 k2 d2, .int .i64 next, .slice B3 k3 d3, .slice B4 k4 d4] from rfl]
  have G0 := Sg.start HS.out.tmp hb2 hl2 rfl (a0 := .int .i64 kind) (a1 := .int .i64 birth) (a2 := .int .i64 prev) (a3 := .int .i64 id) (a4 := .int .i64 page) (a5 := .int .i64 frm) (a6 := .slice B1 k1 d1) (a7 := .slice B2 k2 d2) (a8 := .int .i64 next) (a9 := .slice B3 k3 d3) (a10 := .slice B4 k4 d4) rfl
  have tz0 := HS.out.tmp.below hb2
  have zf := tz0.free
  have z0 := tz0.cell (j := 0) rfl
  have z1 := tz0.cell (j := 1) rfl
  have z2 := tz0.cell (j := 2) rfl
  have z3 := tz0.cell (j := 3) rfl
  have z4 := tz0.cell (j := 4) rfl
  have z5 := tz0.cell (j := 5) rfl
  have z6 := tz0.cell (j := 6) rfl
  have z7 := tz0.cell (j := 7) rfl
  have z8 := tz0.cell (j := 8) rfl
  have z9 := tz0.cell (j := 9) rfl
  have z10 := tz0.cell (j := 10) rfl
  go_upto_region 62 with (fail)
  obtain ⟨W31, hW⟩ : ∃ W, (((((((((((w31.setCell ⟨B, 0, none⟩ (.int .i64 kind)).setCell ⟨B, 1, none⟩ (.int .i64 birth)).setCell ⟨B, 2, none⟩ (.int .i64 prev)).setCell ⟨B, 3, none⟩ (.int .i64 id)).setCell ⟨B, 4, none⟩ (.int .i64 page)).setCell ⟨B, 5, none⟩ (.int .i64 frm)).setCell ⟨B, 6, none⟩ (.slice B1 k1 d1)).setCell ⟨B, 7, none⟩ (.slice B2 k2 d2)).setCell ⟨B, 8, none⟩ (.int .i64 next)).setCell ⟨B, 9, none⟩ (.slice B3 k3 d3)).setCell ⟨B, 10, none⟩ (.slice B4 k4 d4)) = W := ⟨_, rfl⟩
  unfold lay11 at G0
  rw [hW] at G0 ⊢
  clear hW tz0 zf z0 z1 z2 z3 z4 z5 z6 z7 z8 z9 z10 hb2 hl2
  have tt0 : RowC W31 B 26 [.int .i64 kind, .int .i64 birth, .int .i64 prev, .int .i64 id, .int .i64 page, .int .i64 frm, .slice B1 k1 d1, .slice B2 k2 d2, .int .i64 next, .slice B3 k3 d3, .slice B4 k4 d4] := G0.tmp
  have zf := tt0.free
  have x10 := tt0.cell (j := 10) rfl
  have HG := Lib.hid G0
  clear tt0 G0
  go_wp2_with (at_builtin; refine wpList_dirt9 rfl _ _ rfl (HG.out.below ((Below.refl _ _).alloc (Nat.le_refl _) _)) rfl rfl ([(16, 1)] : List (Int × Int)) (rowC_new rfl) rfl (by dsimp only; rw [HK4.out]; omega) (by omega) (n := k4 + 1) (by dsimp only; rw [HK4.out]) ?_)
  intro A5 d5 w32 o3 hg3
  have HAL := Lib.hid ((Below.refl W31.heap.size W31).alloc (Nat.le_refl _) (.cells #[.int .i64 16, .int .i64 1] 60))
  obtain ⟨R, hR⟩ : ∃ l, dirty ++ ([(16, 1)] : List (Int × Int)) = l := ⟨_, rfl⟩
  replace o3 : OwnLe _ _ 60 2 (.slice A5 (k4 + 1) d5) (dirty.length + 1) (dirtsC (dirty ++ ([(16, 1)] : List (Int × Int)))) := o3
  have e9 : dirty.length + 1 = R.length := by rw [← hR, List.length_append]; rfl
  rw [hR, e9] at o3
  clear e9
  have HR := Lib.hid hR
  clear hR
  have G1 := (HG.out.below HAL.out).dirt o3 hg3
  have tz1 := (HG.out.below HAL.out).tmp.grown hg3 (fun e => by have h1 := (ownLe_block (HG.out.below HAL.out).cur.vd e).1; have h2 := HG.out.hB; omega)
  have zf2 := tz1.free
  have z10 := tz1.cell (j := 10) rfl
  have tt0 := G1.tmp
  clear o3 hg3 x10 zf tz1
  have tt : RowC _ B 26 [.int .i64 kind, .int .i64 birth, .int .i64 prev, .int .i64 id, .int .i64 page, .int .i64 frm, .slice B1 k1 d1, .slice B2 k2 d2, .int .i64 next, .slice B3 k3 d3, .slice A5 (k4 + 1) d5] := G1.tmp
  have y0 := tt.cell (j := 0) rfl
  have y1 := tt.cell (j := 1) rfl
  have y2 := tt.cell (j := 2) rfl
  have y3 := tt.cell (j := 3) rfl
  have y4 := tt.cell (j := 4) rfl
  have y5 := tt.cell (j := 5) rfl
  have y6 := tt.cell (j := 6) rfl
  have y7 := tt.cell (j := 7) rfl
  have y8 := tt.cell (j := 8) rfl
  have y9 := tt.cell (j := 9) rfl
  have y10 := tt.cell (j := 10) rfl
  have S1 := HS.out.seg G1
  clear tt0 tt HS
  have HSP := Lib.hid S1
  go_wp2_with (at_builtin; refine wpList_push rfl _ _ rfl rfl rfl (HSP.out.below ((Below.refl _ _).alloc (Nat.le_refl _) _)) (rowC_new (by simp)) (by omega) (bad_dirt _ dirty [(16, 1)] HR.out.symm badm3) (by have hh := recI_dirt HI.out inD1 (by dsimp only; rw [List.length_append, HK4.out]; simp only [List.length_cons, List.length_nil]; omega); dsimp only at hh; rw [HR.out] at hh; exact hh) (m := 16) (by rfl) ?_)
  intro Al cl w33 HS
  clear HSP
  replace HS := Lib.hid HS
  clear S1 y0 y1 y2 y3 y4 y5 y6 y7 y8 y9 y10 HG G1 z10 zf2 HR HAL
  have d0 := HS.out.box.cell (j := 0) rfl
  have d1 := HS.out.box.cell (j := 1) rfl
  have d2 := HS.out.box.cell (j := 2) rfl
  have d3 := HS.out.box.cell (j := 3) rfl
  have d4 := HS.out.box.cell (j := 4) rfl
  have d5 := HS.out.box.cell (j := 5) rfl
  have d6 := HS.out.box.cell (j := 6) rfl
  have d7 := HS.out.box.cell (j := 7) rfl
  have d8 := HS.out.box.cell (j := 8) rfl
  have d9 := HS.out.box.cell (j := 9) rfl
  have d10 := HS.out.box.cell (j := 10) rfl
  go_wp2_with fail
  refine (HCP.out _ HS.out.low).mono ?_
  clear d0 d1 d2 d3 d4 d5 d6 d7 d8 d9 d10
  rintro e w34 ⟨q2, rfl, hb2, hl2⟩
  obtain ⟨B1, d1, B2, d2, B3, d3, B4, d4, hq⟩ := recLs_spell hl2
  have hq' : q2 = ⟨.slice B1 k1 d1, .slice B2 k2 d2, .slice B3 k3 d3, .slice B4 k4 d4⟩ := by rw [hq]; simp only [HK1.out, HK2.out, HK3.out, HK4.out]
  clear hq
  subst hq'
  rw [show (recC ⟨kind, birth, prev, id, page, frm, before, after, next, rows, dirty⟩ ⟨.slice B1 k1 d1, .slice B2 k2 d2, .slice B3 k3 d3, .slice B4 k4 d4⟩).toArray = #[.int .i64 kind, .int .i64 birth, .int .i64 prev, .int .i64 id, .int .i64 page, .int .i64 frm, .slice B1 k1 d1, .slice B2 k2 d2, .int .i64 next, .slice B3 k3 d3, .slice B4 k4 d4] from rfl]
  have G0 := Sg.start HS.out.tmp hb2 hl2 rfl (a0 := .int .i64 kind) (a1 := .int .i64 birth) (a2 := .int .i64 prev) (a3 := .int .i64 id) (a4 := .int .i64 page) (a5 := .int .i64 frm) (a6 := .slice B1 k1 d1) (a7 := .slice B2 k2 d2) (a8 := .int .i64 next) (a9 := .slice B3 k3 d3) (a10 := .slice B4 k4 d4) rfl
  have tz0 := HS.out.tmp.below hb2
  have zf := tz0.free
  have z0 := tz0.cell (j := 0) rfl
  have z1 := tz0.cell (j := 1) rfl
  have z2 := tz0.cell (j := 2) rfl
  have z3 := tz0.cell (j := 3) rfl
  have z4 := tz0.cell (j := 4) rfl
  have z5 := tz0.cell (j := 5) rfl
  have z6 := tz0.cell (j := 6) rfl
  have z7 := tz0.cell (j := 7) rfl
  have z8 := tz0.cell (j := 8) rfl
  have z9 := tz0.cell (j := 9) rfl
  have z10 := tz0.cell (j := 10) rfl
  go_upto_region 65 with (fail)
  obtain ⟨W34, hW⟩ : ∃ W, (((((((((((w34.setCell ⟨B, 0, none⟩ (.int .i64 kind)).setCell ⟨B, 1, none⟩ (.int .i64 birth)).setCell ⟨B, 2, none⟩ (.int .i64 prev)).setCell ⟨B, 3, none⟩ (.int .i64 id)).setCell ⟨B, 4, none⟩ (.int .i64 page)).setCell ⟨B, 5, none⟩ (.int .i64 frm)).setCell ⟨B, 6, none⟩ (.slice B1 k1 d1)).setCell ⟨B, 7, none⟩ (.slice B2 k2 d2)).setCell ⟨B, 8, none⟩ (.int .i64 next)).setCell ⟨B, 9, none⟩ (.slice B3 k3 d3)).setCell ⟨B, 10, none⟩ (.slice B4 k4 d4)) = W := ⟨_, rfl⟩
  unfold lay11 at G0
  rw [hW] at G0 ⊢
  clear hW tz0 zf z0 z1 z2 z3 z4 z5 z6 z7 z8 z9 z10 hb2 hl2
  have tt0 : RowC W34 B 26 [.int .i64 kind, .int .i64 birth, .int .i64 prev, .int .i64 id, .int .i64 page, .int .i64 frm, .slice B1 k1 d1, .slice B2 k2 d2, .int .i64 next, .slice B3 k3 d3, .slice B4 k4 d4] := G0.tmp
  have zf := tt0.free
  have x10 := tt0.cell (j := 10) rfl
  have HG := Lib.hid G0
  clear tt0 G0
  go_wp2_with (at_builtin; refine wpList_dirt9 rfl _ _ rfl (HG.out.below ((Below.refl _ _).alloc (Nat.le_refl _) _)) rfl rfl ([(15, 1), (15, 2)] : List (Int × Int)) (rowC_new rfl) rfl (by dsimp only; rw [HK4.out]; omega) (by omega) (n := k4 + 2) (by dsimp only; rw [HK4.out]) ?_)
  intro A5 d5 w35 o3 hg3
  have HAL := Lib.hid ((Below.refl W34.heap.size W34).alloc (Nat.le_refl _) (.cells #[.int .i64 15, .int .i64 1, .int .i64 15, .int .i64 2] 60))
  obtain ⟨R, hR⟩ : ∃ l, dirty ++ ([(15, 1), (15, 2)] : List (Int × Int)) = l := ⟨_, rfl⟩
  replace o3 : OwnLe _ _ 60 2 (.slice A5 (k4 + 2) d5) (dirty.length + 2) (dirtsC (dirty ++ ([(15, 1), (15, 2)] : List (Int × Int)))) := o3
  have e9 : dirty.length + 2 = R.length := by rw [← hR, List.length_append]; rfl
  rw [hR, e9] at o3
  clear e9
  have HR := Lib.hid hR
  clear hR
  have G1 := (HG.out.below HAL.out).dirt o3 hg3
  have tz1 := (HG.out.below HAL.out).tmp.grown hg3 (fun e => by have h1 := (ownLe_block (HG.out.below HAL.out).cur.vd e).1; have h2 := HG.out.hB; omega)
  have zf2 := tz1.free
  have z10 := tz1.cell (j := 10) rfl
  have tt0 := G1.tmp
  clear o3 hg3 x10 zf tz1
  have tt : RowC _ B 26 [.int .i64 kind, .int .i64 birth, .int .i64 prev, .int .i64 id, .int .i64 page, .int .i64 frm, .slice B1 k1 d1, .slice B2 k2 d2, .int .i64 next, .slice B3 k3 d3, .slice A5 (k4 + 2) d5] := G1.tmp
  have y0 := tt.cell (j := 0) rfl
  have y1 := tt.cell (j := 1) rfl
  have y2 := tt.cell (j := 2) rfl
  have y3 := tt.cell (j := 3) rfl
  have y4 := tt.cell (j := 4) rfl
  have y5 := tt.cell (j := 5) rfl
  have y6 := tt.cell (j := 6) rfl
  have y7 := tt.cell (j := 7) rfl
  have y8 := tt.cell (j := 8) rfl
  have y9 := tt.cell (j := 9) rfl
  have y10 := tt.cell (j := 10) rfl
  have S1 := HS.out.seg G1
  clear tt0 tt HS
  have HSP := Lib.hid S1
  go_wp2_with (at_builtin; refine wpList_push rfl _ _ rfl rfl rfl (HSP.out.below ((Below.refl _ _).alloc (Nat.le_refl _) _)) (rowC_new (by simp)) (by omega) (bad_dirt _ dirty [(15, 1), (15, 2)] HR.out.symm badm4) (by have hh := recI_dirt HI.out inD2 (by dsimp only; rw [List.length_append, HK4.out]; simp only [List.length_cons, List.length_nil]; omega); dsimp only at hh; rw [HR.out] at hh; exact hh) (m := 17) (by rfl) ?_)
  intro Al cl w36 HS
  clear HSP
  replace HS := Lib.hid HS
  clear S1 y0 y1 y2 y3 y4 y5 y6 y7 y8 y9 y10 HG G1 z10 zf2 HR HAL
  have d0 := HS.out.box.cell (j := 0) rfl
  have d1 := HS.out.box.cell (j := 1) rfl
  have d2 := HS.out.box.cell (j := 2) rfl
  have d3 := HS.out.box.cell (j := 3) rfl
  have d4 := HS.out.box.cell (j := 4) rfl
  have d5 := HS.out.box.cell (j := 5) rfl
  have d6 := HS.out.box.cell (j := 6) rfl
  have d7 := HS.out.box.cell (j := 7) rfl
  have d8 := HS.out.box.cell (j := 8) rfl
  have d9 := HS.out.box.cell (j := 9) rfl
  have d10 := HS.out.box.cell (j := 10) rfl
  go_wp2_with fail
  refine (HCP.out _ HS.out.low).mono ?_
  clear d0 d1 d2 d3 d4 d5 d6 d7 d8 d9 d10
  rintro e w37 ⟨q2, rfl, hb2, hl2⟩
  obtain ⟨B1, d1, B2, d2, B3, d3, B4, d4, hq⟩ := recLs_spell hl2
  have hq' : q2 = ⟨.slice B1 k1 d1, .slice B2 k2 d2, .slice B3 k3 d3, .slice B4 k4 d4⟩ := by rw [hq]; simp only [HK1.out, HK2.out, HK3.out, HK4.out]
  clear hq
  subst hq'
  rw [show (recC ⟨kind, birth, prev, id, page, frm, before, after, next, rows, dirty⟩ ⟨.slice B1 k1 d1, .slice B2 k2 d2, .slice B3 k3 d3, .slice B4 k4 d4⟩).toArray = #[.int .i64 kind, .int .i64 birth, .int .i64 prev, .int .i64 id, .int .i64 page, .int .i64 frm, .slice B1 k1 d1, .slice B2 k2 d2, .int .i64 next, .slice B3 k3 d3, .slice B4 k4 d4] from rfl]
  have G0 := Sg.start HS.out.tmp hb2 hl2 rfl (a0 := .int .i64 kind) (a1 := .int .i64 birth) (a2 := .int .i64 prev) (a3 := .int .i64 id) (a4 := .int .i64 page) (a5 := .int .i64 frm) (a6 := .slice B1 k1 d1) (a7 := .slice B2 k2 d2) (a8 := .int .i64 next) (a9 := .slice B3 k3 d3) (a10 := .slice B4 k4 d4) rfl
  have tz0 := HS.out.tmp.below hb2
  have zf := tz0.free
  have z0 := tz0.cell (j := 0) rfl
  have z1 := tz0.cell (j := 1) rfl
  have z2 := tz0.cell (j := 2) rfl
  have z3 := tz0.cell (j := 3) rfl
  have z4 := tz0.cell (j := 4) rfl
  have z5 := tz0.cell (j := 5) rfl
  have z6 := tz0.cell (j := 6) rfl
  have z7 := tz0.cell (j := 7) rfl
  have z8 := tz0.cell (j := 8) rfl
  have z9 := tz0.cell (j := 9) rfl
  have z10 := tz0.cell (j := 10) rfl
  go_upto_region 68 with (fail)
  obtain ⟨W37, hW⟩ : ∃ W, (((((((((((w37.setCell ⟨B, 0, none⟩ (.int .i64 kind)).setCell ⟨B, 1, none⟩ (.int .i64 birth)).setCell ⟨B, 2, none⟩ (.int .i64 prev)).setCell ⟨B, 3, none⟩ (.int .i64 id)).setCell ⟨B, 4, none⟩ (.int .i64 page)).setCell ⟨B, 5, none⟩ (.int .i64 frm)).setCell ⟨B, 6, none⟩ (.slice B1 k1 d1)).setCell ⟨B, 7, none⟩ (.slice B2 k2 d2)).setCell ⟨B, 8, none⟩ (.int .i64 next)).setCell ⟨B, 9, none⟩ (.slice B3 k3 d3)).setCell ⟨B, 10, none⟩ (.slice B4 k4 d4)) = W := ⟨_, rfl⟩
  unfold lay11 at G0
  rw [hW] at G0 ⊢
  clear hW tz0 zf z0 z1 z2 z3 z4 z5 z6 z7 z8 z9 z10 hb2 hl2
  have tt0 : RowC W37 B 26 [.int .i64 kind, .int .i64 birth, .int .i64 prev, .int .i64 id, .int .i64 page, .int .i64 frm, .slice B1 k1 d1, .slice B2 k2 d2, .int .i64 next, .slice B3 k3 d3, .slice B4 k4 d4] := G0.tmp
  have zf := tt0.free
  have x10 := tt0.cell (j := 10) rfl
  have HG := Lib.hid G0
  clear tt0 G0
  go_wp2_with (at_builtin; refine wpList_dirt9 rfl _ _ rfl (HG.out.below ((Below.refl _ _).alloc (Nat.le_refl _) _)) rfl rfl ([(15, 0)] : List (Int × Int)) (rowC_new rfl) rfl (by dsimp only; rw [HK4.out]; omega) (by omega) (n := k4 + 1) (by dsimp only; rw [HK4.out]) ?_)
  intro A5 d5 w38 o3 hg3
  have HAL := Lib.hid ((Below.refl W37.heap.size W37).alloc (Nat.le_refl _) (.cells #[.int .i64 15, .int .i64 0] 60))
  obtain ⟨R, hR⟩ : ∃ l, dirty ++ ([(15, 0)] : List (Int × Int)) = l := ⟨_, rfl⟩
  replace o3 : OwnLe _ _ 60 2 (.slice A5 (k4 + 1) d5) (dirty.length + 1) (dirtsC (dirty ++ ([(15, 0)] : List (Int × Int)))) := o3
  have e9 : dirty.length + 1 = R.length := by rw [← hR, List.length_append]; rfl
  rw [hR, e9] at o3
  clear e9
  have HR := Lib.hid hR
  clear hR
  have G1 := (HG.out.below HAL.out).dirt o3 hg3
  have tz1 := (HG.out.below HAL.out).tmp.grown hg3 (fun e => by have h1 := (ownLe_block (HG.out.below HAL.out).cur.vd e).1; have h2 := HG.out.hB; omega)
  have zf2 := tz1.free
  have z10 := tz1.cell (j := 10) rfl
  have tt0 := G1.tmp
  clear o3 hg3 x10 zf tz1
  have tt : RowC _ B 26 [.int .i64 kind, .int .i64 birth, .int .i64 prev, .int .i64 id, .int .i64 page, .int .i64 frm, .slice B1 k1 d1, .slice B2 k2 d2, .int .i64 next, .slice B3 k3 d3, .slice A5 (k4 + 1) d5] := G1.tmp
  have y0 := tt.cell (j := 0) rfl
  have y1 := tt.cell (j := 1) rfl
  have y2 := tt.cell (j := 2) rfl
  have y3 := tt.cell (j := 3) rfl
  have y4 := tt.cell (j := 4) rfl
  have y5 := tt.cell (j := 5) rfl
  have y6 := tt.cell (j := 6) rfl
  have y7 := tt.cell (j := 7) rfl
  have y8 := tt.cell (j := 8) rfl
  have y9 := tt.cell (j := 9) rfl
  have y10 := tt.cell (j := 10) rfl
  have S1 := HS.out.seg G1
  clear tt0 tt HS
  have HSP := Lib.hid S1
  go_wp2_with (at_builtin; refine wpList_push rfl _ _ rfl rfl rfl (HSP.out.below ((Below.refl _ _).alloc (Nat.le_refl _) _)) (rowC_new (by simp)) (by omega) (bad_dirt _ dirty [(15, 0)] HR.out.symm badm5) (by have hh := recI_dirt HI.out inD3 (by dsimp only; rw [List.length_append, HK4.out]; simp only [List.length_cons, List.length_nil]; omega); dsimp only at hh; rw [HR.out] at hh; exact hh) (m := 18) (by rfl) ?_)
  intro Al cl w39 HS
  clear HSP
  replace HS := Lib.hid HS
  clear S1 y0 y1 y2 y3 y4 y5 y6 y7 y8 y9 y10 HG G1 z10 zf2 HR HAL
  go_wp2_with fail
  go_ret
  exact HS.out.done (by omega)
end Go.Proofs.Ytiaehoppdihbdaa
