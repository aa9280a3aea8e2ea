import Derived.Test.YtiaehoppdihbdaaLaw9b
import Derived.Test.YtiaehoppdihbdaaFlat9b
/- tidemarkref09.Copied. -/
set_option linter.unusedVariables false
set_option linter.unusedSimpArgs false
namespace Go.Proofs.Ytiaehoppdihbdaa
open Go.RowKit Go.Tm
set_option maxHeartbeats 400000
set_option maxRecDepth 100000
attribute [local go_sem ↓] Go.wp_at_zero Go.wp_at_succ

theorem cell_grown (w : World) (g j : Nat) (u : Value) : w.grownBy (w.setCell ⟨g, j, none⟩ u) (some g) :=
  ⟨rfl, rfl, rfl, by simp [World.setCell], fun k _ hk => Below.heap_setCell _ _ _ _ (fun e => hk (by simp [e]))⟩
theorem own8_cell {W : World} {base g : Nat} {t : TypeId} {v : Value} {l : List UInt8} (h : Own8 W base t v l) (hg : g < base) (j : Nat) (u : Value) : Own8 (W.setCell ⟨g, j, none⟩ u) base t v l :=
  h.keptBy (cell_grown W g j u) (fun k hk e => by
    injection e with e
    rcases ownNone _ h with h0 | ⟨k', h1, h2, _⟩
    · rw [h0] at hk; cases hk
    · rw [h1] at hk; injection hk with hk; omega)
theorem ownLe_cell' {W : World} {base g : Nat} {t : TypeId} {size k : Nat} {v : Value} {xs : List Value} (h : OwnLe W base t size v k xs) (hg : g < base) (j : Nat) (u : Value) : OwnLe (W.setCell ⟨g, j, none⟩ u) base t size v k xs :=
  ownLe_kept h (cell_grown W g j u) (fun k hk e => by
    injection e with e
    have := (ownLe_block h hk).1
    omega)
abbrev lay11 (W : World) (g : Nat) (a0 a1 a2 a3 a4 a5 a6 a7 a8 a9 a10 : Value) : World := (((((((((((W.setCell ⟨g, 0, none⟩ a0).setCell ⟨g, 1, none⟩ a1).setCell ⟨g, 2, none⟩ a2).setCell ⟨g, 3, none⟩ a3).setCell ⟨g, 4, none⟩ a4).setCell ⟨g, 5, none⟩ a5).setCell ⟨g, 6, none⟩ a6).setCell ⟨g, 7, none⟩ a7).setCell ⟨g, 8, none⟩ a8).setCell ⟨g, 9, none⟩ a9).setCell ⟨g, 10, none⟩ a10)
theorem own8_lay11 {W : World} {base g : Nat} {t : TypeId} {v : Value} {l : List UInt8} (h : Own8 W base t v l) (hg : g < base) (a0 a1 a2 a3 a4 a5 a6 a7 a8 a9 a10 : Value) : Own8 (lay11 W g a0 a1 a2 a3 a4 a5 a6 a7 a8 a9 a10) base t v l := (own8_cell (own8_cell (own8_cell (own8_cell (own8_cell (own8_cell (own8_cell (own8_cell (own8_cell (own8_cell (own8_cell h hg 0 a0) hg 1 a1) hg 2 a2) hg 3 a3) hg 4 a4) hg 5 a5) hg 6 a6) hg 7 a7) hg 8 a8) hg 9 a9) hg 10 a10)
theorem ownLe_lay11 {W : World} {base g : Nat} {t : TypeId} {size k : Nat} {v : Value} {xs : List Value} (h : OwnLe W base t size v k xs) (hg : g < base) (a0 a1 a2 a3 a4 a5 a6 a7 a8 a9 a10 : Value) : OwnLe (lay11 W g a0 a1 a2 a3 a4 a5 a6 a7 a8 a9 a10) base t size v k xs := (ownLe_cell' (ownLe_cell' (ownLe_cell' (ownLe_cell' (ownLe_cell' (ownLe_cell' (ownLe_cell' (ownLe_cell' (ownLe_cell' (ownLe_cell' (ownLe_cell' h hg 0 a0) hg 1 a1) hg 2 a2) hg 3 a3) hg 4 a4) hg 5 a5) hg 6 a6) hg 7 a7) hg 8 a8) hg 9 a9) hg 10 a10)
theorem below_cell {B : Nat} {W W' : World} (h : Below B W W') {g : Nat} (hg : B ≤ g) (hB : B ≤ W.heap.size) (j : Nat) (u : Value) : Below B W (W'.setCell ⟨g, j, none⟩ u) := h.grown (cell_grown W' g j u) (Nat.le_trans hB h.size) (fun k hk => by injection hk with hk; omega)
theorem below_lay11 {B : Nat} {W0 W : World} (h : Below B W0 W) {g : Nat} (hg : B ≤ g) (hB : B ≤ W0.heap.size) (a0 a1 a2 a3 a4 a5 a6 a7 a8 a9 a10 : Value) : Below B W0 (lay11 W g a0 a1 a2 a3 a4 a5 a6 a7 a8 a9 a10) := by
  unfold lay11
  iterate 11 (refine below_cell ?_ hg hB _ _)
  exact h
abbrev zeroC : List Value := [.int .i64 0, .int .i64 0, .int .i64 0, .int .i64 0, .int .i64 0, .int .i64 0, .slice none 0 0, .slice none 0 0, .int .i64 0, .slice none 0 0, .slice none 0 0]
/-- Copied under way: the record handed in (boxed), the result, the copy. -/
structure Cp (w : World) (C D : List Value) (W : World) : Prop where
  low : Below w.heap.size w W
  box : RowC W w.heap.size 26 C
  res : RowC W (w.heap.size + 1) 26 zeroC
  tmp : RowC W (w.heap.size + 1 + 1) 26 D
theorem Cp.laid {w W : World} {C D : List Value} (h : Cp w C D W) (a0 a1 a2 a3 a4 a5 a6 a7 a8 a9 a10 : Value) : RowC (lay11 W (w.heap.size + 1) a0 a1 a2 a3 a4 a5 a6 a7 a8 a9 a10) (w.heap.size + 1) 26 [a0, a1, a2, a3, a4, a5, a6, a7, a8, a9, a10] :=
  (((((((((((h.res.stored 0 a0).stored 1 a1).stored 2 a2).stored 3 a3).stored 4 a4).stored 5 a5).stored 6 a6).stored 7 a7).stored 8 a8).stored 9 a9).stored 10 a10)
theorem Cp.below {w W W' : World} {C D : List Value} (h : Cp w C D W) (hb : Below W.heap.size W W') : Cp w C D W' := ⟨below_then h.low hb, h.box.below hb, h.res.below hb, h.tmp.below hb⟩
theorem Cp.store {w W : World} {C D : List Value} (h : Cp w C D W) (j : Nat) (v : Value) : Cp w C (D.set j v) (W.setCell ⟨w.heap.size + 1 + 1, j, none⟩ v) :=
  have hg := cell_grown W (w.heap.size + 1 + 1) j v
  ⟨h.low.grown hg h.low.size (fun k hk => by injection hk with hk; omega), h.box.grown hg (by intro e; injection e with e; omega), h.res.grown hg (by intro e; injection e with e; omega), h.tmp.stored j v⟩

set_option maxHeartbeats 8000000 in
theorem copied_any {w : World} {x : RecD} {q : RPl} (h : RecR w x q) (m3 : x.rows.length ≤ 255) (m4 : x.dirty.length ≤ 255) {cs : Array Value} (hcs : cs = (recC x q).toArray) :
    Calls Try.prog 26 #[.agg cs] w fun e w' => ∃ q', e = .returned (.agg (recC x q').toArray) ∧ Below w.heap.size w w' ∧ RecLs w' w.heap.size x q' := by
  obtain ⟨⟨A1, c1, e1, r1⟩, ⟨A2, c2, e2, r2⟩, ⟨A3, c3, e3, r3⟩, ⟨A4, c4, e4, r4⟩, _, n1, n2, n3, n4⟩ := h
  obtain ⟨k1, hk1⟩ : ∃ k, x.before.length = k := ⟨_, rfl⟩
  obtain ⟨k2, hk2⟩ : ∃ k, x.after.length = k := ⟨_, rfl⟩
  obtain ⟨k3, hk3⟩ : ∃ k, x.rows.length = k := ⟨_, rfl⟩
  obtain ⟨k4, hk4⟩ : ∃ k, x.dirty.length = k := ⟨_, rfl⟩
  have hcs2 : cs = #[.int .i64 x.kind, .int .i64 x.birth, .int .i64 x.prev, .int .i64 x.id, .int .i64 x.page, .int .i64 x.frm, .slice A1 k1 c1, .slice A2 k2 c2, .int .i64 x.next, .slice A3 k3 c3, .slice A4 k4 c4] := by rw [hcs]; unfold recC; rw [e1, e2, e3, e4, hk1, hk2, hk3, hk4]
  subst hcs2
  have HR1 := Lib.hid r1
  have HR2 := Lib.hid r2
  have HR3 := Lib.hid r3
  have HR4 := Lib.hid r4
  have HK1 := Lib.hid hk1
  have HK2 := Lib.hid hk2
  have HK3 := Lib.hid hk3
  have HK4 := Lib.hid hk4
  rw [hk1] at n1
  rw [hk2] at n2
  rw [hk3] at n3 m3
  rw [hk4] at n4 m4
  clear hcs e1 e2 e3 e4 r1 r2 r3 r4 hk1 hk2 hk3 hk4
  go_enter Try.func26, Try.ntmps26
  have H3 : ∀ a b c : Obj, Below w.heap.size w (((w.alloc a).alloc b).alloc c) := fun a b c => (((Below.refl _ _).alloc (Nat.le_refl _) a).alloc (by simp) b).alloc (by simp; omega) c
  go_wp2_with (at_builtin; refine wpList_app2 (l := []) (m := x.before) rfl _ _ rfl tU8 rfl (Own8.nilRow _ _ _) rfl HK1.out.symm (HR1.out.below (H3 _ _ _)) (by rw [HK1.out]; simp; omega) (Nat.le_refl _) ?_)
  intro v5 w5 o5 hw5
  have hb5 := grown_below hw5.grown (Nat.le_refl _) (fun k hk => by simp [Value.ownBlock] at hk)
  have S5 : Cp w [.int .i64 x.kind, .int .i64 x.birth, .int .i64 x.prev, .int .i64 x.id, .int .i64 x.page, .int .i64 x.frm, .slice A1 k1 c1, .slice A2 k2 c2, .int .i64 x.next, .slice A3 k3 c3, .slice A4 k4 c4] [.int .i64 x.kind, .int .i64 x.birth, .int .i64 x.prev, .int .i64 x.id, .int .i64 x.page, .int .i64 x.frm, .slice none 0 0, .slice none 0 0, .int .i64 x.next, .slice none 0 0, .slice none 0 0] w5 := Cp.below ⟨H3 _ _ _, (rowC_new rfl).below (((Below.refl _ _).alloc (Nat.le_refl _) _).alloc (by simp) _), (rowC_new (by simp)).below ((Below.refl _ _).alloc (Nat.le_refl _) _), rowC_new (by simp)⟩ hb5
  try rw [List.nil_append] at o5
  obtain ⟨B1, d1, rfl, s1⟩ := own_rda o5
  rw [HK1.out]
  rw [HK1.out] at o5
  have S6 := S5.store 6 (.slice B1 k1 d1)
  have t6 := S5.tmp.cell (j := 6) rfl
  have f6 := S5.tmp.free 6
  have t7 := S6.tmp.cell (j := 7) rfl
  have b7 := S6.box.cell (j := 7) rfl
  have O5 := Lib.hid o5
  clear hw5 hb5 o5 s1
  go_wp2_with (at_builtin; refine wpList_app2 (l := []) (m := x.after) rfl _ _ rfl tU8 rfl (Own8.nilRow _ _ _) rfl HK2.out.symm (HR2.out.below S6.low) (by rw [HK2.out]; simp; omega) (Nat.le_refl _) ?_)
  intro v7 w7 o7 hw7
  have hb7 := grown_below hw7.grown (Nat.le_refl _) (fun k hk => by simp [Value.ownBlock] at hk)
  have S7 := S6.below hb7
  try rw [List.nil_append] at o7
  obtain ⟨B2, d2, rfl, s2⟩ := own_rda o7
  rw [HK2.out]
  rw [HK2.out] at o7
  have S8 := S7.store 7 (.slice B2 k2 d2)
  have t7' := S7.tmp.cell (j := 7) rfl
  have f7 := S7.tmp.free 7
  have t9 := S8.tmp.cell (j := 9) rfl
  have b9 := S8.box.cell (j := 9) rfl
  have O7 := Lib.hid o7
  have hs6 : w5.heap.size = (w5.setCell ⟨w.heap.size + 1 + 1, 6, none⟩ (.slice B1 k1 d1)).heap.size := by simp [World.setCell]
  have HB7 := Lib.hid hb7
  clear hw7 o7 s2 t6 f6 t7 b7
  go_wp2_with (at_builtin; refine wpList_appRdS rfl _ _ 23 rfl 58 Try.underlying23 (z := .agg #[.int .i64 0, .int .i64 0, .int .i64 0, .int .i64 0, .int .i64 0]) (size := 5) (bytes := 40) (by kernel_rfl) rfl (by decide) (f := row9C) (R := rRow9) (fun _ => rfl) (fun cs x h => (rRow9_is h).1) (fun x u hu => by unfold row9C at hu; simp at hu; rcases hu with rfl | rfl | rfl | rfl | rfl <;> rfl) rfl rfl HK3.out.symm (HR3.out.below keeps_row9 S8.low) (by unfold maxLen; omega) (by omega) ?_)
  intro v9 w9 O9 hb9
  have S9 := S8.below (show Below (w7.setCell ⟨w.heap.size + 1 + 1, 7, none⟩ (.slice B2 k2 d2)).heap.size _ w9 by simpa using hb9)
  obtain ⟨B3, d3, rfl⟩ := ownLe_slice O9
  have S10 := S9.store 9 (.slice B3 k3 d3)
  have t9' := S9.tmp.cell (j := 9) rfl
  have f9 := S9.tmp.free 9
  have t10 := S10.tmp.cell (j := 10) rfl
  have b10 := S10.box.cell (j := 10) rfl
  have HO9 := Lib.hid O9
  clear O9 t7' f7 t9 b9
  go_wp2_with (at_builtin; refine wpList_appRdS rfl _ _ 24 rfl 60 Try.underlying24 (z := .agg #[.int .i64 0, .int .i64 0]) (size := 2) (bytes := 16) (by kernel_rfl) rfl (by decide) (f := dirtC) (R := rDirt) (fun _ => rfl) (fun cs x h => (rDirt_is h).1) (fun x u hu => by unfold dirtC at hu; simp at hu; rcases hu with rfl | rfl <;> rfl) rfl rfl HK4.out.symm (HR4.out.below keeps_dirt S10.low) (by unfold maxLen; omega) (by omega) ?_)
  intro v11 w11 O11 hb11
  have S11 := S10.below (show Below (w9.setCell ⟨w.heap.size + 1 + 1, 9, none⟩ (.slice B3 k3 d3)).heap.size _ w11 by simpa using hb11)
  obtain ⟨B4, d4, rfl⟩ := ownLe_slice O11
  have S12 := S11.store 10 (.slice B4 k4 d4)
  have t10' := S11.tmp.cell (j := 10) rfl
  have f10 := S11.tmp.free 10
  have y0 := S12.tmp.cell (j := 0) rfl
  have y1 := S12.tmp.cell (j := 1) rfl
  have y2 := S12.tmp.cell (j := 2) rfl
  have y3 := S12.tmp.cell (j := 3) rfl
  have y4 := S12.tmp.cell (j := 4) rfl
  have y5 := S12.tmp.cell (j := 5) rfl
  have y6 := S12.tmp.cell (j := 6) rfl
  have y7 := S12.tmp.cell (j := 7) rfl
  have y8 := S12.tmp.cell (j := 8) rfl
  have y9 := S12.tmp.cell (j := 9) rfl
  have y10 := S12.tmp.cell (j := 10) rfl
  have z0 := S12.res.cell (j := 0) rfl
  have z1 := S12.res.cell (j := 1) rfl
  have z2 := S12.res.cell (j := 2) rfl
  have z3 := S12.res.cell (j := 3) rfl
  have z4 := S12.res.cell (j := 4) rfl
  have z5 := S12.res.cell (j := 5) rfl
  have z6 := S12.res.cell (j := 6) rfl
  have z7 := S12.res.cell (j := 7) rfl
  have z8 := S12.res.cell (j := 8) rfl
  have z9 := S12.res.cell (j := 9) rfl
  have z10 := S12.res.cell (j := 10) rfl
  have zf := S12.res.free
  have HO11 := Lib.hid O11
  clear O11 t9' f9 t10 b10
  go_wp2_with fail
  have hb9' : Below (w7.setCell ⟨w.heap.size + 1 + 1, 7, none⟩ (.slice B2 k2 d2)).heap.size (w7.setCell ⟨w.heap.size + 1 + 1, 7, none⟩ (.slice B2 k2 d2)) w9 := by simpa using hb9
  have hb11' : Below (w9.setCell ⟨w.heap.size + 1 + 1, 9, none⟩ (.slice B3 k3 d3)).heap.size (w9.setCell ⟨w.heap.size + 1 + 1, 9, none⟩ (.slice B3 k3 d3)) w11 := by simpa using hb11
  have g5 : w.heap.size + 1 + 1 < w5.heap.size := S5.tmp.lt
  have g7 : w.heap.size + 1 + 1 < w7.heap.size := S7.tmp.lt
  have g9 : w.heap.size + 1 + 1 < w9.heap.size := S9.tmp.lt
  have L5 := own8_lay11 (g := w.heap.size + 1) (own8_cell ((own8_cell ((own8_cell ((own8_cell O5.out (g := w.heap.size + 1 + 1) (by simp) 6 (.slice B1 k1 d1)).below HB7.out) (g := w.heap.size + 1 + 1) (by simp) 7 (.slice B2 k2 d2)).below hb9') (g := w.heap.size + 1 + 1) (by simp) 9 (.slice B3 k3 d3)).below hb11') (g := w.heap.size + 1 + 1) (by simp) 10 (.slice B4 k4 d4)) (by simp) (.int .i64 x.kind) (.int .i64 x.birth) (.int .i64 x.prev) (.int .i64 x.id) (.int .i64 x.page) (.int .i64 x.frm) (.slice B1 k1 d1) (.slice B2 k2 d2) (.int .i64 x.next) (.slice B3 k3 d3) (.slice B4 k4 d4)
  have o7 : Own8 w7 w5.heap.size 5 (.slice B2 k2 d2) x.after := by simpa using O7.out
  have L7 := own8_lay11 (g := w.heap.size + 1) (own8_cell ((own8_cell ((own8_cell o7 (g := w.heap.size + 1 + 1) g5 7 (.slice B2 k2 d2)).below hb9') (g := w.heap.size + 1 + 1) g5 9 (.slice B3 k3 d3)).below hb11') (g := w.heap.size + 1 + 1) g5 10 (.slice B4 k4 d4)) (by omega) (.int .i64 x.kind) (.int .i64 x.birth) (.int .i64 x.prev) (.int .i64 x.id) (.int .i64 x.page) (.int .i64 x.frm) (.slice B1 k1 d1) (.slice B2 k2 d2) (.int .i64 x.next) (.slice B3 k3 d3) (.slice B4 k4 d4)
  have o9 : OwnLe w9 w7.heap.size 58 5 (.slice B3 k3 d3) k3 (x.rows.flatMap row9C) := by simpa using HO9.out
  have L9 := ownLe_lay11 (g := w.heap.size + 1) (ownLe_cell' (ownLe_below (ownLe_cell' o9 (g := w.heap.size + 1 + 1) g7 9 (.slice B3 k3 d3)) hb11') (g := w.heap.size + 1 + 1) g7 10 (.slice B4 k4 d4)) (by omega) (.int .i64 x.kind) (.int .i64 x.birth) (.int .i64 x.prev) (.int .i64 x.id) (.int .i64 x.page) (.int .i64 x.frm) (.slice B1 k1 d1) (.slice B2 k2 d2) (.int .i64 x.next) (.slice B3 k3 d3) (.slice B4 k4 d4)
  have o11 : OwnLe w11 w9.heap.size 60 2 (.slice B4 k4 d4) k4 (x.dirty.flatMap dirtC) := by simpa using HO11.out
  have L11 := ownLe_lay11 (g := w.heap.size + 1) (ownLe_cell' o11 (g := w.heap.size + 1 + 1) g9 10 (.slice B4 k4 d4)) (by omega) (.int .i64 x.kind) (.int .i64 x.birth) (.int .i64 x.prev) (.int .i64 x.id) (.int .i64 x.page) (.int .i64 x.frm) (.slice B1 k1 d1) (.slice B2 k2 d2) (.int .i64 x.next) (.slice B3 k3 d3) (.slice B4 k4 d4)
  have LC := S12.laid (.int .i64 x.kind) (.int .i64 x.birth) (.int .i64 x.prev) (.int .i64 x.id) (.int .i64 x.page) (.int .i64 x.frm) (.slice B1 k1 d1) (.slice B2 k2 d2) (.int .i64 x.next) (.slice B3 k3 d3) (.slice B4 k4 d4)
  have LB := below_lay11 (g := w.heap.size + 1) S12.low (by omega) (Nat.le_refl _) (.int .i64 x.kind) (.int .i64 x.birth) (.int .i64 x.prev) (.int .i64 x.id) (.int .i64 x.page) (.int .i64 x.frm) (.slice B1 k1 d1) (.slice B2 k2 d2) (.int .i64 x.next) (.slice B3 k3 d3) (.slice B4 k4 d4)
  have r0 := LC.cell (j := 0) rfl
  have r1 := LC.cell (j := 1) rfl
  have r2 := LC.cell (j := 2) rfl
  have r3 := LC.cell (j := 3) rfl
  have r4 := LC.cell (j := 4) rfl
  have r5 := LC.cell (j := 5) rfl
  have r6 := LC.cell (j := 6) rfl
  have r7 := LC.cell (j := 7) rfl
  have r8 := LC.cell (j := 8) rfl
  have r9 := LC.cell (j := 9) rfl
  have r10 := LC.cell (j := 10) rfl
  refine bodyPost_ret (v := .agg #[.int .i64 x.kind, .int .i64 x.birth, .int .i64 x.prev, .int .i64 x.id, .int .i64 x.page, .int .i64 x.frm, .slice B1 k1 d1, .slice B2 k2 d2, .int .i64 x.next, .slice B3 k3 d3, .slice B4 k4 d4]) (by simp [results, Try.results26, go_sem, r0, r1, r2, r3, r4, r5, r6, r7, r8, r9, r10]) rfl ⟨⟨.slice B1 k1 d1, .slice B2 k2 d2, .slice B3 k3 d3, .slice B4 k4 d4⟩, rfl, LB, ?_⟩
  refine ⟨L5.mono (by omega), L7.mono (by omega), ?_, ?_, ?_⟩
  · rw [HK3.out]; exact ownLe_base L9 fun k hk => by have := (ownLe_block L9 hk).1; omega
  · rw [HK4.out]; exact ownLe_base L11 fun k hk => by have := (ownLe_block L11 hk).1; omega
  · intro k h1 h2
    rcases ownNone _ O5.out with h0 | ⟨k', h3, _, h4⟩
    · rw [h0] at h1; cases h1
    · rcases ownNone _ L7 with h0 | ⟨k2', h5, h6, _⟩
      · rw [h0] at h2; cases h2
      · rw [h3] at h1; rw [h5] at h2; injection h1 with h1; injection h2 with h2; omega
end Go.Proofs.Ytiaehoppdihbdaa
