import Derived.Test.YtiaehoppdihbdaaRec11a
/- The contracts of package record: Bytes, Size. -/
set_option linter.unusedVariables false
set_option linter.unusedSimpArgs false
namespace Go.Proofs.Ytiaehoppdihbdaa
open Go.RowKit Go.Tm
set_option maxHeartbeats 400000
set_option maxRecDepth 100000
attribute [local go_sem ↓] Go.wp_at_zero Go.wp_at_succ

set_option maxHeartbeats 20000000 in
theorem bytes_any {w : World} {x : RecD} {q : RPl} (h : RecR w x q) {cs : Array Value} (hcs : cs = (recC x q).toArray) :
    Calls Try.prog 10 #[.agg cs] w (BytP x w) := by
  have PR := fun W (hb : Below w.heap.size w W) => right_any (h.below hb) hcs
  have HRC := Lib.hid h
  have HCS := Lib.hid hcs
  obtain ⟨⟨A1, c1, e1, r1⟩, ⟨A2, c2, e2, r2⟩, ⟨A3, c3, e3, r3⟩, ⟨A4, c4, e4, r4⟩, _, n1, n2, n3, n4⟩ := h
  obtain ⟨kind, birth, prev, id, page, frm, before, after, next, rows, dirty⟩ := x
  dsimp only at e1 e2 e3 e4 r1 r2 r3 r4 n1 n2 n3 n4
  have hcs2 : cs = #[.int .i64 kind, .int .i64 birth, .int .i64 prev, .int .i64 id, .int .i64 page, .int .i64 frm, .slice A1 before.length c1, .slice A2 after.length c2, .int .i64 next, .slice A3 rows.length c3, .slice A4 dirty.length c4] := by rw [hcs]; unfold recC; rw [e1, e2, e3, e4]
  subst hcs2
  obtain ⟨RB, hRB⟩ : ∃ b, rgtB ⟨kind, birth, prev, id, page, frm, before, after, next, rows, dirty⟩ = b := ⟨_, rfl⟩
  rw [hRB] at PR
  have HPR := Lib.hid PR
  have HRB := Lib.hid hRB
  have hb0 := (Below.refl w.heap.size w).alloc (Nat.le_refl _) (.cells #[.int .i64 kind, .int .i64 birth, .int .i64 prev, .int .i64 id, .int .i64 page, .int .i64 frm, .slice A1 before.length c1, .slice A2 after.length c2, .int .i64 next, .slice A3 rows.length c3, .slice A4 dirty.length c4] 26)
  have hR0 : RowC (w.alloc (.cells #[.int .i64 kind, .int .i64 birth, .int .i64 prev, .int .i64 id, .int .i64 page, .int .i64 frm, .slice A1 before.length c1, .slice A2 after.length c2, .int .i64 next, .slice A3 rows.length c3, .slice A4 dirty.length c4] 26)) w.heap.size 26 [.int .i64 kind, .int .i64 birth, .int .i64 prev, .int .i64 id, .int .i64 page, .int .i64 frm, .slice A1 before.length c1, .slice A2 after.length c2, .int .i64 next, .slice A3 rows.length c3, .slice A4 dirty.length c4] := heap_alloc_new w _
  have HB0 := Lib.hid hb0
  have HR0 := Lib.hid hR0
  have HQ1 := Lib.hid r1
  have HQ2 := Lib.hid r2
  have HQ3 := Lib.hid r3
  have HQ4 := Lib.hid r4
  have HC3 := Lib.hid r3.cap
  have HC4 := Lib.hid r4.cap
  clear hcs e1 e2 e3 e4 r1 r2 r3 r4 PR hb0 hR0
  cases RB with
  | false =>
    go_enter Try.func10, Try.ntmps10
    go_wp2_with fail
    refine (HPR.out _ HB0.out).mono ?_
    rintro e w1 ⟨rfl, hb1⟩
    have HB1 := Lib.hid (below_then HB0.out hb1)
    clear hb1
    go_wp2_with fail
    go_ret2
    have e1 : recV ⟨kind, birth, prev, id, page, frm, before, after, next, rows, dirty⟩ = [] := by unfold recV; rw [HRB.out]; rfl
    have e2 : recE ⟨kind, birth, prev, id, page, frm, before, after, next, rows, dirty⟩ = 90 := by unfold recE; rw [HRB.out]; rfl
    exact ⟨none, 0, by rw [e1, e2]; rfl, by rw [e1]; exact ⟨Own8.nilRow _ _ _, HB1.out⟩⟩
  | true =>
    rcases right_cases HRB.out with hq | hq | hq | hq | hq
    all_goals dsimp only at hq
    · obtain ⟨rfl, rfl, rfl, ⟨i1, i2⟩, rfl, rfl, rfl, rfl, rfl, rfl, rfl⟩ := hq
      have hw1 : IntKind.u8.wrap id = id := w8 (by omega) (by omega)
      have HR0' := Lib.hid HR0.out
      go_enter Try.func10, Try.ntmps10
      go_wp2_with fail
      refine (HPR.out _ HB0.out).mono ?_
      rintro e w1 ⟨rfl, hb1⟩
      have H0 : Hid (Bs w w.heap.size [.int .i64 1, .int .i64 0, .int .i64 0, .int .i64 id, .int .i64 0, .int .i64 0, .slice A1 0 c1, .slice A2 0 c2, .int .i64 0, .slice A3 0 c3, .slice A4 0 c4] [] (.slice none 0 0) w1) := Lib.hid ⟨below_then HB0.out hb1, HR0.out.below hb1, Own8.nilRow _ _ _⟩
      have H0d := Lib.hid (H0.out.below (Below.refl _ _).drew)
      clear hb1
      go_wp2_with fail
      refine wp_region_held_drew (S := (fun w' => w'.cell? ⟨w.heap.size, 0, none⟩ = some (.int .i64 1) ∧ w'.cell? ⟨w.heap.size, 1, none⟩ = some (.int .i64 0) ∧ w'.cell? ⟨w.heap.size, 2, none⟩ = some (.int .i64 0) ∧ w'.cell? ⟨w.heap.size, 3, none⟩ = some (.int .i64 id) ∧ w'.cell? ⟨w.heap.size, 4, none⟩ = some (.int .i64 0) ∧ w'.cell? ⟨w.heap.size, 5, none⟩ = some (.int .i64 0) ∧ w'.cell? ⟨w.heap.size, 6, none⟩ = some (.slice A1 0 c1) ∧ w'.cell? ⟨w.heap.size, 7, none⟩ = some (.slice A2 0 c2) ∧ w'.cell? ⟨w.heap.size, 8, none⟩ = some (.int .i64 0) ∧ w'.cell? ⟨w.heap.size, 9, none⟩ = some (.slice A3 0 c3) ∧ w'.cell? ⟨w.heap.size, 10, none⟩ = some (.slice A4 0 c4))) (by kernel_rfl) (⟨H0d.out.row.cell (j := 0) rfl, H0d.out.row.cell (j := 1) rfl, H0d.out.row.cell (j := 2) rfl, H0d.out.row.cell (j := 3) rfl, H0d.out.row.cell (j := 4) rfl, H0d.out.row.cell (j := 5) rfl, H0d.out.row.cell (j := 6) rfl, H0d.out.row.cell (j := 7) rfl, H0d.out.row.cell (j := 8) rfl, H0d.out.row.cell (j := 9) rfl, H0d.out.row.cell (j := 10) rfl⟩) (fun hHeld => ?_)
      refine wpAnyH_take (i := 0) (oi := { dst := some 13, op := Op.move (Operand.tmp 4), type := 63, pos := "record.go:139", after := #[], guard := none }) (v := ?va0) rfl (by kernel_rfl) (by kernel_rfl) (by kernel_rfl) (fun _ _ _ h => h) (Or.inl ⟨by rfl, ?ha0⟩) hHeld ?ra0
      case ha0 => ((intro w hSw); (try dsimp only at hSw); go_simp; (try with_reducible rfl))
      (try simp only [Act.put, List.setIfInBounds_toArray, List.set_cons_zero, List.set_cons_succ])
      refine wpAnyH_take (i := 1) (oi := { dst := some 14, op := Op.move (Operand.tmp 4), type := 63, pos := "record.go:139", after := #[], guard := none }) (v := ?va1) rfl (by kernel_rfl) (by kernel_rfl) (by kernel_rfl) (fun _ _ _ h => h) (Or.inl ⟨by rfl, ?ha1⟩) hHeld ?ra1
      case ha1 => ((intro w hSw); (try dsimp only at hSw); go_simp; (try with_reducible rfl))
      (try simp only [Act.put, List.setIfInBounds_toArray, List.set_cons_zero, List.set_cons_succ])
      refine wpAnyH_take (i := 2) (oi := { dst := some 15, op := Op.fieldAddr 26 (Operand.tmp 1) 0, type := 0, pos := "record.go:139", after := #[], guard := none }) (v := ?va2) rfl (by kernel_rfl) (by kernel_rfl) (by kernel_rfl) (fun _ _ _ h => h) (Or.inl ⟨by rfl, ?ha2⟩) hHeld ?ra2
      case ha2 => ((intro w hSw); (try dsimp only at hSw); go_simp; (try with_reducible rfl))
      (try simp only [Act.put, List.setIfInBounds_toArray, List.set_cons_zero, List.set_cons_succ])
      refine wpAnyH_take (i := 3) (oi := { dst := some 16, op := Op.load 3 (Operand.tmp 15), type := 3, pos := "record.go:139", after := #[{ on := 2, ground := Ground.data }], guard := none }) (v := ?va3) rfl (by kernel_rfl) (by kernel_rfl) (by kernel_rfl) (fun _ _ _ h => h) (Or.inl ⟨by rfl, ?ha3⟩) hHeld ?ra3
      case ha3 => ((intro w hSw); (try dsimp only at hSw); go_simp; (try with_reducible rfl))
      (try simp only [Act.put, List.setIfInBounds_toArray, List.set_cons_zero, List.set_cons_succ])
      refine wpAnyH_take (i := 4) (oi := { dst := some 17, op := Op.convert 3 5 (Operand.tmp 16), type := 5, pos := "record.go:139", after := #[{ on := 3, ground := Ground.data }], guard := none }) (v := ?va4) rfl (by kernel_rfl) (by kernel_rfl) (by kernel_rfl) (fun _ _ _ h => h) (Or.inl ⟨by rfl, ?ha4⟩) hHeld ?ra4
      case ha4 => ((intro w hSw); (try dsimp only at hSw); go_simp; (try with_reducible rfl))
      (try simp only [Act.put, List.setIfInBounds_toArray, List.set_cons_zero, List.set_cons_succ])
      refine wpAnyH_take (i := 6) (oi := { dst := some 19, op := Op.fieldAddr 26 (Operand.tmp 1) 1, type := 0, pos := "record.go:139", after := #[], guard := none }) (v := ?va5) rfl (by kernel_rfl) (by kernel_rfl) (by kernel_rfl) (fun _ _ _ h => h) (Or.inl ⟨by rfl, ?ha5⟩) hHeld ?ra5
      case ha5 => ((intro w hSw); (try dsimp only at hSw); go_simp; (try with_reducible rfl))
      (try simp only [Act.put, List.setIfInBounds_toArray, List.set_cons_zero, List.set_cons_succ])
      refine wpAnyH_take (i := 7) (oi := { dst := some 20, op := Op.load 3 (Operand.tmp 19), type := 3, pos := "record.go:139", after := #[{ on := 6, ground := Ground.data }], guard := none }) (v := ?va6) rfl (by kernel_rfl) (by kernel_rfl) (by kernel_rfl) (fun _ _ _ h => h) (Or.inl ⟨by rfl, ?ha6⟩) hHeld ?ra6
      case ha6 => ((intro w hSw); (try dsimp only at hSw); go_simp; (try with_reducible rfl))
      (try simp only [Act.put, List.setIfInBounds_toArray, List.set_cons_zero, List.set_cons_succ])
      refine wpAnyH_take (i := 9) (oi := { dst := some 22, op := Op.fieldAddr 26 (Operand.tmp 1) 2, type := 0, pos := "record.go:139", after := #[], guard := none }) (v := ?va7) rfl (by kernel_rfl) (by kernel_rfl) (by kernel_rfl) (fun _ _ _ h => h) (Or.inl ⟨by rfl, ?ha7⟩) hHeld ?ra7
      case ha7 => ((intro w hSw); (try dsimp only at hSw); go_simp; (try with_reducible rfl))
      (try simp only [Act.put, List.setIfInBounds_toArray, List.set_cons_zero, List.set_cons_succ])
      refine wpAnyH_take (i := 10) (oi := { dst := some 23, op := Op.load 3 (Operand.tmp 22), type := 3, pos := "record.go:139", after := #[{ on := 9, ground := Ground.data }], guard := none }) (v := ?va8) rfl (by kernel_rfl) (by kernel_rfl) (by kernel_rfl) (fun _ _ _ h => h) (Or.inl ⟨by rfl, ?ha8⟩) hHeld ?ra8
      case ha8 => ((intro w hSw); (try dsimp only at hSw); go_simp; (try with_reducible rfl))
      (try simp only [Act.put, List.setIfInBounds_toArray, List.set_cons_zero, List.set_cons_succ])
      refine wpAnyH_ready (rs := [5]) (by kernel_rfl) (by simp) ?_
      refine AllReadyH.cons (o := { dst := some 18, op := Op.call { callee := Callee.value (Operand.func 30), args := #[Operand.const (Value.slice none 0 0), Operand.tmp 17], argTypes := #[22, 5] }, type := 22, pos := "record.go:139", after := #[{ on := 4, ground := Ground.data }], guard := none }) rfl (fun K hK => ?_) AllReadyH.nil
      go_simp
      go_at_call 30
      refine (H0d.out.put1 (1) (by omega) (by omega) (by simp only [List.length_append, nB_length, List.length_nil]; omega)).mono ?_
      rintro e w11 ⟨A11, n11, c11, rfl, hS⟩
      have H11 := Lib.hid hS
      clear hS
      try go_wp2_with fail
      refine hK.out _ _ ?_ (fun hHeld => ?_)
      · exact ⟨H11.out.row.cell (j := 0) rfl, H11.out.row.cell (j := 1) rfl, H11.out.row.cell (j := 2) rfl, H11.out.row.cell (j := 3) rfl, H11.out.row.cell (j := 4) rfl, H11.out.row.cell (j := 5) rfl, H11.out.row.cell (j := 6) rfl, H11.out.row.cell (j := 7) rfl, H11.out.row.cell (j := 8) rfl, H11.out.row.cell (j := 9) rfl, H11.out.row.cell (j := 10) rfl⟩
      clear hK K
      (try simp only [Act.put, List.setIfInBounds_toArray, List.set_cons_zero, List.set_cons_succ])
      refine wpAnyH_ready (rs := [8]) (by kernel_rfl) (by simp) ?_
      refine AllReadyH.cons (o := { dst := some 21, op := Op.call { callee := Callee.value (Operand.tmp 14), args := #[Operand.tmp 18, Operand.tmp 20], argTypes := #[22, 3] }, type := 22, pos := "record.go:139", after := #[{ on := 1, ground := Ground.data }, { on := 5, ground := Ground.data }, { on := 7, ground := Ground.data }, { on := 5, ground := Ground.chain }], guard := none }) rfl (fun K hK => ?_) AllReadyH.nil
      go_simp
      refine (H11.out.put8 (0) (by omega) (by omega) (by simp only [List.length_append, nB_length, List.length_nil]; omega)).mono ?_
      rintro e w12 ⟨A12, n12, c12, rfl, hS⟩
      have H12 := Lib.hid hS
      clear hS
      try go_wp2_with fail
      refine hK.out _ _ ?_ (fun hHeld => ?_)
      · exact ⟨H12.out.row.cell (j := 0) rfl, H12.out.row.cell (j := 1) rfl, H12.out.row.cell (j := 2) rfl, H12.out.row.cell (j := 3) rfl, H12.out.row.cell (j := 4) rfl, H12.out.row.cell (j := 5) rfl, H12.out.row.cell (j := 6) rfl, H12.out.row.cell (j := 7) rfl, H12.out.row.cell (j := 8) rfl, H12.out.row.cell (j := 9) rfl, H12.out.row.cell (j := 10) rfl⟩
      clear hK K
      (try simp only [Act.put, List.setIfInBounds_toArray, List.set_cons_zero, List.set_cons_succ])
      refine wpAnyH_ready (rs := [11]) (by kernel_rfl) (by simp) ?_
      refine AllReadyH.cons (o := { dst := some 24, op := Op.call { callee := Callee.value (Operand.tmp 13), args := #[Operand.tmp 21, Operand.tmp 23], argTypes := #[22, 3] }, type := 22, pos := "record.go:139", after := #[{ on := 0, ground := Ground.data }, { on := 8, ground := Ground.data }, { on := 10, ground := Ground.data }, { on := 8, ground := Ground.chain }], guard := none }) rfl (fun K hK => ?_) AllReadyH.nil
      go_simp
      refine (H12.out.put8 (0) (by omega) (by omega) (by simp only [List.length_append, nB_length, List.length_nil]; omega)).mono ?_
      rintro e w13 ⟨A13, n13, c13, rfl, hS⟩
      have H13 := Lib.hid hS
      clear hS
      try go_wp2_with fail
      refine hK.out _ _ ?_ (fun hHeld => ?_)
      · exact ⟨H13.out.row.cell (j := 0) rfl, H13.out.row.cell (j := 1) rfl, H13.out.row.cell (j := 2) rfl, H13.out.row.cell (j := 3) rfl, H13.out.row.cell (j := 4) rfl, H13.out.row.cell (j := 5) rfl, H13.out.row.cell (j := 6) rfl, H13.out.row.cell (j := 7) rfl, H13.out.row.cell (j := 8) rfl, H13.out.row.cell (j := 9) rfl, H13.out.row.cell (j := 10) rfl⟩
      clear hK K
      (try simp only [Act.put, List.setIfInBounds_toArray, List.set_cons_zero, List.set_cons_succ])
      refine wpAnyH_take (i := 12) (oi := { dst := some 5, op := Op.assign (Operand.tmp 24), type := 22, pos := "record.go:139", after := #[{ on := 11, ground := Ground.data }, { on := 11, ground := Ground.chain }, { on := 0, ground := Ground.phase }, { on := 1, ground := Ground.phase }, { on := 2, ground := Ground.phase }, { on := 3, ground := Ground.phase }, { on := 4, ground := Ground.phase }, { on := 5, ground := Ground.phase }, { on := 6, ground := Ground.phase }, { on := 7, ground := Ground.phase }, { on := 8, ground := Ground.phase }, { on := 9, ground := Ground.phase }, { on := 10, ground := Ground.phase }, { on := 11, ground := Ground.phase }], guard := none }) (v := ?va9) rfl (by kernel_rfl) (by kernel_rfl) (by kernel_rfl) (fun _ _ _ h => h) (Or.inl ⟨by rfl, ?ha9⟩) hHeld ?ra9
      case ha9 => ((intro w hSw); (try dsimp only at hSw); go_simp; (try with_reducible rfl))
      (try simp only [Act.put, List.setIfInBounds_toArray, List.set_cons_zero, List.set_cons_succ])
      refine wpAnyH_done (by kernel_rfl) ?_ _
      skip
      have d0 := H13.out.row.cell (j := 0) rfl
      have d1 := H13.out.row.cell (j := 1) rfl
      have d2 := H13.out.row.cell (j := 2) rfl
      have d3 := H13.out.row.cell (j := 3) rfl
      have d4 := H13.out.row.cell (j := 4) rfl
      have d5 := H13.out.row.cell (j := 5) rfl
      have d6 := H13.out.row.cell (j := 6) rfl
      have d7 := H13.out.row.cell (j := 7) rfl
      have d8 := H13.out.row.cell (j := 8) rfl
      have d9 := H13.out.row.cell (j := 9) rfl
      have d10 := H13.out.row.cell (j := 10) rfl
      go_wp2_with fail
      refine (H13.out.put1 id (by omega) (by omega) (by simp only [List.length_append, nB_length, List.length_nil]; omega)).mono ?_
      rintro e w14 ⟨A14, n14, c14, rfl, hS⟩
      have H14 := Lib.hid hS
      clear hS d0 d1 d2 d3 d4 d5 d6 d7 d8 d9 d10
      go_wp2_with fail
      go_ret2
      exact byt_done H14.out HRB.out (by simp [recL, headR, tailR])
    · obtain ⟨rfl, hb, hp, rfl, hg, hlen, _, rfl, rfl, rfl⟩ := hq
      have hb' := (lsnB_iff _).1 hb
      have hp' := (lsnB_iff _).1 hp
      obtain ⟨⟨g0, g1⟩, ⟨k0, k1⟩, f0, f1⟩ := (rangB_iff _ _ _).1 hg
      have hw1 : IntKind.u8.wrap page = page := w8 (by omega) (by omega)
      have hw2 : IntKind.u16.wrap frm = frm := w16 (by omega) (by omega)
      have hw3 : IntKind.u16.wrap (after.length : Int) = (after.length : Int) := w16 (by omega) (by omega)
      have HLN := Lib.hid hlen
      rw [hlen] at HPR HB0 HR0 ⊢
      clear hb hp hg hlen
      have HR0' := Lib.hid HR0.out
      go_enter Try.func10, Try.ntmps10
      go_wp2_with fail
      refine (HPR.out _ HB0.out).mono ?_
      rintro e w1 ⟨rfl, hb1⟩
      have H0 : Hid (Bs w w.heap.size [.int .i64 2, .int .i64 birth, .int .i64 prev, .int .i64 0, .int .i64 page, .int .i64 frm, .slice A1 after.length c1, .slice A2 after.length c2, .int .i64 0, .slice A3 0 c3, .slice A4 0 c4] [] (.slice none 0 0) w1) := Lib.hid ⟨below_then HB0.out hb1, HR0.out.below hb1, Own8.nilRow _ _ _⟩
      have H0d := Lib.hid (H0.out.below (Below.refl _ _).drew)
      clear hb1
      go_wp2_with fail
      refine wp_region_held_drew (S := (fun w' => w'.cell? ⟨w.heap.size, 0, none⟩ = some (.int .i64 2) ∧ w'.cell? ⟨w.heap.size, 1, none⟩ = some (.int .i64 birth) ∧ w'.cell? ⟨w.heap.size, 2, none⟩ = some (.int .i64 prev) ∧ w'.cell? ⟨w.heap.size, 3, none⟩ = some (.int .i64 0) ∧ w'.cell? ⟨w.heap.size, 4, none⟩ = some (.int .i64 page) ∧ w'.cell? ⟨w.heap.size, 5, none⟩ = some (.int .i64 frm) ∧ w'.cell? ⟨w.heap.size, 6, none⟩ = some (.slice A1 after.length c1) ∧ w'.cell? ⟨w.heap.size, 7, none⟩ = some (.slice A2 after.length c2) ∧ w'.cell? ⟨w.heap.size, 8, none⟩ = some (.int .i64 0) ∧ w'.cell? ⟨w.heap.size, 9, none⟩ = some (.slice A3 0 c3) ∧ w'.cell? ⟨w.heap.size, 10, none⟩ = some (.slice A4 0 c4))) (by kernel_rfl) (⟨H0d.out.row.cell (j := 0) rfl, H0d.out.row.cell (j := 1) rfl, H0d.out.row.cell (j := 2) rfl, H0d.out.row.cell (j := 3) rfl, H0d.out.row.cell (j := 4) rfl, H0d.out.row.cell (j := 5) rfl, H0d.out.row.cell (j := 6) rfl, H0d.out.row.cell (j := 7) rfl, H0d.out.row.cell (j := 8) rfl, H0d.out.row.cell (j := 9) rfl, H0d.out.row.cell (j := 10) rfl⟩) (fun hHeld => ?_)
      refine wpAnyH_take (i := 0) (oi := { dst := some 13, op := Op.move (Operand.tmp 4), type := 63, pos := "record.go:139", after := #[], guard := none }) (v := ?vu0) rfl (by kernel_rfl) (by kernel_rfl) (by kernel_rfl) (fun _ _ _ h => h) (Or.inl ⟨by rfl, ?hu0⟩) hHeld ?ru0
      case hu0 => ((intro w hSw); (try dsimp only at hSw); go_simp; (try with_reducible rfl))
      (try simp only [Act.put, List.setIfInBounds_toArray, List.set_cons_zero, List.set_cons_succ])
      refine wpAnyH_take (i := 1) (oi := { dst := some 14, op := Op.move (Operand.tmp 4), type := 63, pos := "record.go:139", after := #[], guard := none }) (v := ?vu1) rfl (by kernel_rfl) (by kernel_rfl) (by kernel_rfl) (fun _ _ _ h => h) (Or.inl ⟨by rfl, ?hu1⟩) hHeld ?ru1
      case hu1 => ((intro w hSw); (try dsimp only at hSw); go_simp; (try with_reducible rfl))
      (try simp only [Act.put, List.setIfInBounds_toArray, List.set_cons_zero, List.set_cons_succ])
      refine wpAnyH_take (i := 2) (oi := { dst := some 15, op := Op.fieldAddr 26 (Operand.tmp 1) 0, type := 0, pos := "record.go:139", after := #[], guard := none }) (v := ?vu2) rfl (by kernel_rfl) (by kernel_rfl) (by kernel_rfl) (fun _ _ _ h => h) (Or.inl ⟨by rfl, ?hu2⟩) hHeld ?ru2
      case hu2 => ((intro w hSw); (try dsimp only at hSw); go_simp; (try with_reducible rfl))
      (try simp only [Act.put, List.setIfInBounds_toArray, List.set_cons_zero, List.set_cons_succ])
      refine wpAnyH_take (i := 3) (oi := { dst := some 16, op := Op.load 3 (Operand.tmp 15), type := 3, pos := "record.go:139", after := #[{ on := 2, ground := Ground.data }], guard := none }) (v := ?vu3) rfl (by kernel_rfl) (by kernel_rfl) (by kernel_rfl) (fun _ _ _ h => h) (Or.inl ⟨by rfl, ?hu3⟩) hHeld ?ru3
      case hu3 => ((intro w hSw); (try dsimp only at hSw); go_simp; (try with_reducible rfl))
      (try simp only [Act.put, List.setIfInBounds_toArray, List.set_cons_zero, List.set_cons_succ])
      refine wpAnyH_take (i := 4) (oi := { dst := some 17, op := Op.convert 3 5 (Operand.tmp 16), type := 5, pos := "record.go:139", after := #[{ on := 3, ground := Ground.data }], guard := none }) (v := ?vu4) rfl (by kernel_rfl) (by kernel_rfl) (by kernel_rfl) (fun _ _ _ h => h) (Or.inl ⟨by rfl, ?hu4⟩) hHeld ?ru4
      case hu4 => ((intro w hSw); (try dsimp only at hSw); go_simp; (try with_reducible rfl))
      (try simp only [Act.put, List.setIfInBounds_toArray, List.set_cons_zero, List.set_cons_succ])
      refine wpAnyH_take (i := 6) (oi := { dst := some 19, op := Op.fieldAddr 26 (Operand.tmp 1) 1, type := 0, pos := "record.go:139", after := #[], guard := none }) (v := ?vu5) rfl (by kernel_rfl) (by kernel_rfl) (by kernel_rfl) (fun _ _ _ h => h) (Or.inl ⟨by rfl, ?hu5⟩) hHeld ?ru5
      case hu5 => ((intro w hSw); (try dsimp only at hSw); go_simp; (try with_reducible rfl))
      (try simp only [Act.put, List.setIfInBounds_toArray, List.set_cons_zero, List.set_cons_succ])
      refine wpAnyH_take (i := 7) (oi := { dst := some 20, op := Op.load 3 (Operand.tmp 19), type := 3, pos := "record.go:139", after := #[{ on := 6, ground := Ground.data }], guard := none }) (v := ?vu6) rfl (by kernel_rfl) (by kernel_rfl) (by kernel_rfl) (fun _ _ _ h => h) (Or.inl ⟨by rfl, ?hu6⟩) hHeld ?ru6
      case hu6 => ((intro w hSw); (try dsimp only at hSw); go_simp; (try with_reducible rfl))
      (try simp only [Act.put, List.setIfInBounds_toArray, List.set_cons_zero, List.set_cons_succ])
      refine wpAnyH_take (i := 9) (oi := { dst := some 22, op := Op.fieldAddr 26 (Operand.tmp 1) 2, type := 0, pos := "record.go:139", after := #[], guard := none }) (v := ?vu7) rfl (by kernel_rfl) (by kernel_rfl) (by kernel_rfl) (fun _ _ _ h => h) (Or.inl ⟨by rfl, ?hu7⟩) hHeld ?ru7
      case hu7 => ((intro w hSw); (try dsimp only at hSw); go_simp; (try with_reducible rfl))
      (try simp only [Act.put, List.setIfInBounds_toArray, List.set_cons_zero, List.set_cons_succ])
      refine wpAnyH_take (i := 10) (oi := { dst := some 23, op := Op.load 3 (Operand.tmp 22), type := 3, pos := "record.go:139", after := #[{ on := 9, ground := Ground.data }], guard := none }) (v := ?vu8) rfl (by kernel_rfl) (by kernel_rfl) (by kernel_rfl) (fun _ _ _ h => h) (Or.inl ⟨by rfl, ?hu8⟩) hHeld ?ru8
      case hu8 => ((intro w hSw); (try dsimp only at hSw); go_simp; (try with_reducible rfl))
      (try simp only [Act.put, List.setIfInBounds_toArray, List.set_cons_zero, List.set_cons_succ])
      refine wpAnyH_ready (rs := [5]) (by kernel_rfl) (by simp) ?_
      refine AllReadyH.cons (o := { dst := some 18, op := Op.call { callee := Callee.value (Operand.func 30), args := #[Operand.const (Value.slice none 0 0), Operand.tmp 17], argTypes := #[22, 5] }, type := 22, pos := "record.go:139", after := #[{ on := 4, ground := Ground.data }], guard := none }) rfl (fun K hK => ?_) AllReadyH.nil
      go_simp
      go_at_call 30
      refine (H0d.out.put1 (2) (by omega) (by omega) (by simp only [List.length_append, nB_length, List.length_nil]; omega)).mono ?_
      rintro e w11 ⟨A11, n11, c11, rfl, hS⟩
      have H11 := Lib.hid hS
      clear hS
      try go_wp2_with fail
      refine hK.out _ _ ?_ (fun hHeld => ?_)
      · exact ⟨H11.out.row.cell (j := 0) rfl, H11.out.row.cell (j := 1) rfl, H11.out.row.cell (j := 2) rfl, H11.out.row.cell (j := 3) rfl, H11.out.row.cell (j := 4) rfl, H11.out.row.cell (j := 5) rfl, H11.out.row.cell (j := 6) rfl, H11.out.row.cell (j := 7) rfl, H11.out.row.cell (j := 8) rfl, H11.out.row.cell (j := 9) rfl, H11.out.row.cell (j := 10) rfl⟩
      clear hK K
      (try simp only [Act.put, List.setIfInBounds_toArray, List.set_cons_zero, List.set_cons_succ])
      refine wpAnyH_ready (rs := [8]) (by kernel_rfl) (by simp) ?_
      refine AllReadyH.cons (o := { dst := some 21, op := Op.call { callee := Callee.value (Operand.tmp 14), args := #[Operand.tmp 18, Operand.tmp 20], argTypes := #[22, 3] }, type := 22, pos := "record.go:139", after := #[{ on := 1, ground := Ground.data }, { on := 5, ground := Ground.data }, { on := 7, ground := Ground.data }, { on := 5, ground := Ground.chain }], guard := none }) rfl (fun K hK => ?_) AllReadyH.nil
      go_simp
      refine (H11.out.put8 (birth) (by omega) (by omega) (by simp only [List.length_append, nB_length, List.length_nil]; omega)).mono ?_
      rintro e w12 ⟨A12, n12, c12, rfl, hS⟩
      have H12 := Lib.hid hS
      clear hS
      try go_wp2_with fail
      refine hK.out _ _ ?_ (fun hHeld => ?_)
      · exact ⟨H12.out.row.cell (j := 0) rfl, H12.out.row.cell (j := 1) rfl, H12.out.row.cell (j := 2) rfl, H12.out.row.cell (j := 3) rfl, H12.out.row.cell (j := 4) rfl, H12.out.row.cell (j := 5) rfl, H12.out.row.cell (j := 6) rfl, H12.out.row.cell (j := 7) rfl, H12.out.row.cell (j := 8) rfl, H12.out.row.cell (j := 9) rfl, H12.out.row.cell (j := 10) rfl⟩
      clear hK K
      (try simp only [Act.put, List.setIfInBounds_toArray, List.set_cons_zero, List.set_cons_succ])
      refine wpAnyH_ready (rs := [11]) (by kernel_rfl) (by simp) ?_
      refine AllReadyH.cons (o := { dst := some 24, op := Op.call { callee := Callee.value (Operand.tmp 13), args := #[Operand.tmp 21, Operand.tmp 23], argTypes := #[22, 3] }, type := 22, pos := "record.go:139", after := #[{ on := 0, ground := Ground.data }, { on := 8, ground := Ground.data }, { on := 10, ground := Ground.data }, { on := 8, ground := Ground.chain }], guard := none }) rfl (fun K hK => ?_) AllReadyH.nil
      go_simp
      refine (H12.out.put8 (prev) (by omega) (by omega) (by simp only [List.length_append, nB_length, List.length_nil]; omega)).mono ?_
      rintro e w13 ⟨A13, n13, c13, rfl, hS⟩
      have H13 := Lib.hid hS
      clear hS
      try go_wp2_with fail
      refine hK.out _ _ ?_ (fun hHeld => ?_)
      · exact ⟨H13.out.row.cell (j := 0) rfl, H13.out.row.cell (j := 1) rfl, H13.out.row.cell (j := 2) rfl, H13.out.row.cell (j := 3) rfl, H13.out.row.cell (j := 4) rfl, H13.out.row.cell (j := 5) rfl, H13.out.row.cell (j := 6) rfl, H13.out.row.cell (j := 7) rfl, H13.out.row.cell (j := 8) rfl, H13.out.row.cell (j := 9) rfl, H13.out.row.cell (j := 10) rfl⟩
      clear hK K
      (try simp only [Act.put, List.setIfInBounds_toArray, List.set_cons_zero, List.set_cons_succ])
      refine wpAnyH_take (i := 12) (oi := { dst := some 5, op := Op.assign (Operand.tmp 24), type := 22, pos := "record.go:139", after := #[{ on := 11, ground := Ground.data }, { on := 11, ground := Ground.chain }, { on := 0, ground := Ground.phase }, { on := 1, ground := Ground.phase }, { on := 2, ground := Ground.phase }, { on := 3, ground := Ground.phase }, { on := 4, ground := Ground.phase }, { on := 5, ground := Ground.phase }, { on := 6, ground := Ground.phase }, { on := 7, ground := Ground.phase }, { on := 8, ground := Ground.phase }, { on := 9, ground := Ground.phase }, { on := 10, ground := Ground.phase }, { on := 11, ground := Ground.phase }], guard := none }) (v := ?vu9) rfl (by kernel_rfl) (by kernel_rfl) (by kernel_rfl) (fun _ _ _ h => h) (Or.inl ⟨by rfl, ?hu9⟩) hHeld ?ru9
      case hu9 => ((intro w hSw); (try dsimp only at hSw); go_simp; (try with_reducible rfl))
      (try simp only [Act.put, List.setIfInBounds_toArray, List.set_cons_zero, List.set_cons_succ])
      refine wpAnyH_done (by kernel_rfl) ?_ _
      skip
      have d0 := H13.out.row.cell (j := 0) rfl
      have d1 := H13.out.row.cell (j := 1) rfl
      have d2 := H13.out.row.cell (j := 2) rfl
      have d3 := H13.out.row.cell (j := 3) rfl
      have d4 := H13.out.row.cell (j := 4) rfl
      have d5 := H13.out.row.cell (j := 5) rfl
      have d6 := H13.out.row.cell (j := 6) rfl
      have d7 := H13.out.row.cell (j := 7) rfl
      have d8 := H13.out.row.cell (j := 8) rfl
      have d9 := H13.out.row.cell (j := 9) rfl
      have d10 := H13.out.row.cell (j := 10) rfl
      have H13d := Lib.hid (H13.out.below (Below.refl _ _).drew)
      go_wp2_with fail
      clear d0 d1 d2 d3 d4 d5 d6 d7 d8 d9 d10
      refine wp_region_held_drew (S := (fun w' => w'.cell? ⟨w.heap.size, 0, none⟩ = some (.int .i64 2) ∧ w'.cell? ⟨w.heap.size, 1, none⟩ = some (.int .i64 birth) ∧ w'.cell? ⟨w.heap.size, 2, none⟩ = some (.int .i64 prev) ∧ w'.cell? ⟨w.heap.size, 3, none⟩ = some (.int .i64 0) ∧ w'.cell? ⟨w.heap.size, 4, none⟩ = some (.int .i64 page) ∧ w'.cell? ⟨w.heap.size, 5, none⟩ = some (.int .i64 frm) ∧ w'.cell? ⟨w.heap.size, 6, none⟩ = some (.slice A1 after.length c1) ∧ w'.cell? ⟨w.heap.size, 7, none⟩ = some (.slice A2 after.length c2) ∧ w'.cell? ⟨w.heap.size, 8, none⟩ = some (.int .i64 0) ∧ w'.cell? ⟨w.heap.size, 9, none⟩ = some (.slice A3 0 c3) ∧ w'.cell? ⟨w.heap.size, 10, none⟩ = some (.slice A4 0 c4))) (by kernel_rfl) (⟨H13d.out.row.cell (j := 0) rfl, H13d.out.row.cell (j := 1) rfl, H13d.out.row.cell (j := 2) rfl, H13d.out.row.cell (j := 3) rfl, H13d.out.row.cell (j := 4) rfl, H13d.out.row.cell (j := 5) rfl, H13d.out.row.cell (j := 6) rfl, H13d.out.row.cell (j := 7) rfl, H13d.out.row.cell (j := 8) rfl, H13d.out.row.cell (j := 9) rfl, H13d.out.row.cell (j := 10) rfl⟩) (fun hHeld => ?_)
      refine wpAnyH_take (i := 0) (oi := { dst := some 37, op := Op.move (Operand.tmp 5), type := 22, pos := "record.go:144", after := #[], guard := none }) (v := ?vux0) rfl (by kernel_rfl) (by kernel_rfl) (by kernel_rfl) (fun _ _ _ h => h) (Or.inl ⟨by rfl, ?hux0⟩) hHeld ?rux0
      case hux0 => ((intro w hSw); (try dsimp only at hSw); go_simp; (try with_reducible rfl))
      (try simp only [Act.put, List.setIfInBounds_toArray, List.set_cons_zero, List.set_cons_succ])
      refine wpAnyH_take (i := 1) (oi := { dst := some 38, op := Op.fieldAddr 26 (Operand.tmp 1) 4, type := 0, pos := "record.go:144", after := #[], guard := none }) (v := ?vux1) rfl (by kernel_rfl) (by kernel_rfl) (by kernel_rfl) (fun _ _ _ h => h) (Or.inl ⟨by rfl, ?hux1⟩) hHeld ?rux1
      case hux1 => ((intro w hSw); (try dsimp only at hSw); go_simp; (try with_reducible rfl))
      (try simp only [Act.put, List.setIfInBounds_toArray, List.set_cons_zero, List.set_cons_succ])
      refine wpAnyH_take (i := 2) (oi := { dst := some 39, op := Op.load 3 (Operand.tmp 38), type := 3, pos := "record.go:144", after := #[{ on := 1, ground := Ground.data }], guard := none }) (v := ?vux2) rfl (by kernel_rfl) (by kernel_rfl) (by kernel_rfl) (fun _ _ _ h => h) (Or.inl ⟨by rfl, ?hux2⟩) hHeld ?rux2
      case hux2 => ((intro w hSw); (try dsimp only at hSw); go_simp; (try with_reducible rfl))
      (try simp only [Act.put, List.setIfInBounds_toArray, List.set_cons_zero, List.set_cons_succ])
      refine wpAnyH_take (i := 3) (oi := { dst := some 40, op := Op.convert 3 5 (Operand.tmp 39), type := 5, pos := "record.go:144", after := #[{ on := 2, ground := Ground.data }], guard := none }) (v := ?vux3) rfl (by kernel_rfl) (by kernel_rfl) (by kernel_rfl) (fun _ _ _ h => h) (Or.inl ⟨by rfl, ?hux3⟩) hHeld ?rux3
      case hux3 => ((intro w hSw); (try dsimp only at hSw); go_simp; (try with_reducible rfl))
      (try simp only [Act.put, List.setIfInBounds_toArray, List.set_cons_zero, List.set_cons_succ])
      refine wpAnyH_take (i := 5) (oi := { dst := some 42, op := Op.fieldAddr 26 (Operand.tmp 1) 5, type := 0, pos := "record.go:144", after := #[], guard := none }) (v := ?vux4) rfl (by kernel_rfl) (by kernel_rfl) (by kernel_rfl) (fun _ _ _ h => h) (Or.inl ⟨by rfl, ?hux4⟩) hHeld ?rux4
      case hux4 => ((intro w hSw); (try dsimp only at hSw); go_simp; (try with_reducible rfl))
      (try simp only [Act.put, List.setIfInBounds_toArray, List.set_cons_zero, List.set_cons_succ])
      refine wpAnyH_take (i := 6) (oi := { dst := some 43, op := Op.load 3 (Operand.tmp 42), type := 3, pos := "record.go:144", after := #[{ on := 5, ground := Ground.data }], guard := none }) (v := ?vux5) rfl (by kernel_rfl) (by kernel_rfl) (by kernel_rfl) (fun _ _ _ h => h) (Or.inl ⟨by rfl, ?hux5⟩) hHeld ?rux5
      case hux5 => ((intro w hSw); (try dsimp only at hSw); go_simp; (try with_reducible rfl))
      (try simp only [Act.put, List.setIfInBounds_toArray, List.set_cons_zero, List.set_cons_succ])
      refine wpAnyH_take (i := 7) (oi := { dst := some 44, op := Op.convert 3 66 (Operand.tmp 43), type := 66, pos := "record.go:144", after := #[{ on := 6, ground := Ground.data }], guard := none }) (v := ?vux6) rfl (by kernel_rfl) (by kernel_rfl) (by kernel_rfl) (fun _ _ _ h => h) (Or.inl ⟨by rfl, ?hux6⟩) hHeld ?rux6
      case hux6 => ((intro w hSw); (try dsimp only at hSw); go_simp; (try with_reducible rfl))
      (try simp only [Act.put, List.setIfInBounds_toArray, List.set_cons_zero, List.set_cons_succ])
      refine wpAnyH_take (i := 9) (oi := { dst := some 46, op := Op.fieldAddr 26 (Operand.tmp 1) 7, type := 0, pos := "record.go:144", after := #[], guard := none }) (v := ?vux7) rfl (by kernel_rfl) (by kernel_rfl) (by kernel_rfl) (fun _ _ _ h => h) (Or.inl ⟨by rfl, ?hux7⟩) hHeld ?rux7
      case hux7 => ((intro w hSw); (try dsimp only at hSw); go_simp; (try with_reducible rfl))
      (try simp only [Act.put, List.setIfInBounds_toArray, List.set_cons_zero, List.set_cons_succ])
      refine wpAnyH_take (i := 10) (oi := { dst := some 47, op := Op.load 22 (Operand.tmp 46), type := 22, pos := "record.go:144", after := #[{ on := 9, ground := Ground.data }], guard := none }) (v := ?vux8) rfl (by kernel_rfl) (by kernel_rfl) (by kernel_rfl) (fun _ _ _ h => h) (Or.inl ⟨by rfl, ?hux8⟩) hHeld ?rux8
      case hux8 => ((intro w hSw); (try dsimp only at hSw); go_simp; (try with_reducible rfl))
      (try simp only [Act.put, List.setIfInBounds_toArray, List.set_cons_zero, List.set_cons_succ])
      refine wpAnyH_take (i := 11) (oi := { dst := some 48, op := Op.call { callee := Callee.builtin Builtin.len, args := #[Operand.tmp 47], argTypes := #[22] }, type := 3, pos := "record.go:144", after := #[{ on := 10, ground := Ground.data }], guard := none }) (v := ?vux9) rfl (by kernel_rfl) (by kernel_rfl) (by kernel_rfl) (fun _ _ _ h => h) (Or.inl ⟨by rfl, ?hux9⟩) hHeld ?rux9
      case hux9 => ((intro w hSw); (try dsimp only at hSw); go_simp; (try with_reducible rfl))
      (try simp only [Act.put, List.setIfInBounds_toArray, List.set_cons_zero, List.set_cons_succ])
      refine wpAnyH_take (i := 12) (oi := { dst := some 49, op := Op.convert 3 66 (Operand.tmp 48), type := 66, pos := "record.go:144", after := #[{ on := 11, ground := Ground.data }], guard := none }) (v := ?vux10) rfl (by kernel_rfl) (by kernel_rfl) (by kernel_rfl) (fun _ _ _ h => h) (Or.inl ⟨by rfl, ?hux10⟩) hHeld ?rux10
      case hux10 => ((intro w hSw); (try dsimp only at hSw); go_simp; (try with_reducible rfl))
      (try simp only [Act.put, List.setIfInBounds_toArray, List.set_cons_zero, List.set_cons_succ])
      refine wpAnyH_ready (rs := [4]) (by kernel_rfl) (by simp) ?_
      refine AllReadyH.cons (o := { dst := some 41, op := Op.call { callee := Callee.value (Operand.func 30), args := #[Operand.tmp 37, Operand.tmp 40], argTypes := #[22, 5] }, type := 22, pos := "record.go:144", after := #[{ on := 0, ground := Ground.data }, { on := 3, ground := Ground.data }], guard := none }) rfl (fun K hK => ?_) AllReadyH.nil
      go_simp
      go_at_call 30
      refine (H13d.out.put1 page (by omega) (by omega) (by simp only [List.length_append, nB_length, List.length_nil]; omega)).mono ?_
      rintro e w14 ⟨A14, n14, c14, rfl, hS⟩
      have H14 := Lib.hid hS
      clear hS
      try go_wp2_with fail
      refine hK.out _ _ ?_ (fun hHeld => ?_)
      · exact ⟨H14.out.row.cell (j := 0) rfl, H14.out.row.cell (j := 1) rfl, H14.out.row.cell (j := 2) rfl, H14.out.row.cell (j := 3) rfl, H14.out.row.cell (j := 4) rfl, H14.out.row.cell (j := 5) rfl, H14.out.row.cell (j := 6) rfl, H14.out.row.cell (j := 7) rfl, H14.out.row.cell (j := 8) rfl, H14.out.row.cell (j := 9) rfl, H14.out.row.cell (j := 10) rfl⟩
      clear hK K
      (try simp only [Act.put, List.setIfInBounds_toArray, List.set_cons_zero, List.set_cons_succ])
      refine wpAnyH_ready (rs := [8]) (by kernel_rfl) (by simp) ?_
      refine AllReadyH.cons (o := { dst := some 45, op := Op.call { callee := Callee.value (Operand.func 31), args := #[Operand.tmp 41, Operand.tmp 44], argTypes := #[22, 66] }, type := 22, pos := "record.go:144", after := #[{ on := 4, ground := Ground.data }, { on := 7, ground := Ground.data }, { on := 4, ground := Ground.chain }], guard := none }) rfl (fun K hK => ?_) AllReadyH.nil
      go_simp
      go_at_call 31
      refine (H14.out.put2 frm (by omega) (by omega) (by simp only [List.length_append, nB_length, List.length_nil]; omega)).mono ?_
      rintro e w15 ⟨A15, n15, c15, rfl, hS⟩
      have H15 := Lib.hid hS
      clear hS
      try go_wp2_with fail
      refine hK.out _ _ ?_ (fun hHeld => ?_)
      · exact ⟨H15.out.row.cell (j := 0) rfl, H15.out.row.cell (j := 1) rfl, H15.out.row.cell (j := 2) rfl, H15.out.row.cell (j := 3) rfl, H15.out.row.cell (j := 4) rfl, H15.out.row.cell (j := 5) rfl, H15.out.row.cell (j := 6) rfl, H15.out.row.cell (j := 7) rfl, H15.out.row.cell (j := 8) rfl, H15.out.row.cell (j := 9) rfl, H15.out.row.cell (j := 10) rfl⟩
      clear hK K
      (try simp only [Act.put, List.setIfInBounds_toArray, List.set_cons_zero, List.set_cons_succ])
      refine wpAnyH_ready (rs := [13]) (by kernel_rfl) (by simp) ?_
      refine AllReadyH.cons (o := { dst := some 50, op := Op.call { callee := Callee.value (Operand.func 31), args := #[Operand.tmp 45, Operand.tmp 49], argTypes := #[22, 66] }, type := 22, pos := "record.go:144", after := #[{ on := 8, ground := Ground.data }, { on := 12, ground := Ground.data }, { on := 8, ground := Ground.chain }], guard := none }) rfl (fun K hK => ?_) AllReadyH.nil
      go_simp
      go_at_call 31
      refine (H15.out.put2 (after.length : Int) (by omega) (by omega) (by simp only [List.length_append, nB_length, List.length_nil]; omega)).mono ?_
      rintro e w16 ⟨A16, n16, c16, rfl, hS⟩
      have H16 := Lib.hid hS
      clear hS
      try go_wp2_with fail
      refine hK.out _ _ ?_ (fun hHeld => ?_)
      · exact ⟨H16.out.row.cell (j := 0) rfl, H16.out.row.cell (j := 1) rfl, H16.out.row.cell (j := 2) rfl, H16.out.row.cell (j := 3) rfl, H16.out.row.cell (j := 4) rfl, H16.out.row.cell (j := 5) rfl, H16.out.row.cell (j := 6) rfl, H16.out.row.cell (j := 7) rfl, H16.out.row.cell (j := 8) rfl, H16.out.row.cell (j := 9) rfl, H16.out.row.cell (j := 10) rfl⟩
      clear hK K
      (try simp only [Act.put, List.setIfInBounds_toArray, List.set_cons_zero, List.set_cons_succ])
      refine wpAnyH_take (i := 14) (oi := { dst := some 5, op := Op.assign (Operand.tmp 50), type := 22, pos := "record.go:144", after := #[{ on := 13, ground := Ground.data }, { on := 13, ground := Ground.chain }, { on := 0, ground := Ground.phase }, { on := 1, ground := Ground.phase }, { on := 2, ground := Ground.phase }, { on := 3, ground := Ground.phase }, { on := 4, ground := Ground.phase }, { on := 5, ground := Ground.phase }, { on := 6, ground := Ground.phase }, { on := 7, ground := Ground.phase }, { on := 8, ground := Ground.phase }, { on := 9, ground := Ground.phase }, { on := 10, ground := Ground.phase }, { on := 11, ground := Ground.phase }, { on := 12, ground := Ground.phase }, { on := 13, ground := Ground.phase }], guard := none }) (v := ?vux11) rfl (by kernel_rfl) (by kernel_rfl) (by kernel_rfl) (fun _ _ _ h => h) (Or.inl ⟨by rfl, ?hux11⟩) hHeld ?rux11
      case hux11 => ((intro w hSw); (try dsimp only at hSw); go_simp; (try with_reducible rfl))
      (try simp only [Act.put, List.setIfInBounds_toArray, List.set_cons_zero, List.set_cons_succ])
      refine wpAnyH_done (by kernel_rfl) ?_ _
      skip
      have d0 := H16.out.row.cell (j := 0) rfl
      have d1 := H16.out.row.cell (j := 1) rfl
      have d2 := H16.out.row.cell (j := 2) rfl
      have d3 := H16.out.row.cell (j := 3) rfl
      have d4 := H16.out.row.cell (j := 4) rfl
      have d5 := H16.out.row.cell (j := 5) rfl
      have d6 := H16.out.row.cell (j := 6) rfl
      have d7 := H16.out.row.cell (j := 7) rfl
      have d8 := H16.out.row.cell (j := 8) rfl
      have d9 := H16.out.row.cell (j := 9) rfl
      have d10 := H16.out.row.cell (j := 10) rfl
      go_wp2_with fail
      refine (H16.out.join HQ1.out HQ2.out HLN.out.symm rfl (by have := HLN.out; simp only [List.length_append, nB_length, List.length_nil]; omega)).mono ?_
      rintro e w17 ⟨A17, n17, c17, rfl, hS⟩
      have H17 := Lib.hid hS
      clear hS d0 d1 d2 d3 d4 d5 d6 d7 d8 d9 d10
      have d0 := H17.out.row.cell (j := 0) rfl
      have d1 := H17.out.row.cell (j := 1) rfl
      have d2 := H17.out.row.cell (j := 2) rfl
      have d3 := H17.out.row.cell (j := 3) rfl
      have d4 := H17.out.row.cell (j := 4) rfl
      have d5 := H17.out.row.cell (j := 5) rfl
      have d6 := H17.out.row.cell (j := 6) rfl
      have d7 := H17.out.row.cell (j := 7) rfl
      have d8 := H17.out.row.cell (j := 8) rfl
      have d9 := H17.out.row.cell (j := 9) rfl
      have d10 := H17.out.row.cell (j := 10) rfl
      go_wp2_with fail
      go_ret2
      exact byt_done H17.out HRB.out (by simp [recL, headR, tailR, laidR, leB_nB])
    · obtain ⟨rfl, hb, hp, rfl, hg, rfl, hx, rfl, rfl⟩ := hq
      have hb' := (lsnB_iff _).1 hb
      have hp' := (lsnB_iff _).1 hp
      have hx' := (nxtB_iff _).1 hx
      obtain ⟨⟨g0, g1⟩, ⟨k0, k1⟩, f0, f1⟩ := (rangB_iff _ _ _).1 hg
      have hw1 : IntKind.u8.wrap page = page := w8 (by omega) (by omega)
      have hw2 : IntKind.u16.wrap frm = frm := w16 (by omega) (by omega)
      have hw3 : IntKind.u16.wrap (after.length : Int) = (after.length : Int) := w16 (by omega) (by omega)
      clear hb hp hg hx
      have HR0' := Lib.hid HR0.out
      go_enter Try.func10, Try.ntmps10
      go_wp2_with fail
      refine (HPR.out _ HB0.out).mono ?_
      rintro e w1 ⟨rfl, hb1⟩
      have H0 : Hid (Bs w w.heap.size [.int .i64 3, .int .i64 birth, .int .i64 prev, .int .i64 0, .int .i64 page, .int .i64 frm, .slice A1 0 c1, .slice A2 after.length c2, .int .i64 next, .slice A3 0 c3, .slice A4 0 c4] [] (.slice none 0 0) w1) := Lib.hid ⟨below_then HB0.out hb1, HR0.out.below hb1, Own8.nilRow _ _ _⟩
      have H0d := Lib.hid (H0.out.below (Below.refl _ _).drew)
      clear hb1
      go_wp2_with fail
      refine wp_region_held_drew (S := (fun w' => w'.cell? ⟨w.heap.size, 0, none⟩ = some (.int .i64 3) ∧ w'.cell? ⟨w.heap.size, 1, none⟩ = some (.int .i64 birth) ∧ w'.cell? ⟨w.heap.size, 2, none⟩ = some (.int .i64 prev) ∧ w'.cell? ⟨w.heap.size, 3, none⟩ = some (.int .i64 0) ∧ w'.cell? ⟨w.heap.size, 4, none⟩ = some (.int .i64 page) ∧ w'.cell? ⟨w.heap.size, 5, none⟩ = some (.int .i64 frm) ∧ w'.cell? ⟨w.heap.size, 6, none⟩ = some (.slice A1 0 c1) ∧ w'.cell? ⟨w.heap.size, 7, none⟩ = some (.slice A2 after.length c2) ∧ w'.cell? ⟨w.heap.size, 8, none⟩ = some (.int .i64 next) ∧ w'.cell? ⟨w.heap.size, 9, none⟩ = some (.slice A3 0 c3) ∧ w'.cell? ⟨w.heap.size, 10, none⟩ = some (.slice A4 0 c4))) (by kernel_rfl) (⟨H0d.out.row.cell (j := 0) rfl, H0d.out.row.cell (j := 1) rfl, H0d.out.row.cell (j := 2) rfl, H0d.out.row.cell (j := 3) rfl, H0d.out.row.cell (j := 4) rfl, H0d.out.row.cell (j := 5) rfl, H0d.out.row.cell (j := 6) rfl, H0d.out.row.cell (j := 7) rfl, H0d.out.row.cell (j := 8) rfl, H0d.out.row.cell (j := 9) rfl, H0d.out.row.cell (j := 10) rfl⟩) (fun hHeld => ?_)
      refine wpAnyH_take (i := 0) (oi := { dst := some 13, op := Op.move (Operand.tmp 4), type := 63, pos := "record.go:139", after := #[], guard := none }) (v := ?vn0) rfl (by kernel_rfl) (by kernel_rfl) (by kernel_rfl) (fun _ _ _ h => h) (Or.inl ⟨by rfl, ?hn0⟩) hHeld ?rn0
      case hn0 => ((intro w hSw); (try dsimp only at hSw); go_simp; (try with_reducible rfl))
      (try simp only [Act.put, List.setIfInBounds_toArray, List.set_cons_zero, List.set_cons_succ])
      refine wpAnyH_take (i := 1) (oi := { dst := some 14, op := Op.move (Operand.tmp 4), type := 63, pos := "record.go:139", after := #[], guard := none }) (v := ?vn1) rfl (by kernel_rfl) (by kernel_rfl) (by kernel_rfl) (fun _ _ _ h => h) (Or.inl ⟨by rfl, ?hn1⟩) hHeld ?rn1
      case hn1 => ((intro w hSw); (try dsimp only at hSw); go_simp; (try with_reducible rfl))
      (try simp only [Act.put, List.setIfInBounds_toArray, List.set_cons_zero, List.set_cons_succ])
      refine wpAnyH_take (i := 2) (oi := { dst := some 15, op := Op.fieldAddr 26 (Operand.tmp 1) 0, type := 0, pos := "record.go:139", after := #[], guard := none }) (v := ?vn2) rfl (by kernel_rfl) (by kernel_rfl) (by kernel_rfl) (fun _ _ _ h => h) (Or.inl ⟨by rfl, ?hn2⟩) hHeld ?rn2
      case hn2 => ((intro w hSw); (try dsimp only at hSw); go_simp; (try with_reducible rfl))
      (try simp only [Act.put, List.setIfInBounds_toArray, List.set_cons_zero, List.set_cons_succ])
      refine wpAnyH_take (i := 3) (oi := { dst := some 16, op := Op.load 3 (Operand.tmp 15), type := 3, pos := "record.go:139", after := #[{ on := 2, ground := Ground.data }], guard := none }) (v := ?vn3) rfl (by kernel_rfl) (by kernel_rfl) (by kernel_rfl) (fun _ _ _ h => h) (Or.inl ⟨by rfl, ?hn3⟩) hHeld ?rn3
      case hn3 => ((intro w hSw); (try dsimp only at hSw); go_simp; (try with_reducible rfl))
      (try simp only [Act.put, List.setIfInBounds_toArray, List.set_cons_zero, List.set_cons_succ])
      refine wpAnyH_take (i := 4) (oi := { dst := some 17, op := Op.convert 3 5 (Operand.tmp 16), type := 5, pos := "record.go:139", after := #[{ on := 3, ground := Ground.data }], guard := none }) (v := ?vn4) rfl (by kernel_rfl) (by kernel_rfl) (by kernel_rfl) (fun _ _ _ h => h) (Or.inl ⟨by rfl, ?hn4⟩) hHeld ?rn4
      case hn4 => ((intro w hSw); (try dsimp only at hSw); go_simp; (try with_reducible rfl))
      (try simp only [Act.put, List.setIfInBounds_toArray, List.set_cons_zero, List.set_cons_succ])
      refine wpAnyH_take (i := 6) (oi := { dst := some 19, op := Op.fieldAddr 26 (Operand.tmp 1) 1, type := 0, pos := "record.go:139", after := #[], guard := none }) (v := ?vn5) rfl (by kernel_rfl) (by kernel_rfl) (by kernel_rfl) (fun _ _ _ h => h) (Or.inl ⟨by rfl, ?hn5⟩) hHeld ?rn5
      case hn5 => ((intro w hSw); (try dsimp only at hSw); go_simp; (try with_reducible rfl))
      (try simp only [Act.put, List.setIfInBounds_toArray, List.set_cons_zero, List.set_cons_succ])
      refine wpAnyH_take (i := 7) (oi := { dst := some 20, op := Op.load 3 (Operand.tmp 19), type := 3, pos := "record.go:139", after := #[{ on := 6, ground := Ground.data }], guard := none }) (v := ?vn6) rfl (by kernel_rfl) (by kernel_rfl) (by kernel_rfl) (fun _ _ _ h => h) (Or.inl ⟨by rfl, ?hn6⟩) hHeld ?rn6
      case hn6 => ((intro w hSw); (try dsimp only at hSw); go_simp; (try with_reducible rfl))
      (try simp only [Act.put, List.setIfInBounds_toArray, List.set_cons_zero, List.set_cons_succ])
      refine wpAnyH_take (i := 9) (oi := { dst := some 22, op := Op.fieldAddr 26 (Operand.tmp 1) 2, type := 0, pos := "record.go:139", after := #[], guard := none }) (v := ?vn7) rfl (by kernel_rfl) (by kernel_rfl) (by kernel_rfl) (fun _ _ _ h => h) (Or.inl ⟨by rfl, ?hn7⟩) hHeld ?rn7
      case hn7 => ((intro w hSw); (try dsimp only at hSw); go_simp; (try with_reducible rfl))
      (try simp only [Act.put, List.setIfInBounds_toArray, List.set_cons_zero, List.set_cons_succ])
      refine wpAnyH_take (i := 10) (oi := { dst := some 23, op := Op.load 3 (Operand.tmp 22), type := 3, pos := "record.go:139", after := #[{ on := 9, ground := Ground.data }], guard := none }) (v := ?vn8) rfl (by kernel_rfl) (by kernel_rfl) (by kernel_rfl) (fun _ _ _ h => h) (Or.inl ⟨by rfl, ?hn8⟩) hHeld ?rn8
      case hn8 => ((intro w hSw); (try dsimp only at hSw); go_simp; (try with_reducible rfl))
      (try simp only [Act.put, List.setIfInBounds_toArray, List.set_cons_zero, List.set_cons_succ])
      refine wpAnyH_ready (rs := [5]) (by kernel_rfl) (by simp) ?_
      refine AllReadyH.cons (o := { dst := some 18, op := Op.call { callee := Callee.value (Operand.func 30), args := #[Operand.const (Value.slice none 0 0), Operand.tmp 17], argTypes := #[22, 5] }, type := 22, pos := "record.go:139", after := #[{ on := 4, ground := Ground.data }], guard := none }) rfl (fun K hK => ?_) AllReadyH.nil
      go_simp
      go_at_call 30
      refine (H0d.out.put1 (3) (by omega) (by omega) (by simp only [List.length_append, nB_length, List.length_nil]; omega)).mono ?_
      rintro e w11 ⟨A11, n11, c11, rfl, hS⟩
      have H11 := Lib.hid hS
      clear hS
      try go_wp2_with fail
      refine hK.out _ _ ?_ (fun hHeld => ?_)
      · exact ⟨H11.out.row.cell (j := 0) rfl, H11.out.row.cell (j := 1) rfl, H11.out.row.cell (j := 2) rfl, H11.out.row.cell (j := 3) rfl, H11.out.row.cell (j := 4) rfl, H11.out.row.cell (j := 5) rfl, H11.out.row.cell (j := 6) rfl, H11.out.row.cell (j := 7) rfl, H11.out.row.cell (j := 8) rfl, H11.out.row.cell (j := 9) rfl, H11.out.row.cell (j := 10) rfl⟩
      clear hK K
      (try simp only [Act.put, List.setIfInBounds_toArray, List.set_cons_zero, List.set_cons_succ])
      refine wpAnyH_ready (rs := [8]) (by kernel_rfl) (by simp) ?_
      refine AllReadyH.cons (o := { dst := some 21, op := Op.call { callee := Callee.value (Operand.tmp 14), args := #[Operand.tmp 18, Operand.tmp 20], argTypes := #[22, 3] }, type := 22, pos := "record.go:139", after := #[{ on := 1, ground := Ground.data }, { on := 5, ground := Ground.data }, { on := 7, ground := Ground.data }, { on := 5, ground := Ground.chain }], guard := none }) rfl (fun K hK => ?_) AllReadyH.nil
      go_simp
      refine (H11.out.put8 (birth) (by omega) (by omega) (by simp only [List.length_append, nB_length, List.length_nil]; omega)).mono ?_
      rintro e w12 ⟨A12, n12, c12, rfl, hS⟩
      have H12 := Lib.hid hS
      clear hS
      try go_wp2_with fail
      refine hK.out _ _ ?_ (fun hHeld => ?_)
      · exact ⟨H12.out.row.cell (j := 0) rfl, H12.out.row.cell (j := 1) rfl, H12.out.row.cell (j := 2) rfl, H12.out.row.cell (j := 3) rfl, H12.out.row.cell (j := 4) rfl, H12.out.row.cell (j := 5) rfl, H12.out.row.cell (j := 6) rfl, H12.out.row.cell (j := 7) rfl, H12.out.row.cell (j := 8) rfl, H12.out.row.cell (j := 9) rfl, H12.out.row.cell (j := 10) rfl⟩
      clear hK K
      (try simp only [Act.put, List.setIfInBounds_toArray, List.set_cons_zero, List.set_cons_succ])
      refine wpAnyH_ready (rs := [11]) (by kernel_rfl) (by simp) ?_
      refine AllReadyH.cons (o := { dst := some 24, op := Op.call { callee := Callee.value (Operand.tmp 13), args := #[Operand.tmp 21, Operand.tmp 23], argTypes := #[22, 3] }, type := 22, pos := "record.go:139", after := #[{ on := 0, ground := Ground.data }, { on := 8, ground := Ground.data }, { on := 10, ground := Ground.data }, { on := 8, ground := Ground.chain }], guard := none }) rfl (fun K hK => ?_) AllReadyH.nil
      go_simp
      refine (H12.out.put8 (prev) (by omega) (by omega) (by simp only [List.length_append, nB_length, List.length_nil]; omega)).mono ?_
      rintro e w13 ⟨A13, n13, c13, rfl, hS⟩
      have H13 := Lib.hid hS
      clear hS
      try go_wp2_with fail
      refine hK.out _ _ ?_ (fun hHeld => ?_)
      · exact ⟨H13.out.row.cell (j := 0) rfl, H13.out.row.cell (j := 1) rfl, H13.out.row.cell (j := 2) rfl, H13.out.row.cell (j := 3) rfl, H13.out.row.cell (j := 4) rfl, H13.out.row.cell (j := 5) rfl, H13.out.row.cell (j := 6) rfl, H13.out.row.cell (j := 7) rfl, H13.out.row.cell (j := 8) rfl, H13.out.row.cell (j := 9) rfl, H13.out.row.cell (j := 10) rfl⟩
      clear hK K
      (try simp only [Act.put, List.setIfInBounds_toArray, List.set_cons_zero, List.set_cons_succ])
      refine wpAnyH_take (i := 12) (oi := { dst := some 5, op := Op.assign (Operand.tmp 24), type := 22, pos := "record.go:139", after := #[{ on := 11, ground := Ground.data }, { on := 11, ground := Ground.chain }, { on := 0, ground := Ground.phase }, { on := 1, ground := Ground.phase }, { on := 2, ground := Ground.phase }, { on := 3, ground := Ground.phase }, { on := 4, ground := Ground.phase }, { on := 5, ground := Ground.phase }, { on := 6, ground := Ground.phase }, { on := 7, ground := Ground.phase }, { on := 8, ground := Ground.phase }, { on := 9, ground := Ground.phase }, { on := 10, ground := Ground.phase }, { on := 11, ground := Ground.phase }], guard := none }) (v := ?vn9) rfl (by kernel_rfl) (by kernel_rfl) (by kernel_rfl) (fun _ _ _ h => h) (Or.inl ⟨by rfl, ?hn9⟩) hHeld ?rn9
      case hn9 => ((intro w hSw); (try dsimp only at hSw); go_simp; (try with_reducible rfl))
      (try simp only [Act.put, List.setIfInBounds_toArray, List.set_cons_zero, List.set_cons_succ])
      refine wpAnyH_done (by kernel_rfl) ?_ _
      skip
      have d0 := H13.out.row.cell (j := 0) rfl
      have d1 := H13.out.row.cell (j := 1) rfl
      have d2 := H13.out.row.cell (j := 2) rfl
      have d3 := H13.out.row.cell (j := 3) rfl
      have d4 := H13.out.row.cell (j := 4) rfl
      have d5 := H13.out.row.cell (j := 5) rfl
      have d6 := H13.out.row.cell (j := 6) rfl
      have d7 := H13.out.row.cell (j := 7) rfl
      have d8 := H13.out.row.cell (j := 8) rfl
      have d9 := H13.out.row.cell (j := 9) rfl
      have d10 := H13.out.row.cell (j := 10) rfl
      have H13d := Lib.hid (H13.out.below (Below.refl _ _).drew)
      go_wp2_with fail
      clear d0 d1 d2 d3 d4 d5 d6 d7 d8 d9 d10
      refine wp_region_held_drew (S := (fun w' => w'.cell? ⟨w.heap.size, 0, none⟩ = some (.int .i64 3) ∧ w'.cell? ⟨w.heap.size, 1, none⟩ = some (.int .i64 birth) ∧ w'.cell? ⟨w.heap.size, 2, none⟩ = some (.int .i64 prev) ∧ w'.cell? ⟨w.heap.size, 3, none⟩ = some (.int .i64 0) ∧ w'.cell? ⟨w.heap.size, 4, none⟩ = some (.int .i64 page) ∧ w'.cell? ⟨w.heap.size, 5, none⟩ = some (.int .i64 frm) ∧ w'.cell? ⟨w.heap.size, 6, none⟩ = some (.slice A1 0 c1) ∧ w'.cell? ⟨w.heap.size, 7, none⟩ = some (.slice A2 after.length c2) ∧ w'.cell? ⟨w.heap.size, 8, none⟩ = some (.int .i64 next) ∧ w'.cell? ⟨w.heap.size, 9, none⟩ = some (.slice A3 0 c3) ∧ w'.cell? ⟨w.heap.size, 10, none⟩ = some (.slice A4 0 c4))) (by kernel_rfl) (⟨H13d.out.row.cell (j := 0) rfl, H13d.out.row.cell (j := 1) rfl, H13d.out.row.cell (j := 2) rfl, H13d.out.row.cell (j := 3) rfl, H13d.out.row.cell (j := 4) rfl, H13d.out.row.cell (j := 5) rfl, H13d.out.row.cell (j := 6) rfl, H13d.out.row.cell (j := 7) rfl, H13d.out.row.cell (j := 8) rfl, H13d.out.row.cell (j := 9) rfl, H13d.out.row.cell (j := 10) rfl⟩) (fun hHeld => ?_)
      refine wpAnyH_take (i := 0) (oi := { dst := some 37, op := Op.move (Operand.tmp 5), type := 22, pos := "record.go:144", after := #[], guard := none }) (v := ?vnx0) rfl (by kernel_rfl) (by kernel_rfl) (by kernel_rfl) (fun _ _ _ h => h) (Or.inl ⟨by rfl, ?hnx0⟩) hHeld ?rnx0
      case hnx0 => ((intro w hSw); (try dsimp only at hSw); go_simp; (try with_reducible rfl))
      (try simp only [Act.put, List.setIfInBounds_toArray, List.set_cons_zero, List.set_cons_succ])
      refine wpAnyH_take (i := 1) (oi := { dst := some 38, op := Op.fieldAddr 26 (Operand.tmp 1) 4, type := 0, pos := "record.go:144", after := #[], guard := none }) (v := ?vnx1) rfl (by kernel_rfl) (by kernel_rfl) (by kernel_rfl) (fun _ _ _ h => h) (Or.inl ⟨by rfl, ?hnx1⟩) hHeld ?rnx1
      case hnx1 => ((intro w hSw); (try dsimp only at hSw); go_simp; (try with_reducible rfl))
      (try simp only [Act.put, List.setIfInBounds_toArray, List.set_cons_zero, List.set_cons_succ])
      refine wpAnyH_take (i := 2) (oi := { dst := some 39, op := Op.load 3 (Operand.tmp 38), type := 3, pos := "record.go:144", after := #[{ on := 1, ground := Ground.data }], guard := none }) (v := ?vnx2) rfl (by kernel_rfl) (by kernel_rfl) (by kernel_rfl) (fun _ _ _ h => h) (Or.inl ⟨by rfl, ?hnx2⟩) hHeld ?rnx2
      case hnx2 => ((intro w hSw); (try dsimp only at hSw); go_simp; (try with_reducible rfl))
      (try simp only [Act.put, List.setIfInBounds_toArray, List.set_cons_zero, List.set_cons_succ])
      refine wpAnyH_take (i := 3) (oi := { dst := some 40, op := Op.convert 3 5 (Operand.tmp 39), type := 5, pos := "record.go:144", after := #[{ on := 2, ground := Ground.data }], guard := none }) (v := ?vnx3) rfl (by kernel_rfl) (by kernel_rfl) (by kernel_rfl) (fun _ _ _ h => h) (Or.inl ⟨by rfl, ?hnx3⟩) hHeld ?rnx3
      case hnx3 => ((intro w hSw); (try dsimp only at hSw); go_simp; (try with_reducible rfl))
      (try simp only [Act.put, List.setIfInBounds_toArray, List.set_cons_zero, List.set_cons_succ])
      refine wpAnyH_take (i := 5) (oi := { dst := some 42, op := Op.fieldAddr 26 (Operand.tmp 1) 5, type := 0, pos := "record.go:144", after := #[], guard := none }) (v := ?vnx4) rfl (by kernel_rfl) (by kernel_rfl) (by kernel_rfl) (fun _ _ _ h => h) (Or.inl ⟨by rfl, ?hnx4⟩) hHeld ?rnx4
      case hnx4 => ((intro w hSw); (try dsimp only at hSw); go_simp; (try with_reducible rfl))
      (try simp only [Act.put, List.setIfInBounds_toArray, List.set_cons_zero, List.set_cons_succ])
      refine wpAnyH_take (i := 6) (oi := { dst := some 43, op := Op.load 3 (Operand.tmp 42), type := 3, pos := "record.go:144", after := #[{ on := 5, ground := Ground.data }], guard := none }) (v := ?vnx5) rfl (by kernel_rfl) (by kernel_rfl) (by kernel_rfl) (fun _ _ _ h => h) (Or.inl ⟨by rfl, ?hnx5⟩) hHeld ?rnx5
      case hnx5 => ((intro w hSw); (try dsimp only at hSw); go_simp; (try with_reducible rfl))
      (try simp only [Act.put, List.setIfInBounds_toArray, List.set_cons_zero, List.set_cons_succ])
      refine wpAnyH_take (i := 7) (oi := { dst := some 44, op := Op.convert 3 66 (Operand.tmp 43), type := 66, pos := "record.go:144", after := #[{ on := 6, ground := Ground.data }], guard := none }) (v := ?vnx6) rfl (by kernel_rfl) (by kernel_rfl) (by kernel_rfl) (fun _ _ _ h => h) (Or.inl ⟨by rfl, ?hnx6⟩) hHeld ?rnx6
      case hnx6 => ((intro w hSw); (try dsimp only at hSw); go_simp; (try with_reducible rfl))
      (try simp only [Act.put, List.setIfInBounds_toArray, List.set_cons_zero, List.set_cons_succ])
      refine wpAnyH_take (i := 9) (oi := { dst := some 46, op := Op.fieldAddr 26 (Operand.tmp 1) 7, type := 0, pos := "record.go:144", after := #[], guard := none }) (v := ?vnx7) rfl (by kernel_rfl) (by kernel_rfl) (by kernel_rfl) (fun _ _ _ h => h) (Or.inl ⟨by rfl, ?hnx7⟩) hHeld ?rnx7
      case hnx7 => ((intro w hSw); (try dsimp only at hSw); go_simp; (try with_reducible rfl))
      (try simp only [Act.put, List.setIfInBounds_toArray, List.set_cons_zero, List.set_cons_succ])
      refine wpAnyH_take (i := 10) (oi := { dst := some 47, op := Op.load 22 (Operand.tmp 46), type := 22, pos := "record.go:144", after := #[{ on := 9, ground := Ground.data }], guard := none }) (v := ?vnx8) rfl (by kernel_rfl) (by kernel_rfl) (by kernel_rfl) (fun _ _ _ h => h) (Or.inl ⟨by rfl, ?hnx8⟩) hHeld ?rnx8
      case hnx8 => ((intro w hSw); (try dsimp only at hSw); go_simp; (try with_reducible rfl))
      (try simp only [Act.put, List.setIfInBounds_toArray, List.set_cons_zero, List.set_cons_succ])
      refine wpAnyH_take (i := 11) (oi := { dst := some 48, op := Op.call { callee := Callee.builtin Builtin.len, args := #[Operand.tmp 47], argTypes := #[22] }, type := 3, pos := "record.go:144", after := #[{ on := 10, ground := Ground.data }], guard := none }) (v := ?vnx9) rfl (by kernel_rfl) (by kernel_rfl) (by kernel_rfl) (fun _ _ _ h => h) (Or.inl ⟨by rfl, ?hnx9⟩) hHeld ?rnx9
      case hnx9 => ((intro w hSw); (try dsimp only at hSw); go_simp; (try with_reducible rfl))
      (try simp only [Act.put, List.setIfInBounds_toArray, List.set_cons_zero, List.set_cons_succ])
      refine wpAnyH_take (i := 12) (oi := { dst := some 49, op := Op.convert 3 66 (Operand.tmp 48), type := 66, pos := "record.go:144", after := #[{ on := 11, ground := Ground.data }], guard := none }) (v := ?vnx10) rfl (by kernel_rfl) (by kernel_rfl) (by kernel_rfl) (fun _ _ _ h => h) (Or.inl ⟨by rfl, ?hnx10⟩) hHeld ?rnx10
      case hnx10 => ((intro w hSw); (try dsimp only at hSw); go_simp; (try with_reducible rfl))
      (try simp only [Act.put, List.setIfInBounds_toArray, List.set_cons_zero, List.set_cons_succ])
      refine wpAnyH_ready (rs := [4]) (by kernel_rfl) (by simp) ?_
      refine AllReadyH.cons (o := { dst := some 41, op := Op.call { callee := Callee.value (Operand.func 30), args := #[Operand.tmp 37, Operand.tmp 40], argTypes := #[22, 5] }, type := 22, pos := "record.go:144", after := #[{ on := 0, ground := Ground.data }, { on := 3, ground := Ground.data }], guard := none }) rfl (fun K hK => ?_) AllReadyH.nil
      go_simp
      go_at_call 30
      refine (H13d.out.put1 page (by omega) (by omega) (by simp only [List.length_append, nB_length, List.length_nil]; omega)).mono ?_
      rintro e w14 ⟨A14, n14, c14, rfl, hS⟩
      have H14 := Lib.hid hS
      clear hS
      try go_wp2_with fail
      refine hK.out _ _ ?_ (fun hHeld => ?_)
      · exact ⟨H14.out.row.cell (j := 0) rfl, H14.out.row.cell (j := 1) rfl, H14.out.row.cell (j := 2) rfl, H14.out.row.cell (j := 3) rfl, H14.out.row.cell (j := 4) rfl, H14.out.row.cell (j := 5) rfl, H14.out.row.cell (j := 6) rfl, H14.out.row.cell (j := 7) rfl, H14.out.row.cell (j := 8) rfl, H14.out.row.cell (j := 9) rfl, H14.out.row.cell (j := 10) rfl⟩
      clear hK K
      (try simp only [Act.put, List.setIfInBounds_toArray, List.set_cons_zero, List.set_cons_succ])
      refine wpAnyH_ready (rs := [8]) (by kernel_rfl) (by simp) ?_
      refine AllReadyH.cons (o := { dst := some 45, op := Op.call { callee := Callee.value (Operand.func 31), args := #[Operand.tmp 41, Operand.tmp 44], argTypes := #[22, 66] }, type := 22, pos := "record.go:144", after := #[{ on := 4, ground := Ground.data }, { on := 7, ground := Ground.data }, { on := 4, ground := Ground.chain }], guard := none }) rfl (fun K hK => ?_) AllReadyH.nil
      go_simp
      go_at_call 31
      refine (H14.out.put2 frm (by omega) (by omega) (by simp only [List.length_append, nB_length, List.length_nil]; omega)).mono ?_
      rintro e w15 ⟨A15, n15, c15, rfl, hS⟩
      have H15 := Lib.hid hS
      clear hS
      try go_wp2_with fail
      refine hK.out _ _ ?_ (fun hHeld => ?_)
      · exact ⟨H15.out.row.cell (j := 0) rfl, H15.out.row.cell (j := 1) rfl, H15.out.row.cell (j := 2) rfl, H15.out.row.cell (j := 3) rfl, H15.out.row.cell (j := 4) rfl, H15.out.row.cell (j := 5) rfl, H15.out.row.cell (j := 6) rfl, H15.out.row.cell (j := 7) rfl, H15.out.row.cell (j := 8) rfl, H15.out.row.cell (j := 9) rfl, H15.out.row.cell (j := 10) rfl⟩
      clear hK K
      (try simp only [Act.put, List.setIfInBounds_toArray, List.set_cons_zero, List.set_cons_succ])
      refine wpAnyH_ready (rs := [13]) (by kernel_rfl) (by simp) ?_
      refine AllReadyH.cons (o := { dst := some 50, op := Op.call { callee := Callee.value (Operand.func 31), args := #[Operand.tmp 45, Operand.tmp 49], argTypes := #[22, 66] }, type := 22, pos := "record.go:144", after := #[{ on := 8, ground := Ground.data }, { on := 12, ground := Ground.data }, { on := 8, ground := Ground.chain }], guard := none }) rfl (fun K hK => ?_) AllReadyH.nil
      go_simp
      go_at_call 31
      refine (H15.out.put2 (after.length : Int) (by omega) (by omega) (by simp only [List.length_append, nB_length, List.length_nil]; omega)).mono ?_
      rintro e w16 ⟨A16, n16, c16, rfl, hS⟩
      have H16 := Lib.hid hS
      clear hS
      try go_wp2_with fail
      refine hK.out _ _ ?_ (fun hHeld => ?_)
      · exact ⟨H16.out.row.cell (j := 0) rfl, H16.out.row.cell (j := 1) rfl, H16.out.row.cell (j := 2) rfl, H16.out.row.cell (j := 3) rfl, H16.out.row.cell (j := 4) rfl, H16.out.row.cell (j := 5) rfl, H16.out.row.cell (j := 6) rfl, H16.out.row.cell (j := 7) rfl, H16.out.row.cell (j := 8) rfl, H16.out.row.cell (j := 9) rfl, H16.out.row.cell (j := 10) rfl⟩
      clear hK K
      (try simp only [Act.put, List.setIfInBounds_toArray, List.set_cons_zero, List.set_cons_succ])
      refine wpAnyH_take (i := 14) (oi := { dst := some 5, op := Op.assign (Operand.tmp 50), type := 22, pos := "record.go:144", after := #[{ on := 13, ground := Ground.data }, { on := 13, ground := Ground.chain }, { on := 0, ground := Ground.phase }, { on := 1, ground := Ground.phase }, { on := 2, ground := Ground.phase }, { on := 3, ground := Ground.phase }, { on := 4, ground := Ground.phase }, { on := 5, ground := Ground.phase }, { on := 6, ground := Ground.phase }, { on := 7, ground := Ground.phase }, { on := 8, ground := Ground.phase }, { on := 9, ground := Ground.phase }, { on := 10, ground := Ground.phase }, { on := 11, ground := Ground.phase }, { on := 12, ground := Ground.phase }, { on := 13, ground := Ground.phase }], guard := none }) (v := ?vnx11) rfl (by kernel_rfl) (by kernel_rfl) (by kernel_rfl) (fun _ _ _ h => h) (Or.inl ⟨by rfl, ?hnx11⟩) hHeld ?rnx11
      case hnx11 => ((intro w hSw); (try dsimp only at hSw); go_simp; (try with_reducible rfl))
      (try simp only [Act.put, List.setIfInBounds_toArray, List.set_cons_zero, List.set_cons_succ])
      refine wpAnyH_done (by kernel_rfl) ?_ _
      skip
      have d0 := H16.out.row.cell (j := 0) rfl
      have d1 := H16.out.row.cell (j := 1) rfl
      have d2 := H16.out.row.cell (j := 2) rfl
      have d3 := H16.out.row.cell (j := 3) rfl
      have d4 := H16.out.row.cell (j := 4) rfl
      have d5 := H16.out.row.cell (j := 5) rfl
      have d6 := H16.out.row.cell (j := 6) rfl
      have d7 := H16.out.row.cell (j := 7) rfl
      have d8 := H16.out.row.cell (j := 8) rfl
      have d9 := H16.out.row.cell (j := 9) rfl
      have d10 := H16.out.row.cell (j := 10) rfl
      go_wp2_with fail
      refine (H16.out.join HQ1.out HQ2.out rfl rfl (by simp only [List.length_append, nB_length, List.length_nil]; omega)).mono ?_
      rintro e w17 ⟨A17, n17, c17, rfl, hS⟩
      have H17 := Lib.hid hS
      clear hS d0 d1 d2 d3 d4 d5 d6 d7 d8 d9 d10
      have d0 := H17.out.row.cell (j := 0) rfl
      have d1 := H17.out.row.cell (j := 1) rfl
      have d2 := H17.out.row.cell (j := 2) rfl
      have d3 := H17.out.row.cell (j := 3) rfl
      have d4 := H17.out.row.cell (j := 4) rfl
      have d5 := H17.out.row.cell (j := 5) rfl
      have d6 := H17.out.row.cell (j := 6) rfl
      have d7 := H17.out.row.cell (j := 7) rfl
      have d8 := H17.out.row.cell (j := 8) rfl
      have d9 := H17.out.row.cell (j := 9) rfl
      have d10 := H17.out.row.cell (j := 10) rfl
      go_wp2_with fail
      refine (H17.out.put8 next (by omega) (by omega) (by simp only [List.length_append, nB_length, List.length_nil]; omega)).mono ?_
      rintro e w18 ⟨A18, n18, c18, rfl, hS⟩
      have H18 := Lib.hid hS
      clear hS d0 d1 d2 d3 d4 d5 d6 d7 d8 d9 d10
      go_wp2_with fail
      go_ret2
      exact byt_done H18.out HRB.out (by simp [recL, headR, tailR, laidR, leB_nB])
    · obtain ⟨hk, hb, hp, rfl, rfl, rfl, rfl, rfl, rfl, rfl, rfl⟩ := hq
      have hb' := (lsnB_iff _).1 hb
      have hp' := (lsnB_iff _).1 hp
      clear hb hp
      rcases hk with rfl | rfl | rfl
      · have HR0' := Lib.hid HR0.out
        go_enter Try.func10, Try.ntmps10
        go_wp2_with fail
        refine (HPR.out _ HB0.out).mono ?_
        rintro e w1 ⟨rfl, hb1⟩
        have H0 : Hid (Bs w w.heap.size [.int .i64 4, .int .i64 birth, .int .i64 prev, .int .i64 0, .int .i64 0, .int .i64 0, .slice A1 0 c1, .slice A2 0 c2, .int .i64 0, .slice A3 0 c3, .slice A4 0 c4] [] (.slice none 0 0) w1) := Lib.hid ⟨below_then HB0.out hb1, HR0.out.below hb1, Own8.nilRow _ _ _⟩
        have H0d := Lib.hid (H0.out.below (Below.refl _ _).drew)
        clear hb1
        go_wp2_with fail
        refine wp_region_held_drew (S := (fun w' => w'.cell? ⟨w.heap.size, 0, none⟩ = some (.int .i64 4) ∧ w'.cell? ⟨w.heap.size, 1, none⟩ = some (.int .i64 birth) ∧ w'.cell? ⟨w.heap.size, 2, none⟩ = some (.int .i64 prev) ∧ w'.cell? ⟨w.heap.size, 3, none⟩ = some (.int .i64 0) ∧ w'.cell? ⟨w.heap.size, 4, none⟩ = some (.int .i64 0) ∧ w'.cell? ⟨w.heap.size, 5, none⟩ = some (.int .i64 0) ∧ w'.cell? ⟨w.heap.size, 6, none⟩ = some (.slice A1 0 c1) ∧ w'.cell? ⟨w.heap.size, 7, none⟩ = some (.slice A2 0 c2) ∧ w'.cell? ⟨w.heap.size, 8, none⟩ = some (.int .i64 0) ∧ w'.cell? ⟨w.heap.size, 9, none⟩ = some (.slice A3 0 c3) ∧ w'.cell? ⟨w.heap.size, 10, none⟩ = some (.slice A4 0 c4))) (by kernel_rfl) (⟨H0d.out.row.cell (j := 0) rfl, H0d.out.row.cell (j := 1) rfl, H0d.out.row.cell (j := 2) rfl, H0d.out.row.cell (j := 3) rfl, H0d.out.row.cell (j := 4) rfl, H0d.out.row.cell (j := 5) rfl, H0d.out.row.cell (j := 6) rfl, H0d.out.row.cell (j := 7) rfl, H0d.out.row.cell (j := 8) rfl, H0d.out.row.cell (j := 9) rfl, H0d.out.row.cell (j := 10) rfl⟩) (fun hHeld => ?_)
        refine wpAnyH_take (i := 0) (oi := { dst := some 13, op := Op.move (Operand.tmp 4), type := 63, pos := "record.go:139", after := #[], guard := none }) (v := ?vk40) rfl (by kernel_rfl) (by kernel_rfl) (by kernel_rfl) (fun _ _ _ h => h) (Or.inl ⟨by rfl, ?hk40⟩) hHeld ?rk40
        case hk40 => ((intro w hSw); (try dsimp only at hSw); go_simp; (try with_reducible rfl))
        (try simp only [Act.put, List.setIfInBounds_toArray, List.set_cons_zero, List.set_cons_succ])
        refine wpAnyH_take (i := 1) (oi := { dst := some 14, op := Op.move (Operand.tmp 4), type := 63, pos := "record.go:139", after := #[], guard := none }) (v := ?vk41) rfl (by kernel_rfl) (by kernel_rfl) (by kernel_rfl) (fun _ _ _ h => h) (Or.inl ⟨by rfl, ?hk41⟩) hHeld ?rk41
        case hk41 => ((intro w hSw); (try dsimp only at hSw); go_simp; (try with_reducible rfl))
        (try simp only [Act.put, List.setIfInBounds_toArray, List.set_cons_zero, List.set_cons_succ])
        refine wpAnyH_take (i := 2) (oi := { dst := some 15, op := Op.fieldAddr 26 (Operand.tmp 1) 0, type := 0, pos := "record.go:139", after := #[], guard := none }) (v := ?vk42) rfl (by kernel_rfl) (by kernel_rfl) (by kernel_rfl) (fun _ _ _ h => h) (Or.inl ⟨by rfl, ?hk42⟩) hHeld ?rk42
        case hk42 => ((intro w hSw); (try dsimp only at hSw); go_simp; (try with_reducible rfl))
        (try simp only [Act.put, List.setIfInBounds_toArray, List.set_cons_zero, List.set_cons_succ])
        refine wpAnyH_take (i := 3) (oi := { dst := some 16, op := Op.load 3 (Operand.tmp 15), type := 3, pos := "record.go:139", after := #[{ on := 2, ground := Ground.data }], guard := none }) (v := ?vk43) rfl (by kernel_rfl) (by kernel_rfl) (by kernel_rfl) (fun _ _ _ h => h) (Or.inl ⟨by rfl, ?hk43⟩) hHeld ?rk43
        case hk43 => ((intro w hSw); (try dsimp only at hSw); go_simp; (try with_reducible rfl))
        (try simp only [Act.put, List.setIfInBounds_toArray, List.set_cons_zero, List.set_cons_succ])
        refine wpAnyH_take (i := 4) (oi := { dst := some 17, op := Op.convert 3 5 (Operand.tmp 16), type := 5, pos := "record.go:139", after := #[{ on := 3, ground := Ground.data }], guard := none }) (v := ?vk44) rfl (by kernel_rfl) (by kernel_rfl) (by kernel_rfl) (fun _ _ _ h => h) (Or.inl ⟨by rfl, ?hk44⟩) hHeld ?rk44
        case hk44 => ((intro w hSw); (try dsimp only at hSw); go_simp; (try with_reducible rfl))
        (try simp only [Act.put, List.setIfInBounds_toArray, List.set_cons_zero, List.set_cons_succ])
        refine wpAnyH_take (i := 6) (oi := { dst := some 19, op := Op.fieldAddr 26 (Operand.tmp 1) 1, type := 0, pos := "record.go:139", after := #[], guard := none }) (v := ?vk45) rfl (by kernel_rfl) (by kernel_rfl) (by kernel_rfl) (fun _ _ _ h => h) (Or.inl ⟨by rfl, ?hk45⟩) hHeld ?rk45
        case hk45 => ((intro w hSw); (try dsimp only at hSw); go_simp; (try with_reducible rfl))
        (try simp only [Act.put, List.setIfInBounds_toArray, List.set_cons_zero, List.set_cons_succ])
        refine wpAnyH_take (i := 7) (oi := { dst := some 20, op := Op.load 3 (Operand.tmp 19), type := 3, pos := "record.go:139", after := #[{ on := 6, ground := Ground.data }], guard := none }) (v := ?vk46) rfl (by kernel_rfl) (by kernel_rfl) (by kernel_rfl) (fun _ _ _ h => h) (Or.inl ⟨by rfl, ?hk46⟩) hHeld ?rk46
        case hk46 => ((intro w hSw); (try dsimp only at hSw); go_simp; (try with_reducible rfl))
        (try simp only [Act.put, List.setIfInBounds_toArray, List.set_cons_zero, List.set_cons_succ])
        refine wpAnyH_take (i := 9) (oi := { dst := some 22, op := Op.fieldAddr 26 (Operand.tmp 1) 2, type := 0, pos := "record.go:139", after := #[], guard := none }) (v := ?vk47) rfl (by kernel_rfl) (by kernel_rfl) (by kernel_rfl) (fun _ _ _ h => h) (Or.inl ⟨by rfl, ?hk47⟩) hHeld ?rk47
        case hk47 => ((intro w hSw); (try dsimp only at hSw); go_simp; (try with_reducible rfl))
        (try simp only [Act.put, List.setIfInBounds_toArray, List.set_cons_zero, List.set_cons_succ])
        refine wpAnyH_take (i := 10) (oi := { dst := some 23, op := Op.load 3 (Operand.tmp 22), type := 3, pos := "record.go:139", after := #[{ on := 9, ground := Ground.data }], guard := none }) (v := ?vk48) rfl (by kernel_rfl) (by kernel_rfl) (by kernel_rfl) (fun _ _ _ h => h) (Or.inl ⟨by rfl, ?hk48⟩) hHeld ?rk48
        case hk48 => ((intro w hSw); (try dsimp only at hSw); go_simp; (try with_reducible rfl))
        (try simp only [Act.put, List.setIfInBounds_toArray, List.set_cons_zero, List.set_cons_succ])
        refine wpAnyH_ready (rs := [5]) (by kernel_rfl) (by simp) ?_
        refine AllReadyH.cons (o := { dst := some 18, op := Op.call { callee := Callee.value (Operand.func 30), args := #[Operand.const (Value.slice none 0 0), Operand.tmp 17], argTypes := #[22, 5] }, type := 22, pos := "record.go:139", after := #[{ on := 4, ground := Ground.data }], guard := none }) rfl (fun K hK => ?_) AllReadyH.nil
        go_simp
        go_at_call 30
        refine (H0d.out.put1 (4) (by omega) (by omega) (by simp only [List.length_append, nB_length, List.length_nil]; omega)).mono ?_
        rintro e w11 ⟨A11, n11, c11, rfl, hS⟩
        have H11 := Lib.hid hS
        clear hS
        try go_wp2_with fail
        refine hK.out _ _ ?_ (fun hHeld => ?_)
        · exact ⟨H11.out.row.cell (j := 0) rfl, H11.out.row.cell (j := 1) rfl, H11.out.row.cell (j := 2) rfl, H11.out.row.cell (j := 3) rfl, H11.out.row.cell (j := 4) rfl, H11.out.row.cell (j := 5) rfl, H11.out.row.cell (j := 6) rfl, H11.out.row.cell (j := 7) rfl, H11.out.row.cell (j := 8) rfl, H11.out.row.cell (j := 9) rfl, H11.out.row.cell (j := 10) rfl⟩
        clear hK K
        (try simp only [Act.put, List.setIfInBounds_toArray, List.set_cons_zero, List.set_cons_succ])
        refine wpAnyH_ready (rs := [8]) (by kernel_rfl) (by simp) ?_
        refine AllReadyH.cons (o := { dst := some 21, op := Op.call { callee := Callee.value (Operand.tmp 14), args := #[Operand.tmp 18, Operand.tmp 20], argTypes := #[22, 3] }, type := 22, pos := "record.go:139", after := #[{ on := 1, ground := Ground.data }, { on := 5, ground := Ground.data }, { on := 7, ground := Ground.data }, { on := 5, ground := Ground.chain }], guard := none }) rfl (fun K hK => ?_) AllReadyH.nil
        go_simp
        refine (H11.out.put8 (birth) (by omega) (by omega) (by simp only [List.length_append, nB_length, List.length_nil]; omega)).mono ?_
        rintro e w12 ⟨A12, n12, c12, rfl, hS⟩
        have H12 := Lib.hid hS
        clear hS
        try go_wp2_with fail
        refine hK.out _ _ ?_ (fun hHeld => ?_)
        · exact ⟨H12.out.row.cell (j := 0) rfl, H12.out.row.cell (j := 1) rfl, H12.out.row.cell (j := 2) rfl, H12.out.row.cell (j := 3) rfl, H12.out.row.cell (j := 4) rfl, H12.out.row.cell (j := 5) rfl, H12.out.row.cell (j := 6) rfl, H12.out.row.cell (j := 7) rfl, H12.out.row.cell (j := 8) rfl, H12.out.row.cell (j := 9) rfl, H12.out.row.cell (j := 10) rfl⟩
        clear hK K
        (try simp only [Act.put, List.setIfInBounds_toArray, List.set_cons_zero, List.set_cons_succ])
        refine wpAnyH_ready (rs := [11]) (by kernel_rfl) (by simp) ?_
        refine AllReadyH.cons (o := { dst := some 24, op := Op.call { callee := Callee.value (Operand.tmp 13), args := #[Operand.tmp 21, Operand.tmp 23], argTypes := #[22, 3] }, type := 22, pos := "record.go:139", after := #[{ on := 0, ground := Ground.data }, { on := 8, ground := Ground.data }, { on := 10, ground := Ground.data }, { on := 8, ground := Ground.chain }], guard := none }) rfl (fun K hK => ?_) AllReadyH.nil
        go_simp
        refine (H12.out.put8 (prev) (by omega) (by omega) (by simp only [List.length_append, nB_length, List.length_nil]; omega)).mono ?_
        rintro e w13 ⟨A13, n13, c13, rfl, hS⟩
        have H13 := Lib.hid hS
        clear hS
        try go_wp2_with fail
        refine hK.out _ _ ?_ (fun hHeld => ?_)
        · exact ⟨H13.out.row.cell (j := 0) rfl, H13.out.row.cell (j := 1) rfl, H13.out.row.cell (j := 2) rfl, H13.out.row.cell (j := 3) rfl, H13.out.row.cell (j := 4) rfl, H13.out.row.cell (j := 5) rfl, H13.out.row.cell (j := 6) rfl, H13.out.row.cell (j := 7) rfl, H13.out.row.cell (j := 8) rfl, H13.out.row.cell (j := 9) rfl, H13.out.row.cell (j := 10) rfl⟩
        clear hK K
        (try simp only [Act.put, List.setIfInBounds_toArray, List.set_cons_zero, List.set_cons_succ])
        refine wpAnyH_take (i := 12) (oi := { dst := some 5, op := Op.assign (Operand.tmp 24), type := 22, pos := "record.go:139", after := #[{ on := 11, ground := Ground.data }, { on := 11, ground := Ground.chain }, { on := 0, ground := Ground.phase }, { on := 1, ground := Ground.phase }, { on := 2, ground := Ground.phase }, { on := 3, ground := Ground.phase }, { on := 4, ground := Ground.phase }, { on := 5, ground := Ground.phase }, { on := 6, ground := Ground.phase }, { on := 7, ground := Ground.phase }, { on := 8, ground := Ground.phase }, { on := 9, ground := Ground.phase }, { on := 10, ground := Ground.phase }, { on := 11, ground := Ground.phase }], guard := none }) (v := ?vk49) rfl (by kernel_rfl) (by kernel_rfl) (by kernel_rfl) (fun _ _ _ h => h) (Or.inl ⟨by rfl, ?hk49⟩) hHeld ?rk49
        case hk49 => ((intro w hSw); (try dsimp only at hSw); go_simp; (try with_reducible rfl))
        (try simp only [Act.put, List.setIfInBounds_toArray, List.set_cons_zero, List.set_cons_succ])
        refine wpAnyH_done (by kernel_rfl) ?_ _
        skip
        have d0 := H13.out.row.cell (j := 0) rfl
        have d1 := H13.out.row.cell (j := 1) rfl
        have d2 := H13.out.row.cell (j := 2) rfl
        have d3 := H13.out.row.cell (j := 3) rfl
        have d4 := H13.out.row.cell (j := 4) rfl
        have d5 := H13.out.row.cell (j := 5) rfl
        have d6 := H13.out.row.cell (j := 6) rfl
        have d7 := H13.out.row.cell (j := 7) rfl
        have d8 := H13.out.row.cell (j := 8) rfl
        have d9 := H13.out.row.cell (j := 9) rfl
        have d10 := H13.out.row.cell (j := 10) rfl
        go_wp2_with fail
        go_ret2
        exact byt_done H13.out HRB.out (by simp [recL, headR, tailR])
      · have HR0' := Lib.hid HR0.out
        go_enter Try.func10, Try.ntmps10
        go_wp2_with fail
        refine (HPR.out _ HB0.out).mono ?_
        rintro e w1 ⟨rfl, hb1⟩
        have H0 : Hid (Bs w w.heap.size [.int .i64 5, .int .i64 birth, .int .i64 prev, .int .i64 0, .int .i64 0, .int .i64 0, .slice A1 0 c1, .slice A2 0 c2, .int .i64 0, .slice A3 0 c3, .slice A4 0 c4] [] (.slice none 0 0) w1) := Lib.hid ⟨below_then HB0.out hb1, HR0.out.below hb1, Own8.nilRow _ _ _⟩
        have H0d := Lib.hid (H0.out.below (Below.refl _ _).drew)
        clear hb1
        go_wp2_with fail
        refine wp_region_held_drew (S := (fun w' => w'.cell? ⟨w.heap.size, 0, none⟩ = some (.int .i64 5) ∧ w'.cell? ⟨w.heap.size, 1, none⟩ = some (.int .i64 birth) ∧ w'.cell? ⟨w.heap.size, 2, none⟩ = some (.int .i64 prev) ∧ w'.cell? ⟨w.heap.size, 3, none⟩ = some (.int .i64 0) ∧ w'.cell? ⟨w.heap.size, 4, none⟩ = some (.int .i64 0) ∧ w'.cell? ⟨w.heap.size, 5, none⟩ = some (.int .i64 0) ∧ w'.cell? ⟨w.heap.size, 6, none⟩ = some (.slice A1 0 c1) ∧ w'.cell? ⟨w.heap.size, 7, none⟩ = some (.slice A2 0 c2) ∧ w'.cell? ⟨w.heap.size, 8, none⟩ = some (.int .i64 0) ∧ w'.cell? ⟨w.heap.size, 9, none⟩ = some (.slice A3 0 c3) ∧ w'.cell? ⟨w.heap.size, 10, none⟩ = some (.slice A4 0 c4))) (by kernel_rfl) (⟨H0d.out.row.cell (j := 0) rfl, H0d.out.row.cell (j := 1) rfl, H0d.out.row.cell (j := 2) rfl, H0d.out.row.cell (j := 3) rfl, H0d.out.row.cell (j := 4) rfl, H0d.out.row.cell (j := 5) rfl, H0d.out.row.cell (j := 6) rfl, H0d.out.row.cell (j := 7) rfl, H0d.out.row.cell (j := 8) rfl, H0d.out.row.cell (j := 9) rfl, H0d.out.row.cell (j := 10) rfl⟩) (fun hHeld => ?_)
        refine wpAnyH_take (i := 0) (oi := { dst := some 13, op := Op.move (Operand.tmp 4), type := 63, pos := "record.go:139", after := #[], guard := none }) (v := ?vk50) rfl (by kernel_rfl) (by kernel_rfl) (by kernel_rfl) (fun _ _ _ h => h) (Or.inl ⟨by rfl, ?hk50⟩) hHeld ?rk50
        case hk50 => ((intro w hSw); (try dsimp only at hSw); go_simp; (try with_reducible rfl))
        (try simp only [Act.put, List.setIfInBounds_toArray, List.set_cons_zero, List.set_cons_succ])
        refine wpAnyH_take (i := 1) (oi := { dst := some 14, op := Op.move (Operand.tmp 4), type := 63, pos := "record.go:139", after := #[], guard := none }) (v := ?vk51) rfl (by kernel_rfl) (by kernel_rfl) (by kernel_rfl) (fun _ _ _ h => h) (Or.inl ⟨by rfl, ?hk51⟩) hHeld ?rk51
        case hk51 => ((intro w hSw); (try dsimp only at hSw); go_simp; (try with_reducible rfl))
        (try simp only [Act.put, List.setIfInBounds_toArray, List.set_cons_zero, List.set_cons_succ])
        refine wpAnyH_take (i := 2) (oi := { dst := some 15, op := Op.fieldAddr 26 (Operand.tmp 1) 0, type := 0, pos := "record.go:139", after := #[], guard := none }) (v := ?vk52) rfl (by kernel_rfl) (by kernel_rfl) (by kernel_rfl) (fun _ _ _ h => h) (Or.inl ⟨by rfl, ?hk52⟩) hHeld ?rk52
        case hk52 => ((intro w hSw); (try dsimp only at hSw); go_simp; (try with_reducible rfl))
        (try simp only [Act.put, List.setIfInBounds_toArray, List.set_cons_zero, List.set_cons_succ])
        refine wpAnyH_take (i := 3) (oi := { dst := some 16, op := Op.load 3 (Operand.tmp 15), type := 3, pos := "record.go:139", after := #[{ on := 2, ground := Ground.data }], guard := none }) (v := ?vk53) rfl (by kernel_rfl) (by kernel_rfl) (by kernel_rfl) (fun _ _ _ h => h) (Or.inl ⟨by rfl, ?hk53⟩) hHeld ?rk53
        case hk53 => ((intro w hSw); (try dsimp only at hSw); go_simp; (try with_reducible rfl))
        (try simp only [Act.put, List.setIfInBounds_toArray, List.set_cons_zero, List.set_cons_succ])
        refine wpAnyH_take (i := 4) (oi := { dst := some 17, op := Op.convert 3 5 (Operand.tmp 16), type := 5, pos := "record.go:139", after := #[{ on := 3, ground := Ground.data }], guard := none }) (v := ?vk54) rfl (by kernel_rfl) (by kernel_rfl) (by kernel_rfl) (fun _ _ _ h => h) (Or.inl ⟨by rfl, ?hk54⟩) hHeld ?rk54
        case hk54 => ((intro w hSw); (try dsimp only at hSw); go_simp; (try with_reducible rfl))
        (try simp only [Act.put, List.setIfInBounds_toArray, List.set_cons_zero, List.set_cons_succ])
        refine wpAnyH_take (i := 6) (oi := { dst := some 19, op := Op.fieldAddr 26 (Operand.tmp 1) 1, type := 0, pos := "record.go:139", after := #[], guard := none }) (v := ?vk55) rfl (by kernel_rfl) (by kernel_rfl) (by kernel_rfl) (fun _ _ _ h => h) (Or.inl ⟨by rfl, ?hk55⟩) hHeld ?rk55
        case hk55 => ((intro w hSw); (try dsimp only at hSw); go_simp; (try with_reducible rfl))
        (try simp only [Act.put, List.setIfInBounds_toArray, List.set_cons_zero, List.set_cons_succ])
        refine wpAnyH_take (i := 7) (oi := { dst := some 20, op := Op.load 3 (Operand.tmp 19), type := 3, pos := "record.go:139", after := #[{ on := 6, ground := Ground.data }], guard := none }) (v := ?vk56) rfl (by kernel_rfl) (by kernel_rfl) (by kernel_rfl) (fun _ _ _ h => h) (Or.inl ⟨by rfl, ?hk56⟩) hHeld ?rk56
        case hk56 => ((intro w hSw); (try dsimp only at hSw); go_simp; (try with_reducible rfl))
        (try simp only [Act.put, List.setIfInBounds_toArray, List.set_cons_zero, List.set_cons_succ])
        refine wpAnyH_take (i := 9) (oi := { dst := some 22, op := Op.fieldAddr 26 (Operand.tmp 1) 2, type := 0, pos := "record.go:139", after := #[], guard := none }) (v := ?vk57) rfl (by kernel_rfl) (by kernel_rfl) (by kernel_rfl) (fun _ _ _ h => h) (Or.inl ⟨by rfl, ?hk57⟩) hHeld ?rk57
        case hk57 => ((intro w hSw); (try dsimp only at hSw); go_simp; (try with_reducible rfl))
        (try simp only [Act.put, List.setIfInBounds_toArray, List.set_cons_zero, List.set_cons_succ])
        refine wpAnyH_take (i := 10) (oi := { dst := some 23, op := Op.load 3 (Operand.tmp 22), type := 3, pos := "record.go:139", after := #[{ on := 9, ground := Ground.data }], guard := none }) (v := ?vk58) rfl (by kernel_rfl) (by kernel_rfl) (by kernel_rfl) (fun _ _ _ h => h) (Or.inl ⟨by rfl, ?hk58⟩) hHeld ?rk58
        case hk58 => ((intro w hSw); (try dsimp only at hSw); go_simp; (try with_reducible rfl))
        (try simp only [Act.put, List.setIfInBounds_toArray, List.set_cons_zero, List.set_cons_succ])
        refine wpAnyH_ready (rs := [5]) (by kernel_rfl) (by simp) ?_
        refine AllReadyH.cons (o := { dst := some 18, op := Op.call { callee := Callee.value (Operand.func 30), args := #[Operand.const (Value.slice none 0 0), Operand.tmp 17], argTypes := #[22, 5] }, type := 22, pos := "record.go:139", after := #[{ on := 4, ground := Ground.data }], guard := none }) rfl (fun K hK => ?_) AllReadyH.nil
        go_simp
        go_at_call 30
        refine (H0d.out.put1 (5) (by omega) (by omega) (by simp only [List.length_append, nB_length, List.length_nil]; omega)).mono ?_
        rintro e w11 ⟨A11, n11, c11, rfl, hS⟩
        have H11 := Lib.hid hS
        clear hS
        try go_wp2_with fail
        refine hK.out _ _ ?_ (fun hHeld => ?_)
        · exact ⟨H11.out.row.cell (j := 0) rfl, H11.out.row.cell (j := 1) rfl, H11.out.row.cell (j := 2) rfl, H11.out.row.cell (j := 3) rfl, H11.out.row.cell (j := 4) rfl, H11.out.row.cell (j := 5) rfl, H11.out.row.cell (j := 6) rfl, H11.out.row.cell (j := 7) rfl, H11.out.row.cell (j := 8) rfl, H11.out.row.cell (j := 9) rfl, H11.out.row.cell (j := 10) rfl⟩
        clear hK K
        (try simp only [Act.put, List.setIfInBounds_toArray, List.set_cons_zero, List.set_cons_succ])
        refine wpAnyH_ready (rs := [8]) (by kernel_rfl) (by simp) ?_
        refine AllReadyH.cons (o := { dst := some 21, op := Op.call { callee := Callee.value (Operand.tmp 14), args := #[Operand.tmp 18, Operand.tmp 20], argTypes := #[22, 3] }, type := 22, pos := "record.go:139", after := #[{ on := 1, ground := Ground.data }, { on := 5, ground := Ground.data }, { on := 7, ground := Ground.data }, { on := 5, ground := Ground.chain }], guard := none }) rfl (fun K hK => ?_) AllReadyH.nil
        go_simp
        refine (H11.out.put8 (birth) (by omega) (by omega) (by simp only [List.length_append, nB_length, List.length_nil]; omega)).mono ?_
        rintro e w12 ⟨A12, n12, c12, rfl, hS⟩
        have H12 := Lib.hid hS
        clear hS
        try go_wp2_with fail
        refine hK.out _ _ ?_ (fun hHeld => ?_)
        · exact ⟨H12.out.row.cell (j := 0) rfl, H12.out.row.cell (j := 1) rfl, H12.out.row.cell (j := 2) rfl, H12.out.row.cell (j := 3) rfl, H12.out.row.cell (j := 4) rfl, H12.out.row.cell (j := 5) rfl, H12.out.row.cell (j := 6) rfl, H12.out.row.cell (j := 7) rfl, H12.out.row.cell (j := 8) rfl, H12.out.row.cell (j := 9) rfl, H12.out.row.cell (j := 10) rfl⟩
        clear hK K
        (try simp only [Act.put, List.setIfInBounds_toArray, List.set_cons_zero, List.set_cons_succ])
        refine wpAnyH_ready (rs := [11]) (by kernel_rfl) (by simp) ?_
        refine AllReadyH.cons (o := { dst := some 24, op := Op.call { callee := Callee.value (Operand.tmp 13), args := #[Operand.tmp 21, Operand.tmp 23], argTypes := #[22, 3] }, type := 22, pos := "record.go:139", after := #[{ on := 0, ground := Ground.data }, { on := 8, ground := Ground.data }, { on := 10, ground := Ground.data }, { on := 8, ground := Ground.chain }], guard := none }) rfl (fun K hK => ?_) AllReadyH.nil
        go_simp
        refine (H12.out.put8 (prev) (by omega) (by omega) (by simp only [List.length_append, nB_length, List.length_nil]; omega)).mono ?_
        rintro e w13 ⟨A13, n13, c13, rfl, hS⟩
        have H13 := Lib.hid hS
        clear hS
        try go_wp2_with fail
        refine hK.out _ _ ?_ (fun hHeld => ?_)
        · exact ⟨H13.out.row.cell (j := 0) rfl, H13.out.row.cell (j := 1) rfl, H13.out.row.cell (j := 2) rfl, H13.out.row.cell (j := 3) rfl, H13.out.row.cell (j := 4) rfl, H13.out.row.cell (j := 5) rfl, H13.out.row.cell (j := 6) rfl, H13.out.row.cell (j := 7) rfl, H13.out.row.cell (j := 8) rfl, H13.out.row.cell (j := 9) rfl, H13.out.row.cell (j := 10) rfl⟩
        clear hK K
        (try simp only [Act.put, List.setIfInBounds_toArray, List.set_cons_zero, List.set_cons_succ])
        refine wpAnyH_take (i := 12) (oi := { dst := some 5, op := Op.assign (Operand.tmp 24), type := 22, pos := "record.go:139", after := #[{ on := 11, ground := Ground.data }, { on := 11, ground := Ground.chain }, { on := 0, ground := Ground.phase }, { on := 1, ground := Ground.phase }, { on := 2, ground := Ground.phase }, { on := 3, ground := Ground.phase }, { on := 4, ground := Ground.phase }, { on := 5, ground := Ground.phase }, { on := 6, ground := Ground.phase }, { on := 7, ground := Ground.phase }, { on := 8, ground := Ground.phase }, { on := 9, ground := Ground.phase }, { on := 10, ground := Ground.phase }, { on := 11, ground := Ground.phase }], guard := none }) (v := ?vk59) rfl (by kernel_rfl) (by kernel_rfl) (by kernel_rfl) (fun _ _ _ h => h) (Or.inl ⟨by rfl, ?hk59⟩) hHeld ?rk59
        case hk59 => ((intro w hSw); (try dsimp only at hSw); go_simp; (try with_reducible rfl))
        (try simp only [Act.put, List.setIfInBounds_toArray, List.set_cons_zero, List.set_cons_succ])
        refine wpAnyH_done (by kernel_rfl) ?_ _
        skip
        have d0 := H13.out.row.cell (j := 0) rfl
        have d1 := H13.out.row.cell (j := 1) rfl
        have d2 := H13.out.row.cell (j := 2) rfl
        have d3 := H13.out.row.cell (j := 3) rfl
        have d4 := H13.out.row.cell (j := 4) rfl
        have d5 := H13.out.row.cell (j := 5) rfl
        have d6 := H13.out.row.cell (j := 6) rfl
        have d7 := H13.out.row.cell (j := 7) rfl
        have d8 := H13.out.row.cell (j := 8) rfl
        have d9 := H13.out.row.cell (j := 9) rfl
        have d10 := H13.out.row.cell (j := 10) rfl
        go_wp2_with fail
        go_ret2
        exact byt_done H13.out HRB.out (by simp [recL, headR, tailR])
      · have HR0' := Lib.hid HR0.out
        go_enter Try.func10, Try.ntmps10
        go_wp2_with fail
        refine (HPR.out _ HB0.out).mono ?_
        rintro e w1 ⟨rfl, hb1⟩
        have H0 : Hid (Bs w w.heap.size [.int .i64 6, .int .i64 birth, .int .i64 prev, .int .i64 0, .int .i64 0, .int .i64 0, .slice A1 0 c1, .slice A2 0 c2, .int .i64 0, .slice A3 0 c3, .slice A4 0 c4] [] (.slice none 0 0) w1) := Lib.hid ⟨below_then HB0.out hb1, HR0.out.below hb1, Own8.nilRow _ _ _⟩
        have H0d := Lib.hid (H0.out.below (Below.refl _ _).drew)
        clear hb1
        go_wp2_with fail
        refine wp_region_held_drew (S := (fun w' => w'.cell? ⟨w.heap.size, 0, none⟩ = some (.int .i64 6) ∧ w'.cell? ⟨w.heap.size, 1, none⟩ = some (.int .i64 birth) ∧ w'.cell? ⟨w.heap.size, 2, none⟩ = some (.int .i64 prev) ∧ w'.cell? ⟨w.heap.size, 3, none⟩ = some (.int .i64 0) ∧ w'.cell? ⟨w.heap.size, 4, none⟩ = some (.int .i64 0) ∧ w'.cell? ⟨w.heap.size, 5, none⟩ = some (.int .i64 0) ∧ w'.cell? ⟨w.heap.size, 6, none⟩ = some (.slice A1 0 c1) ∧ w'.cell? ⟨w.heap.size, 7, none⟩ = some (.slice A2 0 c2) ∧ w'.cell? ⟨w.heap.size, 8, none⟩ = some (.int .i64 0) ∧ w'.cell? ⟨w.heap.size, 9, none⟩ = some (.slice A3 0 c3) ∧ w'.cell? ⟨w.heap.size, 10, none⟩ = some (.slice A4 0 c4))) (by kernel_rfl) (⟨H0d.out.row.cell (j := 0) rfl, H0d.out.row.cell (j := 1) rfl, H0d.out.row.cell (j := 2) rfl, H0d.out.row.cell (j := 3) rfl, H0d.out.row.cell (j := 4) rfl, H0d.out.row.cell (j := 5) rfl, H0d.out.row.cell (j := 6) rfl, H0d.out.row.cell (j := 7) rfl, H0d.out.row.cell (j := 8) rfl, H0d.out.row.cell (j := 9) rfl, H0d.out.row.cell (j := 10) rfl⟩) (fun hHeld => ?_)
        refine wpAnyH_take (i := 0) (oi := { dst := some 13, op := Op.move (Operand.tmp 4), type := 63, pos := "record.go:139", after := #[], guard := none }) (v := ?vk60) rfl (by kernel_rfl) (by kernel_rfl) (by kernel_rfl) (fun _ _ _ h => h) (Or.inl ⟨by rfl, ?hk60⟩) hHeld ?rk60
        case hk60 => ((intro w hSw); (try dsimp only at hSw); go_simp; (try with_reducible rfl))
        (try simp only [Act.put, List.setIfInBounds_toArray, List.set_cons_zero, List.set_cons_succ])
        refine wpAnyH_take (i := 1) (oi := { dst := some 14, op := Op.move (Operand.tmp 4), type := 63, pos := "record.go:139", after := #[], guard := none }) (v := ?vk61) rfl (by kernel_rfl) (by kernel_rfl) (by kernel_rfl) (fun _ _ _ h => h) (Or.inl ⟨by rfl, ?hk61⟩) hHeld ?rk61
        case hk61 => ((intro w hSw); (try dsimp only at hSw); go_simp; (try with_reducible rfl))
        (try simp only [Act.put, List.setIfInBounds_toArray, List.set_cons_zero, List.set_cons_succ])
        refine wpAnyH_take (i := 2) (oi := { dst := some 15, op := Op.fieldAddr 26 (Operand.tmp 1) 0, type := 0, pos := "record.go:139", after := #[], guard := none }) (v := ?vk62) rfl (by kernel_rfl) (by kernel_rfl) (by kernel_rfl) (fun _ _ _ h => h) (Or.inl ⟨by rfl, ?hk62⟩) hHeld ?rk62
        case hk62 => ((intro w hSw); (try dsimp only at hSw); go_simp; (try with_reducible rfl))
        (try simp only [Act.put, List.setIfInBounds_toArray, List.set_cons_zero, List.set_cons_succ])
        refine wpAnyH_take (i := 3) (oi := { dst := some 16, op := Op.load 3 (Operand.tmp 15), type := 3, pos := "record.go:139", after := #[{ on := 2, ground := Ground.data }], guard := none }) (v := ?vk63) rfl (by kernel_rfl) (by kernel_rfl) (by kernel_rfl) (fun _ _ _ h => h) (Or.inl ⟨by rfl, ?hk63⟩) hHeld ?rk63
        case hk63 => ((intro w hSw); (try dsimp only at hSw); go_simp; (try with_reducible rfl))
        (try simp only [Act.put, List.setIfInBounds_toArray, List.set_cons_zero, List.set_cons_succ])
        refine wpAnyH_take (i := 4) (oi := { dst := some 17, op := Op.convert 3 5 (Operand.tmp 16), type := 5, pos := "record.go:139", after := #[{ on := 3, ground := Ground.data }], guard := none }) (v := ?vk64) rfl (by kernel_rfl) (by kernel_rfl) (by kernel_rfl) (fun _ _ _ h => h) (Or.inl ⟨by rfl, ?hk64⟩) hHeld ?rk64
        case hk64 => ((intro w hSw); (try dsimp only at hSw); go_simp; (try with_reducible rfl))
        (try simp only [Act.put, List.setIfInBounds_toArray, List.set_cons_zero, List.set_cons_succ])
        refine wpAnyH_take (i := 6) (oi := { dst := some 19, op := Op.fieldAddr 26 (Operand.tmp 1) 1, type := 0, pos := "record.go:139", after := #[], guard := none }) (v := ?vk65) rfl (by kernel_rfl) (by kernel_rfl) (by kernel_rfl) (fun _ _ _ h => h) (Or.inl ⟨by rfl, ?hk65⟩) hHeld ?rk65
        case hk65 => ((intro w hSw); (try dsimp only at hSw); go_simp; (try with_reducible rfl))
        (try simp only [Act.put, List.setIfInBounds_toArray, List.set_cons_zero, List.set_cons_succ])
        refine wpAnyH_take (i := 7) (oi := { dst := some 20, op := Op.load 3 (Operand.tmp 19), type := 3, pos := "record.go:139", after := #[{ on := 6, ground := Ground.data }], guard := none }) (v := ?vk66) rfl (by kernel_rfl) (by kernel_rfl) (by kernel_rfl) (fun _ _ _ h => h) (Or.inl ⟨by rfl, ?hk66⟩) hHeld ?rk66
        case hk66 => ((intro w hSw); (try dsimp only at hSw); go_simp; (try with_reducible rfl))
        (try simp only [Act.put, List.setIfInBounds_toArray, List.set_cons_zero, List.set_cons_succ])
        refine wpAnyH_take (i := 9) (oi := { dst := some 22, op := Op.fieldAddr 26 (Operand.tmp 1) 2, type := 0, pos := "record.go:139", after := #[], guard := none }) (v := ?vk67) rfl (by kernel_rfl) (by kernel_rfl) (by kernel_rfl) (fun _ _ _ h => h) (Or.inl ⟨by rfl, ?hk67⟩) hHeld ?rk67
        case hk67 => ((intro w hSw); (try dsimp only at hSw); go_simp; (try with_reducible rfl))
        (try simp only [Act.put, List.setIfInBounds_toArray, List.set_cons_zero, List.set_cons_succ])
        refine wpAnyH_take (i := 10) (oi := { dst := some 23, op := Op.load 3 (Operand.tmp 22), type := 3, pos := "record.go:139", after := #[{ on := 9, ground := Ground.data }], guard := none }) (v := ?vk68) rfl (by kernel_rfl) (by kernel_rfl) (by kernel_rfl) (fun _ _ _ h => h) (Or.inl ⟨by rfl, ?hk68⟩) hHeld ?rk68
        case hk68 => ((intro w hSw); (try dsimp only at hSw); go_simp; (try with_reducible rfl))
        (try simp only [Act.put, List.setIfInBounds_toArray, List.set_cons_zero, List.set_cons_succ])
        refine wpAnyH_ready (rs := [5]) (by kernel_rfl) (by simp) ?_
        refine AllReadyH.cons (o := { dst := some 18, op := Op.call { callee := Callee.value (Operand.func 30), args := #[Operand.const (Value.slice none 0 0), Operand.tmp 17], argTypes := #[22, 5] }, type := 22, pos := "record.go:139", after := #[{ on := 4, ground := Ground.data }], guard := none }) rfl (fun K hK => ?_) AllReadyH.nil
        go_simp
        go_at_call 30
        refine (H0d.out.put1 (6) (by omega) (by omega) (by simp only [List.length_append, nB_length, List.length_nil]; omega)).mono ?_
        rintro e w11 ⟨A11, n11, c11, rfl, hS⟩
        have H11 := Lib.hid hS
        clear hS
        try go_wp2_with fail
        refine hK.out _ _ ?_ (fun hHeld => ?_)
        · exact ⟨H11.out.row.cell (j := 0) rfl, H11.out.row.cell (j := 1) rfl, H11.out.row.cell (j := 2) rfl, H11.out.row.cell (j := 3) rfl, H11.out.row.cell (j := 4) rfl, H11.out.row.cell (j := 5) rfl, H11.out.row.cell (j := 6) rfl, H11.out.row.cell (j := 7) rfl, H11.out.row.cell (j := 8) rfl, H11.out.row.cell (j := 9) rfl, H11.out.row.cell (j := 10) rfl⟩
        clear hK K
        (try simp only [Act.put, List.setIfInBounds_toArray, List.set_cons_zero, List.set_cons_succ])
        refine wpAnyH_ready (rs := [8]) (by kernel_rfl) (by simp) ?_
        refine AllReadyH.cons (o := { dst := some 21, op := Op.call { callee := Callee.value (Operand.tmp 14), args := #[Operand.tmp 18, Operand.tmp 20], argTypes := #[22, 3] }, type := 22, pos := "record.go:139", after := #[{ on := 1, ground := Ground.data }, { on := 5, ground := Ground.data }, { on := 7, ground := Ground.data }, { on := 5, ground := Ground.chain }], guard := none }) rfl (fun K hK => ?_) AllReadyH.nil
        go_simp
        refine (H11.out.put8 (birth) (by omega) (by omega) (by simp only [List.length_append, nB_length, List.length_nil]; omega)).mono ?_
        rintro e w12 ⟨A12, n12, c12, rfl, hS⟩
        have H12 := Lib.hid hS
        clear hS
        try go_wp2_with fail
        refine hK.out _ _ ?_ (fun hHeld => ?_)
        · exact ⟨H12.out.row.cell (j := 0) rfl, H12.out.row.cell (j := 1) rfl, H12.out.row.cell (j := 2) rfl, H12.out.row.cell (j := 3) rfl, H12.out.row.cell (j := 4) rfl, H12.out.row.cell (j := 5) rfl, H12.out.row.cell (j := 6) rfl, H12.out.row.cell (j := 7) rfl, H12.out.row.cell (j := 8) rfl, H12.out.row.cell (j := 9) rfl, H12.out.row.cell (j := 10) rfl⟩
        clear hK K
        (try simp only [Act.put, List.setIfInBounds_toArray, List.set_cons_zero, List.set_cons_succ])
        refine wpAnyH_ready (rs := [11]) (by kernel_rfl) (by simp) ?_
        refine AllReadyH.cons (o := { dst := some 24, op := Op.call { callee := Callee.value (Operand.tmp 13), args := #[Operand.tmp 21, Operand.tmp 23], argTypes := #[22, 3] }, type := 22, pos := "record.go:139", after := #[{ on := 0, ground := Ground.data }, { on := 8, ground := Ground.data }, { on := 10, ground := Ground.data }, { on := 8, ground := Ground.chain }], guard := none }) rfl (fun K hK => ?_) AllReadyH.nil
        go_simp
        refine (H12.out.put8 (prev) (by omega) (by omega) (by simp only [List.length_append, nB_length, List.length_nil]; omega)).mono ?_
        rintro e w13 ⟨A13, n13, c13, rfl, hS⟩
        have H13 := Lib.hid hS
        clear hS
        try go_wp2_with fail
        refine hK.out _ _ ?_ (fun hHeld => ?_)
        · exact ⟨H13.out.row.cell (j := 0) rfl, H13.out.row.cell (j := 1) rfl, H13.out.row.cell (j := 2) rfl, H13.out.row.cell (j := 3) rfl, H13.out.row.cell (j := 4) rfl, H13.out.row.cell (j := 5) rfl, H13.out.row.cell (j := 6) rfl, H13.out.row.cell (j := 7) rfl, H13.out.row.cell (j := 8) rfl, H13.out.row.cell (j := 9) rfl, H13.out.row.cell (j := 10) rfl⟩
        clear hK K
        (try simp only [Act.put, List.setIfInBounds_toArray, List.set_cons_zero, List.set_cons_succ])
        refine wpAnyH_take (i := 12) (oi := { dst := some 5, op := Op.assign (Operand.tmp 24), type := 22, pos := "record.go:139", after := #[{ on := 11, ground := Ground.data }, { on := 11, ground := Ground.chain }, { on := 0, ground := Ground.phase }, { on := 1, ground := Ground.phase }, { on := 2, ground := Ground.phase }, { on := 3, ground := Ground.phase }, { on := 4, ground := Ground.phase }, { on := 5, ground := Ground.phase }, { on := 6, ground := Ground.phase }, { on := 7, ground := Ground.phase }, { on := 8, ground := Ground.phase }, { on := 9, ground := Ground.phase }, { on := 10, ground := Ground.phase }, { on := 11, ground := Ground.phase }], guard := none }) (v := ?vk69) rfl (by kernel_rfl) (by kernel_rfl) (by kernel_rfl) (fun _ _ _ h => h) (Or.inl ⟨by rfl, ?hk69⟩) hHeld ?rk69
        case hk69 => ((intro w hSw); (try dsimp only at hSw); go_simp; (try with_reducible rfl))
        (try simp only [Act.put, List.setIfInBounds_toArray, List.set_cons_zero, List.set_cons_succ])
        refine wpAnyH_done (by kernel_rfl) ?_ _
        skip
        have d0 := H13.out.row.cell (j := 0) rfl
        have d1 := H13.out.row.cell (j := 1) rfl
        have d2 := H13.out.row.cell (j := 2) rfl
        have d3 := H13.out.row.cell (j := 3) rfl
        have d4 := H13.out.row.cell (j := 4) rfl
        have d5 := H13.out.row.cell (j := 5) rfl
        have d6 := H13.out.row.cell (j := 6) rfl
        have d7 := H13.out.row.cell (j := 7) rfl
        have d8 := H13.out.row.cell (j := 8) rfl
        have d9 := H13.out.row.cell (j := 9) rfl
        have d10 := H13.out.row.cell (j := 10) rfl
        go_wp2_with fail
        go_ret2
        exact byt_done H13.out HRB.out (by simp [recL, headR, tailR])
    · obtain ⟨rfl, rfl, rfl, rfl, rfl, rfl, rfl, rfl, rfl, hl⟩ := hq
      exact bytes7_any HRC.out HCS.out HRB.out hl
end Go.Proofs.Ytiaehoppdihbdaa
