import Derived.Test.YtiaehoppdihbdaaRec10
/- The contracts of package record: Bytes of a checkpoint. -/
set_option linter.unusedVariables false
set_option linter.unusedSimpArgs false
namespace Go.Proofs.Ytiaehoppdihbdaa
open Go.RowKit Go.Tm
set_option maxHeartbeats 400000
set_option maxRecDepth 100000
attribute [local go_sem ↓] Go.wp_at_zero Go.wp_at_succ

theorem w8 {x : Int} (h0 : 0 ≤ x) (h1 : x < 256) : IntKind.u8.wrap x = x := by rw [IntKind.wrap_u8]; omega
theorem w16 {x : Int} (h0 : 0 ≤ x) (h1 : x < 65536) : IntKind.u16.wrap x = x := by rw [IntKind.wrap_u16]; omega
/-- What Bytes says. -/
abbrev BytP (x : RecD) (w : World) (e : Ending) (w' : World) : Prop := ∃ A c, e = .returned (.tuple #[.slice A (recV x).length c, .int .i64 (recE x)]) ∧ New 5 w w' A c (recV x)
theorem byt_done {w W : World} {bx : Nat} {cs : List Value} {x : RecD} {l : List UInt8} {A : Option Addr} {n c : Nat} (h : Bs w bx cs l (.slice A n c) W) (hr : rgtB x = true) (hl : recL x = l) : BytP x w (.returned (.tuple #[.slice A n c, .int .i64 0])) W := by
  have e1 : recV x = l := by unfold recV; rw [if_pos hr, hl]
  have e2 : recE x = 0 := by unfold recE; rw [if_pos hr]
  obtain ⟨e3, e4⟩ := own_at h.own
  refine ⟨A, c, by rw [e1, e2, e3], by rw [e1]; rw [e3] at h; exact ⟨h.own, h.low⟩⟩
theorem cat_take_map {α : Type} {f : α → List UInt8} (l : List α) {k : Nat} {x : α} (h : l[k]? = some x) : cat ((l.take (k + 1)).map f) = cat ((l.take k).map f) ++ f x := by
  obtain ⟨hk, e⟩ := List.getElem?_eq_some_iff.1 h
  unfold cat
  rw [List.take_succ_eq_append_getElem hk, List.map_append, List.flatten_append]
  simp [e]
theorem cat_map_le {α : Type} {f : α → List UInt8} {m : Nat} (hf : ∀ x, (f x).length = m) (l : List α) (k : Nat) : (cat ((l.take k).map f)).length ≤ m * l.length := by
  have : ∀ l : List α, (cat (l.map f)).length = m * l.length := by
    intro l
    induction l with
    | nil => rfl
    | cons x r ih => rw [List.map_cons, cat_cons, List.length_append, hf, ih, List.length_cons, Nat.mul_succ]; omega
  rw [this]
  exact Nat.mul_le_mul_left _ (by rw [List.length_take]; omega)

/-- A row built up, while a second block of cells stands. -/
structure Be (w : World) (bx : Nat) (cs : List Value) (be : Nat) (T : TypeId) (es : List Value) (l : List UInt8) (v : Value) (W : World) : Prop where
  bs : Bs w bx cs l v W
  el : RowC W be T es
section
variable {w W W' : World} {bx be : Nat} {T : TypeId} {cs es : List Value} {l : List UInt8} {A : Option Addr} {n c : Nat}
theorem Be.below {v : Value} (h : Be w bx cs be T es l v W) (hb : Below W.heap.size W W') : Be w bx cs be T es l v W' := ⟨h.bs.below hb, h.el.below hb⟩
theorem Be.put1 (h : Be w bx cs be T es l (.slice A n c) W) (x : Int) (h0 : 0 ≤ x) (h1 : x < 256) (hl : l.length + 1 ≤ 100000) : Calls Try.prog 30 #[.slice A n c, .int .u8 x] W fun e W' => ∃ A' n' c', e = .returned (.slice A' n' c') ∧ Be w bx cs be T es (l ++ nB 1 x) (.slice A' n' c') W' := by
  obtain ⟨e1, e2⟩ := own_at h.bs.own
  exact (put1_any e2 e1 (by omega) x h0 h1).mono fun e W' ⟨A', c', h1, h2⟩ => ⟨A', _, c', h1, h.bs.new h2, h.el.below h2.below⟩
theorem Be.put8 (h : Be w bx cs be T es l (.slice A n c) W) (x : Int) (h0 : 0 ≤ x) (h1 : x ≤ 1152921504606846976) (hl : l.length + 8 ≤ 100000) : Calls Try.prog 28 #[.slice A n c, .int .i64 x] W fun e W' => ∃ A' n' c', e = .returned (.slice A' n' c') ∧ Be w bx cs be T es (l ++ nB 8 x) (.slice A' n' c') W' := by
  obtain ⟨e1, e2⟩ := own_at h.bs.own
  exact (lay8_any e2 e1 (by omega) x h0 h1).mono fun e W' ⟨A', c', h1, h2⟩ => ⟨A', _, c', h1, h.bs.new h2, h.el.below h2.below⟩
end
theorem bs_eq {w W : World} {bx : Nat} {cs : List Value} {l m : List UInt8} {v : Value} (h : Bs w bx cs l v W) (e : l = m) : Bs w bx cs m v W := e ▸ h

set_option maxHeartbeats 20000000 in
theorem bytes7_any {w : World} {rows : List Row9} {dirty : List (Int × Int)} {q : RPl} (h : RecR w ⟨7, 0, 0, 0, 0, 0, [], [], 0, rows, dirty⟩ q) {cs : Array Value} (hcs : cs = (recC ⟨7, 0, 0, 0, 0, 0, [], [], 0, rows, dirty⟩ q).toArray)
    (hRB : rgtB ⟨7, 0, 0, 0, 0, 0, [], [], 0, rows, dirty⟩ = true) (hl : listsB ⟨7, 0, 0, 0, 0, 0, [], [], 0, rows, dirty⟩ = true) :
    Calls Try.prog 10 #[.agg cs] w (BytP ⟨7, 0, 0, 0, 0, 0, [], [], 0, rows, dirty⟩ w) := by
  have PR := fun W (hb : Below w.heap.size w W) => right_any (h.below hb) hcs
  obtain ⟨⟨A1, c1, e1, r1⟩, ⟨A2, c2, e2, r2⟩, ⟨A3, c3, e3, r3⟩, ⟨A4, c4, e4, r4⟩, _, n1, n2, n3, n4⟩ := h
  dsimp only at e1 e2 e3 e4 r1 r2 r3 r4 n1 n2 n3 n4
  simp only [listsB, Bool.and_eq_true, decide_eq_true_eq] at hl
  obtain ⟨⟨⟨m1, m2⟩, m3⟩, m4⟩ := hl
  have M3 := Lib.hid (rowsB_all _ _ m3)
  have M4 := Lib.hid (dirtB_all _ _ m4)
  have G1 := Lib.hid (fun k => cat_map_le row9L_length rows k)
  have G2 := Lib.hid (fun k => cat_map_le dirtL_length dirty k)
  have HQ3 := Lib.hid r3
  have HQ4 := Lib.hid r4
  have hc3 := r3.cap
  have hc4 := r4.cap
  have HFIN : Hid (recL ⟨7, 0, 0, 0, 0, 0, [], [], 0, rows, dirty⟩ = ((([] ++ nB 1 7) ++ nB 8 0) ++ nB 8 0) ++ (nB 1 rows.length ++ (cat (rows.map row9L) ++ (nB 1 dirty.length ++ cat (dirty.map dirtL))))) := Lib.hid (by simp [recL, headR, tailR, leB_nB])
  obtain ⟨N1, hN1⟩ : ∃ N, rows.length = N := ⟨_, rfl⟩
  obtain ⟨N2, hN2⟩ : ∃ N, dirty.length = N := ⟨_, rfl⟩
  have hcs2 : cs = #[.int .i64 7, .int .i64 0, .int .i64 0, .int .i64 0, .int .i64 0, .int .i64 0, .slice A1 0 c1, .slice A2 0 c2, .int .i64 0, .slice A3 N1 c3, .slice A4 N2 c4] := by rw [hcs]; unfold recC; rw [e1, e2, e3, e4, hN1, hN2]; rfl
  subst hcs2
  rw [hRB] at PR
  rw [hN1] at m1 G1 hc3 HFIN
  rw [hN2] at m2 G2 hc4 HFIN
  have HN1 := Lib.hid hN1
  have HN2 := Lib.hid hN2
  have HPR := Lib.hid PR
  have HRB := Lib.hid hRB
  have hb0 := (Below.refl w.heap.size w).alloc (Nat.le_refl _) (.cells #[.int .i64 7, .int .i64 0, .int .i64 0, .int .i64 0, .int .i64 0, .int .i64 0, .slice A1 0 c1, .slice A2 0 c2, .int .i64 0, .slice A3 N1 c3, .slice A4 N2 c4] 26)
  have hR0 : RowC (w.alloc (.cells #[.int .i64 7, .int .i64 0, .int .i64 0, .int .i64 0, .int .i64 0, .int .i64 0, .slice A1 0 c1, .slice A2 0 c2, .int .i64 0, .slice A3 N1 c3, .slice A4 N2 c4] 26)) w.heap.size 26 [.int .i64 7, .int .i64 0, .int .i64 0, .int .i64 0, .int .i64 0, .int .i64 0, .slice A1 0 c1, .slice A2 0 c2, .int .i64 0, .slice A3 N1 c3, .slice A4 N2 c4] := heap_alloc_new w _
  have HB0 := Lib.hid hb0
  have HR0 := Lib.hid hR0
  clear hcs e1 e2 e3 e4 r1 r2 r3 r4 PR hb0 hR0 m3 m4 hN1 hN2 hRB n1 n2 n3 n4
  have hw1 : IntKind.u8.wrap (N1 : Int) = (N1 : Int) := w8 (by omega) (by omega)
  have hw2 : IntKind.u8.wrap (N2 : Int) = (N2 : Int) := w8 (by omega) (by omega)
  go_enter Try.func10, Try.ntmps10
  go_wp2_with fail
  refine (HPR.out _ HB0.out).mono ?_
  rintro e w1 ⟨rfl, hb1⟩
  have H0 : Hid (Bs w w.heap.size [.int .i64 7, .int .i64 0, .int .i64 0, .int .i64 0, .int .i64 0, .int .i64 0, .slice A1 0 c1, .slice A2 0 c2, .int .i64 0, .slice A3 N1 c3, .slice A4 N2 c4] [] (.slice none 0 0) w1) := Lib.hid ⟨below_then HB0.out hb1, HR0.out.below hb1, Own8.nilRow _ _ _⟩
  have H0d := Lib.hid (H0.out.below (Below.refl _ _).drew)
  clear hb1
  go_wp2_with fail
  refine wp_region_held_drew (S := (fun w' => w'.cell? ⟨w.heap.size, 0, none⟩ = some (.int .i64 7) ∧ w'.cell? ⟨w.heap.size, 1, none⟩ = some (.int .i64 0) ∧ w'.cell? ⟨w.heap.size, 2, none⟩ = some (.int .i64 0) ∧ w'.cell? ⟨w.heap.size, 3, none⟩ = some (.int .i64 0) ∧ w'.cell? ⟨w.heap.size, 4, none⟩ = some (.int .i64 0) ∧ w'.cell? ⟨w.heap.size, 5, none⟩ = some (.int .i64 0) ∧ w'.cell? ⟨w.heap.size, 6, none⟩ = some (.slice A1 0 c1) ∧ w'.cell? ⟨w.heap.size, 7, none⟩ = some (.slice A2 0 c2) ∧ w'.cell? ⟨w.heap.size, 8, none⟩ = some (.int .i64 0) ∧ w'.cell? ⟨w.heap.size, 9, none⟩ = some (.slice A3 N1 c3) ∧ w'.cell? ⟨w.heap.size, 10, none⟩ = some (.slice A4 N2 c4))) (by kernel_rfl) (⟨H0d.out.row.cell (j := 0) rfl, H0d.out.row.cell (j := 1) rfl, H0d.out.row.cell (j := 2) rfl, H0d.out.row.cell (j := 3) rfl, H0d.out.row.cell (j := 4) rfl, H0d.out.row.cell (j := 5) rfl, H0d.out.row.cell (j := 6) rfl, H0d.out.row.cell (j := 7) rfl, H0d.out.row.cell (j := 8) rfl, H0d.out.row.cell (j := 9) rfl, H0d.out.row.cell (j := 10) rfl⟩) (fun hHeld => ?_)
  refine wpAnyH_take (i := 0) (oi := { dst := some 13, op := Op.move (Operand.tmp 4), type := 63, pos := "record.go:139", after := #[], guard := none }) (v := ?va0) rfl (by kernel_rfl) (by kernel_rfl) (by kernel_rfl) (fun _ _ _ h => h) (Or.inl ⟨by rfl, ?ha0⟩) hHeld ?ra0
  case ha0 => ((intro w hSw); (try dsimp only at hSw); go_simp; (try with_reducible rfl))
  (try simp only [Act.put, List.setIfInBounds_toArray, List.set_cons_zero, List.set_cons_succ])
  refine wpAnyH_take (i := 1) (oi := { dst := some 14, op := Op.move (Operand.tmp 4), type := 63, pos := "record.go:139", after := #[], guard := none }) (v := ?va1) rfl (by kernel_rfl) (by kernel_rfl) (by kernel_rfl) (fun _ _ _ h => h) (Or.inl ⟨by rfl, ?ha1⟩) hHeld ?ra1
  case ha1 => ((intro w hSw); (try dsimp only at hSw); go_simp; (try with_reducible rfl))
  (try simp only [Act.put, List.setIfInBounds_toArray, List.set_cons_zero, List.set_cons_succ])
  refine wpAnyH_take (i := 2) (oi := { dst := some 15, op := Op.fieldAddr 26 (Operand.tmp 1) 0, type := 0, pos := "record.go:139", after := #[], guard := none }) (v := ?va2) rfl (by kernel_rfl) (by kernel_rfl) (by kernel_rfl) (fun _ _ _ h => h) (Or.inl ⟨by rfl, ?ha2⟩) hHeld ?ra2
  case ha2 => ((intro w hSw); (try dsimp only at hSw); go_simp; (try with_reducible rfl))
  (try simp only [Act.put, List.setIfInBounds_toArray, List.set_cons_zero, List.set_cons_succ])
  refine wpAnyH_take (i := 3) (oi := { dst := some 16, op := Op.load 3 (Operand.tmp 15), type := 3, pos := "record.go:139", after := #[{ on := 2, ground := Ground.data }], guard := none }) (v := ?va3) rfl (by kernel_rfl) (by kernel_rfl) (by kernel_rfl) (fun _ _ _ h => h) (Or.inl ⟨by rfl, ?ha3⟩) hHeld ?ra3
  case ha3 => ((intro w hSw); (try dsimp only at hSw); go_simp; (try with_reducible rfl))
  (try simp only [Act.put, List.setIfInBounds_toArray, List.set_cons_zero, List.set_cons_succ])
  refine wpAnyH_take (i := 4) (oi := { dst := some 17, op := Op.convert 3 5 (Operand.tmp 16), type := 5, pos := "record.go:139", after := #[{ on := 3, ground := Ground.data }], guard := none }) (v := ?va4) rfl (by kernel_rfl) (by kernel_rfl) (by kernel_rfl) (fun _ _ _ h => h) (Or.inl ⟨by rfl, ?ha4⟩) hHeld ?ra4
  case ha4 => ((intro w hSw); (try dsimp only at hSw); go_simp; (try with_reducible rfl))
  (try simp only [Act.put, List.setIfInBounds_toArray, List.set_cons_zero, List.set_cons_succ])
  refine wpAnyH_take (i := 6) (oi := { dst := some 19, op := Op.fieldAddr 26 (Operand.tmp 1) 1, type := 0, pos := "record.go:139", after := #[], guard := none }) (v := ?va5) rfl (by kernel_rfl) (by kernel_rfl) (by kernel_rfl) (fun _ _ _ h => h) (Or.inl ⟨by rfl, ?ha5⟩) hHeld ?ra5
  case ha5 => ((intro w hSw); (try dsimp only at hSw); go_simp; (try with_reducible rfl))
  (try simp only [Act.put, List.setIfInBounds_toArray, List.set_cons_zero, List.set_cons_succ])
  refine wpAnyH_take (i := 7) (oi := { dst := some 20, op := Op.load 3 (Operand.tmp 19), type := 3, pos := "record.go:139", after := #[{ on := 6, ground := Ground.data }], guard := none }) (v := ?va6) rfl (by kernel_rfl) (by kernel_rfl) (by kernel_rfl) (fun _ _ _ h => h) (Or.inl ⟨by rfl, ?ha6⟩) hHeld ?ra6
  case ha6 => ((intro w hSw); (try dsimp only at hSw); go_simp; (try with_reducible rfl))
  (try simp only [Act.put, List.setIfInBounds_toArray, List.set_cons_zero, List.set_cons_succ])
  refine wpAnyH_take (i := 9) (oi := { dst := some 22, op := Op.fieldAddr 26 (Operand.tmp 1) 2, type := 0, pos := "record.go:139", after := #[], guard := none }) (v := ?va7) rfl (by kernel_rfl) (by kernel_rfl) (by kernel_rfl) (fun _ _ _ h => h) (Or.inl ⟨by rfl, ?ha7⟩) hHeld ?ra7
  case ha7 => ((intro w hSw); (try dsimp only at hSw); go_simp; (try with_reducible rfl))
  (try simp only [Act.put, List.setIfInBounds_toArray, List.set_cons_zero, List.set_cons_succ])
  refine wpAnyH_take (i := 10) (oi := { dst := some 23, op := Op.load 3 (Operand.tmp 22), type := 3, pos := "record.go:139", after := #[{ on := 9, ground := Ground.data }], guard := none }) (v := ?va8) rfl (by kernel_rfl) (by kernel_rfl) (by kernel_rfl) (fun _ _ _ h => h) (Or.inl ⟨by rfl, ?ha8⟩) hHeld ?ra8
  case ha8 => ((intro w hSw); (try dsimp only at hSw); go_simp; (try with_reducible rfl))
  (try simp only [Act.put, List.setIfInBounds_toArray, List.set_cons_zero, List.set_cons_succ])
  refine wpAnyH_ready (rs := [5]) (by kernel_rfl) (by simp) ?_
  refine AllReadyH.cons (o := { dst := some 18, op := Op.call { callee := Callee.value (Operand.func 30), args := #[Operand.const (Value.slice none 0 0), Operand.tmp 17], argTypes := #[22, 5] }, type := 22, pos := "record.go:139", after := #[{ on := 4, ground := Ground.data }], guard := none }) rfl (fun K hK => ?_) AllReadyH.nil
  go_simp
  go_at_call 30
  refine (H0d.out.put1 (7) (by omega) (by omega) (by simp only [List.length_append, nB_length, List.length_nil]; omega)).mono ?_
  rintro e w11 ⟨A11, n11, c11, rfl, hS⟩
  have H11 := Lib.hid hS
  clear hS
  try go_wp2_with fail
  refine hK.out _ _ ?_ (fun hHeld => ?_)
  · exact ⟨H11.out.row.cell (j := 0) rfl, H11.out.row.cell (j := 1) rfl, H11.out.row.cell (j := 2) rfl, H11.out.row.cell (j := 3) rfl, H11.out.row.cell (j := 4) rfl, H11.out.row.cell (j := 5) rfl, H11.out.row.cell (j := 6) rfl, H11.out.row.cell (j := 7) rfl, H11.out.row.cell (j := 8) rfl, H11.out.row.cell (j := 9) rfl, H11.out.row.cell (j := 10) rfl⟩
  clear hK K
  (try simp only [Act.put, List.setIfInBounds_toArray, List.set_cons_zero, List.set_cons_succ])
  refine wpAnyH_ready (rs := [8]) (by kernel_rfl) (by simp) ?_
  refine AllReadyH.cons (o := { dst := some 21, op := Op.call { callee := Callee.value (Operand.tmp 14), args := #[Operand.tmp 18, Operand.tmp 20], argTypes := #[22, 3] }, type := 22, pos := "record.go:139", after := #[{ on := 1, ground := Ground.data }, { on := 5, ground := Ground.data }, { on := 7, ground := Ground.data }, { on := 5, ground := Ground.chain }], guard := none }) rfl (fun K hK => ?_) AllReadyH.nil
  go_simp
  refine (H11.out.put8 (0) (by omega) (by omega) (by simp only [List.length_append, nB_length, List.length_nil]; omega)).mono ?_
  rintro e w12 ⟨A12, n12, c12, rfl, hS⟩
  have H12 := Lib.hid hS
  clear hS
  try go_wp2_with fail
  refine hK.out _ _ ?_ (fun hHeld => ?_)
  · exact ⟨H12.out.row.cell (j := 0) rfl, H12.out.row.cell (j := 1) rfl, H12.out.row.cell (j := 2) rfl, H12.out.row.cell (j := 3) rfl, H12.out.row.cell (j := 4) rfl, H12.out.row.cell (j := 5) rfl, H12.out.row.cell (j := 6) rfl, H12.out.row.cell (j := 7) rfl, H12.out.row.cell (j := 8) rfl, H12.out.row.cell (j := 9) rfl, H12.out.row.cell (j := 10) rfl⟩
  clear hK K
  (try simp only [Act.put, List.setIfInBounds_toArray, List.set_cons_zero, List.set_cons_succ])
  refine wpAnyH_ready (rs := [11]) (by kernel_rfl) (by simp) ?_
  refine AllReadyH.cons (o := { dst := some 24, op := Op.call { callee := Callee.value (Operand.tmp 13), args := #[Operand.tmp 21, Operand.tmp 23], argTypes := #[22, 3] }, type := 22, pos := "record.go:139", after := #[{ on := 0, ground := Ground.data }, { on := 8, ground := Ground.data }, { on := 10, ground := Ground.data }, { on := 8, ground := Ground.chain }], guard := none }) rfl (fun K hK => ?_) AllReadyH.nil
  go_simp
  refine (H12.out.put8 (0) (by omega) (by omega) (by simp only [List.length_append, nB_length, List.length_nil]; omega)).mono ?_
  rintro e w13 ⟨A13, n13, c13, rfl, hS⟩
  have H13 := Lib.hid hS
  clear hS
  try go_wp2_with fail
  refine hK.out _ _ ?_ (fun hHeld => ?_)
  · exact ⟨H13.out.row.cell (j := 0) rfl, H13.out.row.cell (j := 1) rfl, H13.out.row.cell (j := 2) rfl, H13.out.row.cell (j := 3) rfl, H13.out.row.cell (j := 4) rfl, H13.out.row.cell (j := 5) rfl, H13.out.row.cell (j := 6) rfl, H13.out.row.cell (j := 7) rfl, H13.out.row.cell (j := 8) rfl, H13.out.row.cell (j := 9) rfl, H13.out.row.cell (j := 10) rfl⟩
  clear hK K
  (try simp only [Act.put, List.setIfInBounds_toArray, List.set_cons_zero, List.set_cons_succ])
  refine wpAnyH_take (i := 12) (oi := { dst := some 5, op := Op.assign (Operand.tmp 24), type := 22, pos := "record.go:139", after := #[{ on := 11, ground := Ground.data }, { on := 11, ground := Ground.chain }, { on := 0, ground := Ground.phase }, { on := 1, ground := Ground.phase }, { on := 2, ground := Ground.phase }, { on := 3, ground := Ground.phase }, { on := 4, ground := Ground.phase }, { on := 5, ground := Ground.phase }, { on := 6, ground := Ground.phase }, { on := 7, ground := Ground.phase }, { on := 8, ground := Ground.phase }, { on := 9, ground := Ground.phase }, { on := 10, ground := Ground.phase }, { on := 11, ground := Ground.phase }], guard := none }) (v := ?va9) rfl (by kernel_rfl) (by kernel_rfl) (by kernel_rfl) (fun _ _ _ h => h) (Or.inl ⟨by rfl, ?ha9⟩) hHeld ?ra9
  case ha9 => ((intro w hSw); (try dsimp only at hSw); go_simp; (try with_reducible rfl))
  (try simp only [Act.put, List.setIfInBounds_toArray, List.set_cons_zero, List.set_cons_succ])
  refine wpAnyH_done (by kernel_rfl) ?_ _
  skip
  have d0 := H13.out.row.cell (j := 0) rfl
  have d1 := H13.out.row.cell (j := 1) rfl
  have d2 := H13.out.row.cell (j := 2) rfl
  have d3 := H13.out.row.cell (j := 3) rfl
  have d4 := H13.out.row.cell (j := 4) rfl
  have d5 := H13.out.row.cell (j := 5) rfl
  have d6 := H13.out.row.cell (j := 6) rfl
  have d7 := H13.out.row.cell (j := 7) rfl
  have d8 := H13.out.row.cell (j := 8) rfl
  have d9 := H13.out.row.cell (j := 9) rfl
  have d10 := H13.out.row.cell (j := 10) rfl
  go_wp2_with fail
  refine (H13.out.put1 (N1 : Int) (by omega) (by omega) (by simp only [List.length_append, nB_length, List.length_nil]; omega)).mono ?_
  rintro e w14 ⟨A14, n14, c14, rfl, hS⟩
  obtain ⟨pre, hpre⟩ : ∃ p, ((([] ++ nB 1 7) ++ nB 8 0) ++ nB 8 0) ++ nB 1 (N1 : Int) = p := ⟨_, rfl⟩
  rw [hpre] at hS
  have H14 := Lib.hid hS
  have HPL : pre.length = 18 := by rw [← hpre]; simp
  have HPRE := Lib.hid hpre
  clear hS hpre d0 d1 d2 d3 d4 d5 d6 d7 d8 d9 d10
  have d0 := H14.out.row.cell (j := 0) rfl
  have d1 := H14.out.row.cell (j := 1) rfl
  have d2 := H14.out.row.cell (j := 2) rfl
  have d3 := H14.out.row.cell (j := 3) rfl
  have d4 := H14.out.row.cell (j := 4) rfl
  have d5 := H14.out.row.cell (j := 5) rfl
  have d6 := H14.out.row.cell (j := 6) rfl
  have d7 := H14.out.row.cell (j := 7) rfl
  have d8 := H14.out.row.cell (j := 8) rfl
  have d9 := H14.out.row.cell (j := 9) rfl
  have d10 := H14.out.row.cell (j := 10) rfl
  go_wp2_with fail
  clear d0 d1 d2 d3 d4 d5 d6 d7 d8 d9 d10
  go_loopw [5, 77] (fun lv iv wr => ∃ (k : Nat) (A : Option Addr) (n c : Nat), k ≤ N1 ∧ iv = .int .i64 k ∧ lv = .slice A n c ∧ Bs w w.heap.size [.int .i64 7, .int .i64 0, .int .i64 0, .int .i64 0, .int .i64 0, .int .i64 0, .slice A1 0 c1, .slice A2 0 c2, .int .i64 0, .slice A3 N1 c3, .slice A4 N2 c4] (pre ++ cat ((rows.take k).map row9L)) (.slice A n c) wr) (fun _ i _ => N1 - (intOf i).toNat)
  case atStart => exact ⟨0, A14, n14, c14, by omega, rfl, rfl, bs_eq H14.out (by simp [cat])⟩
  case round =>
    obtain ⟨k, A, n, c, hk, rfl, rfl, hrel⟩ := hrel
    have HRel := Lib.hid hrel
    have hg1 := G1.out k
    clear hrel
    by_cases hlt : k < N1
    · obtain ⟨x, hx⟩ : ∃ x, rows[k]? = some x := ⟨rows[k]'(by rw [HN1.out]; exact hlt), by simp [HN1.out, hlt]⟩
      obtain ⟨g, o, rfl, hat⟩ := row9_at (HQ3.out.below keeps_row9 HRel.out.low) hx
      have HXB := Lib.hid (M3.out x (List.mem_of_getElem? hx))
      have HNX := Lib.hid (cat_take_map (f := row9L) rows hx)
      obtain ⟨xa, xb, xc, xd, xe⟩ := x
      have u0c := hat.c0
      have u1c := hat.c1
      have u2c := hat.c2
      have u3c := hat.c3
      have u4c := hat.c4
      dsimp only at u0c u1c u2c u3c u4c
      have q1 : (0 : Int) ≤ (k : Int) := by omega
      have q2 : (k : Int) < (N1 : Int) := by omega
      obtain ⟨⟨a1, a2⟩, ⟨b1, b2⟩, b3, ⟨f1, f2⟩, f3, f4⟩ := (rowB9_iff _).1 HXB.out
      dsimp only at a1 a2 b1 b2 b3 f1 f2 f3 f4
      have HE : Hid (Be w w.heap.size [.int .i64 7, .int .i64 0, .int .i64 0, .int .i64 0, .int .i64 0, .int .i64 0, .slice A1 0 c1, .slice A2 0 c2, .int .i64 0, .slice (some ⟨g, o, none⟩) N1 c3, .slice A4 N2 c4] wr.heap.size 58 [.int .i64 xa, .int .i64 xb, .int .i64 xc, .int .i64 xd, .int .i64 xe] (pre ++ cat ((rows.take k).map row9L)) (.slice A n c) (wr.alloc (.cells #[.int .i64 xa, .int .i64 xb, .int .i64 xc, .int .i64 xd, .int .i64 xe] 58))) := Lib.hid ⟨HRel.out.below ((Below.refl _ _).alloc (Nat.le_refl _) _), heap_alloc_new wr _⟩
      have H20d := Lib.hid (HE.out.below (Below.refl _ _).drew)
      have hv1 : IntKind.u8.wrap xb = xb := w8 (by omega) (by omega)
      have hv2 : IntKind.u8.wrap xc = xc := w8 (by omega) (by omega)
      clear hat hx HE
      go_wp2_with fail
      refine wp_region_held_drew (S := (fun w' => w'.cell? ⟨wr.heap.size, 0, none⟩ = some (.int .i64 xa) ∧ w'.cell? ⟨wr.heap.size, 1, none⟩ = some (.int .i64 xb) ∧ w'.cell? ⟨wr.heap.size, 2, none⟩ = some (.int .i64 xc) ∧ w'.cell? ⟨wr.heap.size, 3, none⟩ = some (.int .i64 xd) ∧ w'.cell? ⟨wr.heap.size, 4, none⟩ = some (.int .i64 xe))) (by kernel_rfl) (⟨H20d.out.el.cell (j := 0) rfl, H20d.out.el.cell (j := 1) rfl, H20d.out.el.cell (j := 2) rfl, H20d.out.el.cell (j := 3) rfl, H20d.out.el.cell (j := 4) rfl⟩) (fun hHeld => ?_)
      refine wpAnyH_take (i := 0) (oi := { dst := some 81, op := Op.move (Operand.tmp 4), type := 63, pos := "record.go:152", after := #[], guard := none }) (v := ?vb0) rfl (by kernel_rfl) (by kernel_rfl) (by kernel_rfl) (fun _ _ _ h => h) (Or.inl ⟨by rfl, ?hb0⟩) hHeld ?rb0
      case hb0 => ((intro w hSw); (try dsimp only at hSw); go_simp; (try with_reducible rfl))
      (try simp only [Act.put, List.setIfInBounds_toArray, List.set_cons_zero, List.set_cons_succ])
      refine wpAnyH_take (i := 1) (oi := { dst := some 82, op := Op.move (Operand.tmp 4), type := 63, pos := "record.go:152", after := #[], guard := none }) (v := ?vb1) rfl (by kernel_rfl) (by kernel_rfl) (by kernel_rfl) (fun _ _ _ h => h) (Or.inl ⟨by rfl, ?hb1⟩) hHeld ?rb1
      case hb1 => ((intro w hSw); (try dsimp only at hSw); go_simp; (try with_reducible rfl))
      (try simp only [Act.put, List.setIfInBounds_toArray, List.set_cons_zero, List.set_cons_succ])
      refine wpAnyH_take (i := 2) (oi := { dst := some 83, op := Op.move (Operand.tmp 4), type := 63, pos := "record.go:152", after := #[], guard := none }) (v := ?vb2) rfl (by kernel_rfl) (by kernel_rfl) (by kernel_rfl) (fun _ _ _ h => h) (Or.inl ⟨by rfl, ?hb2⟩) hHeld ?rb2
      case hb2 => ((intro w hSw); (try dsimp only at hSw); go_simp; (try with_reducible rfl))
      (try simp only [Act.put, List.setIfInBounds_toArray, List.set_cons_zero, List.set_cons_succ])
      refine wpAnyH_take (i := 3) (oi := { dst := some 84, op := Op.move (Operand.tmp 5), type := 22, pos := "record.go:152", after := #[], guard := none }) (v := ?vb3) rfl (by kernel_rfl) (by kernel_rfl) (by kernel_rfl) (fun _ _ _ h => h) (Or.inl ⟨by rfl, ?hb3⟩) hHeld ?rb3
      case hb3 => ((intro w hSw); (try dsimp only at hSw); go_simp; (try with_reducible rfl))
      (try simp only [Act.put, List.setIfInBounds_toArray, List.set_cons_zero, List.set_cons_succ])
      refine wpAnyH_take (i := 4) (oi := { dst := some 85, op := Op.fieldAddr 58 (Operand.tmp 7) 0, type := 0, pos := "record.go:152", after := #[], guard := none }) (v := ?vb4) rfl (by kernel_rfl) (by kernel_rfl) (by kernel_rfl) (fun _ _ _ h => h) (Or.inl ⟨by rfl, ?hb4⟩) hHeld ?rb4
      case hb4 => ((intro w hSw); (try dsimp only at hSw); go_simp; (try with_reducible rfl))
      (try simp only [Act.put, List.setIfInBounds_toArray, List.set_cons_zero, List.set_cons_succ])
      refine wpAnyH_take (i := 5) (oi := { dst := some 86, op := Op.load 3 (Operand.tmp 85), type := 3, pos := "record.go:152", after := #[{ on := 4, ground := Ground.data }], guard := none }) (v := ?vb5) rfl (by kernel_rfl) (by kernel_rfl) (by kernel_rfl) (fun _ _ _ h => h) (Or.inl ⟨by rfl, ?hb5⟩) hHeld ?rb5
      case hb5 => ((intro w hSw); (try dsimp only at hSw); go_simp; (try with_reducible rfl))
      (try simp only [Act.put, List.setIfInBounds_toArray, List.set_cons_zero, List.set_cons_succ])
      refine wpAnyH_take (i := 7) (oi := { dst := some 88, op := Op.fieldAddr 58 (Operand.tmp 7) 1, type := 0, pos := "record.go:152", after := #[], guard := none }) (v := ?vb6) rfl (by kernel_rfl) (by kernel_rfl) (by kernel_rfl) (fun _ _ _ h => h) (Or.inl ⟨by rfl, ?hb6⟩) hHeld ?rb6
      case hb6 => ((intro w hSw); (try dsimp only at hSw); go_simp; (try with_reducible rfl))
      (try simp only [Act.put, List.setIfInBounds_toArray, List.set_cons_zero, List.set_cons_succ])
      refine wpAnyH_take (i := 8) (oi := { dst := some 89, op := Op.load 3 (Operand.tmp 88), type := 3, pos := "record.go:152", after := #[{ on := 7, ground := Ground.data }], guard := none }) (v := ?vb7) rfl (by kernel_rfl) (by kernel_rfl) (by kernel_rfl) (fun _ _ _ h => h) (Or.inl ⟨by rfl, ?hb7⟩) hHeld ?rb7
      case hb7 => ((intro w hSw); (try dsimp only at hSw); go_simp; (try with_reducible rfl))
      (try simp only [Act.put, List.setIfInBounds_toArray, List.set_cons_zero, List.set_cons_succ])
      refine wpAnyH_take (i := 9) (oi := { dst := some 90, op := Op.convert 3 5 (Operand.tmp 89), type := 5, pos := "record.go:152", after := #[{ on := 8, ground := Ground.data }], guard := none }) (v := ?vb8) rfl (by kernel_rfl) (by kernel_rfl) (by kernel_rfl) (fun _ _ _ h => h) (Or.inl ⟨by rfl, ?hb8⟩) hHeld ?rb8
      case hb8 => ((intro w hSw); (try dsimp only at hSw); go_simp; (try with_reducible rfl))
      (try simp only [Act.put, List.setIfInBounds_toArray, List.set_cons_zero, List.set_cons_succ])
      refine wpAnyH_take (i := 11) (oi := { dst := some 92, op := Op.fieldAddr 58 (Operand.tmp 7) 2, type := 0, pos := "record.go:152", after := #[], guard := none }) (v := ?vb9) rfl (by kernel_rfl) (by kernel_rfl) (by kernel_rfl) (fun _ _ _ h => h) (Or.inl ⟨by rfl, ?hb9⟩) hHeld ?rb9
      case hb9 => ((intro w hSw); (try dsimp only at hSw); go_simp; (try with_reducible rfl))
      (try simp only [Act.put, List.setIfInBounds_toArray, List.set_cons_zero, List.set_cons_succ])
      refine wpAnyH_take (i := 12) (oi := { dst := some 93, op := Op.load 3 (Operand.tmp 92), type := 3, pos := "record.go:152", after := #[{ on := 11, ground := Ground.data }], guard := none }) (v := ?vb10) rfl (by kernel_rfl) (by kernel_rfl) (by kernel_rfl) (fun _ _ _ h => h) (Or.inl ⟨by rfl, ?hb10⟩) hHeld ?rb10
      case hb10 => ((intro w hSw); (try dsimp only at hSw); go_simp; (try with_reducible rfl))
      (try simp only [Act.put, List.setIfInBounds_toArray, List.set_cons_zero, List.set_cons_succ])
      refine wpAnyH_take (i := 13) (oi := { dst := some 94, op := Op.convert 3 5 (Operand.tmp 93), type := 5, pos := "record.go:152", after := #[{ on := 12, ground := Ground.data }], guard := none }) (v := ?vb11) rfl (by kernel_rfl) (by kernel_rfl) (by kernel_rfl) (fun _ _ _ h => h) (Or.inl ⟨by rfl, ?hb11⟩) hHeld ?rb11
      case hb11 => ((intro w hSw); (try dsimp only at hSw); go_simp; (try with_reducible rfl))
      (try simp only [Act.put, List.setIfInBounds_toArray, List.set_cons_zero, List.set_cons_succ])
      refine wpAnyH_take (i := 15) (oi := { dst := some 96, op := Op.fieldAddr 58 (Operand.tmp 7) 3, type := 0, pos := "record.go:152", after := #[], guard := none }) (v := ?vb12) rfl (by kernel_rfl) (by kernel_rfl) (by kernel_rfl) (fun _ _ _ h => h) (Or.inl ⟨by rfl, ?hb12⟩) hHeld ?rb12
      case hb12 => ((intro w hSw); (try dsimp only at hSw); go_simp; (try with_reducible rfl))
      (try simp only [Act.put, List.setIfInBounds_toArray, List.set_cons_zero, List.set_cons_succ])
      refine wpAnyH_take (i := 16) (oi := { dst := some 97, op := Op.load 3 (Operand.tmp 96), type := 3, pos := "record.go:152", after := #[{ on := 15, ground := Ground.data }], guard := none }) (v := ?vb13) rfl (by kernel_rfl) (by kernel_rfl) (by kernel_rfl) (fun _ _ _ h => h) (Or.inl ⟨by rfl, ?hb13⟩) hHeld ?rb13
      case hb13 => ((intro w hSw); (try dsimp only at hSw); go_simp; (try with_reducible rfl))
      (try simp only [Act.put, List.setIfInBounds_toArray, List.set_cons_zero, List.set_cons_succ])
      refine wpAnyH_take (i := 18) (oi := { dst := some 99, op := Op.fieldAddr 58 (Operand.tmp 7) 4, type := 0, pos := "record.go:152", after := #[], guard := none }) (v := ?vb14) rfl (by kernel_rfl) (by kernel_rfl) (by kernel_rfl) (fun _ _ _ h => h) (Or.inl ⟨by rfl, ?hb14⟩) hHeld ?rb14
      case hb14 => ((intro w hSw); (try dsimp only at hSw); go_simp; (try with_reducible rfl))
      (try simp only [Act.put, List.setIfInBounds_toArray, List.set_cons_zero, List.set_cons_succ])
      refine wpAnyH_take (i := 19) (oi := { dst := some 100, op := Op.load 3 (Operand.tmp 99), type := 3, pos := "record.go:152", after := #[{ on := 18, ground := Ground.data }], guard := none }) (v := ?vb15) rfl (by kernel_rfl) (by kernel_rfl) (by kernel_rfl) (fun _ _ _ h => h) (Or.inl ⟨by rfl, ?hb15⟩) hHeld ?rb15
      case hb15 => ((intro w hSw); (try dsimp only at hSw); go_simp; (try with_reducible rfl))
      (try simp only [Act.put, List.setIfInBounds_toArray, List.set_cons_zero, List.set_cons_succ])
      refine wpAnyH_ready (rs := [6]) (by kernel_rfl) (by simp) ?_
      refine AllReadyH.cons (o := { dst := some 87, op := Op.call { callee := Callee.value (Operand.tmp 83), args := #[Operand.tmp 84, Operand.tmp 86], argTypes := #[22, 3] }, type := 22, pos := "record.go:152", after := #[{ on := 2, ground := Ground.data }, { on := 3, ground := Ground.data }, { on := 5, ground := Ground.data }], guard := none }) rfl (fun K hK => ?_) AllReadyH.nil
      go_simp
      refine (H20d.out.put8 xa (by omega) (by omega) (by simp only [List.length_append, nB_length]; omega)).mono ?_
      rintro e w21 ⟨A21, n21, c21, rfl, hS⟩
      have H21 := Lib.hid hS
      clear hS
      try go_wp2_with fail
      refine hK.out _ _ ?_ (fun hHeld => ?_)
      · exact ⟨H21.out.el.cell (j := 0) rfl, H21.out.el.cell (j := 1) rfl, H21.out.el.cell (j := 2) rfl, H21.out.el.cell (j := 3) rfl, H21.out.el.cell (j := 4) rfl⟩
      clear hK K
      (try simp only [Act.put, List.setIfInBounds_toArray, List.set_cons_zero, List.set_cons_succ])
      refine wpAnyH_ready (rs := [10]) (by kernel_rfl) (by simp) ?_
      refine AllReadyH.cons (o := { dst := some 91, op := Op.call { callee := Callee.value (Operand.func 30), args := #[Operand.tmp 87, Operand.tmp 90], argTypes := #[22, 5] }, type := 22, pos := "record.go:152", after := #[{ on := 6, ground := Ground.data }, { on := 9, ground := Ground.data }, { on := 6, ground := Ground.chain }], guard := none }) rfl (fun K hK => ?_) AllReadyH.nil
      go_simp
      go_at_call 30
      refine (H21.out.put1 xb (by omega) (by omega) (by simp only [List.length_append, nB_length]; omega)).mono ?_
      rintro e w22 ⟨A22, n22, c22, rfl, hS⟩
      have H22 := Lib.hid hS
      clear hS
      try go_wp2_with fail
      refine hK.out _ _ ?_ (fun hHeld => ?_)
      · exact ⟨H22.out.el.cell (j := 0) rfl, H22.out.el.cell (j := 1) rfl, H22.out.el.cell (j := 2) rfl, H22.out.el.cell (j := 3) rfl, H22.out.el.cell (j := 4) rfl⟩
      clear hK K
      (try simp only [Act.put, List.setIfInBounds_toArray, List.set_cons_zero, List.set_cons_succ])
      refine wpAnyH_ready (rs := [14]) (by kernel_rfl) (by simp) ?_
      refine AllReadyH.cons (o := { dst := some 95, op := Op.call { callee := Callee.value (Operand.func 30), args := #[Operand.tmp 91, Operand.tmp 94], argTypes := #[22, 5] }, type := 22, pos := "record.go:152", after := #[{ on := 10, ground := Ground.data }, { on := 13, ground := Ground.data }, { on := 10, ground := Ground.chain }], guard := none }) rfl (fun K hK => ?_) AllReadyH.nil
      go_simp
      go_at_call 30
      refine (H22.out.put1 xc (by omega) (by omega) (by simp only [List.length_append, nB_length]; omega)).mono ?_
      rintro e w23 ⟨A23, n23, c23, rfl, hS⟩
      have H23 := Lib.hid hS
      clear hS
      try go_wp2_with fail
      refine hK.out _ _ ?_ (fun hHeld => ?_)
      · exact ⟨H23.out.el.cell (j := 0) rfl, H23.out.el.cell (j := 1) rfl, H23.out.el.cell (j := 2) rfl, H23.out.el.cell (j := 3) rfl, H23.out.el.cell (j := 4) rfl⟩
      clear hK K
      (try simp only [Act.put, List.setIfInBounds_toArray, List.set_cons_zero, List.set_cons_succ])
      refine wpAnyH_ready (rs := [17]) (by kernel_rfl) (by simp) ?_
      refine AllReadyH.cons (o := { dst := some 98, op := Op.call { callee := Callee.value (Operand.tmp 82), args := #[Operand.tmp 95, Operand.tmp 97], argTypes := #[22, 3] }, type := 22, pos := "record.go:152", after := #[{ on := 1, ground := Ground.data }, { on := 14, ground := Ground.data }, { on := 16, ground := Ground.data }, { on := 14, ground := Ground.chain }], guard := none }) rfl (fun K hK => ?_) AllReadyH.nil
      go_simp
      refine (H23.out.put8 xd (by omega) (by omega) (by simp only [List.length_append, nB_length]; omega)).mono ?_
      rintro e w24 ⟨A24, n24, c24, rfl, hS⟩
      have H24 := Lib.hid hS
      clear hS
      try go_wp2_with fail
      refine hK.out _ _ ?_ (fun hHeld => ?_)
      · exact ⟨H24.out.el.cell (j := 0) rfl, H24.out.el.cell (j := 1) rfl, H24.out.el.cell (j := 2) rfl, H24.out.el.cell (j := 3) rfl, H24.out.el.cell (j := 4) rfl⟩
      clear hK K
      (try simp only [Act.put, List.setIfInBounds_toArray, List.set_cons_zero, List.set_cons_succ])
      refine wpAnyH_ready (rs := [20]) (by kernel_rfl) (by simp) ?_
      refine AllReadyH.cons (o := { dst := some 101, op := Op.call { callee := Callee.value (Operand.tmp 81), args := #[Operand.tmp 98, Operand.tmp 100], argTypes := #[22, 3] }, type := 22, pos := "record.go:152", after := #[{ on := 0, ground := Ground.data }, { on := 17, ground := Ground.data }, { on := 19, ground := Ground.data }, { on := 17, ground := Ground.chain }], guard := none }) rfl (fun K hK => ?_) AllReadyH.nil
      go_simp
      refine (H24.out.put8 xe (by omega) (by omega) (by simp only [List.length_append, nB_length]; omega)).mono ?_
      rintro e w25 ⟨A25, n25, c25, rfl, hS⟩
      have H25 := Lib.hid hS
      clear hS
      try go_wp2_with fail
      refine hK.out _ _ ?_ (fun hHeld => ?_)
      · exact ⟨H25.out.el.cell (j := 0) rfl, H25.out.el.cell (j := 1) rfl, H25.out.el.cell (j := 2) rfl, H25.out.el.cell (j := 3) rfl, H25.out.el.cell (j := 4) rfl⟩
      clear hK K
      (try simp only [Act.put, List.setIfInBounds_toArray, List.set_cons_zero, List.set_cons_succ])
      refine wpAnyH_take (i := 21) (oi := { dst := some 5, op := Op.assign (Operand.tmp 101), type := 22, pos := "record.go:152", after := #[{ on := 20, ground := Ground.data }, { on := 20, ground := Ground.chain }, { on := 0, ground := Ground.phase }, { on := 1, ground := Ground.phase }, { on := 2, ground := Ground.phase }, { on := 3, ground := Ground.phase }, { on := 4, ground := Ground.phase }, { on := 5, ground := Ground.phase }, { on := 6, ground := Ground.phase }, { on := 7, ground := Ground.phase }, { on := 8, ground := Ground.phase }, { on := 9, ground := Ground.phase }, { on := 10, ground := Ground.phase }, { on := 11, ground := Ground.phase }, { on := 12, ground := Ground.phase }, { on := 13, ground := Ground.phase }, { on := 14, ground := Ground.phase }, { on := 15, ground := Ground.phase }, { on := 16, ground := Ground.phase }, { on := 17, ground := Ground.phase }, { on := 18, ground := Ground.phase }, { on := 19, ground := Ground.phase }, { on := 20, ground := Ground.phase }], guard := none }) (v := ?vb16) rfl (by kernel_rfl) (by kernel_rfl) (by kernel_rfl) (fun _ _ _ h => h) (Or.inl ⟨by rfl, ?hb16⟩) hHeld ?rb16
      case hb16 => ((intro w hSw); (try dsimp only at hSw); go_simp; (try with_reducible rfl))
      (try simp only [Act.put, List.setIfInBounds_toArray, List.set_cons_zero, List.set_cons_succ])
      refine wpAnyH_done (by kernel_rfl) ?_ _
      skip
      go_wp2_with fail
      go_roundw
      case rel => exact ⟨k + 1, A25, n25, c25, by omega, by go_num, rfl, bs_eq H25.out.bs (by rw [HNX.out]; try simp [row9L])⟩
      case measure => simp [intOf]; omega
    · have hkk : k = N1 := by omega
      subst hkk
      obtain ⟨pre2, hpre⟩ : ∃ p, pre ++ cat ((rows.take k).map row9L) = p := ⟨_, rfl⟩
      rw [hpre] at HRel
      have HPL2 : pre2.length ≤ 18 + 26 * k := by rw [← hpre, List.length_append]; omega
      have HPRE2 := Lib.hid hpre
      clear hpre
      have d0 := HRel.out.row.cell (j := 0) rfl
      have d1 := HRel.out.row.cell (j := 1) rfl
      have d2 := HRel.out.row.cell (j := 2) rfl
      have d3 := HRel.out.row.cell (j := 3) rfl
      have d4 := HRel.out.row.cell (j := 4) rfl
      have d5 := HRel.out.row.cell (j := 5) rfl
      have d6 := HRel.out.row.cell (j := 6) rfl
      have d7 := HRel.out.row.cell (j := 7) rfl
      have d8 := HRel.out.row.cell (j := 8) rfl
      have d9 := HRel.out.row.cell (j := 9) rfl
      have d10 := HRel.out.row.cell (j := 10) rfl
      go_wp2_with fail
      refine (HRel.out.put1 (N2 : Int) (by omega) (by omega) (by omega)).mono ?_
      rintro e w31 ⟨A31, n31, c31, rfl, hS⟩
      have H31 := Lib.hid hS
      clear hS d0 d1 d2 d3 d4 d5 d6 d7 d8 d9 d10
      have d0 := H31.out.row.cell (j := 0) rfl
      have d1 := H31.out.row.cell (j := 1) rfl
      have d2 := H31.out.row.cell (j := 2) rfl
      have d3 := H31.out.row.cell (j := 3) rfl
      have d4 := H31.out.row.cell (j := 4) rfl
      have d5 := H31.out.row.cell (j := 5) rfl
      have d6 := H31.out.row.cell (j := 6) rfl
      have d7 := H31.out.row.cell (j := 7) rfl
      have d8 := H31.out.row.cell (j := 8) rfl
      have d9 := H31.out.row.cell (j := 9) rfl
      have d10 := H31.out.row.cell (j := 10) rfl
      go_wp2_with fail
      clear d0 d1 d2 d3 d4 d5 d6 d7 d8 d9 d10
      obtain ⟨pre3, hpre⟩ : ∃ p, pre2 ++ nB 1 (N2 : Int) = p := ⟨_, rfl⟩
      rw [hpre] at H31
      have HPL3 : pre3.length ≤ 19 + 26 * k := by rw [← hpre, List.length_append, nB_length]; omega
      have HPRE3 := Lib.hid hpre
      clear hpre
      go_loopw [5, 112] (fun lv iv wr => ∃ (m : Nat) (A : Option Addr) (n c : Nat), m ≤ N2 ∧ iv = .int .i64 m ∧ lv = .slice A n c ∧ Bs w w.heap.size [.int .i64 7, .int .i64 0, .int .i64 0, .int .i64 0, .int .i64 0, .int .i64 0, .slice A1 0 c1, .slice A2 0 c2, .int .i64 0, .slice A3 k c3, .slice A4 N2 c4] (pre3 ++ cat ((dirty.take m).map dirtL)) (.slice A n c) wr) (fun _ i _ => N2 - (intOf i).toNat)
      case atStart => exact ⟨0, A31, n31, c31, by omega, rfl, rfl, bs_eq H31.out (by simp [cat])⟩
      case round =>
        obtain ⟨m, A, n, c, hm, rfl, rfl, hrel⟩ := hrel
        have HRel2 := Lib.hid hrel
        have hg2 := G2.out m
        clear hrel
        by_cases hlt2 : m < N2
        · obtain ⟨x, hx⟩ : ∃ x, dirty[m]? = some x := ⟨dirty[m]'(by rw [HN2.out]; exact hlt2), by simp [HN2.out, hlt2]⟩
          obtain ⟨g, o, rfl, hat⟩ := dirt_at (HQ4.out.below keeps_dirt HRel2.out.low) hx
          have HXB := Lib.hid (M4.out x (List.mem_of_getElem? hx))
          have HNX := Lib.hid (cat_take_map (f := dirtL) dirty hx)
          obtain ⟨xa, xb⟩ := x
          have u0c := hat.c0
          have u1c := hat.c1
          dsimp only at u0c u1c
          have q1 : (0 : Int) ≤ (m : Int) := by omega
          have q2 : (m : Int) < (N2 : Int) := by omega
          obtain ⟨⟨a1, a2⟩, b1, b2⟩ := (dirtB1_iff _).1 HXB.out
          dsimp only at a1 a2 b1 b2
          have HE : Hid (Be w w.heap.size [.int .i64 7, .int .i64 0, .int .i64 0, .int .i64 0, .int .i64 0, .int .i64 0, .slice A1 0 c1, .slice A2 0 c2, .int .i64 0, .slice A3 k c3, .slice (some ⟨g, o, none⟩) N2 c4] wr.heap.size 60 [.int .i64 xa, .int .i64 xb] (pre3 ++ cat ((dirty.take m).map dirtL)) (.slice A n c) (wr.alloc (.cells #[.int .i64 xa, .int .i64 xb] 60))) := Lib.hid ⟨HRel2.out.below ((Below.refl _ _).alloc (Nat.le_refl _) _), heap_alloc_new wr _⟩
          have H40d := Lib.hid (HE.out.below (Below.refl _ _).drew)
          have hv1 : IntKind.u8.wrap xa = xa := w8 (by omega) (by omega)
          clear hat hx HE
          go_wp2_with fail
          refine wp_region_held_drew (S := (fun w' => w'.cell? ⟨wr.heap.size, 0, none⟩ = some (.int .i64 xa) ∧ w'.cell? ⟨wr.heap.size, 1, none⟩ = some (.int .i64 xb))) (by kernel_rfl) (⟨H40d.out.el.cell (j := 0) rfl, H40d.out.el.cell (j := 1) rfl⟩) (fun hHeld => ?_)
          refine wpAnyH_take (i := 0) (oi := { dst := some 116, op := Op.move (Operand.tmp 4), type := 63, pos := "record.go:156", after := #[], guard := none }) (v := ?vc0) rfl (by kernel_rfl) (by kernel_rfl) (by kernel_rfl) (fun _ _ _ h => h) (Or.inl ⟨by rfl, ?hc0⟩) hHeld ?rc0
          case hc0 => ((intro w hSw); (try dsimp only at hSw); go_simp; (try with_reducible rfl))
          (try simp only [Act.put, List.setIfInBounds_toArray, List.set_cons_zero, List.set_cons_succ])
          refine wpAnyH_take (i := 1) (oi := { dst := some 117, op := Op.move (Operand.tmp 5), type := 22, pos := "record.go:156", after := #[], guard := none }) (v := ?vc1) rfl (by kernel_rfl) (by kernel_rfl) (by kernel_rfl) (fun _ _ _ h => h) (Or.inl ⟨by rfl, ?hc1⟩) hHeld ?rc1
          case hc1 => ((intro w hSw); (try dsimp only at hSw); go_simp; (try with_reducible rfl))
          (try simp only [Act.put, List.setIfInBounds_toArray, List.set_cons_zero, List.set_cons_succ])
          refine wpAnyH_take (i := 2) (oi := { dst := some 118, op := Op.fieldAddr 60 (Operand.tmp 9) 0, type := 0, pos := "record.go:156", after := #[], guard := none }) (v := ?vc2) rfl (by kernel_rfl) (by kernel_rfl) (by kernel_rfl) (fun _ _ _ h => h) (Or.inl ⟨by rfl, ?hc2⟩) hHeld ?rc2
          case hc2 => ((intro w hSw); (try dsimp only at hSw); go_simp; (try with_reducible rfl))
          (try simp only [Act.put, List.setIfInBounds_toArray, List.set_cons_zero, List.set_cons_succ])
          refine wpAnyH_take (i := 3) (oi := { dst := some 119, op := Op.load 3 (Operand.tmp 118), type := 3, pos := "record.go:156", after := #[{ on := 2, ground := Ground.data }], guard := none }) (v := ?vc3) rfl (by kernel_rfl) (by kernel_rfl) (by kernel_rfl) (fun _ _ _ h => h) (Or.inl ⟨by rfl, ?hc3⟩) hHeld ?rc3
          case hc3 => ((intro w hSw); (try dsimp only at hSw); go_simp; (try with_reducible rfl))
          (try simp only [Act.put, List.setIfInBounds_toArray, List.set_cons_zero, List.set_cons_succ])
          refine wpAnyH_take (i := 4) (oi := { dst := some 120, op := Op.convert 3 5 (Operand.tmp 119), type := 5, pos := "record.go:156", after := #[{ on := 3, ground := Ground.data }], guard := none }) (v := ?vc4) rfl (by kernel_rfl) (by kernel_rfl) (by kernel_rfl) (fun _ _ _ h => h) (Or.inl ⟨by rfl, ?hc4⟩) hHeld ?rc4
          case hc4 => ((intro w hSw); (try dsimp only at hSw); go_simp; (try with_reducible rfl))
          (try simp only [Act.put, List.setIfInBounds_toArray, List.set_cons_zero, List.set_cons_succ])
          refine wpAnyH_take (i := 6) (oi := { dst := some 122, op := Op.fieldAddr 60 (Operand.tmp 9) 1, type := 0, pos := "record.go:156", after := #[], guard := none }) (v := ?vc5) rfl (by kernel_rfl) (by kernel_rfl) (by kernel_rfl) (fun _ _ _ h => h) (Or.inl ⟨by rfl, ?hc5⟩) hHeld ?rc5
          case hc5 => ((intro w hSw); (try dsimp only at hSw); go_simp; (try with_reducible rfl))
          (try simp only [Act.put, List.setIfInBounds_toArray, List.set_cons_zero, List.set_cons_succ])
          refine wpAnyH_take (i := 7) (oi := { dst := some 123, op := Op.load 3 (Operand.tmp 122), type := 3, pos := "record.go:156", after := #[{ on := 6, ground := Ground.data }], guard := none }) (v := ?vc6) rfl (by kernel_rfl) (by kernel_rfl) (by kernel_rfl) (fun _ _ _ h => h) (Or.inl ⟨by rfl, ?hc6⟩) hHeld ?rc6
          case hc6 => ((intro w hSw); (try dsimp only at hSw); go_simp; (try with_reducible rfl))
          (try simp only [Act.put, List.setIfInBounds_toArray, List.set_cons_zero, List.set_cons_succ])
          refine wpAnyH_ready (rs := [5]) (by kernel_rfl) (by simp) ?_
          refine AllReadyH.cons (o := { dst := some 121, op := Op.call { callee := Callee.value (Operand.func 30), args := #[Operand.tmp 117, Operand.tmp 120], argTypes := #[22, 5] }, type := 22, pos := "record.go:156", after := #[{ on := 1, ground := Ground.data }, { on := 4, ground := Ground.data }], guard := none }) rfl (fun K hK => ?_) AllReadyH.nil
          go_simp
          go_at_call 30
          refine (H40d.out.put1 xa (by omega) (by omega) (by simp only [List.length_append, nB_length]; omega)).mono ?_
          rintro e w41 ⟨A41, n41, c41, rfl, hS⟩
          have H41 := Lib.hid hS
          clear hS
          try go_wp2_with fail
          refine hK.out _ _ ?_ (fun hHeld => ?_)
          · exact ⟨H41.out.el.cell (j := 0) rfl, H41.out.el.cell (j := 1) rfl⟩
          clear hK K
          (try simp only [Act.put, List.setIfInBounds_toArray, List.set_cons_zero, List.set_cons_succ])
          refine wpAnyH_ready (rs := [8]) (by kernel_rfl) (by simp) ?_
          refine AllReadyH.cons (o := { dst := some 124, op := Op.call { callee := Callee.value (Operand.tmp 116), args := #[Operand.tmp 121, Operand.tmp 123], argTypes := #[22, 3] }, type := 22, pos := "record.go:156", after := #[{ on := 0, ground := Ground.data }, { on := 5, ground := Ground.data }, { on := 7, ground := Ground.data }, { on := 5, ground := Ground.chain }], guard := none }) rfl (fun K hK => ?_) AllReadyH.nil
          go_simp
          refine (H41.out.put8 xb (by omega) (by omega) (by simp only [List.length_append, nB_length]; omega)).mono ?_
          rintro e w42 ⟨A42, n42, c42, rfl, hS⟩
          have H42 := Lib.hid hS
          clear hS
          try go_wp2_with fail
          refine hK.out _ _ ?_ (fun hHeld => ?_)
          · exact ⟨H42.out.el.cell (j := 0) rfl, H42.out.el.cell (j := 1) rfl⟩
          clear hK K
          (try simp only [Act.put, List.setIfInBounds_toArray, List.set_cons_zero, List.set_cons_succ])
          refine wpAnyH_take (i := 9) (oi := { dst := some 5, op := Op.assign (Operand.tmp 124), type := 22, pos := "record.go:156", after := #[{ on := 8, ground := Ground.data }, { on := 8, ground := Ground.chain }, { on := 0, ground := Ground.phase }, { on := 1, ground := Ground.phase }, { on := 2, ground := Ground.phase }, { on := 3, ground := Ground.phase }, { on := 4, ground := Ground.phase }, { on := 5, ground := Ground.phase }, { on := 6, ground := Ground.phase }, { on := 7, ground := Ground.phase }, { on := 8, ground := Ground.phase }], guard := none }) (v := ?vc7) rfl (by kernel_rfl) (by kernel_rfl) (by kernel_rfl) (fun _ _ _ h => h) (Or.inl ⟨by rfl, ?hc7⟩) hHeld ?rc7
          case hc7 => ((intro w hSw); (try dsimp only at hSw); go_simp; (try with_reducible rfl))
          (try simp only [Act.put, List.setIfInBounds_toArray, List.set_cons_zero, List.set_cons_succ])
          refine wpAnyH_done (by kernel_rfl) ?_ _
          skip
          go_wp2_with fail
          go_roundw
          case rel => exact ⟨m + 1, A42, n42, c42, by omega, by go_num, rfl, bs_eq H42.out.bs (by rw [HNX.out]; try simp [dirtL])⟩
          case measure => simp [intOf]; omega
        · have hkk : m = N2 := by omega
          subst hkk
          go_wp2_with fail
          go_ret2
          exact byt_done HRel2.out HRB.out (by rw [HFIN.out, ← HPRE3.out, ← HPRE2.out, ← HPRE.out, ← HN1.out, ← HN2.out, List.take_length, List.take_length]; simp only [List.append_assoc])
end Go.Proofs.Ytiaehoppdihbdaa
