import Derived.Test.YtiaehoppdihbdaaRec6
/- tidemarkref09.Same. -/
set_option linter.unusedVariables false
set_option linter.unusedSimpArgs false
namespace Go.Proofs.Ytiaehoppdihbdaa
open Go.RowKit Go.Tm
set_option maxHeartbeats 400000
set_option maxRecDepth 100000
attribute [local go_sem ↓] Go.wp_at_zero Go.wp_at_succ

deriving instance DecidableEq for RecD
/-- What Same says. -/
abbrev SameP (x y : RecD) (w : World) (e : Ending) (w' : World) : Prop := e = .returned (.bool (decide (x = y))) ∧ Below w.heap.size w w'
theorem same_no {w w' : World} {x y : RecD} (h : x ≠ y) (hb : Below w.heap.size w w') : SameP x y w (.returned (.bool false)) w' := ⟨by rw [decide_eq_false h], hb⟩

/-- The two boxed records. -/
structure Sm (w : World) (cs ds : List Value) (W : World) : Prop where
  low : Below w.heap.size w W
  c1 : RowC W w.heap.size 26 cs
  c2 : RowC W (w.heap.size + 1) 26 ds
theorem take_same {α : Type} {l m : List α} {k : Nat} {x y : α} (hx : l[k]? = some x) (hy : m[k]? = some y) (h : l.take k = m.take k) (e : x = y) : l.take (k + 1) = m.take (k + 1) := by
  obtain ⟨a1, b1⟩ := List.getElem?_eq_some_iff.1 hx
  obtain ⟨a2, b2⟩ := List.getElem?_eq_some_iff.1 hy
  rw [List.take_succ_eq_append_getElem a1, List.take_succ_eq_append_getElem a2, h, b1, b2, e]
theorem take_all {α : Type} {l m : List α} {k : Nat} (hl : l.length = k) (hm : m.length = k) (h : l.take k = m.take k) : l = m := by
  rw [← List.take_length (l := l), ← List.take_length (l := m), hl, hm, h]
theorem rowC_new {W : World} {b : Nat} {T : TypeId} {cs : List Value} (h : b = W.heap.size) : RowC (W.alloc (.cells cs.toArray T)) b T cs := by subst h; exact heap_alloc_new W _
theorem Sm.below {w W W' : World} {cs ds : List Value} (h : Sm w cs ds W) (hb : Below W.heap.size W W') : Sm w cs ds W' := ⟨below_then h.low hb, h.c1.below hb, h.c2.below hb⟩

set_option maxHeartbeats 8000000 in
theorem same_any {w : World} {x y : RecD} {q r : RPl} (h : RecR w x q) (h2 : RecR w y r) {cs ds : Array Value} (hcs : cs = (recC x q).toArray) (hds : ds = (recC y r).toArray) :
    Calls Try.prog 20 #[.agg cs, .agg ds] w (SameP x y w) := by
  obtain ⟨⟨B1, cb1, eb1, rb1⟩, ⟨A1, ca1, ea1, ra1⟩, ⟨R1, cr1, er1, rr1⟩, ⟨D1, cd1, ed1, rd1⟩, i1, n11, n21, n31, n41⟩ := h
  obtain ⟨kind1, birth1, prev1, id1, page1, frm1, before1, after1, next1, rows1, dirty1⟩ := x
  dsimp only at eb1 rb1 ea1 ra1 er1 rr1 ed1 rd1 n11 n21 n31 n41
  obtain ⟨kb1, hkb1⟩ : ∃ k, before1.length = k := ⟨_, rfl⟩
  obtain ⟨ka1, hka1⟩ : ∃ k, after1.length = k := ⟨_, rfl⟩
  obtain ⟨kr1, hkr1⟩ : ∃ k, rows1.length = k := ⟨_, rfl⟩
  obtain ⟨kd1, hkd1⟩ : ∃ k, dirty1.length = k := ⟨_, rfl⟩
  obtain ⟨⟨B2, cb2, eb2, rb2⟩, ⟨A2, ca2, ea2, ra2⟩, ⟨R2, cr2, er2, rr2⟩, ⟨D2, cd2, ed2, rd2⟩, i2, n12, n22, n32, n42⟩ := h2
  obtain ⟨kind2, birth2, prev2, id2, page2, frm2, before2, after2, next2, rows2, dirty2⟩ := y
  dsimp only at eb2 rb2 ea2 ra2 er2 rr2 ed2 rd2 n12 n22 n32 n42
  obtain ⟨kb2, hkb2⟩ : ∃ k, before2.length = k := ⟨_, rfl⟩
  obtain ⟨ka2, hka2⟩ : ∃ k, after2.length = k := ⟨_, rfl⟩
  obtain ⟨kr2, hkr2⟩ : ∃ k, rows2.length = k := ⟨_, rfl⟩
  obtain ⟨kd2, hkd2⟩ : ∃ k, dirty2.length = k := ⟨_, rfl⟩
  have cse : cs = #[.int .i64 kind1, .int .i64 birth1, .int .i64 prev1, .int .i64 id1, .int .i64 page1, .int .i64 frm1, .slice B1 kb1 cb1, .slice A1 ka1 ca1, .int .i64 next1, .slice R1 kr1 cr1, .slice D1 kd1 cd1] := by rw [hcs]; unfold recC; rw [eb1, ea1, er1, ed1]; dsimp only; rw [hkb1, hka1, hkr1, hkd1]
  subst cse
  have dse : ds = #[.int .i64 kind2, .int .i64 birth2, .int .i64 prev2, .int .i64 id2, .int .i64 page2, .int .i64 frm2, .slice B2 kb2 cb2, .slice A2 ka2 ca2, .int .i64 next2, .slice R2 kr2 cr2, .slice D2 kd2 cd2] := by rw [hds]; unfold recC; rw [eb2, ea2, er2, ed2]; dsimp only; rw [hkb2, hka2, hkr2, hkd2]
  subst dse
  obtain ⟨wb, hwb⟩ : ∃ v, (w.alloc (.cells #[.int .i64 kind1, .int .i64 birth1, .int .i64 prev1, .int .i64 id1, .int .i64 page1, .int .i64 frm1, .slice B1 kb1 cb1, .slice A1 ka1 ca1, .int .i64 next1, .slice R1 kr1 cr1, .slice D1 kd1 cd1] 26)).alloc (.cells #[.int .i64 kind2, .int .i64 birth2, .int .i64 prev2, .int .i64 id2, .int .i64 page2, .int .i64 frm2, .slice B2 kb2 cb2, .slice A2 ka2 ca2, .int .i64 next2, .slice R2 kr2 cr2, .slice D2 kd2 cd2] 26) = v := ⟨_, rfl⟩
  have hb0 : Below w.heap.size w wb := by rw [← hwb]; exact ((Below.refl w.heap.size w).alloc (Nat.le_refl _) _).alloc (by simp) _
  have HCb1 : Hid (∀ dst hd, _) := Lib.hid (fun dst hd => run_conv_rd (P := Try.prog) wb tU8 (rb1.below hb0) kb1 hkb1.symm dst hd)
  have HCa1 : Hid (∀ dst hd, _) := Lib.hid (fun dst hd => run_conv_rd (P := Try.prog) wb tU8 (ra1.below hb0) ka1 hka1.symm dst hd)
  have HCb2 : Hid (∀ dst hd, _) := Lib.hid (fun dst hd => run_conv_rd (P := Try.prog) wb tU8 (rb2.below hb0) kb2 hkb2.symm dst hd)
  have HCa2 : Hid (∀ dst hd, _) := Lib.hid (fun dst hd => run_conv_rd (P := Try.prog) wb tU8 (ra2.below hb0) ka2 hka2.symm dst hd)
  subst hwb
  have HRr1 := Lib.hid (rr1.below keeps_row9 hb0)
  have hcr1 := rr1.cap
  rw [hkr1] at hcr1
  have HRd1 := Lib.hid (rd1.below keeps_dirt hb0)
  have hcd1 := rd1.cap
  rw [hkd1] at hcd1
  have HRr2 := Lib.hid (rr2.below keeps_row9 hb0)
  have hcr2 := rr2.cap
  rw [hkr2] at hcr2
  have HRd2 := Lib.hid (rd2.below keeps_dirt hb0)
  have hcd2 := rd2.cap
  rw [hkd2] at hcd2
  have HB0 := Lib.hid hb0
  have HKb1 := Lib.hid hkb1
  have HKa1 := Lib.hid hka1
  have HKr1 := Lib.hid hkr1
  have HKd1 := Lib.hid hkd1
  have HKb2 := Lib.hid hkb2
  have HKa2 := Lib.hid hka2
  have HKr2 := Lib.hid hkr2
  have HKd2 := Lib.hid hkd2
  have nr : kr1 ≤ 140737488351232 := by rw [← hkr1]; exact n31
  have nd : kd1 ≤ 140737488351232 := by rw [← hkd1]; exact n41
  clear hcs hds hb0 i1 i2 eb1 rb1 ea1 ra1 er1 rr1 ed1 rd1 eb2 rb2 ea2 ra2 er2 rr2 ed2 rd2 n11 n21 n31 n41 n12 n22 n32 n42 hkb1 hka1 hkr1 hkd1 hkb2 hka2 hkr2 hkd2
  by_cases gkind : kind1 = kind2
  case neg =>
    go_enter Try.func20, Try.ntmps20
    go_wp2_with fail
    go_ret
    exact same_no (fun he => gkind (by injection he)) HB0.out
  subst gkind
  by_cases gbirth : birth1 = birth2
  case neg =>
    go_enter Try.func20, Try.ntmps20
    go_wp2_with fail
    go_ret
    exact same_no (fun he => gbirth (by injection he)) HB0.out
  subst gbirth
  by_cases gprev : prev1 = prev2
  case neg =>
    go_enter Try.func20, Try.ntmps20
    go_wp2_with fail
    go_ret
    exact same_no (fun he => gprev (by injection he)) HB0.out
  subst gprev
  by_cases gid : id1 = id2
  case neg =>
    go_enter Try.func20, Try.ntmps20
    go_wp2_with fail
    go_ret
    exact same_no (fun he => gid (by injection he)) HB0.out
  subst gid
  by_cases gpage : page1 = page2
  case neg =>
    go_enter Try.func20, Try.ntmps20
    go_wp2_with fail
    go_ret
    exact same_no (fun he => gpage (by injection he)) HB0.out
  subst gpage
  by_cases gfrm : frm1 = frm2
  case neg =>
    go_enter Try.func20, Try.ntmps20
    go_wp2_with fail
    go_ret
    exact same_no (fun he => gfrm (by injection he)) HB0.out
  subst gfrm
  by_cases gnext : next1 = next2
  case neg =>
    go_enter Try.func20, Try.ntmps20
    go_wp2_with fail
    go_ret
    exact same_no (fun he => gnext (by injection he)) HB0.out
  subst gnext
  have hcb1 := HCb1.out
  have hcb2 := HCb2.out
  by_cases gb : before1 = before2
  case neg =>
    go_enter Try.func20, Try.ntmps20
    go_wp2_with fail
    go_ret
    exact same_no (fun he => gb (by injection he)) HB0.out
  subst gb
  have hca1 := HCa1.out
  have hca2 := HCa2.out
  by_cases ga : after1 = after2
  case neg =>
    go_enter Try.func20, Try.ntmps20
    go_wp2_with fail
    go_ret
    exact same_no (fun he => ga (by injection he)) HB0.out
  subst ga
  by_cases gr : kr1 = kr2
  case neg =>
    go_enter Try.func20, Try.ntmps20
    go_wp2_with fail
    go_ret
    exact same_no (fun he => gr (by rw [← HKr1.out, ← HKr2.out]; exact congrArg _ (by injection he))) HB0.out
  subst gr
  by_cases gd : kd1 = kd2
  case neg =>
    go_enter Try.func20, Try.ntmps20
    go_wp2_with fail
    go_ret
    exact same_no (fun he => gd (by rw [← HKd1.out, ← HKd2.out]; exact congrArg _ (by injection he))) HB0.out
  subst gd
  have HS : Hid (Sm w [.int .i64 kind1, .int .i64 birth1, .int .i64 prev1, .int .i64 id1, .int .i64 page1, .int .i64 frm1, .slice B1 kb1 cb1, .slice A1 ka1 ca1, .int .i64 next1, .slice R1 kr1 cr1, .slice D1 kd1 cd1] [.int .i64 kind1, .int .i64 birth1, .int .i64 prev1, .int .i64 id1, .int .i64 page1, .int .i64 frm1, .slice B2 kb2 cb2, .slice A2 ka2 ca2, .int .i64 next1, .slice R2 kr1 cr2, .slice D2 kd1 cd2] ((w.alloc (.cells #[.int .i64 kind1, .int .i64 birth1, .int .i64 prev1, .int .i64 id1, .int .i64 page1, .int .i64 frm1, .slice B1 kb1 cb1, .slice A1 ka1 ca1, .int .i64 next1, .slice R1 kr1 cr1, .slice D1 kd1 cd1] 26)).alloc (.cells #[.int .i64 kind1, .int .i64 birth1, .int .i64 prev1, .int .i64 id1, .int .i64 page1, .int .i64 frm1, .slice B2 kb2 cb2, .slice A2 ka2 ca2, .int .i64 next1, .slice R2 kr1 cr2, .slice D2 kd1 cd2] 26))) := Lib.hid ⟨HB0.out, (show RowC _ _ _ _ from heap_alloc_new w _).below ((Below.refl _ _).alloc (Nat.le_refl _) _), rowC_new (by simp)⟩
  go_enter Try.func20, Try.ntmps20
  go_wp2_with fail
  clear hcb1 hcb2 hca1 hca2
  go_loopw [5] (fun iv wr => ∃ k : Nat, k ≤ kr1 ∧ iv = .int .i64 k ∧ Hid (rows1.take k = rows2.take k) ∧ Below ((w.alloc (.cells #[.int .i64 kind1, .int .i64 birth1, .int .i64 prev1, .int .i64 id1, .int .i64 page1, .int .i64 frm1, .slice B1 kb1 cb1, .slice A1 ka1 ca1, .int .i64 next1, .slice R1 kr1 cr1, .slice D1 kd1 cd1] 26)).alloc (.cells #[.int .i64 kind1, .int .i64 birth1, .int .i64 prev1, .int .i64 id1, .int .i64 page1, .int .i64 frm1, .slice B2 kb2 cb2, .slice A2 ka2 ca2, .int .i64 next1, .slice R2 kr1 cr2, .slice D2 kd1 cd2] 26)).heap.size ((w.alloc (.cells #[.int .i64 kind1, .int .i64 birth1, .int .i64 prev1, .int .i64 id1, .int .i64 page1, .int .i64 frm1, .slice B1 kb1 cb1, .slice A1 ka1 ca1, .int .i64 next1, .slice R1 kr1 cr1, .slice D1 kd1 cd1] 26)).alloc (.cells #[.int .i64 kind1, .int .i64 birth1, .int .i64 prev1, .int .i64 id1, .int .i64 page1, .int .i64 frm1, .slice B2 kb2 cb2, .slice A2 ka2 ca2, .int .i64 next1, .slice R2 kr1 cr2, .slice D2 kd1 cd2] 26)) wr ∧ Sm w [.int .i64 kind1, .int .i64 birth1, .int .i64 prev1, .int .i64 id1, .int .i64 page1, .int .i64 frm1, .slice B1 kb1 cb1, .slice A1 ka1 ca1, .int .i64 next1, .slice R1 kr1 cr1, .slice D1 kd1 cd1] [.int .i64 kind1, .int .i64 birth1, .int .i64 prev1, .int .i64 id1, .int .i64 page1, .int .i64 frm1, .slice B2 kb2 cb2, .slice A2 ka2 ca2, .int .i64 next1, .slice R2 kr1 cr2, .slice D2 kd1 cd2] wr) (fun i _ => kr1 - (intOf i).toNat)
  case atStart => exact ⟨0, by omega, rfl, Lib.hid rfl, Below.refl _ _, HS.out⟩
  case round =>
    obtain ⟨k, hk, rfl, htk, hbw, hrel⟩ := hrel
    have HRel := Lib.hid hrel
    have HBW := Lib.hid hbw
    have d1 := hrel.c1.cell (j := 9) rfl
    have d2 := hrel.c2.cell (j := 9) rfl
    clear hrel hbw
    by_cases hlt : k < kr1
    · obtain ⟨x, hx⟩ : ∃ x, rows1[k]? = some x := ⟨rows1[k]'(by rw [HKr1.out]; exact hlt), by simp [HKr1.out, hlt]⟩
      obtain ⟨y, hy⟩ : ∃ y, rows2[k]? = some y := ⟨rows2[k]'(by rw [HKr2.out]; exact hlt), by simp [HKr2.out, hlt]⟩
      obtain ⟨ga, oa, rfl, hat⟩ := row9_at (HRr1.out.below keeps_row9 (below_then HBW.out (Below.refl _ _).drew)) hx
      obtain ⟨gb, ob, rfl, hat2⟩ := row9_at (HRr2.out.below keeps_row9 (below_then HBW.out (Below.refl _ _).drew)) hy
      have HX := Lib.hid hx
      have HY := Lib.hid hy
      have q1 : (0 : Int) ≤ (k : Int) := by omega
      have q2 : (k : Int) < (kr1 : Int) := by omega
      have HA1 := Lib.hid hat
      have HA2 := Lib.hid hat2
      have HDR := Lib.hid (HRel.out.below (Below.refl _ _).drew)
      clear hat hat2 hx hy
      obtain ⟨xa, xb, xc, xd, xe⟩ := x
      obtain ⟨ya, yb, yc, yd, ye⟩ := y
      obtain ⟨bq, hbq⟩ : ∃ b, (!decide ((xa, xb, xc, xd, xe) = (ya, yb, yc, yd, ye))) = b := ⟨_, rfl⟩
      have HBQ := Lib.hid hbq
      clear hbq
      go_wp2_with fail
      refine wp_region_held_drew (S := (fun w' => w'.cell? ⟨w.heap.size, 9, none⟩ = some (.slice (some ⟨ga, oa, none⟩) kr1 cr1) ∧ w'.cell? ⟨w.heap.size + 1, 9, none⟩ = some (.slice (some ⟨gb, ob, none⟩) kr1 cr2) ∧ w'.cell? ⟨ga, oa + k * 5, none⟩ = some (.int .i64 xa) ∧ w'.cell? ⟨ga, oa + k * 5 + 1, none⟩ = some (.int .i64 xb) ∧ w'.cell? ⟨ga, oa + k * 5 + 2, none⟩ = some (.int .i64 xc) ∧ w'.cell? ⟨ga, oa + k * 5 + 3, none⟩ = some (.int .i64 xd) ∧ w'.cell? ⟨ga, oa + k * 5 + 4, none⟩ = some (.int .i64 xe) ∧ w'.cell? ⟨gb, ob + k * 5, none⟩ = some (.int .i64 ya) ∧ w'.cell? ⟨gb, ob + k * 5 + 1, none⟩ = some (.int .i64 yb) ∧ w'.cell? ⟨gb, ob + k * 5 + 2, none⟩ = some (.int .i64 yc) ∧ w'.cell? ⟨gb, ob + k * 5 + 3, none⟩ = some (.int .i64 yd) ∧ w'.cell? ⟨gb, ob + k * 5 + 4, none⟩ = some (.int .i64 ye))) (by kernel_rfl) (⟨HDR.out.c1.cell (j := 9) rfl, HDR.out.c2.cell (j := 9) rfl, HA1.out.c0, HA1.out.c1, HA1.out.c2, HA1.out.c3, HA1.out.c4, HA2.out.c0, HA2.out.c1, HA2.out.c2, HA2.out.c3, HA2.out.c4⟩) (fun hHeld => ?_)
      refine wpAnyH_take (i := 0) (oi := { dst := some 95, op := Op.fieldAddr 26 (Operand.tmp 2) 9, type := 0, pos := "ref.go:249", after := #[], guard := none }) (v := ?va0) rfl (by kernel_rfl) (by kernel_rfl) (by kernel_rfl) (fun _ _ _ h => h) (Or.inl ⟨by rfl, ?ha0⟩) hHeld ?ra0
      case ha0 => ((intro w hSw); (try dsimp only at hSw); go_simp; (try with_reducible rfl))
      (try simp only [Act.put, List.setIfInBounds_toArray, List.set_cons_zero, List.set_cons_succ])
      refine wpAnyH_take (i := 1) (oi := { dst := some 96, op := Op.load 23 (Operand.tmp 95), type := 23, pos := "ref.go:249", after := #[{ on := 0, ground := Ground.data }], guard := none }) (v := ?va1) rfl (by kernel_rfl) (by kernel_rfl) (by kernel_rfl) (fun _ _ _ h => h) (Or.inl ⟨by rfl, ?ha1⟩) hHeld ?ra1
      case ha1 => ((intro w hSw); (try dsimp only at hSw); go_simp; (try with_reducible rfl))
      (try simp only [Act.put, List.setIfInBounds_toArray, List.set_cons_zero, List.set_cons_succ])
      refine wpAnyH_take (i := 2) (oi := { dst := some 97, op := Op.move (Operand.tmp 5), type := 3, pos := "ref.go:249", after := #[], guard := none }) (v := ?va2) rfl (by kernel_rfl) (by kernel_rfl) (by kernel_rfl) (fun _ _ _ h => h) (Or.inl ⟨by rfl, ?ha2⟩) hHeld ?ra2
      case ha2 => ((intro w hSw); (try dsimp only at hSw); go_simp; (try with_reducible rfl))
      (try simp only [Act.put, List.setIfInBounds_toArray, List.set_cons_zero, List.set_cons_succ])
      refine wpAnyH_take (i := 3) (oi := { dst := some 98, op := Op.indexAddr 23 (Operand.tmp 96) (Operand.tmp 97), type := 0, pos := "ref.go:249", after := #[{ on := 1, ground := Ground.data }, { on := 2, ground := Ground.data }], guard := none }) (v := ?va3) rfl (by kernel_rfl) (by kernel_rfl) (by kernel_rfl) (fun _ _ _ h => h) (Or.inl ⟨by rfl, ?ha3⟩) hHeld ?ra3
      case ha3 => ((intro w hSw); (try dsimp only at hSw); go_simp; (try with_reducible rfl))
      (try simp only [Act.put, List.setIfInBounds_toArray, List.set_cons_zero, List.set_cons_succ])
      refine wpAnyH_take (i := 4) (oi := { dst := some 99, op := Op.load 58 (Operand.tmp 98), type := 58, pos := "ref.go:249", after := #[{ on := 3, ground := Ground.data }], guard := none }) (v := ?va4) rfl (by kernel_rfl) (by kernel_rfl) (by kernel_rfl) (fun _ _ _ h => h) (Or.inl ⟨by rfl, ?ha4⟩) hHeld ?ra4
      case ha4 => ((intro w hSw); (try dsimp only at hSw); go_simp; (try with_reducible rfl))
      (try simp only [Act.put, List.setIfInBounds_toArray, List.set_cons_zero, List.set_cons_succ])
      refine wpAnyH_take (i := 5) (oi := { dst := some 100, op := Op.fieldAddr 26 (Operand.tmp 3) 9, type := 0, pos := "ref.go:249", after := #[], guard := none }) (v := ?va5) rfl (by kernel_rfl) (by kernel_rfl) (by kernel_rfl) (fun _ _ _ h => h) (Or.inl ⟨by rfl, ?ha5⟩) hHeld ?ra5
      case ha5 => ((intro w hSw); (try dsimp only at hSw); go_simp; (try with_reducible rfl))
      (try simp only [Act.put, List.setIfInBounds_toArray, List.set_cons_zero, List.set_cons_succ])
      refine wpAnyH_take (i := 6) (oi := { dst := some 101, op := Op.load 23 (Operand.tmp 100), type := 23, pos := "ref.go:249", after := #[{ on := 5, ground := Ground.data }], guard := none }) (v := ?va6) rfl (by kernel_rfl) (by kernel_rfl) (by kernel_rfl) (fun _ _ _ h => h) (Or.inl ⟨by rfl, ?ha6⟩) hHeld ?ra6
      case ha6 => ((intro w hSw); (try dsimp only at hSw); go_simp; (try with_reducible rfl))
      (try simp only [Act.put, List.setIfInBounds_toArray, List.set_cons_zero, List.set_cons_succ])
      refine wpAnyH_take (i := 7) (oi := { dst := some 102, op := Op.move (Operand.tmp 5), type := 3, pos := "ref.go:249", after := #[], guard := none }) (v := ?va7) rfl (by kernel_rfl) (by kernel_rfl) (by kernel_rfl) (fun _ _ _ h => h) (Or.inl ⟨by rfl, ?ha7⟩) hHeld ?ra7
      case ha7 => ((intro w hSw); (try dsimp only at hSw); go_simp; (try with_reducible rfl))
      (try simp only [Act.put, List.setIfInBounds_toArray, List.set_cons_zero, List.set_cons_succ])
      refine wpAnyH_take (i := 8) (oi := { dst := some 103, op := Op.indexAddr 23 (Operand.tmp 101) (Operand.tmp 102), type := 0, pos := "ref.go:249", after := #[{ on := 6, ground := Ground.data }, { on := 7, ground := Ground.data }], guard := none }) (v := ?va8) rfl (by kernel_rfl) (by kernel_rfl) (by kernel_rfl) (fun _ _ _ h => h) (Or.inl ⟨by rfl, ?ha8⟩) hHeld ?ra8
      case ha8 => ((intro w hSw); (try dsimp only at hSw); go_simp; (try with_reducible rfl))
      (try simp only [Act.put, List.setIfInBounds_toArray, List.set_cons_zero, List.set_cons_succ])
      refine wpAnyH_take (i := 9) (oi := { dst := some 104, op := Op.load 58 (Operand.tmp 103), type := 58, pos := "ref.go:249", after := #[{ on := 8, ground := Ground.data }], guard := none }) (v := ?va9) rfl (by kernel_rfl) (by kernel_rfl) (by kernel_rfl) (fun _ _ _ h => h) (Or.inl ⟨by rfl, ?ha9⟩) hHeld ?ra9
      case ha9 => ((intro w hSw); (try dsimp only at hSw); go_simp; (try with_reducible rfl))
      (try simp only [Act.put, List.setIfInBounds_toArray, List.set_cons_zero, List.set_cons_succ])
      refine wpAnyH_take (i := 10) (oi := { dst := some 105, op := Op.binOp BinOp.neq 58 (Operand.tmp 99) (Operand.tmp 104) 58, type := 4, pos := "ref.go:249", after := #[{ on := 4, ground := Ground.data }, { on := 9, ground := Ground.data }], guard := none }) (v := .bool bq) rfl (by kernel_rfl) (by kernel_rfl) (by kernel_rfl) (fun _ _ _ h => h) (Or.inl ⟨by rfl, ?ha10⟩) hHeld ?ra10
      case ha10 => ((intro w hSw); (try dsimp only at hSw); go_simp; rw [← HBQ.out]; (by_cases z0 : xa = ya <;> by_cases z1 : xb = yb <;> by_cases z2 : xc = yc <;> by_cases z3 : xd = yd <;> by_cases z4 : xe = ye <;> simp [z0, z1, z2, z3, z4]))
      (try simp only [Act.put, List.setIfInBounds_toArray, List.set_cons_zero, List.set_cons_succ])
      refine wpAnyH_done (by kernel_rfl) ?_ _
      skip
      cases bq with
      | true =>
        go_wp2_with fail
        go_ret
        exact same_no (fun he => by
          have e1 : rows1 = rows2 := by injection he
          rw [e1] at HX
          have e2 := HX.out.symm.trans HY.out
          have e3 := HBQ.out
          rw [Option.some.inj e2] at e3
          simp at e3) HDR.out.low
      | false =>
        go_wp2_with fail
        go_roundw
        case rel => exact ⟨k + 1, by omega, by go_num, Lib.hid (take_same HX.out HY.out htk.out (by simpa using HBQ.out)), below_then HBW.out (Below.refl _ _).drew, HDR.out⟩
        case measure => simp [intOf]; omega
    · have hkk : k = kr1 := by omega
      subst hkk
      have HRW : Hid (rows1 = rows2) := Lib.hid (take_all HKr1.out HKr2.out htk.out)
      clear htk
      obtain ⟨wo, rfl⟩ : ∃ wo : World, wo = wr := ⟨_, rfl⟩
      go_wp2_with fail
      clear d1 d2
      go_loopw [6] (fun iv wr => ∃ m : Nat, m ≤ kd1 ∧ iv = .int .i64 m ∧ Hid (dirty1.take m = dirty2.take m) ∧ Below wo.heap.size wo wr ∧ Sm w [.int .i64 kind1, .int .i64 birth1, .int .i64 prev1, .int .i64 id1, .int .i64 page1, .int .i64 frm1, .slice B1 kb1 cb1, .slice A1 ka1 ca1, .int .i64 next1, .slice R1 k cr1, .slice D1 kd1 cd1] [.int .i64 kind1, .int .i64 birth1, .int .i64 prev1, .int .i64 id1, .int .i64 page1, .int .i64 frm1, .slice B2 kb2 cb2, .slice A2 ka2 ca2, .int .i64 next1, .slice R2 k cr2, .slice D2 kd1 cd2] wr) (fun i _ => kd1 - (intOf i).toNat)
      case atStart => exact ⟨0, by omega, rfl, Lib.hid rfl, Below.refl _ _, HRel.out⟩
      case round =>
        obtain ⟨m, hm, rfl, htm, hbw2, hrel⟩ := hrel
        have HRel2 := Lib.hid hrel
        have HBW2 := Lib.hid (below_then HBW.out hbw2)
        have HBWo := Lib.hid hbw2
        have d1 := hrel.c1.cell (j := 10) rfl
        have d2 := hrel.c2.cell (j := 10) rfl
        clear hrel hbw2
        by_cases hlt2 : m < kd1
        · obtain ⟨x, hx⟩ : ∃ x, dirty1[m]? = some x := ⟨dirty1[m]'(by rw [HKd1.out]; exact hlt2), by simp [HKd1.out, hlt2]⟩
          obtain ⟨y, hy⟩ : ∃ y, dirty2[m]? = some y := ⟨dirty2[m]'(by rw [HKd2.out]; exact hlt2), by simp [HKd2.out, hlt2]⟩
          obtain ⟨ga, oa, rfl, hat⟩ := dirt_at (HRd1.out.below keeps_dirt (below_then HBW2.out (Below.refl _ _).drew)) hx
          obtain ⟨gb, ob, rfl, hat2⟩ := dirt_at (HRd2.out.below keeps_dirt (below_then HBW2.out (Below.refl _ _).drew)) hy
          have HX := Lib.hid hx
          have HY := Lib.hid hy
          have q1 : (0 : Int) ≤ (m : Int) := by omega
          have q2 : (m : Int) < (kd1 : Int) := by omega
          have HA1 := Lib.hid hat
          have HA2 := Lib.hid hat2
          have HDR := Lib.hid (HRel2.out.below (Below.refl _ _).drew)
          clear hat hat2 hx hy
          obtain ⟨xa, xb⟩ := x
          obtain ⟨ya, yb⟩ := y
          obtain ⟨bq, hbq⟩ : ∃ b, (!decide ((xa, xb) = (ya, yb))) = b := ⟨_, rfl⟩
          have HBQ := Lib.hid hbq
          clear hbq
          go_wp2_with fail
          refine wp_region_held_drew (S := (fun w' => w'.cell? ⟨w.heap.size, 10, none⟩ = some (.slice (some ⟨ga, oa, none⟩) kd1 cd1) ∧ w'.cell? ⟨w.heap.size + 1, 10, none⟩ = some (.slice (some ⟨gb, ob, none⟩) kd1 cd2) ∧ w'.cell? ⟨ga, oa + m * 2, none⟩ = some (.int .i64 xa) ∧ w'.cell? ⟨ga, oa + m * 2 + 1, none⟩ = some (.int .i64 xb) ∧ w'.cell? ⟨gb, ob + m * 2, none⟩ = some (.int .i64 ya) ∧ w'.cell? ⟨gb, ob + m * 2 + 1, none⟩ = some (.int .i64 yb))) (by kernel_rfl) (⟨HDR.out.c1.cell (j := 10) rfl, HDR.out.c2.cell (j := 10) rfl, HA1.out.c0, HA1.out.c1, HA2.out.c0, HA2.out.c1⟩) (fun hHeld => ?_)
          refine wpAnyH_take (i := 0) (oi := { dst := some 113, op := Op.fieldAddr 26 (Operand.tmp 2) 10, type := 0, pos := "ref.go:254", after := #[], guard := none }) (v := ?vb0) rfl (by kernel_rfl) (by kernel_rfl) (by kernel_rfl) (fun _ _ _ h => h) (Or.inl ⟨by rfl, ?hb0⟩) hHeld ?rb0
          case hb0 => ((intro w hSw); (try dsimp only at hSw); go_simp; (try with_reducible rfl))
          (try simp only [Act.put, List.setIfInBounds_toArray, List.set_cons_zero, List.set_cons_succ])
          refine wpAnyH_take (i := 1) (oi := { dst := some 114, op := Op.load 24 (Operand.tmp 113), type := 24, pos := "ref.go:254", after := #[{ on := 0, ground := Ground.data }], guard := none }) (v := ?vb1) rfl (by kernel_rfl) (by kernel_rfl) (by kernel_rfl) (fun _ _ _ h => h) (Or.inl ⟨by rfl, ?hb1⟩) hHeld ?rb1
          case hb1 => ((intro w hSw); (try dsimp only at hSw); go_simp; (try with_reducible rfl))
          (try simp only [Act.put, List.setIfInBounds_toArray, List.set_cons_zero, List.set_cons_succ])
          refine wpAnyH_take (i := 2) (oi := { dst := some 115, op := Op.move (Operand.tmp 6), type := 3, pos := "ref.go:254", after := #[], guard := none }) (v := ?vb2) rfl (by kernel_rfl) (by kernel_rfl) (by kernel_rfl) (fun _ _ _ h => h) (Or.inl ⟨by rfl, ?hb2⟩) hHeld ?rb2
          case hb2 => ((intro w hSw); (try dsimp only at hSw); go_simp; (try with_reducible rfl))
          (try simp only [Act.put, List.setIfInBounds_toArray, List.set_cons_zero, List.set_cons_succ])
          refine wpAnyH_take (i := 3) (oi := { dst := some 116, op := Op.indexAddr 24 (Operand.tmp 114) (Operand.tmp 115), type := 0, pos := "ref.go:254", after := #[{ on := 1, ground := Ground.data }, { on := 2, ground := Ground.data }], guard := none }) (v := ?vb3) rfl (by kernel_rfl) (by kernel_rfl) (by kernel_rfl) (fun _ _ _ h => h) (Or.inl ⟨by rfl, ?hb3⟩) hHeld ?rb3
          case hb3 => ((intro w hSw); (try dsimp only at hSw); go_simp; (try with_reducible rfl))
          (try simp only [Act.put, List.setIfInBounds_toArray, List.set_cons_zero, List.set_cons_succ])
          refine wpAnyH_take (i := 4) (oi := { dst := some 117, op := Op.load 60 (Operand.tmp 116), type := 60, pos := "ref.go:254", after := #[{ on := 3, ground := Ground.data }], guard := none }) (v := ?vb4) rfl (by kernel_rfl) (by kernel_rfl) (by kernel_rfl) (fun _ _ _ h => h) (Or.inl ⟨by rfl, ?hb4⟩) hHeld ?rb4
          case hb4 => ((intro w hSw); (try dsimp only at hSw); go_simp; (try with_reducible rfl))
          (try simp only [Act.put, List.setIfInBounds_toArray, List.set_cons_zero, List.set_cons_succ])
          refine wpAnyH_take (i := 5) (oi := { dst := some 118, op := Op.fieldAddr 26 (Operand.tmp 3) 10, type := 0, pos := "ref.go:254", after := #[], guard := none }) (v := ?vb5) rfl (by kernel_rfl) (by kernel_rfl) (by kernel_rfl) (fun _ _ _ h => h) (Or.inl ⟨by rfl, ?hb5⟩) hHeld ?rb5
          case hb5 => ((intro w hSw); (try dsimp only at hSw); go_simp; (try with_reducible rfl))
          (try simp only [Act.put, List.setIfInBounds_toArray, List.set_cons_zero, List.set_cons_succ])
          refine wpAnyH_take (i := 6) (oi := { dst := some 119, op := Op.load 24 (Operand.tmp 118), type := 24, pos := "ref.go:254", after := #[{ on := 5, ground := Ground.data }], guard := none }) (v := ?vb6) rfl (by kernel_rfl) (by kernel_rfl) (by kernel_rfl) (fun _ _ _ h => h) (Or.inl ⟨by rfl, ?hb6⟩) hHeld ?rb6
          case hb6 => ((intro w hSw); (try dsimp only at hSw); go_simp; (try with_reducible rfl))
          (try simp only [Act.put, List.setIfInBounds_toArray, List.set_cons_zero, List.set_cons_succ])
          refine wpAnyH_take (i := 7) (oi := { dst := some 120, op := Op.move (Operand.tmp 6), type := 3, pos := "ref.go:254", after := #[], guard := none }) (v := ?vb7) rfl (by kernel_rfl) (by kernel_rfl) (by kernel_rfl) (fun _ _ _ h => h) (Or.inl ⟨by rfl, ?hb7⟩) hHeld ?rb7
          case hb7 => ((intro w hSw); (try dsimp only at hSw); go_simp; (try with_reducible rfl))
          (try simp only [Act.put, List.setIfInBounds_toArray, List.set_cons_zero, List.set_cons_succ])
          refine wpAnyH_take (i := 8) (oi := { dst := some 121, op := Op.indexAddr 24 (Operand.tmp 119) (Operand.tmp 120), type := 0, pos := "ref.go:254", after := #[{ on := 6, ground := Ground.data }, { on := 7, ground := Ground.data }], guard := none }) (v := ?vb8) rfl (by kernel_rfl) (by kernel_rfl) (by kernel_rfl) (fun _ _ _ h => h) (Or.inl ⟨by rfl, ?hb8⟩) hHeld ?rb8
          case hb8 => ((intro w hSw); (try dsimp only at hSw); go_simp; (try with_reducible rfl))
          (try simp only [Act.put, List.setIfInBounds_toArray, List.set_cons_zero, List.set_cons_succ])
          refine wpAnyH_take (i := 9) (oi := { dst := some 122, op := Op.load 60 (Operand.tmp 121), type := 60, pos := "ref.go:254", after := #[{ on := 8, ground := Ground.data }], guard := none }) (v := ?vb9) rfl (by kernel_rfl) (by kernel_rfl) (by kernel_rfl) (fun _ _ _ h => h) (Or.inl ⟨by rfl, ?hb9⟩) hHeld ?rb9
          case hb9 => ((intro w hSw); (try dsimp only at hSw); go_simp; (try with_reducible rfl))
          (try simp only [Act.put, List.setIfInBounds_toArray, List.set_cons_zero, List.set_cons_succ])
          refine wpAnyH_take (i := 10) (oi := { dst := some 123, op := Op.binOp BinOp.neq 60 (Operand.tmp 117) (Operand.tmp 122) 60, type := 4, pos := "ref.go:254", after := #[{ on := 4, ground := Ground.data }, { on := 9, ground := Ground.data }], guard := none }) (v := .bool bq) rfl (by kernel_rfl) (by kernel_rfl) (by kernel_rfl) (fun _ _ _ h => h) (Or.inl ⟨by rfl, ?hb10⟩) hHeld ?rb10
          case hb10 => ((intro w hSw); (try dsimp only at hSw); go_simp; rw [← HBQ.out]; (by_cases z0 : xa = ya <;> by_cases z1 : xb = yb <;> simp [z0, z1]))
          (try simp only [Act.put, List.setIfInBounds_toArray, List.set_cons_zero, List.set_cons_succ])
          refine wpAnyH_done (by kernel_rfl) ?_ _
          skip
          cases bq with
          | true =>
            go_wp2_with fail
            go_ret
            exact same_no (fun he => by
              have e1 : dirty1 = dirty2 := by injection he
              rw [e1] at HX
              have e2 := HX.out.symm.trans HY.out
              have e3 := HBQ.out
              rw [Option.some.inj e2] at e3
              simp at e3) HDR.out.low
          | false =>
            go_wp2_with fail
            go_roundw
            case rel => exact ⟨m + 1, by omega, by go_num, Lib.hid (take_same HX.out HY.out htm.out (by simpa using HBQ.out)), below_then HBWo.out (Below.refl _ _).drew, HDR.out⟩
            case measure => simp [intOf]; omega
        · have hkk : m = kd1 := by omega
          subst hkk
          have HRW2 : Hid (dirty1 = dirty2) := Lib.hid (take_all HKd1.out HKd2.out htm.out)
          clear htm
          go_wp2_with fail
          go_ret
          exact ⟨by rw [HRW.out, HRW2.out]; simp, HRel2.out.low⟩
end Go.Proofs.Ytiaehoppdihbdaa
