import Derived.Test.YtiaehoppdihbdaaRec2
/- The contracts of package record: the reader of a checkpoint. -/
set_option linter.unusedVariables false
set_option linter.unusedSimpArgs false
namespace Go.Proofs.Ytiaehoppdihbdaa
open Go.RowKit Go.Tm
set_option maxHeartbeats 400000
set_option maxRecDepth 100000
attribute [local go_sem ↓] Go.wp_at_zero Go.wp_at_succ

theorem ownLe_base {W : World} {B b : Nat} {e : TypeId} {size n : Nat} {v : Value} {xs : List Value} (h : OwnLe W B e size v n xs) (hb : ∀ k, v.ownBlock = some k → b ≤ k) : OwnLe W b e size v n xs := by
  refine ⟨h.1, ?_⟩
  rcases h.2 with h0 | ⟨g, cap, cur, rfl, h2, rest⟩
  · exact .inl h0
  · exact .inr ⟨g, cap, cur, rfl, hb g rfl, rest⟩
theorem news_row {W : World} {g : Nat} {T : TypeId} {cs : List Value} (h : RowC W g T cs) : ∀ j u, cs[j]? = some u → W.cell? ((⟨g, 0, none⟩ : Addr).add j) = some u := fun j u hj => by
  rw [add_plain, Nat.zero_add]
  exact h.cell hj
theorem rowsC_snoc (xs : List Row9) (x : Row9) : rowsC (xs ++ [x]) = rowsC xs ++ row9C x := by simp [rowsC]
theorem dirtsC_snoc (xs : List (Int × Int)) (x : Int × Int) : dirtsC (xs ++ [x]) = dirtsC xs ++ dirtC x := by simp [dirtsC]
structure RowsAt (w0 w : World) (r rp B bx : Nat) (m0 : List UInt8) (z : RecD) (k : Nat) (W : World) : Prop where
  ex : ∃ xs m q, gMany gRow9 k m0 = some (xs, m) ∧ St w0 w r rp B bx m { z with rows := xs } q W ∧ (∀ g, q.vr.ownBlock = some g → w.heap.size ≤ g) ∧ q.vd = .slice none 0 0
structure DirtsAt (w0 w : World) (r rp B bx : Nat) (m0 : List UInt8) (z : RecD) (k : Nat) (W : World) : Prop where
  ex : ∃ xs m q, gMany gDirt k m0 = some (xs, m) ∧ St w0 w r rp B bx m { z with dirty := xs } q W ∧ (∀ g, q.vd.ownBlock = some g → w.heap.size ≤ g)
theorem pCheck_no1 {z : RecD} {l m : List UInt8} {N : Nat} (h : gN 1 l = some ((N : Int), m)) (h2 : gMany gRow9 N m = none) : pCheck z l = none := by
  unfold pCheck
  rw [h, Option.bind_some]
  show (gMany gRow9 (N : Int).toNat m).bind _ = none
  rw [Int.toNat_natCast, h2]
  rfl
theorem pCheck_at {z : RecD} {l m m2 : List UInt8} {N : Nat} {xs : List Row9} (h : gN 1 l = some ((N : Int), m)) (h2 : gMany gRow9 N m = some (xs, m2)) : pCheck z l = (gN 1 m2).bind fun c => (gMany gDirt c.1.toNat c.2).map fun d => ({ z with rows := xs, dirty := d.1 }, d.2) := by
  unfold pCheck
  rw [h, Option.bind_some]
  show (gMany gRow9 (N : Int).toNat m).bind _ = _
  rw [Int.toNat_natCast, h2]
  rfl
theorem rowInfo : (Try.prog.info? 58).map (fun i => (i.zero, i.size, i.bytes)) = some (some (.agg #[.int .i64 0, .int .i64 0, .int .i64 0, .int .i64 0, .int .i64 0]), 5, 40) := by kernel_rfl
theorem dirtInfo : (Try.prog.info? 60).map (fun i => (i.zero, i.size, i.bytes)) = some (some (.agg #[.int .i64 0, .int .i64 0]), 2, 16) := by kernel_rfl
theorem gRow9_at {m m1 m2 m3 m4 m5 : List UInt8} {a b c d e : Int} (h1 : gL m = some (a, m1)) (h2 : gN 1 m1 = some (b, m2)) (h3 : gN 1 m2 = some (c, m3)) (h4 : gL m3 = some (d, m4)) (h5 : gL m4 = some (e, m5)) : gRow9 m = some ((a, b, c, d, e), m5) := by
  unfold gRow9
  simp only [h1, h2, h3, h4, h5, Option.bind_some, Option.map_some]
theorem gDirt_at {m m1 m2 : List UInt8} {a b : Int} (h1 : gN 1 m = some (a, m1)) (h2 : gL m1 = some (b, m2)) : gDirt m = some ((a, b), m2) := by
  unfold gDirt
  simp only [h1, h2, Option.bind_some, Option.map_some]
theorem zrows {z : RecD} (h : z.rows = []) : { z with rows := [] } = z := by cases z; dsimp only at h; subst h; rfl
theorem zdirt {z : RecD} (h : z.dirty = []) : { z with dirty := [] } = z := by cases z; dsimp only at h; subst h; rfl

set_option maxHeartbeats 8000000 in
theorem readCheck_any {w0 w : World} {r rp B : Nat} {l : List UInt8} {z : RecD} {q : RPl} (h : IsRs w0 w r 95 l) (hz : RecB w B rp z q) (hl : l.length ≤ 140737488355328) (hB : B ≤ w.heap.size) (hrn : w0.heap.size ≤ rp) (hwn : w0.heap.size ≤ w.heap.size)
    (hzr : z.rows = []) (hzd : z.dirty = []) (hvr : q.vr = .slice none 0 0) (hvd : q.vd = .slice none 0 0) :
    Calls Try.prog 68 #[srcV r, .pointer (some ⟨rp, 0, none⟩)] w (RdrP w0 (pCheck z l) r rp B w) := by
  have H0 := Lib.hid (St.start h hz hl hB hrn hwn)
  have HZR := Lib.hid hzr
  have HZD := Lib.hid hzd
  have HVR := Lib.hid hvr
  have HVD := Lib.hid hvd
  have HUR : Hid (Try.prog.underlying 23 = some (.slice 58)) := Lib.hid Try.underlying23
  have HUD : Hid (Try.prog.underlying 24 = some (.slice 60)) := Lib.hid Try.underlying24
  obtain ⟨bx, hbx⟩ : ∃ bx, w.heap.size = bx := ⟨_, rfl⟩
  have HBX := Lib.hid hbx
  clear h hz hzr hzd hvr hvd hbx
  go_enter Try.func68, Try.ntmps68
  go_wp2_with fail
  refine (H0.out.num 1 (.inl rfl) rfl).mono ?_
  rintro e w1 (⟨hg, rfl, hk⟩ | ⟨v1, m1, hg, rfl, hS⟩)
  · have HG := Lib.hid hg
    have HK := Lib.hid hk
    clear hg hk
    go_wp2_with fail
    exact And.intro rfl (St.fail (w0 := w0) (B := B) (o := pCheck z l) (by unfold pCheck; rw [HG.out]; rfl) HK.out)
  have hv1 := gN_is hg
  obtain ⟨N1, hN1⟩ : ∃ N1 : Nat, v1 = (N1 : Int) := ⟨v1.toNat, by have := hv1.2.1; omega⟩
  have hN1b : N1 < 256 := by have := hv1.2.2; rw [hN1] at this; simpa using this
  subst hN1
  have HG1 := Lib.hid hg
  have H1 := Lib.hid hS
  rw [HBX.out] at H1 H0
  have hR0 : RowsAt w0 w r rp B bx m1 z 0 w1 := ⟨[], m1, q, rfl, by rw [zrows HZR.out]; exact H1.out, fun g hg => by rw [HVR.out] at hg; simp [Value.ownBlock] at hg, HVD.out⟩
  clear hg hS hv1 H0 H1
  rw [HBX.out]
  go_wp2_with fail
  go_loopw [6] (fun iv wr => ∃ k : Nat, k ≤ N1 ∧ iv = .int .i64 k ∧ RowsAt w0 w r rp B bx m1 z k wr) (fun i _ => N1 - (intOf i).toNat)
  case atStart => exact ⟨0, by omega, rfl, hR0⟩
  case round =>
    obtain ⟨k, hk, rfl, hrel⟩ := hrel
    obtain ⟨xs, m0, q0, hgm, hS0, hnb, hqd⟩ := hrel.ex
    have HGM := Lib.hid hgm
    have HNB := Lib.hid hnb
    have HQD := Lib.hid hqd
    have H2 := Lib.hid hS0
    have H2d := Lib.hid hS0.drew
    have hxl : xs.length ≤ 256 := by rw [gMany_len _ _ _ _ hgm]; omega
    clear hrel hgm hS0 hnb hqd hR0
    by_cases hlt : k < N1
    · have m0k : (0 : Int) ≤ (k : Int) := by omega
      have m1k : (k : Int) < (N1 : Int) := by omega
      go_wp2_with fail
      refine wp_region_held_drew (S := (fun w' => w'.cell? ⟨bx, 0, none⟩ = some (.pointer (some ⟨r, 0, none⟩)))) (by kernel_rfl) (H2d.out.box) (fun hHeld => ?_)
      refine wpAnyH_take (i := 0) (oi := { dst := some 8, op := Op.move (Operand.tmp 1), type := 81, pos := "record.go:61", after := #[], guard := none }) (v := ?vc0) rfl (by kernel_rfl) (by kernel_rfl) (by kernel_rfl) (fun _ _ _ h => h) (Or.inl ⟨by rfl, ?hc0⟩) hHeld ?rc0
      case hc0 => ((intro w hSw); (try dsimp only at hSw); go_simp; (try with_reducible rfl))
      (try simp only [Act.put, List.setIfInBounds_toArray, List.set_cons_zero, List.set_cons_succ])
      refine wpAnyH_take (i := 1) (oi := { dst := some 9, op := Op.move (Operand.tmp 1), type := 81, pos := "record.go:61", after := #[], guard := none }) (v := ?vc1) rfl (by kernel_rfl) (by kernel_rfl) (by kernel_rfl) (fun _ _ _ h => h) (Or.inl ⟨by rfl, ?hc1⟩) hHeld ?rc1
      case hc1 => ((intro w hSw); (try dsimp only at hSw); go_simp; (try with_reducible rfl))
      (try simp only [Act.put, List.setIfInBounds_toArray, List.set_cons_zero, List.set_cons_succ])
      refine wpAnyH_take (i := 2) (oi := { dst := some 10, op := Op.nilCheck (Operand.tmp 9), type := 0, pos := "record.go:61", after := #[{ on := 1, ground := Ground.data }], guard := none }) (v := ?vc2) rfl (by kernel_rfl) (by kernel_rfl) (by kernel_rfl) (fun _ _ _ h => h) (Or.inl ⟨by rfl, ?hc2⟩) hHeld ?rc2
      case hc2 => ((intro w hSw); (try dsimp only at hSw); go_simp; (try with_reducible rfl))
      (try simp only [Act.put, List.setIfInBounds_toArray, List.set_cons_zero, List.set_cons_succ])
      refine wpAnyH_take (i := 3) (oi := { dst := some 11, op := Op.fieldAddr 26 (Operand.tmp 10) 9, type := 0, pos := "record.go:61", after := #[{ on := 2, ground := Ground.data }], guard := none }) (v := ?vc3) rfl (by kernel_rfl) (by kernel_rfl) (by kernel_rfl) (fun _ _ _ h => h) (Or.inl ⟨by rfl, ?hc3⟩) hHeld ?rc3
      case hc3 => ((intro w hSw); (try dsimp only at hSw); go_simp; (try with_reducible rfl))
      (try simp only [Act.put, List.setIfInBounds_toArray, List.set_cons_zero, List.set_cons_succ])
      refine wpAnyH_take (i := 5) (oi := { dst := some 13, op := Op.load 75 (Operand.tmp 2), type := 75, pos := "record.go:61", after := #[], guard := none }) (v := ?vc4) rfl (by kernel_rfl) (by kernel_rfl) (by kernel_rfl) (fun _ _ _ h => h) (Or.inl ⟨by rfl, ?hc4⟩) hHeld ?rc4
      case hc4 => ((intro w hSw); (try dsimp only at hSw); go_simp; (try with_reducible rfl))
      (try simp only [Act.put, List.setIfInBounds_toArray, List.set_cons_zero, List.set_cons_succ])
      refine wpAnyH_take (i := 7) (oi := { dst := some 15, op := Op.load 75 (Operand.tmp 2), type := 75, pos := "record.go:61", after := #[], guard := none }) (v := ?vc5) rfl (by kernel_rfl) (by kernel_rfl) (by kernel_rfl) (fun _ _ _ h => h) (Or.inl ⟨by rfl, ?hc5⟩) hHeld ?rc5
      case hc5 => ((intro w hSw); (try dsimp only at hSw); go_simp; (try with_reducible rfl))
      (try simp only [Act.put, List.setIfInBounds_toArray, List.set_cons_zero, List.set_cons_succ])
      refine wpAnyH_take (i := 9) (oi := { dst := some 17, op := Op.load 75 (Operand.tmp 2), type := 75, pos := "record.go:61", after := #[], guard := none }) (v := ?vc6) rfl (by kernel_rfl) (by kernel_rfl) (by kernel_rfl) (fun _ _ _ h => h) (Or.inl ⟨by rfl, ?hc6⟩) hHeld ?rc6
      case hc6 => ((intro w hSw); (try dsimp only at hSw); go_simp; (try with_reducible rfl))
      (try simp only [Act.put, List.setIfInBounds_toArray, List.set_cons_zero, List.set_cons_succ])
      refine wpAnyH_take (i := 11) (oi := { dst := some 19, op := Op.load 75 (Operand.tmp 2), type := 75, pos := "record.go:61", after := #[], guard := none }) (v := ?vc7) rfl (by kernel_rfl) (by kernel_rfl) (by kernel_rfl) (fun _ _ _ h => h) (Or.inl ⟨by rfl, ?hc7⟩) hHeld ?rc7
      case hc7 => ((intro w hSw); (try dsimp only at hSw); go_simp; (try with_reducible rfl))
      (try simp only [Act.put, List.setIfInBounds_toArray, List.set_cons_zero, List.set_cons_succ])
      refine wpAnyH_take (i := 13) (oi := { dst := some 21, op := Op.load 75 (Operand.tmp 2), type := 75, pos := "record.go:61", after := #[], guard := none }) (v := ?vc8) rfl (by kernel_rfl) (by kernel_rfl) (by kernel_rfl) (fun _ _ _ h => h) (Or.inl ⟨by rfl, ?hc8⟩) hHeld ?rc8
      case hc8 => ((intro w hSw); (try dsimp only at hSw); go_simp; (try with_reducible rfl))
      (try simp only [Act.put, List.setIfInBounds_toArray, List.set_cons_zero, List.set_cons_succ])
      refine wpAnyH_ready (rs := [4, 6]) (by kernel_rfl) (by simp) ?_
      refine AllReadyH.cons (o := { dst := some 12, op := Op.load 23 (Operand.tmp 11), type := 23, pos := "record.go:61", after := #[{ on := 3, ground := Ground.data }], guard := none }) rfl (fun K hK => ?sc9) ?tc9
      case sc9 =>
        have cf := H2d.out.rc.row.cell (j := 9) (v := q0.vr) rfl
        go_simp
        clear cf
        refine hK.out _ _ ?_ (fun hHeld => ?_)
        · exact hHeld
        clear hK K
        (try simp only [Act.put, List.setIfInBounds_toArray, List.set_cons_zero, List.set_cons_succ])
        refine wpAnyH_ready (rs := [6]) (by kernel_rfl) (by simp) ?_
        refine AllReadyH.cons (o := { dst := some 14, op := Op.call { callee := Callee.value (Operand.func 38), args := #[Operand.tmp 13], argTypes := #[75] }, type := 3, pos := "record.go:61", after := #[{ on := 5, ground := Ground.data }], guard := none }) rfl (fun K hK => ?_) AllReadyH.nil
        go_simp
        go_at_call 38
        refine H2d.out.lsn.mono ?_
        rintro e w11 (⟨hg, rfl, hk⟩ | ⟨v11, m11, hg, rfl, hS⟩)
        · exact And.intro rfl (St.fail (w0 := w0) (B := B) (o := pCheck z l) (pCheck_no1 HG1.out (gMany_none _ _ _ _ _ HGM.out (by unfold gRow9; simp only [hg, Option.bind_some, Option.bind_none, Option.map_none]) hlt)) hk)
        have HG11 := Lib.hid hg
        have H11 := Lib.hid hS
        clear hg hS
        try go_wp2_with fail
        refine hK.out _ _ ?_ (fun hHeld => ?_)
        · exact H11.out.box
        clear hK K
        (try simp only [Act.put, List.setIfInBounds_toArray, List.set_cons_zero, List.set_cons_succ])
        refine wpAnyH_ready (rs := [8]) (by kernel_rfl) (by simp) ?_
        refine AllReadyH.cons (o := { dst := some 16, op := Op.call { callee := Callee.value (Operand.func 37), args := #[Operand.tmp 15, Operand.const (Value.int IntKind.i64 1)], argTypes := #[75, 3] }, type := 3, pos := "record.go:61", after := #[{ on := 7, ground := Ground.data }, { on := 6, ground := Ground.chain }], guard := none }) rfl (fun K hK => ?_) AllReadyH.nil
        go_simp
        go_at_call 37
        refine (H11.out.num 1 (.inl rfl) rfl).mono ?_
        rintro e w12 (⟨hg, rfl, hk⟩ | ⟨v12, m12, hg, rfl, hS⟩)
        · exact And.intro rfl (St.fail (w0 := w0) (B := B) (o := pCheck z l) (pCheck_no1 HG1.out (gMany_none _ _ _ _ _ HGM.out (by unfold gRow9; simp only [HG11.out, hg, Option.bind_some, Option.bind_none, Option.map_none]) hlt)) hk)
        have HG12 := Lib.hid hg
        have H12 := Lib.hid hS
        clear hg hS
        try go_wp2_with fail
        refine hK.out _ _ ?_ (fun hHeld => ?_)
        · exact H12.out.box
        clear hK K
        (try simp only [Act.put, List.setIfInBounds_toArray, List.set_cons_zero, List.set_cons_succ])
        refine wpAnyH_ready (rs := [10]) (by kernel_rfl) (by simp) ?_
        refine AllReadyH.cons (o := { dst := some 18, op := Op.call { callee := Callee.value (Operand.func 37), args := #[Operand.tmp 17, Operand.const (Value.int IntKind.i64 1)], argTypes := #[75, 3] }, type := 3, pos := "record.go:61", after := #[{ on := 9, ground := Ground.data }, { on := 8, ground := Ground.chain }], guard := none }) rfl (fun K hK => ?_) AllReadyH.nil
        go_simp
        go_at_call 37
        refine (H12.out.num 1 (.inl rfl) rfl).mono ?_
        rintro e w13 (⟨hg, rfl, hk⟩ | ⟨v13, m13, hg, rfl, hS⟩)
        · exact And.intro rfl (St.fail (w0 := w0) (B := B) (o := pCheck z l) (pCheck_no1 HG1.out (gMany_none _ _ _ _ _ HGM.out (by unfold gRow9; simp only [HG11.out, HG12.out, hg, Option.bind_some, Option.bind_none, Option.map_none]) hlt)) hk)
        have HG13 := Lib.hid hg
        have H13 := Lib.hid hS
        clear hg hS
        try go_wp2_with fail
        refine hK.out _ _ ?_ (fun hHeld => ?_)
        · exact H13.out.box
        clear hK K
        (try simp only [Act.put, List.setIfInBounds_toArray, List.set_cons_zero, List.set_cons_succ])
        refine wpAnyH_ready (rs := [12]) (by kernel_rfl) (by simp) ?_
        refine AllReadyH.cons (o := { dst := some 20, op := Op.call { callee := Callee.value (Operand.func 38), args := #[Operand.tmp 19], argTypes := #[75] }, type := 3, pos := "record.go:61", after := #[{ on := 11, ground := Ground.data }, { on := 10, ground := Ground.chain }], guard := none }) rfl (fun K hK => ?_) AllReadyH.nil
        go_simp
        go_at_call 38
        refine H13.out.lsn.mono ?_
        rintro e w14 (⟨hg, rfl, hk⟩ | ⟨v14, m14, hg, rfl, hS⟩)
        · exact And.intro rfl (St.fail (w0 := w0) (B := B) (o := pCheck z l) (pCheck_no1 HG1.out (gMany_none _ _ _ _ _ HGM.out (by unfold gRow9; simp only [HG11.out, HG12.out, HG13.out, hg, Option.bind_some, Option.bind_none, Option.map_none]) hlt)) hk)
        have HG14 := Lib.hid hg
        have H14 := Lib.hid hS
        clear hg hS
        try go_wp2_with fail
        refine hK.out _ _ ?_ (fun hHeld => ?_)
        · exact H14.out.box
        clear hK K
        (try simp only [Act.put, List.setIfInBounds_toArray, List.set_cons_zero, List.set_cons_succ])
        refine wpAnyH_ready (rs := [14]) (by kernel_rfl) (by simp) ?_
        refine AllReadyH.cons (o := { dst := some 22, op := Op.call { callee := Callee.value (Operand.func 38), args := #[Operand.tmp 21], argTypes := #[75] }, type := 3, pos := "record.go:61", after := #[{ on := 13, ground := Ground.data }, { on := 12, ground := Ground.chain }], guard := none }) rfl (fun K hK => ?_) AllReadyH.nil
        go_simp
        go_at_call 38
        refine H14.out.lsn.mono ?_
        rintro e w15 (⟨hg, rfl, hk⟩ | ⟨v15, m15, hg, rfl, hS⟩)
        · exact And.intro rfl (St.fail (w0 := w0) (B := B) (o := pCheck z l) (pCheck_no1 HG1.out (gMany_none _ _ _ _ _ HGM.out (by unfold gRow9; simp only [HG11.out, HG12.out, HG13.out, HG14.out, hg, Option.bind_some, Option.bind_none, Option.map_none]) hlt)) hk)
        have HG15 := Lib.hid hg
        have H15 := Lib.hid hS
        clear hg hS
        try go_wp2_with fail
        refine hK.out _ _ ?_ (fun hHeld => ?_)
        · exact H15.out.box
        clear hK K
        (try simp only [Act.put, List.setIfInBounds_toArray, List.set_cons_zero, List.set_cons_succ])
        refine wpAnyH_take (i := 15) (oi := { dst := some 23, op := Op.build 58 #[(0, Operand.tmp 14), (1, Operand.tmp 16), (2, Operand.tmp 18), (3, Operand.tmp 20), (4, Operand.tmp 22)], type := 58, pos := "record.go:61", after := #[{ on := 6, ground := Ground.data }, { on := 8, ground := Ground.data }, { on := 10, ground := Ground.data }, { on := 12, ground := Ground.data }, { on := 14, ground := Ground.data }], guard := none }) (v := ?vc10) rfl (by kernel_rfl) (by kernel_rfl) (by kernel_rfl) (fun _ _ _ h => h) (Or.inl ⟨by rfl, ?hc10⟩) hHeld ?rc10
        case hc10 => ((intro w hSw); (try dsimp only at hSw); go_simp; (try with_reducible rfl))
        (try simp only [Act.put, List.setIfInBounds_toArray, List.set_cons_zero, List.set_cons_succ])
        refine wpAnyH_ready (rs := [16]) (by kernel_rfl) (by simp) ?_
        refine AllReadyH.cons (o := { dst := some 24, op := Op.buildSlice 23 1 #[(0, Operand.tmp 23)], type := 23, pos := "record.go:61", after := #[{ on := 15, ground := Ground.data }], guard := none }) rfl (fun K hK => ?_) AllReadyH.nil
        go_simp
        have H16 := Lib.hid (H15.out.below ((Below.refl _ _).alloc (Nat.le_refl _) (.cells #[.int .i64 v11, .int .i64 v12, .int .i64 v13, .int .i64 v14, .int .i64 v15] 58)))
        have hrow : RowC (w15.alloc (.cells #[.int .i64 v11, .int .i64 v12, .int .i64 v13, .int .i64 v14, .int .i64 v15] 58)) w15.heap.size 58 (row9C (v11, v12, v13, v14, v15)) := heap_alloc_new w15 _
        have HROW := Lib.hid hrow
        clear hrow
        refine hK.out _ _ ?_ (fun hHeld => ?_)
        · exact H16.out.box
        clear hK K
        (try simp only [Act.put, List.setIfInBounds_toArray, List.set_cons_zero, List.set_cons_succ])
        refine wpAnyH_ready (rs := [17]) (by kernel_rfl) (by simp) ?_
        refine AllReadyH.cons (o := { dst := some 25, op := Op.call { callee := Callee.builtin Builtin.append, args := #[Operand.tmp 12, Operand.tmp 24], argTypes := #[23, 23] }, type := 23, pos := "record.go:61", after := #[{ on := 4, ground := Ground.data }, { on := 16, ground := Ground.data }, { on := 14, ground := Ground.chain }], guard := none }) rfl (fun K hK => ?_) AllReadyH.nil
        refine step_appLe (by rfl) _ _ _ (by rfl) w.heap.size 58 HUR.out rowInfo rfl (by omega) _ _ _ (by rfl) (ownLe_base H16.out.rc.ls.vr HNB.out) ⟨_, 0, none⟩ 1 1 (row9C (v11, v12, v13, v14, v15)) (by rfl) rfl (news_row HROW.out) (by intro u hu; simp only [row9C, List.mem_cons, List.not_mem_nil, or_false] at hu; rcases hu with rfl | rfl | rfl | rfl | rfl <;> rfl) (by show xs.length + 1 ≤ maxLen; unfold maxLen; omega) (by show (xs.length + 1) * 40 ≤ _; omega) (by have := H16.out.kept.size; exact this) ?_
        intro v17 w17 ho17 hg17 hat17
        obtain ⟨A17, c17, hv17⟩ := ownLe_slice ho17
        subst hv17
        have HO17 : Hid (OwnLe w17 w.heap.size 58 5 (.slice A17 (xs.length + 1) c17) (xs ++ [(v11, v12, v13, v14, v15)]).length (rowsC (xs ++ [(v11, v12, v13, v14, v15)]))) := Lib.hid (by rw [rowsC_snoc, List.length_append]; exact ho17)
        have T17 := H16.out.rows (z := z) (ownLe_base H16.out.rc.ls.vr HNB.out) hg17 HO17.out
        obtain ⟨_, _, r17, b17, _, _⟩ := H16.out.grown (ownLe_base H16.out.rc.ls.vr HNB.out) ⟨by decide, by decide, by decide, by decide⟩ hg17
        have HT17 := Lib.hid T17
        have HR17 := Lib.hid r17
        have HB17 := Lib.hid b17
        clear ho17 hg17 hat17 T17 r17 b17
        refine hK.out _ _ ?_ (fun hHeld => ?_)
        · exact HB17.out.cell rfl
        clear hK K
        (try simp only [Act.put, List.setIfInBounds_toArray, List.set_cons_zero, List.set_cons_succ])
        refine wpAnyH_take (i := 18) (oi := { dst := some 26, op := Op.nilCheck (Operand.tmp 8), type := 0, pos := "record.go:61", after := #[{ on := 0, ground := Ground.data }, { on := 0, ground := Ground.phase }, { on := 1, ground := Ground.phase }, { on := 2, ground := Ground.phase }, { on := 3, ground := Ground.phase }, { on := 4, ground := Ground.phase }, { on := 5, ground := Ground.phase }, { on := 6, ground := Ground.phase }, { on := 7, ground := Ground.phase }, { on := 8, ground := Ground.phase }, { on := 9, ground := Ground.phase }, { on := 10, ground := Ground.phase }, { on := 11, ground := Ground.phase }, { on := 12, ground := Ground.phase }, { on := 13, ground := Ground.phase }, { on := 14, ground := Ground.phase }, { on := 15, ground := Ground.phase }, { on := 16, ground := Ground.phase }, { on := 17, ground := Ground.phase }], guard := none }) (v := ?vc11) rfl (by kernel_rfl) (by kernel_rfl) (by kernel_rfl) (fun _ _ _ h => h) (Or.inl ⟨by rfl, ?hc11⟩) hHeld ?rc11
        case hc11 => ((intro w hSw); (try dsimp only at hSw); go_simp; (try with_reducible rfl))
        (try simp only [Act.put, List.setIfInBounds_toArray, List.set_cons_zero, List.set_cons_succ])
        refine wpAnyH_take (i := 19) (oi := { dst := some 27, op := Op.fieldAddr 26 (Operand.tmp 26) 9, type := 0, pos := "record.go:61", after := #[{ on := 18, ground := Ground.data }, { on := 0, ground := Ground.phase }, { on := 1, ground := Ground.phase }, { on := 2, ground := Ground.phase }, { on := 3, ground := Ground.phase }, { on := 4, ground := Ground.phase }, { on := 5, ground := Ground.phase }, { on := 6, ground := Ground.phase }, { on := 7, ground := Ground.phase }, { on := 8, ground := Ground.phase }, { on := 9, ground := Ground.phase }, { on := 10, ground := Ground.phase }, { on := 11, ground := Ground.phase }, { on := 12, ground := Ground.phase }, { on := 13, ground := Ground.phase }, { on := 14, ground := Ground.phase }, { on := 15, ground := Ground.phase }, { on := 16, ground := Ground.phase }, { on := 17, ground := Ground.phase }], guard := none }) (v := ?vc12) rfl (by kernel_rfl) (by kernel_rfl) (by kernel_rfl) (fun _ _ _ h => h) (Or.inl ⟨by rfl, ?hc12⟩) hHeld ?rc12
        case hc12 => ((intro w hSw); (try dsimp only at hSw); go_simp; (try with_reducible rfl))
        (try simp only [Act.put, List.setIfInBounds_toArray, List.set_cons_zero, List.set_cons_succ])
        refine wpAnyH_ready (rs := [20]) (by kernel_rfl) (by simp) ?_
        refine AllReadyH.cons (o := { dst := none, op := Op.store 23 (Operand.tmp 27) (Operand.tmp 25), type := 0, pos := "record.go:61", after := #[{ on := 19, ground := Ground.data }, { on := 17, ground := Ground.data }, { on := 17, ground := Ground.chain }, { on := 0, ground := Ground.phase }, { on := 1, ground := Ground.phase }, { on := 2, ground := Ground.phase }, { on := 3, ground := Ground.phase }, { on := 4, ground := Ground.phase }, { on := 5, ground := Ground.phase }, { on := 6, ground := Ground.phase }, { on := 7, ground := Ground.phase }, { on := 8, ground := Ground.phase }, { on := 9, ground := Ground.phase }, { on := 10, ground := Ground.phase }, { on := 11, ground := Ground.phase }, { on := 12, ground := Ground.phase }, { on := 13, ground := Ground.phase }, { on := 14, ground := Ground.phase }, { on := 15, ground := Ground.phase }, { on := 16, ground := Ground.phase }, { on := 17, ground := Ground.phase }], guard := none }) rfl (fun K hK => ?_) AllReadyH.nil
        have cf := HR17.out.cell (j := 9) (v := q0.vr) rfl
        have ff := HR17.out.free 9
        go_simp
        clear cf ff
        refine hK.out _ _ ?_ (fun hHeld => ?_)
        · exact HT17.out.1.box
        clear hK K
        (try simp only [Act.put, List.setIfInBounds_toArray, List.set_cons_zero, List.set_cons_succ])
        refine wpAnyH_done (by kernel_rfl) ?_ _
        go_wp2_with fail
        go_roundw
        case rel => exact ⟨k + 1, by omega, by go_num, ⟨xs ++ [(v11, v12, v13, v14, v15)], m15, { q0 with vr := .slice A17 (xs.length + 1) c17 }, gMany_snoc _ _ _ _ _ _ HGM.out (gRow9_at HG11.out HG12.out HG13.out HG14.out HG15.out), HT17.out.1, fun g hg => (ownLe_block HO17.out hg).1, HQD.out⟩⟩
        case measure => simp [intOf]; omega
      refine AllReadyH.cons (o := { dst := some 14, op := Op.call { callee := Callee.value (Operand.func 38), args := #[Operand.tmp 13], argTypes := #[75] }, type := 3, pos := "record.go:61", after := #[{ on := 5, ground := Ground.data }], guard := none }) rfl (fun K hK => ?_) AllReadyH.nil
      go_simp
      go_at_call 38
      refine H2d.out.lsn.mono ?_
      rintro e w11 (⟨hg, rfl, hk⟩ | ⟨v11, m11, hg, rfl, hS⟩)
      · exact And.intro rfl (St.fail (w0 := w0) (B := B) (o := pCheck z l) (pCheck_no1 HG1.out (gMany_none _ _ _ _ _ HGM.out (by unfold gRow9; simp only [hg, Option.bind_some, Option.bind_none, Option.map_none]) hlt)) hk)
      have HG11 := Lib.hid hg
      have H11 := Lib.hid hS
      clear hg hS
      try go_wp2_with fail
      refine hK.out _ _ ?_ (fun hHeld => ?_)
      · exact H11.out.box
      clear hK K
      (try simp only [Act.put, List.setIfInBounds_toArray, List.set_cons_zero, List.set_cons_succ])
      refine wpAnyH_ready (rs := [4, 8]) (by kernel_rfl) (by simp) ?_
      refine AllReadyH.cons (o := { dst := some 12, op := Op.load 23 (Operand.tmp 11), type := 23, pos := "record.go:61", after := #[{ on := 3, ground := Ground.data }], guard := none }) rfl (fun K hK => ?sc13) ?tc13
      case sc13 =>
        have cf := H11.out.rc.row.cell (j := 9) (v := q0.vr) rfl
        go_simp
        clear cf
        refine hK.out _ _ ?_ (fun hHeld => ?_)
        · exact hHeld
        clear hK K
        (try simp only [Act.put, List.setIfInBounds_toArray, List.set_cons_zero, List.set_cons_succ])
        refine wpAnyH_ready (rs := [8]) (by kernel_rfl) (by simp) ?_
        refine AllReadyH.cons (o := { dst := some 16, op := Op.call { callee := Callee.value (Operand.func 37), args := #[Operand.tmp 15, Operand.const (Value.int IntKind.i64 1)], argTypes := #[75, 3] }, type := 3, pos := "record.go:61", after := #[{ on := 7, ground := Ground.data }, { on := 6, ground := Ground.chain }], guard := none }) rfl (fun K hK => ?_) AllReadyH.nil
        go_simp
        go_at_call 37
        refine (H11.out.num 1 (.inl rfl) rfl).mono ?_
        rintro e w12 (⟨hg, rfl, hk⟩ | ⟨v12, m12, hg, rfl, hS⟩)
        · exact And.intro rfl (St.fail (w0 := w0) (B := B) (o := pCheck z l) (pCheck_no1 HG1.out (gMany_none _ _ _ _ _ HGM.out (by unfold gRow9; simp only [HG11.out, hg, Option.bind_some, Option.bind_none, Option.map_none]) hlt)) hk)
        have HG12 := Lib.hid hg
        have H12 := Lib.hid hS
        clear hg hS
        try go_wp2_with fail
        refine hK.out _ _ ?_ (fun hHeld => ?_)
        · exact H12.out.box
        clear hK K
        (try simp only [Act.put, List.setIfInBounds_toArray, List.set_cons_zero, List.set_cons_succ])
        refine wpAnyH_ready (rs := [10]) (by kernel_rfl) (by simp) ?_
        refine AllReadyH.cons (o := { dst := some 18, op := Op.call { callee := Callee.value (Operand.func 37), args := #[Operand.tmp 17, Operand.const (Value.int IntKind.i64 1)], argTypes := #[75, 3] }, type := 3, pos := "record.go:61", after := #[{ on := 9, ground := Ground.data }, { on := 8, ground := Ground.chain }], guard := none }) rfl (fun K hK => ?_) AllReadyH.nil
        go_simp
        go_at_call 37
        refine (H12.out.num 1 (.inl rfl) rfl).mono ?_
        rintro e w13 (⟨hg, rfl, hk⟩ | ⟨v13, m13, hg, rfl, hS⟩)
        · exact And.intro rfl (St.fail (w0 := w0) (B := B) (o := pCheck z l) (pCheck_no1 HG1.out (gMany_none _ _ _ _ _ HGM.out (by unfold gRow9; simp only [HG11.out, HG12.out, hg, Option.bind_some, Option.bind_none, Option.map_none]) hlt)) hk)
        have HG13 := Lib.hid hg
        have H13 := Lib.hid hS
        clear hg hS
        try go_wp2_with fail
        refine hK.out _ _ ?_ (fun hHeld => ?_)
        · exact H13.out.box
        clear hK K
        (try simp only [Act.put, List.setIfInBounds_toArray, List.set_cons_zero, List.set_cons_succ])
        refine wpAnyH_ready (rs := [12]) (by kernel_rfl) (by simp) ?_
        refine AllReadyH.cons (o := { dst := some 20, op := Op.call { callee := Callee.value (Operand.func 38), args := #[Operand.tmp 19], argTypes := #[75] }, type := 3, pos := "record.go:61", after := #[{ on := 11, ground := Ground.data }, { on := 10, ground := Ground.chain }], guard := none }) rfl (fun K hK => ?_) AllReadyH.nil
        go_simp
        go_at_call 38
        refine H13.out.lsn.mono ?_
        rintro e w14 (⟨hg, rfl, hk⟩ | ⟨v14, m14, hg, rfl, hS⟩)
        · exact And.intro rfl (St.fail (w0 := w0) (B := B) (o := pCheck z l) (pCheck_no1 HG1.out (gMany_none _ _ _ _ _ HGM.out (by unfold gRow9; simp only [HG11.out, HG12.out, HG13.out, hg, Option.bind_some, Option.bind_none, Option.map_none]) hlt)) hk)
        have HG14 := Lib.hid hg
        have H14 := Lib.hid hS
        clear hg hS
        try go_wp2_with fail
        refine hK.out _ _ ?_ (fun hHeld => ?_)
        · exact H14.out.box
        clear hK K
        (try simp only [Act.put, List.setIfInBounds_toArray, List.set_cons_zero, List.set_cons_succ])
        refine wpAnyH_ready (rs := [14]) (by kernel_rfl) (by simp) ?_
        refine AllReadyH.cons (o := { dst := some 22, op := Op.call { callee := Callee.value (Operand.func 38), args := #[Operand.tmp 21], argTypes := #[75] }, type := 3, pos := "record.go:61", after := #[{ on := 13, ground := Ground.data }, { on := 12, ground := Ground.chain }], guard := none }) rfl (fun K hK => ?_) AllReadyH.nil
        go_simp
        go_at_call 38
        refine H14.out.lsn.mono ?_
        rintro e w15 (⟨hg, rfl, hk⟩ | ⟨v15, m15, hg, rfl, hS⟩)
        · exact And.intro rfl (St.fail (w0 := w0) (B := B) (o := pCheck z l) (pCheck_no1 HG1.out (gMany_none _ _ _ _ _ HGM.out (by unfold gRow9; simp only [HG11.out, HG12.out, HG13.out, HG14.out, hg, Option.bind_some, Option.bind_none, Option.map_none]) hlt)) hk)
        have HG15 := Lib.hid hg
        have H15 := Lib.hid hS
        clear hg hS
        try go_wp2_with fail
        refine hK.out _ _ ?_ (fun hHeld => ?_)
        · exact H15.out.box
        clear hK K
        (try simp only [Act.put, List.setIfInBounds_toArray, List.set_cons_zero, List.set_cons_succ])
        refine wpAnyH_take (i := 15) (oi := { dst := some 23, op := Op.build 58 #[(0, Operand.tmp 14), (1, Operand.tmp 16), (2, Operand.tmp 18), (3, Operand.tmp 20), (4, Operand.tmp 22)], type := 58, pos := "record.go:61", after := #[{ on := 6, ground := Ground.data }, { on := 8, ground := Ground.data }, { on := 10, ground := Ground.data }, { on := 12, ground := Ground.data }, { on := 14, ground := Ground.data }], guard := none }) (v := ?vc14) rfl (by kernel_rfl) (by kernel_rfl) (by kernel_rfl) (fun _ _ _ h => h) (Or.inl ⟨by rfl, ?hc14⟩) hHeld ?rc14
        case hc14 => ((intro w hSw); (try dsimp only at hSw); go_simp; (try with_reducible rfl))
        (try simp only [Act.put, List.setIfInBounds_toArray, List.set_cons_zero, List.set_cons_succ])
        refine wpAnyH_ready (rs := [16]) (by kernel_rfl) (by simp) ?_
        refine AllReadyH.cons (o := { dst := some 24, op := Op.buildSlice 23 1 #[(0, Operand.tmp 23)], type := 23, pos := "record.go:61", after := #[{ on := 15, ground := Ground.data }], guard := none }) rfl (fun K hK => ?_) AllReadyH.nil
        go_simp
        have H16 := Lib.hid (H15.out.below ((Below.refl _ _).alloc (Nat.le_refl _) (.cells #[.int .i64 v11, .int .i64 v12, .int .i64 v13, .int .i64 v14, .int .i64 v15] 58)))
        have hrow : RowC (w15.alloc (.cells #[.int .i64 v11, .int .i64 v12, .int .i64 v13, .int .i64 v14, .int .i64 v15] 58)) w15.heap.size 58 (row9C (v11, v12, v13, v14, v15)) := heap_alloc_new w15 _
        have HROW := Lib.hid hrow
        clear hrow
        refine hK.out _ _ ?_ (fun hHeld => ?_)
        · exact H16.out.box
        clear hK K
        (try simp only [Act.put, List.setIfInBounds_toArray, List.set_cons_zero, List.set_cons_succ])
        refine wpAnyH_ready (rs := [17]) (by kernel_rfl) (by simp) ?_
        refine AllReadyH.cons (o := { dst := some 25, op := Op.call { callee := Callee.builtin Builtin.append, args := #[Operand.tmp 12, Operand.tmp 24], argTypes := #[23, 23] }, type := 23, pos := "record.go:61", after := #[{ on := 4, ground := Ground.data }, { on := 16, ground := Ground.data }, { on := 14, ground := Ground.chain }], guard := none }) rfl (fun K hK => ?_) AllReadyH.nil
        refine step_appLe (by rfl) _ _ _ (by rfl) w.heap.size 58 HUR.out rowInfo rfl (by omega) _ _ _ (by rfl) (ownLe_base H16.out.rc.ls.vr HNB.out) ⟨_, 0, none⟩ 1 1 (row9C (v11, v12, v13, v14, v15)) (by rfl) rfl (news_row HROW.out) (by intro u hu; simp only [row9C, List.mem_cons, List.not_mem_nil, or_false] at hu; rcases hu with rfl | rfl | rfl | rfl | rfl <;> rfl) (by show xs.length + 1 ≤ maxLen; unfold maxLen; omega) (by show (xs.length + 1) * 40 ≤ _; omega) (by have := H16.out.kept.size; exact this) ?_
        intro v17 w17 ho17 hg17 hat17
        obtain ⟨A17, c17, hv17⟩ := ownLe_slice ho17
        subst hv17
        have HO17 : Hid (OwnLe w17 w.heap.size 58 5 (.slice A17 (xs.length + 1) c17) (xs ++ [(v11, v12, v13, v14, v15)]).length (rowsC (xs ++ [(v11, v12, v13, v14, v15)]))) := Lib.hid (by rw [rowsC_snoc, List.length_append]; exact ho17)
        have T17 := H16.out.rows (z := z) (ownLe_base H16.out.rc.ls.vr HNB.out) hg17 HO17.out
        obtain ⟨_, _, r17, b17, _, _⟩ := H16.out.grown (ownLe_base H16.out.rc.ls.vr HNB.out) ⟨by decide, by decide, by decide, by decide⟩ hg17
        have HT17 := Lib.hid T17
        have HR17 := Lib.hid r17
        have HB17 := Lib.hid b17
        clear ho17 hg17 hat17 T17 r17 b17
        refine hK.out _ _ ?_ (fun hHeld => ?_)
        · exact HB17.out.cell rfl
        clear hK K
        (try simp only [Act.put, List.setIfInBounds_toArray, List.set_cons_zero, List.set_cons_succ])
        refine wpAnyH_take (i := 18) (oi := { dst := some 26, op := Op.nilCheck (Operand.tmp 8), type := 0, pos := "record.go:61", after := #[{ on := 0, ground := Ground.data }, { on := 0, ground := Ground.phase }, { on := 1, ground := Ground.phase }, { on := 2, ground := Ground.phase }, { on := 3, ground := Ground.phase }, { on := 4, ground := Ground.phase }, { on := 5, ground := Ground.phase }, { on := 6, ground := Ground.phase }, { on := 7, ground := Ground.phase }, { on := 8, ground := Ground.phase }, { on := 9, ground := Ground.phase }, { on := 10, ground := Ground.phase }, { on := 11, ground := Ground.phase }, { on := 12, ground := Ground.phase }, { on := 13, ground := Ground.phase }, { on := 14, ground := Ground.phase }, { on := 15, ground := Ground.phase }, { on := 16, ground := Ground.phase }, { on := 17, ground := Ground.phase }], guard := none }) (v := ?vc15) rfl (by kernel_rfl) (by kernel_rfl) (by kernel_rfl) (fun _ _ _ h => h) (Or.inl ⟨by rfl, ?hc15⟩) hHeld ?rc15
        case hc15 => ((intro w hSw); (try dsimp only at hSw); go_simp; (try with_reducible rfl))
        (try simp only [Act.put, List.setIfInBounds_toArray, List.set_cons_zero, List.set_cons_succ])
        refine wpAnyH_take (i := 19) (oi := { dst := some 27, op := Op.fieldAddr 26 (Operand.tmp 26) 9, type := 0, pos := "record.go:61", after := #[{ on := 18, ground := Ground.data }, { on := 0, ground := Ground.phase }, { on := 1, ground := Ground.phase }, { on := 2, ground := Ground.phase }, { on := 3, ground := Ground.phase }, { on := 4, ground := Ground.phase }, { on := 5, ground := Ground.phase }, { on := 6, ground := Ground.phase }, { on := 7, ground := Ground.phase }, { on := 8, ground := Ground.phase }, { on := 9, ground := Ground.phase }, { on := 10, ground := Ground.phase }, { on := 11, ground := Ground.phase }, { on := 12, ground := Ground.phase }, { on := 13, ground := Ground.phase }, { on := 14, ground := Ground.phase }, { on := 15, ground := Ground.phase }, { on := 16, ground := Ground.phase }, { on := 17, ground := Ground.phase }], guard := none }) (v := ?vc16) rfl (by kernel_rfl) (by kernel_rfl) (by kernel_rfl) (fun _ _ _ h => h) (Or.inl ⟨by rfl, ?hc16⟩) hHeld ?rc16
        case hc16 => ((intro w hSw); (try dsimp only at hSw); go_simp; (try with_reducible rfl))
        (try simp only [Act.put, List.setIfInBounds_toArray, List.set_cons_zero, List.set_cons_succ])
        refine wpAnyH_ready (rs := [20]) (by kernel_rfl) (by simp) ?_
        refine AllReadyH.cons (o := { dst := none, op := Op.store 23 (Operand.tmp 27) (Operand.tmp 25), type := 0, pos := "record.go:61", after := #[{ on := 19, ground := Ground.data }, { on := 17, ground := Ground.data }, { on := 17, ground := Ground.chain }, { on := 0, ground := Ground.phase }, { on := 1, ground := Ground.phase }, { on := 2, ground := Ground.phase }, { on := 3, ground := Ground.phase }, { on := 4, ground := Ground.phase }, { on := 5, ground := Ground.phase }, { on := 6, ground := Ground.phase }, { on := 7, ground := Ground.phase }, { on := 8, ground := Ground.phase }, { on := 9, ground := Ground.phase }, { on := 10, ground := Ground.phase }, { on := 11, ground := Ground.phase }, { on := 12, ground := Ground.phase }, { on := 13, ground := Ground.phase }, { on := 14, ground := Ground.phase }, { on := 15, ground := Ground.phase }, { on := 16, ground := Ground.phase }, { on := 17, ground := Ground.phase }], guard := none }) rfl (fun K hK => ?_) AllReadyH.nil
        have cf := HR17.out.cell (j := 9) (v := q0.vr) rfl
        have ff := HR17.out.free 9
        go_simp
        clear cf ff
        refine hK.out _ _ ?_ (fun hHeld => ?_)
        · exact HT17.out.1.box
        clear hK K
        (try simp only [Act.put, List.setIfInBounds_toArray, List.set_cons_zero, List.set_cons_succ])
        refine wpAnyH_done (by kernel_rfl) ?_ _
        go_wp2_with fail
        go_roundw
        case rel => exact ⟨k + 1, by omega, by go_num, ⟨xs ++ [(v11, v12, v13, v14, v15)], m15, { q0 with vr := .slice A17 (xs.length + 1) c17 }, gMany_snoc _ _ _ _ _ _ HGM.out (gRow9_at HG11.out HG12.out HG13.out HG14.out HG15.out), HT17.out.1, fun g hg => (ownLe_block HO17.out hg).1, HQD.out⟩⟩
        case measure => simp [intOf]; omega
      refine AllReadyH.cons (o := { dst := some 16, op := Op.call { callee := Callee.value (Operand.func 37), args := #[Operand.tmp 15, Operand.const (Value.int IntKind.i64 1)], argTypes := #[75, 3] }, type := 3, pos := "record.go:61", after := #[{ on := 7, ground := Ground.data }, { on := 6, ground := Ground.chain }], guard := none }) rfl (fun K hK => ?_) AllReadyH.nil
      go_simp
      go_at_call 37
      refine (H11.out.num 1 (.inl rfl) rfl).mono ?_
      rintro e w12 (⟨hg, rfl, hk⟩ | ⟨v12, m12, hg, rfl, hS⟩)
      · exact And.intro rfl (St.fail (w0 := w0) (B := B) (o := pCheck z l) (pCheck_no1 HG1.out (gMany_none _ _ _ _ _ HGM.out (by unfold gRow9; simp only [HG11.out, hg, Option.bind_some, Option.bind_none, Option.map_none]) hlt)) hk)
      have HG12 := Lib.hid hg
      have H12 := Lib.hid hS
      clear hg hS
      try go_wp2_with fail
      refine hK.out _ _ ?_ (fun hHeld => ?_)
      · exact H12.out.box
      clear hK K
      (try simp only [Act.put, List.setIfInBounds_toArray, List.set_cons_zero, List.set_cons_succ])
      refine wpAnyH_ready (rs := [4, 10]) (by kernel_rfl) (by simp) ?_
      refine AllReadyH.cons (o := { dst := some 12, op := Op.load 23 (Operand.tmp 11), type := 23, pos := "record.go:61", after := #[{ on := 3, ground := Ground.data }], guard := none }) rfl (fun K hK => ?sc17) ?tc17
      case sc17 =>
        have cf := H12.out.rc.row.cell (j := 9) (v := q0.vr) rfl
        go_simp
        clear cf
        refine hK.out _ _ ?_ (fun hHeld => ?_)
        · exact hHeld
        clear hK K
        (try simp only [Act.put, List.setIfInBounds_toArray, List.set_cons_zero, List.set_cons_succ])
        refine wpAnyH_ready (rs := [10]) (by kernel_rfl) (by simp) ?_
        refine AllReadyH.cons (o := { dst := some 18, op := Op.call { callee := Callee.value (Operand.func 37), args := #[Operand.tmp 17, Operand.const (Value.int IntKind.i64 1)], argTypes := #[75, 3] }, type := 3, pos := "record.go:61", after := #[{ on := 9, ground := Ground.data }, { on := 8, ground := Ground.chain }], guard := none }) rfl (fun K hK => ?_) AllReadyH.nil
        go_simp
        go_at_call 37
        refine (H12.out.num 1 (.inl rfl) rfl).mono ?_
        rintro e w13 (⟨hg, rfl, hk⟩ | ⟨v13, m13, hg, rfl, hS⟩)
        · exact And.intro rfl (St.fail (w0 := w0) (B := B) (o := pCheck z l) (pCheck_no1 HG1.out (gMany_none _ _ _ _ _ HGM.out (by unfold gRow9; simp only [HG11.out, HG12.out, hg, Option.bind_some, Option.bind_none, Option.map_none]) hlt)) hk)
        have HG13 := Lib.hid hg
        have H13 := Lib.hid hS
        clear hg hS
        try go_wp2_with fail
        refine hK.out _ _ ?_ (fun hHeld => ?_)
        · exact H13.out.box
        clear hK K
        (try simp only [Act.put, List.setIfInBounds_toArray, List.set_cons_zero, List.set_cons_succ])
        refine wpAnyH_ready (rs := [12]) (by kernel_rfl) (by simp) ?_
        refine AllReadyH.cons (o := { dst := some 20, op := Op.call { callee := Callee.value (Operand.func 38), args := #[Operand.tmp 19], argTypes := #[75] }, type := 3, pos := "record.go:61", after := #[{ on := 11, ground := Ground.data }, { on := 10, ground := Ground.chain }], guard := none }) rfl (fun K hK => ?_) AllReadyH.nil
        go_simp
        go_at_call 38
        refine H13.out.lsn.mono ?_
        rintro e w14 (⟨hg, rfl, hk⟩ | ⟨v14, m14, hg, rfl, hS⟩)
        · exact And.intro rfl (St.fail (w0 := w0) (B := B) (o := pCheck z l) (pCheck_no1 HG1.out (gMany_none _ _ _ _ _ HGM.out (by unfold gRow9; simp only [HG11.out, HG12.out, HG13.out, hg, Option.bind_some, Option.bind_none, Option.map_none]) hlt)) hk)
        have HG14 := Lib.hid hg
        have H14 := Lib.hid hS
        clear hg hS
        try go_wp2_with fail
        refine hK.out _ _ ?_ (fun hHeld => ?_)
        · exact H14.out.box
        clear hK K
        (try simp only [Act.put, List.setIfInBounds_toArray, List.set_cons_zero, List.set_cons_succ])
        refine wpAnyH_ready (rs := [14]) (by kernel_rfl) (by simp) ?_
        refine AllReadyH.cons (o := { dst := some 22, op := Op.call { callee := Callee.value (Operand.func 38), args := #[Operand.tmp 21], argTypes := #[75] }, type := 3, pos := "record.go:61", after := #[{ on := 13, ground := Ground.data }, { on := 12, ground := Ground.chain }], guard := none }) rfl (fun K hK => ?_) AllReadyH.nil
        go_simp
        go_at_call 38
        refine H14.out.lsn.mono ?_
        rintro e w15 (⟨hg, rfl, hk⟩ | ⟨v15, m15, hg, rfl, hS⟩)
        · exact And.intro rfl (St.fail (w0 := w0) (B := B) (o := pCheck z l) (pCheck_no1 HG1.out (gMany_none _ _ _ _ _ HGM.out (by unfold gRow9; simp only [HG11.out, HG12.out, HG13.out, HG14.out, hg, Option.bind_some, Option.bind_none, Option.map_none]) hlt)) hk)
        have HG15 := Lib.hid hg
        have H15 := Lib.hid hS
        clear hg hS
        try go_wp2_with fail
        refine hK.out _ _ ?_ (fun hHeld => ?_)
        · exact H15.out.box
        clear hK K
        (try simp only [Act.put, List.setIfInBounds_toArray, List.set_cons_zero, List.set_cons_succ])
        refine wpAnyH_take (i := 15) (oi := { dst := some 23, op := Op.build 58 #[(0, Operand.tmp 14), (1, Operand.tmp 16), (2, Operand.tmp 18), (3, Operand.tmp 20), (4, Operand.tmp 22)], type := 58, pos := "record.go:61", after := #[{ on := 6, ground := Ground.data }, { on := 8, ground := Ground.data }, { on := 10, ground := Ground.data }, { on := 12, ground := Ground.data }, { on := 14, ground := Ground.data }], guard := none }) (v := ?vc18) rfl (by kernel_rfl) (by kernel_rfl) (by kernel_rfl) (fun _ _ _ h => h) (Or.inl ⟨by rfl, ?hc18⟩) hHeld ?rc18
        case hc18 => ((intro w hSw); (try dsimp only at hSw); go_simp; (try with_reducible rfl))
        (try simp only [Act.put, List.setIfInBounds_toArray, List.set_cons_zero, List.set_cons_succ])
        refine wpAnyH_ready (rs := [16]) (by kernel_rfl) (by simp) ?_
        refine AllReadyH.cons (o := { dst := some 24, op := Op.buildSlice 23 1 #[(0, Operand.tmp 23)], type := 23, pos := "record.go:61", after := #[{ on := 15, ground := Ground.data }], guard := none }) rfl (fun K hK => ?_) AllReadyH.nil
        go_simp
        have H16 := Lib.hid (H15.out.below ((Below.refl _ _).alloc (Nat.le_refl _) (.cells #[.int .i64 v11, .int .i64 v12, .int .i64 v13, .int .i64 v14, .int .i64 v15] 58)))
        have hrow : RowC (w15.alloc (.cells #[.int .i64 v11, .int .i64 v12, .int .i64 v13, .int .i64 v14, .int .i64 v15] 58)) w15.heap.size 58 (row9C (v11, v12, v13, v14, v15)) := heap_alloc_new w15 _
        have HROW := Lib.hid hrow
        clear hrow
        refine hK.out _ _ ?_ (fun hHeld => ?_)
        · exact H16.out.box
        clear hK K
        (try simp only [Act.put, List.setIfInBounds_toArray, List.set_cons_zero, List.set_cons_succ])
        refine wpAnyH_ready (rs := [17]) (by kernel_rfl) (by simp) ?_
        refine AllReadyH.cons (o := { dst := some 25, op := Op.call { callee := Callee.builtin Builtin.append, args := #[Operand.tmp 12, Operand.tmp 24], argTypes := #[23, 23] }, type := 23, pos := "record.go:61", after := #[{ on := 4, ground := Ground.data }, { on := 16, ground := Ground.data }, { on := 14, ground := Ground.chain }], guard := none }) rfl (fun K hK => ?_) AllReadyH.nil
        refine step_appLe (by rfl) _ _ _ (by rfl) w.heap.size 58 HUR.out rowInfo rfl (by omega) _ _ _ (by rfl) (ownLe_base H16.out.rc.ls.vr HNB.out) ⟨_, 0, none⟩ 1 1 (row9C (v11, v12, v13, v14, v15)) (by rfl) rfl (news_row HROW.out) (by intro u hu; simp only [row9C, List.mem_cons, List.not_mem_nil, or_false] at hu; rcases hu with rfl | rfl | rfl | rfl | rfl <;> rfl) (by show xs.length + 1 ≤ maxLen; unfold maxLen; omega) (by show (xs.length + 1) * 40 ≤ _; omega) (by have := H16.out.kept.size; exact this) ?_
        intro v17 w17 ho17 hg17 hat17
        obtain ⟨A17, c17, hv17⟩ := ownLe_slice ho17
        subst hv17
        have HO17 : Hid (OwnLe w17 w.heap.size 58 5 (.slice A17 (xs.length + 1) c17) (xs ++ [(v11, v12, v13, v14, v15)]).length (rowsC (xs ++ [(v11, v12, v13, v14, v15)]))) := Lib.hid (by rw [rowsC_snoc, List.length_append]; exact ho17)
        have T17 := H16.out.rows (z := z) (ownLe_base H16.out.rc.ls.vr HNB.out) hg17 HO17.out
        obtain ⟨_, _, r17, b17, _, _⟩ := H16.out.grown (ownLe_base H16.out.rc.ls.vr HNB.out) ⟨by decide, by decide, by decide, by decide⟩ hg17
        have HT17 := Lib.hid T17
        have HR17 := Lib.hid r17
        have HB17 := Lib.hid b17
        clear ho17 hg17 hat17 T17 r17 b17
        refine hK.out _ _ ?_ (fun hHeld => ?_)
        · exact HB17.out.cell rfl
        clear hK K
        (try simp only [Act.put, List.setIfInBounds_toArray, List.set_cons_zero, List.set_cons_succ])
        refine wpAnyH_take (i := 18) (oi := { dst := some 26, op := Op.nilCheck (Operand.tmp 8), type := 0, pos := "record.go:61", after := #[{ on := 0, ground := Ground.data }, { on := 0, ground := Ground.phase }, { on := 1, ground := Ground.phase }, { on := 2, ground := Ground.phase }, { on := 3, ground := Ground.phase }, { on := 4, ground := Ground.phase }, { on := 5, ground := Ground.phase }, { on := 6, ground := Ground.phase }, { on := 7, ground := Ground.phase }, { on := 8, ground := Ground.phase }, { on := 9, ground := Ground.phase }, { on := 10, ground := Ground.phase }, { on := 11, ground := Ground.phase }, { on := 12, ground := Ground.phase }, { on := 13, ground := Ground.phase }, { on := 14, ground := Ground.phase }, { on := 15, ground := Ground.phase }, { on := 16, ground := Ground.phase }, { on := 17, ground := Ground.phase }], guard := none }) (v := ?vc19) rfl (by kernel_rfl) (by kernel_rfl) (by kernel_rfl) (fun _ _ _ h => h) (Or.inl ⟨by rfl, ?hc19⟩) hHeld ?rc19
        case hc19 => ((intro w hSw); (try dsimp only at hSw); go_simp; (try with_reducible rfl))
        (try simp only [Act.put, List.setIfInBounds_toArray, List.set_cons_zero, List.set_cons_succ])
        refine wpAnyH_take (i := 19) (oi := { dst := some 27, op := Op.fieldAddr 26 (Operand.tmp 26) 9, type := 0, pos := "record.go:61", after := #[{ on := 18, ground := Ground.data }, { on := 0, ground := Ground.phase }, { on := 1, ground := Ground.phase }, { on := 2, ground := Ground.phase }, { on := 3, ground := Ground.phase }, { on := 4, ground := Ground.phase }, { on := 5, ground := Ground.phase }, { on := 6, ground := Ground.phase }, { on := 7, ground := Ground.phase }, { on := 8, ground := Ground.phase }, { on := 9, ground := Ground.phase }, { on := 10, ground := Ground.phase }, { on := 11, ground := Ground.phase }, { on := 12, ground := Ground.phase }, { on := 13, ground := Ground.phase }, { on := 14, ground := Ground.phase }, { on := 15, ground := Ground.phase }, { on := 16, ground := Ground.phase }, { on := 17, ground := Ground.phase }], guard := none }) (v := ?vc20) rfl (by kernel_rfl) (by kernel_rfl) (by kernel_rfl) (fun _ _ _ h => h) (Or.inl ⟨by rfl, ?hc20⟩) hHeld ?rc20
        case hc20 => ((intro w hSw); (try dsimp only at hSw); go_simp; (try with_reducible rfl))
        (try simp only [Act.put, List.setIfInBounds_toArray, List.set_cons_zero, List.set_cons_succ])
        refine wpAnyH_ready (rs := [20]) (by kernel_rfl) (by simp) ?_
        refine AllReadyH.cons (o := { dst := none, op := Op.store 23 (Operand.tmp 27) (Operand.tmp 25), type := 0, pos := "record.go:61", after := #[{ on := 19, ground := Ground.data }, { on := 17, ground := Ground.data }, { on := 17, ground := Ground.chain }, { on := 0, ground := Ground.phase }, { on := 1, ground := Ground.phase }, { on := 2, ground := Ground.phase }, { on := 3, ground := Ground.phase }, { on := 4, ground := Ground.phase }, { on := 5, ground := Ground.phase }, { on := 6, ground := Ground.phase }, { on := 7, ground := Ground.phase }, { on := 8, ground := Ground.phase }, { on := 9, ground := Ground.phase }, { on := 10, ground := Ground.phase }, { on := 11, ground := Ground.phase }, { on := 12, ground := Ground.phase }, { on := 13, ground := Ground.phase }, { on := 14, ground := Ground.phase }, { on := 15, ground := Ground.phase }, { on := 16, ground := Ground.phase }, { on := 17, ground := Ground.phase }], guard := none }) rfl (fun K hK => ?_) AllReadyH.nil
        have cf := HR17.out.cell (j := 9) (v := q0.vr) rfl
        have ff := HR17.out.free 9
        go_simp
        clear cf ff
        refine hK.out _ _ ?_ (fun hHeld => ?_)
        · exact HT17.out.1.box
        clear hK K
        (try simp only [Act.put, List.setIfInBounds_toArray, List.set_cons_zero, List.set_cons_succ])
        refine wpAnyH_done (by kernel_rfl) ?_ _
        go_wp2_with fail
        go_roundw
        case rel => exact ⟨k + 1, by omega, by go_num, ⟨xs ++ [(v11, v12, v13, v14, v15)], m15, { q0 with vr := .slice A17 (xs.length + 1) c17 }, gMany_snoc _ _ _ _ _ _ HGM.out (gRow9_at HG11.out HG12.out HG13.out HG14.out HG15.out), HT17.out.1, fun g hg => (ownLe_block HO17.out hg).1, HQD.out⟩⟩
        case measure => simp [intOf]; omega
      refine AllReadyH.cons (o := { dst := some 18, op := Op.call { callee := Callee.value (Operand.func 37), args := #[Operand.tmp 17, Operand.const (Value.int IntKind.i64 1)], argTypes := #[75, 3] }, type := 3, pos := "record.go:61", after := #[{ on := 9, ground := Ground.data }, { on := 8, ground := Ground.chain }], guard := none }) rfl (fun K hK => ?_) AllReadyH.nil
      go_simp
      go_at_call 37
      refine (H12.out.num 1 (.inl rfl) rfl).mono ?_
      rintro e w13 (⟨hg, rfl, hk⟩ | ⟨v13, m13, hg, rfl, hS⟩)
      · exact And.intro rfl (St.fail (w0 := w0) (B := B) (o := pCheck z l) (pCheck_no1 HG1.out (gMany_none _ _ _ _ _ HGM.out (by unfold gRow9; simp only [HG11.out, HG12.out, hg, Option.bind_some, Option.bind_none, Option.map_none]) hlt)) hk)
      have HG13 := Lib.hid hg
      have H13 := Lib.hid hS
      clear hg hS
      try go_wp2_with fail
      refine hK.out _ _ ?_ (fun hHeld => ?_)
      · exact H13.out.box
      clear hK K
      (try simp only [Act.put, List.setIfInBounds_toArray, List.set_cons_zero, List.set_cons_succ])
      refine wpAnyH_ready (rs := [4, 12]) (by kernel_rfl) (by simp) ?_
      refine AllReadyH.cons (o := { dst := some 12, op := Op.load 23 (Operand.tmp 11), type := 23, pos := "record.go:61", after := #[{ on := 3, ground := Ground.data }], guard := none }) rfl (fun K hK => ?sc21) ?tc21
      case sc21 =>
        have cf := H13.out.rc.row.cell (j := 9) (v := q0.vr) rfl
        go_simp
        clear cf
        refine hK.out _ _ ?_ (fun hHeld => ?_)
        · exact hHeld
        clear hK K
        (try simp only [Act.put, List.setIfInBounds_toArray, List.set_cons_zero, List.set_cons_succ])
        refine wpAnyH_ready (rs := [12]) (by kernel_rfl) (by simp) ?_
        refine AllReadyH.cons (o := { dst := some 20, op := Op.call { callee := Callee.value (Operand.func 38), args := #[Operand.tmp 19], argTypes := #[75] }, type := 3, pos := "record.go:61", after := #[{ on := 11, ground := Ground.data }, { on := 10, ground := Ground.chain }], guard := none }) rfl (fun K hK => ?_) AllReadyH.nil
        go_simp
        go_at_call 38
        refine H13.out.lsn.mono ?_
        rintro e w14 (⟨hg, rfl, hk⟩ | ⟨v14, m14, hg, rfl, hS⟩)
        · exact And.intro rfl (St.fail (w0 := w0) (B := B) (o := pCheck z l) (pCheck_no1 HG1.out (gMany_none _ _ _ _ _ HGM.out (by unfold gRow9; simp only [HG11.out, HG12.out, HG13.out, hg, Option.bind_some, Option.bind_none, Option.map_none]) hlt)) hk)
        have HG14 := Lib.hid hg
        have H14 := Lib.hid hS
        clear hg hS
        try go_wp2_with fail
        refine hK.out _ _ ?_ (fun hHeld => ?_)
        · exact H14.out.box
        clear hK K
        (try simp only [Act.put, List.setIfInBounds_toArray, List.set_cons_zero, List.set_cons_succ])
        refine wpAnyH_ready (rs := [14]) (by kernel_rfl) (by simp) ?_
        refine AllReadyH.cons (o := { dst := some 22, op := Op.call { callee := Callee.value (Operand.func 38), args := #[Operand.tmp 21], argTypes := #[75] }, type := 3, pos := "record.go:61", after := #[{ on := 13, ground := Ground.data }, { on := 12, ground := Ground.chain }], guard := none }) rfl (fun K hK => ?_) AllReadyH.nil
        go_simp
        go_at_call 38
        refine H14.out.lsn.mono ?_
        rintro e w15 (⟨hg, rfl, hk⟩ | ⟨v15, m15, hg, rfl, hS⟩)
        · exact And.intro rfl (St.fail (w0 := w0) (B := B) (o := pCheck z l) (pCheck_no1 HG1.out (gMany_none _ _ _ _ _ HGM.out (by unfold gRow9; simp only [HG11.out, HG12.out, HG13.out, HG14.out, hg, Option.bind_some, Option.bind_none, Option.map_none]) hlt)) hk)
        have HG15 := Lib.hid hg
        have H15 := Lib.hid hS
        clear hg hS
        try go_wp2_with fail
        refine hK.out _ _ ?_ (fun hHeld => ?_)
        · exact H15.out.box
        clear hK K
        (try simp only [Act.put, List.setIfInBounds_toArray, List.set_cons_zero, List.set_cons_succ])
        refine wpAnyH_take (i := 15) (oi := { dst := some 23, op := Op.build 58 #[(0, Operand.tmp 14), (1, Operand.tmp 16), (2, Operand.tmp 18), (3, Operand.tmp 20), (4, Operand.tmp 22)], type := 58, pos := "record.go:61", after := #[{ on := 6, ground := Ground.data }, { on := 8, ground := Ground.data }, { on := 10, ground := Ground.data }, { on := 12, ground := Ground.data }, { on := 14, ground := Ground.data }], guard := none }) (v := ?vc22) rfl (by kernel_rfl) (by kernel_rfl) (by kernel_rfl) (fun _ _ _ h => h) (Or.inl ⟨by rfl, ?hc22⟩) hHeld ?rc22
        case hc22 => ((intro w hSw); (try dsimp only at hSw); go_simp; (try with_reducible rfl))
        (try simp only [Act.put, List.setIfInBounds_toArray, List.set_cons_zero, List.set_cons_succ])
        refine wpAnyH_ready (rs := [16]) (by kernel_rfl) (by simp) ?_
        refine AllReadyH.cons (o := { dst := some 24, op := Op.buildSlice 23 1 #[(0, Operand.tmp 23)], type := 23, pos := "record.go:61", after := #[{ on := 15, ground := Ground.data }], guard := none }) rfl (fun K hK => ?_) AllReadyH.nil
        go_simp
        have H16 := Lib.hid (H15.out.below ((Below.refl _ _).alloc (Nat.le_refl _) (.cells #[.int .i64 v11, .int .i64 v12, .int .i64 v13, .int .i64 v14, .int .i64 v15] 58)))
        have hrow : RowC (w15.alloc (.cells #[.int .i64 v11, .int .i64 v12, .int .i64 v13, .int .i64 v14, .int .i64 v15] 58)) w15.heap.size 58 (row9C (v11, v12, v13, v14, v15)) := heap_alloc_new w15 _
        have HROW := Lib.hid hrow
        clear hrow
        refine hK.out _ _ ?_ (fun hHeld => ?_)
        · exact H16.out.box
        clear hK K
        (try simp only [Act.put, List.setIfInBounds_toArray, List.set_cons_zero, List.set_cons_succ])
        refine wpAnyH_ready (rs := [17]) (by kernel_rfl) (by simp) ?_
        refine AllReadyH.cons (o := { dst := some 25, op := Op.call { callee := Callee.builtin Builtin.append, args := #[Operand.tmp 12, Operand.tmp 24], argTypes := #[23, 23] }, type := 23, pos := "record.go:61", after := #[{ on := 4, ground := Ground.data }, { on := 16, ground := Ground.data }, { on := 14, ground := Ground.chain }], guard := none }) rfl (fun K hK => ?_) AllReadyH.nil
        refine step_appLe (by rfl) _ _ _ (by rfl) w.heap.size 58 HUR.out rowInfo rfl (by omega) _ _ _ (by rfl) (ownLe_base H16.out.rc.ls.vr HNB.out) ⟨_, 0, none⟩ 1 1 (row9C (v11, v12, v13, v14, v15)) (by rfl) rfl (news_row HROW.out) (by intro u hu; simp only [row9C, List.mem_cons, List.not_mem_nil, or_false] at hu; rcases hu with rfl | rfl | rfl | rfl | rfl <;> rfl) (by show xs.length + 1 ≤ maxLen; unfold maxLen; omega) (by show (xs.length + 1) * 40 ≤ _; omega) (by have := H16.out.kept.size; exact this) ?_
        intro v17 w17 ho17 hg17 hat17
        obtain ⟨A17, c17, hv17⟩ := ownLe_slice ho17
        subst hv17
        have HO17 : Hid (OwnLe w17 w.heap.size 58 5 (.slice A17 (xs.length + 1) c17) (xs ++ [(v11, v12, v13, v14, v15)]).length (rowsC (xs ++ [(v11, v12, v13, v14, v15)]))) := Lib.hid (by rw [rowsC_snoc, List.length_append]; exact ho17)
        have T17 := H16.out.rows (z := z) (ownLe_base H16.out.rc.ls.vr HNB.out) hg17 HO17.out
        obtain ⟨_, _, r17, b17, _, _⟩ := H16.out.grown (ownLe_base H16.out.rc.ls.vr HNB.out) ⟨by decide, by decide, by decide, by decide⟩ hg17
        have HT17 := Lib.hid T17
        have HR17 := Lib.hid r17
        have HB17 := Lib.hid b17
        clear ho17 hg17 hat17 T17 r17 b17
        refine hK.out _ _ ?_ (fun hHeld => ?_)
        · exact HB17.out.cell rfl
        clear hK K
        (try simp only [Act.put, List.setIfInBounds_toArray, List.set_cons_zero, List.set_cons_succ])
        refine wpAnyH_take (i := 18) (oi := { dst := some 26, op := Op.nilCheck (Operand.tmp 8), type := 0, pos := "record.go:61", after := #[{ on := 0, ground := Ground.data }, { on := 0, ground := Ground.phase }, { on := 1, ground := Ground.phase }, { on := 2, ground := Ground.phase }, { on := 3, ground := Ground.phase }, { on := 4, ground := Ground.phase }, { on := 5, ground := Ground.phase }, { on := 6, ground := Ground.phase }, { on := 7, ground := Ground.phase }, { on := 8, ground := Ground.phase }, { on := 9, ground := Ground.phase }, { on := 10, ground := Ground.phase }, { on := 11, ground := Ground.phase }, { on := 12, ground := Ground.phase }, { on := 13, ground := Ground.phase }, { on := 14, ground := Ground.phase }, { on := 15, ground := Ground.phase }, { on := 16, ground := Ground.phase }, { on := 17, ground := Ground.phase }], guard := none }) (v := ?vc23) rfl (by kernel_rfl) (by kernel_rfl) (by kernel_rfl) (fun _ _ _ h => h) (Or.inl ⟨by rfl, ?hc23⟩) hHeld ?rc23
        case hc23 => ((intro w hSw); (try dsimp only at hSw); go_simp; (try with_reducible rfl))
        (try simp only [Act.put, List.setIfInBounds_toArray, List.set_cons_zero, List.set_cons_succ])
        refine wpAnyH_take (i := 19) (oi := { dst := some 27, op := Op.fieldAddr 26 (Operand.tmp 26) 9, type := 0, pos := "record.go:61", after := #[{ on := 18, ground := Ground.data }, { on := 0, ground := Ground.phase }, { on := 1, ground := Ground.phase }, { on := 2, ground := Ground.phase }, { on := 3, ground := Ground.phase }, { on := 4, ground := Ground.phase }, { on := 5, ground := Ground.phase }, { on := 6, ground := Ground.phase }, { on := 7, ground := Ground.phase }, { on := 8, ground := Ground.phase }, { on := 9, ground := Ground.phase }, { on := 10, ground := Ground.phase }, { on := 11, ground := Ground.phase }, { on := 12, ground := Ground.phase }, { on := 13, ground := Ground.phase }, { on := 14, ground := Ground.phase }, { on := 15, ground := Ground.phase }, { on := 16, ground := Ground.phase }, { on := 17, ground := Ground.phase }], guard := none }) (v := ?vc24) rfl (by kernel_rfl) (by kernel_rfl) (by kernel_rfl) (fun _ _ _ h => h) (Or.inl ⟨by rfl, ?hc24⟩) hHeld ?rc24
        case hc24 => ((intro w hSw); (try dsimp only at hSw); go_simp; (try with_reducible rfl))
        (try simp only [Act.put, List.setIfInBounds_toArray, List.set_cons_zero, List.set_cons_succ])
        refine wpAnyH_ready (rs := [20]) (by kernel_rfl) (by simp) ?_
        refine AllReadyH.cons (o := { dst := none, op := Op.store 23 (Operand.tmp 27) (Operand.tmp 25), type := 0, pos := "record.go:61", after := #[{ on := 19, ground := Ground.data }, { on := 17, ground := Ground.data }, { on := 17, ground := Ground.chain }, { on := 0, ground := Ground.phase }, { on := 1, ground := Ground.phase }, { on := 2, ground := Ground.phase }, { on := 3, ground := Ground.phase }, { on := 4, ground := Ground.phase }, { on := 5, ground := Ground.phase }, { on := 6, ground := Ground.phase }, { on := 7, ground := Ground.phase }, { on := 8, ground := Ground.phase }, { on := 9, ground := Ground.phase }, { on := 10, ground := Ground.phase }, { on := 11, ground := Ground.phase }, { on := 12, ground := Ground.phase }, { on := 13, ground := Ground.phase }, { on := 14, ground := Ground.phase }, { on := 15, ground := Ground.phase }, { on := 16, ground := Ground.phase }, { on := 17, ground := Ground.phase }], guard := none }) rfl (fun K hK => ?_) AllReadyH.nil
        have cf := HR17.out.cell (j := 9) (v := q0.vr) rfl
        have ff := HR17.out.free 9
        go_simp
        clear cf ff
        refine hK.out _ _ ?_ (fun hHeld => ?_)
        · exact HT17.out.1.box
        clear hK K
        (try simp only [Act.put, List.setIfInBounds_toArray, List.set_cons_zero, List.set_cons_succ])
        refine wpAnyH_done (by kernel_rfl) ?_ _
        go_wp2_with fail
        go_roundw
        case rel => exact ⟨k + 1, by omega, by go_num, ⟨xs ++ [(v11, v12, v13, v14, v15)], m15, { q0 with vr := .slice A17 (xs.length + 1) c17 }, gMany_snoc _ _ _ _ _ _ HGM.out (gRow9_at HG11.out HG12.out HG13.out HG14.out HG15.out), HT17.out.1, fun g hg => (ownLe_block HO17.out hg).1, HQD.out⟩⟩
        case measure => simp [intOf]; omega
      refine AllReadyH.cons (o := { dst := some 20, op := Op.call { callee := Callee.value (Operand.func 38), args := #[Operand.tmp 19], argTypes := #[75] }, type := 3, pos := "record.go:61", after := #[{ on := 11, ground := Ground.data }, { on := 10, ground := Ground.chain }], guard := none }) rfl (fun K hK => ?_) AllReadyH.nil
      go_simp
      go_at_call 38
      refine H13.out.lsn.mono ?_
      rintro e w14 (⟨hg, rfl, hk⟩ | ⟨v14, m14, hg, rfl, hS⟩)
      · exact And.intro rfl (St.fail (w0 := w0) (B := B) (o := pCheck z l) (pCheck_no1 HG1.out (gMany_none _ _ _ _ _ HGM.out (by unfold gRow9; simp only [HG11.out, HG12.out, HG13.out, hg, Option.bind_some, Option.bind_none, Option.map_none]) hlt)) hk)
      have HG14 := Lib.hid hg
      have H14 := Lib.hid hS
      clear hg hS
      try go_wp2_with fail
      refine hK.out _ _ ?_ (fun hHeld => ?_)
      · exact H14.out.box
      clear hK K
      (try simp only [Act.put, List.setIfInBounds_toArray, List.set_cons_zero, List.set_cons_succ])
      refine wpAnyH_ready (rs := [4, 14]) (by kernel_rfl) (by simp) ?_
      refine AllReadyH.cons (o := { dst := some 12, op := Op.load 23 (Operand.tmp 11), type := 23, pos := "record.go:61", after := #[{ on := 3, ground := Ground.data }], guard := none }) rfl (fun K hK => ?sc25) ?tc25
      case sc25 =>
        have cf := H14.out.rc.row.cell (j := 9) (v := q0.vr) rfl
        go_simp
        clear cf
        refine hK.out _ _ ?_ (fun hHeld => ?_)
        · exact hHeld
        clear hK K
        (try simp only [Act.put, List.setIfInBounds_toArray, List.set_cons_zero, List.set_cons_succ])
        refine wpAnyH_ready (rs := [14]) (by kernel_rfl) (by simp) ?_
        refine AllReadyH.cons (o := { dst := some 22, op := Op.call { callee := Callee.value (Operand.func 38), args := #[Operand.tmp 21], argTypes := #[75] }, type := 3, pos := "record.go:61", after := #[{ on := 13, ground := Ground.data }, { on := 12, ground := Ground.chain }], guard := none }) rfl (fun K hK => ?_) AllReadyH.nil
        go_simp
        go_at_call 38
        refine H14.out.lsn.mono ?_
        rintro e w15 (⟨hg, rfl, hk⟩ | ⟨v15, m15, hg, rfl, hS⟩)
        · exact And.intro rfl (St.fail (w0 := w0) (B := B) (o := pCheck z l) (pCheck_no1 HG1.out (gMany_none _ _ _ _ _ HGM.out (by unfold gRow9; simp only [HG11.out, HG12.out, HG13.out, HG14.out, hg, Option.bind_some, Option.bind_none, Option.map_none]) hlt)) hk)
        have HG15 := Lib.hid hg
        have H15 := Lib.hid hS
        clear hg hS
        try go_wp2_with fail
        refine hK.out _ _ ?_ (fun hHeld => ?_)
        · exact H15.out.box
        clear hK K
        (try simp only [Act.put, List.setIfInBounds_toArray, List.set_cons_zero, List.set_cons_succ])
        refine wpAnyH_take (i := 15) (oi := { dst := some 23, op := Op.build 58 #[(0, Operand.tmp 14), (1, Operand.tmp 16), (2, Operand.tmp 18), (3, Operand.tmp 20), (4, Operand.tmp 22)], type := 58, pos := "record.go:61", after := #[{ on := 6, ground := Ground.data }, { on := 8, ground := Ground.data }, { on := 10, ground := Ground.data }, { on := 12, ground := Ground.data }, { on := 14, ground := Ground.data }], guard := none }) (v := ?vc26) rfl (by kernel_rfl) (by kernel_rfl) (by kernel_rfl) (fun _ _ _ h => h) (Or.inl ⟨by rfl, ?hc26⟩) hHeld ?rc26
        case hc26 => ((intro w hSw); (try dsimp only at hSw); go_simp; (try with_reducible rfl))
        (try simp only [Act.put, List.setIfInBounds_toArray, List.set_cons_zero, List.set_cons_succ])
        refine wpAnyH_ready (rs := [16]) (by kernel_rfl) (by simp) ?_
        refine AllReadyH.cons (o := { dst := some 24, op := Op.buildSlice 23 1 #[(0, Operand.tmp 23)], type := 23, pos := "record.go:61", after := #[{ on := 15, ground := Ground.data }], guard := none }) rfl (fun K hK => ?_) AllReadyH.nil
        go_simp
        have H16 := Lib.hid (H15.out.below ((Below.refl _ _).alloc (Nat.le_refl _) (.cells #[.int .i64 v11, .int .i64 v12, .int .i64 v13, .int .i64 v14, .int .i64 v15] 58)))
        have hrow : RowC (w15.alloc (.cells #[.int .i64 v11, .int .i64 v12, .int .i64 v13, .int .i64 v14, .int .i64 v15] 58)) w15.heap.size 58 (row9C (v11, v12, v13, v14, v15)) := heap_alloc_new w15 _
        have HROW := Lib.hid hrow
        clear hrow
        refine hK.out _ _ ?_ (fun hHeld => ?_)
        · exact H16.out.box
        clear hK K
        (try simp only [Act.put, List.setIfInBounds_toArray, List.set_cons_zero, List.set_cons_succ])
        refine wpAnyH_ready (rs := [17]) (by kernel_rfl) (by simp) ?_
        refine AllReadyH.cons (o := { dst := some 25, op := Op.call { callee := Callee.builtin Builtin.append, args := #[Operand.tmp 12, Operand.tmp 24], argTypes := #[23, 23] }, type := 23, pos := "record.go:61", after := #[{ on := 4, ground := Ground.data }, { on := 16, ground := Ground.data }, { on := 14, ground := Ground.chain }], guard := none }) rfl (fun K hK => ?_) AllReadyH.nil
        refine step_appLe (by rfl) _ _ _ (by rfl) w.heap.size 58 HUR.out rowInfo rfl (by omega) _ _ _ (by rfl) (ownLe_base H16.out.rc.ls.vr HNB.out) ⟨_, 0, none⟩ 1 1 (row9C (v11, v12, v13, v14, v15)) (by rfl) rfl (news_row HROW.out) (by intro u hu; simp only [row9C, List.mem_cons, List.not_mem_nil, or_false] at hu; rcases hu with rfl | rfl | rfl | rfl | rfl <;> rfl) (by show xs.length + 1 ≤ maxLen; unfold maxLen; omega) (by show (xs.length + 1) * 40 ≤ _; omega) (by have := H16.out.kept.size; exact this) ?_
        intro v17 w17 ho17 hg17 hat17
        obtain ⟨A17, c17, hv17⟩ := ownLe_slice ho17
        subst hv17
        have HO17 : Hid (OwnLe w17 w.heap.size 58 5 (.slice A17 (xs.length + 1) c17) (xs ++ [(v11, v12, v13, v14, v15)]).length (rowsC (xs ++ [(v11, v12, v13, v14, v15)]))) := Lib.hid (by rw [rowsC_snoc, List.length_append]; exact ho17)
        have T17 := H16.out.rows (z := z) (ownLe_base H16.out.rc.ls.vr HNB.out) hg17 HO17.out
        obtain ⟨_, _, r17, b17, _, _⟩ := H16.out.grown (ownLe_base H16.out.rc.ls.vr HNB.out) ⟨by decide, by decide, by decide, by decide⟩ hg17
        have HT17 := Lib.hid T17
        have HR17 := Lib.hid r17
        have HB17 := Lib.hid b17
        clear ho17 hg17 hat17 T17 r17 b17
        refine hK.out _ _ ?_ (fun hHeld => ?_)
        · exact HB17.out.cell rfl
        clear hK K
        (try simp only [Act.put, List.setIfInBounds_toArray, List.set_cons_zero, List.set_cons_succ])
        refine wpAnyH_take (i := 18) (oi := { dst := some 26, op := Op.nilCheck (Operand.tmp 8), type := 0, pos := "record.go:61", after := #[{ on := 0, ground := Ground.data }, { on := 0, ground := Ground.phase }, { on := 1, ground := Ground.phase }, { on := 2, ground := Ground.phase }, { on := 3, ground := Ground.phase }, { on := 4, ground := Ground.phase }, { on := 5, ground := Ground.phase }, { on := 6, ground := Ground.phase }, { on := 7, ground := Ground.phase }, { on := 8, ground := Ground.phase }, { on := 9, ground := Ground.phase }, { on := 10, ground := Ground.phase }, { on := 11, ground := Ground.phase }, { on := 12, ground := Ground.phase }, { on := 13, ground := Ground.phase }, { on := 14, ground := Ground.phase }, { on := 15, ground := Ground.phase }, { on := 16, ground := Ground.phase }, { on := 17, ground := Ground.phase }], guard := none }) (v := ?vc27) rfl (by kernel_rfl) (by kernel_rfl) (by kernel_rfl) (fun _ _ _ h => h) (Or.inl ⟨by rfl, ?hc27⟩) hHeld ?rc27
        case hc27 => ((intro w hSw); (try dsimp only at hSw); go_simp; (try with_reducible rfl))
        (try simp only [Act.put, List.setIfInBounds_toArray, List.set_cons_zero, List.set_cons_succ])
        refine wpAnyH_take (i := 19) (oi := { dst := some 27, op := Op.fieldAddr 26 (Operand.tmp 26) 9, type := 0, pos := "record.go:61", after := #[{ on := 18, ground := Ground.data }, { on := 0, ground := Ground.phase }, { on := 1, ground := Ground.phase }, { on := 2, ground := Ground.phase }, { on := 3, ground := Ground.phase }, { on := 4, ground := Ground.phase }, { on := 5, ground := Ground.phase }, { on := 6, ground := Ground.phase }, { on := 7, ground := Ground.phase }, { on := 8, ground := Ground.phase }, { on := 9, ground := Ground.phase }, { on := 10, ground := Ground.phase }, { on := 11, ground := Ground.phase }, { on := 12, ground := Ground.phase }, { on := 13, ground := Ground.phase }, { on := 14, ground := Ground.phase }, { on := 15, ground := Ground.phase }, { on := 16, ground := Ground.phase }, { on := 17, ground := Ground.phase }], guard := none }) (v := ?vc28) rfl (by kernel_rfl) (by kernel_rfl) (by kernel_rfl) (fun _ _ _ h => h) (Or.inl ⟨by rfl, ?hc28⟩) hHeld ?rc28
        case hc28 => ((intro w hSw); (try dsimp only at hSw); go_simp; (try with_reducible rfl))
        (try simp only [Act.put, List.setIfInBounds_toArray, List.set_cons_zero, List.set_cons_succ])
        refine wpAnyH_ready (rs := [20]) (by kernel_rfl) (by simp) ?_
        refine AllReadyH.cons (o := { dst := none, op := Op.store 23 (Operand.tmp 27) (Operand.tmp 25), type := 0, pos := "record.go:61", after := #[{ on := 19, ground := Ground.data }, { on := 17, ground := Ground.data }, { on := 17, ground := Ground.chain }, { on := 0, ground := Ground.phase }, { on := 1, ground := Ground.phase }, { on := 2, ground := Ground.phase }, { on := 3, ground := Ground.phase }, { on := 4, ground := Ground.phase }, { on := 5, ground := Ground.phase }, { on := 6, ground := Ground.phase }, { on := 7, ground := Ground.phase }, { on := 8, ground := Ground.phase }, { on := 9, ground := Ground.phase }, { on := 10, ground := Ground.phase }, { on := 11, ground := Ground.phase }, { on := 12, ground := Ground.phase }, { on := 13, ground := Ground.phase }, { on := 14, ground := Ground.phase }, { on := 15, ground := Ground.phase }, { on := 16, ground := Ground.phase }, { on := 17, ground := Ground.phase }], guard := none }) rfl (fun K hK => ?_) AllReadyH.nil
        have cf := HR17.out.cell (j := 9) (v := q0.vr) rfl
        have ff := HR17.out.free 9
        go_simp
        clear cf ff
        refine hK.out _ _ ?_ (fun hHeld => ?_)
        · exact HT17.out.1.box
        clear hK K
        (try simp only [Act.put, List.setIfInBounds_toArray, List.set_cons_zero, List.set_cons_succ])
        refine wpAnyH_done (by kernel_rfl) ?_ _
        go_wp2_with fail
        go_roundw
        case rel => exact ⟨k + 1, by omega, by go_num, ⟨xs ++ [(v11, v12, v13, v14, v15)], m15, { q0 with vr := .slice A17 (xs.length + 1) c17 }, gMany_snoc _ _ _ _ _ _ HGM.out (gRow9_at HG11.out HG12.out HG13.out HG14.out HG15.out), HT17.out.1, fun g hg => (ownLe_block HO17.out hg).1, HQD.out⟩⟩
        case measure => simp [intOf]; omega
      refine AllReadyH.cons (o := { dst := some 22, op := Op.call { callee := Callee.value (Operand.func 38), args := #[Operand.tmp 21], argTypes := #[75] }, type := 3, pos := "record.go:61", after := #[{ on := 13, ground := Ground.data }, { on := 12, ground := Ground.chain }], guard := none }) rfl (fun K hK => ?_) AllReadyH.nil
      go_simp
      go_at_call 38
      refine H14.out.lsn.mono ?_
      rintro e w15 (⟨hg, rfl, hk⟩ | ⟨v15, m15, hg, rfl, hS⟩)
      · exact And.intro rfl (St.fail (w0 := w0) (B := B) (o := pCheck z l) (pCheck_no1 HG1.out (gMany_none _ _ _ _ _ HGM.out (by unfold gRow9; simp only [HG11.out, HG12.out, HG13.out, HG14.out, hg, Option.bind_some, Option.bind_none, Option.map_none]) hlt)) hk)
      have HG15 := Lib.hid hg
      have H15 := Lib.hid hS
      clear hg hS
      try go_wp2_with fail
      refine hK.out _ _ ?_ (fun hHeld => ?_)
      · exact H15.out.box
      clear hK K
      (try simp only [Act.put, List.setIfInBounds_toArray, List.set_cons_zero, List.set_cons_succ])
      refine wpAnyH_take (i := 15) (oi := { dst := some 23, op := Op.build 58 #[(0, Operand.tmp 14), (1, Operand.tmp 16), (2, Operand.tmp 18), (3, Operand.tmp 20), (4, Operand.tmp 22)], type := 58, pos := "record.go:61", after := #[{ on := 6, ground := Ground.data }, { on := 8, ground := Ground.data }, { on := 10, ground := Ground.data }, { on := 12, ground := Ground.data }, { on := 14, ground := Ground.data }], guard := none }) (v := ?vc29) rfl (by kernel_rfl) (by kernel_rfl) (by kernel_rfl) (fun _ _ _ h => h) (Or.inl ⟨by rfl, ?hc29⟩) hHeld ?rc29
      case hc29 => ((intro w hSw); (try dsimp only at hSw); go_simp; (try with_reducible rfl))
      (try simp only [Act.put, List.setIfInBounds_toArray, List.set_cons_zero, List.set_cons_succ])
      refine wpAnyH_ready (rs := [4, 16]) (by kernel_rfl) (by simp) ?_
      refine AllReadyH.cons (o := { dst := some 12, op := Op.load 23 (Operand.tmp 11), type := 23, pos := "record.go:61", after := #[{ on := 3, ground := Ground.data }], guard := none }) rfl (fun K hK => ?sc30) ?tc30
      case sc30 =>
        have cf := H15.out.rc.row.cell (j := 9) (v := q0.vr) rfl
        go_simp
        clear cf
        refine hK.out _ _ ?_ (fun hHeld => ?_)
        · exact hHeld
        clear hK K
        (try simp only [Act.put, List.setIfInBounds_toArray, List.set_cons_zero, List.set_cons_succ])
        refine wpAnyH_ready (rs := [16]) (by kernel_rfl) (by simp) ?_
        refine AllReadyH.cons (o := { dst := some 24, op := Op.buildSlice 23 1 #[(0, Operand.tmp 23)], type := 23, pos := "record.go:61", after := #[{ on := 15, ground := Ground.data }], guard := none }) rfl (fun K hK => ?_) AllReadyH.nil
        go_simp
        have H16 := Lib.hid (H15.out.below ((Below.refl _ _).alloc (Nat.le_refl _) (.cells #[.int .i64 v11, .int .i64 v12, .int .i64 v13, .int .i64 v14, .int .i64 v15] 58)))
        have hrow : RowC (w15.alloc (.cells #[.int .i64 v11, .int .i64 v12, .int .i64 v13, .int .i64 v14, .int .i64 v15] 58)) w15.heap.size 58 (row9C (v11, v12, v13, v14, v15)) := heap_alloc_new w15 _
        have HROW := Lib.hid hrow
        clear hrow
        refine hK.out _ _ ?_ (fun hHeld => ?_)
        · exact H16.out.box
        clear hK K
        (try simp only [Act.put, List.setIfInBounds_toArray, List.set_cons_zero, List.set_cons_succ])
        refine wpAnyH_ready (rs := [17]) (by kernel_rfl) (by simp) ?_
        refine AllReadyH.cons (o := { dst := some 25, op := Op.call { callee := Callee.builtin Builtin.append, args := #[Operand.tmp 12, Operand.tmp 24], argTypes := #[23, 23] }, type := 23, pos := "record.go:61", after := #[{ on := 4, ground := Ground.data }, { on := 16, ground := Ground.data }, { on := 14, ground := Ground.chain }], guard := none }) rfl (fun K hK => ?_) AllReadyH.nil
        refine step_appLe (by rfl) _ _ _ (by rfl) w.heap.size 58 HUR.out rowInfo rfl (by omega) _ _ _ (by rfl) (ownLe_base H16.out.rc.ls.vr HNB.out) ⟨_, 0, none⟩ 1 1 (row9C (v11, v12, v13, v14, v15)) (by rfl) rfl (news_row HROW.out) (by intro u hu; simp only [row9C, List.mem_cons, List.not_mem_nil, or_false] at hu; rcases hu with rfl | rfl | rfl | rfl | rfl <;> rfl) (by show xs.length + 1 ≤ maxLen; unfold maxLen; omega) (by show (xs.length + 1) * 40 ≤ _; omega) (by have := H16.out.kept.size; exact this) ?_
        intro v17 w17 ho17 hg17 hat17
        obtain ⟨A17, c17, hv17⟩ := ownLe_slice ho17
        subst hv17
        have HO17 : Hid (OwnLe w17 w.heap.size 58 5 (.slice A17 (xs.length + 1) c17) (xs ++ [(v11, v12, v13, v14, v15)]).length (rowsC (xs ++ [(v11, v12, v13, v14, v15)]))) := Lib.hid (by rw [rowsC_snoc, List.length_append]; exact ho17)
        have T17 := H16.out.rows (z := z) (ownLe_base H16.out.rc.ls.vr HNB.out) hg17 HO17.out
        obtain ⟨_, _, r17, b17, _, _⟩ := H16.out.grown (ownLe_base H16.out.rc.ls.vr HNB.out) ⟨by decide, by decide, by decide, by decide⟩ hg17
        have HT17 := Lib.hid T17
        have HR17 := Lib.hid r17
        have HB17 := Lib.hid b17
        clear ho17 hg17 hat17 T17 r17 b17
        refine hK.out _ _ ?_ (fun hHeld => ?_)
        · exact HB17.out.cell rfl
        clear hK K
        (try simp only [Act.put, List.setIfInBounds_toArray, List.set_cons_zero, List.set_cons_succ])
        refine wpAnyH_take (i := 18) (oi := { dst := some 26, op := Op.nilCheck (Operand.tmp 8), type := 0, pos := "record.go:61", after := #[{ on := 0, ground := Ground.data }, { on := 0, ground := Ground.phase }, { on := 1, ground := Ground.phase }, { on := 2, ground := Ground.phase }, { on := 3, ground := Ground.phase }, { on := 4, ground := Ground.phase }, { on := 5, ground := Ground.phase }, { on := 6, ground := Ground.phase }, { on := 7, ground := Ground.phase }, { on := 8, ground := Ground.phase }, { on := 9, ground := Ground.phase }, { on := 10, ground := Ground.phase }, { on := 11, ground := Ground.phase }, { on := 12, ground := Ground.phase }, { on := 13, ground := Ground.phase }, { on := 14, ground := Ground.phase }, { on := 15, ground := Ground.phase }, { on := 16, ground := Ground.phase }, { on := 17, ground := Ground.phase }], guard := none }) (v := ?vc31) rfl (by kernel_rfl) (by kernel_rfl) (by kernel_rfl) (fun _ _ _ h => h) (Or.inl ⟨by rfl, ?hc31⟩) hHeld ?rc31
        case hc31 => ((intro w hSw); (try dsimp only at hSw); go_simp; (try with_reducible rfl))
        (try simp only [Act.put, List.setIfInBounds_toArray, List.set_cons_zero, List.set_cons_succ])
        refine wpAnyH_take (i := 19) (oi := { dst := some 27, op := Op.fieldAddr 26 (Operand.tmp 26) 9, type := 0, pos := "record.go:61", after := #[{ on := 18, ground := Ground.data }, { on := 0, ground := Ground.phase }, { on := 1, ground := Ground.phase }, { on := 2, ground := Ground.phase }, { on := 3, ground := Ground.phase }, { on := 4, ground := Ground.phase }, { on := 5, ground := Ground.phase }, { on := 6, ground := Ground.phase }, { on := 7, ground := Ground.phase }, { on := 8, ground := Ground.phase }, { on := 9, ground := Ground.phase }, { on := 10, ground := Ground.phase }, { on := 11, ground := Ground.phase }, { on := 12, ground := Ground.phase }, { on := 13, ground := Ground.phase }, { on := 14, ground := Ground.phase }, { on := 15, ground := Ground.phase }, { on := 16, ground := Ground.phase }, { on := 17, ground := Ground.phase }], guard := none }) (v := ?vc32) rfl (by kernel_rfl) (by kernel_rfl) (by kernel_rfl) (fun _ _ _ h => h) (Or.inl ⟨by rfl, ?hc32⟩) hHeld ?rc32
        case hc32 => ((intro w hSw); (try dsimp only at hSw); go_simp; (try with_reducible rfl))
        (try simp only [Act.put, List.setIfInBounds_toArray, List.set_cons_zero, List.set_cons_succ])
        refine wpAnyH_ready (rs := [20]) (by kernel_rfl) (by simp) ?_
        refine AllReadyH.cons (o := { dst := none, op := Op.store 23 (Operand.tmp 27) (Operand.tmp 25), type := 0, pos := "record.go:61", after := #[{ on := 19, ground := Ground.data }, { on := 17, ground := Ground.data }, { on := 17, ground := Ground.chain }, { on := 0, ground := Ground.phase }, { on := 1, ground := Ground.phase }, { on := 2, ground := Ground.phase }, { on := 3, ground := Ground.phase }, { on := 4, ground := Ground.phase }, { on := 5, ground := Ground.phase }, { on := 6, ground := Ground.phase }, { on := 7, ground := Ground.phase }, { on := 8, ground := Ground.phase }, { on := 9, ground := Ground.phase }, { on := 10, ground := Ground.phase }, { on := 11, ground := Ground.phase }, { on := 12, ground := Ground.phase }, { on := 13, ground := Ground.phase }, { on := 14, ground := Ground.phase }, { on := 15, ground := Ground.phase }, { on := 16, ground := Ground.phase }, { on := 17, ground := Ground.phase }], guard := none }) rfl (fun K hK => ?_) AllReadyH.nil
        have cf := HR17.out.cell (j := 9) (v := q0.vr) rfl
        have ff := HR17.out.free 9
        go_simp
        clear cf ff
        refine hK.out _ _ ?_ (fun hHeld => ?_)
        · exact HT17.out.1.box
        clear hK K
        (try simp only [Act.put, List.setIfInBounds_toArray, List.set_cons_zero, List.set_cons_succ])
        refine wpAnyH_done (by kernel_rfl) ?_ _
        go_wp2_with fail
        go_roundw
        case rel => exact ⟨k + 1, by omega, by go_num, ⟨xs ++ [(v11, v12, v13, v14, v15)], m15, { q0 with vr := .slice A17 (xs.length + 1) c17 }, gMany_snoc _ _ _ _ _ _ HGM.out (gRow9_at HG11.out HG12.out HG13.out HG14.out HG15.out), HT17.out.1, fun g hg => (ownLe_block HO17.out hg).1, HQD.out⟩⟩
        case measure => simp [intOf]; omega
      refine AllReadyH.cons (o := { dst := some 24, op := Op.buildSlice 23 1 #[(0, Operand.tmp 23)], type := 23, pos := "record.go:61", after := #[{ on := 15, ground := Ground.data }], guard := none }) rfl (fun K hK => ?_) AllReadyH.nil
      go_simp
      have H16 := Lib.hid (H15.out.below ((Below.refl _ _).alloc (Nat.le_refl _) (.cells #[.int .i64 v11, .int .i64 v12, .int .i64 v13, .int .i64 v14, .int .i64 v15] 58)))
      have hrow : RowC (w15.alloc (.cells #[.int .i64 v11, .int .i64 v12, .int .i64 v13, .int .i64 v14, .int .i64 v15] 58)) w15.heap.size 58 (row9C (v11, v12, v13, v14, v15)) := heap_alloc_new w15 _
      have HROW := Lib.hid hrow
      clear hrow
      refine hK.out _ _ ?_ (fun hHeld => ?_)
      · exact H16.out.box
      clear hK K
      (try simp only [Act.put, List.setIfInBounds_toArray, List.set_cons_zero, List.set_cons_succ])
      refine wpAnyH_ready (rs := [4]) (by kernel_rfl) (by simp) ?_
      refine AllReadyH.cons (o := { dst := some 12, op := Op.load 23 (Operand.tmp 11), type := 23, pos := "record.go:61", after := #[{ on := 3, ground := Ground.data }], guard := none }) rfl (fun K hK => ?_) AllReadyH.nil
      have cf := H16.out.rc.row.cell (j := 9) (v := q0.vr) rfl
      go_simp
      clear cf
      refine hK.out _ _ ?_ (fun hHeld => ?_)
      · exact hHeld
      clear hK K
      (try simp only [Act.put, List.setIfInBounds_toArray, List.set_cons_zero, List.set_cons_succ])
      refine wpAnyH_ready (rs := [17]) (by kernel_rfl) (by simp) ?_
      refine AllReadyH.cons (o := { dst := some 25, op := Op.call { callee := Callee.builtin Builtin.append, args := #[Operand.tmp 12, Operand.tmp 24], argTypes := #[23, 23] }, type := 23, pos := "record.go:61", after := #[{ on := 4, ground := Ground.data }, { on := 16, ground := Ground.data }, { on := 14, ground := Ground.chain }], guard := none }) rfl (fun K hK => ?_) AllReadyH.nil
      refine step_appLe (by rfl) _ _ _ (by rfl) w.heap.size 58 HUR.out rowInfo rfl (by omega) _ _ _ (by rfl) (ownLe_base H16.out.rc.ls.vr HNB.out) ⟨_, 0, none⟩ 1 1 (row9C (v11, v12, v13, v14, v15)) (by rfl) rfl (news_row HROW.out) (by intro u hu; simp only [row9C, List.mem_cons, List.not_mem_nil, or_false] at hu; rcases hu with rfl | rfl | rfl | rfl | rfl <;> rfl) (by show xs.length + 1 ≤ maxLen; unfold maxLen; omega) (by show (xs.length + 1) * 40 ≤ _; omega) (by have := H16.out.kept.size; exact this) ?_
      intro v17 w17 ho17 hg17 hat17
      obtain ⟨A17, c17, hv17⟩ := ownLe_slice ho17
      subst hv17
      have HO17 : Hid (OwnLe w17 w.heap.size 58 5 (.slice A17 (xs.length + 1) c17) (xs ++ [(v11, v12, v13, v14, v15)]).length (rowsC (xs ++ [(v11, v12, v13, v14, v15)]))) := Lib.hid (by rw [rowsC_snoc, List.length_append]; exact ho17)
      have T17 := H16.out.rows (z := z) (ownLe_base H16.out.rc.ls.vr HNB.out) hg17 HO17.out
      obtain ⟨_, _, r17, b17, _, _⟩ := H16.out.grown (ownLe_base H16.out.rc.ls.vr HNB.out) ⟨by decide, by decide, by decide, by decide⟩ hg17
      have HT17 := Lib.hid T17
      have HR17 := Lib.hid r17
      have HB17 := Lib.hid b17
      clear ho17 hg17 hat17 T17 r17 b17
      refine hK.out _ _ ?_ (fun hHeld => ?_)
      · exact HB17.out.cell rfl
      clear hK K
      (try simp only [Act.put, List.setIfInBounds_toArray, List.set_cons_zero, List.set_cons_succ])
      refine wpAnyH_take (i := 18) (oi := { dst := some 26, op := Op.nilCheck (Operand.tmp 8), type := 0, pos := "record.go:61", after := #[{ on := 0, ground := Ground.data }, { on := 0, ground := Ground.phase }, { on := 1, ground := Ground.phase }, { on := 2, ground := Ground.phase }, { on := 3, ground := Ground.phase }, { on := 4, ground := Ground.phase }, { on := 5, ground := Ground.phase }, { on := 6, ground := Ground.phase }, { on := 7, ground := Ground.phase }, { on := 8, ground := Ground.phase }, { on := 9, ground := Ground.phase }, { on := 10, ground := Ground.phase }, { on := 11, ground := Ground.phase }, { on := 12, ground := Ground.phase }, { on := 13, ground := Ground.phase }, { on := 14, ground := Ground.phase }, { on := 15, ground := Ground.phase }, { on := 16, ground := Ground.phase }, { on := 17, ground := Ground.phase }], guard := none }) (v := ?vc33) rfl (by kernel_rfl) (by kernel_rfl) (by kernel_rfl) (fun _ _ _ h => h) (Or.inl ⟨by rfl, ?hc33⟩) hHeld ?rc33
      case hc33 => ((intro w hSw); (try dsimp only at hSw); go_simp; (try with_reducible rfl))
      (try simp only [Act.put, List.setIfInBounds_toArray, List.set_cons_zero, List.set_cons_succ])
      refine wpAnyH_take (i := 19) (oi := { dst := some 27, op := Op.fieldAddr 26 (Operand.tmp 26) 9, type := 0, pos := "record.go:61", after := #[{ on := 18, ground := Ground.data }, { on := 0, ground := Ground.phase }, { on := 1, ground := Ground.phase }, { on := 2, ground := Ground.phase }, { on := 3, ground := Ground.phase }, { on := 4, ground := Ground.phase }, { on := 5, ground := Ground.phase }, { on := 6, ground := Ground.phase }, { on := 7, ground := Ground.phase }, { on := 8, ground := Ground.phase }, { on := 9, ground := Ground.phase }, { on := 10, ground := Ground.phase }, { on := 11, ground := Ground.phase }, { on := 12, ground := Ground.phase }, { on := 13, ground := Ground.phase }, { on := 14, ground := Ground.phase }, { on := 15, ground := Ground.phase }, { on := 16, ground := Ground.phase }, { on := 17, ground := Ground.phase }], guard := none }) (v := ?vc34) rfl (by kernel_rfl) (by kernel_rfl) (by kernel_rfl) (fun _ _ _ h => h) (Or.inl ⟨by rfl, ?hc34⟩) hHeld ?rc34
      case hc34 => ((intro w hSw); (try dsimp only at hSw); go_simp; (try with_reducible rfl))
      (try simp only [Act.put, List.setIfInBounds_toArray, List.set_cons_zero, List.set_cons_succ])
      refine wpAnyH_ready (rs := [20]) (by kernel_rfl) (by simp) ?_
      refine AllReadyH.cons (o := { dst := none, op := Op.store 23 (Operand.tmp 27) (Operand.tmp 25), type := 0, pos := "record.go:61", after := #[{ on := 19, ground := Ground.data }, { on := 17, ground := Ground.data }, { on := 17, ground := Ground.chain }, { on := 0, ground := Ground.phase }, { on := 1, ground := Ground.phase }, { on := 2, ground := Ground.phase }, { on := 3, ground := Ground.phase }, { on := 4, ground := Ground.phase }, { on := 5, ground := Ground.phase }, { on := 6, ground := Ground.phase }, { on := 7, ground := Ground.phase }, { on := 8, ground := Ground.phase }, { on := 9, ground := Ground.phase }, { on := 10, ground := Ground.phase }, { on := 11, ground := Ground.phase }, { on := 12, ground := Ground.phase }, { on := 13, ground := Ground.phase }, { on := 14, ground := Ground.phase }, { on := 15, ground := Ground.phase }, { on := 16, ground := Ground.phase }, { on := 17, ground := Ground.phase }], guard := none }) rfl (fun K hK => ?_) AllReadyH.nil
      have cf := HR17.out.cell (j := 9) (v := q0.vr) rfl
      have ff := HR17.out.free 9
      go_simp
      clear cf ff
      refine hK.out _ _ ?_ (fun hHeld => ?_)
      · exact HT17.out.1.box
      clear hK K
      (try simp only [Act.put, List.setIfInBounds_toArray, List.set_cons_zero, List.set_cons_succ])
      refine wpAnyH_done (by kernel_rfl) ?_ _
      go_wp2_with fail
      go_roundw
      case rel => exact ⟨k + 1, by omega, by go_num, ⟨xs ++ [(v11, v12, v13, v14, v15)], m15, { q0 with vr := .slice A17 (xs.length + 1) c17 }, gMany_snoc _ _ _ _ _ _ HGM.out (gRow9_at HG11.out HG12.out HG13.out HG14.out HG15.out), HT17.out.1, fun g hg => (ownLe_block HO17.out hg).1, HQD.out⟩⟩
      case measure => simp [intOf]; omega
    · have he : k = N1 := by omega
      subst he
      have hbx := H2.out.box
      clear hlt H2d
      obtain ⟨wo, rfl⟩ : ∃ wo : World, wo = wr := ⟨_, rfl⟩
      go_wp2_with fail
      refine (H2.out.num 1 (.inl rfl) rfl).mono ?_
      rintro e w3 (⟨hg, rfl, hk⟩ | ⟨v3, m3, hg, rfl, hS⟩)
      · have HG := Lib.hid hg
        have HK := Lib.hid hk
        clear hg hk hbx
        go_wp2_with fail
        exact And.intro rfl (St.fail (w0 := w0) (B := B) (o := pCheck z l) (by rw [pCheck_at HG1.out HGM.out, HG.out]; rfl) HK.out)
      have hv3 := gN_is hg
      obtain ⟨N3, hN3⟩ : ∃ N3 : Nat, v3 = (N3 : Int) := ⟨v3.toNat, by have := hv3.2.1; omega⟩
      have hN3b : N3 < 256 := by have := hv3.2.2; rw [hN3] at this; simpa using this
      subst hN3
      have HG3 := Lib.hid hg
      have H3 := Lib.hid hS
      have hR0 : DirtsAt w0 w r rp B bx m3 { z with rows := xs } 0 w3 := ⟨[], m3, q0, rfl, by rw [zdirt (show ({ z with rows := xs } : RecD).dirty = [] from HZD.out)]; exact H3.out, fun g hg => by rw [HQD.out] at hg; simp [Value.ownBlock] at hg⟩
      clear hg hS hv3 H3 hbx H2
      go_wp2_with fail
      go_loopw [31] (fun iv wr => ∃ j : Nat, j ≤ N3 ∧ iv = .int .i64 j ∧ DirtsAt w0 w r rp B bx m3 { z with rows := xs } j wr) (fun i _ => N3 - (intOf i).toNat)
      case atStart => exact ⟨0, by omega, rfl, hR0⟩
      case round =>
        obtain ⟨j, hj, rfl, hrel⟩ := hrel
        obtain ⟨ys, m4, q4, hgm, hS0, hnb⟩ := hrel.ex
        have HGD := Lib.hid hgm
        have HNB4 := Lib.hid hnb
        have H4 := Lib.hid hS0
        have H4d := Lib.hid hS0.drew
        have hyl : ys.length ≤ 256 := by rw [gMany_len _ _ _ _ hgm]; omega
        clear hrel hgm hS0 hnb hR0
        by_cases hlt3 : j < N3
        · have m0k : (0 : Int) ≤ (j : Int) := by omega
          have m1k : (j : Int) < (N3 : Int) := by omega
          go_wp2_with fail
          refine wp_region_held_drew (S := (fun w' => w'.cell? ⟨bx, 0, none⟩ = some (.pointer (some ⟨r, 0, none⟩)))) (by kernel_rfl) (H4d.out.box) (fun hHeld => ?_)
          refine wpAnyH_take (i := 0) (oi := { dst := some 33, op := Op.move (Operand.tmp 1), type := 81, pos := "record.go:64", after := #[], guard := none }) (v := ?vd0) rfl (by kernel_rfl) (by kernel_rfl) (by kernel_rfl) (fun _ _ _ h => h) (Or.inl ⟨by rfl, ?hd0⟩) hHeld ?rd0
          case hd0 => ((intro w hSw); (try dsimp only at hSw); go_simp; (try with_reducible rfl))
          (try simp only [Act.put, List.setIfInBounds_toArray, List.set_cons_zero, List.set_cons_succ])
          refine wpAnyH_take (i := 1) (oi := { dst := some 34, op := Op.move (Operand.tmp 1), type := 81, pos := "record.go:64", after := #[], guard := none }) (v := ?vd1) rfl (by kernel_rfl) (by kernel_rfl) (by kernel_rfl) (fun _ _ _ h => h) (Or.inl ⟨by rfl, ?hd1⟩) hHeld ?rd1
          case hd1 => ((intro w hSw); (try dsimp only at hSw); go_simp; (try with_reducible rfl))
          (try simp only [Act.put, List.setIfInBounds_toArray, List.set_cons_zero, List.set_cons_succ])
          refine wpAnyH_take (i := 2) (oi := { dst := some 35, op := Op.nilCheck (Operand.tmp 34), type := 0, pos := "record.go:64", after := #[{ on := 1, ground := Ground.data }], guard := none }) (v := ?vd2) rfl (by kernel_rfl) (by kernel_rfl) (by kernel_rfl) (fun _ _ _ h => h) (Or.inl ⟨by rfl, ?hd2⟩) hHeld ?rd2
          case hd2 => ((intro w hSw); (try dsimp only at hSw); go_simp; (try with_reducible rfl))
          (try simp only [Act.put, List.setIfInBounds_toArray, List.set_cons_zero, List.set_cons_succ])
          refine wpAnyH_take (i := 3) (oi := { dst := some 36, op := Op.fieldAddr 26 (Operand.tmp 35) 10, type := 0, pos := "record.go:64", after := #[{ on := 2, ground := Ground.data }], guard := none }) (v := ?vd3) rfl (by kernel_rfl) (by kernel_rfl) (by kernel_rfl) (fun _ _ _ h => h) (Or.inl ⟨by rfl, ?hd3⟩) hHeld ?rd3
          case hd3 => ((intro w hSw); (try dsimp only at hSw); go_simp; (try with_reducible rfl))
          (try simp only [Act.put, List.setIfInBounds_toArray, List.set_cons_zero, List.set_cons_succ])
          refine wpAnyH_take (i := 5) (oi := { dst := some 38, op := Op.load 75 (Operand.tmp 2), type := 75, pos := "record.go:64", after := #[], guard := none }) (v := ?vd4) rfl (by kernel_rfl) (by kernel_rfl) (by kernel_rfl) (fun _ _ _ h => h) (Or.inl ⟨by rfl, ?hd4⟩) hHeld ?rd4
          case hd4 => ((intro w hSw); (try dsimp only at hSw); go_simp; (try with_reducible rfl))
          (try simp only [Act.put, List.setIfInBounds_toArray, List.set_cons_zero, List.set_cons_succ])
          refine wpAnyH_take (i := 7) (oi := { dst := some 40, op := Op.load 75 (Operand.tmp 2), type := 75, pos := "record.go:64", after := #[], guard := none }) (v := ?vd5) rfl (by kernel_rfl) (by kernel_rfl) (by kernel_rfl) (fun _ _ _ h => h) (Or.inl ⟨by rfl, ?hd5⟩) hHeld ?rd5
          case hd5 => ((intro w hSw); (try dsimp only at hSw); go_simp; (try with_reducible rfl))
          (try simp only [Act.put, List.setIfInBounds_toArray, List.set_cons_zero, List.set_cons_succ])
          refine wpAnyH_ready (rs := [4, 6]) (by kernel_rfl) (by simp) ?_
          refine AllReadyH.cons (o := { dst := some 37, op := Op.load 24 (Operand.tmp 36), type := 24, pos := "record.go:64", after := #[{ on := 3, ground := Ground.data }], guard := none }) rfl (fun K hK => ?sd6) ?td6
          case sd6 =>
            have cf := H4d.out.rc.row.cell (j := 10) (v := q4.vd) rfl
            go_simp
            clear cf
            refine hK.out _ _ ?_ (fun hHeld => ?_)
            · exact hHeld
            clear hK K
            (try simp only [Act.put, List.setIfInBounds_toArray, List.set_cons_zero, List.set_cons_succ])
            refine wpAnyH_ready (rs := [6]) (by kernel_rfl) (by simp) ?_
            refine AllReadyH.cons (o := { dst := some 39, op := Op.call { callee := Callee.value (Operand.func 37), args := #[Operand.tmp 38, Operand.const (Value.int IntKind.i64 1)], argTypes := #[75, 3] }, type := 3, pos := "record.go:64", after := #[{ on := 5, ground := Ground.data }], guard := none }) rfl (fun K hK => ?_) AllReadyH.nil
            go_simp
            go_at_call 37
            refine (H4d.out.num 1 (.inl rfl) rfl).mono ?_
            rintro e w21 (⟨hg, rfl, hk⟩ | ⟨v21, m21, hg, rfl, hS⟩)
            · exact And.intro rfl (St.fail (w0 := w0) (B := B) (o := pCheck z l) (by rw [pCheck_at HG1.out HGM.out, HG3.out]; show (gMany gDirt ((N3 : Int).toNat) m3).map _ = none; rw [Int.toNat_natCast, gMany_none _ _ _ _ _ HGD.out (by unfold gDirt; simp only [hg, Option.bind_some, Option.bind_none, Option.map_none]) hlt3]; rfl) hk)
            have HG21 := Lib.hid hg
            have H21 := Lib.hid hS
            clear hg hS
            try go_wp2_with fail
            refine hK.out _ _ ?_ (fun hHeld => ?_)
            · exact H21.out.box
            clear hK K
            (try simp only [Act.put, List.setIfInBounds_toArray, List.set_cons_zero, List.set_cons_succ])
            refine wpAnyH_ready (rs := [8]) (by kernel_rfl) (by simp) ?_
            refine AllReadyH.cons (o := { dst := some 41, op := Op.call { callee := Callee.value (Operand.func 38), args := #[Operand.tmp 40], argTypes := #[75] }, type := 3, pos := "record.go:64", after := #[{ on := 7, ground := Ground.data }, { on := 6, ground := Ground.chain }], guard := none }) rfl (fun K hK => ?_) AllReadyH.nil
            go_simp
            go_at_call 38
            refine H21.out.lsn.mono ?_
            rintro e w22 (⟨hg, rfl, hk⟩ | ⟨v22, m22, hg, rfl, hS⟩)
            · exact And.intro rfl (St.fail (w0 := w0) (B := B) (o := pCheck z l) (by rw [pCheck_at HG1.out HGM.out, HG3.out]; show (gMany gDirt ((N3 : Int).toNat) m3).map _ = none; rw [Int.toNat_natCast, gMany_none _ _ _ _ _ HGD.out (by unfold gDirt; simp only [HG21.out, hg, Option.bind_some, Option.bind_none, Option.map_none]) hlt3]; rfl) hk)
            have HG22 := Lib.hid hg
            have H22 := Lib.hid hS
            clear hg hS
            try go_wp2_with fail
            refine hK.out _ _ ?_ (fun hHeld => ?_)
            · exact H22.out.box
            clear hK K
            (try simp only [Act.put, List.setIfInBounds_toArray, List.set_cons_zero, List.set_cons_succ])
            refine wpAnyH_take (i := 9) (oi := { dst := some 42, op := Op.build 60 #[(0, Operand.tmp 39), (1, Operand.tmp 41)], type := 60, pos := "record.go:64", after := #[{ on := 6, ground := Ground.data }, { on := 8, ground := Ground.data }], guard := none }) (v := ?vd7) rfl (by kernel_rfl) (by kernel_rfl) (by kernel_rfl) (fun _ _ _ h => h) (Or.inl ⟨by rfl, ?hd7⟩) hHeld ?rd7
            case hd7 => ((intro w hSw); (try dsimp only at hSw); go_simp; (try with_reducible rfl))
            (try simp only [Act.put, List.setIfInBounds_toArray, List.set_cons_zero, List.set_cons_succ])
            refine wpAnyH_ready (rs := [10]) (by kernel_rfl) (by simp) ?_
            refine AllReadyH.cons (o := { dst := some 43, op := Op.buildSlice 24 1 #[(0, Operand.tmp 42)], type := 24, pos := "record.go:64", after := #[{ on := 9, ground := Ground.data }], guard := none }) rfl (fun K hK => ?_) AllReadyH.nil
            go_simp
            have H23 := Lib.hid (H22.out.below ((Below.refl _ _).alloc (Nat.le_refl _) (.cells #[.int .i64 v21, .int .i64 v22] 60)))
            have hrow : RowC (w22.alloc (.cells #[.int .i64 v21, .int .i64 v22] 60)) w22.heap.size 60 (dirtC (v21, v22)) := heap_alloc_new w22 _
            have HROW := Lib.hid hrow
            clear hrow
            refine hK.out _ _ ?_ (fun hHeld => ?_)
            · exact H23.out.box
            clear hK K
            (try simp only [Act.put, List.setIfInBounds_toArray, List.set_cons_zero, List.set_cons_succ])
            refine wpAnyH_ready (rs := [11]) (by kernel_rfl) (by simp) ?_
            refine AllReadyH.cons (o := { dst := some 44, op := Op.call { callee := Callee.builtin Builtin.append, args := #[Operand.tmp 37, Operand.tmp 43], argTypes := #[24, 24] }, type := 24, pos := "record.go:64", after := #[{ on := 4, ground := Ground.data }, { on := 10, ground := Ground.data }, { on := 8, ground := Ground.chain }], guard := none }) rfl (fun K hK => ?_) AllReadyH.nil
            refine step_appLe (by rfl) _ _ _ (by rfl) w.heap.size 60 HUD.out dirtInfo rfl (by omega) _ _ _ (by rfl) (ownLe_base H23.out.rc.ls.vd HNB4.out) ⟨_, 0, none⟩ 1 1 (dirtC (v21, v22)) (by rfl) rfl (news_row HROW.out) (by intro u hu; simp only [dirtC, List.mem_cons, List.not_mem_nil, or_false] at hu; rcases hu with rfl | rfl <;> rfl) (by show ys.length + 1 ≤ maxLen; unfold maxLen; omega) (by show (ys.length + 1) * 16 ≤ _; omega) (by have := H23.out.kept.size; exact this) ?_
            intro v24 w24 ho24 hg24 hat24
            obtain ⟨A24, c24, hv24⟩ := ownLe_slice ho24
            subst hv24
            have HO24 : Hid (OwnLe w24 w.heap.size 60 2 (.slice A24 (ys.length + 1) c24) (ys ++ [(v21, v22)]).length (dirtsC (ys ++ [(v21, v22)]))) := Lib.hid (by rw [dirtsC_snoc, List.length_append]; exact ho24)
            have T24 := H23.out.dirt (z := { z with rows := xs }) (ownLe_base H23.out.rc.ls.vd HNB4.out) hg24 HO24.out
            obtain ⟨_, _, r24, b24, _, _⟩ := H23.out.grown (ownLe_base H23.out.rc.ls.vd HNB4.out) ⟨by decide, by decide, by decide, by decide⟩ hg24
            have HT24 := Lib.hid T24
            have HR24 := Lib.hid r24
            have HB24 := Lib.hid b24
            clear ho24 hg24 hat24 T24 r24 b24
            refine hK.out _ _ ?_ (fun hHeld => ?_)
            · exact HB24.out.cell rfl
            clear hK K
            (try simp only [Act.put, List.setIfInBounds_toArray, List.set_cons_zero, List.set_cons_succ])
            refine wpAnyH_take (i := 12) (oi := { dst := some 45, op := Op.nilCheck (Operand.tmp 33), type := 0, pos := "record.go:64", after := #[{ on := 0, ground := Ground.data }, { on := 0, ground := Ground.phase }, { on := 1, ground := Ground.phase }, { on := 2, ground := Ground.phase }, { on := 3, ground := Ground.phase }, { on := 4, ground := Ground.phase }, { on := 5, ground := Ground.phase }, { on := 6, ground := Ground.phase }, { on := 7, ground := Ground.phase }, { on := 8, ground := Ground.phase }, { on := 9, ground := Ground.phase }, { on := 10, ground := Ground.phase }, { on := 11, ground := Ground.phase }], guard := none }) (v := ?vd8) rfl (by kernel_rfl) (by kernel_rfl) (by kernel_rfl) (fun _ _ _ h => h) (Or.inl ⟨by rfl, ?hd8⟩) hHeld ?rd8
            case hd8 => ((intro w hSw); (try dsimp only at hSw); go_simp; (try with_reducible rfl))
            (try simp only [Act.put, List.setIfInBounds_toArray, List.set_cons_zero, List.set_cons_succ])
            refine wpAnyH_take (i := 13) (oi := { dst := some 46, op := Op.fieldAddr 26 (Operand.tmp 45) 10, type := 0, pos := "record.go:64", after := #[{ on := 12, ground := Ground.data }, { on := 0, ground := Ground.phase }, { on := 1, ground := Ground.phase }, { on := 2, ground := Ground.phase }, { on := 3, ground := Ground.phase }, { on := 4, ground := Ground.phase }, { on := 5, ground := Ground.phase }, { on := 6, ground := Ground.phase }, { on := 7, ground := Ground.phase }, { on := 8, ground := Ground.phase }, { on := 9, ground := Ground.phase }, { on := 10, ground := Ground.phase }, { on := 11, ground := Ground.phase }], guard := none }) (v := ?vd9) rfl (by kernel_rfl) (by kernel_rfl) (by kernel_rfl) (fun _ _ _ h => h) (Or.inl ⟨by rfl, ?hd9⟩) hHeld ?rd9
            case hd9 => ((intro w hSw); (try dsimp only at hSw); go_simp; (try with_reducible rfl))
            (try simp only [Act.put, List.setIfInBounds_toArray, List.set_cons_zero, List.set_cons_succ])
            refine wpAnyH_ready (rs := [14]) (by kernel_rfl) (by simp) ?_
            refine AllReadyH.cons (o := { dst := none, op := Op.store 24 (Operand.tmp 46) (Operand.tmp 44), type := 0, pos := "record.go:64", after := #[{ on := 13, ground := Ground.data }, { on := 11, ground := Ground.data }, { on := 11, ground := Ground.chain }, { on := 0, ground := Ground.phase }, { on := 1, ground := Ground.phase }, { on := 2, ground := Ground.phase }, { on := 3, ground := Ground.phase }, { on := 4, ground := Ground.phase }, { on := 5, ground := Ground.phase }, { on := 6, ground := Ground.phase }, { on := 7, ground := Ground.phase }, { on := 8, ground := Ground.phase }, { on := 9, ground := Ground.phase }, { on := 10, ground := Ground.phase }, { on := 11, ground := Ground.phase }], guard := none }) rfl (fun K hK => ?_) AllReadyH.nil
            have cf := HR24.out.cell (j := 10) (v := q4.vd) rfl
            have ff := HR24.out.free 10
            go_simp
            clear cf ff
            refine hK.out _ _ ?_ (fun hHeld => ?_)
            · exact HT24.out.1.box
            clear hK K
            (try simp only [Act.put, List.setIfInBounds_toArray, List.set_cons_zero, List.set_cons_succ])
            refine wpAnyH_done (by kernel_rfl) ?_ _
            go_wp2_with fail
            go_roundw
            case rel => exact ⟨j + 1, by omega, by go_num, ⟨ys ++ [(v21, v22)], m22, { q4 with vd := .slice A24 (ys.length + 1) c24 }, gMany_snoc _ _ _ _ _ _ HGD.out (gDirt_at HG21.out HG22.out), HT24.out.1, fun g hg => (ownLe_block HO24.out hg).1⟩⟩
            case measure => simp [intOf]; omega
          refine AllReadyH.cons (o := { dst := some 39, op := Op.call { callee := Callee.value (Operand.func 37), args := #[Operand.tmp 38, Operand.const (Value.int IntKind.i64 1)], argTypes := #[75, 3] }, type := 3, pos := "record.go:64", after := #[{ on := 5, ground := Ground.data }], guard := none }) rfl (fun K hK => ?_) AllReadyH.nil
          go_simp
          go_at_call 37
          refine (H4d.out.num 1 (.inl rfl) rfl).mono ?_
          rintro e w21 (⟨hg, rfl, hk⟩ | ⟨v21, m21, hg, rfl, hS⟩)
          · exact And.intro rfl (St.fail (w0 := w0) (B := B) (o := pCheck z l) (by rw [pCheck_at HG1.out HGM.out, HG3.out]; show (gMany gDirt ((N3 : Int).toNat) m3).map _ = none; rw [Int.toNat_natCast, gMany_none _ _ _ _ _ HGD.out (by unfold gDirt; simp only [hg, Option.bind_some, Option.bind_none, Option.map_none]) hlt3]; rfl) hk)
          have HG21 := Lib.hid hg
          have H21 := Lib.hid hS
          clear hg hS
          try go_wp2_with fail
          refine hK.out _ _ ?_ (fun hHeld => ?_)
          · exact H21.out.box
          clear hK K
          (try simp only [Act.put, List.setIfInBounds_toArray, List.set_cons_zero, List.set_cons_succ])
          refine wpAnyH_ready (rs := [4, 8]) (by kernel_rfl) (by simp) ?_
          refine AllReadyH.cons (o := { dst := some 37, op := Op.load 24 (Operand.tmp 36), type := 24, pos := "record.go:64", after := #[{ on := 3, ground := Ground.data }], guard := none }) rfl (fun K hK => ?sd10) ?td10
          case sd10 =>
            have cf := H21.out.rc.row.cell (j := 10) (v := q4.vd) rfl
            go_simp
            clear cf
            refine hK.out _ _ ?_ (fun hHeld => ?_)
            · exact hHeld
            clear hK K
            (try simp only [Act.put, List.setIfInBounds_toArray, List.set_cons_zero, List.set_cons_succ])
            refine wpAnyH_ready (rs := [8]) (by kernel_rfl) (by simp) ?_
            refine AllReadyH.cons (o := { dst := some 41, op := Op.call { callee := Callee.value (Operand.func 38), args := #[Operand.tmp 40], argTypes := #[75] }, type := 3, pos := "record.go:64", after := #[{ on := 7, ground := Ground.data }, { on := 6, ground := Ground.chain }], guard := none }) rfl (fun K hK => ?_) AllReadyH.nil
            go_simp
            go_at_call 38
            refine H21.out.lsn.mono ?_
            rintro e w22 (⟨hg, rfl, hk⟩ | ⟨v22, m22, hg, rfl, hS⟩)
            · exact And.intro rfl (St.fail (w0 := w0) (B := B) (o := pCheck z l) (by rw [pCheck_at HG1.out HGM.out, HG3.out]; show (gMany gDirt ((N3 : Int).toNat) m3).map _ = none; rw [Int.toNat_natCast, gMany_none _ _ _ _ _ HGD.out (by unfold gDirt; simp only [HG21.out, hg, Option.bind_some, Option.bind_none, Option.map_none]) hlt3]; rfl) hk)
            have HG22 := Lib.hid hg
            have H22 := Lib.hid hS
            clear hg hS
            try go_wp2_with fail
            refine hK.out _ _ ?_ (fun hHeld => ?_)
            · exact H22.out.box
            clear hK K
            (try simp only [Act.put, List.setIfInBounds_toArray, List.set_cons_zero, List.set_cons_succ])
            refine wpAnyH_take (i := 9) (oi := { dst := some 42, op := Op.build 60 #[(0, Operand.tmp 39), (1, Operand.tmp 41)], type := 60, pos := "record.go:64", after := #[{ on := 6, ground := Ground.data }, { on := 8, ground := Ground.data }], guard := none }) (v := ?vd11) rfl (by kernel_rfl) (by kernel_rfl) (by kernel_rfl) (fun _ _ _ h => h) (Or.inl ⟨by rfl, ?hd11⟩) hHeld ?rd11
            case hd11 => ((intro w hSw); (try dsimp only at hSw); go_simp; (try with_reducible rfl))
            (try simp only [Act.put, List.setIfInBounds_toArray, List.set_cons_zero, List.set_cons_succ])
            refine wpAnyH_ready (rs := [10]) (by kernel_rfl) (by simp) ?_
            refine AllReadyH.cons (o := { dst := some 43, op := Op.buildSlice 24 1 #[(0, Operand.tmp 42)], type := 24, pos := "record.go:64", after := #[{ on := 9, ground := Ground.data }], guard := none }) rfl (fun K hK => ?_) AllReadyH.nil
            go_simp
            have H23 := Lib.hid (H22.out.below ((Below.refl _ _).alloc (Nat.le_refl _) (.cells #[.int .i64 v21, .int .i64 v22] 60)))
            have hrow : RowC (w22.alloc (.cells #[.int .i64 v21, .int .i64 v22] 60)) w22.heap.size 60 (dirtC (v21, v22)) := heap_alloc_new w22 _
            have HROW := Lib.hid hrow
            clear hrow
            refine hK.out _ _ ?_ (fun hHeld => ?_)
            · exact H23.out.box
            clear hK K
            (try simp only [Act.put, List.setIfInBounds_toArray, List.set_cons_zero, List.set_cons_succ])
            refine wpAnyH_ready (rs := [11]) (by kernel_rfl) (by simp) ?_
            refine AllReadyH.cons (o := { dst := some 44, op := Op.call { callee := Callee.builtin Builtin.append, args := #[Operand.tmp 37, Operand.tmp 43], argTypes := #[24, 24] }, type := 24, pos := "record.go:64", after := #[{ on := 4, ground := Ground.data }, { on := 10, ground := Ground.data }, { on := 8, ground := Ground.chain }], guard := none }) rfl (fun K hK => ?_) AllReadyH.nil
            refine step_appLe (by rfl) _ _ _ (by rfl) w.heap.size 60 HUD.out dirtInfo rfl (by omega) _ _ _ (by rfl) (ownLe_base H23.out.rc.ls.vd HNB4.out) ⟨_, 0, none⟩ 1 1 (dirtC (v21, v22)) (by rfl) rfl (news_row HROW.out) (by intro u hu; simp only [dirtC, List.mem_cons, List.not_mem_nil, or_false] at hu; rcases hu with rfl | rfl <;> rfl) (by show ys.length + 1 ≤ maxLen; unfold maxLen; omega) (by show (ys.length + 1) * 16 ≤ _; omega) (by have := H23.out.kept.size; exact this) ?_
            intro v24 w24 ho24 hg24 hat24
            obtain ⟨A24, c24, hv24⟩ := ownLe_slice ho24
            subst hv24
            have HO24 : Hid (OwnLe w24 w.heap.size 60 2 (.slice A24 (ys.length + 1) c24) (ys ++ [(v21, v22)]).length (dirtsC (ys ++ [(v21, v22)]))) := Lib.hid (by rw [dirtsC_snoc, List.length_append]; exact ho24)
            have T24 := H23.out.dirt (z := { z with rows := xs }) (ownLe_base H23.out.rc.ls.vd HNB4.out) hg24 HO24.out
            obtain ⟨_, _, r24, b24, _, _⟩ := H23.out.grown (ownLe_base H23.out.rc.ls.vd HNB4.out) ⟨by decide, by decide, by decide, by decide⟩ hg24
            have HT24 := Lib.hid T24
            have HR24 := Lib.hid r24
            have HB24 := Lib.hid b24
            clear ho24 hg24 hat24 T24 r24 b24
            refine hK.out _ _ ?_ (fun hHeld => ?_)
            · exact HB24.out.cell rfl
            clear hK K
            (try simp only [Act.put, List.setIfInBounds_toArray, List.set_cons_zero, List.set_cons_succ])
            refine wpAnyH_take (i := 12) (oi := { dst := some 45, op := Op.nilCheck (Operand.tmp 33), type := 0, pos := "record.go:64", after := #[{ on := 0, ground := Ground.data }, { on := 0, ground := Ground.phase }, { on := 1, ground := Ground.phase }, { on := 2, ground := Ground.phase }, { on := 3, ground := Ground.phase }, { on := 4, ground := Ground.phase }, { on := 5, ground := Ground.phase }, { on := 6, ground := Ground.phase }, { on := 7, ground := Ground.phase }, { on := 8, ground := Ground.phase }, { on := 9, ground := Ground.phase }, { on := 10, ground := Ground.phase }, { on := 11, ground := Ground.phase }], guard := none }) (v := ?vd12) rfl (by kernel_rfl) (by kernel_rfl) (by kernel_rfl) (fun _ _ _ h => h) (Or.inl ⟨by rfl, ?hd12⟩) hHeld ?rd12
            case hd12 => ((intro w hSw); (try dsimp only at hSw); go_simp; (try with_reducible rfl))
            (try simp only [Act.put, List.setIfInBounds_toArray, List.set_cons_zero, List.set_cons_succ])
            refine wpAnyH_take (i := 13) (oi := { dst := some 46, op := Op.fieldAddr 26 (Operand.tmp 45) 10, type := 0, pos := "record.go:64", after := #[{ on := 12, ground := Ground.data }, { on := 0, ground := Ground.phase }, { on := 1, ground := Ground.phase }, { on := 2, ground := Ground.phase }, { on := 3, ground := Ground.phase }, { on := 4, ground := Ground.phase }, { on := 5, ground := Ground.phase }, { on := 6, ground := Ground.phase }, { on := 7, ground := Ground.phase }, { on := 8, ground := Ground.phase }, { on := 9, ground := Ground.phase }, { on := 10, ground := Ground.phase }, { on := 11, ground := Ground.phase }], guard := none }) (v := ?vd13) rfl (by kernel_rfl) (by kernel_rfl) (by kernel_rfl) (fun _ _ _ h => h) (Or.inl ⟨by rfl, ?hd13⟩) hHeld ?rd13
            case hd13 => ((intro w hSw); (try dsimp only at hSw); go_simp; (try with_reducible rfl))
            (try simp only [Act.put, List.setIfInBounds_toArray, List.set_cons_zero, List.set_cons_succ])
            refine wpAnyH_ready (rs := [14]) (by kernel_rfl) (by simp) ?_
            refine AllReadyH.cons (o := { dst := none, op := Op.store 24 (Operand.tmp 46) (Operand.tmp 44), type := 0, pos := "record.go:64", after := #[{ on := 13, ground := Ground.data }, { on := 11, ground := Ground.data }, { on := 11, ground := Ground.chain }, { on := 0, ground := Ground.phase }, { on := 1, ground := Ground.phase }, { on := 2, ground := Ground.phase }, { on := 3, ground := Ground.phase }, { on := 4, ground := Ground.phase }, { on := 5, ground := Ground.phase }, { on := 6, ground := Ground.phase }, { on := 7, ground := Ground.phase }, { on := 8, ground := Ground.phase }, { on := 9, ground := Ground.phase }, { on := 10, ground := Ground.phase }, { on := 11, ground := Ground.phase }], guard := none }) rfl (fun K hK => ?_) AllReadyH.nil
            have cf := HR24.out.cell (j := 10) (v := q4.vd) rfl
            have ff := HR24.out.free 10
            go_simp
            clear cf ff
            refine hK.out _ _ ?_ (fun hHeld => ?_)
            · exact HT24.out.1.box
            clear hK K
            (try simp only [Act.put, List.setIfInBounds_toArray, List.set_cons_zero, List.set_cons_succ])
            refine wpAnyH_done (by kernel_rfl) ?_ _
            go_wp2_with fail
            go_roundw
            case rel => exact ⟨j + 1, by omega, by go_num, ⟨ys ++ [(v21, v22)], m22, { q4 with vd := .slice A24 (ys.length + 1) c24 }, gMany_snoc _ _ _ _ _ _ HGD.out (gDirt_at HG21.out HG22.out), HT24.out.1, fun g hg => (ownLe_block HO24.out hg).1⟩⟩
            case measure => simp [intOf]; omega
          refine AllReadyH.cons (o := { dst := some 41, op := Op.call { callee := Callee.value (Operand.func 38), args := #[Operand.tmp 40], argTypes := #[75] }, type := 3, pos := "record.go:64", after := #[{ on := 7, ground := Ground.data }, { on := 6, ground := Ground.chain }], guard := none }) rfl (fun K hK => ?_) AllReadyH.nil
          go_simp
          go_at_call 38
          refine H21.out.lsn.mono ?_
          rintro e w22 (⟨hg, rfl, hk⟩ | ⟨v22, m22, hg, rfl, hS⟩)
          · exact And.intro rfl (St.fail (w0 := w0) (B := B) (o := pCheck z l) (by rw [pCheck_at HG1.out HGM.out, HG3.out]; show (gMany gDirt ((N3 : Int).toNat) m3).map _ = none; rw [Int.toNat_natCast, gMany_none _ _ _ _ _ HGD.out (by unfold gDirt; simp only [HG21.out, hg, Option.bind_some, Option.bind_none, Option.map_none]) hlt3]; rfl) hk)
          have HG22 := Lib.hid hg
          have H22 := Lib.hid hS
          clear hg hS
          try go_wp2_with fail
          refine hK.out _ _ ?_ (fun hHeld => ?_)
          · exact H22.out.box
          clear hK K
          (try simp only [Act.put, List.setIfInBounds_toArray, List.set_cons_zero, List.set_cons_succ])
          refine wpAnyH_take (i := 9) (oi := { dst := some 42, op := Op.build 60 #[(0, Operand.tmp 39), (1, Operand.tmp 41)], type := 60, pos := "record.go:64", after := #[{ on := 6, ground := Ground.data }, { on := 8, ground := Ground.data }], guard := none }) (v := ?vd14) rfl (by kernel_rfl) (by kernel_rfl) (by kernel_rfl) (fun _ _ _ h => h) (Or.inl ⟨by rfl, ?hd14⟩) hHeld ?rd14
          case hd14 => ((intro w hSw); (try dsimp only at hSw); go_simp; (try with_reducible rfl))
          (try simp only [Act.put, List.setIfInBounds_toArray, List.set_cons_zero, List.set_cons_succ])
          refine wpAnyH_ready (rs := [4, 10]) (by kernel_rfl) (by simp) ?_
          refine AllReadyH.cons (o := { dst := some 37, op := Op.load 24 (Operand.tmp 36), type := 24, pos := "record.go:64", after := #[{ on := 3, ground := Ground.data }], guard := none }) rfl (fun K hK => ?sd15) ?td15
          case sd15 =>
            have cf := H22.out.rc.row.cell (j := 10) (v := q4.vd) rfl
            go_simp
            clear cf
            refine hK.out _ _ ?_ (fun hHeld => ?_)
            · exact hHeld
            clear hK K
            (try simp only [Act.put, List.setIfInBounds_toArray, List.set_cons_zero, List.set_cons_succ])
            refine wpAnyH_ready (rs := [10]) (by kernel_rfl) (by simp) ?_
            refine AllReadyH.cons (o := { dst := some 43, op := Op.buildSlice 24 1 #[(0, Operand.tmp 42)], type := 24, pos := "record.go:64", after := #[{ on := 9, ground := Ground.data }], guard := none }) rfl (fun K hK => ?_) AllReadyH.nil
            go_simp
            have H23 := Lib.hid (H22.out.below ((Below.refl _ _).alloc (Nat.le_refl _) (.cells #[.int .i64 v21, .int .i64 v22] 60)))
            have hrow : RowC (w22.alloc (.cells #[.int .i64 v21, .int .i64 v22] 60)) w22.heap.size 60 (dirtC (v21, v22)) := heap_alloc_new w22 _
            have HROW := Lib.hid hrow
            clear hrow
            refine hK.out _ _ ?_ (fun hHeld => ?_)
            · exact H23.out.box
            clear hK K
            (try simp only [Act.put, List.setIfInBounds_toArray, List.set_cons_zero, List.set_cons_succ])
            refine wpAnyH_ready (rs := [11]) (by kernel_rfl) (by simp) ?_
            refine AllReadyH.cons (o := { dst := some 44, op := Op.call { callee := Callee.builtin Builtin.append, args := #[Operand.tmp 37, Operand.tmp 43], argTypes := #[24, 24] }, type := 24, pos := "record.go:64", after := #[{ on := 4, ground := Ground.data }, { on := 10, ground := Ground.data }, { on := 8, ground := Ground.chain }], guard := none }) rfl (fun K hK => ?_) AllReadyH.nil
            refine step_appLe (by rfl) _ _ _ (by rfl) w.heap.size 60 HUD.out dirtInfo rfl (by omega) _ _ _ (by rfl) (ownLe_base H23.out.rc.ls.vd HNB4.out) ⟨_, 0, none⟩ 1 1 (dirtC (v21, v22)) (by rfl) rfl (news_row HROW.out) (by intro u hu; simp only [dirtC, List.mem_cons, List.not_mem_nil, or_false] at hu; rcases hu with rfl | rfl <;> rfl) (by show ys.length + 1 ≤ maxLen; unfold maxLen; omega) (by show (ys.length + 1) * 16 ≤ _; omega) (by have := H23.out.kept.size; exact this) ?_
            intro v24 w24 ho24 hg24 hat24
            obtain ⟨A24, c24, hv24⟩ := ownLe_slice ho24
            subst hv24
            have HO24 : Hid (OwnLe w24 w.heap.size 60 2 (.slice A24 (ys.length + 1) c24) (ys ++ [(v21, v22)]).length (dirtsC (ys ++ [(v21, v22)]))) := Lib.hid (by rw [dirtsC_snoc, List.length_append]; exact ho24)
            have T24 := H23.out.dirt (z := { z with rows := xs }) (ownLe_base H23.out.rc.ls.vd HNB4.out) hg24 HO24.out
            obtain ⟨_, _, r24, b24, _, _⟩ := H23.out.grown (ownLe_base H23.out.rc.ls.vd HNB4.out) ⟨by decide, by decide, by decide, by decide⟩ hg24
            have HT24 := Lib.hid T24
            have HR24 := Lib.hid r24
            have HB24 := Lib.hid b24
            clear ho24 hg24 hat24 T24 r24 b24
            refine hK.out _ _ ?_ (fun hHeld => ?_)
            · exact HB24.out.cell rfl
            clear hK K
            (try simp only [Act.put, List.setIfInBounds_toArray, List.set_cons_zero, List.set_cons_succ])
            refine wpAnyH_take (i := 12) (oi := { dst := some 45, op := Op.nilCheck (Operand.tmp 33), type := 0, pos := "record.go:64", after := #[{ on := 0, ground := Ground.data }, { on := 0, ground := Ground.phase }, { on := 1, ground := Ground.phase }, { on := 2, ground := Ground.phase }, { on := 3, ground := Ground.phase }, { on := 4, ground := Ground.phase }, { on := 5, ground := Ground.phase }, { on := 6, ground := Ground.phase }, { on := 7, ground := Ground.phase }, { on := 8, ground := Ground.phase }, { on := 9, ground := Ground.phase }, { on := 10, ground := Ground.phase }, { on := 11, ground := Ground.phase }], guard := none }) (v := ?vd16) rfl (by kernel_rfl) (by kernel_rfl) (by kernel_rfl) (fun _ _ _ h => h) (Or.inl ⟨by rfl, ?hd16⟩) hHeld ?rd16
            case hd16 => ((intro w hSw); (try dsimp only at hSw); go_simp; (try with_reducible rfl))
            (try simp only [Act.put, List.setIfInBounds_toArray, List.set_cons_zero, List.set_cons_succ])
            refine wpAnyH_take (i := 13) (oi := { dst := some 46, op := Op.fieldAddr 26 (Operand.tmp 45) 10, type := 0, pos := "record.go:64", after := #[{ on := 12, ground := Ground.data }, { on := 0, ground := Ground.phase }, { on := 1, ground := Ground.phase }, { on := 2, ground := Ground.phase }, { on := 3, ground := Ground.phase }, { on := 4, ground := Ground.phase }, { on := 5, ground := Ground.phase }, { on := 6, ground := Ground.phase }, { on := 7, ground := Ground.phase }, { on := 8, ground := Ground.phase }, { on := 9, ground := Ground.phase }, { on := 10, ground := Ground.phase }, { on := 11, ground := Ground.phase }], guard := none }) (v := ?vd17) rfl (by kernel_rfl) (by kernel_rfl) (by kernel_rfl) (fun _ _ _ h => h) (Or.inl ⟨by rfl, ?hd17⟩) hHeld ?rd17
            case hd17 => ((intro w hSw); (try dsimp only at hSw); go_simp; (try with_reducible rfl))
            (try simp only [Act.put, List.setIfInBounds_toArray, List.set_cons_zero, List.set_cons_succ])
            refine wpAnyH_ready (rs := [14]) (by kernel_rfl) (by simp) ?_
            refine AllReadyH.cons (o := { dst := none, op := Op.store 24 (Operand.tmp 46) (Operand.tmp 44), type := 0, pos := "record.go:64", after := #[{ on := 13, ground := Ground.data }, { on := 11, ground := Ground.data }, { on := 11, ground := Ground.chain }, { on := 0, ground := Ground.phase }, { on := 1, ground := Ground.phase }, { on := 2, ground := Ground.phase }, { on := 3, ground := Ground.phase }, { on := 4, ground := Ground.phase }, { on := 5, ground := Ground.phase }, { on := 6, ground := Ground.phase }, { on := 7, ground := Ground.phase }, { on := 8, ground := Ground.phase }, { on := 9, ground := Ground.phase }, { on := 10, ground := Ground.phase }, { on := 11, ground := Ground.phase }], guard := none }) rfl (fun K hK => ?_) AllReadyH.nil
            have cf := HR24.out.cell (j := 10) (v := q4.vd) rfl
            have ff := HR24.out.free 10
            go_simp
            clear cf ff
            refine hK.out _ _ ?_ (fun hHeld => ?_)
            · exact HT24.out.1.box
            clear hK K
            (try simp only [Act.put, List.setIfInBounds_toArray, List.set_cons_zero, List.set_cons_succ])
            refine wpAnyH_done (by kernel_rfl) ?_ _
            go_wp2_with fail
            go_roundw
            case rel => exact ⟨j + 1, by omega, by go_num, ⟨ys ++ [(v21, v22)], m22, { q4 with vd := .slice A24 (ys.length + 1) c24 }, gMany_snoc _ _ _ _ _ _ HGD.out (gDirt_at HG21.out HG22.out), HT24.out.1, fun g hg => (ownLe_block HO24.out hg).1⟩⟩
            case measure => simp [intOf]; omega
          refine AllReadyH.cons (o := { dst := some 43, op := Op.buildSlice 24 1 #[(0, Operand.tmp 42)], type := 24, pos := "record.go:64", after := #[{ on := 9, ground := Ground.data }], guard := none }) rfl (fun K hK => ?_) AllReadyH.nil
          go_simp
          have H23 := Lib.hid (H22.out.below ((Below.refl _ _).alloc (Nat.le_refl _) (.cells #[.int .i64 v21, .int .i64 v22] 60)))
          have hrow : RowC (w22.alloc (.cells #[.int .i64 v21, .int .i64 v22] 60)) w22.heap.size 60 (dirtC (v21, v22)) := heap_alloc_new w22 _
          have HROW := Lib.hid hrow
          clear hrow
          refine hK.out _ _ ?_ (fun hHeld => ?_)
          · exact H23.out.box
          clear hK K
          (try simp only [Act.put, List.setIfInBounds_toArray, List.set_cons_zero, List.set_cons_succ])
          refine wpAnyH_ready (rs := [4]) (by kernel_rfl) (by simp) ?_
          refine AllReadyH.cons (o := { dst := some 37, op := Op.load 24 (Operand.tmp 36), type := 24, pos := "record.go:64", after := #[{ on := 3, ground := Ground.data }], guard := none }) rfl (fun K hK => ?_) AllReadyH.nil
          have cf := H23.out.rc.row.cell (j := 10) (v := q4.vd) rfl
          go_simp
          clear cf
          refine hK.out _ _ ?_ (fun hHeld => ?_)
          · exact hHeld
          clear hK K
          (try simp only [Act.put, List.setIfInBounds_toArray, List.set_cons_zero, List.set_cons_succ])
          refine wpAnyH_ready (rs := [11]) (by kernel_rfl) (by simp) ?_
          refine AllReadyH.cons (o := { dst := some 44, op := Op.call { callee := Callee.builtin Builtin.append, args := #[Operand.tmp 37, Operand.tmp 43], argTypes := #[24, 24] }, type := 24, pos := "record.go:64", after := #[{ on := 4, ground := Ground.data }, { on := 10, ground := Ground.data }, { on := 8, ground := Ground.chain }], guard := none }) rfl (fun K hK => ?_) AllReadyH.nil
          refine step_appLe (by rfl) _ _ _ (by rfl) w.heap.size 60 HUD.out dirtInfo rfl (by omega) _ _ _ (by rfl) (ownLe_base H23.out.rc.ls.vd HNB4.out) ⟨_, 0, none⟩ 1 1 (dirtC (v21, v22)) (by rfl) rfl (news_row HROW.out) (by intro u hu; simp only [dirtC, List.mem_cons, List.not_mem_nil, or_false] at hu; rcases hu with rfl | rfl <;> rfl) (by show ys.length + 1 ≤ maxLen; unfold maxLen; omega) (by show (ys.length + 1) * 16 ≤ _; omega) (by have := H23.out.kept.size; exact this) ?_
          intro v24 w24 ho24 hg24 hat24
          obtain ⟨A24, c24, hv24⟩ := ownLe_slice ho24
          subst hv24
          have HO24 : Hid (OwnLe w24 w.heap.size 60 2 (.slice A24 (ys.length + 1) c24) (ys ++ [(v21, v22)]).length (dirtsC (ys ++ [(v21, v22)]))) := Lib.hid (by rw [dirtsC_snoc, List.length_append]; exact ho24)
          have T24 := H23.out.dirt (z := { z with rows := xs }) (ownLe_base H23.out.rc.ls.vd HNB4.out) hg24 HO24.out
          obtain ⟨_, _, r24, b24, _, _⟩ := H23.out.grown (ownLe_base H23.out.rc.ls.vd HNB4.out) ⟨by decide, by decide, by decide, by decide⟩ hg24
          have HT24 := Lib.hid T24
          have HR24 := Lib.hid r24
          have HB24 := Lib.hid b24
          clear ho24 hg24 hat24 T24 r24 b24
          refine hK.out _ _ ?_ (fun hHeld => ?_)
          · exact HB24.out.cell rfl
          clear hK K
          (try simp only [Act.put, List.setIfInBounds_toArray, List.set_cons_zero, List.set_cons_succ])
          refine wpAnyH_take (i := 12) (oi := { dst := some 45, op := Op.nilCheck (Operand.tmp 33), type := 0, pos := "record.go:64", after := #[{ on := 0, ground := Ground.data }, { on := 0, ground := Ground.phase }, { on := 1, ground := Ground.phase }, { on := 2, ground := Ground.phase }, { on := 3, ground := Ground.phase }, { on := 4, ground := Ground.phase }, { on := 5, ground := Ground.phase }, { on := 6, ground := Ground.phase }, { on := 7, ground := Ground.phase }, { on := 8, ground := Ground.phase }, { on := 9, ground := Ground.phase }, { on := 10, ground := Ground.phase }, { on := 11, ground := Ground.phase }], guard := none }) (v := ?vd18) rfl (by kernel_rfl) (by kernel_rfl) (by kernel_rfl) (fun _ _ _ h => h) (Or.inl ⟨by rfl, ?hd18⟩) hHeld ?rd18
          case hd18 => ((intro w hSw); (try dsimp only at hSw); go_simp; (try with_reducible rfl))
          (try simp only [Act.put, List.setIfInBounds_toArray, List.set_cons_zero, List.set_cons_succ])
          refine wpAnyH_take (i := 13) (oi := { dst := some 46, op := Op.fieldAddr 26 (Operand.tmp 45) 10, type := 0, pos := "record.go:64", after := #[{ on := 12, ground := Ground.data }, { on := 0, ground := Ground.phase }, { on := 1, ground := Ground.phase }, { on := 2, ground := Ground.phase }, { on := 3, ground := Ground.phase }, { on := 4, ground := Ground.phase }, { on := 5, ground := Ground.phase }, { on := 6, ground := Ground.phase }, { on := 7, ground := Ground.phase }, { on := 8, ground := Ground.phase }, { on := 9, ground := Ground.phase }, { on := 10, ground := Ground.phase }, { on := 11, ground := Ground.phase }], guard := none }) (v := ?vd19) rfl (by kernel_rfl) (by kernel_rfl) (by kernel_rfl) (fun _ _ _ h => h) (Or.inl ⟨by rfl, ?hd19⟩) hHeld ?rd19
          case hd19 => ((intro w hSw); (try dsimp only at hSw); go_simp; (try with_reducible rfl))
          (try simp only [Act.put, List.setIfInBounds_toArray, List.set_cons_zero, List.set_cons_succ])
          refine wpAnyH_ready (rs := [14]) (by kernel_rfl) (by simp) ?_
          refine AllReadyH.cons (o := { dst := none, op := Op.store 24 (Operand.tmp 46) (Operand.tmp 44), type := 0, pos := "record.go:64", after := #[{ on := 13, ground := Ground.data }, { on := 11, ground := Ground.data }, { on := 11, ground := Ground.chain }, { on := 0, ground := Ground.phase }, { on := 1, ground := Ground.phase }, { on := 2, ground := Ground.phase }, { on := 3, ground := Ground.phase }, { on := 4, ground := Ground.phase }, { on := 5, ground := Ground.phase }, { on := 6, ground := Ground.phase }, { on := 7, ground := Ground.phase }, { on := 8, ground := Ground.phase }, { on := 9, ground := Ground.phase }, { on := 10, ground := Ground.phase }, { on := 11, ground := Ground.phase }], guard := none }) rfl (fun K hK => ?_) AllReadyH.nil
          have cf := HR24.out.cell (j := 10) (v := q4.vd) rfl
          have ff := HR24.out.free 10
          go_simp
          clear cf ff
          refine hK.out _ _ ?_ (fun hHeld => ?_)
          · exact HT24.out.1.box
          clear hK K
          (try simp only [Act.put, List.setIfInBounds_toArray, List.set_cons_zero, List.set_cons_succ])
          refine wpAnyH_done (by kernel_rfl) ?_ _
          go_wp2_with fail
          go_roundw
          case rel => exact ⟨j + 1, by omega, by go_num, ⟨ys ++ [(v21, v22)], m22, { q4 with vd := .slice A24 (ys.length + 1) c24 }, gMany_snoc _ _ _ _ _ _ HGD.out (gDirt_at HG21.out HG22.out), HT24.out.1, fun g hg => (ownLe_block HO24.out hg).1⟩⟩
          case measure => simp [intOf]; omega
        · have he : j = N3 := by omega
          subst he
          clear hlt3 H4d
          go_wp2_with fail
          go_end0
          exact H4.out.done (by rw [pCheck_at HG1.out HGM.out, HG3.out]; show (gMany gDirt ((j : Int).toNat) m3).map _ = _; rw [Int.toNat_natCast, HGD.out]; rfl) _
end Go.Proofs.Ytiaehoppdihbdaa
