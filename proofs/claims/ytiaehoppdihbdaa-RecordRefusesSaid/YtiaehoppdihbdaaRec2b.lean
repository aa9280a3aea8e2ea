import Derived.Test.YtiaehoppdihbdaaRec2
/- The contracts of package record: the kinds' readers. -/
set_option linter.unusedVariables false
set_option linter.unusedSimpArgs false
namespace Go.Proofs.Ytiaehoppdihbdaa
open Go.RowKit Go.Tm
set_option maxHeartbeats 400000
set_option maxRecDepth 100000
attribute [local go_sem ↓] Go.wp_at_zero Go.wp_at_succ

set_option maxHeartbeats 1000000 in
theorem readBegin_any {w0 w : World} {r rp B : Nat} {l : List UInt8} {z : RecD} {q : RPl} (h : IsRs w0 w r 95 l) (hz : RecB w B rp z q) (hl : l.length ≤ 140737488355328) (hB : B ≤ w.heap.size) (hrn : w0.heap.size ≤ rp) (hwn : w0.heap.size ≤ w.heap.size) :
    Calls Try.prog 65 #[srcV r, .pointer (some ⟨rp, 0, none⟩)] w (RdrP w0 (pBegin z l) r rp B w) := by
  have H0 := Lib.hid (St.start h hz hl hB hrn hwn)
  clear h hz
  go_enter Try.func65, Try.ntmps65
  go_wp2_with fail
  refine (H0.out.num 1 (.inl rfl) rfl).mono ?_
  rintro e w1 (⟨hg, rfl, hk⟩ | ⟨v, m, hg, rfl, hS⟩)
  · have HG := Lib.hid hg
    have HK := Lib.hid hk
    clear hg hk
    go_wp2_with fail
    exact And.intro rfl (St.fail (w0 := w0) (B := B) (o := pBegin z l) (by unfold pBegin; rw [HG.out]; rfl) HK.out)
  · have HG := Lib.hid hg
    have H1 := Lib.hid hS
    have c3 := hS.field (k := 3) (v := .int .i64 z.id) rfl
    obtain ⟨c3, f3⟩ := c3
    clear hg hS
    go_wp2_with fail
    go_end0
    have hl3 := H1.out.lsn_ 3 (.int .i64 v)
    exact (H1.out.store 3 (.int .i64 v) (z' := { z with id := v }) (q' := q) rfl ⟨hl3.vb, hl3.va, hl3.vr, hl3.vd, hl3.ap⟩).done (by unfold pBegin; rw [HG.out]; rfl) _

set_option maxHeartbeats 4000000 in
theorem readUpdate_any {w0 w : World} {r rp B : Nat} {l : List UInt8} {z : RecD} {q : RPl} (h : IsRs w0 w r 95 l) (hz : RecB w B rp z q) (hl : l.length ≤ 140737488355328) (hB : B ≤ w.heap.size) (hrn : w0.heap.size ≤ rp) (hwn : w0.heap.size ≤ w.heap.size) :
    Calls Try.prog 66 #[srcV r, .pointer (some ⟨rp, 0, none⟩)] w (RdrP w0 (pUpdate z l) r rp B w) := by
  have H0 := Lib.hid (St.start h hz hl hB hrn hwn)
  have H0d := Lib.hid H0.out.drew
  clear h hz
  go_enter Try.func66, Try.ntmps66
  go_wp2_with fail
  refine wp_region_held_drew (S := (fun w' => w'.cell? ⟨w.heap.size, 0, none⟩ = some (.pointer (some ⟨r, 0, none⟩)))) (by kernel_rfl) (H0d.out.box) (fun hHeld => ?_)
  refine wpAnyH_take (i := 0) (oi := { dst := some 5, op := Op.move (Operand.tmp 1), type := 81, pos := "record.go:48", after := #[], guard := none }) (v := ?vpUpdate0) rfl (by kernel_rfl) (by kernel_rfl) (by kernel_rfl) (fun _ _ _ h => h) (Or.inl ⟨by rfl, ?hpUpdate0⟩) hHeld ?rpUpdate0
  case hpUpdate0 => ((intro w hSw); (try dsimp only at hSw); go_simp; (try with_reducible rfl))
  (try simp only [Act.put, List.setIfInBounds_toArray, List.set_cons_zero, List.set_cons_succ])
  refine wpAnyH_take (i := 1) (oi := { dst := some 6, op := Op.move (Operand.tmp 1), type := 81, pos := "record.go:48", after := #[{ on := 8, ground := Ground.gcOnly Departure.lateStores }], guard := none }) (v := ?vpUpdate1) rfl (by kernel_rfl) (by kernel_rfl) (by kernel_rfl) (fun _ _ _ h => h) (Or.inl ⟨by rfl, ?hpUpdate1⟩) hHeld ?rpUpdate1
  case hpUpdate1 => ((intro w hSw); (try dsimp only at hSw); go_simp; (try with_reducible rfl))
  (try simp only [Act.put, List.setIfInBounds_toArray, List.set_cons_zero, List.set_cons_succ])
  refine wpAnyH_take (i := 2) (oi := { dst := some 7, op := Op.load 75 (Operand.tmp 2), type := 75, pos := "record.go:48", after := #[], guard := none }) (v := ?vpUpdate2) rfl (by kernel_rfl) (by kernel_rfl) (by kernel_rfl) (fun _ _ _ h => h) (Or.inl ⟨by rfl, ?hpUpdate2⟩) hHeld ?rpUpdate2
  case hpUpdate2 => ((intro w hSw); (try dsimp only at hSw); go_simp; (try with_reducible rfl))
  (try simp only [Act.put, List.setIfInBounds_toArray, List.set_cons_zero, List.set_cons_succ])
  refine wpAnyH_take (i := 4) (oi := { dst := some 9, op := Op.load 75 (Operand.tmp 2), type := 75, pos := "record.go:48", after := #[], guard := none }) (v := ?vpUpdate3) rfl (by kernel_rfl) (by kernel_rfl) (by kernel_rfl) (fun _ _ _ h => h) (Or.inl ⟨by rfl, ?hpUpdate3⟩) hHeld ?rpUpdate3
  case hpUpdate3 => ((intro w hSw); (try dsimp only at hSw); go_simp; (try with_reducible rfl))
  (try simp only [Act.put, List.setIfInBounds_toArray, List.set_cons_zero, List.set_cons_succ])
  refine wpAnyH_ready (rs := [3]) (by kernel_rfl) (by simp) ?_
  refine AllReadyH.cons (o := { dst := some 8, op := Op.call { callee := Callee.value (Operand.func 37), args := #[Operand.tmp 7, Operand.const (Value.int IntKind.i64 1)], argTypes := #[75, 3] }, type := 3, pos := "record.go:48", after := #[{ on := 2, ground := Ground.data }], guard := none }) rfl (fun K hK => ?_) AllReadyH.nil
  go_simp
  go_at_call 37
  refine (H0d.out.num 1 (.inl rfl) rfl).mono ?_
  rintro e w1 (⟨hg, rfl, hk⟩ | ⟨v1, m1, hg, rfl, hS⟩)
  · exact And.intro rfl (St.fail (w0 := w0) (B := B) (o := pUpdate z l) (by unfold pUpdate; simp only [hg, Option.bind_some, Option.bind_none, Option.map_none]) hk)
  have HG1 := Lib.hid hg
  have H1 := Lib.hid hS
  clear hg hS
  try go_wp2_with fail
  refine hK.out _ _ ?_ (fun hHeld => ?_)
  · exact H1.out.box
  clear hK K
  (try simp only [Act.put, List.setIfInBounds_toArray, List.set_cons_zero, List.set_cons_succ])
  refine wpAnyH_ready (rs := [5]) (by kernel_rfl) (by simp) ?_
  refine AllReadyH.cons (o := { dst := some 10, op := Op.call { callee := Callee.value (Operand.func 37), args := #[Operand.tmp 9, Operand.const (Value.int IntKind.i64 2)], argTypes := #[75, 3] }, type := 3, pos := "record.go:48", after := #[{ on := 4, ground := Ground.data }, { on := 3, ground := Ground.chain }], guard := none }) rfl (fun K hK => ?_) AllReadyH.nil
  go_simp
  go_at_call 37
  refine (H1.out.num 2 (.inr rfl) rfl).mono ?_
  rintro e w2 (⟨hg, rfl, hk⟩ | ⟨v2, m2, hg, rfl, hS⟩)
  · exact And.intro rfl (St.fail (w0 := w0) (B := B) (o := pUpdate z l) (by unfold pUpdate; simp only [HG1.out, hg, Option.bind_some, Option.bind_none, Option.map_none]) hk)
  have HG2 := Lib.hid hg
  have H2 := Lib.hid hS
  clear hg hS
  try go_wp2_with fail
  refine hK.out _ _ ?_ (fun hHeld => ?_)
  · exact H2.out.box
  clear hK K
  (try simp only [Act.put, List.setIfInBounds_toArray, List.set_cons_zero, List.set_cons_succ])
  refine wpAnyH_take (i := 6) (oi := { dst := some 11, op := Op.nilCheck (Operand.tmp 5), type := 0, pos := "record.go:48", after := #[{ on := 0, ground := Ground.data }, { on := 0, ground := Ground.phase }, { on := 1, ground := Ground.textOnly Departure.lateStores }, { on := 2, ground := Ground.phase }, { on := 3, ground := Ground.phase }, { on := 4, ground := Ground.textOnly Departure.lateStores }, { on := 5, ground := Ground.phase }], guard := none }) (v := ?vpUpdate4) rfl (by kernel_rfl) (by kernel_rfl) (by kernel_rfl) (fun _ _ _ h => h) (Or.inl ⟨by rfl, ?hpUpdate4⟩) hHeld ?rpUpdate4
  case hpUpdate4 => ((intro w hSw); (try dsimp only at hSw); go_simp; (try with_reducible rfl))
  (try simp only [Act.put, List.setIfInBounds_toArray, List.set_cons_zero, List.set_cons_succ])
  refine wpAnyH_take (i := 7) (oi := { dst := some 12, op := Op.fieldAddr 26 (Operand.tmp 11) 4, type := 0, pos := "record.go:48", after := #[{ on := 6, ground := Ground.data }, { on := 0, ground := Ground.phase }, { on := 1, ground := Ground.textOnly Departure.lateStores }, { on := 2, ground := Ground.phase }, { on := 3, ground := Ground.phase }, { on := 4, ground := Ground.textOnly Departure.lateStores }, { on := 5, ground := Ground.phase }], guard := none }) (v := ?vpUpdate5) rfl (by kernel_rfl) (by kernel_rfl) (by kernel_rfl) (fun _ _ _ h => h) (Or.inl ⟨by rfl, ?hpUpdate5⟩) hHeld ?rpUpdate5
  case hpUpdate5 => ((intro w hSw); (try dsimp only at hSw); go_simp; (try with_reducible rfl))
  (try simp only [Act.put, List.setIfInBounds_toArray, List.set_cons_zero, List.set_cons_succ])
  refine wpAnyH_ready (rs := [8]) (by kernel_rfl) (by simp) ?_
  refine AllReadyH.cons (o := { dst := none, op := Op.store 3 (Operand.tmp 12) (Operand.tmp 8), type := 0, pos := "record.go:48", after := #[{ on := 7, ground := Ground.data }, { on := 3, ground := Ground.data }, { on := 5, ground := Ground.chain }, { on := 0, ground := Ground.phase }, { on := 1, ground := Ground.textOnly Departure.lateStores }, { on := 2, ground := Ground.phase }, { on := 3, ground := Ground.phase }, { on := 4, ground := Ground.textOnly Departure.lateStores }, { on := 5, ground := Ground.phase }], guard := none }) rfl (fun K hK => ?_) AllReadyH.nil
  obtain ⟨cf, ff⟩ := H2.out.field (k := 4) rfl
  go_simp
  have HL := H2.out.lsn_ 4 (.int .i64 v1)
  have H3 := Lib.hid (H2.out.store 4 (.int .i64 v1) (z' := { z with page := v1 }) (q' := q) rfl ⟨HL.vb, HL.va, HL.vr, HL.vd, HL.ap⟩)
  clear HL cf ff
  refine hK.out _ _ ?_ (fun hHeld => ?_)
  · exact H3.out.box
  clear hK K
  (try simp only [Act.put, List.setIfInBounds_toArray, List.set_cons_zero, List.set_cons_succ])
  refine wpAnyH_take (i := 9) (oi := { dst := some 13, op := Op.nilCheck (Operand.tmp 6), type := 0, pos := "record.go:48", after := #[{ on := 1, ground := Ground.data }, { on := 0, ground := Ground.phase }, { on := 1, ground := Ground.phase }, { on := 2, ground := Ground.phase }, { on := 3, ground := Ground.phase }, { on := 4, ground := Ground.phase }, { on := 5, ground := Ground.phase }, { on := 6, ground := Ground.phase }, { on := 7, ground := Ground.phase }, { on := 8, ground := Ground.phase }], guard := none }) (v := ?vpUpdate6) rfl (by kernel_rfl) (by kernel_rfl) (by kernel_rfl) (fun _ _ _ h => h) (Or.inl ⟨by rfl, ?hpUpdate6⟩) hHeld ?rpUpdate6
  case hpUpdate6 => ((intro w hSw); (try dsimp only at hSw); go_simp; (try with_reducible rfl))
  (try simp only [Act.put, List.setIfInBounds_toArray, List.set_cons_zero, List.set_cons_succ])
  refine wpAnyH_take (i := 10) (oi := { dst := some 14, op := Op.fieldAddr 26 (Operand.tmp 13) 5, type := 0, pos := "record.go:48", after := #[{ on := 9, ground := Ground.data }, { on := 0, ground := Ground.phase }, { on := 1, ground := Ground.phase }, { on := 2, ground := Ground.phase }, { on := 3, ground := Ground.phase }, { on := 4, ground := Ground.phase }, { on := 5, ground := Ground.phase }, { on := 6, ground := Ground.phase }, { on := 7, ground := Ground.phase }, { on := 8, ground := Ground.phase }], guard := none }) (v := ?vpUpdate7) rfl (by kernel_rfl) (by kernel_rfl) (by kernel_rfl) (fun _ _ _ h => h) (Or.inl ⟨by rfl, ?hpUpdate7⟩) hHeld ?rpUpdate7
  case hpUpdate7 => ((intro w hSw); (try dsimp only at hSw); go_simp; (try with_reducible rfl))
  (try simp only [Act.put, List.setIfInBounds_toArray, List.set_cons_zero, List.set_cons_succ])
  refine wpAnyH_ready (rs := [11]) (by kernel_rfl) (by simp) ?_
  refine AllReadyH.cons (o := { dst := none, op := Op.store 3 (Operand.tmp 14) (Operand.tmp 10), type := 0, pos := "record.go:48", after := #[{ on := 10, ground := Ground.data }, { on := 5, ground := Ground.data }, { on := 8, ground := Ground.chain }, { on := 0, ground := Ground.phase }, { on := 1, ground := Ground.phase }, { on := 2, ground := Ground.phase }, { on := 3, ground := Ground.phase }, { on := 4, ground := Ground.phase }, { on := 5, ground := Ground.phase }, { on := 6, ground := Ground.phase }, { on := 7, ground := Ground.phase }, { on := 8, ground := Ground.phase }], guard := none }) rfl (fun K hK => ?_) AllReadyH.nil
  obtain ⟨cf, ff⟩ := H3.out.field (k := 5) rfl
  go_simp
  have HL := H3.out.lsn_ 5 (.int .i64 v2)
  have H4 := Lib.hid (H3.out.store 5 (.int .i64 v2) (z' := { z with page := v1, frm := v2 }) (q' := q) rfl ⟨HL.vb, HL.va, HL.vr, HL.vd, HL.ap⟩)
  clear HL cf ff
  refine hK.out _ _ ?_ (fun hHeld => ?_)
  · exact H4.out.box
  clear hK K
  (try simp only [Act.put, List.setIfInBounds_toArray, List.set_cons_zero, List.set_cons_succ])
  refine wpAnyH_done (by kernel_rfl) ?_ _
  skip
  have hbx := H4.out.box
  go_wp2_with fail
  refine (H4.out.num 2 (.inr rfl) rfl).mono ?_
  rintro e w5 (⟨hg, rfl, hk⟩ | ⟨v5, m5, hg, rfl, hS⟩)
  · have HG := Lib.hid hg
    have HK := Lib.hid hk
    clear hg hk hbx
    go_wp2_with fail
    exact And.intro rfl (St.fail (w0 := w0) (B := B) (o := pUpdate z l) (by unfold pUpdate; simp only [HG1.out, HG2.out, HG.out, Option.bind_some, Option.bind_none]) HK.out)
  have HG5 := Lib.hid hg
  have H5 := Lib.hid hS
  have H5d := Lib.hid hS.drew
  have hv5 : v5.toNat < 65536 ∧ v5 = (v5.toNat : Int) := by
    have := gN_is hg
    exact ⟨by have := this.2.2; omega, by have := this.2.1; omega⟩
  obtain ⟨n5, hn5⟩ : ∃ n5, v5.toNat = n5 := ⟨_, rfl⟩
  rw [hn5] at hv5
  have HN5 := Lib.hid hn5
  obtain ⟨hv5, hv6⟩ := hv5
  subst hv6
  clear hg hS hbx hn5
  go_wp2_with fail
  refine wp_region_held_drew (S := (fun w' => w'.cell? ⟨w.heap.size, 0, none⟩ = some (.pointer (some ⟨r, 0, none⟩)))) (by kernel_rfl) (H5d.out.box) (fun hHeld => ?_)
  refine wpAnyH_take (i := 0) (oi := { dst := some 17, op := Op.move (Operand.tmp 1), type := 81, pos := "record.go:50", after := #[], guard := none }) (v := ?vu0) rfl (by kernel_rfl) (by kernel_rfl) (by kernel_rfl) (fun _ _ _ h => h) (Or.inl ⟨by rfl, ?hu0⟩) hHeld ?ru0
  case hu0 => ((intro w hSw); (try dsimp only at hSw); go_simp; (try with_reducible rfl))
  (try simp only [Act.put, List.setIfInBounds_toArray, List.set_cons_zero, List.set_cons_succ])
  refine wpAnyH_take (i := 1) (oi := { dst := some 18, op := Op.move (Operand.tmp 1), type := 81, pos := "record.go:50", after := #[{ on := 10, ground := Ground.gcOnly Departure.lateStores }], guard := none }) (v := ?vu1) rfl (by kernel_rfl) (by kernel_rfl) (by kernel_rfl) (fun _ _ _ h => h) (Or.inl ⟨by rfl, ?hu1⟩) hHeld ?ru1
  case hu1 => ((intro w hSw); (try dsimp only at hSw); go_simp; (try with_reducible rfl))
  (try simp only [Act.put, List.setIfInBounds_toArray, List.set_cons_zero, List.set_cons_succ])
  refine wpAnyH_take (i := 2) (oi := { dst := some 19, op := Op.load 75 (Operand.tmp 2), type := 75, pos := "record.go:50", after := #[], guard := none }) (v := ?vu2) rfl (by kernel_rfl) (by kernel_rfl) (by kernel_rfl) (fun _ _ _ h => h) (Or.inl ⟨by rfl, ?hu2⟩) hHeld ?ru2
  case hu2 => ((intro w hSw); (try dsimp only at hSw); go_simp; (try with_reducible rfl))
  (try simp only [Act.put, List.setIfInBounds_toArray, List.set_cons_zero, List.set_cons_succ])
  refine wpAnyH_take (i := 3) (oi := { dst := some 20, op := Op.move (Operand.tmp 4), type := 3, pos := "record.go:50", after := #[], guard := none }) (v := ?vu3) rfl (by kernel_rfl) (by kernel_rfl) (by kernel_rfl) (fun _ _ _ h => h) (Or.inl ⟨by rfl, ?hu3⟩) hHeld ?ru3
  case hu3 => ((intro w hSw); (try dsimp only at hSw); go_simp; (try with_reducible rfl))
  (try simp only [Act.put, List.setIfInBounds_toArray, List.set_cons_zero, List.set_cons_succ])
  refine wpAnyH_take (i := 5) (oi := { dst := some 22, op := Op.load 75 (Operand.tmp 2), type := 75, pos := "record.go:50", after := #[], guard := none }) (v := ?vu4) rfl (by kernel_rfl) (by kernel_rfl) (by kernel_rfl) (fun _ _ _ h => h) (Or.inl ⟨by rfl, ?hu4⟩) hHeld ?ru4
  case hu4 => ((intro w hSw); (try dsimp only at hSw); go_simp; (try with_reducible rfl))
  (try simp only [Act.put, List.setIfInBounds_toArray, List.set_cons_zero, List.set_cons_succ])
  refine wpAnyH_take (i := 6) (oi := { dst := some 23, op := Op.move (Operand.tmp 4), type := 3, pos := "record.go:50", after := #[], guard := none }) (v := ?vu5) rfl (by kernel_rfl) (by kernel_rfl) (by kernel_rfl) (fun _ _ _ h => h) (Or.inl ⟨by rfl, ?hu5⟩) hHeld ?ru5
  case hu5 => ((intro w hSw); (try dsimp only at hSw); go_simp; (try with_reducible rfl))
  (try simp only [Act.put, List.setIfInBounds_toArray, List.set_cons_zero, List.set_cons_succ])
  refine wpAnyH_ready (rs := [4]) (by kernel_rfl) (by simp) ?_
  refine AllReadyH.cons (o := { dst := some 21, op := Op.call { callee := Callee.value (Operand.func 74), args := #[Operand.tmp 19, Operand.tmp 20], argTypes := #[75, 3] }, type := 22, pos := "record.go:50", after := #[{ on := 2, ground := Ground.data }, { on := 3, ground := Ground.data }], guard := none }) rfl (fun K hK => ?_) AllReadyH.nil
  go_simp
  go_at_call 74
  refine (H5d.out.row n5 (by omega) rfl).mono ?_
  rintro e w6 (⟨hg, rfl, hk⟩ | ⟨x6, m6, A6, c6, hg, rfl, hS, hO, hK6⟩)
  · exact And.intro rfl (St.fail (w0 := w0) (B := B) (o := pUpdate z l) (by unfold pUpdate; simp only [HG1.out, HG2.out, HG5.out, HN5.out, hg, Option.bind_some, Option.bind_none, Option.map_none]) hk)
  have HG6 := Lib.hid hg
  have H6 := Lib.hid hS
  have HO6 := Lib.hid hO
  have HKR6 := Lib.hid hK6
  clear hg hS hO hK6
  try go_wp2_with fail
  refine hK.out _ _ ?_ (fun hHeld => ?_)
  · exact H6.out.box
  clear hK K
  (try simp only [Act.put, List.setIfInBounds_toArray, List.set_cons_zero, List.set_cons_succ])
  refine wpAnyH_ready (rs := [7]) (by kernel_rfl) (by simp) ?_
  refine AllReadyH.cons (o := { dst := some 24, op := Op.call { callee := Callee.value (Operand.func 74), args := #[Operand.tmp 22, Operand.tmp 23], argTypes := #[75, 3] }, type := 22, pos := "record.go:50", after := #[{ on := 5, ground := Ground.data }, { on := 6, ground := Ground.data }, { on := 4, ground := Ground.chain }], guard := none }) rfl (fun K hK => ?_) AllReadyH.nil
  go_simp
  go_at_call 74
  refine (H6.out.row n5 (by omega) rfl).mono ?_
  rintro e w7 (⟨hg, rfl, hk⟩ | ⟨x7, m7, A7, c7, hg, rfl, hS, hO, hK7⟩)
  · exact And.intro rfl (St.fail (w0 := w0) (B := B) (o := pUpdate z l) (by unfold pUpdate; simp only [HG1.out, HG2.out, HG5.out, HN5.out, HG6.out, hg, Option.bind_some, Option.bind_none, Option.map_none]) hk)
  have HG7 := Lib.hid hg
  have H7 := Lib.hid hS
  have HO7 := Lib.hid hO
  have HKR7 := Lib.hid hK7
  clear hg hS hO hK7
  try go_wp2_with fail
  refine hK.out _ _ ?_ (fun hHeld => ?_)
  · exact H7.out.box
  clear hK K
  (try simp only [Act.put, List.setIfInBounds_toArray, List.set_cons_zero, List.set_cons_succ])
  refine wpAnyH_take (i := 8) (oi := { dst := some 25, op := Op.nilCheck (Operand.tmp 17), type := 0, pos := "record.go:50", after := #[{ on := 0, ground := Ground.data }, { on := 0, ground := Ground.phase }, { on := 1, ground := Ground.textOnly Departure.lateStores }, { on := 2, ground := Ground.phase }, { on := 3, ground := Ground.phase }, { on := 4, ground := Ground.phase }, { on := 5, ground := Ground.textOnly Departure.lateStores }, { on := 6, ground := Ground.textOnly Departure.lateStores }, { on := 7, ground := Ground.phase }], guard := none }) (v := ?vu6) rfl (by kernel_rfl) (by kernel_rfl) (by kernel_rfl) (fun _ _ _ h => h) (Or.inl ⟨by rfl, ?hu6⟩) hHeld ?ru6
  case hu6 => ((intro w hSw); (try dsimp only at hSw); go_simp; (try with_reducible rfl))
  (try simp only [Act.put, List.setIfInBounds_toArray, List.set_cons_zero, List.set_cons_succ])
  refine wpAnyH_take (i := 9) (oi := { dst := some 26, op := Op.fieldAddr 26 (Operand.tmp 25) 6, type := 0, pos := "record.go:50", after := #[{ on := 8, ground := Ground.data }, { on := 0, ground := Ground.phase }, { on := 1, ground := Ground.textOnly Departure.lateStores }, { on := 2, ground := Ground.phase }, { on := 3, ground := Ground.phase }, { on := 4, ground := Ground.phase }, { on := 5, ground := Ground.textOnly Departure.lateStores }, { on := 6, ground := Ground.textOnly Departure.lateStores }, { on := 7, ground := Ground.phase }], guard := none }) (v := ?vu7) rfl (by kernel_rfl) (by kernel_rfl) (by kernel_rfl) (fun _ _ _ h => h) (Or.inl ⟨by rfl, ?hu7⟩) hHeld ?ru7
  case hu7 => ((intro w hSw); (try dsimp only at hSw); go_simp; (try with_reducible rfl))
  (try simp only [Act.put, List.setIfInBounds_toArray, List.set_cons_zero, List.set_cons_succ])
  refine wpAnyH_ready (rs := [10]) (by kernel_rfl) (by simp) ?_
  refine AllReadyH.cons (o := { dst := none, op := Op.store 22 (Operand.tmp 26) (Operand.tmp 21), type := 0, pos := "record.go:50", after := #[{ on := 9, ground := Ground.data }, { on := 4, ground := Ground.data }, { on := 7, ground := Ground.chain }, { on := 0, ground := Ground.phase }, { on := 1, ground := Ground.textOnly Departure.lateStores }, { on := 2, ground := Ground.phase }, { on := 3, ground := Ground.phase }, { on := 4, ground := Ground.phase }, { on := 5, ground := Ground.textOnly Departure.lateStores }, { on := 6, ground := Ground.textOnly Departure.lateStores }, { on := 7, ground := Ground.phase }], guard := none }) rfl (fun K hK => ?_) AllReadyH.nil
  have HO6b := Lib.hid (H6.out.own2 HO6.out HKR7.out)
  obtain ⟨cf, ff⟩ := H7.out.field (k := 6) rfl
  go_simp
  have HL := H7.out.lsn_ 6 (.slice A6 x6.length c6)
  have H8 := Lib.hid (H7.out.store 6 (.slice A6 x6.length c6) (z' := { z with page := v1, frm := v2, before := x6 }) (q' := { q with vb := .slice A6 x6.length c6 }) rfl ⟨Own8.mono (H7.out.own HO6b.out 6 _) (by have := H5d.out.hB; have := H5d.out.kept.size; omega), HL.va, HL.vr, HL.vd, aprt_new HO6.out H5d.out.rc.ls.va (Nat.le_refl _)⟩)
  clear HL cf ff
  have HO7b := Lib.hid (H7.out.own HO7.out 6 (.slice A6 x6.length c6))
  have HO6c := Lib.hid (H7.out.own HO6b.out 6 (.slice A6 x6.length c6))
  refine hK.out _ _ ?_ (fun hHeld => ?_)
  · exact H8.out.box
  clear hK K
  (try simp only [Act.put, List.setIfInBounds_toArray, List.set_cons_zero, List.set_cons_succ])
  refine wpAnyH_take (i := 11) (oi := { dst := some 27, op := Op.nilCheck (Operand.tmp 18), type := 0, pos := "record.go:50", after := #[{ on := 1, ground := Ground.data }, { on := 0, ground := Ground.phase }, { on := 1, ground := Ground.phase }, { on := 2, ground := Ground.phase }, { on := 3, ground := Ground.phase }, { on := 4, ground := Ground.phase }, { on := 5, ground := Ground.phase }, { on := 6, ground := Ground.phase }, { on := 7, ground := Ground.phase }, { on := 8, ground := Ground.phase }, { on := 9, ground := Ground.phase }, { on := 10, ground := Ground.phase }], guard := none }) (v := ?vu8) rfl (by kernel_rfl) (by kernel_rfl) (by kernel_rfl) (fun _ _ _ h => h) (Or.inl ⟨by rfl, ?hu8⟩) hHeld ?ru8
  case hu8 => ((intro w hSw); (try dsimp only at hSw); go_simp; (try with_reducible rfl))
  (try simp only [Act.put, List.setIfInBounds_toArray, List.set_cons_zero, List.set_cons_succ])
  refine wpAnyH_take (i := 12) (oi := { dst := some 28, op := Op.fieldAddr 26 (Operand.tmp 27) 7, type := 0, pos := "record.go:50", after := #[{ on := 11, ground := Ground.data }, { on := 0, ground := Ground.phase }, { on := 1, ground := Ground.phase }, { on := 2, ground := Ground.phase }, { on := 3, ground := Ground.phase }, { on := 4, ground := Ground.phase }, { on := 5, ground := Ground.phase }, { on := 6, ground := Ground.phase }, { on := 7, ground := Ground.phase }, { on := 8, ground := Ground.phase }, { on := 9, ground := Ground.phase }, { on := 10, ground := Ground.phase }], guard := none }) (v := ?vu9) rfl (by kernel_rfl) (by kernel_rfl) (by kernel_rfl) (fun _ _ _ h => h) (Or.inl ⟨by rfl, ?hu9⟩) hHeld ?ru9
  case hu9 => ((intro w hSw); (try dsimp only at hSw); go_simp; (try with_reducible rfl))
  (try simp only [Act.put, List.setIfInBounds_toArray, List.set_cons_zero, List.set_cons_succ])
  refine wpAnyH_ready (rs := [13]) (by kernel_rfl) (by simp) ?_
  refine AllReadyH.cons (o := { dst := none, op := Op.store 22 (Operand.tmp 28) (Operand.tmp 24), type := 0, pos := "record.go:50", after := #[{ on := 12, ground := Ground.data }, { on := 7, ground := Ground.data }, { on := 10, ground := Ground.chain }, { on := 0, ground := Ground.phase }, { on := 1, ground := Ground.phase }, { on := 2, ground := Ground.phase }, { on := 3, ground := Ground.phase }, { on := 4, ground := Ground.phase }, { on := 5, ground := Ground.phase }, { on := 6, ground := Ground.phase }, { on := 7, ground := Ground.phase }, { on := 8, ground := Ground.phase }, { on := 9, ground := Ground.phase }, { on := 10, ground := Ground.phase }], guard := none }) rfl (fun K hK => ?_) AllReadyH.nil
  obtain ⟨cf, ff⟩ := H8.out.field (k := 7) rfl
  go_simp
  have HL := H8.out.lsn_ 7 (.slice A7 x7.length c7)
  have H9 := Lib.hid (H8.out.store 7 (.slice A7 x7.length c7) (z' := { z with page := v1, frm := v2, before := x6, after := x7 }) (q' := { q with vb := .slice A6 x6.length c6, va := .slice A7 x7.length c7 }) rfl ⟨HL.vb, Own8.mono (H8.out.own HO7b.out 7 _) (by have := H6.out.hB; have := H6.out.kept.size; omega), HL.vr, HL.vd, (aprt_new HO7.out HO6.out (Nat.le_refl _)).symm⟩)
  clear HL cf ff
  refine hK.out _ _ ?_ (fun hHeld => ?_)
  · exact H9.out.box
  clear hK K
  (try simp only [Act.put, List.setIfInBounds_toArray, List.set_cons_zero, List.set_cons_succ])
  refine wpAnyH_done (by kernel_rfl) ?_ _
  skip
  go_wp2_with fail
  go_end0
  exact H9.out.done (by unfold pUpdate; simp only [HG1.out, HG2.out, HG5.out, HG6.out, HG7.out, HN5.out, Int.toNat_natCast, Option.bind_some, Option.map_some]) _

set_option maxHeartbeats 4000000 in
theorem readUndo_any {w0 w : World} {r rp B : Nat} {l : List UInt8} {z : RecD} {q : RPl} (h : IsRs w0 w r 95 l) (hz : RecB w B rp z q) (hl : l.length ≤ 140737488355328) (hB : B ≤ w.heap.size) (hrn : w0.heap.size ≤ rp) (hwn : w0.heap.size ≤ w.heap.size) :
    Calls Try.prog 67 #[srcV r, .pointer (some ⟨rp, 0, none⟩)] w (RdrP w0 (pUndo z l) r rp B w) := by
  have H0 := Lib.hid (St.start h hz hl hB hrn hwn)
  have H0d := Lib.hid H0.out.drew
  clear h hz
  go_enter Try.func67, Try.ntmps67
  go_wp2_with fail
  refine wp_region_held_drew (S := (fun w' => w'.cell? ⟨w.heap.size, 0, none⟩ = some (.pointer (some ⟨r, 0, none⟩)))) (by kernel_rfl) (H0d.out.box) (fun hHeld => ?_)
  refine wpAnyH_take (i := 0) (oi := { dst := some 4, op := Op.move (Operand.tmp 1), type := 81, pos := "record.go:54", after := #[], guard := none }) (v := ?vpUndo0) rfl (by kernel_rfl) (by kernel_rfl) (by kernel_rfl) (fun _ _ _ h => h) (Or.inl ⟨by rfl, ?hpUndo0⟩) hHeld ?rpUndo0
  case hpUndo0 => ((intro w hSw); (try dsimp only at hSw); go_simp; (try with_reducible rfl))
  (try simp only [Act.put, List.setIfInBounds_toArray, List.set_cons_zero, List.set_cons_succ])
  refine wpAnyH_take (i := 1) (oi := { dst := some 5, op := Op.move (Operand.tmp 1), type := 81, pos := "record.go:54", after := #[{ on := 8, ground := Ground.gcOnly Departure.lateStores }], guard := none }) (v := ?vpUndo1) rfl (by kernel_rfl) (by kernel_rfl) (by kernel_rfl) (fun _ _ _ h => h) (Or.inl ⟨by rfl, ?hpUndo1⟩) hHeld ?rpUndo1
  case hpUndo1 => ((intro w hSw); (try dsimp only at hSw); go_simp; (try with_reducible rfl))
  (try simp only [Act.put, List.setIfInBounds_toArray, List.set_cons_zero, List.set_cons_succ])
  refine wpAnyH_take (i := 2) (oi := { dst := some 6, op := Op.load 75 (Operand.tmp 2), type := 75, pos := "record.go:54", after := #[], guard := none }) (v := ?vpUndo2) rfl (by kernel_rfl) (by kernel_rfl) (by kernel_rfl) (fun _ _ _ h => h) (Or.inl ⟨by rfl, ?hpUndo2⟩) hHeld ?rpUndo2
  case hpUndo2 => ((intro w hSw); (try dsimp only at hSw); go_simp; (try with_reducible rfl))
  (try simp only [Act.put, List.setIfInBounds_toArray, List.set_cons_zero, List.set_cons_succ])
  refine wpAnyH_take (i := 4) (oi := { dst := some 8, op := Op.load 75 (Operand.tmp 2), type := 75, pos := "record.go:54", after := #[], guard := none }) (v := ?vpUndo3) rfl (by kernel_rfl) (by kernel_rfl) (by kernel_rfl) (fun _ _ _ h => h) (Or.inl ⟨by rfl, ?hpUndo3⟩) hHeld ?rpUndo3
  case hpUndo3 => ((intro w hSw); (try dsimp only at hSw); go_simp; (try with_reducible rfl))
  (try simp only [Act.put, List.setIfInBounds_toArray, List.set_cons_zero, List.set_cons_succ])
  refine wpAnyH_ready (rs := [3]) (by kernel_rfl) (by simp) ?_
  refine AllReadyH.cons (o := { dst := some 7, op := Op.call { callee := Callee.value (Operand.func 37), args := #[Operand.tmp 6, Operand.const (Value.int IntKind.i64 1)], argTypes := #[75, 3] }, type := 3, pos := "record.go:54", after := #[{ on := 2, ground := Ground.data }], guard := none }) rfl (fun K hK => ?_) AllReadyH.nil
  go_simp
  go_at_call 37
  refine (H0d.out.num 1 (.inl rfl) rfl).mono ?_
  rintro e w1 (⟨hg, rfl, hk⟩ | ⟨v1, m1, hg, rfl, hS⟩)
  · exact And.intro rfl (St.fail (w0 := w0) (B := B) (o := pUndo z l) (by unfold pUndo; simp only [hg, Option.bind_some, Option.bind_none, Option.map_none]) hk)
  have HG1 := Lib.hid hg
  have H1 := Lib.hid hS
  clear hg hS
  try go_wp2_with fail
  refine hK.out _ _ ?_ (fun hHeld => ?_)
  · exact H1.out.box
  clear hK K
  (try simp only [Act.put, List.setIfInBounds_toArray, List.set_cons_zero, List.set_cons_succ])
  refine wpAnyH_ready (rs := [5]) (by kernel_rfl) (by simp) ?_
  refine AllReadyH.cons (o := { dst := some 9, op := Op.call { callee := Callee.value (Operand.func 37), args := #[Operand.tmp 8, Operand.const (Value.int IntKind.i64 2)], argTypes := #[75, 3] }, type := 3, pos := "record.go:54", after := #[{ on := 4, ground := Ground.data }, { on := 3, ground := Ground.chain }], guard := none }) rfl (fun K hK => ?_) AllReadyH.nil
  go_simp
  go_at_call 37
  refine (H1.out.num 2 (.inr rfl) rfl).mono ?_
  rintro e w2 (⟨hg, rfl, hk⟩ | ⟨v2, m2, hg, rfl, hS⟩)
  · exact And.intro rfl (St.fail (w0 := w0) (B := B) (o := pUndo z l) (by unfold pUndo; simp only [HG1.out, hg, Option.bind_some, Option.bind_none, Option.map_none]) hk)
  have HG2 := Lib.hid hg
  have H2 := Lib.hid hS
  clear hg hS
  try go_wp2_with fail
  refine hK.out _ _ ?_ (fun hHeld => ?_)
  · exact H2.out.box
  clear hK K
  (try simp only [Act.put, List.setIfInBounds_toArray, List.set_cons_zero, List.set_cons_succ])
  refine wpAnyH_take (i := 6) (oi := { dst := some 10, op := Op.nilCheck (Operand.tmp 4), type := 0, pos := "record.go:54", after := #[{ on := 0, ground := Ground.data }, { on := 0, ground := Ground.phase }, { on := 1, ground := Ground.textOnly Departure.lateStores }, { on := 2, ground := Ground.phase }, { on := 3, ground := Ground.phase }, { on := 4, ground := Ground.textOnly Departure.lateStores }, { on := 5, ground := Ground.phase }], guard := none }) (v := ?vpUndo4) rfl (by kernel_rfl) (by kernel_rfl) (by kernel_rfl) (fun _ _ _ h => h) (Or.inl ⟨by rfl, ?hpUndo4⟩) hHeld ?rpUndo4
  case hpUndo4 => ((intro w hSw); (try dsimp only at hSw); go_simp; (try with_reducible rfl))
  (try simp only [Act.put, List.setIfInBounds_toArray, List.set_cons_zero, List.set_cons_succ])
  refine wpAnyH_take (i := 7) (oi := { dst := some 11, op := Op.fieldAddr 26 (Operand.tmp 10) 4, type := 0, pos := "record.go:54", after := #[{ on := 6, ground := Ground.data }, { on := 0, ground := Ground.phase }, { on := 1, ground := Ground.textOnly Departure.lateStores }, { on := 2, ground := Ground.phase }, { on := 3, ground := Ground.phase }, { on := 4, ground := Ground.textOnly Departure.lateStores }, { on := 5, ground := Ground.phase }], guard := none }) (v := ?vpUndo5) rfl (by kernel_rfl) (by kernel_rfl) (by kernel_rfl) (fun _ _ _ h => h) (Or.inl ⟨by rfl, ?hpUndo5⟩) hHeld ?rpUndo5
  case hpUndo5 => ((intro w hSw); (try dsimp only at hSw); go_simp; (try with_reducible rfl))
  (try simp only [Act.put, List.setIfInBounds_toArray, List.set_cons_zero, List.set_cons_succ])
  refine wpAnyH_ready (rs := [8]) (by kernel_rfl) (by simp) ?_
  refine AllReadyH.cons (o := { dst := none, op := Op.store 3 (Operand.tmp 11) (Operand.tmp 7), type := 0, pos := "record.go:54", after := #[{ on := 7, ground := Ground.data }, { on := 3, ground := Ground.data }, { on := 5, ground := Ground.chain }, { on := 0, ground := Ground.phase }, { on := 1, ground := Ground.textOnly Departure.lateStores }, { on := 2, ground := Ground.phase }, { on := 3, ground := Ground.phase }, { on := 4, ground := Ground.textOnly Departure.lateStores }, { on := 5, ground := Ground.phase }], guard := none }) rfl (fun K hK => ?_) AllReadyH.nil
  obtain ⟨cf, ff⟩ := H2.out.field (k := 4) rfl
  go_simp
  have HL := H2.out.lsn_ 4 (.int .i64 v1)
  have H3 := Lib.hid (H2.out.store 4 (.int .i64 v1) (z' := { z with page := v1 }) (q' := q) rfl ⟨HL.vb, HL.va, HL.vr, HL.vd, HL.ap⟩)
  clear HL cf ff
  refine hK.out _ _ ?_ (fun hHeld => ?_)
  · exact H3.out.box
  clear hK K
  (try simp only [Act.put, List.setIfInBounds_toArray, List.set_cons_zero, List.set_cons_succ])
  refine wpAnyH_take (i := 9) (oi := { dst := some 12, op := Op.nilCheck (Operand.tmp 5), type := 0, pos := "record.go:54", after := #[{ on := 1, ground := Ground.data }, { on := 0, ground := Ground.phase }, { on := 1, ground := Ground.phase }, { on := 2, ground := Ground.phase }, { on := 3, ground := Ground.phase }, { on := 4, ground := Ground.phase }, { on := 5, ground := Ground.phase }, { on := 6, ground := Ground.phase }, { on := 7, ground := Ground.phase }, { on := 8, ground := Ground.phase }], guard := none }) (v := ?vpUndo6) rfl (by kernel_rfl) (by kernel_rfl) (by kernel_rfl) (fun _ _ _ h => h) (Or.inl ⟨by rfl, ?hpUndo6⟩) hHeld ?rpUndo6
  case hpUndo6 => ((intro w hSw); (try dsimp only at hSw); go_simp; (try with_reducible rfl))
  (try simp only [Act.put, List.setIfInBounds_toArray, List.set_cons_zero, List.set_cons_succ])
  refine wpAnyH_take (i := 10) (oi := { dst := some 13, op := Op.fieldAddr 26 (Operand.tmp 12) 5, type := 0, pos := "record.go:54", after := #[{ on := 9, ground := Ground.data }, { on := 0, ground := Ground.phase }, { on := 1, ground := Ground.phase }, { on := 2, ground := Ground.phase }, { on := 3, ground := Ground.phase }, { on := 4, ground := Ground.phase }, { on := 5, ground := Ground.phase }, { on := 6, ground := Ground.phase }, { on := 7, ground := Ground.phase }, { on := 8, ground := Ground.phase }], guard := none }) (v := ?vpUndo7) rfl (by kernel_rfl) (by kernel_rfl) (by kernel_rfl) (fun _ _ _ h => h) (Or.inl ⟨by rfl, ?hpUndo7⟩) hHeld ?rpUndo7
  case hpUndo7 => ((intro w hSw); (try dsimp only at hSw); go_simp; (try with_reducible rfl))
  (try simp only [Act.put, List.setIfInBounds_toArray, List.set_cons_zero, List.set_cons_succ])
  refine wpAnyH_ready (rs := [11]) (by kernel_rfl) (by simp) ?_
  refine AllReadyH.cons (o := { dst := none, op := Op.store 3 (Operand.tmp 13) (Operand.tmp 9), type := 0, pos := "record.go:54", after := #[{ on := 10, ground := Ground.data }, { on := 5, ground := Ground.data }, { on := 8, ground := Ground.chain }, { on := 0, ground := Ground.phase }, { on := 1, ground := Ground.phase }, { on := 2, ground := Ground.phase }, { on := 3, ground := Ground.phase }, { on := 4, ground := Ground.phase }, { on := 5, ground := Ground.phase }, { on := 6, ground := Ground.phase }, { on := 7, ground := Ground.phase }, { on := 8, ground := Ground.phase }], guard := none }) rfl (fun K hK => ?_) AllReadyH.nil
  obtain ⟨cf, ff⟩ := H3.out.field (k := 5) rfl
  go_simp
  have HL := H3.out.lsn_ 5 (.int .i64 v2)
  have H4 := Lib.hid (H3.out.store 5 (.int .i64 v2) (z' := { z with page := v1, frm := v2 }) (q' := q) rfl ⟨HL.vb, HL.va, HL.vr, HL.vd, HL.ap⟩)
  clear HL cf ff
  refine hK.out _ _ ?_ (fun hHeld => ?_)
  · exact H4.out.box
  clear hK K
  (try simp only [Act.put, List.setIfInBounds_toArray, List.set_cons_zero, List.set_cons_succ])
  refine wpAnyH_done (by kernel_rfl) ?_ _
  skip
  have H4d := Lib.hid H4.out.drew
  go_wp2_with fail
  refine wp_region_held_drew (S := (fun w' => w'.cell? ⟨w.heap.size, 0, none⟩ = some (.pointer (some ⟨r, 0, none⟩)))) (by kernel_rfl) (H4d.out.box) (fun hHeld => ?_)
  refine wpAnyH_take (i := 0) (oi := { dst := some 14, op := Op.move (Operand.tmp 1), type := 81, pos := "record.go:55", after := #[], guard := none }) (v := ?vw0) rfl (by kernel_rfl) (by kernel_rfl) (by kernel_rfl) (fun _ _ _ h => h) (Or.inl ⟨by rfl, ?hw0⟩) hHeld ?rw0
  case hw0 => ((intro w hSw); (try dsimp only at hSw); go_simp; (try with_reducible rfl))
  (try simp only [Act.put, List.setIfInBounds_toArray, List.set_cons_zero, List.set_cons_succ])
  refine wpAnyH_take (i := 1) (oi := { dst := some 15, op := Op.load 75 (Operand.tmp 2), type := 75, pos := "record.go:55", after := #[], guard := none }) (v := ?vw1) rfl (by kernel_rfl) (by kernel_rfl) (by kernel_rfl) (fun _ _ _ h => h) (Or.inl ⟨by rfl, ?hw1⟩) hHeld ?rw1
  case hw1 => ((intro w hSw); (try dsimp only at hSw); go_simp; (try with_reducible rfl))
  (try simp only [Act.put, List.setIfInBounds_toArray, List.set_cons_zero, List.set_cons_succ])
  refine wpAnyH_take (i := 2) (oi := { dst := some 16, op := Op.load 75 (Operand.tmp 2), type := 75, pos := "record.go:55", after := #[], guard := none }) (v := ?vw2) rfl (by kernel_rfl) (by kernel_rfl) (by kernel_rfl) (fun _ _ _ h => h) (Or.inl ⟨by rfl, ?hw2⟩) hHeld ?rw2
  case hw2 => ((intro w hSw); (try dsimp only at hSw); go_simp; (try with_reducible rfl))
  (try simp only [Act.put, List.setIfInBounds_toArray, List.set_cons_zero, List.set_cons_succ])
  refine wpAnyH_ready (rs := [3]) (by kernel_rfl) (by simp) ?_
  refine AllReadyH.cons (o := { dst := some 17, op := Op.call { callee := Callee.value (Operand.func 37), args := #[Operand.tmp 16, Operand.const (Value.int IntKind.i64 2)], argTypes := #[75, 3] }, type := 3, pos := "record.go:55", after := #[{ on := 2, ground := Ground.data }], guard := none }) rfl (fun K hK => ?_) AllReadyH.nil
  go_simp
  go_at_call 37
  refine (H4d.out.num 2 (.inr rfl) rfl).mono ?_
  rintro e w5 (⟨hg, rfl, hk⟩ | ⟨v5, m5, hg, rfl, hS⟩)
  · exact And.intro rfl (St.fail (w0 := w0) (B := B) (o := pUndo z l) (by unfold pUndo; simp only [HG1.out, HG2.out, hg, Option.bind_some, Option.bind_none, Option.map_none]) hk)
  have HG5 := Lib.hid hg
  have H5 := Lib.hid hS
  clear hg hS
  try go_wp2_with fail
  have hv5 : v5.toNat < 65536 ∧ v5 = (v5.toNat : Int) := by
    have := gN_is HG5.out
    exact ⟨by have := this.2.2; omega, by have := this.2.1; omega⟩
  obtain ⟨n5, hn5⟩ : ∃ n5, v5.toNat = n5 := ⟨_, rfl⟩
  rw [hn5] at hv5
  have HN5 := Lib.hid hn5
  obtain ⟨hv5, hv6⟩ := hv5
  subst hv6
  clear hn5
  refine hK.out _ _ ?_ (fun hHeld => ?_)
  · exact H5.out.box
  clear hK K
  (try simp only [Act.put, List.setIfInBounds_toArray, List.set_cons_zero, List.set_cons_succ])
  refine wpAnyH_ready (rs := [4]) (by kernel_rfl) (by simp) ?_
  refine AllReadyH.cons (o := { dst := some 18, op := Op.call { callee := Callee.value (Operand.func 74), args := #[Operand.tmp 15, Operand.tmp 17], argTypes := #[75, 3] }, type := 22, pos := "record.go:55", after := #[{ on := 1, ground := Ground.data }, { on := 3, ground := Ground.data }, { on := 3, ground := Ground.chain }], guard := none }) rfl (fun K hK => ?_) AllReadyH.nil
  go_simp
  go_at_call 74
  refine (H5.out.row n5 (by omega) rfl).mono ?_
  rintro e w6 (⟨hg, rfl, hk⟩ | ⟨x6, m6, A6, c6, hg, rfl, hS, hO, hK6⟩)
  · exact And.intro rfl (St.fail (w0 := w0) (B := B) (o := pUndo z l) (by unfold pUndo; simp only [HG1.out, HG2.out, HG5.out, HN5.out, hg, Option.bind_some, Option.bind_none, Option.map_none]) hk)
  have HG6 := Lib.hid hg
  have H6 := Lib.hid hS
  have HO6 := Lib.hid hO
  have HKR6 := Lib.hid hK6
  clear hg hS hO hK6
  try go_wp2_with fail
  refine hK.out _ _ ?_ (fun hHeld => ?_)
  · exact H6.out.box
  clear hK K
  (try simp only [Act.put, List.setIfInBounds_toArray, List.set_cons_zero, List.set_cons_succ])
  refine wpAnyH_take (i := 5) (oi := { dst := some 19, op := Op.nilCheck (Operand.tmp 14), type := 0, pos := "record.go:55", after := #[{ on := 0, ground := Ground.data }, { on := 0, ground := Ground.phase }, { on := 1, ground := Ground.phase }, { on := 2, ground := Ground.phase }, { on := 3, ground := Ground.phase }, { on := 4, ground := Ground.phase }], guard := none }) (v := ?vw3) rfl (by kernel_rfl) (by kernel_rfl) (by kernel_rfl) (fun _ _ _ h => h) (Or.inl ⟨by rfl, ?hw3⟩) hHeld ?rw3
  case hw3 => ((intro w hSw); (try dsimp only at hSw); go_simp; (try with_reducible rfl))
  (try simp only [Act.put, List.setIfInBounds_toArray, List.set_cons_zero, List.set_cons_succ])
  refine wpAnyH_take (i := 6) (oi := { dst := some 20, op := Op.fieldAddr 26 (Operand.tmp 19) 7, type := 0, pos := "record.go:55", after := #[{ on := 5, ground := Ground.data }, { on := 0, ground := Ground.phase }, { on := 1, ground := Ground.phase }, { on := 2, ground := Ground.phase }, { on := 3, ground := Ground.phase }, { on := 4, ground := Ground.phase }], guard := none }) (v := ?vw4) rfl (by kernel_rfl) (by kernel_rfl) (by kernel_rfl) (fun _ _ _ h => h) (Or.inl ⟨by rfl, ?hw4⟩) hHeld ?rw4
  case hw4 => ((intro w hSw); (try dsimp only at hSw); go_simp; (try with_reducible rfl))
  (try simp only [Act.put, List.setIfInBounds_toArray, List.set_cons_zero, List.set_cons_succ])
  refine wpAnyH_ready (rs := [7]) (by kernel_rfl) (by simp) ?_
  refine AllReadyH.cons (o := { dst := none, op := Op.store 22 (Operand.tmp 20) (Operand.tmp 18), type := 0, pos := "record.go:55", after := #[{ on := 6, ground := Ground.data }, { on := 4, ground := Ground.data }, { on := 4, ground := Ground.chain }, { on := 0, ground := Ground.phase }, { on := 1, ground := Ground.phase }, { on := 2, ground := Ground.phase }, { on := 3, ground := Ground.phase }, { on := 4, ground := Ground.phase }], guard := none }) rfl (fun K hK => ?_) AllReadyH.nil
  obtain ⟨cf, ff⟩ := H6.out.field (k := 7) rfl
  go_simp
  have HL := H6.out.lsn_ 7 (.slice A6 x6.length c6)
  have H7 := Lib.hid (H6.out.store 7 (.slice A6 x6.length c6) (z' := { z with page := v1, frm := v2, after := x6 }) (q' := { q with va := .slice A6 x6.length c6 }) rfl ⟨HL.vb, Own8.mono (H6.out.own HO6.out 7 _) (by have := H5.out.hB; have := H5.out.kept.size; omega), HL.vr, HL.vd, (aprt_new HO6.out H5.out.rc.ls.vb (Nat.le_refl _)).symm⟩)
  clear HL cf ff
  refine hK.out _ _ ?_ (fun hHeld => ?_)
  · exact H7.out.box
  clear hK K
  (try simp only [Act.put, List.setIfInBounds_toArray, List.set_cons_zero, List.set_cons_succ])
  refine wpAnyH_done (by kernel_rfl) ?_ _
  skip
  have hbx := H7.out.box
  go_wp2_with fail
  refine H7.out.lsn.mono ?_
  rintro e w8 (⟨hg, rfl, hk⟩ | ⟨v8, m8, hg, rfl, hS⟩)
  · have HG := Lib.hid hg
    have HK := Lib.hid hk
    clear hg hk hbx
    go_wp2_with fail
    exact And.intro rfl (St.fail (w0 := w0) (B := B) (o := pUndo z l) (by unfold pUndo; simp only [HG1.out, HG2.out, HG5.out, HG6.out, HN5.out, HG.out, Int.toNat_natCast, Option.bind_some, Option.bind_none, Option.map_none]) HK.out)
  have HG8 := Lib.hid hg
  have H8 := Lib.hid hS
  obtain ⟨cf, ff⟩ := hS.field (k := 8) rfl
  clear hg hS hbx
  go_wp2_with fail
  go_end0
  have HL := H8.out.lsn_ 8 (.int .i64 v8)
  exact (H8.out.store 8 (.int .i64 v8) (z' := { z with page := v1, frm := v2, after := x6, next := v8 }) (q' := { q with va := .slice A6 x6.length c6 }) rfl ⟨HL.vb, HL.va, HL.vr, HL.vd, HL.ap⟩).done (by unfold pUndo; simp only [HG1.out, HG2.out, HG5.out, HG6.out, HG8.out, HN5.out, Int.toNat_natCast, Option.bind_some, Option.map_some]) _
end Go.Proofs.Ytiaehoppdihbdaa
