import Derived.Test.YtapoknpakleiiaaDoorJPairBack42
import Derived.Deep.RegionHeld3
import Derived.Deep.DrawnRows
import Derived.Deep.CutRange
import Derived.BigRegion
import Derived.Laws.EntriesVeiled
/- The law's example for layer 13. -/
set_option linter.unusedVariables false
set_option linter.unusedSimpArgs false
namespace Go.Proofs.YtapoknpakleiiaaDoor
open Go.RowKit Go.Tm
set_option maxHeartbeats 400000
set_option maxRecDepth 100000
attribute [local go_sem ↓] Go.wp_at_zero Go.wp_at_succ

/-- What lay there when a statement began, and has colour 0. -/
structure Fr (wB w : World) (χ : Col) : Prop where
  below : Below wB.heap.size wB w
  zero : ∀ k, k < wB.heap.size → (χ k).1 = 0
theorem Fr.touch {wB w w' : World} {χ χ' : Col} {j : Nat} (h : Fr wB w χ) (ht : Touch w w' χ χ' j) (hj : 0 < j) : Fr wB w' χ' :=
  ⟨⟨ht.kept.os.trans h.below.os, ht.kept.tape.trans h.below.tape, ht.kept.output.trans h.below.output, Nat.le_trans h.below.size ht.kept.size, fun k hk => (ht.kept.block k (Nat.lt_of_lt_of_le hk h.below.size) (fun e => by have := h.zero k hk; have e' : (χ k).1 = j := e; omega)).trans (h.below.block k hk)⟩,
    fun k hk => by rw [ht.ext k (Nat.lt_of_lt_of_le hk h.below.size)]; exact h.zero k hk⟩
theorem Fr.new {wB w w' : World} {χ χ' : Col} (h : Fr wB w χ) (hb : Below w.heap.size w w') (hx : Ext w.heap.size χ χ') : Fr wB w' χ' := h.touch (j := 1) (Touch.of_below hx hb) (by omega)
theorem Fr.start (w : World) : Fr w w (fun _ => (0, 7)) := ⟨Below.refl _ _, fun _ _ => rfl⟩
theorem new_zero {w w' : World} {e : TypeId} {A : Option Addr} {c : Nat} {l : List UInt8} (hN : New e w w' A c l) {χ : Col} : ∀ a, A = some a → (paint w.heap.size χ (0, 9) a.block).1 = 0 := fun a ha => by
  subst ha
  have h1 := World.ownsRow.lt hN.own a.block rfl
  rw [paint_new h1.1]

set_option maxHeartbeats 40000000 in
theorem alive_any {w : World} (hT : Tb w) : Calls Tryd.prog 11 #[] w fun e w' => e = .returned (.bool true) ∧ Below w.heap.size w w' := by
  have hgT : 0 < w.heap.size := World.block_lt_of_cell? w _ (hT.at_ 0 (by omega))
  obtain ⟨k1, k2, k3, k4, k5, k6, k7⟩ := al_1
  have HB258 : Hid (∀ W : World, Calls Tryd.prog 42 #[.int .i64 258] W fun e w' => ∃ A c, e = .returned (.slice A 40 c) ∧ New 5 W w' A c bl258) := Lib.hid fun W => blank13_any 258 (by omega) (by omega)
  have HB5 : Hid (∀ W : World, Calls Tryd.prog 42 #[.int .i64 5] W fun e w' => ∃ A c, e = .returned (.slice A 40 c) ∧ New 5 W w' A c bl5) := Lib.hid fun W => blank13_any 5 (by omega) (by omega)
  have HM : Hid (∀ (W : World) (A : Option Addr) (c : Nat), Tb W → Rda W A c bl258 → Calls Tryd.prog 9 #[.int .i64 1, .slice A 40 c] W fun e w' => ∃ A' c', e = .returned (.tuple #[.slice A' 56 c', .int .i64 0]) ∧ New 5 W w' A' c' alP) := Lib.hid fun W A c hT hr => by
    have := pMake_any hT hr (n := 40) k6.symm (by rw [k6]; omega) 1
    rw [k1, show (pmV 1 bl258).length = 56 from k2] at this
    exact this
  have HLS : Hid (∀ (W : World) (A : Option Addr) (c : Nat), Rda W A c alP → Calls Tryd.prog 14 #[.slice A 56 c] W fun e w' => e = .returned (.int .i64 258) ∧ W = w') := Lib.hid fun W A c hr => by
    have := pLsn_any hr (n := 56) k2.symm
    rw [k3] at this
    exact this
  have HNU : Hid (∀ (W : World) (A : Option Addr) (c : Nat), Rda W A c alP → Calls Tryd.prog 16 #[.slice A 56 c] W fun e w' => e = .returned (.int .i64 1) ∧ W = w') := Lib.hid fun W A c hr => by
    have := pNumber_any hr (n := 56) k2.symm
    rw [k4] at this
    exact this
  have HPG : Hid (∀ (W : World) (A : Option Addr) (c : Nat), Rda W A c alP → Calls Tryd.prog 18 #[.slice A 56 c] W fun e w' => ∃ A' c', e = .returned (.slice A' 40 c') ∧ New 5 W w' A' c' bl258) := Lib.hid fun W A c hr => by
    have := pPage_any hr (n := 56) k2.symm (by rw [k2]; omega)
    rw [k5, k6] at this
    exact this
  have HNM : Hid (∀ (W : World) (x : Int), Calls Tryd.prog 12 #[.int .i64 x] W fun e w' => e = .returned (.int .i64 x) ∧ W = w') := Lib.hid fun W x => num_any x
  have HK6 := Lib.hid k6
  have HK7 := Lib.hid k7
  have HT := Lib.hid hT
  have HG := Lib.hid hgT
  clear k1 k2 k3 k4 k5 k6 k7 hT hgT
  go_enter Tryd.func11, Tryd.ntmps11
  go_wp2_with fail
  refine (HB258.out _).mono ?_
  rintro e w1 ⟨A1, c1, rfl, N1⟩
  have HM1 := Lib.hid (HM.out w1 A1 c1 (HT.out.below N1.below) N1.rda)
  have HB1 := Lib.hid N1.below
  clear N1
  go_wp2_with fail
  refine HM1.out.mono ?_
  rintro e w2 ⟨A2, c2, rfl, N2⟩
  have HF2 := Lib.hid ((Fr.start w).new (below_then HB1.out N2.below) (Ext.refl _ _))
  have HR2 := Lib.hid N2.rda
  have HD2 := Lib.hid (diskNew_any (w := w2) 2 1 1024 (fun _ => (0, 7)) 1 (by omega))
  clear N2 HM1
  go_wp2_with fail
  refine HD2.out.mono ?_
  rintro e w3 hD
  obtain ⟨hbad, _⟩ | ⟨_, p, χ3, rfl, N3⟩ := hD
  · exact absurd hbad (by rw [al_6]; decide)
  have HF3 := Lib.hid (HF2.out.new N3.below N3.ext)
  have HDK3 := Lib.hid (show IsDisk w3 χ3 1 p al0 from N3.disk)
  have HR3 := Lib.hid (HR2.out.below N3.below)
  clear N3 HD2
  go_upto_region 3 with (fail)
  go_cut [54] from 20 to 54 (fun s54 wx => s54 = .bool false ∧ Fr w wx χ3 ∧ IsDisk wx χ3 1 p al0)
  case first =>
    refine wp_region_held_drew (S := (fun w' => Below w3.heap.size w3 w')) (by kernel_rfl) ((Below.refl w3.heap.size w3).drew) (fun hHeld => ?_)
    refine wpAnyH_take (i := 0) (oi := { dst := some 20, op := Op.move (Operand.tmp 2), type := 25, pos := "law.go:38", after := #[], guard := none }) (v := ?va0) rfl (by kernel_rfl) (by kernel_rfl) (by kernel_rfl) (fun _ _ _ h => h) (Or.inl ⟨by rfl, ?ha0⟩) hHeld ?ra0
    case ha0 => ((intro w hSw); (try dsimp only at hSw); go_simp; (try with_reducible rfl))
    (try simp only [Act.put, List.setIfInBounds_toArray, List.set_cons_zero, List.set_cons_succ])
    refine wpAnyH_ready (rs := [1]) (by kernel_rfl) (by simp) ?_
    refine AllReadyH.cons (o := { dst := some 21, op := Op.call { callee := Callee.value (Operand.func 12), args := #[Operand.tmp 20], argTypes := #[25] }, type := 3, pos := "law.go:38", after := #[{ on := 0, ground := Ground.data }], guard := none }) rfl (fun K hK => ?_) AllReadyH.nil
    go_simp
    go_at_call 12
    refine (HNM.out _ _).mono ?_
    rintro e wn ⟨rfl, rfl⟩
    try go_wp2_with fail
    refine hK.out _ _ ?_ (fun hHeld => ?_)
    · exact hHeld
    clear hK K
    (try simp only [Act.put, List.setIfInBounds_toArray, List.set_cons_zero, List.set_cons_succ])
    refine wpAnyH_take (i := 2) (oi := { dst := some 22, op := Op.binOp BinOp.neq 3 (Operand.tmp 21) (Operand.const (Value.int IntKind.i64 0)) 3, type := 4, pos := "law.go:38", after := #[{ on := 1, ground := Ground.data }], guard := none }) (v := ?va1) rfl (by kernel_rfl) (by kernel_rfl) (by kernel_rfl) (fun _ _ _ h => h) (Or.inl ⟨by rfl, ?ha1⟩) hHeld ?ra1
    case ha1 => ((intro w hSw); (try dsimp only at hSw); go_simp; (try with_reducible rfl))
    (try simp only [Act.put, List.setIfInBounds_toArray, List.set_cons_zero, List.set_cons_succ])
    refine wpAnyH_take (i := 3) (oi := { dst := some 23, op := Op.move (Operand.tmp 22), type := 4, pos := "law.go:38", after := #[{ on := 2, ground := Ground.data }, { on := 1, ground := Ground.chain }], guard := none }) (v := ?va2) rfl (by kernel_rfl) (by kernel_rfl) (by kernel_rfl) (fun _ _ _ h => h) (Or.inl ⟨by rfl, ?ha2⟩) hHeld ?ra2
    case ha2 => ((intro w hSw); (try dsimp only at hSw); go_simp; (try with_reducible rfl))
    (try simp only [Act.put, List.setIfInBounds_toArray, List.set_cons_zero, List.set_cons_succ])
    refine wpAnyH_take (i := 4) (oi := { dst := some 24, op := Op.move (Operand.tmp 4), type := 25, pos := "law.go:38", after := #[{ on := 3, ground := Ground.guard }], guard := some (3, false) }) (v := ?va3) rfl (by kernel_rfl) (by kernel_rfl) (by kernel_rfl) (fun _ _ _ h => h) (Or.inl ⟨by rfl, ?ha3⟩) hHeld ?ra3
    case ha3 => ((intro w hSw); (try dsimp only at hSw); go_simp; (try with_reducible rfl))
    (try simp only [Act.put, List.setIfInBounds_toArray, List.set_cons_zero, List.set_cons_succ])
    refine wpAnyH_ready (rs := [5]) (by kernel_rfl) (by simp) ?_
    refine AllReadyH.cons (o := { dst := some 25, op := Op.call { callee := Callee.value (Operand.func 12), args := #[Operand.tmp 24], argTypes := #[25] }, type := 3, pos := "law.go:38", after := #[{ on := 4, ground := Ground.data }, { on := 3, ground := Ground.chain }, { on := 3, ground := Ground.guard }], guard := some (3, false) }) rfl (fun K hK => ?_) AllReadyH.nil
    go_simp
    go_at_call 12
    refine (HNM.out _ _).mono ?_
    rintro e wn ⟨rfl, rfl⟩
    try go_wp2_with fail
    refine hK.out _ _ ?_ (fun hHeld => ?_)
    · exact hHeld
    clear hK K
    (try simp only [Act.put, List.setIfInBounds_toArray, List.set_cons_zero, List.set_cons_succ])
    refine wpAnyH_take (i := 6) (oi := { dst := some 26, op := Op.binOp BinOp.neq 3 (Operand.tmp 25) (Operand.const (Value.int IntKind.i64 0)) 3, type := 4, pos := "law.go:38", after := #[{ on := 5, ground := Ground.data }, { on := 3, ground := Ground.guard }], guard := some (3, false) }) (v := ?va4) rfl (by kernel_rfl) (by kernel_rfl) (by kernel_rfl) (fun _ _ _ h => h) (Or.inl ⟨by rfl, ?ha4⟩) hHeld ?ra4
    case ha4 => ((intro w hSw); (try dsimp only at hSw); go_simp; (try with_reducible rfl))
    (try simp only [Act.put, List.setIfInBounds_toArray, List.set_cons_zero, List.set_cons_succ])
    refine wpAnyH_take (i := 7) (oi := { dst := some 27, op := Op.pick (Operand.tmp 23) (Operand.const (Value.bool true)) (Operand.tmp 26), type := 4, pos := "law.go:38", after := #[{ on := 3, ground := Ground.data }, { on := 6, ground := Ground.data }], guard := none }) (v := ?va5) rfl (by kernel_rfl) (by kernel_rfl) (by kernel_rfl) (fun _ _ _ h => h) (Or.inl ⟨by rfl, ?ha5⟩) hHeld ?ra5
    case ha5 => ((intro w hSw); (try dsimp only at hSw); go_simp; (try with_reducible rfl))
    (try simp only [Act.put, List.setIfInBounds_toArray, List.set_cons_zero, List.set_cons_succ])
    refine wpAnyH_take (i := 8) (oi := { dst := some 28, op := Op.move (Operand.tmp 27), type := 4, pos := "law.go:38", after := #[{ on := 7, ground := Ground.data }, { on := 5, ground := Ground.chain }], guard := none }) (v := ?va6) rfl (by kernel_rfl) (by kernel_rfl) (by kernel_rfl) (fun _ _ _ h => h) (Or.inl ⟨by rfl, ?ha6⟩) hHeld ?ra6
    case ha6 => ((intro w hSw); (try dsimp only at hSw); go_simp; (try with_reducible rfl))
    (try simp only [Act.put, List.setIfInBounds_toArray, List.set_cons_zero, List.set_cons_succ])
    refine wpAnyH_take (i := 9) (oi := { dst := some 29, op := Op.move (Operand.tmp 3), type := 46, pos := "law.go:38", after := #[{ on := 8, ground := Ground.guard }], guard := some (8, false) }) (v := ?va7) rfl (by kernel_rfl) (by kernel_rfl) (by kernel_rfl) (fun _ _ _ h => h) (Or.inl ⟨by rfl, ?ha7⟩) hHeld ?ra7
    case ha7 => ((intro w hSw); (try dsimp only at hSw); go_simp; (try with_reducible rfl))
    (try simp only [Act.put, List.setIfInBounds_toArray, List.set_cons_zero, List.set_cons_succ])
    refine wpAnyH_take (i := 10) (oi := { dst := some 30, op := Op.binOp BinOp.eql 46 (Operand.tmp 29) (Operand.const (Value.pointer none)) 46, type := 4, pos := "law.go:38", after := #[{ on := 9, ground := Ground.data }, { on := 8, ground := Ground.guard }], guard := some (8, false) }) (v := ?va8) rfl (by kernel_rfl) (by kernel_rfl) (by kernel_rfl) (fun _ _ _ h => h) (Or.inl ⟨by rfl, ?ha8⟩) hHeld ?ra8
    case ha8 => ((intro w hSw); (try dsimp only at hSw); go_simp; (try with_reducible rfl))
    (try simp only [Act.put, List.setIfInBounds_toArray, List.set_cons_zero, List.set_cons_succ])
    refine wpAnyH_take (i := 11) (oi := { dst := some 31, op := Op.pick (Operand.tmp 28) (Operand.const (Value.bool true)) (Operand.tmp 30), type := 4, pos := "law.go:38", after := #[{ on := 8, ground := Ground.data }, { on := 10, ground := Ground.data }], guard := none }) (v := ?va9) rfl (by kernel_rfl) (by kernel_rfl) (by kernel_rfl) (fun _ _ _ h => h) (Or.inl ⟨by rfl, ?ha9⟩) hHeld ?ra9
    case ha9 => ((intro w hSw); (try dsimp only at hSw); go_simp; (try with_reducible rfl))
    (try simp only [Act.put, List.setIfInBounds_toArray, List.set_cons_zero, List.set_cons_succ])
    refine wpAnyH_take (i := 12) (oi := { dst := some 32, op := Op.move (Operand.tmp 31), type := 4, pos := "law.go:38", after := #[{ on := 11, ground := Ground.data }, { on := 8, ground := Ground.chain }], guard := none }) (v := ?va10) rfl (by kernel_rfl) (by kernel_rfl) (by kernel_rfl) (fun _ _ _ h => h) (Or.inl ⟨by rfl, ?ha10⟩) hHeld ?ra10
    case ha10 => ((intro w hSw); (try dsimp only at hSw); go_simp; (try with_reducible rfl))
    (try simp only [Act.put, List.setIfInBounds_toArray, List.set_cons_zero, List.set_cons_succ])
    refine wpAnyH_take (i := 13) (oi := { dst := some 33, op := Op.move (Operand.tmp 1), type := 24, pos := "law.go:38", after := #[{ on := 12, ground := Ground.guard }], guard := some (12, false) }) (v := ?va11) rfl (by kernel_rfl) (by kernel_rfl) (by kernel_rfl) (fun _ _ _ h => h) (Or.inl ⟨by rfl, ?ha11⟩) hHeld ?ra11
    case ha11 => ((intro w hSw); (try dsimp only at hSw); go_simp; (try with_reducible rfl))
    (try simp only [Act.put, List.setIfInBounds_toArray, List.set_cons_zero, List.set_cons_succ])
    refine wpAnyH_ready (rs := [14]) (by kernel_rfl) (by simp) ?_
    refine AllReadyH.cons (o := { dst := some 34, op := Op.call { callee := Callee.value (Operand.func 14), args := #[Operand.tmp 33], argTypes := #[24] }, type := 3, pos := "law.go:38", after := #[{ on := 13, ground := Ground.data }, { on := 12, ground := Ground.chain }, { on := 12, ground := Ground.guard }], guard := some (12, false) }) rfl (fun K hK => ?_) AllReadyH.nil
    go_simp
    go_at_call 14
    refine (HLS.out _ _ _ (HR3.out.below hHeld)).mono ?_
    rintro e wn ⟨rfl, rfl⟩
    try go_wp2_with fail
    refine hK.out _ _ ?_ (fun hHeld => ?_)
    · exact hHeld
    clear hK K
    (try simp only [Act.put, List.setIfInBounds_toArray, List.set_cons_zero, List.set_cons_succ])
    refine wpAnyH_take (i := 15) (oi := { dst := some 35, op := Op.binOp BinOp.neq 3 (Operand.tmp 34) (Operand.const (Value.int IntKind.i64 258)) 3, type := 4, pos := "law.go:38", after := #[{ on := 14, ground := Ground.data }, { on := 12, ground := Ground.guard }], guard := some (12, false) }) (v := ?va12) rfl (by kernel_rfl) (by kernel_rfl) (by kernel_rfl) (fun _ _ _ h => h) (Or.inl ⟨by rfl, ?ha12⟩) hHeld ?ra12
    case ha12 => ((intro w hSw); (try dsimp only at hSw); go_simp; (try with_reducible rfl))
    (try simp only [Act.put, List.setIfInBounds_toArray, List.set_cons_zero, List.set_cons_succ])
    refine wpAnyH_take (i := 16) (oi := { dst := some 36, op := Op.pick (Operand.tmp 32) (Operand.const (Value.bool true)) (Operand.tmp 35), type := 4, pos := "law.go:38", after := #[{ on := 12, ground := Ground.data }, { on := 15, ground := Ground.data }], guard := none }) (v := ?va13) rfl (by kernel_rfl) (by kernel_rfl) (by kernel_rfl) (fun _ _ _ h => h) (Or.inl ⟨by rfl, ?ha13⟩) hHeld ?ra13
    case ha13 => ((intro w hSw); (try dsimp only at hSw); go_simp; (try with_reducible rfl))
    (try simp only [Act.put, List.setIfInBounds_toArray, List.set_cons_zero, List.set_cons_succ])
    refine wpAnyH_take (i := 17) (oi := { dst := some 37, op := Op.move (Operand.tmp 36), type := 4, pos := "law.go:38", after := #[{ on := 16, ground := Ground.data }, { on := 14, ground := Ground.chain }], guard := none }) (v := ?va14) rfl (by kernel_rfl) (by kernel_rfl) (by kernel_rfl) (fun _ _ _ h => h) (Or.inl ⟨by rfl, ?ha14⟩) hHeld ?ra14
    case ha14 => ((intro w hSw); (try dsimp only at hSw); go_simp; (try with_reducible rfl))
    (try simp only [Act.put, List.setIfInBounds_toArray, List.set_cons_zero, List.set_cons_succ])
    refine wpAnyH_take (i := 18) (oi := { dst := some 38, op := Op.move (Operand.tmp 1), type := 24, pos := "law.go:38", after := #[{ on := 17, ground := Ground.guard }], guard := some (17, false) }) (v := ?va15) rfl (by kernel_rfl) (by kernel_rfl) (by kernel_rfl) (fun _ _ _ h => h) (Or.inl ⟨by rfl, ?ha15⟩) hHeld ?ra15
    case ha15 => ((intro w hSw); (try dsimp only at hSw); go_simp; (try with_reducible rfl))
    (try simp only [Act.put, List.setIfInBounds_toArray, List.set_cons_zero, List.set_cons_succ])
    refine wpAnyH_ready (rs := [19]) (by kernel_rfl) (by simp) ?_
    refine AllReadyH.cons (o := { dst := some 39, op := Op.call { callee := Callee.value (Operand.func 16), args := #[Operand.tmp 38], argTypes := #[24] }, type := 3, pos := "law.go:38", after := #[{ on := 18, ground := Ground.data }, { on := 17, ground := Ground.chain }, { on := 17, ground := Ground.guard }], guard := some (17, false) }) rfl (fun K hK => ?_) AllReadyH.nil
    go_simp
    go_at_call 16
    refine (HNU.out _ _ _ (HR3.out.below hHeld)).mono ?_
    rintro e wn ⟨rfl, rfl⟩
    try go_wp2_with fail
    refine hK.out _ _ ?_ (fun hHeld => ?_)
    · exact hHeld
    clear hK K
    (try simp only [Act.put, List.setIfInBounds_toArray, List.set_cons_zero, List.set_cons_succ])
    refine wpAnyH_take (i := 20) (oi := { dst := some 40, op := Op.binOp BinOp.neq 3 (Operand.tmp 39) (Operand.const (Value.int IntKind.i64 1)) 3, type := 4, pos := "law.go:38", after := #[{ on := 19, ground := Ground.data }, { on := 17, ground := Ground.guard }], guard := some (17, false) }) (v := ?va16) rfl (by kernel_rfl) (by kernel_rfl) (by kernel_rfl) (fun _ _ _ h => h) (Or.inl ⟨by rfl, ?ha16⟩) hHeld ?ra16
    case ha16 => ((intro w hSw); (try dsimp only at hSw); go_simp; (try with_reducible rfl))
    (try simp only [Act.put, List.setIfInBounds_toArray, List.set_cons_zero, List.set_cons_succ])
    refine wpAnyH_take (i := 21) (oi := { dst := some 41, op := Op.pick (Operand.tmp 37) (Operand.const (Value.bool true)) (Operand.tmp 40), type := 4, pos := "law.go:38", after := #[{ on := 17, ground := Ground.data }, { on := 20, ground := Ground.data }], guard := none }) (v := ?va17) rfl (by kernel_rfl) (by kernel_rfl) (by kernel_rfl) (fun _ _ _ h => h) (Or.inl ⟨by rfl, ?ha17⟩) hHeld ?ra17
    case ha17 => ((intro w hSw); (try dsimp only at hSw); go_simp; (try with_reducible rfl))
    (try simp only [Act.put, List.setIfInBounds_toArray, List.set_cons_zero, List.set_cons_succ])
    refine wpAnyH_take (i := 22) (oi := { dst := some 42, op := Op.move (Operand.tmp 41), type := 4, pos := "law.go:38", after := #[{ on := 21, ground := Ground.data }, { on := 19, ground := Ground.chain }], guard := none }) (v := ?va18) rfl (by kernel_rfl) (by kernel_rfl) (by kernel_rfl) (fun _ _ _ h => h) (Or.inl ⟨by rfl, ?ha18⟩) hHeld ?ra18
    case ha18 => ((intro w hSw); (try dsimp only at hSw); go_simp; (try with_reducible rfl))
    (try simp only [Act.put, List.setIfInBounds_toArray, List.set_cons_zero, List.set_cons_succ])
    refine wpAnyH_take (i := 23) (oi := { dst := some 43, op := Op.move (Operand.tmp 1), type := 24, pos := "law.go:38", after := #[{ on := 22, ground := Ground.guard }], guard := some (22, false) }) (v := ?va19) rfl (by kernel_rfl) (by kernel_rfl) (by kernel_rfl) (fun _ _ _ h => h) (Or.inl ⟨by rfl, ?ha19⟩) hHeld ?ra19
    case ha19 => ((intro w hSw); (try dsimp only at hSw); go_simp; (try with_reducible rfl))
    (try simp only [Act.put, List.setIfInBounds_toArray, List.set_cons_zero, List.set_cons_succ])
    refine wpAnyH_ready (rs := [24]) (by kernel_rfl) (by simp) ?_
    refine AllReadyH.cons (o := { dst := some 44, op := Op.call { callee := Callee.value (Operand.func 18), args := #[Operand.tmp 43], argTypes := #[24] }, type := 22, pos := "law.go:38", after := #[{ on := 23, ground := Ground.data }, { on := 22, ground := Ground.chain }, { on := 22, ground := Ground.guard }], guard := some (22, false) }) rfl (fun K hK => ?_) AllReadyH.nil
    go_simp
    go_at_call 18
    refine (HPG.out _ _ _ (HR3.out.below hHeld)).mono ?_
    rintro e w4 ⟨A4, c4, rfl, N4⟩
    have r1 := fun dst hd => run_conv_rd (P := Tryd.prog) w4 tU8 N4.rda 40 HK6.out.symm dst hd
    try go_wp2_with fail
    refine hK.out _ _ ?_ (fun hHeld => ?_)
    · exact below_then hHeld N4.below
    clear hK K
    (try simp only [Act.put, List.setIfInBounds_toArray, List.set_cons_zero, List.set_cons_succ])
    refine wpAnyH_ready (rs := [25, 26]) (by kernel_rfl) (by simp) ?_
    refine AllReadyH.cons (o := { dst := some 45, op := Op.convert 22 9 (Operand.tmp 44), type := 9, pos := "law.go:38", after := #[{ on := 24, ground := Ground.data }, { on := 22, ground := Ground.guard }], guard := some (22, false) }) rfl (fun K hK => ?sa20) ?ta20
    case sa20 =>
      go_simp
      refine hK.out _ _ ?_ (fun hHeld => ?_)
      · exact hHeld
      clear hK K
      (try simp only [Act.put, List.setIfInBounds_toArray, List.set_cons_zero, List.set_cons_succ])
      refine wpAnyH_ready (rs := [26]) (by kernel_rfl) (by simp) ?_
      refine AllReadyH.cons (o := { dst := some 46, op := Op.call { callee := Callee.value (Operand.func 42), args := #[Operand.const (Value.int IntKind.i64 258)], argTypes := #[3] }, type := 22, pos := "law.go:38", after := #[{ on := 24, ground := Ground.chain }, { on := 22, ground := Ground.guard }], guard := some (22, false) }) rfl (fun K hK => ?_) AllReadyH.nil
      go_simp
      go_at_call 42
      refine (HB258.out _).mono ?_
      rintro e w5 ⟨A5, c5, rfl, N5⟩
      have r2 := fun dst hd => run_conv_rd (P := Tryd.prog) w5 tU8 N5.rda 40 HK6.out.symm dst hd
      have r3 := fun dst hd => run_conv_rd (P := Tryd.prog) w5 tU8 (N4.rda.below N5.below) 40 HK6.out.symm dst hd
      try go_wp2_with fail
      refine hK.out _ _ ?_ (fun hHeld => ?_)
      · exact below_then hHeld N5.below
      clear hK K
      (try simp only [Act.put, List.setIfInBounds_toArray, List.set_cons_zero, List.set_cons_succ])
      refine wpAnyH_ready (rs := [27]) (by kernel_rfl) (by simp) ?_
      refine AllReadyH.cons (o := { dst := some 47, op := Op.convert 22 9 (Operand.tmp 46), type := 9, pos := "law.go:38", after := #[{ on := 26, ground := Ground.data }, { on := 22, ground := Ground.guard }], guard := some (22, false) }) rfl (fun K hK => ?_) AllReadyH.nil
      go_simp
      refine hK.out _ _ ?_ (fun hHeld => ?_)
      · exact hHeld
      clear hK K
      (try simp only [Act.put, List.setIfInBounds_toArray, List.set_cons_zero, List.set_cons_succ])
      refine wpAnyH_take (i := 28) (oi := { dst := some 48, op := Op.binOp BinOp.neq 9 (Operand.tmp 45) (Operand.tmp 47) 9, type := 4, pos := "law.go:38", after := #[{ on := 25, ground := Ground.data }, { on := 27, ground := Ground.data }, { on := 22, ground := Ground.guard }], guard := some (22, false) }) (v := ?va21) rfl (by kernel_rfl) (by kernel_rfl) (by kernel_rfl) (fun _ _ _ h => h) (Or.inl ⟨by rfl, ?ha21⟩) hHeld ?ra21
      case ha21 => ((intro w hSw); (try dsimp only at hSw); go_simp; (try with_reducible rfl))
      (try simp only [Act.put, List.setIfInBounds_toArray, List.set_cons_zero, List.set_cons_succ])
      refine wpAnyH_take (i := 29) (oi := { dst := some 49, op := Op.pick (Operand.tmp 42) (Operand.const (Value.bool true)) (Operand.tmp 48), type := 4, pos := "law.go:38", after := #[{ on := 22, ground := Ground.data }, { on := 28, ground := Ground.data }], guard := none }) (v := ?va22) rfl (by kernel_rfl) (by kernel_rfl) (by kernel_rfl) (fun _ _ _ h => h) (Or.inl ⟨by rfl, ?ha22⟩) hHeld ?ra22
      case ha22 => ((intro w hSw); (try dsimp only at hSw); go_simp; (try with_reducible rfl))
      (try simp only [Act.put, List.setIfInBounds_toArray, List.set_cons_zero, List.set_cons_succ])
      refine wpAnyH_take (i := 30) (oi := { dst := some 50, op := Op.move (Operand.tmp 49), type := 4, pos := "law.go:38", after := #[{ on := 29, ground := Ground.data }, { on := 26, ground := Ground.chain }], guard := none }) (v := ?va23) rfl (by kernel_rfl) (by kernel_rfl) (by kernel_rfl) (fun _ _ _ h => h) (Or.inl ⟨by rfl, ?ha23⟩) hHeld ?ra23
      case ha23 => ((intro w hSw); (try dsimp only at hSw); go_simp; (try with_reducible rfl))
      (try simp only [Act.put, List.setIfInBounds_toArray, List.set_cons_zero, List.set_cons_succ])
      refine wpAnyH_take (i := 31) (oi := { dst := some 51, op := Op.move (Operand.tmp 1), type := 24, pos := "law.go:38", after := #[{ on := 30, ground := Ground.guard }], guard := some (30, false) }) (v := ?va24) rfl (by kernel_rfl) (by kernel_rfl) (by kernel_rfl) (fun _ _ _ h => h) (Or.inl ⟨by rfl, ?ha24⟩) hHeld ?ra24
      case ha24 => ((intro w hSw); (try dsimp only at hSw); go_simp; (try with_reducible rfl))
      (try simp only [Act.put, List.setIfInBounds_toArray, List.set_cons_zero, List.set_cons_succ])
      refine wpAnyH_take (i := 32) (oi := { dst := some 52, op := Op.call { callee := Callee.builtin Builtin.len, args := #[Operand.tmp 51], argTypes := #[24] }, type := 3, pos := "law.go:38", after := #[{ on := 31, ground := Ground.data }, { on := 30, ground := Ground.guard }], guard := some (30, false) }) (v := ?va25) rfl (by kernel_rfl) (by kernel_rfl) (by kernel_rfl) (fun _ _ _ h => h) (Or.inl ⟨by rfl, ?ha25⟩) hHeld ?ra25
      case ha25 => ((intro w hSw); (try dsimp only at hSw); go_simp; (try with_reducible rfl))
      (try simp only [Act.put, List.setIfInBounds_toArray, List.set_cons_zero, List.set_cons_succ])
      refine wpAnyH_take (i := 33) (oi := { dst := some 53, op := Op.binOp BinOp.neq 3 (Operand.tmp 52) (Operand.const (Value.int IntKind.i64 56)) 3, type := 4, pos := "law.go:38", after := #[{ on := 32, ground := Ground.data }, { on := 30, ground := Ground.guard }], guard := some (30, false) }) (v := ?va26) rfl (by kernel_rfl) (by kernel_rfl) (by kernel_rfl) (fun _ _ _ h => h) (Or.inl ⟨by rfl, ?ha26⟩) hHeld ?ra26
      case ha26 => ((intro w hSw); (try dsimp only at hSw); go_simp; (try with_reducible rfl))
      (try simp only [Act.put, List.setIfInBounds_toArray, List.set_cons_zero, List.set_cons_succ])
      refine wpAnyH_take (i := 34) (oi := { dst := some 54, op := Op.pick (Operand.tmp 50) (Operand.const (Value.bool true)) (Operand.tmp 53), type := 4, pos := "law.go:38", after := #[{ on := 30, ground := Ground.data }, { on := 33, ground := Ground.data }], guard := none }) (v := ?va27) rfl (by kernel_rfl) (by kernel_rfl) (by kernel_rfl) (fun _ _ _ h => h) (Or.inl ⟨by rfl, ?ha27⟩) hHeld ?ra27
      case ha27 => ((intro w hSw); (try dsimp only at hSw); go_simp; (try with_reducible rfl))
      (try simp only [Act.put, List.setIfInBounds_toArray, List.set_cons_zero, List.set_cons_succ])
      refine wpAnyH_done (by kernel_rfl) ?_ _
      have HFE := Lib.hid (HF3.out.new hHeld (Ext.refl _ _))
      have HDE := Lib.hid (isDisk_below HDK3.out (Ext.refl _ _) hHeld)
      clear hHeld
      go_wp2_with fail
      go_meet
      exact ⟨rfl, HFE.out, HDE.out⟩
    refine AllReadyH.cons (o := { dst := some 46, op := Op.call { callee := Callee.value (Operand.func 42), args := #[Operand.const (Value.int IntKind.i64 258)], argTypes := #[3] }, type := 22, pos := "law.go:38", after := #[{ on := 24, ground := Ground.chain }, { on := 22, ground := Ground.guard }], guard := some (22, false) }) rfl (fun K hK => ?_) AllReadyH.nil
    go_simp
    go_at_call 42
    refine (HB258.out _).mono ?_
    rintro e w5 ⟨A5, c5, rfl, N5⟩
    have r2 := fun dst hd => run_conv_rd (P := Tryd.prog) w5 tU8 N5.rda 40 HK6.out.symm dst hd
    have r3 := fun dst hd => run_conv_rd (P := Tryd.prog) w5 tU8 (N4.rda.below N5.below) 40 HK6.out.symm dst hd
    try go_wp2_with fail
    refine hK.out _ _ ?_ (fun hHeld => ?_)
    · exact below_then hHeld N5.below
    clear hK K
    (try simp only [Act.put, List.setIfInBounds_toArray, List.set_cons_zero, List.set_cons_succ])
    refine wpAnyH_ready (rs := [25, 27]) (by kernel_rfl) (by simp) ?_
    refine AllReadyH.cons (o := { dst := some 45, op := Op.convert 22 9 (Operand.tmp 44), type := 9, pos := "law.go:38", after := #[{ on := 24, ground := Ground.data }, { on := 22, ground := Ground.guard }], guard := some (22, false) }) rfl (fun K hK => ?sa28) ?ta28
    case sa28 =>
      go_simp
      refine hK.out _ _ ?_ (fun hHeld => ?_)
      · exact hHeld
      clear hK K
      (try simp only [Act.put, List.setIfInBounds_toArray, List.set_cons_zero, List.set_cons_succ])
      refine wpAnyH_ready (rs := [27]) (by kernel_rfl) (by simp) ?_
      refine AllReadyH.cons (o := { dst := some 47, op := Op.convert 22 9 (Operand.tmp 46), type := 9, pos := "law.go:38", after := #[{ on := 26, ground := Ground.data }, { on := 22, ground := Ground.guard }], guard := some (22, false) }) rfl (fun K hK => ?_) AllReadyH.nil
      go_simp
      refine hK.out _ _ ?_ (fun hHeld => ?_)
      · exact hHeld
      clear hK K
      (try simp only [Act.put, List.setIfInBounds_toArray, List.set_cons_zero, List.set_cons_succ])
      refine wpAnyH_take (i := 28) (oi := { dst := some 48, op := Op.binOp BinOp.neq 9 (Operand.tmp 45) (Operand.tmp 47) 9, type := 4, pos := "law.go:38", after := #[{ on := 25, ground := Ground.data }, { on := 27, ground := Ground.data }, { on := 22, ground := Ground.guard }], guard := some (22, false) }) (v := ?va29) rfl (by kernel_rfl) (by kernel_rfl) (by kernel_rfl) (fun _ _ _ h => h) (Or.inl ⟨by rfl, ?ha29⟩) hHeld ?ra29
      case ha29 => ((intro w hSw); (try dsimp only at hSw); go_simp; (try with_reducible rfl))
      (try simp only [Act.put, List.setIfInBounds_toArray, List.set_cons_zero, List.set_cons_succ])
      refine wpAnyH_take (i := 29) (oi := { dst := some 49, op := Op.pick (Operand.tmp 42) (Operand.const (Value.bool true)) (Operand.tmp 48), type := 4, pos := "law.go:38", after := #[{ on := 22, ground := Ground.data }, { on := 28, ground := Ground.data }], guard := none }) (v := ?va30) rfl (by kernel_rfl) (by kernel_rfl) (by kernel_rfl) (fun _ _ _ h => h) (Or.inl ⟨by rfl, ?ha30⟩) hHeld ?ra30
      case ha30 => ((intro w hSw); (try dsimp only at hSw); go_simp; (try with_reducible rfl))
      (try simp only [Act.put, List.setIfInBounds_toArray, List.set_cons_zero, List.set_cons_succ])
      refine wpAnyH_take (i := 30) (oi := { dst := some 50, op := Op.move (Operand.tmp 49), type := 4, pos := "law.go:38", after := #[{ on := 29, ground := Ground.data }, { on := 26, ground := Ground.chain }], guard := none }) (v := ?va31) rfl (by kernel_rfl) (by kernel_rfl) (by kernel_rfl) (fun _ _ _ h => h) (Or.inl ⟨by rfl, ?ha31⟩) hHeld ?ra31
      case ha31 => ((intro w hSw); (try dsimp only at hSw); go_simp; (try with_reducible rfl))
      (try simp only [Act.put, List.setIfInBounds_toArray, List.set_cons_zero, List.set_cons_succ])
      refine wpAnyH_take (i := 31) (oi := { dst := some 51, op := Op.move (Operand.tmp 1), type := 24, pos := "law.go:38", after := #[{ on := 30, ground := Ground.guard }], guard := some (30, false) }) (v := ?va32) rfl (by kernel_rfl) (by kernel_rfl) (by kernel_rfl) (fun _ _ _ h => h) (Or.inl ⟨by rfl, ?ha32⟩) hHeld ?ra32
      case ha32 => ((intro w hSw); (try dsimp only at hSw); go_simp; (try with_reducible rfl))
      (try simp only [Act.put, List.setIfInBounds_toArray, List.set_cons_zero, List.set_cons_succ])
      refine wpAnyH_take (i := 32) (oi := { dst := some 52, op := Op.call { callee := Callee.builtin Builtin.len, args := #[Operand.tmp 51], argTypes := #[24] }, type := 3, pos := "law.go:38", after := #[{ on := 31, ground := Ground.data }, { on := 30, ground := Ground.guard }], guard := some (30, false) }) (v := ?va33) rfl (by kernel_rfl) (by kernel_rfl) (by kernel_rfl) (fun _ _ _ h => h) (Or.inl ⟨by rfl, ?ha33⟩) hHeld ?ra33
      case ha33 => ((intro w hSw); (try dsimp only at hSw); go_simp; (try with_reducible rfl))
      (try simp only [Act.put, List.setIfInBounds_toArray, List.set_cons_zero, List.set_cons_succ])
      refine wpAnyH_take (i := 33) (oi := { dst := some 53, op := Op.binOp BinOp.neq 3 (Operand.tmp 52) (Operand.const (Value.int IntKind.i64 56)) 3, type := 4, pos := "law.go:38", after := #[{ on := 32, ground := Ground.data }, { on := 30, ground := Ground.guard }], guard := some (30, false) }) (v := ?va34) rfl (by kernel_rfl) (by kernel_rfl) (by kernel_rfl) (fun _ _ _ h => h) (Or.inl ⟨by rfl, ?ha34⟩) hHeld ?ra34
      case ha34 => ((intro w hSw); (try dsimp only at hSw); go_simp; (try with_reducible rfl))
      (try simp only [Act.put, List.setIfInBounds_toArray, List.set_cons_zero, List.set_cons_succ])
      refine wpAnyH_take (i := 34) (oi := { dst := some 54, op := Op.pick (Operand.tmp 50) (Operand.const (Value.bool true)) (Operand.tmp 53), type := 4, pos := "law.go:38", after := #[{ on := 30, ground := Ground.data }, { on := 33, ground := Ground.data }], guard := none }) (v := ?va35) rfl (by kernel_rfl) (by kernel_rfl) (by kernel_rfl) (fun _ _ _ h => h) (Or.inl ⟨by rfl, ?ha35⟩) hHeld ?ra35
      case ha35 => ((intro w hSw); (try dsimp only at hSw); go_simp; (try with_reducible rfl))
      (try simp only [Act.put, List.setIfInBounds_toArray, List.set_cons_zero, List.set_cons_succ])
      refine wpAnyH_done (by kernel_rfl) ?_ _
      have HFE := Lib.hid (HF3.out.new hHeld (Ext.refl _ _))
      have HDE := Lib.hid (isDisk_below HDK3.out (Ext.refl _ _) hHeld)
      clear hHeld
      go_wp2_with fail
      go_meet
      exact ⟨rfl, HFE.out, HDE.out⟩
    refine AllReadyH.cons (o := { dst := some 47, op := Op.convert 22 9 (Operand.tmp 46), type := 9, pos := "law.go:38", after := #[{ on := 26, ground := Ground.data }, { on := 22, ground := Ground.guard }], guard := some (22, false) }) rfl (fun K hK => ?_) AllReadyH.nil
    go_simp
    refine hK.out _ _ ?_ (fun hHeld => ?_)
    · exact hHeld
    clear hK K
    (try simp only [Act.put, List.setIfInBounds_toArray, List.set_cons_zero, List.set_cons_succ])
    refine wpAnyH_ready (rs := [25]) (by kernel_rfl) (by simp) ?_
    refine AllReadyH.cons (o := { dst := some 45, op := Op.convert 22 9 (Operand.tmp 44), type := 9, pos := "law.go:38", after := #[{ on := 24, ground := Ground.data }, { on := 22, ground := Ground.guard }], guard := some (22, false) }) rfl (fun K hK => ?_) AllReadyH.nil
    go_simp
    refine hK.out _ _ ?_ (fun hHeld => ?_)
    · exact hHeld
    clear hK K
    (try simp only [Act.put, List.setIfInBounds_toArray, List.set_cons_zero, List.set_cons_succ])
    refine wpAnyH_take (i := 28) (oi := { dst := some 48, op := Op.binOp BinOp.neq 9 (Operand.tmp 45) (Operand.tmp 47) 9, type := 4, pos := "law.go:38", after := #[{ on := 25, ground := Ground.data }, { on := 27, ground := Ground.data }, { on := 22, ground := Ground.guard }], guard := some (22, false) }) (v := ?va36) rfl (by kernel_rfl) (by kernel_rfl) (by kernel_rfl) (fun _ _ _ h => h) (Or.inl ⟨by rfl, ?ha36⟩) hHeld ?ra36
    case ha36 => ((intro w hSw); (try dsimp only at hSw); go_simp; (try with_reducible rfl))
    (try simp only [Act.put, List.setIfInBounds_toArray, List.set_cons_zero, List.set_cons_succ])
    refine wpAnyH_take (i := 29) (oi := { dst := some 49, op := Op.pick (Operand.tmp 42) (Operand.const (Value.bool true)) (Operand.tmp 48), type := 4, pos := "law.go:38", after := #[{ on := 22, ground := Ground.data }, { on := 28, ground := Ground.data }], guard := none }) (v := ?va37) rfl (by kernel_rfl) (by kernel_rfl) (by kernel_rfl) (fun _ _ _ h => h) (Or.inl ⟨by rfl, ?ha37⟩) hHeld ?ra37
    case ha37 => ((intro w hSw); (try dsimp only at hSw); go_simp; (try with_reducible rfl))
    (try simp only [Act.put, List.setIfInBounds_toArray, List.set_cons_zero, List.set_cons_succ])
    refine wpAnyH_take (i := 30) (oi := { dst := some 50, op := Op.move (Operand.tmp 49), type := 4, pos := "law.go:38", after := #[{ on := 29, ground := Ground.data }, { on := 26, ground := Ground.chain }], guard := none }) (v := ?va38) rfl (by kernel_rfl) (by kernel_rfl) (by kernel_rfl) (fun _ _ _ h => h) (Or.inl ⟨by rfl, ?ha38⟩) hHeld ?ra38
    case ha38 => ((intro w hSw); (try dsimp only at hSw); go_simp; (try with_reducible rfl))
    (try simp only [Act.put, List.setIfInBounds_toArray, List.set_cons_zero, List.set_cons_succ])
    refine wpAnyH_take (i := 31) (oi := { dst := some 51, op := Op.move (Operand.tmp 1), type := 24, pos := "law.go:38", after := #[{ on := 30, ground := Ground.guard }], guard := some (30, false) }) (v := ?va39) rfl (by kernel_rfl) (by kernel_rfl) (by kernel_rfl) (fun _ _ _ h => h) (Or.inl ⟨by rfl, ?ha39⟩) hHeld ?ra39
    case ha39 => ((intro w hSw); (try dsimp only at hSw); go_simp; (try with_reducible rfl))
    (try simp only [Act.put, List.setIfInBounds_toArray, List.set_cons_zero, List.set_cons_succ])
    refine wpAnyH_take (i := 32) (oi := { dst := some 52, op := Op.call { callee := Callee.builtin Builtin.len, args := #[Operand.tmp 51], argTypes := #[24] }, type := 3, pos := "law.go:38", after := #[{ on := 31, ground := Ground.data }, { on := 30, ground := Ground.guard }], guard := some (30, false) }) (v := ?va40) rfl (by kernel_rfl) (by kernel_rfl) (by kernel_rfl) (fun _ _ _ h => h) (Or.inl ⟨by rfl, ?ha40⟩) hHeld ?ra40
    case ha40 => ((intro w hSw); (try dsimp only at hSw); go_simp; (try with_reducible rfl))
    (try simp only [Act.put, List.setIfInBounds_toArray, List.set_cons_zero, List.set_cons_succ])
    refine wpAnyH_take (i := 33) (oi := { dst := some 53, op := Op.binOp BinOp.neq 3 (Operand.tmp 52) (Operand.const (Value.int IntKind.i64 56)) 3, type := 4, pos := "law.go:38", after := #[{ on := 32, ground := Ground.data }, { on := 30, ground := Ground.guard }], guard := some (30, false) }) (v := ?va41) rfl (by kernel_rfl) (by kernel_rfl) (by kernel_rfl) (fun _ _ _ h => h) (Or.inl ⟨by rfl, ?ha41⟩) hHeld ?ra41
    case ha41 => ((intro w hSw); (try dsimp only at hSw); go_simp; (try with_reducible rfl))
    (try simp only [Act.put, List.setIfInBounds_toArray, List.set_cons_zero, List.set_cons_succ])
    refine wpAnyH_take (i := 34) (oi := { dst := some 54, op := Op.pick (Operand.tmp 50) (Operand.const (Value.bool true)) (Operand.tmp 53), type := 4, pos := "law.go:38", after := #[{ on := 30, ground := Ground.data }, { on := 33, ground := Ground.data }], guard := none }) (v := ?va42) rfl (by kernel_rfl) (by kernel_rfl) (by kernel_rfl) (fun _ _ _ h => h) (Or.inl ⟨by rfl, ?ha42⟩) hHeld ?ra42
    case ha42 => ((intro w hSw); (try dsimp only at hSw); go_simp; (try with_reducible rfl))
    (try simp only [Act.put, List.setIfInBounds_toArray, List.set_cons_zero, List.set_cons_succ])
    refine wpAnyH_done (by kernel_rfl) ?_ _
    have HFE := Lib.hid (HF3.out.new hHeld (Ext.refl _ _))
    have HDE := Lib.hid (isDisk_below HDK3.out (Ext.refl _ _) hHeld)
    clear hHeld
    go_wp2_with fail
    go_meet
    exact ⟨rfl, HFE.out, HDE.out⟩
  case rest =>
    obtain ⟨rfl, hFx, hDx⟩ := hcut
    have HFx := Lib.hid hFx
    have HDx := Lib.hid hDx
    clear hFx hDx HF3 HDK3 HR3
    go_wp2_with fail
    refine (HB5.out _).mono ?_
    rintro e w6 ⟨A6, c6, rfl, N6⟩
    have HF6 := Lib.hid (HFx.out.new N6.below (paint_ext wc.heap.size χ3 (0, 9)))
    have HD6 := Lib.hid (isDisk_below HDx.out (paint_ext wc.heap.size χ3 (0, 9)) N6.below)
    have hz6 : ∀ a, A6 = some a → (paint wc.heap.size χ3 (0, 9) a.block).1 ≠ 1 := fun a ha => by rw [new_zero N6 a ha]; decide
    have PW := pWrite_any (HT.out.below HF6.out.below) (by rw [HF6.out.zero _ HG.out]; decide) HD6.out (by rw [al_5.1]; decide) (by rw [al_5.2.1]; decide) 1 N6.rda (by rw [HK7.out]; omega) hz6 HK7.out.symm
    rw [al_2] at PW
    have HPW := Lib.hid PW
    clear PW hz6 N6
    go_wp2_with fail
    refine HPW.out.mono ?_
    rintro e w7 ⟨χ7, rfl, D7⟩
    have HF7 := Lib.hid (HF6.out.touch D7.touch (by omega))
    have HD7 := Lib.hid (show IsDisk w7 χ7 1 p al1 from D7.disk)
    have PR := pRepair_any (HT.out.below HF7.out.below) (by rw [HF7.out.zero _ HG.out]; decide) HD7.out (by rw [al_5.2.2.1]; decide) (by rw [al_5.2.2.2.1]; decide)
    rw [al_3.1, al_3.2] at PR
    have HPR := Lib.hid PR
    clear PR D7
    go_wp2_with fail
    refine HPR.out.mono ?_
    rintro e w8 ⟨χ8, rfl, D8⟩
    have HF8 := Lib.hid (HF7.out.touch D8.touch (by omega))
    have HD8 := Lib.hid (show IsDisk w8 χ8 1 p al2 from D8.disk)
    have PP := readPage_any HD8.out (by rw [al_5.2.2.2.2.1]; decide) 1 (0, 9)
    rw [al_4.2.2.1, al_4.1, al_4.2.1, HK7.out] at PP
    have HPP := Lib.hid PP
    clear PP D8
    go_wp2_with fail
    refine HPP.out.mono ?_
    rintro e w9 ⟨A9, c9, rfl, D9⟩
    have HF9 := Lib.hid (HF8.out.touch D9.touch (by omega))
    have PA := acts_any (s := actS al2) D9.disk
    rw [al_4.2.2.2] at PA
    have HD9 := Lib.hid D9.disk
    have HR9 := Lib.hid D9.rda
    clear PA D9
    have hb9d := (Below.refl w9.heap.size w9).drew
    have hc1 := fun dst hd => run_conv_rd (P := Tryd.prog) w9.drew tU8 (HR9.out.below hb9d) 40 HK7.out.symm dst hd
    have HAC : Hid (∀ W, Below w9.heap.size w9 W → Calls Tryd.prog 43 #[.pointer (some ⟨p, 0, none⟩)] W fun e w' => e = .returned (.int .i64 8) ∧ W = w') := Lib.hid fun W hb => by
      have := acts_any (isDisk_below HD9.out (Ext.refl _ _) hb)
      rw [al_4.2.2.2] at this
      exact this
    go_wp2_with fail
    clear HB258 HM HLS HNU HPG HB1 HF2 HR2 HFx HDx HF6 HD6 HPW HF7 HD7 HPR HF8 HD8 HPP
    refine wp_region_held_drew (S := (fun w' => Below w9.heap.size w9 w')) (by kernel_rfl) ((Below.refl w9.heap.size w9).drew) (fun hHeld => ?_)
    refine wpAnyH_take (i := 0) (oi := { dst := some 68, op := Op.move (Operand.tmp 5), type := 25, pos := "law.go:44", after := #[], guard := none }) (v := ?vb0) rfl (by kernel_rfl) (by kernel_rfl) (by kernel_rfl) (fun _ _ _ h => h) (Or.inl ⟨by rfl, ?hb0⟩) hHeld ?rb0
    case hb0 => ((intro w hSw); (try dsimp only at hSw); go_simp; (try with_reducible rfl))
    (try simp only [Act.put, List.setIfInBounds_toArray, List.set_cons_zero, List.set_cons_succ])
    refine wpAnyH_ready (rs := [1]) (by kernel_rfl) (by simp) ?_
    refine AllReadyH.cons (o := { dst := some 69, op := Op.call { callee := Callee.value (Operand.func 12), args := #[Operand.tmp 68], argTypes := #[25] }, type := 3, pos := "law.go:44", after := #[{ on := 0, ground := Ground.data }], guard := none }) rfl (fun K hK => ?_) AllReadyH.nil
    go_simp
    go_at_call 12
    refine (HNM.out _ _).mono ?_
    rintro e wn ⟨rfl, rfl⟩
    try go_wp2_with fail
    refine hK.out _ _ ?_ (fun hHeld => ?_)
    · exact hHeld
    clear hK K
    (try simp only [Act.put, List.setIfInBounds_toArray, List.set_cons_zero, List.set_cons_succ])
    refine wpAnyH_take (i := 2) (oi := { dst := some 70, op := Op.binOp BinOp.eql 3 (Operand.tmp 69) (Operand.const (Value.int IntKind.i64 0)) 3, type := 4, pos := "law.go:44", after := #[{ on := 1, ground := Ground.data }], guard := none }) (v := ?vb1) rfl (by kernel_rfl) (by kernel_rfl) (by kernel_rfl) (fun _ _ _ h => h) (Or.inl ⟨by rfl, ?hb1⟩) hHeld ?rb1
    case hb1 => ((intro w hSw); (try dsimp only at hSw); go_simp; (try with_reducible rfl))
    (try simp only [Act.put, List.setIfInBounds_toArray, List.set_cons_zero, List.set_cons_succ])
    refine wpAnyH_take (i := 3) (oi := { dst := some 71, op := Op.move (Operand.tmp 70), type := 4, pos := "law.go:44", after := #[{ on := 2, ground := Ground.data }, { on := 1, ground := Ground.chain }], guard := none }) (v := ?vb2) rfl (by kernel_rfl) (by kernel_rfl) (by kernel_rfl) (fun _ _ _ h => h) (Or.inl ⟨by rfl, ?hb2⟩) hHeld ?rb2
    case hb2 => ((intro w hSw); (try dsimp only at hSw); go_simp; (try with_reducible rfl))
    (try simp only [Act.put, List.setIfInBounds_toArray, List.set_cons_zero, List.set_cons_succ])
    refine wpAnyH_take (i := 4) (oi := { dst := some 72, op := Op.move (Operand.tmp 7), type := 25, pos := "law.go:44", after := #[{ on := 3, ground := Ground.guard }], guard := some (3, true) }) (v := ?vb3) rfl (by kernel_rfl) (by kernel_rfl) (by kernel_rfl) (fun _ _ _ h => h) (Or.inl ⟨by rfl, ?hb3⟩) hHeld ?rb3
    case hb3 => ((intro w hSw); (try dsimp only at hSw); go_simp; (try with_reducible rfl))
    (try simp only [Act.put, List.setIfInBounds_toArray, List.set_cons_zero, List.set_cons_succ])
    refine wpAnyH_ready (rs := [5]) (by kernel_rfl) (by simp) ?_
    refine AllReadyH.cons (o := { dst := some 73, op := Op.call { callee := Callee.value (Operand.func 12), args := #[Operand.tmp 72], argTypes := #[25] }, type := 3, pos := "law.go:44", after := #[{ on := 4, ground := Ground.data }, { on := 3, ground := Ground.chain }, { on := 3, ground := Ground.guard }], guard := some (3, true) }) rfl (fun K hK => ?_) AllReadyH.nil
    go_simp
    go_at_call 12
    refine (HNM.out _ _).mono ?_
    rintro e wn ⟨rfl, rfl⟩
    try go_wp2_with fail
    refine hK.out _ _ ?_ (fun hHeld => ?_)
    · exact hHeld
    clear hK K
    (try simp only [Act.put, List.setIfInBounds_toArray, List.set_cons_zero, List.set_cons_succ])
    refine wpAnyH_take (i := 6) (oi := { dst := some 74, op := Op.binOp BinOp.eql 3 (Operand.tmp 73) (Operand.const (Value.int IntKind.i64 0)) 3, type := 4, pos := "law.go:44", after := #[{ on := 5, ground := Ground.data }, { on := 3, ground := Ground.guard }], guard := some (3, true) }) (v := ?vb4) rfl (by kernel_rfl) (by kernel_rfl) (by kernel_rfl) (fun _ _ _ h => h) (Or.inl ⟨by rfl, ?hb4⟩) hHeld ?rb4
    case hb4 => ((intro w hSw); (try dsimp only at hSw); go_simp; (try with_reducible rfl))
    (try simp only [Act.put, List.setIfInBounds_toArray, List.set_cons_zero, List.set_cons_succ])
    refine wpAnyH_take (i := 7) (oi := { dst := some 75, op := Op.pick (Operand.tmp 71) (Operand.tmp 74) (Operand.const (Value.bool false)), type := 4, pos := "law.go:44", after := #[{ on := 3, ground := Ground.data }, { on := 6, ground := Ground.data }], guard := none }) (v := ?vb5) rfl (by kernel_rfl) (by kernel_rfl) (by kernel_rfl) (fun _ _ _ h => h) (Or.inl ⟨by rfl, ?hb5⟩) hHeld ?rb5
    case hb5 => ((intro w hSw); (try dsimp only at hSw); go_simp; (try with_reducible rfl))
    (try simp only [Act.put, List.setIfInBounds_toArray, List.set_cons_zero, List.set_cons_succ])
    refine wpAnyH_take (i := 8) (oi := { dst := some 76, op := Op.move (Operand.tmp 75), type := 4, pos := "law.go:44", after := #[{ on := 7, ground := Ground.data }, { on := 5, ground := Ground.chain }], guard := none }) (v := ?vb6) rfl (by kernel_rfl) (by kernel_rfl) (by kernel_rfl) (fun _ _ _ h => h) (Or.inl ⟨by rfl, ?hb6⟩) hHeld ?rb6
    case hb6 => ((intro w hSw); (try dsimp only at hSw); go_simp; (try with_reducible rfl))
    (try simp only [Act.put, List.setIfInBounds_toArray, List.set_cons_zero, List.set_cons_succ])
    refine wpAnyH_take (i := 9) (oi := { dst := some 77, op := Op.move (Operand.tmp 6), type := 3, pos := "law.go:44", after := #[{ on := 8, ground := Ground.guard }], guard := some (8, true) }) (v := ?vb7) rfl (by kernel_rfl) (by kernel_rfl) (by kernel_rfl) (fun _ _ _ h => h) (Or.inl ⟨by rfl, ?hb7⟩) hHeld ?rb7
    case hb7 => ((intro w hSw); (try dsimp only at hSw); go_simp; (try with_reducible rfl))
    (try simp only [Act.put, List.setIfInBounds_toArray, List.set_cons_zero, List.set_cons_succ])
    refine wpAnyH_take (i := 10) (oi := { dst := some 78, op := Op.binOp BinOp.eql 3 (Operand.tmp 77) (Operand.const (Value.int IntKind.i64 1)) 3, type := 4, pos := "law.go:44", after := #[{ on := 9, ground := Ground.data }, { on := 8, ground := Ground.guard }], guard := some (8, true) }) (v := ?vb8) rfl (by kernel_rfl) (by kernel_rfl) (by kernel_rfl) (fun _ _ _ h => h) (Or.inl ⟨by rfl, ?hb8⟩) hHeld ?rb8
    case hb8 => ((intro w hSw); (try dsimp only at hSw); go_simp; (try with_reducible rfl))
    (try simp only [Act.put, List.setIfInBounds_toArray, List.set_cons_zero, List.set_cons_succ])
    refine wpAnyH_take (i := 11) (oi := { dst := some 79, op := Op.pick (Operand.tmp 76) (Operand.tmp 78) (Operand.const (Value.bool false)), type := 4, pos := "law.go:44", after := #[{ on := 8, ground := Ground.data }, { on := 10, ground := Ground.data }], guard := none }) (v := ?vb9) rfl (by kernel_rfl) (by kernel_rfl) (by kernel_rfl) (fun _ _ _ h => h) (Or.inl ⟨by rfl, ?hb9⟩) hHeld ?rb9
    case hb9 => ((intro w hSw); (try dsimp only at hSw); go_simp; (try with_reducible rfl))
    (try simp only [Act.put, List.setIfInBounds_toArray, List.set_cons_zero, List.set_cons_succ])
    refine wpAnyH_take (i := 12) (oi := { dst := some 80, op := Op.move (Operand.tmp 79), type := 4, pos := "law.go:44", after := #[{ on := 11, ground := Ground.data }, { on := 8, ground := Ground.chain }], guard := none }) (v := ?vb10) rfl (by kernel_rfl) (by kernel_rfl) (by kernel_rfl) (fun _ _ _ h => h) (Or.inl ⟨by rfl, ?hb10⟩) hHeld ?rb10
    case hb10 => ((intro w hSw); (try dsimp only at hSw); go_simp; (try with_reducible rfl))
    (try simp only [Act.put, List.setIfInBounds_toArray, List.set_cons_zero, List.set_cons_succ])
    refine wpAnyH_take (i := 13) (oi := { dst := some 81, op := Op.move (Operand.tmp 9), type := 25, pos := "law.go:44", after := #[{ on := 12, ground := Ground.guard }], guard := some (12, true) }) (v := ?vb11) rfl (by kernel_rfl) (by kernel_rfl) (by kernel_rfl) (fun _ _ _ h => h) (Or.inl ⟨by rfl, ?hb11⟩) hHeld ?rb11
    case hb11 => ((intro w hSw); (try dsimp only at hSw); go_simp; (try with_reducible rfl))
    (try simp only [Act.put, List.setIfInBounds_toArray, List.set_cons_zero, List.set_cons_succ])
    refine wpAnyH_ready (rs := [14]) (by kernel_rfl) (by simp) ?_
    refine AllReadyH.cons (o := { dst := some 82, op := Op.call { callee := Callee.value (Operand.func 12), args := #[Operand.tmp 81], argTypes := #[25] }, type := 3, pos := "law.go:44", after := #[{ on := 13, ground := Ground.data }, { on := 12, ground := Ground.chain }, { on := 12, ground := Ground.guard }], guard := some (12, true) }) rfl (fun K hK => ?_) AllReadyH.nil
    go_simp
    go_at_call 12
    refine (HNM.out _ _).mono ?_
    rintro e wn ⟨rfl, rfl⟩
    try go_wp2_with fail
    refine hK.out _ _ ?_ (fun hHeld => ?_)
    · exact hHeld
    clear hK K
    (try simp only [Act.put, List.setIfInBounds_toArray, List.set_cons_zero, List.set_cons_succ])
    refine wpAnyH_take (i := 15) (oi := { dst := some 83, op := Op.binOp BinOp.eql 3 (Operand.tmp 82) (Operand.const (Value.int IntKind.i64 0)) 3, type := 4, pos := "law.go:44", after := #[{ on := 14, ground := Ground.data }, { on := 12, ground := Ground.guard }], guard := some (12, true) }) (v := ?vb12) rfl (by kernel_rfl) (by kernel_rfl) (by kernel_rfl) (fun _ _ _ h => h) (Or.inl ⟨by rfl, ?hb12⟩) hHeld ?rb12
    case hb12 => ((intro w hSw); (try dsimp only at hSw); go_simp; (try with_reducible rfl))
    (try simp only [Act.put, List.setIfInBounds_toArray, List.set_cons_zero, List.set_cons_succ])
    refine wpAnyH_take (i := 16) (oi := { dst := some 84, op := Op.pick (Operand.tmp 80) (Operand.tmp 83) (Operand.const (Value.bool false)), type := 4, pos := "law.go:44", after := #[{ on := 12, ground := Ground.data }, { on := 15, ground := Ground.data }], guard := none }) (v := ?vb13) rfl (by kernel_rfl) (by kernel_rfl) (by kernel_rfl) (fun _ _ _ h => h) (Or.inl ⟨by rfl, ?hb13⟩) hHeld ?rb13
    case hb13 => ((intro w hSw); (try dsimp only at hSw); go_simp; (try with_reducible rfl))
    (try simp only [Act.put, List.setIfInBounds_toArray, List.set_cons_zero, List.set_cons_succ])
    refine wpAnyH_take (i := 17) (oi := { dst := some 85, op := Op.move (Operand.tmp 84), type := 4, pos := "law.go:44", after := #[{ on := 16, ground := Ground.data }, { on := 14, ground := Ground.chain }], guard := none }) (v := ?vb14) rfl (by kernel_rfl) (by kernel_rfl) (by kernel_rfl) (fun _ _ _ h => h) (Or.inl ⟨by rfl, ?hb14⟩) hHeld ?rb14
    case hb14 => ((intro w hSw); (try dsimp only at hSw); go_simp; (try with_reducible rfl))
    (try simp only [Act.put, List.setIfInBounds_toArray, List.set_cons_zero, List.set_cons_succ])
    refine wpAnyH_take (i := 18) (oi := { dst := some 86, op := Op.move (Operand.tmp 8), type := 22, pos := "law.go:44", after := #[{ on := 17, ground := Ground.guard }], guard := some (17, true) }) (v := ?vb15) rfl (by kernel_rfl) (by kernel_rfl) (by kernel_rfl) (fun _ _ _ h => h) (Or.inl ⟨by rfl, ?hb15⟩) hHeld ?rb15
    case hb15 => ((intro w hSw); (try dsimp only at hSw); go_simp; (try with_reducible rfl))
    (try simp only [Act.put, List.setIfInBounds_toArray, List.set_cons_zero, List.set_cons_succ])
    refine wpAnyH_ready (rs := [19, 20]) (by kernel_rfl) (by simp) ?_
    refine AllReadyH.cons (o := { dst := some 87, op := Op.convert 22 9 (Operand.tmp 86), type := 9, pos := "law.go:44", after := #[{ on := 18, ground := Ground.data }, { on := 17, ground := Ground.guard }], guard := some (17, true) }) rfl (fun K hK => ?sb16) ?tb16
    case sb16 =>
      go_simp
      refine hK.out _ _ ?_ (fun hHeld => ?_)
      · exact hHeld
      clear hK K
      (try simp only [Act.put, List.setIfInBounds_toArray, List.set_cons_zero, List.set_cons_succ])
      refine wpAnyH_ready (rs := [20]) (by kernel_rfl) (by simp) ?_
      refine AllReadyH.cons (o := { dst := some 88, op := Op.call { callee := Callee.value (Operand.func 42), args := #[Operand.const (Value.int IntKind.i64 5)], argTypes := #[3] }, type := 22, pos := "law.go:44", after := #[{ on := 17, ground := Ground.chain }, { on := 17, ground := Ground.guard }], guard := some (17, true) }) rfl (fun K hK => ?_) AllReadyH.nil
      go_simp
      go_at_call 42
      refine (HB5.out _).mono ?_
      rintro e w10 ⟨A10, c10, rfl, N10⟩
      have hb10 := below_then hHeld N10.below
      have r2 := fun dst hd => run_conv_rd (P := Tryd.prog) w10 tU8 N10.rda 40 HK7.out.symm dst hd
      have r3 := fun dst hd => run_conv_rd (P := Tryd.prog) w10 tU8 (HR9.out.below hb10) 40 HK7.out.symm dst hd
      try go_wp2_with fail
      refine hK.out _ _ ?_ (fun hHeld => ?_)
      · exact hb10
      clear hK K
      (try simp only [Act.put, List.setIfInBounds_toArray, List.set_cons_zero, List.set_cons_succ])
      refine wpAnyH_ready (rs := [21]) (by kernel_rfl) (by simp) ?_
      refine AllReadyH.cons (o := { dst := some 89, op := Op.convert 22 9 (Operand.tmp 88), type := 9, pos := "law.go:44", after := #[{ on := 20, ground := Ground.data }, { on := 17, ground := Ground.guard }], guard := some (17, true) }) rfl (fun K hK => ?_) AllReadyH.nil
      go_simp
      refine hK.out _ _ ?_ (fun hHeld => ?_)
      · exact hHeld
      clear hK K
      (try simp only [Act.put, List.setIfInBounds_toArray, List.set_cons_zero, List.set_cons_succ])
      refine wpAnyH_take (i := 22) (oi := { dst := some 90, op := Op.binOp BinOp.eql 9 (Operand.tmp 87) (Operand.tmp 89) 9, type := 4, pos := "law.go:44", after := #[{ on := 19, ground := Ground.data }, { on := 21, ground := Ground.data }, { on := 17, ground := Ground.guard }], guard := some (17, true) }) (v := ?vb17) rfl (by kernel_rfl) (by kernel_rfl) (by kernel_rfl) (fun _ _ _ h => h) (Or.inl ⟨by rfl, ?hb17⟩) hHeld ?rb17
      case hb17 => ((intro w hSw); (try dsimp only at hSw); go_simp; (try with_reducible rfl))
      (try simp only [Act.put, List.setIfInBounds_toArray, List.set_cons_zero, List.set_cons_succ])
      refine wpAnyH_take (i := 23) (oi := { dst := some 91, op := Op.pick (Operand.tmp 85) (Operand.tmp 90) (Operand.const (Value.bool false)), type := 4, pos := "law.go:44", after := #[{ on := 17, ground := Ground.data }, { on := 22, ground := Ground.data }], guard := none }) (v := ?vb18) rfl (by kernel_rfl) (by kernel_rfl) (by kernel_rfl) (fun _ _ _ h => h) (Or.inl ⟨by rfl, ?hb18⟩) hHeld ?rb18
      case hb18 => ((intro w hSw); (try dsimp only at hSw); go_simp; (try with_reducible rfl))
      (try simp only [Act.put, List.setIfInBounds_toArray, List.set_cons_zero, List.set_cons_succ])
      refine wpAnyH_take (i := 24) (oi := { dst := some 92, op := Op.move (Operand.tmp 91), type := 4, pos := "law.go:44", after := #[{ on := 23, ground := Ground.data }, { on := 20, ground := Ground.chain }], guard := none }) (v := ?vb19) rfl (by kernel_rfl) (by kernel_rfl) (by kernel_rfl) (fun _ _ _ h => h) (Or.inl ⟨by rfl, ?hb19⟩) hHeld ?rb19
      case hb19 => ((intro w hSw); (try dsimp only at hSw); go_simp; (try with_reducible rfl))
      (try simp only [Act.put, List.setIfInBounds_toArray, List.set_cons_zero, List.set_cons_succ])
      refine wpAnyH_take (i := 25) (oi := { dst := some 93, op := Op.move (Operand.tmp 3), type := 46, pos := "law.go:44", after := #[{ on := 24, ground := Ground.guard }], guard := some (24, true) }) (v := ?vb20) rfl (by kernel_rfl) (by kernel_rfl) (by kernel_rfl) (fun _ _ _ h => h) (Or.inl ⟨by rfl, ?hb20⟩) hHeld ?rb20
      case hb20 => ((intro w hSw); (try dsimp only at hSw); go_simp; (try with_reducible rfl))
      (try simp only [Act.put, List.setIfInBounds_toArray, List.set_cons_zero, List.set_cons_succ])
      refine wpAnyH_ready (rs := [26]) (by kernel_rfl) (by simp) ?_
      refine AllReadyH.cons (o := { dst := some 94, op := Op.call { callee := Callee.value (Operand.func 43), args := #[Operand.tmp 93], argTypes := #[46] }, type := 3, pos := "law.go:44", after := #[{ on := 25, ground := Ground.data }, { on := 24, ground := Ground.chain }, { on := 24, ground := Ground.guard }], guard := some (24, true) }) rfl (fun K hK => ?_) AllReadyH.nil
      go_simp
      go_at_call 43
      refine (HAC.out _ hHeld).mono ?_
      rintro e w11 ⟨rfl, rfl⟩
      try go_wp2_with fail
      refine hK.out _ _ ?_ (fun hHeld => ?_)
      · exact hHeld
      clear hK K
      (try simp only [Act.put, List.setIfInBounds_toArray, List.set_cons_zero, List.set_cons_succ])
      refine wpAnyH_take (i := 27) (oi := { dst := some 95, op := Op.binOp BinOp.eql 3 (Operand.tmp 94) (Operand.const (Value.int IntKind.i64 8)) 3, type := 4, pos := "law.go:44", after := #[{ on := 26, ground := Ground.data }, { on := 24, ground := Ground.guard }], guard := some (24, true) }) (v := ?vb21) rfl (by kernel_rfl) (by kernel_rfl) (by kernel_rfl) (fun _ _ _ h => h) (Or.inl ⟨by rfl, ?hb21⟩) hHeld ?rb21
      case hb21 => ((intro w hSw); (try dsimp only at hSw); go_simp; (try with_reducible rfl))
      (try simp only [Act.put, List.setIfInBounds_toArray, List.set_cons_zero, List.set_cons_succ])
      refine wpAnyH_take (i := 28) (oi := { dst := some 96, op := Op.pick (Operand.tmp 92) (Operand.tmp 95) (Operand.const (Value.bool false)), type := 4, pos := "law.go:44", after := #[{ on := 24, ground := Ground.data }, { on := 27, ground := Ground.data }], guard := none }) (v := ?vb22) rfl (by kernel_rfl) (by kernel_rfl) (by kernel_rfl) (fun _ _ _ h => h) (Or.inl ⟨by rfl, ?hb22⟩) hHeld ?rb22
      case hb22 => ((intro w hSw); (try dsimp only at hSw); go_simp; (try with_reducible rfl))
      (try simp only [Act.put, List.setIfInBounds_toArray, List.set_cons_zero, List.set_cons_succ])
      refine wpAnyH_take (i := 29) (oi := { dst := some 0, op := Op.assign (Operand.tmp 96), type := 4, pos := "law.go:44", after := #[{ on := 28, ground := Ground.data }, { on := 26, ground := Ground.chain }, { on := 0, ground := Ground.phase }, { on := 1, ground := Ground.phase }, { on := 2, ground := Ground.phase }, { on := 3, ground := Ground.phase }, { on := 4, ground := Ground.phase }, { on := 5, ground := Ground.phase }, { on := 6, ground := Ground.phase }, { on := 7, ground := Ground.phase }, { on := 8, ground := Ground.phase }, { on := 9, ground := Ground.phase }, { on := 10, ground := Ground.phase }, { on := 11, ground := Ground.phase }, { on := 12, ground := Ground.phase }, { on := 13, ground := Ground.phase }, { on := 14, ground := Ground.phase }, { on := 15, ground := Ground.phase }, { on := 16, ground := Ground.phase }, { on := 17, ground := Ground.phase }, { on := 18, ground := Ground.phase }, { on := 19, ground := Ground.phase }, { on := 20, ground := Ground.phase }, { on := 21, ground := Ground.phase }, { on := 22, ground := Ground.phase }, { on := 23, ground := Ground.phase }, { on := 24, ground := Ground.phase }, { on := 25, ground := Ground.phase }, { on := 26, ground := Ground.phase }, { on := 27, ground := Ground.phase }, { on := 28, ground := Ground.phase }], guard := none }) (v := ?vb23) rfl (by kernel_rfl) (by kernel_rfl) (by kernel_rfl) (fun _ _ _ h => h) (Or.inl ⟨by rfl, ?hb23⟩) hHeld ?rb23
      case hb23 => ((intro w hSw); (try dsimp only at hSw); go_simp; (try with_reducible rfl))
      (try simp only [Act.put, List.setIfInBounds_toArray, List.set_cons_zero, List.set_cons_succ])
      refine wpAnyH_done (by kernel_rfl) ?_ _
      have HBE := Lib.hid (HF9.out.new hHeld (Ext.refl _ _)).below
      clear hHeld
      go_wp2_with fail
      go_ret
      exact ⟨rfl, HBE.out⟩
    refine AllReadyH.cons (o := { dst := some 88, op := Op.call { callee := Callee.value (Operand.func 42), args := #[Operand.const (Value.int IntKind.i64 5)], argTypes := #[3] }, type := 22, pos := "law.go:44", after := #[{ on := 17, ground := Ground.chain }, { on := 17, ground := Ground.guard }], guard := some (17, true) }) rfl (fun K hK => ?_) AllReadyH.nil
    go_simp
    go_at_call 42
    refine (HB5.out _).mono ?_
    rintro e w10 ⟨A10, c10, rfl, N10⟩
    have hb10 := below_then hHeld N10.below
    have r2 := fun dst hd => run_conv_rd (P := Tryd.prog) w10 tU8 N10.rda 40 HK7.out.symm dst hd
    have r3 := fun dst hd => run_conv_rd (P := Tryd.prog) w10 tU8 (HR9.out.below hb10) 40 HK7.out.symm dst hd
    try go_wp2_with fail
    refine hK.out _ _ ?_ (fun hHeld => ?_)
    · exact hb10
    clear hK K
    (try simp only [Act.put, List.setIfInBounds_toArray, List.set_cons_zero, List.set_cons_succ])
    refine wpAnyH_ready (rs := [19, 21]) (by kernel_rfl) (by simp) ?_
    refine AllReadyH.cons (o := { dst := some 87, op := Op.convert 22 9 (Operand.tmp 86), type := 9, pos := "law.go:44", after := #[{ on := 18, ground := Ground.data }, { on := 17, ground := Ground.guard }], guard := some (17, true) }) rfl (fun K hK => ?sb24) ?tb24
    case sb24 =>
      go_simp
      refine hK.out _ _ ?_ (fun hHeld => ?_)
      · exact hHeld
      clear hK K
      (try simp only [Act.put, List.setIfInBounds_toArray, List.set_cons_zero, List.set_cons_succ])
      refine wpAnyH_ready (rs := [21]) (by kernel_rfl) (by simp) ?_
      refine AllReadyH.cons (o := { dst := some 89, op := Op.convert 22 9 (Operand.tmp 88), type := 9, pos := "law.go:44", after := #[{ on := 20, ground := Ground.data }, { on := 17, ground := Ground.guard }], guard := some (17, true) }) rfl (fun K hK => ?_) AllReadyH.nil
      go_simp
      refine hK.out _ _ ?_ (fun hHeld => ?_)
      · exact hHeld
      clear hK K
      (try simp only [Act.put, List.setIfInBounds_toArray, List.set_cons_zero, List.set_cons_succ])
      refine wpAnyH_take (i := 22) (oi := { dst := some 90, op := Op.binOp BinOp.eql 9 (Operand.tmp 87) (Operand.tmp 89) 9, type := 4, pos := "law.go:44", after := #[{ on := 19, ground := Ground.data }, { on := 21, ground := Ground.data }, { on := 17, ground := Ground.guard }], guard := some (17, true) }) (v := ?vb25) rfl (by kernel_rfl) (by kernel_rfl) (by kernel_rfl) (fun _ _ _ h => h) (Or.inl ⟨by rfl, ?hb25⟩) hHeld ?rb25
      case hb25 => ((intro w hSw); (try dsimp only at hSw); go_simp; (try with_reducible rfl))
      (try simp only [Act.put, List.setIfInBounds_toArray, List.set_cons_zero, List.set_cons_succ])
      refine wpAnyH_take (i := 23) (oi := { dst := some 91, op := Op.pick (Operand.tmp 85) (Operand.tmp 90) (Operand.const (Value.bool false)), type := 4, pos := "law.go:44", after := #[{ on := 17, ground := Ground.data }, { on := 22, ground := Ground.data }], guard := none }) (v := ?vb26) rfl (by kernel_rfl) (by kernel_rfl) (by kernel_rfl) (fun _ _ _ h => h) (Or.inl ⟨by rfl, ?hb26⟩) hHeld ?rb26
      case hb26 => ((intro w hSw); (try dsimp only at hSw); go_simp; (try with_reducible rfl))
      (try simp only [Act.put, List.setIfInBounds_toArray, List.set_cons_zero, List.set_cons_succ])
      refine wpAnyH_take (i := 24) (oi := { dst := some 92, op := Op.move (Operand.tmp 91), type := 4, pos := "law.go:44", after := #[{ on := 23, ground := Ground.data }, { on := 20, ground := Ground.chain }], guard := none }) (v := ?vb27) rfl (by kernel_rfl) (by kernel_rfl) (by kernel_rfl) (fun _ _ _ h => h) (Or.inl ⟨by rfl, ?hb27⟩) hHeld ?rb27
      case hb27 => ((intro w hSw); (try dsimp only at hSw); go_simp; (try with_reducible rfl))
      (try simp only [Act.put, List.setIfInBounds_toArray, List.set_cons_zero, List.set_cons_succ])
      refine wpAnyH_take (i := 25) (oi := { dst := some 93, op := Op.move (Operand.tmp 3), type := 46, pos := "law.go:44", after := #[{ on := 24, ground := Ground.guard }], guard := some (24, true) }) (v := ?vb28) rfl (by kernel_rfl) (by kernel_rfl) (by kernel_rfl) (fun _ _ _ h => h) (Or.inl ⟨by rfl, ?hb28⟩) hHeld ?rb28
      case hb28 => ((intro w hSw); (try dsimp only at hSw); go_simp; (try with_reducible rfl))
      (try simp only [Act.put, List.setIfInBounds_toArray, List.set_cons_zero, List.set_cons_succ])
      refine wpAnyH_ready (rs := [26]) (by kernel_rfl) (by simp) ?_
      refine AllReadyH.cons (o := { dst := some 94, op := Op.call { callee := Callee.value (Operand.func 43), args := #[Operand.tmp 93], argTypes := #[46] }, type := 3, pos := "law.go:44", after := #[{ on := 25, ground := Ground.data }, { on := 24, ground := Ground.chain }, { on := 24, ground := Ground.guard }], guard := some (24, true) }) rfl (fun K hK => ?_) AllReadyH.nil
      go_simp
      go_at_call 43
      refine (HAC.out _ hHeld).mono ?_
      rintro e w11 ⟨rfl, rfl⟩
      try go_wp2_with fail
      refine hK.out _ _ ?_ (fun hHeld => ?_)
      · exact hHeld
      clear hK K
      (try simp only [Act.put, List.setIfInBounds_toArray, List.set_cons_zero, List.set_cons_succ])
      refine wpAnyH_take (i := 27) (oi := { dst := some 95, op := Op.binOp BinOp.eql 3 (Operand.tmp 94) (Operand.const (Value.int IntKind.i64 8)) 3, type := 4, pos := "law.go:44", after := #[{ on := 26, ground := Ground.data }, { on := 24, ground := Ground.guard }], guard := some (24, true) }) (v := ?vb29) rfl (by kernel_rfl) (by kernel_rfl) (by kernel_rfl) (fun _ _ _ h => h) (Or.inl ⟨by rfl, ?hb29⟩) hHeld ?rb29
      case hb29 => ((intro w hSw); (try dsimp only at hSw); go_simp; (try with_reducible rfl))
      (try simp only [Act.put, List.setIfInBounds_toArray, List.set_cons_zero, List.set_cons_succ])
      refine wpAnyH_take (i := 28) (oi := { dst := some 96, op := Op.pick (Operand.tmp 92) (Operand.tmp 95) (Operand.const (Value.bool false)), type := 4, pos := "law.go:44", after := #[{ on := 24, ground := Ground.data }, { on := 27, ground := Ground.data }], guard := none }) (v := ?vb30) rfl (by kernel_rfl) (by kernel_rfl) (by kernel_rfl) (fun _ _ _ h => h) (Or.inl ⟨by rfl, ?hb30⟩) hHeld ?rb30
      case hb30 => ((intro w hSw); (try dsimp only at hSw); go_simp; (try with_reducible rfl))
      (try simp only [Act.put, List.setIfInBounds_toArray, List.set_cons_zero, List.set_cons_succ])
      refine wpAnyH_take (i := 29) (oi := { dst := some 0, op := Op.assign (Operand.tmp 96), type := 4, pos := "law.go:44", after := #[{ on := 28, ground := Ground.data }, { on := 26, ground := Ground.chain }, { on := 0, ground := Ground.phase }, { on := 1, ground := Ground.phase }, { on := 2, ground := Ground.phase }, { on := 3, ground := Ground.phase }, { on := 4, ground := Ground.phase }, { on := 5, ground := Ground.phase }, { on := 6, ground := Ground.phase }, { on := 7, ground := Ground.phase }, { on := 8, ground := Ground.phase }, { on := 9, ground := Ground.phase }, { on := 10, ground := Ground.phase }, { on := 11, ground := Ground.phase }, { on := 12, ground := Ground.phase }, { on := 13, ground := Ground.phase }, { on := 14, ground := Ground.phase }, { on := 15, ground := Ground.phase }, { on := 16, ground := Ground.phase }, { on := 17, ground := Ground.phase }, { on := 18, ground := Ground.phase }, { on := 19, ground := Ground.phase }, { on := 20, ground := Ground.phase }, { on := 21, ground := Ground.phase }, { on := 22, ground := Ground.phase }, { on := 23, ground := Ground.phase }, { on := 24, ground := Ground.phase }, { on := 25, ground := Ground.phase }, { on := 26, ground := Ground.phase }, { on := 27, ground := Ground.phase }, { on := 28, ground := Ground.phase }], guard := none }) (v := ?vb31) rfl (by kernel_rfl) (by kernel_rfl) (by kernel_rfl) (fun _ _ _ h => h) (Or.inl ⟨by rfl, ?hb31⟩) hHeld ?rb31
      case hb31 => ((intro w hSw); (try dsimp only at hSw); go_simp; (try with_reducible rfl))
      (try simp only [Act.put, List.setIfInBounds_toArray, List.set_cons_zero, List.set_cons_succ])
      refine wpAnyH_done (by kernel_rfl) ?_ _
      have HBE := Lib.hid (HF9.out.new hHeld (Ext.refl _ _)).below
      clear hHeld
      go_wp2_with fail
      go_ret
      exact ⟨rfl, HBE.out⟩
    refine AllReadyH.cons (o := { dst := some 89, op := Op.convert 22 9 (Operand.tmp 88), type := 9, pos := "law.go:44", after := #[{ on := 20, ground := Ground.data }, { on := 17, ground := Ground.guard }], guard := some (17, true) }) rfl (fun K hK => ?_) AllReadyH.nil
    go_simp
    refine hK.out _ _ ?_ (fun hHeld => ?_)
    · exact hHeld
    clear hK K
    (try simp only [Act.put, List.setIfInBounds_toArray, List.set_cons_zero, List.set_cons_succ])
    refine wpAnyH_ready (rs := [19]) (by kernel_rfl) (by simp) ?_
    refine AllReadyH.cons (o := { dst := some 87, op := Op.convert 22 9 (Operand.tmp 86), type := 9, pos := "law.go:44", after := #[{ on := 18, ground := Ground.data }, { on := 17, ground := Ground.guard }], guard := some (17, true) }) rfl (fun K hK => ?_) AllReadyH.nil
    go_simp
    refine hK.out _ _ ?_ (fun hHeld => ?_)
    · exact hHeld
    clear hK K
    (try simp only [Act.put, List.setIfInBounds_toArray, List.set_cons_zero, List.set_cons_succ])
    refine wpAnyH_take (i := 22) (oi := { dst := some 90, op := Op.binOp BinOp.eql 9 (Operand.tmp 87) (Operand.tmp 89) 9, type := 4, pos := "law.go:44", after := #[{ on := 19, ground := Ground.data }, { on := 21, ground := Ground.data }, { on := 17, ground := Ground.guard }], guard := some (17, true) }) (v := ?vb32) rfl (by kernel_rfl) (by kernel_rfl) (by kernel_rfl) (fun _ _ _ h => h) (Or.inl ⟨by rfl, ?hb32⟩) hHeld ?rb32
    case hb32 => ((intro w hSw); (try dsimp only at hSw); go_simp; (try with_reducible rfl))
    (try simp only [Act.put, List.setIfInBounds_toArray, List.set_cons_zero, List.set_cons_succ])
    refine wpAnyH_take (i := 23) (oi := { dst := some 91, op := Op.pick (Operand.tmp 85) (Operand.tmp 90) (Operand.const (Value.bool false)), type := 4, pos := "law.go:44", after := #[{ on := 17, ground := Ground.data }, { on := 22, ground := Ground.data }], guard := none }) (v := ?vb33) rfl (by kernel_rfl) (by kernel_rfl) (by kernel_rfl) (fun _ _ _ h => h) (Or.inl ⟨by rfl, ?hb33⟩) hHeld ?rb33
    case hb33 => ((intro w hSw); (try dsimp only at hSw); go_simp; (try with_reducible rfl))
    (try simp only [Act.put, List.setIfInBounds_toArray, List.set_cons_zero, List.set_cons_succ])
    refine wpAnyH_take (i := 24) (oi := { dst := some 92, op := Op.move (Operand.tmp 91), type := 4, pos := "law.go:44", after := #[{ on := 23, ground := Ground.data }, { on := 20, ground := Ground.chain }], guard := none }) (v := ?vb34) rfl (by kernel_rfl) (by kernel_rfl) (by kernel_rfl) (fun _ _ _ h => h) (Or.inl ⟨by rfl, ?hb34⟩) hHeld ?rb34
    case hb34 => ((intro w hSw); (try dsimp only at hSw); go_simp; (try with_reducible rfl))
    (try simp only [Act.put, List.setIfInBounds_toArray, List.set_cons_zero, List.set_cons_succ])
    refine wpAnyH_take (i := 25) (oi := { dst := some 93, op := Op.move (Operand.tmp 3), type := 46, pos := "law.go:44", after := #[{ on := 24, ground := Ground.guard }], guard := some (24, true) }) (v := ?vb35) rfl (by kernel_rfl) (by kernel_rfl) (by kernel_rfl) (fun _ _ _ h => h) (Or.inl ⟨by rfl, ?hb35⟩) hHeld ?rb35
    case hb35 => ((intro w hSw); (try dsimp only at hSw); go_simp; (try with_reducible rfl))
    (try simp only [Act.put, List.setIfInBounds_toArray, List.set_cons_zero, List.set_cons_succ])
    refine wpAnyH_ready (rs := [26]) (by kernel_rfl) (by simp) ?_
    refine AllReadyH.cons (o := { dst := some 94, op := Op.call { callee := Callee.value (Operand.func 43), args := #[Operand.tmp 93], argTypes := #[46] }, type := 3, pos := "law.go:44", after := #[{ on := 25, ground := Ground.data }, { on := 24, ground := Ground.chain }, { on := 24, ground := Ground.guard }], guard := some (24, true) }) rfl (fun K hK => ?_) AllReadyH.nil
    go_simp
    go_at_call 43
    refine (HAC.out _ hHeld).mono ?_
    rintro e w11 ⟨rfl, rfl⟩
    try go_wp2_with fail
    refine hK.out _ _ ?_ (fun hHeld => ?_)
    · exact hHeld
    clear hK K
    (try simp only [Act.put, List.setIfInBounds_toArray, List.set_cons_zero, List.set_cons_succ])
    refine wpAnyH_take (i := 27) (oi := { dst := some 95, op := Op.binOp BinOp.eql 3 (Operand.tmp 94) (Operand.const (Value.int IntKind.i64 8)) 3, type := 4, pos := "law.go:44", after := #[{ on := 26, ground := Ground.data }, { on := 24, ground := Ground.guard }], guard := some (24, true) }) (v := ?vb36) rfl (by kernel_rfl) (by kernel_rfl) (by kernel_rfl) (fun _ _ _ h => h) (Or.inl ⟨by rfl, ?hb36⟩) hHeld ?rb36
    case hb36 => ((intro w hSw); (try dsimp only at hSw); go_simp; (try with_reducible rfl))
    (try simp only [Act.put, List.setIfInBounds_toArray, List.set_cons_zero, List.set_cons_succ])
    refine wpAnyH_take (i := 28) (oi := { dst := some 96, op := Op.pick (Operand.tmp 92) (Operand.tmp 95) (Operand.const (Value.bool false)), type := 4, pos := "law.go:44", after := #[{ on := 24, ground := Ground.data }, { on := 27, ground := Ground.data }], guard := none }) (v := ?vb37) rfl (by kernel_rfl) (by kernel_rfl) (by kernel_rfl) (fun _ _ _ h => h) (Or.inl ⟨by rfl, ?hb37⟩) hHeld ?rb37
    case hb37 => ((intro w hSw); (try dsimp only at hSw); go_simp; (try with_reducible rfl))
    (try simp only [Act.put, List.setIfInBounds_toArray, List.set_cons_zero, List.set_cons_succ])
    refine wpAnyH_take (i := 29) (oi := { dst := some 0, op := Op.assign (Operand.tmp 96), type := 4, pos := "law.go:44", after := #[{ on := 28, ground := Ground.data }, { on := 26, ground := Ground.chain }, { on := 0, ground := Ground.phase }, { on := 1, ground := Ground.phase }, { on := 2, ground := Ground.phase }, { on := 3, ground := Ground.phase }, { on := 4, ground := Ground.phase }, { on := 5, ground := Ground.phase }, { on := 6, ground := Ground.phase }, { on := 7, ground := Ground.phase }, { on := 8, ground := Ground.phase }, { on := 9, ground := Ground.phase }, { on := 10, ground := Ground.phase }, { on := 11, ground := Ground.phase }, { on := 12, ground := Ground.phase }, { on := 13, ground := Ground.phase }, { on := 14, ground := Ground.phase }, { on := 15, ground := Ground.phase }, { on := 16, ground := Ground.phase }, { on := 17, ground := Ground.phase }, { on := 18, ground := Ground.phase }, { on := 19, ground := Ground.phase }, { on := 20, ground := Ground.phase }, { on := 21, ground := Ground.phase }, { on := 22, ground := Ground.phase }, { on := 23, ground := Ground.phase }, { on := 24, ground := Ground.phase }, { on := 25, ground := Ground.phase }, { on := 26, ground := Ground.phase }, { on := 27, ground := Ground.phase }, { on := 28, ground := Ground.phase }], guard := none }) (v := ?vb38) rfl (by kernel_rfl) (by kernel_rfl) (by kernel_rfl) (fun _ _ _ h => h) (Or.inl ⟨by rfl, ?hb38⟩) hHeld ?rb38
    case hb38 => ((intro w hSw); (try dsimp only at hSw); go_simp; (try with_reducible rfl))
    (try simp only [Act.put, List.setIfInBounds_toArray, List.set_cons_zero, List.set_cons_succ])
    refine wpAnyH_done (by kernel_rfl) ?_ _
    have HBE := Lib.hid (HF9.out.new hHeld (Ext.refl _ _)).below
    clear hHeld
    go_wp2_with fail
    go_ret
    exact ⟨rfl, HBE.out⟩
end Go.Proofs.YtapoknpakleiiaaDoor
