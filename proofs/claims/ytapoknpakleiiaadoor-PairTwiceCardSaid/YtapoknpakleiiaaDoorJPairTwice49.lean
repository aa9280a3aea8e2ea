/-
  Proved: for every input that its row lets in the statement PairTwice answers true; what was handed in stays as it was.
  Conditions: none beyond the row's own.
-/
import Derived.Test.YtapoknpakleiiaaDoorJPairTwice43
import Derived.Test.YtapoknpakleiiaaDoorJPairTwice45
import Derived.Test.YtapoknpakleiiaaDoorJPairTwice48
/- PairTwice: the walk. -/
set_option linter.unusedVariables false
set_option linter.unusedSimpArgs false
namespace Go.Proofs.YtapoknpakleiiaaDoor
open Go.RowKit Go.Tm Go.ChangeShapes Go.WideShapes Go.ChangeAt
set_option maxHeartbeats 400000
set_option maxRecDepth 100000
attribute [local go_sem ↓] Go.wp_at_zero Go.wp_at_succ

theorem rdI_one (w : World) (x : Int) : RdI (w.alloc (.cells #[.int .i64 x] 3)) (some ⟨w.heap.size, 0, none⟩) 1 [x] := ⟨by simp, by unfold maxLen; omega, fun _ => ⟨w.heap.size, 0, rfl, fun j hj => by
    have : j = 0 := by simpa using hj
    subst this
    have hr : RowC (w.alloc (.cells #[.int .i64 x] 3)) w.heap.size 3 [.int .i64 x] := heap_alloc_new _ _
    exact hr.cell rfl⟩⟩
theorem zeroL_get (n k : Nat) (h : k < n) : (zeroL n).getD k 0 = 0 := by
  unfold zeroL
  rw [List.getD_eq_getElem?_getD, List.getElem?_replicate, if_pos h]
  rfl

set_option maxHeartbeats 40000000 in
theorem pairTwice_any {w : World} (hT : Tb w) : Calls Tryd.prog 7 #[] w fun e w' => e = .returned (.bool true) ∧ Below w.heap.size w w' := by
  have hgT : 0 < w.heap.size := World.block_lt_of_cell? w _ (hT.at_ 0 (by omega))
  have HO1 : Hid (∀ W, Tb W → Calls Tryd.prog 31 #[.int .i64 2, .int .i64 35, .int .u8 2, .int .u64 1] W fun e w' => ∃ A c, e = .returned (.slice A 40 c) ∧ New 5 W w' A c twA) := Lib.hid fun W h => one_any h 2 35 2 1 (by decide) tw_a.1 tw_a.2 rfl rfl
  have HO2 : Hid (∀ W, Tb W → Calls Tryd.prog 31 #[.int .i64 1, .int .i64 361, .int .u8 1, .int .u64 72057602014512705] W fun e w' => ∃ A c, e = .returned (.slice A 40 c) ∧ New 5 W w' A c twB) := Lib.hid fun W h => one_any h 1 361 1 72057602014512705 (by decide) tw_b.1 tw_b.2 rfl rfl
  have HO3 : Hid (∀ W, Tb W → Calls Tryd.prog 31 #[.int .i64 0, .int .i64 105, .int .u8 4, .int .u64 72057594037927936] W fun e w' => ∃ A c, e = .returned (.slice A 40 c) ∧ New 5 W w' A c twC) := Lib.hid fun W h => one_any h 0 105 4 72057594037927936 (by decide) tw_c.1 tw_c.2 rfl rfl
  have HNM : Hid (∀ (W : World) (x : Int), Calls Tryd.prog 12 #[.int .i64 x] W fun e w' => e = .returned (.int .i64 x) ∧ W = w') := Lib.hid fun W x => num_any x
  have HX := Lib.hid (show bits BinOp.xor IntKind.u64 72057594037927936 7976584769 = 72057602014512705 by kernel_rfl)
  have hxx := HX.out
  have HT := Lib.hid hT
  have HG := Lib.hid hgT
  have HD0 := Lib.hid (diskNew_any (w := w) 3 1 1024 (fun _ => (0, 7)) 1 (by omega))
  clear hT hgT
  go_enter Tryd.func7, Tryd.ntmps7
  go_wp2_with fail
  refine HD0.out.mono ?_
  rintro e w1 hD
  obtain ⟨hbad, _⟩ | ⟨_, p1, χ1, rfl, N1⟩ := hD
  · exact absurd hbad (by rw [tw_s]; decide)
  have HF1 := Lib.hid ((Fr.start w).new N1.below N1.ext)
  have HDK1 := Lib.hid (show IsDisk w1 χ1 1 p1 tw0 from N1.disk)
  clear N1 HD0
  go_wp2_with fail
  refine (HNM.out _ _).mono ?_
  rintro e w2 ⟨rfl, rfl⟩
  go_wp2_with fail
  refine (alive_any (HT.out.below HF1.out.below)).mono ?_
  rintro e w2 ⟨rfl, hb2⟩
  have HF2 := Lib.hid (HF1.out.new hb2 (Ext.refl _ _))
  have HDK2 := Lib.hid (isDisk_below HDK1.out (Ext.refl _ _) hb2)
  clear hb2 HF1 HDK1
  go_wp2_with fail
  refine (HO1.out _ (HT.out.below HF2.out.below)).mono ?_
  rintro e w3 ⟨A3, c3, rfl, N3⟩
  have HF3 := Lib.hid (HF2.out.new N3.below (paint_ext w2.heap.size _ (0, 9)))
  have HDK3 := Lib.hid (isDisk_below HDK2.out (paint_ext w2.heap.size _ (0, 9)) N3.below)
  have HZ3 : Hid (∀ a, A3 = some a → (paint w2.heap.size χ1 (0, 9) a.block).1 = 0) := Lib.hid fun a ha => new_zero N3 a ha
  have HR3 := Lib.hid N3.rda
  obtain ⟨χ3, hχ3⟩ : ∃ x, paint w2.heap.size χ1 (0, 9) = x := ⟨_, rfl⟩
  rw [hχ3] at HF3 HDK3 HZ3
  clear hχ3 N3 HF2 HDK2
  have PW := pWrite_any (HT.out.below HF3.out.below) (by rw [HF3.out.zero _ HG.out]; decide) HDK3.out (by have := tw_l.1; omega) (by have := tw_l.1; omega) 2 HR3.out (by rw [tw_a.2]; omega) (fun a ha => by rw [HZ3.out a ha]; decide) tw_a.2.symm
  rw [tw_x.1] at PW
  have HPW := Lib.hid PW
  clear PW
  go_wp2_with fail
  refine HPW.out.mono ?_
  rintro e w4 ⟨χ4, rfl, D4⟩
  have HF4 := Lib.hid (HF3.out.touch D4.touch (by omega))
  have HDK4 := Lib.hid (show IsDisk w4 χ4 1 p1 tw1 from D4.disk)
  clear D4 HF3 HDK3 HR3 HZ3 HPW
  go_wp2_with fail
  refine (HNM.out _ _).mono ?_
  rintro e wn1 ⟨rfl, rfl⟩
  have PS := Lib.hid (stop_any HDK4.out (by have := tw_l.2.1; omega) 2 (by omega))
  go_wp2_with fail
  refine PS.out.mono ?_
  rintro e w5 ⟨⟨v5, rfl⟩, D5, T5⟩
  have HF5 := Lib.hid (HF4.out.touch T5 (by omega))
  have HDK5 := Lib.hid (show IsDisk w5 χ4 1 p1 tw2 from D5)
  clear D5 T5 HF4 HDK4 PS
  go_wp2_with fail
  refine (HO2.out _ (HT.out.below HF5.out.below)).mono ?_
  rintro e w6 ⟨A6, c6, rfl, N6⟩
  have HF6 := Lib.hid (HF5.out.new N6.below (paint_ext w5.heap.size _ (0, 9)))
  have HDK6 := Lib.hid (isDisk_below HDK5.out (paint_ext w5.heap.size _ (0, 9)) N6.below)
  have HZ6 : Hid (∀ a, A6 = some a → (paint w5.heap.size χ4 (0, 9) a.block).1 = 0) := Lib.hid fun a ha => new_zero N6 a ha
  have HR6 := Lib.hid N6.rda
  obtain ⟨χ6, hχ6⟩ : ∃ x, paint w5.heap.size χ4 (0, 9) = x := ⟨_, rfl⟩
  rw [hχ6] at HF6 HDK6 HZ6
  clear hχ6 N6 HF5 HDK5
  have PW := pWrite_any (HT.out.below HF6.out.below) (by rw [HF6.out.zero _ HG.out]; decide) HDK6.out (by have := tw_l.2.2.1; omega) (by have := tw_l.2.2.1; omega) 1 HR6.out (by rw [tw_b.2]; omega) (fun a ha => by rw [HZ6.out a ha]; decide) tw_b.2.symm
  rw [tw_x.2.1] at PW
  have HPW := Lib.hid PW
  clear PW
  go_wp2_with fail
  refine HPW.out.mono ?_
  rintro e w7 ⟨χ7, rfl, D7⟩
  have HF7 := Lib.hid (HF6.out.touch D7.touch (by omega))
  have HDK7 := Lib.hid (show IsDisk w7 χ7 1 p1 tw3 from D7.disk)
  clear D7 HF6 HDK6 HR6 HZ6 HPW
  have hb := (Below.refl w7.heap.size w7).alloc (Nat.le_refl _) (.cells #[.int .i64 50] 3)
  have HFa := Lib.hid (HF7.out.new hb (Ext.refl _ _))
  have HPC := Lib.hid (crash_any (isDisk_below HDK7.out (Ext.refl _ _) hb) (by have := tw_l.2.2.2.1; omega) (rdI_one w7 50) (by decide) (by decide) 0 (by omega) (by omega) 2 (by omega) (KL := 1) rfl)
  clear hb
  go_wp2_with fail
  refine HPC.out.mono ?_
  rintro e w8 ⟨p2, χ8, rfl, N8⟩
  have HF8 := Lib.hid (HFa.out.new N8.below N8.ext)
  have HDK8 := Lib.hid (show IsDisk w8 χ8 2 p2 tw4 from N8.disk)
  clear N8 HF7 HDK7 HPC HFa
  have PR := pRepair_any (HT.out.below HF8.out.below) (by rw [HF8.out.zero _ HG.out]; decide) HDK8.out (by have := tw_l.2.2.2.2.1; omega) (by have := tw_l.2.2.2.2.1; omega)
  rw [tw_x.2.2.1, tw_x.2.2.2] at PR
  have HPR := Lib.hid PR
  clear PR
  go_wp2_with fail
  refine HPR.out.mono ?_
  rintro e w9 ⟨χ9, rfl, D9⟩
  have HF9 := Lib.hid (HF8.out.touch D9.touch (by omega))
  have HDK9 := Lib.hid (show IsDisk w9 χ9 2 p2 tw5 from D9.disk)
  clear D9 HF8 HDK8 HPR
  go_wp2_with fail
  refine (HNM.out _ _).mono ?_
  rintro e wn2 ⟨rfl, rfl⟩
  go_wp2_with fail
  refine (HNM.out _ _).mono ?_
  rintro e wn3 ⟨rfl, rfl⟩
  have PP := readPair_any HDK9.out (by have := tw_l.2.2.2.2.2; omega) (0, 9)
  rw [tw_y.1, tw_y.2.1, zeroL_length] at PP
  have HPP := Lib.hid PP
  clear PP
  go_wp2_with fail
  refine HPP.out.mono ?_
  rintro e w10 ⟨A10, c10, rfl, D10⟩
  have HF10 := Lib.hid (HF9.out.touch D10.touch (by omega))
  obtain ⟨χ10, hχ10⟩ : ∃ x, paint w9.heap.size χ9 (0, 9) = x := ⟨_, rfl⟩
  have HDK10 := Lib.hid (show IsDisk w10 (paint w9.heap.size χ9 (0, 9)) 2 p2 tw6 from D10.disk)
  have HR10 := Lib.hid D10.rda
  rw [hχ10] at HF10 HDK10
  obtain ⟨g10, o10, rfl, hc10⟩ := D10.rda.cells (by rw [zeroL_length]; omega)
  rw [zeroL_length] at hc10
  have HC10 : Hid (∀ k, k < 56 → w10.cell? ⟨g10, o10 + k, none⟩ = some (.int .u8 0)) := Lib.hid fun k hk => by
    have := hc10 k hk
    rw [zeroL_get 56 k hk] at this
    exact this
  clear hc10 D10 hχ10 HF9 HDK9 HPP
  go_wp2_with fail
  go_loopw [9] (fun i wr => ∃ k : Nat, k ≤ 56 ∧ i = .int .i64 k ∧ Hid (wr = w10)) (fun i _ => 56 - (intOf i).toNat)
  case atStart => exact ⟨0, by omega, rfl, by first | exact Lib.hid rfl | exact Lib.hid trivial⟩
  case round =>
    obtain ⟨k, hk, rfl, hww⟩ := hrel
    have hww := hww.out
    subst hww
    by_cases hkt : k < 56
    · have hck := HC10.out k hkt
      have m0 : (0 : Int) ≤ (k : Int) := by omega
      have m1 : (k : Int) < 56 := by omega
      go_wp2_with fail
      go_roundw
      case rel => exact ⟨k + 1, by omega, by go_num, by first | exact Lib.hid rfl | exact Lib.hid trivial⟩
      case measure => simp [intOf]; omega
    · have hke : k = 56 := by omega
      subst hke
      rw [show ((56 : Nat) : Int) = 56 from rfl]
      clear hk hkt
      obtain ⟨w10, rfl⟩ : ∃ x : World, x = wr := ⟨_, rfl⟩
      have PS := Lib.hid (stop_any HDK10.out (by have := tw_m.1; omega) 2 (by omega))
      go_wp2_with fail
      refine PS.out.mono ?_
      rintro e w11 ⟨⟨v11, rfl⟩, D11, T11⟩
      have HF11 := Lib.hid (HF10.out.touch T11 (by omega))
      have HDK11 := Lib.hid (show IsDisk w11 χ10 2 p2 tw7 from D11)
      clear D11 T11 HF10 HDK10 PS
      go_wp2_with fail
      refine (HO3.out _ (HT.out.below HF11.out.below)).mono ?_
      rintro e w12 ⟨A12, c12, rfl, N12⟩
      have HF12 := Lib.hid (HF11.out.new N12.below (paint_ext w11.heap.size _ (0, 9)))
      have HDK12 := Lib.hid (isDisk_below HDK11.out (paint_ext w11.heap.size _ (0, 9)) N12.below)
      have HZ12 : Hid (∀ a, A12 = some a → (paint w11.heap.size χ10 (0, 9) a.block).1 = 0) := Lib.hid fun a ha => new_zero N12 a ha
      have HR12 := Lib.hid N12.rda
      obtain ⟨χ12, hχ12⟩ : ∃ x, paint w11.heap.size χ10 (0, 9) = x := ⟨_, rfl⟩
      rw [hχ12] at HF12 HDK12 HZ12
      clear hχ12 N12 HF11 HDK11
      have PW := pWrite_any (HT.out.below HF12.out.below) (by rw [HF12.out.zero _ HG.out]; decide) HDK12.out (by have := tw_m.2.1; omega) (by have := tw_m.2.1; omega) 0 HR12.out (by rw [tw_c.2]; omega) (fun a ha => by rw [HZ12.out a ha]; decide) tw_c.2.symm
      rw [tw_y.2.2.1] at PW
      have HPW := Lib.hid PW
      clear PW
      go_wp2_with fail
      refine HPW.out.mono ?_
      rintro e w13 ⟨χ13, rfl, D13⟩
      have HF13 := Lib.hid (HF12.out.touch D13.touch (by omega))
      have HDK13 := Lib.hid (show IsDisk w13 χ13 2 p2 tw8 from D13.disk)
      clear D13 HF12 HDK12 HR12 HZ12 HPW
      have hb := (Below.refl w13.heap.size w13).alloc (Nat.le_refl _) (.cells #[.int .i64 41] 3)
      have HFa := Lib.hid (HF13.out.new hb (Ext.refl _ _))
      have HPC := Lib.hid (crash_any (isDisk_below HDK13.out (Ext.refl _ _) hb) (by have := tw_m.2.2.1; omega) (rdI_one w13 41) (by decide) (by decide) 0 (by omega) (by omega) 3 (by omega) (KL := 1) rfl)
      clear hb
      go_wp2_with fail
      refine HPC.out.mono ?_
      rintro e w14 ⟨p3, χ14, rfl, N14⟩
      have HF14 := Lib.hid (HFa.out.new N14.below N14.ext)
      have HDK14 := Lib.hid (show IsDisk w14 χ14 3 p3 tw9 from N14.disk)
      clear N14 HF13 HDK13 HPC HFa
      have PR := pRepair_any (HT.out.below HF14.out.below) (by rw [HF14.out.zero _ HG.out]; decide) HDK14.out (by have := tw_m.2.2.2.1; omega) (by have := tw_m.2.2.2.1; omega)
      rw [tw_y.2.2.2.1, tw_y.2.2.2.2] at PR
      have HPR := Lib.hid PR
      clear PR
      go_wp2_with fail
      refine HPR.out.mono ?_
      rintro e w15 ⟨χ15, rfl, D15⟩
      have HF15 := Lib.hid (HF14.out.touch D15.touch (by omega))
      have HDK15 := Lib.hid (show IsDisk w15 χ15 3 p3 tw10 from D15.disk)
      clear D15 HF14 HDK14 HPR
      have PP := readPage_any HDK15.out (by have := tw_m.2.2.2.2; omega) 0 (0, 9)
      rw [tw_z.1, tw_z.2.1, tw_z.2.2, zeroL_length] at PP
      have HPP := Lib.hid PP
      clear PP
      go_wp2_with fail
      refine HPP.out.mono ?_
      rintro e w16 ⟨A16, c16, rfl, D16⟩
      have HF16 := Lib.hid (HF15.out.touch D16.touch (by omega)).below
      have hbd := (Below.refl w16.heap.size w16).drew
      have hR := D16.rda.below hbd
      have hz40 := zeroL_length 40
      have q1 := fun dst hd => run_conv_rd (P := Tryd.prog) w16.drew tU8 hR 40 hz40.symm dst hd
      obtain ⟨Z, hZ⟩ : ∃ Z, madeCells #[Value.int .u8 0] 40 = Z := ⟨_, rfl⟩
      have hinfo : (Tryd.prog.info? 5).map (fun i => (i.zero, i.size, i.bytes)) = some (some (.int .u8 0), 1, 1) := by kernel_rfl
      have hmk : (Instr.makeSlice 22 (.int .i64 40) (.int .i64 40)).run Tryd.prog w16.drew = .ok (.slice (some ⟨w16.heap.size, 0, none⟩) 40 40) (w16.drew.alloc (.cells (madeCells #[Value.int .u8 0] 40) 5)) := run_make_row' (P := Tryd.prog) 22 5 (.int .u8 0) 1 tU8.slice hinfo rfl .i64 .i64 40 (by omega) (by omega) w16.drew
      rw [hZ] at hmk
      have hb17 := hbd.alloc hbd.size (.cells Z 5)
      have hR17 : Rda (w16.drew.alloc (.cells Z 5)) (some ⟨w16.heap.size, 0, none⟩) 40 (zeroL 40) := by
        rw [← hZ, made_one]
        have e : (Array.replicate 40 (Value.int .u8 0)) = (B8 (zeroL 40)).toArray := by rw [B8_zero]; rfl
        rw [e]
        exact Rda_lit w16.drew 5 (zeroL 40) 40 hz40.symm (by rw [hz40]; omega) rfl
      have hRc := hR.alloc (.cells Z 5)
      obtain ⟨W17, hW17⟩ : ∃ W, w16.drew.alloc (.cells Z 5) = W := ⟨_, rfl⟩
      rw [hW17] at hmk hb17 hR17 hRc
      have q2 := fun dst hd => run_conv_rd (P := Tryd.prog) W17 tU8 hRc 40 hz40.symm dst hd
      have q3 := fun dst hd => run_conv_rd (P := Tryd.prog) W17 tU8 hR17 40 hz40.symm dst hd
      have HB17 := Lib.hid hb17
      clear D16 HPP hz40 hZ hinfo hR17 hRc hW17 hR hb17 hbd HDK15 HF15 HR10 HC10 HO1 HO2 HO3 HX hxx HT HG
      go_wp2_with fail
      refine wp_region_held_drew (S := (fun w' => ∀ dst, Tryd.prog.underlying dst = some .string → (convert 22 dst (.slice A16 40 c16)).run Tryd.prog w' = .ok (.string (S8 (zeroL 40))) w')) (by kernel_rfl) (q1) (fun hHeld => ?_)
      refine wpAnyH_take (i := 0) (oi := { dst := some 97, op := Op.move (Operand.tmp 4), type := 25, pos := "outright.go:231", after := #[], guard := none }) (v := ?vx0) rfl (by kernel_rfl) (by kernel_rfl) (by kernel_rfl) (fun _ _ _ h => h) (Or.inl ⟨by rfl, ?hx0⟩) hHeld ?rx0
      case hx0 => ((intro w hSw); (try dsimp only at hSw); go_simp; (try with_reducible rfl))
      (try simp only [Act.put, List.setIfInBounds_toArray, List.set_cons_zero, List.set_cons_succ])
      refine wpAnyH_ready (rs := [1]) (by kernel_rfl) (by simp) ?_
      refine AllReadyH.cons (o := { dst := some 98, op := Op.call { callee := Callee.value (Operand.func 12), args := #[Operand.tmp 97], argTypes := #[25] }, type := 3, pos := "outright.go:231", after := #[{ on := 0, ground := Ground.data }], guard := none }) rfl (fun K hK => ?_) AllReadyH.nil
      go_simp
      go_at_call 12
      refine (HNM.out _ _).mono ?_
      rintro e w17 ⟨rfl, rfl⟩
      try go_wp2_with fail
      refine hK.out _ _ ?_ (fun hHeld => ?_)
      · exact hHeld
      clear hK K
      (try simp only [Act.put, List.setIfInBounds_toArray, List.set_cons_zero, List.set_cons_succ])
      refine wpAnyH_take (i := 2) (oi := { dst := some 99, op := Op.binOp BinOp.eql 3 (Operand.tmp 98) (Operand.const (Value.int IntKind.i64 1)) 3, type := 4, pos := "outright.go:231", after := #[{ on := 1, ground := Ground.data }], guard := none }) (v := ?vx1) rfl (by kernel_rfl) (by kernel_rfl) (by kernel_rfl) (fun _ _ _ h => h) (Or.inl ⟨by rfl, ?hx1⟩) hHeld ?rx1
      case hx1 => ((intro w hSw); (try dsimp only at hSw); go_simp; (try with_reducible rfl))
      (try simp only [Act.put, List.setIfInBounds_toArray, List.set_cons_zero, List.set_cons_succ])
      refine wpAnyH_take (i := 3) (oi := { dst := some 100, op := Op.move (Operand.tmp 99), type := 4, pos := "outright.go:231", after := #[{ on := 2, ground := Ground.data }, { on := 1, ground := Ground.chain }], guard := none }) (v := ?vx2) rfl (by kernel_rfl) (by kernel_rfl) (by kernel_rfl) (fun _ _ _ h => h) (Or.inl ⟨by rfl, ?hx2⟩) hHeld ?rx2
      case hx2 => ((intro w hSw); (try dsimp only at hSw); go_simp; (try with_reducible rfl))
      (try simp only [Act.put, List.setIfInBounds_toArray, List.set_cons_zero, List.set_cons_succ])
      refine wpAnyH_take (i := 4) (oi := { dst := some 101, op := Op.move (Operand.tmp 6), type := 25, pos := "outright.go:231", after := #[{ on := 3, ground := Ground.guard }], guard := some (3, true) }) (v := ?vx3) rfl (by kernel_rfl) (by kernel_rfl) (by kernel_rfl) (fun _ _ _ h => h) (Or.inl ⟨by rfl, ?hx3⟩) hHeld ?rx3
      case hx3 => ((intro w hSw); (try dsimp only at hSw); go_simp; (try with_reducible rfl))
      (try simp only [Act.put, List.setIfInBounds_toArray, List.set_cons_zero, List.set_cons_succ])
      refine wpAnyH_ready (rs := [5]) (by kernel_rfl) (by simp) ?_
      refine AllReadyH.cons (o := { dst := some 102, op := Op.call { callee := Callee.value (Operand.func 12), args := #[Operand.tmp 101], argTypes := #[25] }, type := 3, pos := "outright.go:231", after := #[{ on := 4, ground := Ground.data }, { on := 3, ground := Ground.chain }, { on := 3, ground := Ground.guard }], guard := some (3, true) }) rfl (fun K hK => ?_) AllReadyH.nil
      go_simp
      go_at_call 12
      refine (HNM.out _ _).mono ?_
      rintro e w17 ⟨rfl, rfl⟩
      try go_wp2_with fail
      refine hK.out _ _ ?_ (fun hHeld => ?_)
      · exact hHeld
      clear hK K
      (try simp only [Act.put, List.setIfInBounds_toArray, List.set_cons_zero, List.set_cons_succ])
      refine wpAnyH_take (i := 6) (oi := { dst := some 103, op := Op.binOp BinOp.eql 3 (Operand.tmp 102) (Operand.const (Value.int IntKind.i64 0)) 3, type := 4, pos := "outright.go:231", after := #[{ on := 5, ground := Ground.data }, { on := 3, ground := Ground.guard }], guard := some (3, true) }) (v := ?vx4) rfl (by kernel_rfl) (by kernel_rfl) (by kernel_rfl) (fun _ _ _ h => h) (Or.inl ⟨by rfl, ?hx4⟩) hHeld ?rx4
      case hx4 => ((intro w hSw); (try dsimp only at hSw); go_simp; (try with_reducible rfl))
      (try simp only [Act.put, List.setIfInBounds_toArray, List.set_cons_zero, List.set_cons_succ])
      refine wpAnyH_take (i := 7) (oi := { dst := some 104, op := Op.pick (Operand.tmp 100) (Operand.tmp 103) (Operand.const (Value.bool false)), type := 4, pos := "outright.go:231", after := #[{ on := 3, ground := Ground.data }, { on := 6, ground := Ground.data }], guard := none }) (v := ?vx5) rfl (by kernel_rfl) (by kernel_rfl) (by kernel_rfl) (fun _ _ _ h => h) (Or.inl ⟨by rfl, ?hx5⟩) hHeld ?rx5
      case hx5 => ((intro w hSw); (try dsimp only at hSw); go_simp; (try with_reducible rfl))
      (try simp only [Act.put, List.setIfInBounds_toArray, List.set_cons_zero, List.set_cons_succ])
      refine wpAnyH_take (i := 8) (oi := { dst := some 105, op := Op.move (Operand.tmp 104), type := 4, pos := "outright.go:231", after := #[{ on := 7, ground := Ground.data }, { on := 5, ground := Ground.chain }], guard := none }) (v := ?vx6) rfl (by kernel_rfl) (by kernel_rfl) (by kernel_rfl) (fun _ _ _ h => h) (Or.inl ⟨by rfl, ?hx6⟩) hHeld ?rx6
      case hx6 => ((intro w hSw); (try dsimp only at hSw); go_simp; (try with_reducible rfl))
      (try simp only [Act.put, List.setIfInBounds_toArray, List.set_cons_zero, List.set_cons_succ])
      refine wpAnyH_take (i := 9) (oi := { dst := some 106, op := Op.move (Operand.tmp 8), type := 25, pos := "outright.go:231", after := #[{ on := 8, ground := Ground.guard }], guard := some (8, true) }) (v := ?vx7) rfl (by kernel_rfl) (by kernel_rfl) (by kernel_rfl) (fun _ _ _ h => h) (Or.inl ⟨by rfl, ?hx7⟩) hHeld ?rx7
      case hx7 => ((intro w hSw); (try dsimp only at hSw); go_simp; (try with_reducible rfl))
      (try simp only [Act.put, List.setIfInBounds_toArray, List.set_cons_zero, List.set_cons_succ])
      refine wpAnyH_ready (rs := [10]) (by kernel_rfl) (by simp) ?_
      refine AllReadyH.cons (o := { dst := some 107, op := Op.call { callee := Callee.value (Operand.func 12), args := #[Operand.tmp 106], argTypes := #[25] }, type := 3, pos := "outright.go:231", after := #[{ on := 9, ground := Ground.data }, { on := 8, ground := Ground.chain }, { on := 8, ground := Ground.guard }], guard := some (8, true) }) rfl (fun K hK => ?_) AllReadyH.nil
      go_simp
      go_at_call 12
      refine (HNM.out _ _).mono ?_
      rintro e w17 ⟨rfl, rfl⟩
      try go_wp2_with fail
      refine hK.out _ _ ?_ (fun hHeld => ?_)
      · exact hHeld
      clear hK K
      (try simp only [Act.put, List.setIfInBounds_toArray, List.set_cons_zero, List.set_cons_succ])
      refine wpAnyH_take (i := 11) (oi := { dst := some 108, op := Op.binOp BinOp.eql 3 (Operand.tmp 107) (Operand.const (Value.int IntKind.i64 0)) 3, type := 4, pos := "outright.go:231", after := #[{ on := 10, ground := Ground.data }, { on := 8, ground := Ground.guard }], guard := some (8, true) }) (v := ?vx8) rfl (by kernel_rfl) (by kernel_rfl) (by kernel_rfl) (fun _ _ _ h => h) (Or.inl ⟨by rfl, ?hx8⟩) hHeld ?rx8
      case hx8 => ((intro w hSw); (try dsimp only at hSw); go_simp; (try with_reducible rfl))
      (try simp only [Act.put, List.setIfInBounds_toArray, List.set_cons_zero, List.set_cons_succ])
      refine wpAnyH_take (i := 12) (oi := { dst := some 109, op := Op.pick (Operand.tmp 105) (Operand.tmp 108) (Operand.const (Value.bool false)), type := 4, pos := "outright.go:231", after := #[{ on := 8, ground := Ground.data }, { on := 11, ground := Ground.data }], guard := none }) (v := ?vx9) rfl (by kernel_rfl) (by kernel_rfl) (by kernel_rfl) (fun _ _ _ h => h) (Or.inl ⟨by rfl, ?hx9⟩) hHeld ?rx9
      case hx9 => ((intro w hSw); (try dsimp only at hSw); go_simp; (try with_reducible rfl))
      (try simp only [Act.put, List.setIfInBounds_toArray, List.set_cons_zero, List.set_cons_succ])
      refine wpAnyH_take (i := 13) (oi := { dst := some 110, op := Op.move (Operand.tmp 109), type := 4, pos := "outright.go:231", after := #[{ on := 12, ground := Ground.data }, { on := 10, ground := Ground.chain }], guard := none }) (v := ?vx10) rfl (by kernel_rfl) (by kernel_rfl) (by kernel_rfl) (fun _ _ _ h => h) (Or.inl ⟨by rfl, ?hx10⟩) hHeld ?rx10
      case hx10 => ((intro w hSw); (try dsimp only at hSw); go_simp; (try with_reducible rfl))
      (try simp only [Act.put, List.setIfInBounds_toArray, List.set_cons_zero, List.set_cons_succ])
      refine wpAnyH_take (i := 14) (oi := { dst := some 111, op := Op.move (Operand.tmp 11), type := 25, pos := "outright.go:231", after := #[{ on := 13, ground := Ground.guard }], guard := some (13, true) }) (v := ?vx11) rfl (by kernel_rfl) (by kernel_rfl) (by kernel_rfl) (fun _ _ _ h => h) (Or.inl ⟨by rfl, ?hx11⟩) hHeld ?rx11
      case hx11 => ((intro w hSw); (try dsimp only at hSw); go_simp; (try with_reducible rfl))
      (try simp only [Act.put, List.setIfInBounds_toArray, List.set_cons_zero, List.set_cons_succ])
      refine wpAnyH_ready (rs := [15]) (by kernel_rfl) (by simp) ?_
      refine AllReadyH.cons (o := { dst := some 112, op := Op.call { callee := Callee.value (Operand.func 12), args := #[Operand.tmp 111], argTypes := #[25] }, type := 3, pos := "outright.go:231", after := #[{ on := 14, ground := Ground.data }, { on := 13, ground := Ground.chain }, { on := 13, ground := Ground.guard }], guard := some (13, true) }) rfl (fun K hK => ?_) AllReadyH.nil
      go_simp
      go_at_call 12
      refine (HNM.out _ _).mono ?_
      rintro e w17 ⟨rfl, rfl⟩
      try go_wp2_with fail
      refine hK.out _ _ ?_ (fun hHeld => ?_)
      · exact hHeld
      clear hK K
      (try simp only [Act.put, List.setIfInBounds_toArray, List.set_cons_zero, List.set_cons_succ])
      refine wpAnyH_take (i := 16) (oi := { dst := some 113, op := Op.binOp BinOp.eql 3 (Operand.tmp 112) (Operand.const (Value.int IntKind.i64 0)) 3, type := 4, pos := "outright.go:231", after := #[{ on := 15, ground := Ground.data }, { on := 13, ground := Ground.guard }], guard := some (13, true) }) (v := ?vx12) rfl (by kernel_rfl) (by kernel_rfl) (by kernel_rfl) (fun _ _ _ h => h) (Or.inl ⟨by rfl, ?hx12⟩) hHeld ?rx12
      case hx12 => ((intro w hSw); (try dsimp only at hSw); go_simp; (try with_reducible rfl))
      (try simp only [Act.put, List.setIfInBounds_toArray, List.set_cons_zero, List.set_cons_succ])
      refine wpAnyH_take (i := 17) (oi := { dst := some 114, op := Op.pick (Operand.tmp 110) (Operand.tmp 113) (Operand.const (Value.bool false)), type := 4, pos := "outright.go:231", after := #[{ on := 13, ground := Ground.data }, { on := 16, ground := Ground.data }], guard := none }) (v := ?vx13) rfl (by kernel_rfl) (by kernel_rfl) (by kernel_rfl) (fun _ _ _ h => h) (Or.inl ⟨by rfl, ?hx13⟩) hHeld ?rx13
      case hx13 => ((intro w hSw); (try dsimp only at hSw); go_simp; (try with_reducible rfl))
      (try simp only [Act.put, List.setIfInBounds_toArray, List.set_cons_zero, List.set_cons_succ])
      refine wpAnyH_take (i := 18) (oi := { dst := some 115, op := Op.move (Operand.tmp 114), type := 4, pos := "outright.go:231", after := #[{ on := 17, ground := Ground.data }, { on := 15, ground := Ground.chain }], guard := none }) (v := ?vx14) rfl (by kernel_rfl) (by kernel_rfl) (by kernel_rfl) (fun _ _ _ h => h) (Or.inl ⟨by rfl, ?hx14⟩) hHeld ?rx14
      case hx14 => ((intro w hSw); (try dsimp only at hSw); go_simp; (try with_reducible rfl))
      (try simp only [Act.put, List.setIfInBounds_toArray, List.set_cons_zero, List.set_cons_succ])
      refine wpAnyH_take (i := 19) (oi := { dst := some 116, op := Op.move (Operand.tmp 5), type := 3, pos := "outright.go:231", after := #[{ on := 18, ground := Ground.guard }], guard := some (18, true) }) (v := ?vx15) rfl (by kernel_rfl) (by kernel_rfl) (by kernel_rfl) (fun _ _ _ h => h) (Or.inl ⟨by rfl, ?hx15⟩) hHeld ?rx15
      case hx15 => ((intro w hSw); (try dsimp only at hSw); go_simp; (try with_reducible rfl))
      (try simp only [Act.put, List.setIfInBounds_toArray, List.set_cons_zero, List.set_cons_succ])
      refine wpAnyH_take (i := 20) (oi := { dst := some 117, op := Op.binOp BinOp.eql 3 (Operand.tmp 116) (Operand.const (Value.int IntKind.i64 (-1))) 3, type := 4, pos := "outright.go:231", after := #[{ on := 19, ground := Ground.data }, { on := 18, ground := Ground.guard }], guard := some (18, true) }) (v := ?vx16) rfl (by kernel_rfl) (by kernel_rfl) (by kernel_rfl) (fun _ _ _ h => h) (Or.inl ⟨by rfl, ?hx16⟩) hHeld ?rx16
      case hx16 => ((intro w hSw); (try dsimp only at hSw); go_simp; (try with_reducible rfl))
      (try simp only [Act.put, List.setIfInBounds_toArray, List.set_cons_zero, List.set_cons_succ])
      refine wpAnyH_take (i := 21) (oi := { dst := some 118, op := Op.pick (Operand.tmp 115) (Operand.tmp 117) (Operand.const (Value.bool false)), type := 4, pos := "outright.go:231", after := #[{ on := 18, ground := Ground.data }, { on := 20, ground := Ground.data }], guard := none }) (v := ?vx17) rfl (by kernel_rfl) (by kernel_rfl) (by kernel_rfl) (fun _ _ _ h => h) (Or.inl ⟨by rfl, ?hx17⟩) hHeld ?rx17
      case hx17 => ((intro w hSw); (try dsimp only at hSw); go_simp; (try with_reducible rfl))
      (try simp only [Act.put, List.setIfInBounds_toArray, List.set_cons_zero, List.set_cons_succ])
      refine wpAnyH_take (i := 22) (oi := { dst := some 119, op := Op.move (Operand.tmp 118), type := 4, pos := "outright.go:231", after := #[{ on := 21, ground := Ground.data }, { on := 18, ground := Ground.chain }], guard := none }) (v := ?vx18) rfl (by kernel_rfl) (by kernel_rfl) (by kernel_rfl) (fun _ _ _ h => h) (Or.inl ⟨by rfl, ?hx18⟩) hHeld ?rx18
      case hx18 => ((intro w hSw); (try dsimp only at hSw); go_simp; (try with_reducible rfl))
      (try simp only [Act.put, List.setIfInBounds_toArray, List.set_cons_zero, List.set_cons_succ])
      refine wpAnyH_take (i := 23) (oi := { dst := some 120, op := Op.move (Operand.tmp 10), type := 22, pos := "outright.go:231", after := #[{ on := 22, ground := Ground.guard }], guard := some (22, true) }) (v := ?vx19) rfl (by kernel_rfl) (by kernel_rfl) (by kernel_rfl) (fun _ _ _ h => h) (Or.inl ⟨by rfl, ?hx19⟩) hHeld ?rx19
      case hx19 => ((intro w hSw); (try dsimp only at hSw); go_simp; (try with_reducible rfl))
      (try simp only [Act.put, List.setIfInBounds_toArray, List.set_cons_zero, List.set_cons_succ])
      refine wpAnyH_take (i := 24) (oi := { dst := some 121, op := Op.convert 22 9 (Operand.tmp 120), type := 9, pos := "outright.go:231", after := #[{ on := 23, ground := Ground.data }, { on := 22, ground := Ground.guard }], guard := some (22, true) }) (v := ?vx20) rfl (by kernel_rfl) (by kernel_rfl) (by kernel_rfl) (fun _ _ _ h => h) (Or.inl ⟨by rfl, ?hx20⟩) hHeld ?rx20
      case hx20 => ((intro w hSw); (try dsimp only at hSw); go_simp; (try with_reducible rfl))
      (try simp only [Act.put, List.setIfInBounds_toArray, List.set_cons_zero, List.set_cons_succ])
      refine wpAnyH_ready (rs := [25]) (by kernel_rfl) (by simp) ?_
      refine AllReadyH.cons (o := { dst := some 122, op := Op.makeSlice 22 (Operand.const (Value.int IntKind.i64 40)) (Operand.const (Value.int IntKind.i64 40)), type := 22, pos := "outright.go:231", after := #[{ on := 22, ground := Ground.guard }], guard := some (22, true) }) rfl (fun K hK => ?_) AllReadyH.nil
      go_simp
      refine hK.out _ _ ?_ (fun hHeld => ?_)
      · exact q2
      clear hK K
      (try simp only [Act.put, List.setIfInBounds_toArray, List.set_cons_zero, List.set_cons_succ])
      refine wpAnyH_ready (rs := [26]) (by kernel_rfl) (by simp) ?_
      refine AllReadyH.cons (o := { dst := some 123, op := Op.convert 22 9 (Operand.tmp 122), type := 9, pos := "outright.go:231", after := #[{ on := 25, ground := Ground.data }, { on := 22, ground := Ground.guard }], guard := some (22, true) }) rfl (fun K hK => ?_) AllReadyH.nil
      go_simp
      refine hK.out _ _ ?_ (fun hHeld => ?_)
      · exact hHeld
      clear hK K
      (try simp only [Act.put, List.setIfInBounds_toArray, List.set_cons_zero, List.set_cons_succ])
      refine wpAnyH_take (i := 27) (oi := { dst := some 124, op := Op.binOp BinOp.eql 9 (Operand.tmp 121) (Operand.tmp 123) 9, type := 4, pos := "outright.go:231", after := #[{ on := 24, ground := Ground.data }, { on := 26, ground := Ground.data }, { on := 22, ground := Ground.guard }], guard := some (22, true) }) (v := ?vx21) rfl (by kernel_rfl) (by kernel_rfl) (by kernel_rfl) (fun _ _ _ h => h) (Or.inl ⟨by rfl, ?hx21⟩) hHeld ?rx21
      case hx21 => ((intro w hSw); (try dsimp only at hSw); go_simp; (try with_reducible rfl))
      (try simp only [Act.put, List.setIfInBounds_toArray, List.set_cons_zero, List.set_cons_succ])
      refine wpAnyH_take (i := 28) (oi := { dst := some 125, op := Op.pick (Operand.tmp 119) (Operand.tmp 124) (Operand.const (Value.bool false)), type := 4, pos := "outright.go:231", after := #[{ on := 22, ground := Ground.data }, { on := 27, ground := Ground.data }], guard := none }) (v := ?vx22) rfl (by kernel_rfl) (by kernel_rfl) (by kernel_rfl) (fun _ _ _ h => h) (Or.inl ⟨by rfl, ?hx22⟩) hHeld ?rx22
      case hx22 => ((intro w hSw); (try dsimp only at hSw); go_simp; (try with_reducible rfl))
      (try simp only [Act.put, List.setIfInBounds_toArray, List.set_cons_zero, List.set_cons_succ])
      refine wpAnyH_take (i := 29) (oi := { dst := some 0, op := Op.assign (Operand.tmp 125), type := 4, pos := "outright.go:231", after := #[{ on := 28, ground := Ground.data }, { on := 22, ground := Ground.chain }, { on := 0, ground := Ground.phase }, { on := 1, ground := Ground.phase }, { on := 2, ground := Ground.phase }, { on := 3, ground := Ground.phase }, { on := 4, ground := Ground.phase }, { on := 5, ground := Ground.phase }, { on := 6, ground := Ground.phase }, { on := 7, ground := Ground.phase }, { on := 8, ground := Ground.phase }, { on := 9, ground := Ground.phase }, { on := 10, ground := Ground.phase }, { on := 11, ground := Ground.phase }, { on := 12, ground := Ground.phase }, { on := 13, ground := Ground.phase }, { on := 14, ground := Ground.phase }, { on := 15, ground := Ground.phase }, { on := 16, ground := Ground.phase }, { on := 17, ground := Ground.phase }, { on := 18, ground := Ground.phase }, { on := 19, ground := Ground.phase }, { on := 20, ground := Ground.phase }, { on := 21, ground := Ground.phase }, { on := 22, ground := Ground.phase }, { on := 23, ground := Ground.phase }, { on := 24, ground := Ground.phase }, { on := 25, ground := Ground.phase }, { on := 26, ground := Ground.phase }, { on := 27, ground := Ground.phase }, { on := 28, ground := Ground.phase }], guard := none }) (v := ?vx23) rfl (by kernel_rfl) (by kernel_rfl) (by kernel_rfl) (fun _ _ _ h => h) (Or.inl ⟨by rfl, ?hx23⟩) hHeld ?rx23
      case hx23 => ((intro w hSw); (try dsimp only at hSw); go_simp; (try with_reducible rfl))
      (try simp only [Act.put, List.setIfInBounds_toArray, List.set_cons_zero, List.set_cons_succ])
      refine wpAnyH_done (by kernel_rfl) ?_ _
      skip
      go_wp2_with fail
      go_ret
      exact ⟨rfl, below_then HF16.out HB17.out⟩

theorem pairTwice_contract (H : Type) (enc : TypeId × Value → H) (W : World) (base : Nat) (args : Array Value) (ds gs : List (DataW H)) (before : List MemPlace)
    (hval0 : ∀ (j : Nat) t v, Tryd.f7.params[j]? = some t → args[j]? = some v → Value.okWide Tryd.prog W .any base t v)
    (hW : DataW.Whole enc Tryd.prog Tryd.f7.params.toList Rows.pairTwiceSpec.vars false W args.toList ds gs before) (hsz : (DataW.weightsEach Tryd.checked.prog (Tryd.f7.params.toList ++ Rows.pairTwiceSpec.plain.varTypes Tryd.checked.prog) (ds ++ gs)).all (· ≤ reachBytes) = true) (hL : laidMetH Tryd.prog Rows.pairTwiceRow.laid W) :
    Calls Tryd.prog 7 args W fun e W' => ∃ v, e = .returned v ∧ Rows.pairTwiceSpec.post enc Tryd.prog Tryd.f7 false true false false W args v W' := by
  have hval : ∀ (j : Nat) t v, Tryd.f7.params[j]? = some t → args[j]? = some v → Value.okWide Tryd.prog W .any base t v := hval0
  have hW' := hW
  obtain ⟨p, q, hA0, hV, rfl, hfz, hnd⟩ := hW
  have hA : DataW.TrodAll enc Tryd.prog W 0 (fun _ => true) true Tryd.f7.params.toList args.toList ds p := hA0
  rw [Tryd.params7] at hA hval
  obtain ⟨hargs, rfl, rfl⟩ := trodAll_nil hA
  obtain rfl : args = #[] := by cases args; simp_all
  obtain ⟨rfl, rfl⟩ := trodVars_none hV
  clear hA0 hval0
  refine (pairTwice_any (tb_of hL)).mono fun e W' ⟨he, bel⟩ => ?_
  subst he
  exact ⟨_, rfl, _, _, _, [], _, [], hW', trodAll_mk1 (shut_bool Tryd.underlying4 _), trodAll_mk0, rfl, bel.frame _, fun h => by cases h⟩

theorem pairTwice_met (os : Os) : laidMet Tryd.prog Rows.pairTwiceRow.laid ((laidWorld os).forCall (fun _ _ => 0) ⟨#[], #[], []⟩).memory :=
  laidMet_of_run' 8 (by kernel_rfl) (by kernel_rfl)
theorem pairTwice_reads (os : Os) {H : Type} (enc : TypeId × Value → H) : ∃ places, DataW.whole enc Tryd.prog ((laidWorld os).forCall (fun _ _ => 0) ⟨#[], #[], []⟩).memory Tryd.f7.params.toList Rows.pairTwiceSpec.vars false (#[] : Array Value).toList 8 = some ([], [], places) :=
  ⟨[], by kernel_rfl⟩

set_option maxRecDepth 100000 in
theorem pairTwice_lifted (os : Os) (started : os.Started) (H : Type) (enc : TypeId × Value → H) (F : Stop.Interp) :
    ReturnsInHanded {} Tryd.checked os 7 .any ((OpenSpec.ofChange Rows.pairTwiceSpec).preRow enc Tryd.prog Tryd.f7 Rows.pairTwiceRow.domain false Rows.pairTwiceRow.laid) (((OpenSpec.ofChange Rows.pairTwiceSpec).at F).post enc Tryd.prog Tryd.f7 false true false false) := by
  obtain ⟨places, hx⟩ := pairTwice_reads os enc
  refine returnsInHanded_of_row (C := Tryd.checked) (s := OpenSpec.ofChange Rows.pairTwiceSpec) own_knob started (by kernel_rfl) Tryd.func7
    (witness_row_at (enc := enc) (C := Tryd.checked) false (laidWorld os) #[] rfl (by kernel_rfl) (by kernel_rfl) (by kernel_rfl)
      (OpenSpec.preRow_of_cond 8 hx (by kernel_rfl) (fun k hk => by cases hk) (by kernel_rfl) (pairTwice_met os))) ?_
  intro W base args ds gs before hval hW _ hcond hsz hL _ _
  exact pairTwice_contract H enc W base args ds gs before hval hW hsz hL

theorem pairTwice_said : Rows.PairTwiceSaid :=
  OpenClaim.holds_of_cond 7 Tryd.f7 rfl rfl rfl rfl rfl rfl rfl ⟨rfl, rfl, rfl, rfl, rfl⟩ rfl rfl rfl rfl rfl (by kernel_rfl) Tryd.func7 (by kernel_rfl)
    (of_decide_eq_true (by kernel_rfl)) (by unfold Func.isWrapper; first | (rw [if_pos (by decide +kernel)]; kernel_rfl) | (rw [if_neg (by decide +kernel)]; exact ⟨rfl, rfl⟩))
    (fun os started H enc _ F => by rw [OpenClaim.pre_eq_preRow]; exact pairTwice_lifted os started H enc F)

theorem pairTwice_plain (f : FuncId) (fn : Func) (hf : Tryd.pinned.checked.prog.funcNamed "tidemark/tidemarklaw13.PairTwice" = some f) (hfn : Tryd.pinned.checked.prog.funcs[f]? = some fn) :
    false = Tryd.pinned.checked.prog.looks [] ∧ ∀ (j : Nat) t, fn.params[j]? = some t → Tryd.pinned.checked.prog.wantsStandIn t = false := by
  obtain rfl : f = 7 := Option.some.inj ((show Tryd.prog.funcNamed "tidemark/tidemarklaw13.PairTwice" = some 7 by kernel_rfl).symm.trans hf) |>.symm
  obtain rfl : fn = Tryd.f7 := (Option.some.inj (Tryd.func7.symm.trans hfn)).symm
  refine ⟨by kernel_rfl, fun j t ht => ?_⟩
  rw [Tryd.params7] at ht
  have hm := Array.mem_of_getElem? ht
  simp at hm


theorem pairTwice_holds : Rows.PairTwiceCardSaid :=
  Claim7.holds_tied_plain_at .later [] _ _ _ _ pairTwice_said (fun _ h => by cases h) (by kernel_rfl) (fun _ h => by cases h) pairTwice_row_tie rfl ⟨rfl, rfl⟩ (by kernel_rfl) rfl pairTwice_plain (by kernel_rfl)
#print axioms pairTwice_holds
end Go.Proofs.YtapoknpakleiiaaDoor
