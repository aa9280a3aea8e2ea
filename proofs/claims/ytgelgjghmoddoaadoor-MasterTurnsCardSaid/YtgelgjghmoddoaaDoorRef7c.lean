import Derived.Test.YtgelgjghmoddoaaDoorRef7b
import Derived.Test.YtgelgjghmoddoaaDoorMaster2
import Derived.Deep.RegionHeld3
import Derived.BigRegion
/- The contract of Parse of the document's answer for layer 7. -/
set_option linter.unusedVariables false
set_option linter.unusedSimpArgs false
namespace Go.Proofs.YtgelgjghmoddoaaDoor
open Go.RowKit Go.Tm
set_option maxHeartbeats 400000
set_option maxRecDepth 100000

theorem readV_le (m : List UInt8) : readV m ≤ 1152921504606846976 := by
  unfold readV
  split <;> omega
theorem refParse_false {l : List UInt8} (h : isM l = false) : pM l = (0, 0, 0) := by
  unfold pM
  rw [h]
  rfl
/-- What the document's reader makes of 40 bytes is what they are. -/
theorem isM_read (l : List UInt8) (h : l.length = 40) :
    isM l = (mayB (readV (l.take 8)) (readV ((l.drop 8).take 8)) (readV ((l.drop 16).take 8)) && decide (mastL (readV (l.take 8)).toNat (readV ((l.drop 8).take 8)).toNat (readV ((l.drop 16).take 8)).toNat = l)) := by
  by_cases hm : mayB (readV (l.take 8)) (readV ((l.drop 8).take 8)) (readV ((l.drop 16).take 8)) = true
  · have hh := (mayB_iff _ _ _).1 hm
    have e1 : readV (l.take 8) = (mT l : Int) := by
      unfold readV at hh ⊢
      unfold mT
      split
      · rename_i hq; rw [if_pos hq] at hh; omega
      · rfl
    have e2 : readV ((l.drop 8).take 8) = (mB l : Int) := by
      unfold readV at hh ⊢
      unfold mB
      split
      · rename_i hq; rw [if_pos hq] at hh; omega
      · rfl
    have e3 : readV ((l.drop 16).take 8) = (mC l : Int) := by
      unfold readV at hh ⊢
      unfold mC
      split
      · rename_i hq; rw [if_pos hq] at hh; omega
      · rfl
    rw [e1, e2, e3]
    unfold isM
    rw [h]
    simp
  · have hf : mayB (readV (l.take 8)) (readV ((l.drop 8).take 8)) (readV ((l.drop 16).take 8)) = false := by simpa using hm
    rw [hf, Bool.false_and]
    cases hi : isM l with
    | false => rfl
    | true =>
      have hh := (isM_iff l).1 hi
      have hk := (mayB_iff _ _ _).1 hh.2.1
      have e1 : readV (l.take 8) = (mT l : Int) := if_neg (by unfold mT at hk; omega)
      have e2 : readV ((l.drop 8).take 8) = (mB l : Int) := if_neg (by unfold mB at hk; omega)
      have e3 : readV ((l.drop 16).take 8) = (mC l : Int) := if_neg (by unfold mC at hk; omega)
      rw [e1, e2, e3] at hf
      rw [hh.2.1] at hf
      cases hf

set_option maxHeartbeats 1600000 in
theorem refParse7_any {w : World} {A : Option Addr} {n c : Nat} {l : List UInt8} (h : Rda w A c l) (hn : n = l.length) (hl : l.length ≤ 140737488355328) :
    Calls Tryd.prog 15 #[.slice A n c] w fun e w' => e = .returned (.tuple #[.agg #[.int .i64 ((pM l).1 : Nat), .int .i64 ((pM l).2.1 : Nat), .int .i64 ((pM l).2.2 : Nat)], .bool (isM l)]) ∧ Below w.heap.size w w' := by
  have hb0 := (Below.refl w.heap.size w).alloc (Nat.le_refl _) (.cells #[.int .i64 0, .int .i64 0, .int .i64 0] 30)
  have hR0 : RowC (w.alloc (.cells #[.int .i64 0, .int .i64 0, .int .i64 0] 30)) w.heap.size 30 [.int .i64 0, .int .i64 0, .int .i64 0] := heap_alloc_new _ _
  by_cases h40 : l.length = 40
  · obtain ⟨g, o, rfl, _⟩ := h.cells (by omega)
    have hcap := h.cap
    have i40 := isM_read l h40
    have HI : Hid (∀ x y z : Int, readV (l.take 8) = x → readV ((l.drop 8).take 8) = y → readV ((l.drop 16).take 8) = z → isM l = (mayB x y z && decide (mastL x.toNat y.toNat z.toNat = l))) := Lib.hid fun x y z hx hy hz => by rw [i40, hx, hy, hz]
    obtain ⟨wa, hwa⟩ : ∃ wa, w.alloc (.cells #[.int .i64 0, .int .i64 0, .int .i64 0] 30) = wa := ⟨_, rfl⟩
    rw [hwa] at hb0 hR0
    obtain ⟨SZ, hSZ⟩ : ∃ SZ, w.heap.size = SZ := ⟨_, rfl⟩
    rw [hSZ] at hR0
    have hra := h.below hb0
    obtain ⟨X, hX⟩ : ∃ X, readV (l.take 8) = X := ⟨_, rfl⟩
    obtain ⟨Y, hY⟩ : ∃ Y, readV ((l.drop 8).take 8) = Y := ⟨_, rfl⟩
    obtain ⟨Z, hZ⟩ : ∃ Z, readV ((l.drop 16).take 8) = Z := ⟨_, rfl⟩
    have p1 : Hid (∀ W, Below wa.heap.size wa W → Calls Tryd.prog 39 #[.slice (some ⟨g, o, none⟩) 8 c] W fun e w' => e = .returned (.int .i64 X) ∧ W = w') := Lib.hid fun W hb => by
      rw [← hX]
      exact refRead_any ((hra.below hb).take 8 (by omega)) (by simp; omega) rfl
    have p2 : Hid (∀ W, Below wa.heap.size wa W → Calls Tryd.prog 39 #[.slice (pieceAt (some ⟨g, o, none⟩) 8 c) 8 (c - 8)] W fun e w' => e = .returned (.int .i64 Y) ∧ W = w') := Lib.hid fun W hb => by
      rw [← hY]
      have := (hra.below hb).pieceAt 8 16 c (by omega) (by omega) (by omega) (by omega)
      rw [show (l.take 16).drop 8 = (l.drop 8).take 8 by rw [List.drop_take]] at this
      exact refRead_any this (by simp; omega) rfl
    have p3 : Hid (∀ W, Below wa.heap.size wa W → Calls Tryd.prog 39 #[.slice (pieceAt (some ⟨g, o, none⟩) 16 c) 8 (c - 16)] W fun e w' => e = .returned (.int .i64 Z) ∧ W = w') := Lib.hid fun W hb => by
      rw [← hZ]
      have := (hra.below hb).pieceAt 16 24 c (by omega) (by omega) (by omega) (by omega)
      rw [show (l.take 24).drop 16 = (l.drop 16).take 8 by rw [List.drop_take]] at this
      exact refRead_any this (by simp; omega) rfl
    have HSZ := Lib.hid hSZ
    have HR0 := Lib.hid hR0
    have HB0 := Lib.hid hb0
    have HRA := Lib.hid hra
    have H40 := Lib.hid h40
    have hMX : Hid (isM l = (mayB X Y Z && decide (mastL X.toNat Y.toNat Z.toNat = l))) := Lib.hid (HI.out X Y Z hX hY hZ)
    have hPX : Hid (isM l = true → pM l = (X.toNat, Y.toNat, Z.toNat)) := Lib.hid fun hi => by
      have hh := (isM_iff l).1 hi
      have hk := (mayB_iff _ _ _).1 hh.2.1
      have e1 : readV (l.take 8) = (mT l : Int) := if_neg (by unfold mT at hk; omega)
      have e2 : readV ((l.drop 8).take 8) = (mB l : Int) := if_neg (by unfold mB at hk; omega)
      have e3 : readV ((l.drop 16).take 8) = (mC l : Int) := if_neg (by unfold mC at hk; omega)
      unfold pM
      rw [if_pos hi, ← hX, ← hY, ← hZ, e1, e2, e3]
      rfl
    have hxl : X ≤ 1152921504606846976 := by rw [← hX]; exact readV_le _
    have hn40 : n = 40 := by omega
    subst hn40
    have c40 : 40 ≤ c := by omega
    have q8 : (8 : Int) ≤ (c : Int) := by omega
    have q16 : (16 : Int) ≤ (c : Int) := by omega
    have q24 : (24 : Int) ≤ (c : Int) := by omega
    have q40 : (40 : Int) ≤ (c : Int) := by omega
    have qc : (c : Int) ≤ (c : Int) := by omega
    have hbw := (Below.refl wa.heap.size wa).drew
    have HBW := Lib.hid hbw
    have HBA := Lib.hid ((Below.refl wa.heap.size wa).alloc (Nat.le_refl _) (.cells #[.int .i64 0, .int .i64 0, .int .i64 0] 30)).drew
    have hts := HR0.out.cell (j := 0) (v := .int .i64 0) rfl
    have hWD : Hid (∀ wd, (wa.alloc (.cells #[.int .i64 X, .int .i64 Y, .int .i64 Z] 30)).drew = wd → Below wa.heap.size wa wd ∧ RowC wd wa.heap.size 30 [.int .i64 X, .int .i64 Y, .int .i64 Z]) := Lib.hid fun wd hwd => by
      rw [← hwd]
      refine ⟨((Below.refl wa.heap.size wa).alloc (Nat.le_refl _) _).drew, ?_⟩
      exact heap_alloc_new wa _
    have HN := Lib.hid hn
    clear hX hY hZ HI i40 h hra hb0 hR0 hSZ hcap h40 hn hl hbw
    go_enter Tryd.func15, Tryd.ntmps15
    go_wp2_with fail
    clear hwa
    rw [HSZ.out]
    set_option maxHeartbeats 400000 in
    go_region_held3 (fun _ => True) (with_reducible exact True.intro)
      (first
        | (go_at_call 39; with_reducible refine (p1.out _ HBW.out).mono ?_; rintro e w2 ⟨rfl, rfl⟩)
        | (go_at_call 39; with_reducible refine (p1.out _ HBA.out).mono ?_; rintro e w2 ⟨rfl, rfl⟩)
        | (go_at_call 39; with_reducible refine (p2.out _ HBW.out).mono ?_; rintro e w2 ⟨rfl, rfl⟩)
        | (go_at_call 39; with_reducible refine (p2.out _ HBA.out).mono ?_; rintro e w2 ⟨rfl, rfl⟩)
        | (go_at_call 39; with_reducible refine (p3.out _ HBW.out).mono ?_; rintro e w2 ⟨rfl, rfl⟩)
        | (go_at_call 39; with_reducible refine (p3.out _ HBA.out).mono ?_; rintro e w2 ⟨rfl, rfl⟩))
    all_goals
      obtain ⟨wd, hwd⟩ : ∃ wd, (wa.alloc (.cells #[.int .i64 X, .int .i64 Y, .int .i64 Z] 30)).drew = wd := ⟨_, rfl⟩
      rw [hwd]
      obtain ⟨hbd, hrp⟩ := hWD.out wd hwd
      have HRS := Lib.hid (HR0.out.below hbd)
      have HRP := Lib.hid hrp
      have HBD := Lib.hid (below_then HB0.out hbd)
      have HRD := Lib.hid (HRA.out.below hbd)
      have hszp : SZ < wa.heap.size := HR0.out.lt
      obtain ⟨SP, hSP⟩ : ∃ SP, wa.heap.size = SP := ⟨_, rfl⟩
      rw [hSP] at HRP hszp ⊢
      have x0 := HRP.out.cell (j := 0) (v := .int .i64 X) rfl
      have x1 := HRP.out.cell (j := 1) (v := .int .i64 Y) rfl
      have x2 := HRP.out.cell (j := 2) (v := .int .i64 Z) rfl
      have PB := refBytes7_any (w := wd) X Y Z
      unfold mastV mastE at PB
      clear hwd hSP hbd hrp hts HBA HBW p1 p2 p3 hWD q8 q16 q24 hxl
      cases hm : mayB X Y Z with
      | false =>
        rw [hm] at PB
        have hE : isM l = false := by rw [hMX.out, hm]; rfl
        have HE := Lib.hid (And.intro hE (refParse_false hE))
        rw [if_neg (by decide), if_neg (by decide)] at PB
        have HPB := Lib.hid PB
        clear PB hE hm
        go_wp2_with fail
        refine HPB.out.mono ?_
        rintro e w5 ⟨A5, c5, rfl, hN5⟩
        have HRSZ := Lib.hid (HRS.out.below hN5.below)
        have HBW := Lib.hid (below_then HBD.out hN5.below)
        clear hN5 x0 x1 x2
        have z0 := HRSZ.out.cell (j := 0) (v := .int .i64 0) rfl
        have z1 := HRSZ.out.cell (j := 1) (v := .int .i64 0) rfl
        have z2 := HRSZ.out.cell (j := 2) (v := .int .i64 0) rfl
        have f0 := HRSZ.out.free 0
        have f1 := HRSZ.out.free 1
        have f2 := HRSZ.out.free 2
        have g3 := grown_trans (grown_trans (cell_grown w5 SZ 0 (.int .i64 0)) (cell_grown _ SZ 1 (.int .i64 0))) (cell_grown _ SZ 2 (.int .i64 0))
        have HR9 := Lib.hid (((HRSZ.out.stored 0 (.int .i64 0)).stored 1 (.int .i64 0)).stored 2 (.int .i64 0))
        have HB9 := Lib.hid (HBW.out.grown g3 HBW.out.size (fun q hq => by injection hq with hq; have := HSZ.out; omega))
        clear g3
        go_wp2_with fail
        have y0 := HR9.out.cell (j := 0) (v := .int .i64 0) rfl
        have y1 := HR9.out.cell (j := 1) (v := .int .i64 0) rfl
        have y2 := HR9.out.cell (j := 2) (v := .int .i64 0) rfl
        exact bodyPost_ret (v := .tuple #[.agg #[.int .i64 0, .int .i64 0, .int .i64 0], .bool false]) (by simp [results, Tryd.results15, go_sem, y0, y1, y2]) rfl ⟨by rw [HE.out.1, HE.out.2]; rfl, HB9.out⟩
      | true =>
        rw [hm] at PB
        rw [if_pos rfl, if_pos rfl, mastL_length] at PB
        have hM2 : isM l = decide (mastL X.toNat Y.toNat Z.toNat = l) := by rw [hMX.out, hm, Bool.true_and]
        have HM2 := Lib.hid hM2
        have hml := mastL_length X.toNat Y.toNat Z.toNat
        obtain ⟨nx, ny, nz⟩ : 0 ≤ X ∧ 0 ≤ Y ∧ 0 ≤ Z := by have := (mayB_iff _ _ _).1 hm; omega
        have HX := Lib.hid (And.intro (Int.toNat_of_nonneg nx) (And.intro (Int.toNat_of_nonneg ny) (Int.toNat_of_nonneg nz)))
        obtain ⟨M, hM⟩ : ∃ M, mastL X.toNat Y.toNat Z.toNat = M := ⟨_, rfl⟩
        rw [hM] at PB hml HM2
        have HPB := Lib.hid PB
        clear PB hm hM2 hM nx ny nz
        have HML := Lib.hid hml
        clear hml
        go_wp2_with fail
        refine HPB.out.mono ?_
        rintro e w5 ⟨A5, c5, rfl, hN5⟩
        have HRSZ := Lib.hid (HRS.out.below hN5.below)
        have HRP5 := Lib.hid (HRP.out.below hN5.below)
        have HBW := Lib.hid (below_then HBD.out hN5.below)
        have h1 := fun dst hd => run_conv_rd (P := Tryd.prog) w5 tU8 hN5.rda 40 HML.out.symm dst hd
        have h2 := fun dst hd => run_conv_rd (P := Tryd.prog) w5 tU8 (HRD.out.below hN5.below) 40 HN.out dst hd
        have x0 := HRP5.out.cell (j := 0) (v := .int .i64 X) rfl
        have x1 := HRP5.out.cell (j := 1) (v := .int .i64 Y) rfl
        have x2 := HRP5.out.cell (j := 2) (v := .int .i64 Z) rfl
        clear hN5
        have z0 := HRSZ.out.cell (j := 0) (v := .int .i64 0) rfl
        have z1 := HRSZ.out.cell (j := 1) (v := .int .i64 0) rfl
        have z2 := HRSZ.out.cell (j := 2) (v := .int .i64 0) rfl
        have f0 := HRSZ.out.free 0
        have f1 := HRSZ.out.free 1
        have f2 := HRSZ.out.free 2
        by_cases heq : M = l
        · have HE : Hid (isM l = true) := Lib.hid (by rw [HM2.out]; exact decide_eq_true heq)
          have HE2 := Lib.hid (hPX.out HE.out)
          subst heq
          have g3 := grown_trans (grown_trans (cell_grown w5 SZ 0 (.int .i64 X)) (cell_grown _ SZ 1 (.int .i64 Y))) (cell_grown _ SZ 2 (.int .i64 Z))
          have HR9 := Lib.hid (((HRSZ.out.stored 0 (.int .i64 X)).stored 1 (.int .i64 Y)).stored 2 (.int .i64 Z))
          have HB9 := Lib.hid (HBW.out.grown g3 HBW.out.size (fun q hq => by injection hq with hq; have := HSZ.out; omega))
          clear g3
          go_wp2_with fail
          have y0 := HR9.out.cell (j := 0) (v := .int .i64 X) rfl
          have y1 := HR9.out.cell (j := 1) (v := .int .i64 Y) rfl
          have y2 := HR9.out.cell (j := 2) (v := .int .i64 Z) rfl
          exact bodyPost_ret (v := .tuple #[.agg #[.int .i64 X, .int .i64 Y, .int .i64 Z], .bool true]) (by simp [results, Tryd.results15, go_sem, y0, y1, y2]) rfl ⟨by rw [HE.out, HE2.out, HX.out.1, HX.out.2.1, HX.out.2.2], HB9.out⟩
        · have HE : Hid (isM l = false) := Lib.hid (by rw [HM2.out]; exact decide_eq_false heq)
          have HE2 := Lib.hid (refParse_false HE.out)
          have g3 := grown_trans (grown_trans (cell_grown w5 SZ 0 (.int .i64 0)) (cell_grown _ SZ 1 (.int .i64 0))) (cell_grown _ SZ 2 (.int .i64 0))
          have HR9 := Lib.hid (((HRSZ.out.stored 0 (.int .i64 0)).stored 1 (.int .i64 0)).stored 2 (.int .i64 0))
          have HB9 := Lib.hid (HBW.out.grown g3 HBW.out.size (fun q hq => by injection hq with hq; have := HSZ.out; omega))
          clear g3
          go_wp2_with fail
          have y0 := HR9.out.cell (j := 0) (v := .int .i64 0) rfl
          have y1 := HR9.out.cell (j := 1) (v := .int .i64 0) rfl
          have y2 := HR9.out.cell (j := 2) (v := .int .i64 0) rfl
          exact bodyPost_ret (v := .tuple #[.agg #[.int .i64 0, .int .i64 0, .int .i64 0], .bool false]) (by simp [results, Tryd.results15, go_sem, y0, y1, y2]) rfl ⟨by rw [HE.out, HE2.out]; rfl, HB9.out⟩
  · have e1 : isM l = false := by
      cases hi : isM l with
      | false => rfl
      | true => exact absurd ((isM_iff l).1 hi).1 h40
    have e2 : pM l = (0, 0, 0) := refParse_false e1
    rw [e1, e2]
    have g1 : ((n : Int) != 40) = true := by simp [bne, hn]; omega
    have g2 : ((n : Int) == 40) = false := beq_eq_false_iff_ne.2 (by omega)
    have g3 : ¬ n = 40 := by omega
    clear h40 e1 e2 hn h
    go_enter Tryd.func15, Tryd.ntmps15
    go_wp2_with fail
    exact bodyPost_ret (v := .tuple #[.agg #[.int .i64 0, .int .i64 0, .int .i64 0], .bool false]) (by simp [results, Tryd.results15, go_sem]) rfl ⟨rfl, hb0⟩
end Go.Proofs.YtgelgjghmoddoaaDoor
