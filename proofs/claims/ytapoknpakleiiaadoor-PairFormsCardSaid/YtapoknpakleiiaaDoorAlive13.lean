import Derived.Test.YtapoknpakleiiaaDoorLaw13b
import Derived.Deep.RegionHeld3
import Derived.Deep.DrawnRows
import Derived.Deep.CutRange
import Derived.BigRegion
import Derived.Laws.EntriesVeiled
/- The law's example for layer 13. -/
set_option linter.unusedVariables false
set_option linter.unusedSimpArgs false
namespace Go.Proofs.YtapoknpakleiiaaDoor
open Go.RowKit Go.Tm
set_option maxHeartbeats 400000
set_option maxRecDepth 100000
attribute [local go_sem ↓] Go.wp_at_zero Go.wp_at_succ

/-- What lay there when a statement began, and has colour 0. -/
structure Fr (wB w : World) (χ : Col) : Prop where
  below : Below wB.heap.size wB w
  zero : ∀ k, k < wB.heap.size → (χ k).1 = 0
theorem Fr.touch {wB w w' : World} {χ χ' : Col} {j : Nat} (h : Fr wB w χ) (ht : Touch w w' χ χ' j) (hj : 0 < j) : Fr wB w' χ' :=
  ⟨⟨ht.kept.os.trans h.below.os, ht.kept.tape.trans h.below.tape, ht.kept.output.trans h.below.output, Nat.le_trans h.below.size ht.kept.size, fun k hk => (ht.kept.block k (Nat.lt_of_lt_of_le hk h.below.size) (fun e => by have := h.zero k hk; have e' : (χ k).1 = j := e; omega)).trans (h.below.block k hk)⟩,
    fun k hk => by rw [ht.ext k (Nat.lt_of_lt_of_le hk h.below.size)]; exact h.zero k hk⟩
theorem Fr.new {wB w w' : World} {χ χ' : Col} (h : Fr wB w χ) (hb : Below w.heap.size w w') (hx : Ext w.heap.size χ χ') : Fr wB w' χ' := h.touch (j := 1) (Touch.of_below hx hb) (by omega)
theorem Fr.start (w : World) : Fr w w (fun _ => (0, 7)) := ⟨Below.refl _ _, fun _ _ => rfl⟩
theorem new_zero {w w' : World} {e : TypeId} {A : Option Addr} {c : Nat} {l : List UInt8} (hN : New e w w' A c l) {χ : Col} : ∀ a, A = some a → (paint w.heap.size χ (0, 9) a.block).1 = 0 := fun a ha => by
  subst ha
  have h1 := World.ownsRow.lt hN.own a.block rfl
  rw [paint_new h1.1]

set_option maxHeartbeats 40000000 in
theorem alive_any {w : World} (hT : Tb w) : Calls Tryd.prog 11 #[] w fun e w' => e = .returned (.bool true) ∧ Below w.heap.size w w' := by
  have hgT : 0 < w.heap.size := World.block_lt_of_cell? w _ (hT.at_ 0 (by omega))
  obtain ⟨k1, k2, k3, k4, k5, k6, k7⟩ := al_1
  have HB258 : Hid (∀ W : World, Calls Tryd.prog 42 #[.int .i64 258] W fun e w' => ∃ A c, e = .returned (.slice A 40 c) ∧ New 5 W w' A c bl258) := Lib.hid fun W => blank13_any 258 (by omega) (by omega)
  have HB5 : Hid (∀ W : World, Calls Tryd.prog 42 #[.int .i64 5] W fun e w' => ∃ A c, e = .returned (.slice A 40 c) ∧ New 5 W w' A c bl5) := Lib.hid fun W => blank13_any 5 (by omega) (by omega)
  have HM : Hid (∀ (W : World) (A : Option Addr) (c : Nat), Tb W → Rda W A c bl258 → Calls Tryd.prog 9 #[.int .i64 1, .slice A 40 c] W fun e w' => ∃ A' c', e = .returned (.tuple #[.slice A' 56 c', .int .i64 0]) ∧ New 5 W w' A' c' alP) := Lib.hid fun W A c hT hr => by
    have := pMake_any hT hr (n := 40) k6.symm (by rw [k6]; omega) 1
    rw [k1, show (pmV 1 bl258).length = 56 from k2] at this
    exact this
  have HLS : Hid (∀ (W : World) (A : Option Addr) (c : Nat), Rda W A c alP → Calls Tryd.prog 14 #[.slice A 56 c] W fun e w' => e = .returned (.int .i64 258) ∧ W = w') := Lib.hid fun W A c hr => by
    have := pLsn_any hr (n := 56) k2.symm
    rw [k3] at this
    exact this
  have HNU : Hid (∀ (W : World) (A : Option Addr) (c : Nat), Rda W A c alP → Calls Tryd.prog 16 #[.slice A 56 c] W fun e w' => e = .returned (.int .i64 1) ∧ W = w') := Lib.hid fun W A c hr => by
    have := pNumber_any hr (n := 56) k2.symm
    rw [k4] at this
    exact this
  have HPG : Hid (∀ (W : World) (A : Option Addr) (c : Nat), Rda W A c alP → Calls Tryd.prog 18 #[.slice A 56 c] W fun e w' => ∃ A' c', e = .returned (.slice A' 40 c') ∧ New 5 W w' A' c' bl258) := Lib.hid fun W A c hr => by
    have := pPage_any hr (n := 56) k2.symm (by rw [k2]; omega)
    rw [k5, k6] at this
    exact this
  have HNM : Hid (∀ (W : World) (x : Int), Calls Tryd.prog 12 #[.int .i64 x] W fun e w' => e = .returned (.int .i64 x) ∧ W = w') := Lib.hid fun W x => num_any x
  have HK6 := Lib.hid k6
  have HK7 := Lib.hid k7
  have HT := Lib.hid hT
  have HG := Lib.hid hgT
  clear k1 k2 k3 k4 k5 k6 k7 hT hgT
  go_enter Tryd.func11, Tryd.ntmps11
  go_wp2_with fail
  refine (HB258.out _).mono ?_
  rintro e w1 ⟨A1, c1, rfl, N1⟩
  have HM1 := Lib.hid (HM.out w1 A1 c1 (HT.out.below N1.below) N1.rda)
  have HB1 := Lib.hid N1.below
  clear N1
  go_wp2_with fail
  refine HM1.out.mono ?_
  rintro e w2 ⟨A2, c2, rfl, N2⟩
  have HF2 := Lib.hid ((Fr.start w).new (below_then HB1.out N2.below) (Ext.refl _ _))
  have HR2 := Lib.hid N2.rda
  have HD2 := Lib.hid (diskNew_any (w := w2) 2 1 1024 (fun _ => (0, 7)) 1 (by omega))
  clear N2 HM1
  go_wp2_with fail
  refine HD2.out.mono ?_
  rintro e w3 hD
  obtain ⟨hbad, _⟩ | ⟨_, p, χ3, rfl, N3⟩ := hD
  · exact absurd hbad (by rw [al_6]; decide)
  have HF3 := Lib.hid (HF2.out.new N3.below N3.ext)
  have HDK3 := Lib.hid (show IsDisk w3 χ3 1 p al0 from N3.disk)
  have HR3 := Lib.hid (HR2.out.below N3.below)
  clear N3 HD2
  go_upto_region 3 with (fail)
  go_cut [54] from 20 to 54 (fun s54 wx => s54 = .bool false ∧ Fr w wx χ3 ∧ IsDisk wx χ3 1 p al0)
  case first =>
    have hb3d := (Below.refl w3.heap.size w3).drew
    have HR3d := Lib.hid (HR3.out.below hb3d)
    go_region_law
      (first
        | (go_simp; go_at_call 12; refine (HNM.out _ _).mono ?_; rintro e w4 ⟨rfl, rfl⟩)
        | (go_simp; go_at_call 14; refine (HLS.out _ _ _ HR3d.out).mono ?_; rintro e w4 ⟨rfl, rfl⟩)
        | (go_simp; go_at_call 16; refine (HNU.out _ _ _ HR3d.out).mono ?_; rintro e w4 ⟨rfl, rfl⟩)
        | (go_simp; go_at_call 18; refine (HPG.out _ _ _ HR3d.out).mono ?_; rintro e w4 ⟨A4, c4, rfl, N4⟩; have hp1 := fun dst hd => run_conv_rd (P := Tryd.prog) w4 tU8 N4.rda 40 HK6.out.symm dst hd; have hb4 := below_then hb3d N4.below; have HR4 := Lib.hid (HR3.out.below hb4))
        | (go_simp; go_at_call 42; refine (HB258.out _).mono ?_; rintro e w5 ⟨A5, c5, rfl, N5⟩; have hq1 := fun dst hd => run_conv_rd (P := Tryd.prog) w5 tU8 N5.rda 40 HK6.out.symm dst hd; have hq2 := fun dst hd => run_conv_rd (P := Tryd.prog) w5 tU8 (N4.rda.below N5.below) 40 HK6.out.symm dst hd; have hb5 := below_then hb4 N5.below)
        | (go_simp; go_at_call 42; refine (HB258.out _).mono ?_; rintro e w5 ⟨A5, c5, rfl, N5⟩; have hq1 := fun dst hd => run_conv_rd (P := Tryd.prog) w5 tU8 N5.rda 40 HK6.out.symm dst hd; have hb5' := below_then hb3d N5.below; have HR5 := Lib.hid (HR3.out.below hb5'))
        | (go_simp; go_at_call 18; refine (HPG.out _ _ _ HR5.out).mono ?_; rintro e w4 ⟨A4, c4, rfl, N4⟩; have hp1 := fun dst hd => run_conv_rd (P := Tryd.prog) w4 tU8 N4.rda 40 HK6.out.symm dst hd; have hp2 := fun dst hd => run_conv_rd (P := Tryd.prog) w4 tU8 (N5.rda.below N4.below) 40 HK6.out.symm dst hd; have hb5 := below_then hb5' N4.below))
    all_goals
      have HFE := Lib.hid (HF3.out.new hb5 (Ext.refl _ _))
      have HDE := Lib.hid (isDisk_below HDK3.out (Ext.refl _ _) hb5)
      go_wp2_with fail
      go_meet
      exact ⟨rfl, HFE.out, HDE.out⟩
  case rest =>
    obtain ⟨rfl, hFx, hDx⟩ := hcut
    have HFx := Lib.hid hFx
    have HDx := Lib.hid hDx
    clear hFx hDx HF3 HDK3 HR3
    go_wp2_with fail
    refine (HB5.out _).mono ?_
    rintro e w6 ⟨A6, c6, rfl, N6⟩
    have HF6 := Lib.hid (HFx.out.new N6.below (paint_ext wc.heap.size χ3 (0, 9)))
    have HD6 := Lib.hid (isDisk_below HDx.out (paint_ext wc.heap.size χ3 (0, 9)) N6.below)
    have hz6 : ∀ a, A6 = some a → (paint wc.heap.size χ3 (0, 9) a.block).1 ≠ 1 := fun a ha => by rw [new_zero N6 a ha]; decide
    have PW := pWrite_any (HT.out.below HF6.out.below) (by rw [HF6.out.zero _ HG.out]; decide) HD6.out (by rw [al_5.1]; decide) (by rw [al_5.2.1]; decide) 1 N6.rda (by rw [HK7.out]; omega) hz6 HK7.out.symm
    rw [al_2] at PW
    have HPW := Lib.hid PW
    clear PW hz6 N6
    go_wp2_with fail
    refine HPW.out.mono ?_
    rintro e w7 ⟨χ7, rfl, D7⟩
    have HF7 := Lib.hid (HF6.out.touch D7.touch (by omega))
    have HD7 := Lib.hid (show IsDisk w7 χ7 1 p al1 from D7.disk)
    have PR := pRepair_any (HT.out.below HF7.out.below) (by rw [HF7.out.zero _ HG.out]; decide) HD7.out (by rw [al_5.2.2.1]; decide) (by rw [al_5.2.2.2.1]; decide)
    rw [al_3.1, al_3.2] at PR
    have HPR := Lib.hid PR
    clear PR D7
    go_wp2_with fail
    refine HPR.out.mono ?_
    rintro e w8 ⟨χ8, rfl, D8⟩
    have HF8 := Lib.hid (HF7.out.touch D8.touch (by omega))
    have HD8 := Lib.hid (show IsDisk w8 χ8 1 p al2 from D8.disk)
    have PP := readPage_any HD8.out (by rw [al_5.2.2.2.2.1]; decide) 1 (0, 9)
    rw [al_4.2.2.1, al_4.1, al_4.2.1, HK7.out] at PP
    have HPP := Lib.hid PP
    clear PP D8
    go_wp2_with fail
    refine HPP.out.mono ?_
    rintro e w9 ⟨A9, c9, rfl, D9⟩
    have HF9 := Lib.hid (HF8.out.touch D9.touch (by omega))
    have PA := acts_any (s := actS al2) D9.disk
    rw [al_4.2.2.2] at PA
    have HD9 := Lib.hid D9.disk
    have HR9 := Lib.hid D9.rda
    clear PA D9
    have hb9d := (Below.refl w9.heap.size w9).drew
    have hc1 := fun dst hd => run_conv_rd (P := Tryd.prog) w9.drew tU8 (HR9.out.below hb9d) 40 HK7.out.symm dst hd
    have HAC : Hid (∀ W, Below w9.heap.size w9 W → Calls Tryd.prog 43 #[.pointer (some ⟨p, 0, none⟩)] W fun e w' => e = .returned (.int .i64 8) ∧ W = w') := Lib.hid fun W hb => by
      have := acts_any (isDisk_below HD9.out (Ext.refl _ _) hb)
      rw [al_4.2.2.2] at this
      exact this
    go_wp2_with fail
    clear HB258 HM HLS HNU HPG HB1 HF2 HR2 HFx HDx HF6 HD6 HPW HF7 HD7 HPR HF8 HD8 HPP
    go_region_law
      (first
        | (go_simp; go_at_call 12; refine (HNM.out _ _).mono ?_; rintro e w10 ⟨rfl, rfl⟩)
        | (go_simp; go_at_call 42; refine (HB5.out _).mono ?_; rintro e w10 ⟨A10, c10, rfl, N10⟩; have hb10 := below_then hb9d N10.below; have hc2 := fun dst hd => run_conv_rd (P := Tryd.prog) w10 tU8 N10.rda 40 HK7.out.symm dst hd; have hc3 := fun dst hd => run_conv_rd (P := Tryd.prog) w10 tU8 (HR9.out.below hb10) 40 HK7.out.symm dst hd)
        | (go_simp; go_at_call 43; refine (HAC.out _ hb10).mono ?_; rintro e w11 ⟨rfl, rfl⟩)
        | (go_simp; go_at_call 43; refine (HAC.out _ hb9d).mono ?_; rintro e w11 ⟨rfl, rfl⟩))
    all_goals
      have HBE := Lib.hid (HF9.out.new hb10 (Ext.refl _ _)).below
      go_wp2_with fail
      go_ret
      exact ⟨rfl, HBE.out⟩
end Go.Proofs.YtapoknpakleiiaaDoor
