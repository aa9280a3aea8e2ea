import Derived.Test.YtgelgjghmoddoaaDoorMaster4
import Derived.Test.YtgelgjghmoddoaaDoorRef7c
/- The small functions of layer 7's statements; the document's examples. -/
set_option linter.unusedVariables false
set_option linter.unusedSimpArgs false
namespace Go.Proofs.YtgelgjghmoddoaaDoor
open Go.RowKit Go.Tm
set_option maxHeartbeats 400000
set_option maxRecDepth 100000

theorem same_any {w : World} {A B : Option Addr} {n m c d : Nat} {l k : List UInt8} (ha : Rda w A c l) (hb : Rda w B d k) (hn : n = l.length) (hm : m = k.length) :
    Calls Tryd.prog 12 #[.slice A n c, .slice B m d] w fun e w' => e = .returned (.bool (decide (l = k))) ∧ w = w' := by
  subst hn hm
  have h1 := fun dst hd => run_conv_rd (P := Tryd.prog) w tU8 ha _ rfl dst hd
  have h2 := fun dst hd => run_conv_rd (P := Tryd.prog) w tU8 hb _ rfl dst hd
  go_enter Tryd.func12, Tryd.ntmps12
  go_wp2
  go_ret
  exact ⟨rfl, rfl⟩

theorem same_yes {w : World} {A B : Option Addr} {n m c d : Nat} {l k : List UInt8} (ha : Rda w A c l) (hb : Rda w B d k) (hn : n = l.length) (hm : m = k.length) (he : l = k) :
    Calls Tryd.prog 12 #[.slice A n c, .slice B m d] w fun e w' => e = .returned (.bool true) ∧ w = w' := by
  have := same_any ha hb hn hm
  rwa [decide_eq_true he] at this

theorem IsDisk.below {w w' : World} {χ χ' : Col} {j p : Nat} {s : DSt} (h : IsDisk w χ j p s) (hx : Ext w.heap.size χ χ') (hb : Below w.heap.size w w') : IsDisk w' χ' j p s := by
  obtain ⟨q, h⟩ := h
  exact ⟨q, h.below hx hb⟩
/-- A disk that an act on another one leaves. -/
theorem IsDisk.touch {w w' : World} {χ χ' : Col} {j i p : Nat} {s : DSt} (h : IsDisk w χ j p s) (ht : Touch w w' χ χ' i) (hij : i ≠ j) (hi : 0 < i) : IsDisk w' χ' j p s := by
  obtain ⟨q, h⟩ := h
  exact ⟨q, h.ext ht.ext fun x hx hc => ht.kept.block x hx (fun e => by have e' : (χ x).1 = i := e; rcases hc with hc | hc <;> omega)⟩
theorem IsDisk.ok {w : World} {χ : Col} {j p : Nat} {s : DSt} (h : IsDisk w χ j p s) : DOk s := by
  obtain ⟨q, h⟩ := h
  exact h.ok
/-- What lay there when a statement began, and has colour 0. -/
structure Fr (wB w : World) (χ : Col) : Prop where
  below : Below wB.heap.size wB w
  zero : ∀ k, k < wB.heap.size → (χ k).1 = 0
theorem Fr.touch {wB w w' : World} {χ χ' : Col} {j : Nat} (h : Fr wB w χ) (ht : Touch w w' χ χ' j) (hj : 0 < j) : Fr wB w' χ' :=
  ⟨⟨ht.kept.os.trans h.below.os, ht.kept.tape.trans h.below.tape, ht.kept.output.trans h.below.output, Nat.le_trans h.below.size ht.kept.size, fun k hk => (ht.kept.block k (Nat.lt_of_lt_of_le hk h.below.size) (fun e => by have := h.zero k hk; have e' : (χ k).1 = j := e; omega)).trans (h.below.block k hk)⟩,
    fun k hk => by rw [ht.ext k (Nat.lt_of_lt_of_le hk h.below.size)]; exact h.zero k hk⟩
theorem Fr.new {wB w w' : World} {χ χ' : Col} (h : Fr wB w χ) (hb : Below w.heap.size w w') (hx : Ext w.heap.size χ χ') : Fr wB w' χ' := h.touch (j := 1) (Touch.of_below hx hb) (by omega)
theorem Fr.start (w : World) : Fr w w (fun _ => (0, 7)) := ⟨Below.refl _ _, fun _ _ => rfl⟩


theorem ours_any {w : World} (t b c : Int) : Calls Tryd.prog 10 #[.agg #[.int .i64 t, .int .i64 b, .int .i64 c]] w fun e w' => e = .returned (.agg #[.int .i64 t, .int .i64 b, .int .i64 c]) ∧ Below w.heap.size w w' := by
  have hb := ((Below.refl w.heap.size w).alloc (Nat.le_refl _) (.cells #[.int .i64 t, .int .i64 b, .int .i64 c] 23)).alloc (by simp) (.cells #[.int .i64 t, .int .i64 b, .int .i64 c] 30)
  go_enter Tryd.func10, Tryd.ntmps10
  go_wp2_with fail
  exact bodyPost_ret (v := .agg #[.int .i64 t, .int .i64 b, .int .i64 c]) (by simp [results, Tryd.results10, go_sem]) rfl ⟨rfl, hb⟩

theorem theirs_any {w : World} (t b c : Int) : Calls Tryd.prog 16 #[.agg #[.int .i64 t, .int .i64 b, .int .i64 c]] w fun e w' => e = .returned (.agg #[.int .i64 t, .int .i64 b, .int .i64 c]) ∧ Below w.heap.size w w' := by
  have hb := ((Below.refl w.heap.size w).alloc (Nat.le_refl _) (.cells #[.int .i64 t, .int .i64 b, .int .i64 c] 30)).alloc (by simp) (.cells #[.int .i64 t, .int .i64 b, .int .i64 c] 23)
  go_enter Tryd.func16, Tryd.ntmps16
  go_wp2_with fail
  exact bodyPost_ret (v := .agg #[.int .i64 t, .int .i64 b, .int .i64 c]) (by simp [results, Tryd.results16, go_sem]) rfl ⟨rfl, hb⟩

theorem hs7 : shapeB 1 1 1024 = true := by decide +kernel
theorem blank7_any {w : World} : Calls Tryd.prog 18 #[] w fun e w' => ∃ p χ', e = .returned (.pointer (some ⟨p, 0, none⟩)) ∧ NewD w w' (fun _ => (0, 7)) χ' 1 p (blankS 1 1 1024) := by
  have PN := diskNew_any (w := w) 1 1 1024 (fun _ => (0, 7)) 1 (by omega)
  have HPN : Hid (Calls Tryd.prog 40 #[.agg #[.int .i64 1, .int .i64 1, .int .i64 1024]] w fun e w' => ∃ p χ', e = .returned (.tuple #[.pointer (some ⟨p, 0, none⟩), .int .i64 0]) ∧ NewD w w' (fun _ => (0, 7)) χ' 1 p (blankS 1 1 1024)) := Lib.hid (PN.mono fun e w' h => by
    rcases h with ⟨h, _⟩ | ⟨_, h⟩
    · rw [hs7] at h; cases h
    · exact h)
  clear PN
  go_enter Tryd.func18, Tryd.ntmps18
  go_wp2_with fail
  refine HPN.out.mono ?_
  rintro e w1 ⟨p, χ1, rfl, N1⟩
  have HN := Lib.hid N1
  clear N1
  go_wp2_with fail
  go_ret
  exact ⟨p, χ1, rfl, HN.out⟩

def hx7 : DSt := nextS (blankS 1 1 1024) 1 9 4
theorem hx7_1 : nextE (blankS 1 1 1024) 1 9 4 = 0 := by decide +kernel
theorem hx7_2 : nextV (blankS 1 1 1024) 1 9 4 = (2, 9, 4) := by decide +kernel
theorem hx7_3 : newE hx7 = 0 := by decide +kernel
theorem hx7_4 : newV hx7 = (2, 9, 4) := by decide +kernel
theorem hx7_5 : newOk hx7 = true := by decide +kernel
theorem hx7_6 : hx7.acts < 4611686018427387000 := by decide +kernel
theorem hx7_7 : (mastL 5 7 0).getD 0 0 = 5 ∧ (mastL 5 7 0).getD 32 0 = 5 := by decide +kernel
theorem Tb.lt {w : World} (hT : Tb w) : 0 < w.heap.size := World.block_lt_of_cell? w _ (hT.at_ 0 (by omega))

set_option maxHeartbeats 4000000 in
theorem head7_any {w : World} (hT : Tb w) : Calls Tryd.prog 11 #[] w fun e w' => e = .returned (.bool true) ∧ Below w.heap.size w w' := by
  have hgT := hT.lt
  have PB := mbytes_any hT 5 7 0
  rw [show mastV 5 7 0 = mastL 5 7 0 from if_pos (by decide), show mastE 5 7 0 = 0 from if_pos (by decide), mastL_length] at PB
  have hml := mastL_length 5 7 0
  have his : isM (mastL 5 7 0) = true := (mast_is (t := 5) (b := 7) (c := 0) (by decide)).1
  have hpm : pM (mastL 5 7 0) = (5, 7, 0) := (mast_is (t := 5) (b := 7) (c := 0) (by decide)).2
  obtain ⟨h0, h32⟩ := hx7_7
  obtain ⟨M, hM⟩ : ∃ M, mastL 5 7 0 = M := ⟨_, rfl⟩
  rw [hM] at PB hml his hpm h0 h32
  have HPB := Lib.hid PB
  have HI := Lib.hid (And.intro his hpm)
  have HM := Lib.hid (And.intro hml (And.intro h0 h32))
  have HT := Lib.hid hT
  have HG := Lib.hid hgT
  clear hM PB his hpm hml h0 h32 hT hgT
  go_enter Tryd.func11, Tryd.ntmps11
  go_wp2_with fail
  refine HPB.out.mono ?_
  rintro e w1 ⟨A1, c1, rfl, N1⟩
  have PP : Calls Tryd.prog 13 #[.slice A1 40 c1] w1 fun e w' => e = .returned (.tuple #[.agg #[.int .i64 5, .int .i64 7, .int .i64 0], .bool true]) ∧ Below w1.heap.size w1 w' := by
    have := mparse_any (HT.out.below N1.below) N1.rda (n := 40) HM.out.1.symm (by rw [HM.out.1]; omega)
    rw [HI.out.1, HI.out.2] at this
    exact this
  have HPP := Lib.hid PP
  have HR1 := Lib.hid N1.rda
  have HB1 := Lib.hid N1.below
  clear PP N1
  go_wp2_with fail
  refine HPP.out.mono ?_
  rintro e w2 ⟨rfl, hb2⟩
  have hba := (Below.refl w2.heap.size w2).alloc (Nat.le_refl _) (.cells #[.int .i64 5, .int .i64 7, .int .i64 0] 23)
  have hra : RowC (w2.alloc (.cells #[.int .i64 5, .int .i64 7, .int .i64 0] 23)) w2.heap.size 23 [.int .i64 5, .int .i64 7, .int .i64 0] := heap_alloc_new _ _
  have HRA := Lib.hid hra
  have HF2 := Lib.hid ((Fr.start w).new (below_then (below_then HB1.out hb2) hba) (Ext.refl _ _))
  have HR2 := Lib.hid ((HR1.out.below hb2).below hba)
  clear hb2 hba hra
  go_wp2_with fail
  refine (blank7_any).mono ?_
  rintro e w3 ⟨p, χ3, rfl, N3⟩
  have HF3 := Lib.hid (HF2.out.new N3.below N3.ext)
  have hr3 := HR2.out.below N3.below
  obtain ⟨g1, o1, rfl, hc1⟩ := hr3.cells (by rw [HM.out.1]; omega)
  have k0 := hc1 0 (by rw [HM.out.1]; omega)
  have k32 := hc1 32 (by rw [HM.out.1]; omega)
  rw [HM.out.2.1] at k0
  rw [HM.out.2.2] at k32
  have k0' : w3.cell? ⟨g1, o1, none⟩ = some (.int .u8 5) := k0
  have k32' : w3.cell? ⟨g1, o1 + 32, none⟩ = some (.int .u8 5) := k32
  have x0 := (HRA.out.below N3.below).cell (j := 0) (v := .int .i64 5) rfl
  have x1 := (HRA.out.below N3.below).cell (j := 1) (v := .int .i64 7) rfl
  have x2 := (HRA.out.below N3.below).cell (j := 2) (v := .int .i64 0) rfl
  have PX := next_any (HT.out.below HF3.out.below) (by rw [HF3.out.zero _ HG.out]; decide) N3.disk (by decide +kernel) (by decide +kernel) 1 9 4
  rw [hx7_1, hx7_2] at PX
  have HPX := Lib.hid PX
  clear PX N3 hr3 hc1 k0 k32
  go_wp2_with fail
  refine HPX.out.mono ?_
  rintro e w4 ⟨χ4, rfl, D4⟩
  have HF4 := Lib.hid (HF3.out.touch D4.touch (by omega))
  have hb4 := (Below.refl w4.heap.size w4).alloc (Nat.le_refl _) (.cells #[.int .i64 2, .int .i64 9, .int .i64 4] 23)
  have hr4 : RowC (w4.alloc (.cells #[.int .i64 2, .int .i64 9, .int .i64 4] 23)) w4.heap.size 23 [.int .i64 2, .int .i64 9, .int .i64 4] := heap_alloc_new _ _
  have HR4 := Lib.hid hr4
  have HF5 := Lib.hid (HF4.out.new hb4 (paint_ext w4.heap.size _ (0, 8)))
  have PE : Calls Tryd.prog 23 #[.pointer (some ⟨p, 0, none⟩)] (w4.alloc (.cells #[.int .i64 2, .int .i64 9, .int .i64 4] 23)) fun e w' => e = .returned (.tuple #[.agg #[.int .i64 2, .int .i64 9, .int .i64 4], .bool true, .int .i64 0]) ∧ Below w.heap.size w w' ∧ RowC w' w4.heap.size 23 [.int .i64 2, .int .i64 9, .int .i64 4] := by
    have := newest_any (HT.out.below HF5.out.below) (by rw [HF5.out.zero _ HG.out]; decide) ((show IsDisk w4 χ4 1 p hx7 from D4.disk).below (paint_ext w4.heap.size _ (0, 8)) hb4) hx7_6
    rw [hx7_3, hx7_4, hx7_5] at this
    refine this.mono ?_
    rintro e w' ⟨χ', he, D5⟩
    refine ⟨he, (HF5.out.touch D5.touch (by omega)).below, ?_⟩
    exact (D5.touch.kept.block w4.heap.size (by simp) (by rw [paint_new (Nat.le_refl _)]; decide)).trans HR4.out
  have HPE := Lib.hid PE
  clear PE D4 hb4 hr4 x0 x1 x2 k0' k32'
  go_wp2_with fail
  refine HPE.out.mono ?_
  rintro e w5 ⟨rfl, hb5, hr5⟩
  have hba := (Below.refl w5.heap.size w5).alloc (Nat.le_refl _) (.cells #[.int .i64 2, .int .i64 9, .int .i64 4] 23)
  have hr6 := hr5.below hba
  have y0 := hr6.cell (j := 0) (v := .int .i64 2) rfl
  have y1 := hr6.cell (j := 1) (v := .int .i64 9) rfl
  have y2 := hr6.cell (j := 2) (v := .int .i64 4) rfl
  have HL := Lib.hid hr5.lt
  have HB := Lib.hid (hb5.alloc hb5.size (.cells #[.int .i64 2, .int .i64 9, .int .i64 4] 23))
  clear hb5 hr5 hr6 hba
  go_wp2_with fail
  go_ret
  exact ⟨rfl, HB.out⟩
end Go.Proofs.YtgelgjghmoddoaaDoor
