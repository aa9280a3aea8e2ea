import Derived.Test.YtgelgjghmoddoaaDoorMaster1
/- The contracts of package master: Parse. -/
set_option linter.unusedVariables false
set_option linter.unusedSimpArgs false
namespace Go.Proofs.YtgelgjghmoddoaaDoor
open Go.RowKit Go.Tm
set_option maxHeartbeats 400000
set_option maxRecDepth 100000

theorem bequal_any {w : World} {A B : Option Addr} {n m c d : Nat} {l k : List UInt8} (ha : Rda w A c l) (hb : Rda w B d k) (hn : n = l.length) (hm : m = k.length) :
    Calls Tryd.prog 37 #[.slice A n c, .slice B m d] w fun e w' => e = .returned (.bool (decide (l = k))) ∧ w = w' := by
  subst hn hm
  have h1 := fun dst hd => run_conv_rd (P := Tryd.prog) w tU8 ha _ rfl dst hd
  have h2 := fun dst hd => run_conv_rd (P := Tryd.prog) w tU8 hb _ rfl dst hd
  go_enter Tryd.func37, Tryd.ntmps37
  go_wp2
  go_ret
  exact ⟨rfl, rfl⟩

def fM (l : List UInt8) (k : Nat) : Nat := leN ((l.drop (8 * k)).take 8)
theorem fM_zero (l : List UInt8) : fM l 0 = mT l := by simp [fM, mT]
theorem fM_one (l : List UInt8) : fM l 1 = mB l := rfl
theorem fM_two (l : List UInt8) : fM l 2 = mC l := rfl
def arrM (l : List UInt8) (k : Nat) : List Value := [.int .i64 (if 0 < k then (fM l 0 : Int) else 0), .int .i64 (if 1 < k then (fM l 1 : Int) else 0), .int .i64 (if 2 < k then (fM l 2 : Int) else 0)]
theorem arrM_set (l : List UInt8) (k : Nat) (hk : k < 3) : (arrM l k).set k (.int .i64 (fM l k : Int)) = arrM l (k + 1) := by
  have : k = 0 ∨ k = 1 ∨ k = 2 := by omega
  rcases this with rfl | rfl | rfl <;> simp [arrM]
theorem arrM_get (l : List UInt8) (k : Nat) (hk : k < 3) : (arrM l k)[k]? = some (.int .i64 0) := by
  have : k = 0 ∨ k = 1 ∨ k = 2 := by omega
  rcases this with rfl | rfl | rfl <;> simp [arrM]
theorem int_at (l : List UInt8) (hl : l.length = 40) (k : Nat) (hk : k < 3) : intE (l.drop (8 * k)) = (if 1152921504606846976 < fM l k then 30 else 0) := by
  unfold intE
  rw [if_neg (by rw [List.length_drop]; omega)]
  rfl

theorem rda_arr {w w' : World} {A : Option Addr} {c : Nat} {l : List UInt8} (h : Rda w A c l) {S : Nat} {T : TypeId} {cs : List Value} (hr : RowC w S T cs) (hcs : ∀ v ∈ cs, ∀ x, v ≠ .int .u8 x) (hg : w.grownBy w' (some S)) : Rda w' A c l :=
  ⟨h.cap, h.max, h.nil, fun hp => by
    obtain ⟨b, o, e, hc⟩ := h.cells hp
    refine ⟨b, o, e, fun j hj => ?_⟩
    have h1 := hc j hj
    by_cases hb : b = S
    · subst hb
      exfalso
      unfold RowC at hr
      simp only [World.cell?, hr] at h1
      have h2 : cs[o + j]? = some (.int .u8 ((l.getD j 0).toNat : Int)) := by simpa using h1
      exact hcs _ (List.mem_of_getElem? h2) _ rfl
    · exact (World.cell?_of_block (hg.block b (World.block_lt_of_cell? _ _ h1) (fun e => hb (by injection e)))).trans h1⟩
theorem arrM_no8 (l : List UInt8) (k : Nat) : ∀ v ∈ arrM l k, ∀ x, v ≠ .int .u8 x := fun v hv x e => by
  subst e
  simp [arrM] at hv
theorem isr_grown {w w' : World} {r b : Nat} {T T' : TypeId} {l : List UInt8} {cs : List Value} (h : IsR w r T l) (hr : RowC w b T' cs) (hcs : ∀ v ∈ cs, ∀ x, v ≠ .int .u8 x) (hg : w.grownBy w' (some b)) (hne : r ≠ b) : IsR w' r T l := by
  obtain ⟨A, c, h1, h2⟩ := h.is
  exact ⟨A, c, (hg.block r (Array.getElem?_eq_some_iff.1 h1).1 (fun e => hne (by injection e))).trans h1, rda_arr h2 hr hcs hg⟩

set_option maxHeartbeats 4000000 in
theorem mparse_any {w : World} (hT : Tb w) {A : Option Addr} {n c : Nat} {l : List UInt8} (h : Rda w A c l) (hn : n = l.length) (hl : l.length ≤ 140737488355328) :
    Calls Tryd.prog 13 #[.slice A n c] w fun e w' => e = .returned (.tuple #[.agg #[.int .i64 ((pM l).1 : Nat), .int .i64 ((pM l).2.1 : Nat), .int .i64 ((pM l).2.2 : Nat)], .bool (isM l)]) ∧ Below w.heap.size w w' := by
  have hb0 := (Below.refl w.heap.size w).alloc (Nat.le_refl _) (.cells #[.int .i64 0, .int .i64 0, .int .i64 0] 23)
  have hR0 : RowC (w.alloc (.cells #[.int .i64 0, .int .i64 0, .int .i64 0] 23)) w.heap.size 23 [.int .i64 0, .int .i64 0, .int .i64 0] := heap_alloc_new _ _
  have hN0 : ∀ W, W = (w.alloc (.cells #[.int .i64 0, .int .i64 0, .int .i64 0] 23)) → W.heap.size = w.heap.size + 1 := fun W hW => by rw [hW]; simp
  by_cases h40 : l.length = 40
  · obtain ⟨wa, hwa⟩ : ∃ wa, w.alloc (.cells #[.int .i64 0, .int .i64 0, .int .i64 0] 23) = wa := ⟨_, rfl⟩
    rw [hwa] at hb0 hR0
    obtain ⟨SZ, hSZ⟩ : ∃ SZ, w.heap.size = SZ := ⟨_, rfl⟩
    rw [hSZ] at hR0
    have HSZ := Lib.hid hSZ
    have HR0 := Lib.hid hR0
    have HB0 := Lib.hid hb0
    have HNR := Lib.hid (newReader_any (h.below hb0) hn (by omega))
    have h8 := And.intro (int_at l h40 0 (by omega)) (And.intro (int_at l h40 1 (by omega)) (int_at l h40 2 (by omega)))
    have HIA := Lib.hid (fun k hk => int_at l h40 k hk)
    have HBAD : Hid (∀ k, k < 3 → 1152921504606846976 < fM l k → isM l = false ∧ pM l = (0, 0, 0)) := Lib.hid fun k hk hf => by
      have e1 : isM l = false := by
        cases hi : isM l with
        | false => rfl
        | true =>
          have hm := (mayB_iff _ _ _).1 ((isM_iff l).1 hi).2.1
          have : k = 0 ∨ k = 1 ∨ k = 2 := by omega
          rcases this with rfl | rfl | rfl
          · rw [fM_zero] at hf; omega
          · rw [fM_one] at hf; omega
          · rw [fM_two] at hf; omega
      exact ⟨e1, by unfold pM; rw [e1]; rfl⟩
    have H40 := Lib.hid h40
    have HT := Lib.hid hT
    have HRD := Lib.hid h
    have HN40 : Hid (n = 40) := Lib.hid (by omega)
    obtain rfl : n = 40 := by omega
    have HN := Lib.hid hn
    clear hN0 hb0 hR0 hT h hSZ h8 hl h40 hn
    go_enter Tryd.func13, Tryd.ntmps13
    go_wp2_with fail
    clear hwa
    rw [HSZ.out]
    refine HNR.out.mono ?_
    rintro e w1 ⟨r, rfl, hr, hIR, hb1⟩
    have hb2 := (Below.refl w1.heap.size w1).alloc (Nat.le_refl _) (.cells #[.int .i64 0, .int .i64 0, .int .i64 0] 77)
    have hR2 : RowC (w1.alloc (.cells #[.int .i64 0, .int .i64 0, .int .i64 0] 77)) w1.heap.size 77 (arrM l 0) := heap_alloc_new w1 _
    have hIR2 := hIR.below hb2
    have hrl : r < w1.heap.size := hIR.lt
    have HB2 := Lib.hid (below_then hb1 hb2)
    have hRS2 := (HR0.out.below hb1).below hb2
    obtain ⟨wc, hwc⟩ : ∃ wc, w1.alloc (.cells #[.int .i64 0, .int .i64 0, .int .i64 0] 77) = wc := ⟨_, rfl⟩
    rw [hwc] at hR2 hIR2 HB2 hRS2
    obtain ⟨S5, hS5⟩ : ∃ S5, w1.heap.size = S5 := ⟨_, rfl⟩
    rw [hS5] at hR2 hrl
    have hIR0 : IsR wc r 126 (l.drop (8 * 0)) := hIR2
    have hwas : wa.heap.size ≤ r := hr
    clear hIR2 hIR hb1 hb2 hr
    go_wp2_with fail
    clear hwc hS5
    go_loopw [18] (fun i wr => ∃ k : Nat, k ≤ 3 ∧ i = .int .i64 k ∧ IsR wr r 126 (l.drop (8 * k)) ∧ RowC wr S5 77 (arrM l k) ∧ RowC wr SZ 23 [.int .i64 0, .int .i64 0, .int .i64 0] ∧ Below wa.heap.size wa wr) (fun i _ => 3 - (intOf i).toNat)
    case atStart => exact ⟨0, by omega, rfl, hIR0, hR2, hRS2, HB2.out⟩
    case round =>
      obtain ⟨k, hk, rfl, hI, hR, hRS, hB⟩ := hrel
      obtain ⟨wo, rfl⟩ : ∃ wo : World, wo = wr := ⟨_, rfl⟩
      have HRS := Lib.hid hRS
      by_cases hkt : k < 3
      · have hint := int_any hI
        have hie := HIA.out k hkt
        by_cases hbig : 1152921504606846976 < fM l k
        · obtain ⟨e1, e2⟩ := HBAD.out k hkt hbig
          rw [if_pos hbig] at hie
          have hiv : intV (l.drop (8 * k)) = 0 := by unfold intV; rw [hie]; rfl
          rw [hie, hiv] at hint
          have HINT := Lib.hid hint
          have HE := Lib.hid (And.intro e1 e2)
          have HB := Lib.hid hB
          have m0 : (0 : Int) ≤ (k : Int) := by omega
          have m1 : (k : Int) < 3 := by omega
          clear hint hie hiv hbig e1 e2 hI hR hB hRS
          go_wp2_with fail
          refine HINT.out.mono ?_
          rintro e w3 ⟨rfl, hg, hI3⟩
          have hb3 : Below w.heap.size w w3 := (below_then HB0.out HB.out).grown hg (below_then HB0.out HB.out).size (fun q hq => by injection hq with hq; rw [← hq]; exact Nat.le_trans HB0.out.size hwas)
          have hRS3 : RowC w3 SZ 23 [.int .i64 0, .int .i64 0, .int .i64 0] := HRS.out.grown hg (fun e => by injection e with e; have := HB0.out.size; have := HR0.out.lt; omega)
          have z0 := hRS3.cell (j := 0) (v := .int .i64 0) rfl
          have z1 := hRS3.cell (j := 1) (v := .int .i64 0) rfl
          have z2 := hRS3.cell (j := 2) (v := .int .i64 0) rfl
          have f0 := hRS3.free 0
          have f1 := hRS3.free 1
          have f2 := hRS3.free 2
          have g3 := grown_trans (grown_trans (cell_grown w3 SZ 0 (.int .i64 0)) (cell_grown _ SZ 1 (.int .i64 0))) (cell_grown _ SZ 2 (.int .i64 0))
          have hr3 := ((hRS3.stored 0 (.int .i64 0)).stored 1 (.int .i64 0)).stored 2 (.int .i64 0)
          have HB4 := Lib.hid (hb3.grown g3 hb3.size (fun q hq => by injection hq with hq; have := HSZ.out; omega))
          have HR3 := Lib.hid hr3
          clear hg hI3 hb3 hRS3 g3 hr3
          go_wp2_with fail
          have y0 := HR3.out.cell (j := 0) (v := .int .i64 0) rfl
          have y1 := HR3.out.cell (j := 1) (v := .int .i64 0) rfl
          have y2 := HR3.out.cell (j := 2) (v := .int .i64 0) rfl
          exact bodyPost_ret (v := .tuple #[.agg #[.int .i64 0, .int .i64 0, .int .i64 0], .bool false]) (by simp [results, Tryd.results13, go_sem, y0, y1, y2]) rfl ⟨by rw [HE.out.1, HE.out.2]; rfl, HB4.out⟩
        · rw [if_neg hbig] at hie
          have hiv : intV (l.drop (8 * k)) = fM l k := by unfold intV; rw [hie, if_pos rfl]; rfl
          have hil : intL (l.drop (8 * k)) = l.drop (8 * (k + 1)) := by unfold intL; rw [hie, if_pos rfl, List.drop_drop]; congr 1
          rw [hie, hiv, hil] at hint
          have hst := hR.stored k (.int .i64 (fM l k : Int))
          rw [arrM_set l k hkt] at hst
          have hc := hR.cell (arrM_get l k hkt)
          have hf := hR.free k
          have HINT := Lib.hid hint
          have HRR := Lib.hid hR
          have HB := Lib.hid hB
          have hset := arrM_set l k hkt
          have hgt := arrM_get l k hkt
          obtain ⟨F, hF⟩ : ∃ F, fM l k = F := ⟨_, rfl⟩
          rw [hF] at HINT hset
          have HSET := Lib.hid hset
          have HGT := Lib.hid hgt
          have m0 : (0 : Int) ≤ (k : Int) := by omega
          have m1 : (k : Int) < 3 := by omega
          clear hint hie hiv hil hst hc hf hI hR hB hRS hset hgt hF hbig
          go_wp2_with fail
          refine HINT.out.mono ?_
          rintro e w3 ⟨rfl, hg, hI3⟩
          have hB3 : Below wa.heap.size wa w3 := HB.out.grown hg HB.out.size (fun q hq => by injection hq with hq; rw [← hq]; exact hwas)
          have hS5r : RowC w3 S5 77 (arrM l k) := HRR.out.grown hg (fun e => by injection e with e; omega)
          have hRS3 : RowC w3 SZ 23 [.int .i64 0, .int .i64 0, .int .i64 0] := HRS.out.grown hg (fun e => by injection e with e; have := HB0.out.size; have := HR0.out.lt; omega)
          have hc := hS5r.cell HGT.out
          have hf := hS5r.free k
          have hst := hS5r.stored k (.int .i64 (F : Int))
          rw [HSET.out] at hst
          have hg5 := cell_grown w3 S5 k (.int .i64 (F : Int))
          have hS5a : wa.heap.size ≤ S5 := by omega
          have HST := Lib.hid hst
          have HI4 := Lib.hid (isr_grown hI3 hS5r (arrM_no8 l k) hg5 (by omega))
          have HRS4 := Lib.hid (hRS3.grown hg5 (fun e => by injection e with e; have := HR0.out.lt; omega))
          have HB4 := Lib.hid (hB3.grown hg5 hB3.size (fun q hq => by injection hq with hq; omega))
          clear hg hI3 hB3 hS5r hRS3 hst hg5
          go_wp2_with fail
          go_roundw
          case rel => exact ⟨k + 1, by omega, by go_num, HI4.out, HST.out, HRS4.out, HB4.out⟩
          case measure => simp [intOf]; omega
      · have he : k = 3 := by omega
        subst he
        have hRS3 := hRS
        have x0 := hR.cell (j := 0) (v := .int .i64 (fM l 0 : Int)) rfl
        have x1 := hR.cell (j := 1) (v := .int .i64 (fM l 1 : Int)) rfl
        have x2 := hR.cell (j := 2) (v := .int .i64 (fM l 2 : Int)) rfl
        have hISM : isM l = (mayB (fM l 0 : Int) (fM l 1 : Int) (fM l 2 : Int) && decide (mastL (fM l 0) (fM l 1) (fM l 2) = l)) := by
          unfold isM
          rw [H40.out, fM_zero, fM_one, fM_two]
          simp
        have hPM : isM l = true → pM l = (fM l 0, fM l 1, fM l 2) := fun h => by unfold pM; rw [if_pos h, fM_zero, fM_one, fM_two]
        obtain ⟨X0, hX0⟩ : ∃ X, fM l 0 = X := ⟨_, rfl⟩
        obtain ⟨X1, hX1⟩ : ∃ X, fM l 1 = X := ⟨_, rfl⟩
        obtain ⟨X2, hX2⟩ : ∃ X, fM l 2 = X := ⟨_, rfl⟩
        rw [hX0] at x0 hISM hPM
        rw [hX1] at x1 hISM hPM
        rw [hX2] at x2 hISM hPM
        have hb4 := (Below.refl wo.heap.size wo).alloc (Nat.le_refl _) (.cells #[.int .i64 (X0 : Int), .int .i64 (X1 : Int), .int .i64 (X2 : Int)] 23)
        have hR4 : RowC (wo.alloc (.cells #[.int .i64 (X0 : Int), .int .i64 (X1 : Int), .int .i64 (X2 : Int)] 23)) wo.heap.size 23 [.int .i64 (X0 : Int), .int .i64 (X1 : Int), .int .i64 (X2 : Int)] := heap_alloc_new _ _
        have hwB := below_then (below_then HB0.out hB) hb4
        have PB := mbytes_any (HT.out.below hwB) (X0 : Int) (X1 : Int) (X2 : Int)
        have HBW4 := Lib.hid hwB
        have HRS4 := Lib.hid (hRS3.below hb4)
        have HR4 := Lib.hid hR4
        have HRD4 := Lib.hid (HRD.out.below hwB)
        obtain ⟨wd, hwd⟩ : ∃ wd, wo.alloc (.cells #[.int .i64 (X0 : Int), .int .i64 (X1 : Int), .int .i64 (X2 : Int)] 23) = wd := ⟨_, rfl⟩
        rw [hwd] at PB HBW4 HRS4 HR4 HRD4
        obtain ⟨S9, hS9⟩ : ∃ S9, wo.heap.size = S9 := ⟨_, rfl⟩
        rw [hS9] at HR4
        have q0 := HR4.out.cell (j := 0) (v := .int .i64 (X0 : Int)) rfl
        have q1 := HR4.out.cell (j := 1) (v := .int .i64 (X1 : Int)) rfl
        have q2 := HR4.out.cell (j := 2) (v := .int .i64 (X2 : Int)) rfl
        clear hRS hRS3 hR hI hB hb4 hR4 hwB hX0 hX1 hX2 hR2 hRS2 hIR0
        unfold mastV mastE at PB
        cases hm : mayB (X0 : Int) (X1 : Int) (X2 : Int) with
        | false =>
          rw [hm] at PB hISM
          rw [if_neg (by decide), if_neg (by decide)] at PB
          have hE : isM l = false ∧ pM l = (0, 0, 0) := ⟨hISM, by unfold pM; rw [hISM]; rfl⟩
          have HE := Lib.hid hE
          have HPB := Lib.hid PB
          clear PB hISM hPM hE hm
          go_wp2_with fail
          clear hwd hS9
          refine HPB.out.mono ?_
          rintro e w5 ⟨A5, c5, rfl, hN5⟩
          have HRSZ := Lib.hid (HRS4.out.below hN5.below)
          have HBW := Lib.hid (below_then HBW4.out hN5.below)
          clear hN5 q0 q1 q2 x0 x1 x2
          have z0 := HRSZ.out.cell (j := 0) (v := .int .i64 0) rfl
          have z1 := HRSZ.out.cell (j := 1) (v := .int .i64 0) rfl
          have z2 := HRSZ.out.cell (j := 2) (v := .int .i64 0) rfl
          have f0 := HRSZ.out.free 0
          have f1 := HRSZ.out.free 1
          have f2 := HRSZ.out.free 2
          have g3 := grown_trans (grown_trans (cell_grown w5 SZ 0 (.int .i64 0)) (cell_grown _ SZ 1 (.int .i64 0))) (cell_grown _ SZ 2 (.int .i64 0))
          have HR9 := Lib.hid (((HRSZ.out.stored 0 (.int .i64 0)).stored 1 (.int .i64 0)).stored 2 (.int .i64 0))
          have HB9 := Lib.hid (HBW.out.grown g3 HBW.out.size (fun q hq => by injection hq with hq; have := HSZ.out; omega))
          clear g3
          go_wp2_with fail
          have y0 := HR9.out.cell (j := 0) (v := .int .i64 0) rfl
          have y1 := HR9.out.cell (j := 1) (v := .int .i64 0) rfl
          have y2 := HR9.out.cell (j := 2) (v := .int .i64 0) rfl
          exact bodyPost_ret (v := .tuple #[.agg #[.int .i64 0, .int .i64 0, .int .i64 0], .bool false]) (by simp [results, Tryd.results13, go_sem, y0, y1, y2]) rfl ⟨by rw [HE.out.1, HE.out.2]; rfl, HB9.out⟩
        | true =>
          rw [hm] at PB hISM
          rw [if_pos rfl, if_pos rfl, mastL_length] at PB
          simp only [Int.toNat_natCast] at PB
          have HPB := Lib.hid PB
          clear PB hm
          by_cases heq : mastL X0 X1 X2 = l
          · have hE1 : isM l = true := by rw [hISM, heq]; simp
            have hE2 := hPM hE1
            have HE := Lib.hid (And.intro hE1 hE2)
            have HQ : Hid (decide (mastL X0 X1 X2 = l) = true) := Lib.hid (decide_eq_true heq)
            clear hISM hPM hE1 hE2 heq
            go_wp2_with fail
            clear hwd hS9
            refine HPB.out.mono ?_
            rintro e w5 ⟨A5, c5, rfl, hN5⟩
            have PE := bequal_any hN5.rda (HRD4.out.below hN5.below) (mastL_length _ _ _).symm HN.out
            rw [HQ.out] at PE
            have HPE := Lib.hid PE
            have HRSZ := Lib.hid (HRS4.out.below hN5.below)
            have HBW := Lib.hid (below_then HBW4.out hN5.below)
            have q0 := (HR4.out.below hN5.below).cell (j := 0) (v := .int .i64 (X0 : Int)) rfl
            have q1 := (HR4.out.below hN5.below).cell (j := 1) (v := .int .i64 (X1 : Int)) rfl
            have q2 := (HR4.out.below hN5.below).cell (j := 2) (v := .int .i64 (X2 : Int)) rfl
            clear hN5 PE x0 x1 x2
            go_wp2_with fail
            refine HPE.out.mono ?_
            rintro e wx ⟨rfl, rfl⟩
            have z0 := HRSZ.out.cell (j := 0) (v := .int .i64 0) rfl
            have z1 := HRSZ.out.cell (j := 1) (v := .int .i64 0) rfl
            have z2 := HRSZ.out.cell (j := 2) (v := .int .i64 0) rfl
            have f0 := HRSZ.out.free 0
            have f1 := HRSZ.out.free 1
            have f2 := HRSZ.out.free 2
            have g3 := grown_trans (grown_trans (cell_grown w5 SZ 0 (.int .i64 (X0 : Int))) (cell_grown _ SZ 1 (.int .i64 (X1 : Int)))) (cell_grown _ SZ 2 (.int .i64 (X2 : Int)))
            have HR9 := Lib.hid (((HRSZ.out.stored 0 (.int .i64 (X0 : Int))).stored 1 (.int .i64 (X1 : Int))).stored 2 (.int .i64 (X2 : Int)))
            have HB9 := Lib.hid (HBW.out.grown g3 HBW.out.size (fun q hq => by injection hq with hq; have := HSZ.out; omega))
            clear g3
            go_wp2_with fail
            have y0 := HR9.out.cell (j := 0) (v := .int .i64 (X0 : Int)) rfl
            have y1 := HR9.out.cell (j := 1) (v := .int .i64 (X1 : Int)) rfl
            have y2 := HR9.out.cell (j := 2) (v := .int .i64 (X2 : Int)) rfl
            exact bodyPost_ret (v := .tuple #[.agg #[.int .i64 (X0 : Int), .int .i64 (X1 : Int), .int .i64 (X2 : Int)], .bool true]) (by simp [results, Tryd.results13, go_sem, y0, y1, y2]) rfl ⟨by rw [HE.out.1, HE.out.2], HB9.out⟩
          · have hE1 : isM l = false := by rw [hISM, decide_eq_false heq]; simp
            have hE2 : pM l = (0, 0, 0) := by unfold pM; rw [hE1]; rfl
            have HE := Lib.hid (And.intro hE1 hE2)
            have HQ : Hid (decide (mastL X0 X1 X2 = l) = false) := Lib.hid (decide_eq_false heq)
            clear hISM hPM hE1 hE2 heq
            go_wp2_with fail
            clear hwd hS9
            refine HPB.out.mono ?_
            rintro e w5 ⟨A5, c5, rfl, hN5⟩
            have PE := bequal_any hN5.rda (HRD4.out.below hN5.below) (mastL_length _ _ _).symm HN.out
            rw [HQ.out] at PE
            have HPE := Lib.hid PE
            have HRSZ := Lib.hid (HRS4.out.below hN5.below)
            have HBW := Lib.hid (below_then HBW4.out hN5.below)
            clear hN5 PE x0 x1 x2
            go_wp2_with fail
            refine HPE.out.mono ?_
            rintro e wx ⟨rfl, rfl⟩
            have z0 := HRSZ.out.cell (j := 0) (v := .int .i64 0) rfl
            have z1 := HRSZ.out.cell (j := 1) (v := .int .i64 0) rfl
            have z2 := HRSZ.out.cell (j := 2) (v := .int .i64 0) rfl
            have f0 := HRSZ.out.free 0
            have f1 := HRSZ.out.free 1
            have f2 := HRSZ.out.free 2
            have g3 := grown_trans (grown_trans (cell_grown w5 SZ 0 (.int .i64 0)) (cell_grown _ SZ 1 (.int .i64 0))) (cell_grown _ SZ 2 (.int .i64 0))
            have HR9 := Lib.hid (((HRSZ.out.stored 0 (.int .i64 0)).stored 1 (.int .i64 0)).stored 2 (.int .i64 0))
            have HB9 := Lib.hid (HBW.out.grown g3 HBW.out.size (fun q hq => by injection hq with hq; have := HSZ.out; omega))
            clear g3
            go_wp2_with fail
            have y0 := HR9.out.cell (j := 0) (v := .int .i64 0) rfl
            have y1 := HR9.out.cell (j := 1) (v := .int .i64 0) rfl
            have y2 := HR9.out.cell (j := 2) (v := .int .i64 0) rfl
            exact bodyPost_ret (v := .tuple #[.agg #[.int .i64 0, .int .i64 0, .int .i64 0], .bool false]) (by simp [results, Tryd.results13, go_sem, y0, y1, y2]) rfl ⟨by rw [HE.out.1, HE.out.2]; rfl, HB9.out⟩
  · have e1 : isM l = false := by
      cases hi : isM l with
      | false => rfl
      | true => exact absurd ((isM_iff l).1 hi).1 h40
    have e2 : pM l = (0, 0, 0) := by unfold pM; rw [e1]; rfl
    rw [e1, e2]
    have g1 : ((n : Int) != 40) = true := by simp [bne, hn]; omega
    have g2 : ((n : Int) == 40) = false := beq_eq_false_iff_ne.2 (by omega)
    have g3 : ¬ n = 40 := by omega
    clear h40 e1 e2 hn h hT
    go_enter Tryd.func13, Tryd.ntmps13
    go_wp2_with fail
    exact bodyPost_ret (v := .tuple #[.agg #[.int .i64 0, .int .i64 0, .int .i64 0], .bool false]) (by simp [results, Tryd.results13, go_sem]) rfl ⟨rfl, hb0⟩
end Go.Proofs.YtgelgjghmoddoaaDoor
