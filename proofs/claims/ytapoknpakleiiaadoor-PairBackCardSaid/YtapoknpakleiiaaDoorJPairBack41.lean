import Derived.Test.YtapoknpakleiiaaDoorJPairBack40
/- The contracts of package pair: cleared, Repair. -/
set_option linter.unusedVariables false
set_option linter.unusedSimpArgs false
namespace Go.Proofs.YtapoknpakleiiaaDoor
open Go.RowKit Go.Tm
set_option maxHeartbeats 400000
set_option maxRecDepth 100000
attribute [local go_sem ↓] Go.wp_at_zero Go.wp_at_succ

theorem blankB_no {b : List UInt8} {k : Nat} (hk : k < b.length) (h : b.getD k 0 ≠ 0) : blankB b = false := by
  rw [Bool.eq_false_iff]
  intro hall
  rw [blankB, List.all_eq_true] at hall
  apply h
  have h1 := hall (b[k]) (List.getElem_mem hk)
  rw [List.getD_eq_getElem?_getD, List.getElem?_eq_getElem hk]
  simpa using h1
theorem blankB_yes {b : List UInt8} (h : ∀ j, j < b.length → b.getD j 0 = 0) : blankB b = true := by
  rw [blankB, List.all_eq_true]
  intro x hx
  obtain ⟨k, hk, rfl⟩ := List.mem_iff_getElem.1 hx
  have := h k hk
  rw [List.getD_eq_getElem?_getD, List.getElem?_eq_getElem hk] at this
  simpa using this
theorem pairC_cases (s : DSt) (b : List UInt8) {s1 s2 : DSt} {e1 e2 : Int} (h1 : writeS s s.P (zeroL b.length) = s1) (h2 : syncS s1 false = s2) (f1 : writeE s s.P (zeroL b.length) = e1) (f2 : syncE s1 = e2) :
    pairC s b = if blankB b = true then (-1, 0, s) else if e1 ≠ 0 then (0, e1, s1) else if e2 ≠ 0 then (0, e2, s2) else (-1, 0, s2) := by
  unfold pairC
  rw [h1, f1, h2, f2]

set_option maxHeartbeats 2000000 in
theorem cleared_any {w : World} {χ : Col} {j p : Nat} {s : DSt} (hd : IsDisk w χ j p s) (ha : s.acts < 4611686018427387000) (hlo : s.loose.length < 4900000000000) {A : Option Addr} {c : Nat} {b : List UInt8} (hb : Rda w A c b) (hbl : b.length ≤ 200) {L : Nat} (hL : L = b.length) :
    Calls Tryd.prog 71 #[.pointer (some ⟨p, 0, none⟩), .slice A L c] w fun e w' => ∃ χ', e = .returned (.tuple #[.int .i64 (pairC s b).1, .int .i64 (pairC s b).2.1]) ∧ ActD w w' χ χ' j p (pairC s b).2.2 := by
  have HL := Lib.hid hL
  rw [← hL] at hbl
  obtain ⟨hj, hpw0, hpc⟩ := isDisk_pos hd
  obtain ⟨s1, h1⟩ : ∃ x, writeS s s.P (zeroL b.length) = x := ⟨_, rfl⟩
  obtain ⟨s2, h2⟩ : ∃ x, syncS s1 false = x := ⟨_, rfl⟩
  obtain ⟨e1, f1⟩ : ∃ x, writeE s s.P (zeroL b.length) = x := ⟨_, rfl⟩
  obtain ⟨e2, f2⟩ : ∃ x, syncE s1 = x := ⟨_, rfl⟩
  have HPC := Lib.hid (pairC_cases s b h1 h2 f1 f2)
  have a1 := writeS_some s s.P (zeroL b.length)
  rw [h1] at a1
  have HK1 : Hid (∀ (W : World) (B : Nat), Below w.heap.size w W → w.heap.size ≤ B → Rda W (some ⟨B, 0, none⟩) L (zeroL L) → Calls Tryd.prog 58 #[.pointer (some ⟨p, 0, none⟩), .slice (some ⟨B, 0, none⟩) L L] W fun e w' => ∃ χ', e = .returned (.int .i64 e1) ∧ IsDisk w' χ' j p s1 ∧ Touch w w' χ χ' j) := Lib.hid fun W B hB hBB hr => by
    have hx := paint_ext w.heap.size χ (0, 9)
    have := writePair_any (isDisk_below hd hx hB) (by omega) (by omega) hr (by rw [zeroL_length, HL.out] at *; omega) (fun a ha e => by injection ha with ha; subst ha; rw [paint_new hBB] at e; injection e with e; omega) (zeroL_length L).symm
    rw [HL.out, h1, f1] at this
    rw [HL.out]
    exact this.mono fun e w' ⟨χ', he, hD⟩ => ⟨χ', he, hD.disk, (Touch.of_below hx hB).trans hD.touch⟩
  have HK2 : Hid (∀ (W : World) (X : Col), IsDisk W X j p s1 → Touch w W χ X j → Calls Tryd.prog 59 #[.pointer (some ⟨p, 0, none⟩)] W fun e w' => ∃ χ', e = .returned (.int .i64 e2) ∧ ActD w w' χ χ' j p s2) := Lib.hid fun W X hD hT => by
    have := sync_any hD (by omega) (by omega)
    rw [h2, f2] at this
    exact this.mono fun e w' ⟨χ', he, hD'⟩ => ⟨χ', he, hD'.disk, hT.trans hD'.touch⟩
  have HD := Lib.hid (show ActD w w χ χ j p s from ⟨hd, Touch.of_below (Ext.refl _ _) (Below.refl _ _)⟩)
  clear a1 h1 h2 f1 f2 hd hpc hL
  go_enter Tryd.func71, Tryd.ntmps71
  go_wp2_with fail
  go_loopw [12] (fun i wr => ∃ k : Nat, k ≤ L ∧ i = .int .i64 k ∧ Hid (wr = w) ∧ Box (∀ j, j < k → b.getD j 0 = 0)) (fun i _ => L - (intOf i).toNat)
  case atStart => exact ⟨0, by omega, rfl, by first | exact Lib.hid rfl | exact Lib.hid trivial, ⟨fun j hj => by omega⟩⟩
  case round =>
    obtain ⟨k, hk, rfl, hww, hz⟩ := hrel
    have hww := hww.out
    subst hww
    by_cases hkt : k < L
    · obtain ⟨g, o, rfl, hcc⟩ := hb.cells (by rw [← HL.out]; omega)
      have hck := hcc k (by rw [← HL.out]; exact hkt)
      have m0 : (0 : Int) ≤ (k : Int) := by omega
      have m1 : (k : Int) < (L : Int) := by omega
      by_cases h0 : b.getD k 0 = 0
      · have hz2 : Box (∀ j, j < k + 1 → b.getD j 0 = 0) := ⟨fun j hj => by
          by_cases hjk : j < k
          · exact hz.out j hjk
          · rw [show j = k by omega]; exact h0⟩
        rw [h0] at hck
        have hck' : wr.cell? ⟨g, o + k, none⟩ = some (.int .u8 0) := hck
        clear hcc hck h0 hz hb
        go_wp2_with fail
        go_roundw
        case rel => exact ⟨k + 1, by omega, by go_num, by first | exact Lib.hid rfl | exact Lib.hid trivial, hz2⟩
        case measure => simp [intOf]; omega
      · have hbn := blankB_no (by rw [← HL.out]; exact hkt) h0
        have hxn : b.getD k 0 ≠ 0 := h0
        obtain ⟨X, hX⟩ : ∃ X : UInt8, b.getD k 0 = X := ⟨_, rfl⟩
        rw [hX] at hck hxn
        have hxi : ((X.toNat : Int) == 0) = false := by
          rw [beq_eq_false_iff_ne]
          intro h
          exact hxn (UInt8.toNat_inj.1 (by show X.toNat = 0; omega))
        clear hcc hX h0 hxn hz hb
        go_wp2_with (with_reducible refine wpList_make8 rfl _ _ rfl tU8 L rfl rfl rfl rfl (by omega) ?_)
        intro w1 hW hb1
        have hr := hW.rda (by rw [zeroL_length]; omega)
        rw [zeroL_length] at hr
        have HC := Lib.hid (HK1.out w1 _ hb1 (Nat.le_refl _) hr)
        clear hW hr hb1
        by_cases he : e1 = 0
        · have hee : (e1 != 0) = false := by simp [he]
          by_cases hf : e2 = 0
          · have hff : (e2 != 0) = false := by simp [hf]
            have HP : Hid (pairC s b = (-1, 0, s2)) := Lib.hid (by rw [HPC.out, if_neg (by rw [hbn]; decide), if_neg (by rw [he]; decide), if_neg (by rw [hf]; decide)])
            clear he hf hbn
            go_wp2_with fail
            refine HC.out.mono ?_
            rintro e w2 ⟨χ2, rfl, hD2, hT2⟩
            have HC2 := Lib.hid (HK2.out _ _ hD2 hT2)
            clear hD2 hT2
            go_wp2_with fail
            refine HC2.out.mono ?_
            rintro e w3 ⟨χ3, rfl, hD3⟩
            have HD3 := Lib.hid hD3
            clear hD3
            go_wp2_with fail
            go_ret2
            rw [HP.out]
            exact ⟨χ3, rfl, HD3.out⟩
          · have hff : (e2 != 0) = true := by rw [bne_iff_ne]; exact hf
            have HP : Hid (pairC s b = (0, e2, s2)) := Lib.hid (by rw [HPC.out, if_neg (by rw [hbn]; decide), if_neg (by rw [he]; decide), if_pos hf])
            clear he hf hbn
            go_wp2_with fail
            refine HC.out.mono ?_
            rintro e w2 ⟨χ2, rfl, hD2, hT2⟩
            have HC2 := Lib.hid (HK2.out _ _ hD2 hT2)
            clear hD2 hT2
            go_wp2_with fail
            refine HC2.out.mono ?_
            rintro e w3 ⟨χ3, rfl, hD3⟩
            have HD3 := Lib.hid hD3
            clear hD3
            go_wp2_with fail
            go_ret2
            rw [HP.out]
            exact ⟨χ3, rfl, HD3.out⟩
        · have hee : (e1 != 0) = true := by rw [bne_iff_ne]; exact he
          have HP : Hid (pairC s b = (0, e1, s1)) := Lib.hid (by rw [HPC.out, if_neg (by rw [hbn]; decide), if_pos he])
          clear he hbn
          go_wp2_with fail
          refine HC.out.mono ?_
          rintro e w2 ⟨χ2, rfl, hD2, hT2⟩
          have HD3 := Lib.hid (show ActD wr w2 χ χ2 j p s1 from ⟨hD2, hT2⟩)
          clear hD2 hT2
          go_wp2_with fail
          go_ret2
          rw [HP.out]
          exact ⟨χ2, rfl, HD3.out⟩
    · have hke : k = L := by omega
      have hby := blankB_yes (b := b) (fun j hj => hz.out j (by rw [hke, HL.out]; exact hj))
      have HP : Hid (pairC s b = (-1, 0, s)) := Lib.hid (by rw [HPC.out, if_pos hby])
      subst hke
      clear hby hz hb
      go_wp2_with fail
      go_ret2
      rw [HP.out]
      first | exact ⟨χ, rfl, HD.out⟩ | exact ⟨rfl, χ, HD.out⟩

theorem pairR_cases (s : DSt) {b c : List UInt8} {e0 pe e1 e2 : Int} {N : Nat} {s0 s1 s2 : DSt} (f0 : readE s s.P = e0) (h0 : actS s = s0) (hb : readV s s.P = b) (hp : ppE b s.P s.K = pe) (hN : ppN b s.P s.K = N) (hc : ppV b s.P s.K = c) (h1 : writeS s0 N c = s1) (f1 : writeE s0 N c = e1) (h2 : syncS s1 false = s2) (f2 : syncE s1 = e2) :
    pairR s = if e0 ≠ 0 then (0, e0, s0) else if pe ≠ 0 then pairC s0 b else if e1 ≠ 0 then (0, e1, s1) else if e2 ≠ 0 then (0, e2, s2) else ((N : Int), 0, s2) := by
  unfold pairR
  rw [f0, h0, hb, hp, hN, hc, f1, h1, f2, h2]
theorem readV_le {s : DSt} (ok : DOk s) (pl : Int) (hp : pl < (s.P : Int) + 3) : (readV s pl).length ≤ 200 := by
  unfold readV
  split
  · rename_i h
    have h1 := (ok.reads.getD (i := pl.toNat) (by omega)).2
    have h2 := sizeD_hi s.P s.K pl.toNat
    have h3 := ok.k1
    omega
  · simp
theorem ppOk_num {b : List UInt8} {pages slots : Int} (h : ppE b pages slots = 0) : ((ppN b pages slots : Nat) : Int) < pages ∧ (ppV b pages slots).length ≤ 152 ∧ (∀ l, b.length ≤ l → (ppV b pages slots).length ≤ l) := by
  unfold ppE at h
  unfold ppN ppV
  split at h
  · rename_i ho
    rw [if_pos ho, if_pos ho]
    have ho' := ho
    simp only [ppOk, Bool.and_eq_true, decide_eq_true_eq] at ho
    have hk := checkOk_num ho.1.1.1
    refine ⟨ho.1.1.2, ?_, fun l hl => by unfold pPage; rw [List.length_drop]; omega⟩
    have h1 := hk.2.2.1
    unfold bytesP at h1
    split at h1 <;> omega
  · cases h

set_option maxHeartbeats 4000000 in
theorem pRepair_any {w : World} {χ : Col} {j p : Nat} {s : DSt} (hT : Tb w) (hTc : (χ 0).1 ≠ j) (hd : IsDisk w χ j p s) (ha : s.acts < 4611686018427386000) (hlo : s.loose.length < 4800000000000) :
    Calls Tryd.prog 34 #[.pointer (some ⟨p, 0, none⟩)] w fun e w' => ∃ χ', e = .returned (.tuple #[.int .i64 (pairR s).1, .int .i64 (pairR s).2.1]) ∧ ActD w w' χ χ' j p (pairR s).2.2 := by
  obtain ⟨hj, hpw0, hpc⟩ := isDisk_pos hd
  have hok := isDisk_ok hd
  have PR := readPair_any hd (by omega) (0, 9)
  have hbl := readV_le hok (s.P : Int) (by omega)
  obtain ⟨x1, x2, _, _, _, x6, _⟩ := actS_same s
  have x7 := actS_acts s
  obtain ⟨b, hb⟩ : ∃ x, readV s s.P = x := ⟨_, rfl⟩
  obtain ⟨e0, f0⟩ : ∃ x, readE s s.P = x := ⟨_, rfl⟩
  obtain ⟨s0, h0⟩ : ∃ x, actS s = x := ⟨_, rfl⟩
  obtain ⟨pe, hpe⟩ : ∃ x, ppE b s.P s.K = x := ⟨_, rfl⟩
  obtain ⟨N, hN⟩ : ∃ x, ppN b s.P s.K = x := ⟨_, rfl⟩
  obtain ⟨cv, hcv⟩ : ∃ x, ppV b s.P s.K = x := ⟨_, rfl⟩
  obtain ⟨s1, h1⟩ : ∃ x, writeS s0 N cv = x := ⟨_, rfl⟩
  obtain ⟨e1, f1⟩ : ∃ x, writeE s0 N cv = x := ⟨_, rfl⟩
  obtain ⟨s2, h2⟩ : ∃ x, syncS s1 false = x := ⟨_, rfl⟩
  obtain ⟨e2, f2⟩ : ∃ x, syncE s1 = x := ⟨_, rfl⟩
  have hpr := pairR_cases s f0 h0 hb hpe hN hcv h1 f1 h2 f2
  rw [hb, f0, h0] at PR
  rw [hb] at hbl
  rw [h0] at x1 x2 x6 x7
  obtain ⟨BL, hBL⟩ : ∃ BL, b.length = BL := ⟨_, rfl⟩
  have HBL := Lib.hid hBL
  rw [hBL] at PR hbl
  have HPR := Lib.hid PR
  have HRR := Lib.hid hpr
  have HX : Hid (s0.P = s.P ∧ s0.K = s.K) := Lib.hid ⟨x1, x2⟩
  have HSH : Hid (∀ (W : World) (X : Col), IsDisk W X j p s0 → Calls Tryd.prog 55 #[.pointer (some ⟨p, 0, none⟩)] W fun e w' => e = .returned (.agg #[.int .i64 s.P, .int .i64 s.K, .int .i64 s.M]) ∧ Below W.heap.size W w') := Lib.hid fun W X hD => by
    have := shape_any hD
    rw [HX.out.1, HX.out.2, show s0.M = s.M by rw [← h0]; exact (actS_same s).2.2.1] at this
    exact this
  have HPA : Hid (∀ (W : World) (A : Option Addr) (c : Nat), Tb W → Rda W A c b → Calls Tryd.prog 20 #[.slice A BL c, .int .i64 s.P, .int .i64 s.K] W fun e w' => ∃ A' c', e = .returned (.tuple #[.int .i64 (N : Nat), .slice A' cv.length c', .int .i64 pe]) ∧ New 5 W w' A' c' cv) := Lib.hid fun W A c hT hr => by
    have := pParse_any hT hr HBL.out.symm (by rw [HBL.out]; omega) s.P s.K
    rwa [hN, hcv, hpe] at this
  have HCL : Hid (∀ (W : World) (X : Col) (A : Option Addr) (c : Nat), IsDisk W X j p s0 → Rda W A c b → Calls Tryd.prog 71 #[.pointer (some ⟨p, 0, none⟩), .slice A BL c] W fun e w' => ∃ χ', e = .returned (.tuple #[.int .i64 (pairC s0 b).1, .int .i64 (pairC s0 b).2.1]) ∧ ActD W w' X χ' j p (pairC s0 b).2.2) := Lib.hid fun W X A c hD hr => cleared_any hD (by omega) (by rw [x6]; omega) hr (by rw [HBL.out]; omega) HBL.out.symm
  have HW : Hid (pe = 0 → ∀ (W : World) (X : Col) (A : Option Addr) (c : Nat), IsDisk W X j p s0 → Rda W A c cv → (∀ a, A = some a → X a.block ≠ (j, 1)) → Calls Tryd.prog 61 #[.pointer (some ⟨p, 0, none⟩), .int .i64 (N : Nat), .slice A cv.length c] W fun e w' => ∃ χ', e = .returned (.int .i64 e1) ∧ ActD W w' X χ' j p s1) := Lib.hid fun hz W X A c hD hr hA => by
    have hn := ppOk_num (b := b) (pages := s.P) (slots := s.K) (by rw [hpe]; exact hz)
    rw [hN, hcv] at hn
    have := writePage_any hD (by omega) (by rw [x6]; omega) (N : Nat) hr (by omega) hA rfl
    rwa [show pageI s0.P ((N : Nat) : Int) = (N : Int) from if_pos ⟨by omega, by rw [HX.out.1]; exact hn.1⟩, h1, f1] at this
  have a1 := writeS_some s0 N cv
  rw [h1] at a1
  have HS : Hid (∀ (W : World) (X : Col), IsDisk W X j p s1 → Calls Tryd.prog 59 #[.pointer (some ⟨p, 0, none⟩)] W fun e w' => ∃ χ', e = .returned (.int .i64 e2) ∧ ActD W w' X χ' j p s2) := Lib.hid fun W X hD => by
    have := sync_any hD (by omega) (by rw [x6] at a1; omega)
    rwa [h2, f2] at this
  have HT := Lib.hid hT
  have HTC := Lib.hid hTc
  have HJ := Lib.hid hj
  clear a1 hpr x1 x2 x6 x7 PR h1 f1 h2 f2 hcv hN hpe h0 f0 hb hBL hd hok hpc hT hTc hj
  by_cases he0 : e0 = 0
  · have he0' : (e0 != 0) = false := by simp [he0]
    by_cases hpz : pe = 0
    · have hpz' : (pe != 0) = false := by simp [hpz]
      have HW1 := Lib.hid (HW.out hpz)
      have HR1 : Hid (pairR s = if e1 ≠ 0 then (0, e1, s1) else if e2 ≠ 0 then (0, e2, s2) else ((N : Int), 0, s2)) := Lib.hid (by rw [HRR.out, if_neg (by rw [he0]; decide), if_neg (by rw [hpz]; decide)])
      clear he0 hpz
      by_cases h1 : e1 = 0
      · have h1' : (e1 != 0) = false := by simp [h1]
        by_cases h2 : e2 = 0
        · have h2' : (e2 != 0) = false := by simp [h2]
          have HR2 : Hid (pairR s = ((N : Int), 0, s2)) := Lib.hid (by rw [HR1.out, if_neg (by rw [h1]; decide), if_neg (by rw [h2]; decide)])
          clear h1 h2
          go_enter Tryd.func34, Tryd.ntmps34
          go_wp2_with fail
          refine HPR.out.mono ?_
          rintro e w1 ⟨A1, c1', rfl, hD1⟩
          have HD1 := Lib.hid hD1
          have HS1 := Lib.hid (HSH.out w1 _ hD1.disk)
          clear hD1
          go_wp2_with fail
          refine HS1.out.mono ?_
          rintro e w2 ⟨rfl, hb2⟩
          have hba := (Below.refl w2.heap.size w2).alloc (Nat.le_refl _) (.cells #[.int .i64 s.P, .int .i64 s.K, .int .i64 s.M] 50)
          have hRS : RowC (w2.alloc (.cells #[.int .i64 s.P, .int .i64 s.K, .int .i64 s.M] 50)) w2.heap.size 50 [.int .i64 s.P, .int .i64 s.K, .int .i64 s.M] := heap_alloc_new _ _
          have z0 := hRS.cell (j := 0) (v := .int .i64 s.P) rfl
          have z1 := hRS.cell (j := 1) (v := .int .i64 s.K) rfl
          have hT3 := (tb_touch HT.out HD1.out.touch HTC.out).below (below_then hb2 hba)
          have HR3 := Lib.hid ((HD1.out.rda.below hb2).below hba)
          have HP3 := Lib.hid (HPA.out _ A1 c1' hT3 HR3.out)
          have HB3 := Lib.hid (below_then hb2 hba)
          clear hba hRS hb2 hT3
          go_wp2_with fail
          refine HP3.out.mono ?_
          rintro e w4 ⟨A4, c4, rfl, hN4⟩
          have hb4 := below_then HB3.out hN4.below
          have HR4 := Lib.hid (HR3.out.below hN4.below)
          have HD4 := Lib.hid (isDisk_below HD1.out.disk (paint_ext w1.heap.size _ (0, 9)) hb4)
          have HT4 := Lib.hid (HD1.out.touch.below (paint_ext w1.heap.size _ (0, 9)) hb4)
          have HN4 := Lib.hid hN4
          have HA4 : Hid (∀ a, A4 = some a → paint w1.heap.size (paint w.heap.size χ (0, 9)) (0, 9) a.block ≠ (j, 1)) := Lib.hid fun a ha' e => by
            subst ha'
            have h1 := World.ownsRow.lt HN4.out.own a.block rfl
            have h2 := HB3.out.size
            rw [paint_new (by omega)] at e
            injection e with e
            have := HJ.out
            omega
          clear hN4 hb4 z0 z1
          go_wp2_with fail
          refine (HW1.out w4 _ A4 c4 HD4.out HN4.out.rda HA4.out).mono ?_
          rintro e w5 ⟨χ5, rfl, hD5⟩
          have HD5 := Lib.hid hD5
          clear hD5
          have HS5 := Lib.hid (HS.out w5 _ HD5.out.disk)
          go_wp2_with fail
          refine HS5.out.mono ?_
          rintro e w6 ⟨χ6, rfl, hD6⟩
          have HF := Lib.hid (show ActD w w6 χ χ6 j p s2 from ⟨hD6.disk, (HT4.out.trans HD5.out.touch).trans hD6.touch⟩)
          clear hD6
          go_wp2_with fail
          go_ret2
          rw [HR2.out]
          first | exact ⟨χ6, rfl, HF.out⟩ | exact ⟨rfl, χ6, HF.out⟩
        · have h2' : (e2 != 0) = true := by rw [bne_iff_ne]; exact h2
          have HR2 : Hid (pairR s = (0, e2, s2)) := Lib.hid (by rw [HR1.out, if_neg (by rw [h1]; decide), if_pos h2])
          clear h1 h2
          go_enter Tryd.func34, Tryd.ntmps34
          go_wp2_with fail
          refine HPR.out.mono ?_
          rintro e w1 ⟨A1, c1', rfl, hD1⟩
          have HD1 := Lib.hid hD1
          have HS1 := Lib.hid (HSH.out w1 _ hD1.disk)
          clear hD1
          go_wp2_with fail
          refine HS1.out.mono ?_
          rintro e w2 ⟨rfl, hb2⟩
          have hba := (Below.refl w2.heap.size w2).alloc (Nat.le_refl _) (.cells #[.int .i64 s.P, .int .i64 s.K, .int .i64 s.M] 50)
          have hRS : RowC (w2.alloc (.cells #[.int .i64 s.P, .int .i64 s.K, .int .i64 s.M] 50)) w2.heap.size 50 [.int .i64 s.P, .int .i64 s.K, .int .i64 s.M] := heap_alloc_new _ _
          have z0 := hRS.cell (j := 0) (v := .int .i64 s.P) rfl
          have z1 := hRS.cell (j := 1) (v := .int .i64 s.K) rfl
          have hT3 := (tb_touch HT.out HD1.out.touch HTC.out).below (below_then hb2 hba)
          have HR3 := Lib.hid ((HD1.out.rda.below hb2).below hba)
          have HP3 := Lib.hid (HPA.out _ A1 c1' hT3 HR3.out)
          have HB3 := Lib.hid (below_then hb2 hba)
          clear hba hRS hb2 hT3
          go_wp2_with fail
          refine HP3.out.mono ?_
          rintro e w4 ⟨A4, c4, rfl, hN4⟩
          have hb4 := below_then HB3.out hN4.below
          have HR4 := Lib.hid (HR3.out.below hN4.below)
          have HD4 := Lib.hid (isDisk_below HD1.out.disk (paint_ext w1.heap.size _ (0, 9)) hb4)
          have HT4 := Lib.hid (HD1.out.touch.below (paint_ext w1.heap.size _ (0, 9)) hb4)
          have HN4 := Lib.hid hN4
          have HA4 : Hid (∀ a, A4 = some a → paint w1.heap.size (paint w.heap.size χ (0, 9)) (0, 9) a.block ≠ (j, 1)) := Lib.hid fun a ha' e => by
            subst ha'
            have h1 := World.ownsRow.lt HN4.out.own a.block rfl
            have h2 := HB3.out.size
            rw [paint_new (by omega)] at e
            injection e with e
            have := HJ.out
            omega
          clear hN4 hb4 z0 z1
          go_wp2_with fail
          refine (HW1.out w4 _ A4 c4 HD4.out HN4.out.rda HA4.out).mono ?_
          rintro e w5 ⟨χ5, rfl, hD5⟩
          have HD5 := Lib.hid hD5
          clear hD5
          have HS5 := Lib.hid (HS.out w5 _ HD5.out.disk)
          go_wp2_with fail
          refine HS5.out.mono ?_
          rintro e w6 ⟨χ6, rfl, hD6⟩
          have HF := Lib.hid (show ActD w w6 χ χ6 j p s2 from ⟨hD6.disk, (HT4.out.trans HD5.out.touch).trans hD6.touch⟩)
          clear hD6
          go_wp2_with fail
          go_ret2
          rw [HR2.out]
          first | exact ⟨χ6, rfl, HF.out⟩ | exact ⟨rfl, χ6, HF.out⟩
      · have h1' : (e1 != 0) = true := by rw [bne_iff_ne]; exact h1
        have HR2 : Hid (pairR s = (0, e1, s1)) := Lib.hid (by rw [HR1.out, if_pos h1])
        clear h1
        go_enter Tryd.func34, Tryd.ntmps34
        go_wp2_with fail
        refine HPR.out.mono ?_
        rintro e w1 ⟨A1, c1', rfl, hD1⟩
        have HD1 := Lib.hid hD1
        have HS1 := Lib.hid (HSH.out w1 _ hD1.disk)
        clear hD1
        go_wp2_with fail
        refine HS1.out.mono ?_
        rintro e w2 ⟨rfl, hb2⟩
        have hba := (Below.refl w2.heap.size w2).alloc (Nat.le_refl _) (.cells #[.int .i64 s.P, .int .i64 s.K, .int .i64 s.M] 50)
        have hRS : RowC (w2.alloc (.cells #[.int .i64 s.P, .int .i64 s.K, .int .i64 s.M] 50)) w2.heap.size 50 [.int .i64 s.P, .int .i64 s.K, .int .i64 s.M] := heap_alloc_new _ _
        have z0 := hRS.cell (j := 0) (v := .int .i64 s.P) rfl
        have z1 := hRS.cell (j := 1) (v := .int .i64 s.K) rfl
        have hT3 := (tb_touch HT.out HD1.out.touch HTC.out).below (below_then hb2 hba)
        have HR3 := Lib.hid ((HD1.out.rda.below hb2).below hba)
        have HP3 := Lib.hid (HPA.out _ A1 c1' hT3 HR3.out)
        have HB3 := Lib.hid (below_then hb2 hba)
        clear hba hRS hb2 hT3
        go_wp2_with fail
        refine HP3.out.mono ?_
        rintro e w4 ⟨A4, c4, rfl, hN4⟩
        have hb4 := below_then HB3.out hN4.below
        have HR4 := Lib.hid (HR3.out.below hN4.below)
        have HD4 := Lib.hid (isDisk_below HD1.out.disk (paint_ext w1.heap.size _ (0, 9)) hb4)
        have HT4 := Lib.hid (HD1.out.touch.below (paint_ext w1.heap.size _ (0, 9)) hb4)
        have HN4 := Lib.hid hN4
        have HA4 : Hid (∀ a, A4 = some a → paint w1.heap.size (paint w.heap.size χ (0, 9)) (0, 9) a.block ≠ (j, 1)) := Lib.hid fun a ha' e => by
          subst ha'
          have h1 := World.ownsRow.lt HN4.out.own a.block rfl
          have h2 := HB3.out.size
          rw [paint_new (by omega)] at e
          injection e with e
          have := HJ.out
          omega
        clear hN4 hb4 z0 z1
        go_wp2_with fail
        refine (HW1.out w4 _ A4 c4 HD4.out HN4.out.rda HA4.out).mono ?_
        rintro e w5 ⟨χ5, rfl, hD5⟩
        have HD5 := Lib.hid hD5
        clear hD5
        have HF := Lib.hid (show ActD w w5 χ χ5 j p s1 from ⟨HD5.out.disk, HT4.out.trans HD5.out.touch⟩)
        go_wp2_with fail
        go_ret2
        rw [HR2.out]
        first | exact ⟨χ5, rfl, HF.out⟩ | exact ⟨rfl, χ5, HF.out⟩
    · have hpz' : (pe != 0) = true := by rw [bne_iff_ne]; exact hpz
      have HR1 : Hid (pairR s = pairC s0 b) := Lib.hid (by rw [HRR.out, if_neg (by rw [he0]; decide), if_pos hpz])
      clear he0 hpz
      obtain ⟨c1, hc1⟩ : ∃ x, (pairC s0 b).1 = x := ⟨_, rfl⟩
      obtain ⟨c2, hc2⟩ : ∃ x, (pairC s0 b).2.1 = x := ⟨_, rfl⟩
      obtain ⟨c3, hc3⟩ : ∃ x, (pairC s0 b).2.2 = x := ⟨_, rfl⟩
      rw [hc1, hc2, hc3] at HCL
      have HR2 : Hid (pairR s = (c1, c2, c3)) := Lib.hid (by rw [HR1.out, ← hc1, ← hc2, ← hc3])
      clear hc1 hc2 hc3
      go_enter Tryd.func34, Tryd.ntmps34
      go_wp2_with fail
      refine HPR.out.mono ?_
      rintro e w1 ⟨A1, c1', rfl, hD1⟩
      have HD1 := Lib.hid hD1
      have HS1 := Lib.hid (HSH.out w1 _ hD1.disk)
      clear hD1
      go_wp2_with fail
      refine HS1.out.mono ?_
      rintro e w2 ⟨rfl, hb2⟩
      have hba := (Below.refl w2.heap.size w2).alloc (Nat.le_refl _) (.cells #[.int .i64 s.P, .int .i64 s.K, .int .i64 s.M] 50)
      have hRS : RowC (w2.alloc (.cells #[.int .i64 s.P, .int .i64 s.K, .int .i64 s.M] 50)) w2.heap.size 50 [.int .i64 s.P, .int .i64 s.K, .int .i64 s.M] := heap_alloc_new _ _
      have z0 := hRS.cell (j := 0) (v := .int .i64 s.P) rfl
      have z1 := hRS.cell (j := 1) (v := .int .i64 s.K) rfl
      have hT3 := (tb_touch HT.out HD1.out.touch HTC.out).below (below_then hb2 hba)
      have HR3 := Lib.hid ((HD1.out.rda.below hb2).below hba)
      have HP3 := Lib.hid (HPA.out _ A1 c1' hT3 HR3.out)
      have HB3 := Lib.hid (below_then hb2 hba)
      clear hba hRS hb2 hT3
      go_wp2_with fail
      refine HP3.out.mono ?_
      rintro e w4 ⟨A4, c4, rfl, hN4⟩
      have hb4 := below_then HB3.out hN4.below
      have HR4 := Lib.hid (HR3.out.below hN4.below)
      have HD4 := Lib.hid (isDisk_below HD1.out.disk (paint_ext w1.heap.size _ (0, 9)) hb4)
      have HT4 := Lib.hid (HD1.out.touch.below (paint_ext w1.heap.size _ (0, 9)) hb4)
      have HN4 := Lib.hid hN4
      have HA4 : Hid (∀ a, A4 = some a → paint w1.heap.size (paint w.heap.size χ (0, 9)) (0, 9) a.block ≠ (j, 1)) := Lib.hid fun a ha' e => by
        subst ha'
        have h1 := World.ownsRow.lt HN4.out.own a.block rfl
        have h2 := HB3.out.size
        rw [paint_new (by omega)] at e
        injection e with e
        have := HJ.out
        omega
      clear hN4 hb4 z0 z1
      go_wp2_with fail
      refine (HCL.out w4 _ A1 c1' HD4.out HR4.out).mono ?_
      rintro e w5 ⟨χ5, rfl, hD5⟩
      have HF := Lib.hid (show ActD w w5 χ χ5 j p c3 from ⟨hD5.disk, HT4.out.trans hD5.touch⟩)
      clear hD5
      go_wp2_with fail
      go_ret2
      rw [HR2.out]
      first | exact ⟨χ5, rfl, HF.out⟩ | exact ⟨rfl, χ5, HF.out⟩
  · have he0' : (e0 != 0) = true := by rw [bne_iff_ne]; exact he0
    have HR1 : Hid (pairR s = (0, e0, s0)) := Lib.hid (by rw [HRR.out, if_pos he0])
    clear he0
    go_enter Tryd.func34, Tryd.ntmps34
    go_wp2_with fail
    refine HPR.out.mono ?_
    rintro e w1 ⟨A1, c1', rfl, hD1⟩
    have HF := Lib.hid (show ActD w w1 χ (paint w.heap.size χ (0, 9)) j p s0 from ⟨hD1.disk, hD1.touch⟩)
    clear hD1
    go_wp2_with fail
    go_ret2
    rw [HR1.out]
    first | exact ⟨_, rfl, HF.out⟩ | exact ⟨rfl, _, HF.out⟩
end Go.Proofs.YtapoknpakleiiaaDoor
