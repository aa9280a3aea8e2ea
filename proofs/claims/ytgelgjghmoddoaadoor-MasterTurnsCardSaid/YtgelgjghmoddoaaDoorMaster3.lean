import Derived.Test.YtgelgjghmoddoaaDoorMaster2
import Derived.Test.YtgelgjghmoddoaaDoorMasterPure2
import Derived.Test.YtgelgjghmoddoaaDoorDisk14
/- The contracts of package master: Newest. -/
set_option linter.unusedVariables false
set_option linter.unusedSimpArgs false
namespace Go.Proofs.YtgelgjghmoddoaaDoor
open Go.RowKit Go.Tm
set_option maxHeartbeats 400000
set_option maxRecDepth 100000
attribute [local go_sem ↓] Go.wp_at_zero Go.wp_at_succ

def vM (x : Nat × Nat × Nat) : List Value := [.int .i64 (x.1 : Int), .int .i64 (x.2.1 : Int), .int .i64 (x.2.2 : Int)]
theorem IsDisk.below' {w w' : World} {χ χ' : Col} {j p : Nat} {s : DSt} (h : IsDisk w χ j p s) (hx : Ext w.heap.size χ χ') (hb : Below w.heap.size w w') : IsDisk w' χ' j p s := by
  obtain ⟨q, h⟩ := h
  exact ⟨q, h.below hx hb⟩
theorem IsDisk.touch' {w w' : World} {χ χ' : Col} {j i p : Nat} {s : DSt} (h : IsDisk w χ j p s) (ht : Touch w w' χ χ' i) (hij : i ≠ j) (hi : 0 < i) : IsDisk w' χ' j p s := by
  obtain ⟨q, h⟩ := h
  exact ⟨q, h.ext ht.ext fun x hx hc => ht.kept.block x hx (fun e => by have e' : (χ x).1 = i := e; rcases hc with hc | hc <;> omega)⟩
theorem IsDisk.ok' {w : World} {χ : Col} {j p : Nat} {s : DSt} (h : IsDisk w χ j p s) : DOk s := by
  obtain ⟨q, h⟩ := h
  exact h.ok
theorem touch_row' {w w' : World} {χ : Col} {j r : Nat} (hg : w.grownBy w' (some r)) (hr : (χ r).1 = j) : Touch w w' χ χ j :=
  ⟨⟨hg.os, hg.tape, hg.output, hg.size, fun k hk hn => hg.block k hk (fun e => hn (by injection e with e; rw [e]; exact hr))⟩, Ext.refl _ _⟩
/-- A block of another colour. -/
theorem rowc_touched {w w' : World} {χ χ' : Col} {i b : Nat} {T : TypeId} {cs : List Value} (h : RowC w b T cs) (ht : Touch w w' χ χ' i) (hb : (χ b).1 ≠ i) : RowC w' b T cs := (ht.kept.block b h.lt hb).trans h
/-- The state of Newest's loop. -/
structure NwR (w wr : World) (χ χr : Col) (j p S2 S5 : Nat) (s : DSt) (cs : List Value) : Prop where
  disk : IsDisk wr χr j p s
  os : wr.os = w.os
  tape : wr.tape = w.tape
  output : wr.output = w.output
  size : w.heap.size ≤ wr.heap.size
  kept : ∀ k, k < w.heap.size → (χ k).1 ≠ j → wr.heap[k]? = w.heap[k]?
  ext : Ext w.heap.size χ χr
  r2 : RowC wr S2 23 [.int .i64 0, .int .i64 0, .int .i64 0]
  r5 : RowC wr S5 107 cs
  c2 : (χr S2).1 = j + 1 ∧ w.heap.size ≤ S2
  c5 : (χr S5).1 = j + 1 ∧ w.heap.size ≤ S5
theorem NwR.read {w wr w1 : World} {χ χr χ1 : Col} {j p S2 S5 : Nat} {s s1 : DSt} {cs : List Value} {A : Option Addr} {c : Nat} {b : List UInt8} (h : NwR w wr χ χr j p S2 S5 s cs) (hd : ReadD wr w1 χr χ1 j p s1 A c b) : NwR w w1 χ χ1 j p S2 S5 s1 cs := by
  have ht := hd.touch
  exact ⟨hd.disk, ht.kept.os.trans h.os, ht.kept.tape.trans h.tape, ht.kept.output.trans h.output, Nat.le_trans h.size ht.kept.size,
    fun k hk hn => (ht.kept.block k (Nat.lt_of_lt_of_le hk h.size) (fun e => hn (by rw [← h.ext k hk]; exact e))).trans (h.kept k hk hn), h.ext.trans ht.ext h.size,
    rowc_touched h.r2 ht (by rw [h.c2.1]; omega), rowc_touched h.r5 ht (by rw [h.c5.1]; omega), ⟨by rw [ht.ext S2 h.r2.lt]; exact h.c2.1, h.c2.2⟩, ⟨by rw [ht.ext S5 h.r5.lt]; exact h.c5.1, h.c5.2⟩⟩
theorem NwR.below {w wr w1 : World} {χ χr : Col} {j p S2 S5 : Nat} {s : DSt} {cs : List Value} (h : NwR w wr χ χr j p S2 S5 s cs) (hb : Below wr.heap.size wr w1) : NwR w w1 χ χr j p S2 S5 s cs :=
  ⟨h.disk.below' (Ext.refl _ _) hb, hb.os.trans h.os, hb.tape.trans h.tape, hb.output.trans h.output, Nat.le_trans h.size hb.size, fun k hk hn => (hb.block k (Nat.lt_of_lt_of_le hk h.size)).trans (h.kept k hk hn), h.ext, h.r2.below hb, h.r5.below hb, h.c2, h.c5⟩
theorem NwR.stored {w wr w1 : World} {χ χr : Col} {j p S2 S5 : Nat} {s : DSt} {cs cs' : List Value} (h : NwR w wr χ χr j p S2 S5 s cs) (hne : S2 ≠ S5) (hg : wr.grownBy w1 (some S5)) (hr : RowC w1 S5 107 cs') : NwR w w1 χ χr j p S2 S5 s cs' :=
  ⟨h.disk.touch' (touch_row' hg h.c5.1) (by omega) (by omega), hg.os.trans h.os, hg.tape.trans h.tape, hg.output.trans h.output, Nat.le_trans h.size hg.size, fun k hk hn => (hg.block k (Nat.lt_of_lt_of_le hk h.size) (fun e => by injection e with e; have := h.c5.2; omega)).trans (h.kept k hk hn), h.ext, h.r2.grown hg (fun e => hne (by injection e with e; exact e.symm)), hr, h.c2, h.c5⟩
theorem NwR.result {w wr w1 : World} {χ χr : Col} {j p S2 S5 : Nat} {s : DSt} {cs : List Value} (h : NwR w wr χ χr j p S2 S5 s cs) (hg : wr.grownBy w1 (some S2)) : ActD w w1 χ χr j p s :=
  ⟨h.disk.touch' (touch_row' hg h.c2.1) (by omega) (by omega), ⟨⟨hg.os.trans h.os, hg.tape.trans h.tape, hg.output.trans h.output, Nat.le_trans h.size hg.size, fun k hk hn => (hg.block k (Nat.lt_of_lt_of_le hk h.size) (fun e => by injection e with e; have := h.c2.2; omega)).trans (h.kept k hk hn)⟩, h.ext⟩⟩

set_option maxHeartbeats 4000000 in
theorem newest_any {w : World} {χ : Col} {j p : Nat} {s : DSt} (hT : Tb w) (hTc : (χ 0).1 ≠ j) (hd : IsDisk w χ j p s) (ha : s.acts < 4611686018427387000) :
    Calls Tryd.prog 23 #[.pointer (some ⟨p, 0, none⟩)] w fun e w' => ∃ χ', e = .returned (.tuple #[.agg #[.int .i64 ((newV s).1 : Nat), .int .i64 ((newV s).2.1 : Nat), .int .i64 ((newV s).2.2 : Nat)], .bool (newOk s), .int .i64 (newE s)]) ∧ ActD w w' χ χ' j p (newS s) := by
  have hb0 : Below w.heap.size w ((w.alloc (.cells #[.int .i64 0, .int .i64 0, .int .i64 0] 23)).alloc (.cells #[.int .i64 0, .int .i64 0, .int .i64 0, .int .i64 0, .int .i64 0, .int .i64 0] 107)) := ((Below.refl _ _).alloc (Nat.le_refl _) _).alloc (by simp) _
  have hr2 : RowC ((w.alloc (.cells #[.int .i64 0, .int .i64 0, .int .i64 0] 23)).alloc (.cells #[.int .i64 0, .int .i64 0, .int .i64 0, .int .i64 0, .int .i64 0, .int .i64 0] 107)) w.heap.size 23 [.int .i64 0, .int .i64 0, .int .i64 0] := (show RowC (w.alloc (.cells #[.int .i64 0, .int .i64 0, .int .i64 0] 23)) w.heap.size 23 [.int .i64 0, .int .i64 0, .int .i64 0] from heap_alloc_new _ _).below ((Below.refl _ _).alloc (Nat.le_refl _) _)
  have hr5 : RowC ((w.alloc (.cells #[.int .i64 0, .int .i64 0, .int .i64 0] 23)).alloc (.cells #[.int .i64 0, .int .i64 0, .int .i64 0, .int .i64 0, .int .i64 0, .int .i64 0] 107)) (w.heap.size + 1) 107 [.int .i64 0, .int .i64 0, .int .i64 0, .int .i64 0, .int .i64 0, .int .i64 0] := by
    have := heap_alloc_new (w.alloc (.cells #[.int .i64 0, .int .i64 0, .int .i64 0] 23)) (.cells #[.int .i64 0, .int .i64 0, .int .i64 0, .int .i64 0, .int .i64 0, .int .i64 0] 107)
    have hz : (w.alloc (.cells #[.int .i64 0, .int .i64 0, .int .i64 0] 23)).heap.size = w.heap.size + 1 := by simp
    rw [hz] at this
    exact this
  have hx0 := paint_ext w.heap.size χ (j + 1, 7)
  have h0 : NwR w ((w.alloc (.cells #[.int .i64 0, .int .i64 0, .int .i64 0] 23)).alloc (.cells #[.int .i64 0, .int .i64 0, .int .i64 0, .int .i64 0, .int .i64 0, .int .i64 0] 107)) χ (paint w.heap.size χ (j + 1, 7)) j p w.heap.size (w.heap.size + 1) s [.int .i64 0, .int .i64 0, .int .i64 0, .int .i64 0, .int .i64 0, .int .i64 0] :=
    ⟨hd.below' hx0 hb0, hb0.os, hb0.tape, hb0.output, hb0.size, fun k hk _ => hb0.block k hk, hx0, hr2, hr5, ⟨by rw [paint_new (Nat.le_refl _)], Nat.le_refl _⟩, ⟨by rw [paint_new (by omega)], by omega⟩⟩
  have hgT : 0 < w.heap.size := World.block_lt_of_cell? w _ (hT.at_ 0 (by omega))
  have HTB : Hid (∀ wr χr S2 S5 s' cs, NwR w wr χ χr j p S2 S5 s' cs → Tb wr) := Lib.hid fun wr χr S2 S5 s' cs h => ⟨fun i hi => (World.cell?_of_block (h.kept _ hgT hTc)).trans (hT.at_ i hi)⟩
  obtain ⟨w0, hw0⟩ : ∃ w0, ((w.alloc (.cells #[.int .i64 0, .int .i64 0, .int .i64 0] 23)).alloc (.cells #[.int .i64 0, .int .i64 0, .int .i64 0, .int .i64 0, .int .i64 0, .int .i64 0] 107)) = w0 := ⟨_, rfl⟩
  rw [hw0] at h0
  obtain ⟨S2, hS2⟩ : ∃ S2, w.heap.size = S2 := ⟨_, rfl⟩
  rw [hS2] at h0
  have H0 := Lib.hid h0
  have HA := Lib.hid ha
  have hP1 := hd.ok'.p1
  have hm0 : masterI s.P 0 = ((s.P + 1 : Nat) : Int) := by unfold masterI; rw [if_pos (by omega)]; omega
  have hm1 : masterI s.P 1 = ((s.P + 2 : Nat) : Int) := by unfold masterI; rw [if_pos (by omega)]; omega
  obtain ⟨b0, hbb0⟩ : ∃ b0, s.reads.getD (s.P + 1) [] = b0 := ⟨_, rfl⟩
  obtain ⟨b1, hbb1⟩ : ∃ b1, s.reads.getD (s.P + 2) [] = b1 := ⟨_, rfl⟩
  have hl40 : b0.length = 40 ∧ b1.length = 40 := by
    have h1 := (hd.ok'.reads.getD (show s.P + 1 < s.P + 3 by omega)).2
    have h2 := (hd.ok'.reads.getD (show s.P + 2 < s.P + 3 by omega)).2
    rw [hbb0] at h1
    rw [hbb1] at h2
    unfold sizeD at h1 h2
    rw [if_neg (by omega), if_neg (by omega)] at h1 h2
    exact ⟨h1, h2⟩
  have HL40 := Lib.hid hl40
  have HR0 : Hid (readV s (masterI s.P 0) = (if actB s = true then b0 else []) ∧ readE s (masterI s.P 0) = (if actB s = true then 0 else 1)) := Lib.hid (by
    rw [hm0]
    unfold readV readE
    cases actB s
    · exact ⟨rfl, rfl⟩
    · refine ⟨?_, ?_⟩
      · rw [if_pos ⟨rfl, by omega⟩, if_pos rfl, Int.toNat_natCast, hbb0]
      · rw [if_neg (by decide), if_neg (by omega), if_pos rfl])
  have HR1 : Hid (readV (actS s) (masterI (actS s).P 1) = (if actB (actS s) = true then b1 else []) ∧ readE (actS s) (masterI (actS s).P 1) = (if actB (actS s) = true then 0 else 1)) := Lib.hid (by
    rw [(actS_same s).1, hm1]
    unfold readV readE
    rw [(actS_same s).2.2.2.2.1]
    cases actB (actS s)
    · exact ⟨rfl, rfl⟩
    · refine ⟨?_, ?_⟩
      · rw [if_pos ⟨rfl, by omega⟩, if_pos rfl, Int.toNat_natCast, hbb1]
      · rw [if_neg (by decide), if_neg (by omega), if_pos rfl])
  have HNE : Hid (newE s = (if actB s = false then 1 else if actB (actS s) = false then 1 else 0)) := Lib.hid rfl
  have HNS : Hid (newS s = (if actB s = false then actS s else actS (actS s))) := Lib.hid rfl
  have HNV : Hid (newV s = (if newE s = 0 then selM (halfM 0 b0) (halfM 1 b1) else (0, 0, 0))) := Lib.hid (by unfold newV; rw [hbb0, hbb1])
  have HOK : Hid (newOk s = !decide (newV s = (0, 0, 0))) := Lib.hid rfl
  have HA1 : Hid ((actS s).acts < 4611686018427387904) := Lib.hid (by unfold actS; split <;> (dsimp only; omega))
  obtain ⟨NV, hNV⟩ : ∃ NV, newV s = NV := ⟨_, rfl⟩
  obtain ⟨NE, hNE⟩ : ∃ NE, newE s = NE := ⟨_, rfl⟩
  obtain ⟨NS, hNS⟩ : ∃ NS, newS s = NS := ⟨_, rfl⟩
  obtain ⟨NO, hNO⟩ : ∃ NO, newOk s = NO := ⟨_, rfl⟩
  rw [hNV, hNE] at HNV
  rw [hNE] at HNE
  rw [hNS] at HNS
  rw [hNO, hNV] at HOK
  rw [hNV, hNE, hNS, hNO]
  clear hb0 hr2 hr5 hx0 h0 hgT hT hTc hd ha hbb0 hbb1 hm0 hm1 hl40 hP1 hNV hNE hNS hNO
  go_enter Tryd.func23, Tryd.ntmps23
  go_wp2_with fail
  have HS2 := Lib.hid hS2
  clear hS2 hw0
  go_loopw [12] (fun i wr => ∃ (k : Nat) (χr : Col), k ≤ 2 ∧ i = .int .i64 k ∧ NwR w wr χ χr j p S2 (S2 + 1) (if k = 0 then s else if k = 1 then actS s else actS (actS s)) (vM (if 0 < k then halfM 0 b0 else (0, 0, 0)) ++ vM (if 1 < k then halfM 1 b1 else (0, 0, 0))) ∧ (0 < k → actB s = true) ∧ (1 < k → actB (actS s) = true)) (fun i _ => 2 - (intOf i).toNat)
  case atStart => exact ⟨0, _, by omega, rfl, H0.out, fun h => by omega, fun h => by omega⟩
  case round =>
    obtain ⟨k, χr, hk, rfl, hI, hq0, hq1⟩ := hrel
    obtain ⟨wo, rfl⟩ : ∃ wo : World, wo = wr := ⟨_, rfl⟩
    have hkc : k = 0 ∨ k = 1 ∨ k = 2 := by omega
    rcases hkc with rfl | rfl | rfl
    · have hI : NwR w wo χ χr j p S2 (S2 + 1) s (vM (0, 0, 0) ++ vM (0, 0, 0)) := hI
      have PR := readMaster_any hI.disk (by have := HA.out; omega) 0 (j + 1, 8)
      rw [HR0.out.1, HR0.out.2] at PR
      have HI := Lib.hid hI
      have HQ0 := Lib.hid hq0
      clear hI hq0 hq1
      cases hact : actB s with
      | false =>
        rw [hact, if_neg (by decide), if_neg (by decide), List.length_nil] at PR
        have hv : NE = 1 ∧ NS = actS s := by
          refine ⟨?_, ?_⟩
          · rw [HNE.out, hact, if_pos rfl]
          · rw [HNS.out, hact, if_pos rfl]
        have hnv : NV = (0, 0, 0) := by rw [HNV.out, hv.1]; rfl
        have hno : NO = false := by rw [HOK.out, hnv]; rfl
        have HV := Lib.hid (And.intro hv.1 (And.intro hv.2 (And.intro hnv hno)))
        have HPR := Lib.hid PR
        clear PR hv hnv hno hact
        go_wp2_with fail
        refine HPR.out.mono ?_
        rintro e w1 ⟨A1, c1, rfl, D1⟩
        have hI1 := HI.out.read D1
        have HI1 := Lib.hid hI1
        have z0 := hI1.r2.cell (j := 0) (v := .int .i64 0) rfl
        have z1 := hI1.r2.cell (j := 1) (v := .int .i64 0) rfl
        have z2 := hI1.r2.cell (j := 2) (v := .int .i64 0) rfl
        have f0 := hI1.r2.free 0
        have f1 := hI1.r2.free 1
        have f2 := hI1.r2.free 2
        have g3 := grown_trans (grown_trans (cell_grown w1 S2 0 (.int .i64 0)) (cell_grown _ S2 1 (.int .i64 0))) (cell_grown _ S2 2 (.int .i64 0))
        have HR9 := Lib.hid (((hI1.r2.stored 0 (.int .i64 0)).stored 1 (.int .i64 0)).stored 2 (.int .i64 0))
        have HF := Lib.hid (hI1.result g3)
        clear D1 hI1 g3
        go_wp2_with fail
        have y0 := HR9.out.cell (j := 0) (v := .int .i64 0) rfl
        have y1 := HR9.out.cell (j := 1) (v := .int .i64 0) rfl
        have y2 := HR9.out.cell (j := 2) (v := .int .i64 0) rfl
        exact bodyPost_ret (v := .tuple #[.agg #[.int .i64 0, .int .i64 0, .int .i64 0], .bool false, .int .i64 1]) (by simp [results, Tryd.results23, go_sem, y0, y1, y2]) rfl ⟨_, by rw [HV.out.1, HV.out.2.2.1, HV.out.2.2.2]; rfl, by rw [HV.out.2.1]; exact HF.out⟩
      | true =>
        rw [hact, if_pos rfl, if_pos rfl, HL40.out.1] at PR
        have HACT := Lib.hid hact
        have HPR := Lib.hid PR
        clear PR hact
        go_wp2_with fail
        refine HPR.out.mono ?_
        rintro e w1 ⟨A1, c1, rfl, D1⟩
        have hI1 := HI.out.read D1
        have PP := mparse_any (HTB.out _ _ _ _ _ _ hI1) D1.rda (n := 40) HL40.out.1.symm (by rw [HL40.out.1]; omega)
        obtain ⟨X0, hX0⟩ : ∃ X, (pM b0).1 = X := ⟨_, rfl⟩
        obtain ⟨X1, hX1⟩ : ∃ X, (pM b0).2.1 = X := ⟨_, rfl⟩
        obtain ⟨X2, hX2⟩ : ∃ X, (pM b0).2.2 = X := ⟨_, rfl⟩
        have hpm : pM b0 = (X0, X1, X2) := by rw [← hX0, ← hX1, ← hX2]
        rw [hX0, hX1, hX2] at PP
        have HI1 := Lib.hid hI1
        have HPM := Lib.hid hpm
        have x00 : (0 : Int) ≤ (X0 : Int) := by omega
        clear hI1 D1 hX0 hX1 hX2 hpm
        cases hism : isM b0 with
        | false =>
          rw [hism] at PP
          have HH := Lib.hid (halfM_no1 (k := 0) hism)
          have HPP := Lib.hid PP
          clear PP hism
          go_wp2_with fail
          refine HPP.out.mono ?_
          rintro e w2 ⟨rfl, hb2⟩
          have hb3 := (Below.refl w2.heap.size w2).alloc (Nat.le_refl _) (.cells #[.int .i64 (X0 : Int), .int .i64 (X1 : Int), .int .i64 (X2 : Int)] 23)
          have HI3 := Lib.hid ((HI1.out.below hb2).below hb3)
          clear hb2 hb3
          go_wp2_with fail
          go_roundw
          case rel => exact ⟨1, _, by omega, by go_num, (show NwR w _ χ _ j p S2 (S2 + 1) (actS s) (vM (halfM 0 b0) ++ vM (0, 0, 0)) by rw [HH.out]; exact HI3.out), (by first | exact fun _ => trivial | exact fun _ => HACT.out), fun h => by omega⟩
          case measure => simp [intOf]
        | true =>
          rw [hism] at PP
          have HPP := Lib.hid PP
          have hb9 : X0 % 2 = 0 ∨ X0 % 2 ≠ 0 := by omega
          rcases hb9 with hmd | hmd
          · have m1 : ((X0 : Int) % 2 == 0) = true := beq_iff_eq.2 (by omega)
            have m2 : (X0 : Int) % 2 = 0 := by omega
            have HH : Hid (halfM 0 b0 = (X0, X1, X2)) := Lib.hid (by rw [halfM_yes hism (by rw [HPM.out]; exact hmd), HPM.out])
            clear PP hism hmd
            go_wp2_with fail
            refine HPP.out.mono ?_
            rintro e w2 ⟨rfl, hb2⟩
            have hb3 := (Below.refl w2.heap.size w2).alloc (Nat.le_refl _) (.cells #[.int .i64 (X0 : Int), .int .i64 (X1 : Int), .int .i64 (X2 : Int)] 23)
            have hR9 : RowC (w2.alloc (.cells #[.int .i64 (X0 : Int), .int .i64 (X1 : Int), .int .i64 (X2 : Int)] 23)) w2.heap.size 23 [.int .i64 (X0 : Int), .int .i64 (X1 : Int), .int .i64 (X2 : Int)] := heap_alloc_new _ _
            have hI3 := (HI1.out.below hb2).below hb3
            obtain ⟨w3, hw3⟩ : ∃ w3, w2.alloc (.cells #[.int .i64 (X0 : Int), .int .i64 (X1 : Int), .int .i64 (X2 : Int)] 23) = w3 := ⟨_, rfl⟩
            rw [hw3] at hI3 hR9
            obtain ⟨S9, hS9⟩ : ∃ S9, w2.heap.size = S9 := ⟨_, rfl⟩
            rw [hS9] at hR9
            have q0 := hR9.cell (j := 0) (v := .int .i64 (X0 : Int)) rfl
            have q1 := hR9.cell (j := 1) (v := .int .i64 (X1 : Int)) rfl
            have q2 := hR9.cell (j := 2) (v := .int .i64 (X2 : Int)) rfl
            have t0 := hI3.r5.cell (j := 0) (v := .int .i64 0) rfl
            have t1 := hI3.r5.cell (j := 1) (v := .int .i64 0) rfl
            have t2 := hI3.r5.cell (j := 2) (v := .int .i64 0) rfl
            have f0 := hI3.r5.free 0
            have f1 := hI3.r5.free 1
            have f2 := hI3.r5.free 2
            have g3 := grown_trans (grown_trans (cell_grown w3 (S2 + 1) 0 (.int .i64 (X0 : Int))) (cell_grown _ (S2 + 1) 1 (.int .i64 (X1 : Int)))) (cell_grown _ (S2 + 1) 2 (.int .i64 (X2 : Int)))
            have r9 := ((hI3.r5.stored 0 (.int .i64 (X0 : Int))).stored 1 (.int .i64 (X1 : Int))).stored 2 (.int .i64 (X2 : Int))
            have HI9 : Hid (NwR w _ χ _ j p S2 (S2 + 1) (actS s) (vM (halfM 0 b0) ++ vM (0, 0, 0))) := Lib.hid (hI3.stored (by omega) g3 (by rw [HH.out]; exact r9))
            clear hb2 hb3 hI3 hR9 g3 r9
            go_wp2_with fail
            clear hw3 hS9
            go_roundw
            case rel => exact ⟨1, _, by omega, by go_num, HI9.out, (by first | exact fun _ => trivial | exact fun _ => HACT.out), fun h => by omega⟩
            case measure => simp [intOf]
          · have m1 : ((X0 : Int) % 2 == 0) = false := beq_eq_false_iff_ne.2 (by omega)
            have m2 : ¬ (X0 : Int) % 2 = 0 := by omega
            have HH : Hid (halfM 0 b0 = (0, 0, 0)) := Lib.hid (halfM_no2 hism (by rw [HPM.out]; exact hmd))
            clear PP hism hmd
            go_wp2_with fail
            refine HPP.out.mono ?_
            rintro e w2 ⟨rfl, hb2⟩
            have hb3 := (Below.refl w2.heap.size w2).alloc (Nat.le_refl _) (.cells #[.int .i64 (X0 : Int), .int .i64 (X1 : Int), .int .i64 (X2 : Int)] 23)
            have hR9 : RowC (w2.alloc (.cells #[.int .i64 (X0 : Int), .int .i64 (X1 : Int), .int .i64 (X2 : Int)] 23)) w2.heap.size 23 [.int .i64 (X0 : Int), .int .i64 (X1 : Int), .int .i64 (X2 : Int)] := heap_alloc_new _ _
            have q0 := hR9.cell (j := 0) (v := .int .i64 (X0 : Int)) rfl
            have HI3 := Lib.hid ((HI1.out.below hb2).below hb3)
            clear hb2 hb3 hR9
            go_wp2_with fail
            go_roundw
            case rel => exact ⟨1, _, by omega, by go_num, (show NwR w _ χ _ j p S2 (S2 + 1) (actS s) (vM (halfM 0 b0) ++ vM (0, 0, 0)) by rw [HH.out]; exact HI3.out), (by first | exact fun _ => trivial | exact fun _ => HACT.out), fun h => by omega⟩
            case measure => simp [intOf]
    · have hI : NwR w wo χ χr j p S2 (S2 + 1) (actS s) (vM (halfM 0 b0) ++ vM (0, 0, 0)) := hI
      have PR := readMaster_any hI.disk HA1.out 1 (j + 1, 8)
      rw [HR1.out.1, HR1.out.2] at PR
      have HI := Lib.hid hI
      have HQ0 := Lib.hid hq0
      clear hI hq0 hq1
      cases hact : actB (actS s) with
      | false =>
        rw [hact, if_neg (by decide), if_neg (by decide), List.length_nil] at PR
        have hv : NE = 1 ∧ NS = actS (actS s) := by
          refine ⟨?_, ?_⟩
          · rw [HNE.out, HQ0.out (by omega), if_neg (by decide), hact, if_pos rfl]
          · rw [HNS.out, HQ0.out (by omega), if_neg (by decide)]
        have hnv : NV = (0, 0, 0) := by rw [HNV.out, hv.1]; rfl
        have hno : NO = false := by rw [HOK.out, hnv]; rfl
        have HV := Lib.hid (And.intro hv.1 (And.intro hv.2 (And.intro hnv hno)))
        have HPR := Lib.hid PR
        clear PR hv hnv hno hact
        go_wp2_with fail
        refine HPR.out.mono ?_
        rintro e w1 ⟨A1, c1, rfl, D1⟩
        have hI1 := HI.out.read D1
        have HI1 := Lib.hid hI1
        have z0 := hI1.r2.cell (j := 0) (v := .int .i64 0) rfl
        have z1 := hI1.r2.cell (j := 1) (v := .int .i64 0) rfl
        have z2 := hI1.r2.cell (j := 2) (v := .int .i64 0) rfl
        have f0 := hI1.r2.free 0
        have f1 := hI1.r2.free 1
        have f2 := hI1.r2.free 2
        have g3 := grown_trans (grown_trans (cell_grown w1 S2 0 (.int .i64 0)) (cell_grown _ S2 1 (.int .i64 0))) (cell_grown _ S2 2 (.int .i64 0))
        have HR9 := Lib.hid (((hI1.r2.stored 0 (.int .i64 0)).stored 1 (.int .i64 0)).stored 2 (.int .i64 0))
        have HF := Lib.hid (hI1.result g3)
        clear D1 hI1 g3
        go_wp2_with fail
        have y0 := HR9.out.cell (j := 0) (v := .int .i64 0) rfl
        have y1 := HR9.out.cell (j := 1) (v := .int .i64 0) rfl
        have y2 := HR9.out.cell (j := 2) (v := .int .i64 0) rfl
        exact bodyPost_ret (v := .tuple #[.agg #[.int .i64 0, .int .i64 0, .int .i64 0], .bool false, .int .i64 1]) (by simp [results, Tryd.results23, go_sem, y0, y1, y2]) rfl ⟨_, by rw [HV.out.1, HV.out.2.2.1, HV.out.2.2.2]; rfl, by rw [HV.out.2.1]; exact HF.out⟩
      | true =>
        rw [hact, if_pos rfl, if_pos rfl, HL40.out.2] at PR
        have HACT := Lib.hid hact
        have HPR := Lib.hid PR
        clear PR hact
        go_wp2_with fail
        refine HPR.out.mono ?_
        rintro e w1 ⟨A1, c1, rfl, D1⟩
        have hI1 := HI.out.read D1
        have PP := mparse_any (HTB.out _ _ _ _ _ _ hI1) D1.rda (n := 40) HL40.out.2.symm (by rw [HL40.out.2]; omega)
        obtain ⟨X0, hX0⟩ : ∃ X, (pM b1).1 = X := ⟨_, rfl⟩
        obtain ⟨X1, hX1⟩ : ∃ X, (pM b1).2.1 = X := ⟨_, rfl⟩
        obtain ⟨X2, hX2⟩ : ∃ X, (pM b1).2.2 = X := ⟨_, rfl⟩
        have hpm : pM b1 = (X0, X1, X2) := by rw [← hX0, ← hX1, ← hX2]
        rw [hX0, hX1, hX2] at PP
        have HI1 := Lib.hid hI1
        have HPM := Lib.hid hpm
        have x00 : (0 : Int) ≤ (X0 : Int) := by omega
        clear hI1 D1 hX0 hX1 hX2 hpm
        cases hism : isM b1 with
        | false =>
          rw [hism] at PP
          have HH := Lib.hid (halfM_no1 (k := 1) hism)
          have HPP := Lib.hid PP
          clear PP hism
          go_wp2_with fail
          refine HPP.out.mono ?_
          rintro e w2 ⟨rfl, hb2⟩
          have hb3 := (Below.refl w2.heap.size w2).alloc (Nat.le_refl _) (.cells #[.int .i64 (X0 : Int), .int .i64 (X1 : Int), .int .i64 (X2 : Int)] 23)
          have HI3 := Lib.hid ((HI1.out.below hb2).below hb3)
          clear hb2 hb3
          go_wp2_with fail
          go_roundw
          case rel => exact ⟨2, _, by omega, by go_num, (show NwR w _ χ _ j p S2 (S2 + 1) (actS (actS s)) (vM (halfM 0 b0) ++ vM (halfM 1 b1)) by rw [HH.out]; exact HI3.out), fun _ => HQ0.out (by omega), (by first | exact fun _ => trivial | exact fun _ => HACT.out)⟩
          case measure => simp [intOf]
        | true =>
          rw [hism] at PP
          have HPP := Lib.hid PP
          have hb9 : X0 % 2 = 1 ∨ X0 % 2 ≠ 1 := by omega
          rcases hb9 with hmd | hmd
          · have m1 : ((X0 : Int) % 2 == 1) = true := beq_iff_eq.2 (by omega)
            have m2 : (X0 : Int) % 2 = 1 := by omega
            have HH : Hid (halfM 1 b1 = (X0, X1, X2)) := Lib.hid (by rw [halfM_yes hism (by rw [HPM.out]; exact hmd), HPM.out])
            clear PP hism hmd
            go_wp2_with fail
            refine HPP.out.mono ?_
            rintro e w2 ⟨rfl, hb2⟩
            have hb3 := (Below.refl w2.heap.size w2).alloc (Nat.le_refl _) (.cells #[.int .i64 (X0 : Int), .int .i64 (X1 : Int), .int .i64 (X2 : Int)] 23)
            have hR9 : RowC (w2.alloc (.cells #[.int .i64 (X0 : Int), .int .i64 (X1 : Int), .int .i64 (X2 : Int)] 23)) w2.heap.size 23 [.int .i64 (X0 : Int), .int .i64 (X1 : Int), .int .i64 (X2 : Int)] := heap_alloc_new _ _
            have hI3 := (HI1.out.below hb2).below hb3
            obtain ⟨w3, hw3⟩ : ∃ w3, w2.alloc (.cells #[.int .i64 (X0 : Int), .int .i64 (X1 : Int), .int .i64 (X2 : Int)] 23) = w3 := ⟨_, rfl⟩
            rw [hw3] at hI3 hR9
            obtain ⟨S9, hS9⟩ : ∃ S9, w2.heap.size = S9 := ⟨_, rfl⟩
            rw [hS9] at hR9
            have q0 := hR9.cell (j := 0) (v := .int .i64 (X0 : Int)) rfl
            have q1 := hR9.cell (j := 1) (v := .int .i64 (X1 : Int)) rfl
            have q2 := hR9.cell (j := 2) (v := .int .i64 (X2 : Int)) rfl
            have t0 := hI3.r5.cell (j := 3) (v := .int .i64 0) rfl
            have t1 := hI3.r5.cell (j := 4) (v := .int .i64 0) rfl
            have t2 := hI3.r5.cell (j := 5) (v := .int .i64 0) rfl
            have f0 := hI3.r5.free 3
            have f1 := hI3.r5.free 4
            have f2 := hI3.r5.free 5
            have g3 := grown_trans (grown_trans (cell_grown w3 (S2 + 1) 3 (.int .i64 (X0 : Int))) (cell_grown _ (S2 + 1) 4 (.int .i64 (X1 : Int)))) (cell_grown _ (S2 + 1) 5 (.int .i64 (X2 : Int)))
            have r9 := ((hI3.r5.stored 3 (.int .i64 (X0 : Int))).stored 4 (.int .i64 (X1 : Int))).stored 5 (.int .i64 (X2 : Int))
            have HI9 : Hid (NwR w _ χ _ j p S2 (S2 + 1) (actS (actS s)) (vM (halfM 0 b0) ++ vM (halfM 1 b1))) := Lib.hid (hI3.stored (by omega) g3 (by rw [HH.out]; exact r9))
            clear hb2 hb3 hI3 hR9 g3 r9
            go_wp2_with fail
            clear hw3 hS9
            go_roundw
            case rel => exact ⟨2, _, by omega, by go_num, HI9.out, fun _ => HQ0.out (by omega), (by first | exact fun _ => trivial | exact fun _ => HACT.out)⟩
            case measure => simp [intOf]
          · have m1 : ((X0 : Int) % 2 == 1) = false := beq_eq_false_iff_ne.2 (by omega)
            have m2 : ¬ (X0 : Int) % 2 = 1 := by omega
            have HH : Hid (halfM 1 b1 = (0, 0, 0)) := Lib.hid (halfM_no2 hism (by rw [HPM.out]; exact hmd))
            clear PP hism hmd
            go_wp2_with fail
            refine HPP.out.mono ?_
            rintro e w2 ⟨rfl, hb2⟩
            have hb3 := (Below.refl w2.heap.size w2).alloc (Nat.le_refl _) (.cells #[.int .i64 (X0 : Int), .int .i64 (X1 : Int), .int .i64 (X2 : Int)] 23)
            have hR9 : RowC (w2.alloc (.cells #[.int .i64 (X0 : Int), .int .i64 (X1 : Int), .int .i64 (X2 : Int)] 23)) w2.heap.size 23 [.int .i64 (X0 : Int), .int .i64 (X1 : Int), .int .i64 (X2 : Int)] := heap_alloc_new _ _
            have q0 := hR9.cell (j := 0) (v := .int .i64 (X0 : Int)) rfl
            have HI3 := Lib.hid ((HI1.out.below hb2).below hb3)
            clear hb2 hb3 hR9
            go_wp2_with fail
            go_roundw
            case rel => exact ⟨2, _, by omega, by go_num, (show NwR w _ χ _ j p S2 (S2 + 1) (actS (actS s)) (vM (halfM 0 b0) ++ vM (halfM 1 b1)) by rw [HH.out]; exact HI3.out), fun _ => HQ0.out (by omega), (by first | exact fun _ => trivial | exact fun _ => HACT.out)⟩
            case measure => simp [intOf]
    · have hI : NwR w wo χ χr j p S2 (S2 + 1) (actS (actS s)) (vM (halfM 0 b0) ++ vM (halfM 1 b1)) := hI
      have hv : NE = 0 ∧ NS = actS (actS s) := by
        refine ⟨?_, ?_⟩
        · rw [HNE.out, hq0 (by omega), if_neg (by decide), hq1 (by omega), if_neg (by decide)]
        · rw [HNS.out, hq0 (by omega), if_neg (by decide)]
      have hnv : NV = selM (halfM 0 b0) (halfM 1 b1) := by rw [HNV.out, hv.1]; rfl
      have HNO := HOK
      obtain ⟨X0, hX0⟩ : ∃ X, (halfM 0 b0).1 = X := ⟨_, rfl⟩
      obtain ⟨X1, hX1⟩ : ∃ X, (halfM 0 b0).2.1 = X := ⟨_, rfl⟩
      obtain ⟨X2, hX2⟩ : ∃ X, (halfM 0 b0).2.2 = X := ⟨_, rfl⟩
      obtain ⟨Y0, hY0⟩ : ∃ X, (halfM 1 b1).1 = X := ⟨_, rfl⟩
      obtain ⟨Y1, hY1⟩ : ∃ X, (halfM 1 b1).2.1 = X := ⟨_, rfl⟩
      obtain ⟨Y2, hY2⟩ : ∃ X, (halfM 1 b1).2.2 = X := ⟨_, rfl⟩
      have hx : halfM 0 b0 = (X0, X1, X2) := by rw [← hX0, ← hX1, ← hX2]
      have hy : halfM 1 b1 = (Y0, Y1, Y2) := by rw [← hY0, ← hY1, ← hY2]
      rw [hx, hy] at hI hnv
      have hxz : X0 = 0 → X1 = 0 ∧ X2 = 0 := fun h => by
        have := halfM_zero (hX0.trans h)
        rw [hx] at this
        injection this with _ this
        injection this with a b
        exact ⟨a, b⟩
      have u0 := hI.r5.cell (j := 0) (v := .int .i64 (X0 : Int)) rfl
      have u1' := hI.r5.cell (j := 1) (v := .int .i64 (X1 : Int)) rfl
      have u2' := hI.r5.cell (j := 2) (v := .int .i64 (X2 : Int)) rfl
      have u3' := hI.r5.cell (j := 3) (v := .int .i64 (Y0 : Int)) rfl
      have u4' := hI.r5.cell (j := 4) (v := .int .i64 (Y1 : Int)) rfl
      have u5' := hI.r5.cell (j := 5) (v := .int .i64 (Y2 : Int)) rfl
      have HI := Lib.hid hI
      have HV := Lib.hid (And.intro hv.1 (And.intro hv.2 hnv))
      have hsl := hI.r5.lt
      clear hq0 hq1 hv hnv hI hX0 hX1 hX2 hY0 hY1 hY2 hx hy
      by_cases hlt : X0 < Y0
      · have c1 : (X0 : Int) < (Y0 : Int) := by omega
        have hnv : NV = (Y0, Y1, Y2) := by rw [HV.out.2.2]; exact if_pos hlt
        have HN := Lib.hid hnv
        clear hnv
        have hba := (Below.refl wo.heap.size wo).alloc (Nat.le_refl _) (.cells #[.int .i64 (Y0 : Int), .int .i64 (Y1 : Int), .int .i64 (Y2 : Int)] 23)
        have hR9 : RowC (wo.alloc (.cells #[.int .i64 (Y0 : Int), .int .i64 (Y1 : Int), .int .i64 (Y2 : Int)] 23)) wo.heap.size 23 [.int .i64 (Y0 : Int), .int .i64 (Y1 : Int), .int .i64 (Y2 : Int)] := heap_alloc_new _ _
        have hIa := HI.out.below hba
        go_wp2_with fail
        obtain ⟨w3, hw3⟩ : ∃ w3, wo.alloc (.cells #[.int .i64 (Y0 : Int), .int .i64 (Y1 : Int), .int .i64 (Y2 : Int)] 23) = w3 := ⟨_, rfl⟩
        rw [hw3] at hR9 hIa ⊢
        obtain ⟨S9, hS9⟩ : ∃ S9, wo.heap.size = S9 := ⟨_, rfl⟩
        rw [hS9] at hR9 ⊢
        have hne9 : S2 ≠ S9 := by
          rw [← hS9]
          have := HI.out.r2.lt
          omega
        have hne8 : S9 ≠ S2 := fun e => hne9 e.symm
        clear hw3 hS9 u0 u1' u2' u3' u4' u5' hba
        have q0 := hR9.cell (j := 0) (v := .int .i64 (Y0 : Int)) rfl
        have q1 := hR9.cell (j := 1) (v := .int .i64 (Y1 : Int)) rfl
        have q2 := hR9.cell (j := 2) (v := .int .i64 (Y2 : Int)) rfl
        have z0 := hIa.r2.cell (j := 0) (v := .int .i64 0) rfl
        have z1 := hIa.r2.cell (j := 1) (v := .int .i64 0) rfl
        have z2 := hIa.r2.cell (j := 2) (v := .int .i64 0) rfl
        have f0 := hIa.r2.free 0
        have f1 := hIa.r2.free 1
        have f2 := hIa.r2.free 2
        have HNB : Hid (NO = true) := Lib.hid (by rw [HOK.out, HN.out]; simp; omega)
        have g3 := grown_trans (grown_trans (cell_grown w3 S2 0 (.int .i64 (Y0 : Int))) (cell_grown _ S2 1 (.int .i64 (Y1 : Int)))) (cell_grown _ S2 2 (.int .i64 (Y2 : Int)))
        have r9 := ((hIa.r2.stored 0 (.int .i64 (Y0 : Int))).stored 1 (.int .i64 (Y1 : Int))).stored 2 (.int .i64 (Y2 : Int))
        have hF := hIa.result (w1 := (((w3.setCell ⟨S2, 0, none⟩ (.int .i64 (Y0 : Int))).setCell ⟨S2, 1, none⟩ (.int .i64 (Y1 : Int))).setCell ⟨S2, 2, none⟩ (.int .i64 (Y2 : Int))).drew) ⟨g3.os, g3.tape, g3.output, g3.size, g3.block⟩
        have HF := Lib.hid hF
        have HR9 : Hid (RowC (((w3.setCell ⟨S2, 0, none⟩ (.int .i64 (Y0 : Int))).setCell ⟨S2, 1, none⟩ (.int .i64 (Y1 : Int))).setCell ⟨S2, 2, none⟩ (.int .i64 (Y2 : Int))).drew S2 23 [.int .i64 (Y0 : Int), .int .i64 (Y1 : Int), .int .i64 (Y2 : Int)]) := Lib.hid r9
        clear g3 r9 hF
        have HIa := Lib.hid hIa
        clear hIa
        go_region
        obtain ⟨w9, hw9⟩ : ∃ w9, (((w3.setCell ⟨S2, 0, none⟩ (.int .i64 (Y0 : Int))).setCell ⟨S2, 1, none⟩ (.int .i64 (Y1 : Int))).setCell ⟨S2, 2, none⟩ (.int .i64 (Y2 : Int))).drew = w9 := ⟨_, rfl⟩
        rw [hw9] at HF HR9 ⊢
        have y0 := HR9.out.cell (j := 0) (v := .int .i64 (Y0 : Int)) rfl
        have y1 := HR9.out.cell (j := 1) (v := .int .i64 (Y1 : Int)) rfl
        have y2 := HR9.out.cell (j := 2) (v := .int .i64 (Y2 : Int)) rfl
        clear q0 q1 q2 z0 z1 z2 f0 f1 f2 hw9
        go_wp2_with fail
        exact bodyPost_ret (v := .tuple #[.agg #[.int .i64 (Y0 : Int), .int .i64 (Y1 : Int), .int .i64 (Y2 : Int)], .bool true, .int .i64 0]) (by simp [results, Tryd.results23, go_sem, y0, y1, y2]) rfl (by first | exact ⟨χr, (by rw [HV.out.1, HN.out, HNB.out] <;> rfl), (by rw [HV.out.2.1]; exact HF.out)⟩ | exact ⟨(by rw [HV.out.1, HN.out, HNB.out] <;> rfl), χr, (by rw [HV.out.2.1]; exact HF.out)⟩)
      · have c1 : ¬ (X0 : Int) < (Y0 : Int) := by omega
        have hnv : NV = (X0, X1, X2) := by rw [HV.out.2.2]; exact if_neg hlt
        have HN := Lib.hid hnv
        clear hnv
        have hba := (Below.refl wo.heap.size wo).alloc (Nat.le_refl _) (.cells #[.int .i64 (X0 : Int), .int .i64 (X1 : Int), .int .i64 (X2 : Int)] 23)
        have hR9 : RowC (wo.alloc (.cells #[.int .i64 (X0 : Int), .int .i64 (X1 : Int), .int .i64 (X2 : Int)] 23)) wo.heap.size 23 [.int .i64 (X0 : Int), .int .i64 (X1 : Int), .int .i64 (X2 : Int)] := heap_alloc_new _ _
        have hIa := HI.out.below hba
        go_wp2_with fail
        obtain ⟨w3, hw3⟩ : ∃ w3, wo.alloc (.cells #[.int .i64 (X0 : Int), .int .i64 (X1 : Int), .int .i64 (X2 : Int)] 23) = w3 := ⟨_, rfl⟩
        rw [hw3] at hR9 hIa ⊢
        obtain ⟨S9, hS9⟩ : ∃ S9, wo.heap.size = S9 := ⟨_, rfl⟩
        rw [hS9] at hR9 ⊢
        have hne9 : S2 ≠ S9 := by
          rw [← hS9]
          have := HI.out.r2.lt
          omega
        have hne8 : S9 ≠ S2 := fun e => hne9 e.symm
        clear hw3 hS9 u0 u1' u2' u3' u4' u5' hba
        have q0 := hR9.cell (j := 0) (v := .int .i64 (X0 : Int)) rfl
        have q1 := hR9.cell (j := 1) (v := .int .i64 (X1 : Int)) rfl
        have q2 := hR9.cell (j := 2) (v := .int .i64 (X2 : Int)) rfl
        have z0 := hIa.r2.cell (j := 0) (v := .int .i64 0) rfl
        have z1 := hIa.r2.cell (j := 1) (v := .int .i64 0) rfl
        have z2 := hIa.r2.cell (j := 2) (v := .int .i64 0) rfl
        have f0 := hIa.r2.free 0
        have f1 := hIa.r2.free 1
        have f2 := hIa.r2.free 2
        by_cases hz : X0 = 0
        · obtain ⟨hz1, hz2⟩ := hxz hz
          have HNB : Hid (NO = false) := Lib.hid (by rw [HOK.out, HN.out, hz, hz1, hz2]; rfl)
          subst hz hz1 hz2
          have g3 := grown_trans (grown_trans (cell_grown w3 S2 0 (.int .i64 0)) (cell_grown _ S2 1 (.int .i64 0))) (cell_grown _ S2 2 (.int .i64 0))
          have r9 := ((hIa.r2.stored 0 (.int .i64 0)).stored 1 (.int .i64 0)).stored 2 (.int .i64 0)
          have hF := hIa.result (w1 := (((w3.setCell ⟨S2, 0, none⟩ (.int .i64 0)).setCell ⟨S2, 1, none⟩ (.int .i64 0)).setCell ⟨S2, 2, none⟩ (.int .i64 0)).drew) ⟨g3.os, g3.tape, g3.output, g3.size, g3.block⟩
          have HF := Lib.hid hF
          have HR9 : Hid (RowC (((w3.setCell ⟨S2, 0, none⟩ (.int .i64 0)).setCell ⟨S2, 1, none⟩ (.int .i64 0)).setCell ⟨S2, 2, none⟩ (.int .i64 0)).drew S2 23 [.int .i64 0, .int .i64 0, .int .i64 0]) := Lib.hid r9
          clear g3 r9 hF
          have HIa := Lib.hid hIa
          clear hIa
          go_region
          obtain ⟨w9, hw9⟩ : ∃ w9, (((w3.setCell ⟨S2, 0, none⟩ (.int .i64 0)).setCell ⟨S2, 1, none⟩ (.int .i64 0)).setCell ⟨S2, 2, none⟩ (.int .i64 0)).drew = w9 := ⟨_, rfl⟩
          rw [hw9] at HF HR9 ⊢
          have y0 := HR9.out.cell (j := 0) (v := .int .i64 0) rfl
          have y1 := HR9.out.cell (j := 1) (v := .int .i64 0) rfl
          have y2 := HR9.out.cell (j := 2) (v := .int .i64 0) rfl
          clear q0 q1 q2 z0 z1 z2 f0 f1 f2 hw9
          go_wp2_with fail
          exact bodyPost_ret (v := .tuple #[.agg #[.int .i64 0, .int .i64 0, .int .i64 0], .bool false, .int .i64 0]) (by simp [results, Tryd.results23, go_sem, y0, y1, y2]) rfl (by first | exact ⟨χr, (by rw [HV.out.1, HN.out, HNB.out] <;> rfl), (by rw [HV.out.2.1]; exact HF.out)⟩ | exact ⟨(by rw [HV.out.1, HN.out, HNB.out] <;> rfl), χr, (by rw [HV.out.2.1]; exact HF.out)⟩)
        · have HNB : Hid (NO = true) := Lib.hid (by rw [HOK.out, HN.out]; simp; omega)
          have g3 := grown_trans (grown_trans (cell_grown w3 S2 0 (.int .i64 (X0 : Int))) (cell_grown _ S2 1 (.int .i64 (X1 : Int)))) (cell_grown _ S2 2 (.int .i64 (X2 : Int)))
          have r9 := ((hIa.r2.stored 0 (.int .i64 (X0 : Int))).stored 1 (.int .i64 (X1 : Int))).stored 2 (.int .i64 (X2 : Int))
          have hF := hIa.result (w1 := (((w3.setCell ⟨S2, 0, none⟩ (.int .i64 (X0 : Int))).setCell ⟨S2, 1, none⟩ (.int .i64 (X1 : Int))).setCell ⟨S2, 2, none⟩ (.int .i64 (X2 : Int))).drew) ⟨g3.os, g3.tape, g3.output, g3.size, g3.block⟩
          have HF := Lib.hid hF
          have HR9 : Hid (RowC (((w3.setCell ⟨S2, 0, none⟩ (.int .i64 (X0 : Int))).setCell ⟨S2, 1, none⟩ (.int .i64 (X1 : Int))).setCell ⟨S2, 2, none⟩ (.int .i64 (X2 : Int))).drew S2 23 [.int .i64 (X0 : Int), .int .i64 (X1 : Int), .int .i64 (X2 : Int)]) := Lib.hid r9
          clear g3 r9 hF
          have HIa := Lib.hid hIa
          clear hIa
          go_region
          obtain ⟨w9, hw9⟩ : ∃ w9, (((w3.setCell ⟨S2, 0, none⟩ (.int .i64 (X0 : Int))).setCell ⟨S2, 1, none⟩ (.int .i64 (X1 : Int))).setCell ⟨S2, 2, none⟩ (.int .i64 (X2 : Int))).drew = w9 := ⟨_, rfl⟩
          rw [hw9] at HF HR9 ⊢
          have y0 := HR9.out.cell (j := 0) (v := .int .i64 (X0 : Int)) rfl
          have y1 := HR9.out.cell (j := 1) (v := .int .i64 (X1 : Int)) rfl
          have y2 := HR9.out.cell (j := 2) (v := .int .i64 (X2 : Int)) rfl
          clear q0 q1 q2 z0 z1 z2 f0 f1 f2 hw9
          go_wp2_with fail
          exact bodyPost_ret (v := .tuple #[.agg #[.int .i64 (X0 : Int), .int .i64 (X1 : Int), .int .i64 (X2 : Int)], .bool true, .int .i64 0]) (by simp [results, Tryd.results23, go_sem, y0, y1, y2]) rfl (by first | exact ⟨χr, (by rw [HV.out.1, HN.out, HNB.out] <;> rfl), (by rw [HV.out.2.1]; exact HF.out)⟩ | exact ⟨(by rw [HV.out.1, HN.out, HNB.out] <;> rfl), χr, (by rw [HV.out.2.1]; exact HF.out)⟩)
end Go.Proofs.YtgelgjghmoddoaaDoor
