import Derived.Test.YtgelgjghmoddoaaDoorMaster3
/- The contracts of package master: Next. -/
set_option linter.unusedVariables false
set_option linter.unusedSimpArgs false
namespace Go.Proofs.YtgelgjghmoddoaaDoor
open Go.RowKit Go.Tm
set_option maxHeartbeats 400000
set_option maxRecDepth 100000
attribute [local go_sem ↓] Go.wp_at_zero Go.wp_at_succ

/-- The state of Next. -/
structure NxR (w wr : World) (χ χr : Col) (j p S2 S5 : Nat) (s : DSt) (cs : List Value) : Prop where
  disk : IsDisk wr χr j p s
  os : wr.os = w.os
  tape : wr.tape = w.tape
  output : wr.output = w.output
  size : w.heap.size ≤ wr.heap.size
  kept : ∀ k, k < w.heap.size → (χ k).1 ≠ j → wr.heap[k]? = w.heap[k]?
  ext : Ext w.heap.size χ χr
  r2 : RowC wr S2 23 [.int .i64 0, .int .i64 0, .int .i64 0]
  r5 : RowC wr S5 23 cs
  c2 : (χr S2).1 = j + 1 ∧ w.heap.size ≤ S2
  c5 : (χr S5).1 = j + 1 ∧ w.heap.size ≤ S5
theorem NxR.act {w wr w1 : World} {χ χr χ1 : Col} {j p S2 S5 : Nat} {s s1 : DSt} {cs : List Value} (h : NxR w wr χ χr j p S2 S5 s cs) (hd : ActD wr w1 χr χ1 j p s1) : NxR w w1 χ χ1 j p S2 S5 s1 cs := by
  have ht := hd.touch
  exact ⟨hd.disk, ht.kept.os.trans h.os, ht.kept.tape.trans h.tape, ht.kept.output.trans h.output, Nat.le_trans h.size ht.kept.size,
    fun k hk hn => (ht.kept.block k (Nat.lt_of_lt_of_le hk h.size) (fun e => hn (by rw [← h.ext k hk]; exact e))).trans (h.kept k hk hn), h.ext.trans ht.ext h.size,
    rowc_touched h.r2 ht (by rw [h.c2.1]; omega), rowc_touched h.r5 ht (by rw [h.c5.1]; omega), ⟨by rw [ht.ext S2 h.r2.lt]; exact h.c2.1, h.c2.2⟩, ⟨by rw [ht.ext S5 h.r5.lt]; exact h.c5.1, h.c5.2⟩⟩
theorem NxR.below2 {w wr w1 : World} {χ χr χ1 : Col} {j p S2 S5 : Nat} {s : DSt} {cs : List Value} (h : NxR w wr χ χr j p S2 S5 s cs) (hb : Below wr.heap.size wr w1) (hx : Ext wr.heap.size χr χ1) : NxR w w1 χ χ1 j p S2 S5 s cs :=
  ⟨h.disk.below' hx hb, hb.os.trans h.os, hb.tape.trans h.tape, hb.output.trans h.output, Nat.le_trans h.size hb.size, fun k hk hn => (hb.block k (Nat.lt_of_lt_of_le hk h.size)).trans (h.kept k hk hn), h.ext.trans hx h.size, h.r2.below hb, h.r5.below hb, ⟨by rw [hx S2 h.r2.lt]; exact h.c2.1, h.c2.2⟩, ⟨by rw [hx S5 h.r5.lt]; exact h.c5.1, h.c5.2⟩⟩
theorem NxR.below {w wr w1 : World} {χ χr : Col} {j p S2 S5 : Nat} {s : DSt} {cs : List Value} (h : NxR w wr χ χr j p S2 S5 s cs) (hb : Below wr.heap.size wr w1) : NxR w w1 χ χr j p S2 S5 s cs :=
  ⟨h.disk.below' (Ext.refl _ _) hb, hb.os.trans h.os, hb.tape.trans h.tape, hb.output.trans h.output, Nat.le_trans h.size hb.size, fun k hk hn => (hb.block k (Nat.lt_of_lt_of_le hk h.size)).trans (h.kept k hk hn), h.ext, h.r2.below hb, h.r5.below hb, h.c2, h.c5⟩
theorem NxR.stored {w wr w1 : World} {χ χr : Col} {j p S2 S5 : Nat} {s : DSt} {cs cs' : List Value} (h : NxR w wr χ χr j p S2 S5 s cs) (hne : S2 ≠ S5) (hg : wr.grownBy w1 (some S5)) (hr : RowC w1 S5 23 cs') : NxR w w1 χ χr j p S2 S5 s cs' :=
  ⟨h.disk.touch' (touch_row' hg h.c5.1) (by omega) (by omega), hg.os.trans h.os, hg.tape.trans h.tape, hg.output.trans h.output, Nat.le_trans h.size hg.size, fun k hk hn => (hg.block k (Nat.lt_of_lt_of_le hk h.size) (fun e => by injection e with e; have := h.c5.2; omega)).trans (h.kept k hk hn), h.ext, h.r2.grown hg (fun e => hne (by injection e with e; exact e.symm)), hr, h.c2, h.c5⟩
theorem NxR.result {w wr w1 : World} {χ χr : Col} {j p S2 S5 : Nat} {s : DSt} {cs : List Value} (h : NxR w wr χ χr j p S2 S5 s cs) (hg : wr.grownBy w1 (some S2)) : ActD w w1 χ χr j p s :=
  ⟨h.disk.touch' (touch_row' hg h.c2.1) (by omega) (by omega), ⟨⟨hg.os.trans h.os, hg.tape.trans h.tape, hg.output.trans h.output, Nat.le_trans h.size hg.size, fun k hk hn => (hg.block k (Nat.lt_of_lt_of_le hk h.size) (fun e => by injection e with e; have := h.c2.2; omega)).trans (h.kept k hk hn)⟩, h.ext⟩⟩

theorem nextE_bad {s : DSt} {t b c : Int} (h : t < 0 ∨ 1152921504606846976 ≤ t) : nextE s t b c = 30 ∧ nextS s t b c = s := ⟨if_pos h, if_pos h⟩
theorem nextE_may {s : DSt} {t b c : Int} (h : ¬ (t < 0 ∨ 1152921504606846976 ≤ t)) (hm : mayB (t + 1) b c = false) : nextE s t b c = 30 ∧ nextS s t b c = s := by
  unfold nextE nextS
  rw [if_neg h, if_neg h, if_pos hm, if_pos hm]
  exact ⟨rfl, rfl⟩
theorem nextE_go {s : DSt} {t b c : Int} (h : ¬ (t < 0 ∨ 1152921504606846976 ≤ t)) (hm : mayB (t + 1) b c = true) {E1 E2 : Int} {s1 : DSt} (h1 : writeE s ((s.P : Int) + 1 + (t + 1) % 2) (mastV (t + 1) b c) = E1) (h2 : writeS s ((s.P : Int) + 1 + (t + 1) % 2) (mastV (t + 1) b c) = s1) (h3 : syncE s1 = E2) :
    nextE s t b c = (if E1 ≠ 0 then E1 else E2) ∧ nextS s t b c = (if E1 ≠ 0 then s1 else syncS s1 true) := by
  have hm' : ¬ mayB (t + 1) b c = false := by rw [hm]; decide
  refine ⟨?_, ?_⟩
  · unfold nextE
    rw [if_neg h, if_neg hm']
    dsimp only
    rw [h1, h2, h3]
  · unfold nextS
    rw [if_neg h, if_neg hm']
    dsimp only
    rw [h1, h2]

set_option maxHeartbeats 4000000 in
theorem next_any {w : World} {χ : Col} {j p : Nat} {s : DSt} (hT : Tb w) (hTc : (χ 0).1 ≠ j) (hd : IsDisk w χ j p s) (ha : s.acts < 4611686018427387000) (hlo : s.loose.length < 4900000000000) (t b c : Int) :
    Calls Tryd.prog 21 #[.pointer (some ⟨p, 0, none⟩), .agg #[.int .i64 t, .int .i64 b, .int .i64 c]] w fun e w' => ∃ χ', e = .returned (.tuple #[.agg #[.int .i64 (nextV s t b c).1, .int .i64 (nextV s t b c).2.1, .int .i64 (nextV s t b c).2.2], .int .i64 (nextE s t b c)]) ∧ ActD w w' χ χ' j p (nextS s t b c) := by
  have hb0 : Below w.heap.size w ((w.alloc (.cells #[.int .i64 t, .int .i64 b, .int .i64 c] 23)).alloc (.cells #[.int .i64 0, .int .i64 0, .int .i64 0] 23)) := ((Below.refl _ _).alloc (Nat.le_refl _) _).alloc (by simp) _
  have hr5 : RowC ((w.alloc (.cells #[.int .i64 t, .int .i64 b, .int .i64 c] 23)).alloc (.cells #[.int .i64 0, .int .i64 0, .int .i64 0] 23)) w.heap.size 23 [.int .i64 t, .int .i64 b, .int .i64 c] := (show RowC (w.alloc (.cells #[.int .i64 t, .int .i64 b, .int .i64 c] 23)) w.heap.size 23 [.int .i64 t, .int .i64 b, .int .i64 c] from heap_alloc_new _ _).below ((Below.refl _ _).alloc (Nat.le_refl _) _)
  have hr2 : RowC ((w.alloc (.cells #[.int .i64 t, .int .i64 b, .int .i64 c] 23)).alloc (.cells #[.int .i64 0, .int .i64 0, .int .i64 0] 23)) (w.heap.size + 1) 23 [.int .i64 0, .int .i64 0, .int .i64 0] := by
    have := heap_alloc_new (w.alloc (.cells #[.int .i64 t, .int .i64 b, .int .i64 c] 23)) (.cells #[.int .i64 0, .int .i64 0, .int .i64 0] 23)
    have hz : (w.alloc (.cells #[.int .i64 t, .int .i64 b, .int .i64 c] 23)).heap.size = w.heap.size + 1 := by simp
    rw [hz] at this
    exact this
  have hx0 := paint_ext w.heap.size χ (j + 1, 7)
  have h0 : NxR w ((w.alloc (.cells #[.int .i64 t, .int .i64 b, .int .i64 c] 23)).alloc (.cells #[.int .i64 0, .int .i64 0, .int .i64 0] 23)) χ (paint w.heap.size χ (j + 1, 7)) j p (w.heap.size + 1) w.heap.size s [.int .i64 t, .int .i64 b, .int .i64 c] :=
    ⟨hd.below' hx0 hb0, hb0.os, hb0.tape, hb0.output, hb0.size, fun k hk _ => hb0.block k hk, hx0, hr2, hr5, ⟨by rw [paint_new (by omega)], by omega⟩, ⟨by rw [paint_new (Nat.le_refl _)], Nat.le_refl _⟩⟩
  have hgT : 0 < w.heap.size := World.block_lt_of_cell? w _ (hT.at_ 0 (by omega))
  have HTB : Hid (∀ wr χr S2 S5 s' cs, NxR w wr χ χr j p S2 S5 s' cs → Tb wr) := Lib.hid fun wr χr S2 S5 s' cs h => ⟨fun i hi => (World.cell?_of_block (h.kept _ hgT hTc)).trans (hT.at_ i hi)⟩
  obtain ⟨w0, hw0⟩ : ∃ w0, ((w.alloc (.cells #[.int .i64 t, .int .i64 b, .int .i64 c] 23)).alloc (.cells #[.int .i64 0, .int .i64 0, .int .i64 0] 23)) = w0 := ⟨_, rfl⟩
  rw [hw0] at h0
  obtain ⟨S5, hS5⟩ : ∃ S5, w.heap.size = S5 := ⟨_, rfl⟩
  rw [hS5] at h0
  obtain ⟨S2, hS2⟩ : ∃ S2, S5 + 1 = S2 := ⟨_, rfl⟩
  rw [hS2] at h0
  have hne : S2 ≠ S5 := by omega
  have H0 := Lib.hid h0
  have q0 := h0.r5.cell (j := 0) (v := .int .i64 t) rfl
  have fq0 := h0.r5.free 0
  have HNV : Hid (∀ E, nextE s t b c = E → E ≠ 0 → nextV s t b c = (0, 0, 0)) := Lib.hid fun E h1 h2 => by unfold nextV; rw [h1, if_neg h2]
  by_cases hbad : t < 0 ∨ 1152921504606846976 ≤ t
  · obtain ⟨n1, n2⟩ := nextE_bad (s := s) (b := b) (c := c) hbad
    have n3 := HNV.out 30 n1 (by decide)
    rw [n1, n2, n3]
    have z0 := H0.out.r2.cell (j := 0) (v := .int .i64 0) rfl
    have z1 := H0.out.r2.cell (j := 1) (v := .int .i64 0) rfl
    have z2 := H0.out.r2.cell (j := 2) (v := .int .i64 0) rfl
    have f0 := H0.out.r2.free 0
    have f1 := H0.out.r2.free 1
    have f2 := H0.out.r2.free 2
    clear hb0 hr5 hr2 hx0 h0 hgT hT hTc hd ha hlo n1 n2 n3
    by_cases hneg : t < 0
    · clear hbad
      go_enter Tryd.func21, Tryd.ntmps21
      have g3 := grown_trans (grown_trans (cell_grown w0 S2 0 (.int .i64 0)) (cell_grown _ S2 1 (.int .i64 0))) (cell_grown _ S2 2 (.int .i64 0))
      have HR9 := Lib.hid (((H0.out.r2.stored 0 (.int .i64 0)).stored 1 (.int .i64 0)).stored 2 (.int .i64 0))
      have HF := Lib.hid (H0.out.result g3)
      clear g3
      go_wp2_with fail
      have y0 := HR9.out.cell (j := 0) (v := .int .i64 0) rfl
      have y1 := HR9.out.cell (j := 1) (v := .int .i64 0) rfl
      have y2 := HR9.out.cell (j := 2) (v := .int .i64 0) rfl
      exact bodyPost_ret (v := .tuple #[.agg #[.int .i64 0, .int .i64 0, .int .i64 0], .int .i64 30]) (by simp [results, Tryd.results21, go_sem, y0, y1, y2]) rfl (by first | exact ⟨_, (rfl), (HF.out)⟩ | exact ⟨(rfl), _, (HF.out)⟩)
    · have hbig : 1152921504606846976 ≤ t := by omega
      clear hbad
      go_enter Tryd.func21, Tryd.ntmps21
      have g3 := grown_trans (grown_trans (cell_grown w0 S2 0 (.int .i64 0)) (cell_grown _ S2 1 (.int .i64 0))) (cell_grown _ S2 2 (.int .i64 0))
      have HR9 := Lib.hid (((H0.out.r2.stored 0 (.int .i64 0)).stored 1 (.int .i64 0)).stored 2 (.int .i64 0))
      have HF := Lib.hid (H0.out.result g3)
      clear g3
      go_wp2_with fail
      have y0 := HR9.out.cell (j := 0) (v := .int .i64 0) rfl
      have y1 := HR9.out.cell (j := 1) (v := .int .i64 0) rfl
      have y2 := HR9.out.cell (j := 2) (v := .int .i64 0) rfl
      exact bodyPost_ret (v := .tuple #[.agg #[.int .i64 0, .int .i64 0, .int .i64 0], .int .i64 30]) (by simp [results, Tryd.results21, go_sem, y0, y1, y2]) rfl (by first | exact ⟨_, (rfl), (HF.out)⟩ | exact ⟨(rfl), _, (HF.out)⟩)
  · have t0 : ¬ t < 0 := by omega
    have t1 : ¬ 1152921504606846976 ≤ t := by omega
    have t2 : 0 ≤ t := by omega
    have t3 : t < 1152921504606846976 := by omega
    have hI1 := h0.stored hne (cell_grown w0 S5 0 (.int .i64 (t + 1))) (h0.r5.stored 0 (.int .i64 (t + 1)))
    have hI1 : NxR w (w0.setCell ⟨S5, 0, none⟩ (.int .i64 (t + 1))) χ _ j p S2 S5 s [.int .i64 (t + 1), .int .i64 b, .int .i64 c] := hI1
    have PB := mbytes_any (HTB.out _ _ _ _ _ _ hI1) (t + 1) b c
    obtain ⟨wq, hwq⟩ : ∃ wq, w0.setCell ⟨S5, 0, none⟩ (.int .i64 (t + 1)) = wq := ⟨_, rfl⟩
    rw [hwq] at hI1 PB
    have p0 := hI1.r5.cell (j := 0) (v := .int .i64 (t + 1)) rfl
    have p1 := hI1.r5.cell (j := 1) (v := .int .i64 b) rfl
    have p2 := hI1.r5.cell (j := 2) (v := .int .i64 c) rfl
    have HI1 := Lib.hid hI1
    have hP1 := hd.ok'.p1
    have hmi : masterI s.P ((t + 1) % 2) = (s.P : Int) + 1 + (t + 1) % 2 := by unfold masterI; rw [if_pos (by omega)]
    have HMI := Lib.hid hmi
    have HA := Lib.hid ha
    have HLO := Lib.hid hlo
    cases hm : mayB (t + 1) b c with
    | false =>
      obtain ⟨n1, n2⟩ := nextE_may (s := s) hbad hm
      have n3 := HNV.out 30 n1 (by decide)
      have hE : mastE (t + 1) b c = 30 := by unfold mastE; rw [if_neg (by rw [hm]; decide)]
      have hV : mastV (t + 1) b c = [] := by unfold mastV; rw [if_neg (by rw [hm]; decide)]
      rw [hE, hV, List.length_nil] at PB
      rw [n1, n2, n3]
      have HPB := Lib.hid PB
      clear hb0 hr5 hr2 hx0 h0 hgT hT hTc hd ha hlo n1 n2 n3 hE hV PB hm hbad hI1 hmi
      go_enter Tryd.func21, Tryd.ntmps21
      go_wp2_with fail
      refine HPB.out.mono ?_
      rintro e w3 ⟨A3, c3, rfl, N3⟩
      have HI3 := Lib.hid (HI1.out.below N3.below)
      clear N3 q0 fq0 p0 p1 p2
      have z0 := HI3.out.r2.cell (j := 0) (v := .int .i64 0) rfl
      have z1 := HI3.out.r2.cell (j := 1) (v := .int .i64 0) rfl
      have z2 := HI3.out.r2.cell (j := 2) (v := .int .i64 0) rfl
      have f0 := HI3.out.r2.free 0
      have f1 := HI3.out.r2.free 1
      have f2 := HI3.out.r2.free 2
      have g3 := grown_trans (grown_trans (cell_grown w3 S2 0 (.int .i64 0)) (cell_grown _ S2 1 (.int .i64 0))) (cell_grown _ S2 2 (.int .i64 0))
      have HR9 := Lib.hid (((HI3.out.r2.stored 0 (.int .i64 0)).stored 1 (.int .i64 0)).stored 2 (.int .i64 0))
      have HF := Lib.hid (HI3.out.result g3)
      clear g3
      go_wp2_with fail
      have y0 := HR9.out.cell (j := 0) (v := .int .i64 0) rfl
      have y1 := HR9.out.cell (j := 1) (v := .int .i64 0) rfl
      have y2 := HR9.out.cell (j := 2) (v := .int .i64 0) rfl
      exact bodyPost_ret (v := .tuple #[.agg #[.int .i64 0, .int .i64 0, .int .i64 0], .int .i64 30]) (by simp [results, Tryd.results21, go_sem, y0, y1, y2]) rfl (by first | exact ⟨_, (rfl), (HF.out)⟩ | exact ⟨(rfl), _, (HF.out)⟩)
    | true =>
      have hE : mastE (t + 1) b c = 0 := by unfold mastE; rw [if_pos hm]
      have hV : mastV (t + 1) b c = mastL (t + 1).toNat b.toNat c.toNat := by unfold mastV; rw [if_pos hm]
      obtain ⟨E1, hE1⟩ : ∃ E1, writeE s ((s.P : Int) + 1 + (t + 1) % 2) (mastV (t + 1) b c) = E1 := ⟨_, rfl⟩
      obtain ⟨s1, hs1⟩ : ∃ s1, writeS s ((s.P : Int) + 1 + (t + 1) % 2) (mastV (t + 1) b c) = s1 := ⟨_, rfl⟩
      obtain ⟨E2, hE2⟩ : ∃ E2, syncE s1 = E2 := ⟨_, rfl⟩
      obtain ⟨n1, n2⟩ := nextE_go hbad hm hE1 hs1 hE2
      have hacts : s1.acts < 4611686018427387904 ∧ s1.loose.length < 5000000000000 := by
        have h1 : (actS s).acts ≤ s.acts + 1 := by unfold actS; split <;> (dsimp only; omega)
        have h2 := (actS_same s).2.2.2.2.2.1
        rw [← hs1]
        unfold writeS
        split
        · refine ⟨by show (actS s).acts < _; omega, ?_⟩
          show (s.loose ++ [_]).length < _
          rw [List.length_append, List.length_singleton]
          omega
        · exact ⟨by omega, by rw [h2]; omega⟩
      have HAC := Lib.hid hacts
      have HE1 := Lib.hid hE1
      have HS1 := Lib.hid hs1
      have HE2 := Lib.hid hE2
      have HV := Lib.hid hV
      rw [hE, hV, mastL_length] at PB
      have HPB := Lib.hid PB
      have HNN := Lib.hid (And.intro n1 n2)
      have HNVY : Hid (nextE s t b c = 0 → nextV s t b c = (t + 1, b, c)) := Lib.hid fun h => by unfold nextV; rw [if_pos h]
      obtain ⟨NE, hNE⟩ : ∃ NE, nextE s t b c = NE := ⟨_, rfl⟩
      obtain ⟨NS, hNS⟩ : ∃ NS, nextS s t b c = NS := ⟨_, rfl⟩
      obtain ⟨NV, hNV⟩ : ∃ NV, nextV s t b c = NV := ⟨_, rfl⟩
      rw [hNE, hNS] at HNN
      rw [hNE, hNV] at HNVY
      have HNV2 : Hid (NE ≠ 0 → NV = (0, 0, 0)) := Lib.hid fun h => by rw [← hNV]; exact HNV.out NE hNE h
      rw [hNE, hNS, hNV]
      clear hb0 hr5 hr2 hx0 h0 hgT hT hTc hd ha hlo n1 n2 hE hV PB hm hbad hI1 hmi hacts hE1 hs1 hE2 hNE hNS hNV HNV
      go_enter Tryd.func21, Tryd.ntmps21
      go_wp2_with fail
      refine HPB.out.mono ?_
      rintro e w3 ⟨A3, c3, rfl, N3⟩
      have hI3 := HI1.out.below2 N3.below (paint_ext wq.heap.size _ (j + 1, 8))
      have PW := writeMaster_any hI3.disk (by have := HA.out; omega) (by have := HLO.out; omega) ((t + 1) % 2) N3.rda (by rw [mastL_length]; omega) (fun a ha => by
        subst ha
        rcases N3.own.2 with ⟨e1, _⟩ | ⟨g, cap, cur, e1, hbg, _⟩
        · injection e1 with e1; cases e1
        · injection e1 with e1
          injection e1 with e1
          subst e1
          rw [paint_new hbg]
          intro e
          injection e with e
          omega) (mastL_length _ _ _).symm
      rw [HMI.out, ← HV.out, HE1.out, HS1.out] at PW
      have HPW := Lib.hid PW
      have HI3 := Lib.hid hI3
      have r0 := hI3.r5.cell (j := 0) (v := .int .i64 (t + 1)) rfl
      clear PW N3 hI3 q0 fq0 p0 p1 p2
      go_wp2_with fail
      refine HPW.out.mono ?_
      rintro e w4 ⟨χ4, rfl, D4⟩
      have hI4 := HI3.out.act D4
      by_cases hz : E1 = 0
      · subst hz
        have PS := syncMasters_any hI4.disk HAC.out.1 HAC.out.2
        rw [HE2.out] at PS
        have HPS := Lib.hid PS
        have HI4 := Lib.hid hI4
        clear PS hI4 D4 r0
        go_wp2_with fail
        refine HPS.out.mono ?_
        rintro e w5 ⟨χ5, rfl, D5⟩
        have HI5 := Lib.hid (HI4.out.act D5)
        clear D5
        by_cases hz2 : E2 = 0
        · subst hz2
          have hn1 : NE = 0 := by rw [HNN.out.1, if_neg (by decide)]
          have hn2 : NS = syncS s1 true := by rw [HNN.out.2, if_neg (by decide)]
          have HN := Lib.hid (And.intro hn1 (And.intro hn2 (HNVY.out hn1)))
          clear hn1 hn2
          have z0 := HI5.out.r2.cell (j := 0) (v := .int .i64 0) rfl
          have z1 := HI5.out.r2.cell (j := 1) (v := .int .i64 0) rfl
          have z2 := HI5.out.r2.cell (j := 2) (v := .int .i64 0) rfl
          have f0 := HI5.out.r2.free 0
          have f1 := HI5.out.r2.free 1
          have f2 := HI5.out.r2.free 2
          have p0 := HI5.out.r5.cell (j := 0) (v := .int .i64 (t + 1)) rfl
          have p1 := HI5.out.r5.cell (j := 1) (v := .int .i64 b) rfl
          have p2 := HI5.out.r5.cell (j := 2) (v := .int .i64 c) rfl
          have g3 := grown_trans (grown_trans (cell_grown w5 S2 0 (.int .i64 (t + 1))) (cell_grown _ S2 1 (.int .i64 b))) (cell_grown _ S2 2 (.int .i64 c))
          have HR9 := Lib.hid (((HI5.out.r2.stored 0 (.int .i64 (t + 1))).stored 1 (.int .i64 b)).stored 2 (.int .i64 c))
          have HF := Lib.hid (HI5.out.result g3)
          clear g3
          go_wp2_with fail
          have y0 := HR9.out.cell (j := 0) (v := .int .i64 (t + 1)) rfl
          have y1 := HR9.out.cell (j := 1) (v := .int .i64 b) rfl
          have y2 := HR9.out.cell (j := 2) (v := .int .i64 c) rfl
          exact bodyPost_ret (v := .tuple #[.agg #[.int .i64 (t + 1), .int .i64 b, .int .i64 c], .int .i64 0]) (by simp [results, Tryd.results21, go_sem, y0, y1, y2]) rfl (by first | exact ⟨_, (by rw [HN.out.1, HN.out.2.2] <;> rfl), (by rw [HN.out.2.1]; exact HF.out)⟩ | exact ⟨(by rw [HN.out.1, HN.out.2.2] <;> rfl), _, (by rw [HN.out.2.1]; exact HF.out)⟩)
        · have m1 : (E2 == 0) = false := beq_eq_false_iff_ne.2 hz2
          have m2 : (E2 != 0) = true := by simp [bne, m1]
          have hn1 : NE = E2 := by rw [HNN.out.1, if_neg (by decide)]
          have hn2 : NS = syncS s1 true := by rw [HNN.out.2, if_neg (by decide)]
          have HN := Lib.hid (And.intro hn1 (And.intro hn2 (HNV2.out (by rw [hn1]; exact hz2))))
          clear hn1 hn2
          have z0 := HI5.out.r2.cell (j := 0) (v := .int .i64 0) rfl
          have z1 := HI5.out.r2.cell (j := 1) (v := .int .i64 0) rfl
          have z2 := HI5.out.r2.cell (j := 2) (v := .int .i64 0) rfl
          have f0 := HI5.out.r2.free 0
          have f1 := HI5.out.r2.free 1
          have f2 := HI5.out.r2.free 2
          have g3 := grown_trans (grown_trans (cell_grown w5 S2 0 (.int .i64 0)) (cell_grown _ S2 1 (.int .i64 0))) (cell_grown _ S2 2 (.int .i64 0))
          have HR9 := Lib.hid (((HI5.out.r2.stored 0 (.int .i64 0)).stored 1 (.int .i64 0)).stored 2 (.int .i64 0))
          have HF := Lib.hid (HI5.out.result g3)
          clear g3
          go_wp2_with fail
          have y0 := HR9.out.cell (j := 0) (v := .int .i64 0) rfl
          have y1 := HR9.out.cell (j := 1) (v := .int .i64 0) rfl
          have y2 := HR9.out.cell (j := 2) (v := .int .i64 0) rfl
          exact bodyPost_ret (v := .tuple #[.agg #[.int .i64 0, .int .i64 0, .int .i64 0], .int .i64 E2]) (by simp [results, Tryd.results21, go_sem, y0, y1, y2]) rfl (by first | exact ⟨_, (by rw [HN.out.1, HN.out.2.2] <;> rfl), (by rw [HN.out.2.1]; exact HF.out)⟩ | exact ⟨(by rw [HN.out.1, HN.out.2.2] <;> rfl), _, (by rw [HN.out.2.1]; exact HF.out)⟩)
      · have m1 : (E1 == 0) = false := beq_eq_false_iff_ne.2 hz
        have m2 : (E1 != 0) = true := by simp [bne, m1]
        have hn1 : NE = E1 := by rw [HNN.out.1, if_pos hz]
        have hn2 : NS = s1 := by rw [HNN.out.2, if_pos hz]
        have HN := Lib.hid (And.intro hn1 (And.intro hn2 (HNV2.out (by rw [hn1]; exact hz))))
        have HI4 := Lib.hid hI4
        clear hn1 hn2 hI4 D4 r0
        have z0 := HI4.out.r2.cell (j := 0) (v := .int .i64 0) rfl
        have z1 := HI4.out.r2.cell (j := 1) (v := .int .i64 0) rfl
        have z2 := HI4.out.r2.cell (j := 2) (v := .int .i64 0) rfl
        have f0 := HI4.out.r2.free 0
        have f1 := HI4.out.r2.free 1
        have f2 := HI4.out.r2.free 2
        have g3 := grown_trans (grown_trans (cell_grown w4 S2 0 (.int .i64 0)) (cell_grown _ S2 1 (.int .i64 0))) (cell_grown _ S2 2 (.int .i64 0))
        have HR9 := Lib.hid (((HI4.out.r2.stored 0 (.int .i64 0)).stored 1 (.int .i64 0)).stored 2 (.int .i64 0))
        have HF := Lib.hid (HI4.out.result g3)
        clear g3
        go_wp2_with fail
        have y0 := HR9.out.cell (j := 0) (v := .int .i64 0) rfl
        have y1 := HR9.out.cell (j := 1) (v := .int .i64 0) rfl
        have y2 := HR9.out.cell (j := 2) (v := .int .i64 0) rfl
        exact bodyPost_ret (v := .tuple #[.agg #[.int .i64 0, .int .i64 0, .int .i64 0], .int .i64 E1]) (by simp [results, Tryd.results21, go_sem, y0, y1, y2]) rfl (by first | exact ⟨_, (by rw [HN.out.1, HN.out.2.2] <;> rfl), (by rw [HN.out.2.1]; exact HF.out)⟩ | exact ⟨(by rw [HN.out.1, HN.out.2.2] <;> rfl), _, (by rw [HN.out.2.1]; exact HF.out)⟩)
end Go.Proofs.YtgelgjghmoddoaaDoor
