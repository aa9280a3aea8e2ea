import Derived.Test.YtapoknpakleiiaaDoorDisk6
import Derived.Test.YtapoknpakleiiaaDoorDiskMem2
import Derived.BigRegion
import Derived.Laws.EntriesVeiled
/- The contracts of package disk: write. -/
set_option linter.unusedVariables false
set_option linter.unusedSimpArgs false
namespace Go.Proofs.YtapoknpakleiiaaDoor
open Go.RowKit Go.Tm
set_option maxHeartbeats 400000
set_option maxRecDepth 100000
attribute [local go_sem ↓] Go.wp_at_zero Go.wp_at_succ

theorem wrX_nat (s : DSt) (i : Nat) (b : List UInt8) : wrX s (i : Int) b = ⟨decide (s.P < i), i, b⟩ := by simp [wrX]
/-- What an act on a disk leaves. -/
structure ActD (w w' : World) (χ χ' : Col) (j p : Nat) (s' : DSt) : Prop where
  disk : IsDisk w' χ' j p s'
  touch : Touch w w' χ χ' j

theorem ActD.of_act {w wb w1 w2 : World} {χ χ1 : Col} {j p : Nat} {s : DSt} {q : DPl} (hbx : Below w.heap.size w wb) (hK : KeptBut (fun k => k = p) wb w1) (hpj : (χ p).1 = j) (hx1 : Ext w.heap.size χ χ1) (hc1 : ∀ k, w.heap.size ≤ k → χ1 k = (0, 9)) (hD : DiskR w1 χ1 j p s q) (hb : Below w1.heap.size w1 w2) : ActD w w2 χ χ1 j p s :=
  ⟨⟨q, hD.below (Ext.refl _ _) hb⟩, touch_of hbx hK hpj hx1 ((KeptBut.refl _ _).below hb), hx1⟩

set_option maxHeartbeats 1600000 in
theorem write_any_d {w : World} {χ : Col} {j p : Nat} {s : DSt} {q : DPl} (h : DiskR w χ j p s q) (ha : s.acts < 4611686018427387904) (hlo : s.loose.length < 5000000000000) (pl : Int) (hpl : pl < 0 ∨ pl < (s.P : Int) + 3) {A : Option Addr} {c : Nat} {b : List UInt8} (hb : Rda w A c b) (hbl : b.length ≤ 140737488351232) (hA : ∀ a, A = some a → χ a.block ≠ (j, 1)) :
    Calls Tryd.prog 87 #[.pointer (some ⟨p, 0, none⟩), .int .i64 pl, .slice A b.length c] w fun e w' => ∃ χ', e = .returned (.int .i64 (writeE s pl b)) ∧ ActD w w' χ χ' j p (writeS s pl b) := by
  have hbx := (Below.refl w.heap.size w).alloc (Nat.le_refl _) (.cells #[.int .i64 pl] 3)
  have hRx : RowC (w.alloc (.cells #[.int .i64 pl] 3)) w.heap.size 3 [.int .i64 pl] := heap_alloc_new _ _
  obtain ⟨χ1, hχ1⟩ : ∃ χ1, paint w.heap.size χ (0, 9) = χ1 := ⟨_, rfl⟩
  have hx1 : Ext w.heap.size χ χ1 := by rw [← hχ1]; exact paint_ext _ _ _
  have hc1 : ∀ k, w.heap.size ≤ k → χ1 k = (0, 9) := fun k hk => by rw [← hχ1]; exact paint_new hk
  have h1 := h.below hx1 hbx
  have HA := act_any h1 ha
  have HOK := Lib.hid h.ok
  have HPJ : Hid ((χ p).1 = j) := Lib.hid (by rw [h.col])
  clear hχ1
  obtain ⟨e1, e2, e3, e4, e5, e6, e7, e8, e9⟩ := actS_same s
  unfold writeS writeE
  cases hB : actB s with
  | false =>
    rw [hB] at HA
    have HA := Lib.hid HA
    rw [if_pos rfl, if_neg (by decide)]
    clear hB h h1 hb hA ha hlo hbl hpl
    go_enter Tryd.func87, Tryd.ntmps87
    go_wp2_with fail
    refine HA.out.mono ?_
    rintro e w1 ⟨rfl, hD, hK⟩
    have HF := Lib.hid (ActD.of_act hbx hK HPJ.out hx1 hc1 hD (Below.refl _ _))
    clear hD hK hRx hbx hx1 hc1 HA
    go_wp2_with fail
    go_ret
    exact ⟨χ1, rfl, HF.out⟩
  | true =>
    rw [hB] at HA
    have HA := Lib.hid HA
    by_cases hneg : pl < 0
    · rw [if_neg (by decide), if_pos hneg, if_neg (by decide)]
      clear hB h h1 hb hA ha hlo hbl hpl
      go_enter Tryd.func87, Tryd.ntmps87
      go_wp2_with fail
      refine HA.out.mono ?_
      rintro e w1 ⟨rfl, hD, hK⟩
      have hpb : p ≠ w.heap.size := fun e => by
        have := HPJ.out
        have h2 := hD.col
        rw [e, hc1 _ (Nat.le_refl _)] at h2
        injection h2 with _ h2
        omega
      have R1 : RowC w1 w.heap.size 3 [.int .i64 pl] := (hK.block w.heap.size (by simp) (fun e => hpb e.symm)).trans hRx
      have b1 := R1.cell (j := 0) (v := .int .i64 pl) rfl
      have HF := Lib.hid (ActD.of_act hbx hK HPJ.out hx1 hc1 hD (Below.refl _ _))
      clear hD hK hRx hbx hx1 hc1 HA R1
      go_wp2_with fail
      go_ret
      exact ⟨χ1, rfl, HF.out⟩
    · obtain ⟨i, rfl⟩ := Int.eq_ofNat_of_zero_le (show 0 ≤ pl by omega)
      simp only [Int.toNat_natCast, Bool.true_eq_false, if_false]
      rw [if_neg hneg]
      by_cases hsz : b.length = sizeD s.P s.K i
      · rw [if_neg (fun h => h hsz)]
        rw [if_pos rfl, wrX_nat]
        have hi3 : i < s.P + 3 := by omega
        obtain ⟨BL, hBL⟩ : ∃ BL, b.length = BL := ⟨_, rfl⟩
        have HBL := Lib.hid hBL
        have HSZ := Lib.hid hsz
        rw [hBL]
        clear hBL
        go_enter Tryd.func87, Tryd.ntmps87
        go_wp2_with fail
        refine HA.out.mono ?_
        rintro e w1 ⟨rfl, hD, hK⟩
        have hpb : p ≠ w.heap.size := fun e => by have := h.row.lt; omega
        have R1 : RowC w1 w.heap.size 3 [.int .i64 i] := (hK.block w.heap.size (by simp) (fun e => hpb e.symm)).trans hRx
        have b1 := R1.cell (j := 0) (v := .int .i64 i) rfl
        have c0 := hD.row.cell (j := 0) (v := .int .i64 (actS s).P) rfl
        have c1 := hD.row.cell (j := 1) (v := .int .i64 (actS s).K) rfl
        have c2 := hD.row.cell (j := 2) (v := .int .i64 (actS s).M) rfl
        rw [e1] at c0
        rw [e2] at c1
        rw [e3] at c2
        have PS := fun (W : World) => size_any (w := W) s.P s.K (s.M : Int) h.ok.k1 i
        rw [← HSZ.out] at PS
        have hrb : Rda w1 A c b := (hb.below hbx).kept fun bb o e jj v hj => (World.cell?_of_block (hK.block bb (World.block_lt_of_cell? _ _ hj) (fun e2 => hA _ e (by rw [e2]; exact h.col)))).trans hj
        have hbw := (Below.refl w1.heap.size w1).drew
        rw [HBL.out] at PS
        have HPS := Lib.hid PS
        have HD := Lib.hid hD
        have HI := Lib.hid hi3
        clear PS hD HA hneg hpl hi3 h1 h hsz
        go_wp2_with fail
        go_region_held3 (fun w' => w'.cell? ⟨p, 0, none⟩ = some (.int .i64 s.P) ∧ w'.cell? ⟨p, 1, none⟩ = some (.int .i64 s.K) ∧ w'.cell? ⟨p, 2, none⟩ = some (.int .i64 s.M) ∧ w'.cell? ⟨w.heap.size, 0, none⟩ = some (.int .i64 i)) (first | go_keep | exact ⟨c0, c1, c2, b1⟩ | exact ⟨y0, y1, y2, y3⟩)
          (first
            | (go_at_call 86; refine (HPS.out _).mono ?_; rintro e w2 ⟨rfl, hb2⟩; have hb2' := below_then hbw hb2; have y0 := (hb2'.cell (p := ⟨p, 0, none⟩) (World.block_lt_of_cell? _ _ c0)).trans c0; have y1 := (hb2'.cell (p := ⟨p, 1, none⟩) (World.block_lt_of_cell? _ _ c1)).trans c1; have y2 := (hb2'.cell (p := ⟨p, 2, none⟩) (World.block_lt_of_cell? _ _ c2)).trans c2; have y3 := (hb2'.cell (p := ⟨w.heap.size, 0, none⟩) (World.block_lt_of_cell? _ _ b1)).trans b1))
        go_wp2_with fail
        have PC := bclone_any (hrb.below hb2') rfl (by omega)
        rw [HBL.out] at PC
        have HPC := Lib.hid PC
        clear PC
        refine HPC.out.mono ?_
        rintro e w3 ⟨A3, c3, rfl, hN⟩
        have hlo24 := sizeD_lo s.P s.K i
        obtain ⟨b3, rfl, _⟩ := hN.own.block (by rw [HSZ.out]; omega)
        have hb3 := below_then hb2' hN.below
        have hbx4 := (Below.refl w3.heap.size w3).alloc (Nat.le_refl _) (.cells #[.slice (some ⟨b3, 0, none⟩) BL c3] 22)
        have R4 : RowC (w3.alloc (.cells #[.slice (some ⟨b3, 0, none⟩) BL c3] 22)) w3.heap.size 22 [.slice (some ⟨b3, 0, none⟩) BL c3] := heap_alloc_new _ _
        have hb4 := below_then hb3 hbx4
        have O4 := hN.own.below hbx4
        obtain ⟨w4, hw4⟩ : ∃ w4, w3.alloc (.cells #[.slice (some ⟨b3, 0, none⟩) BL c3] 22) = w4 := ⟨_, rfl⟩
        obtain ⟨B2, hB2⟩ : ∃ B2, w3.heap.size = B2 := ⟨_, rfl⟩
        rw [hw4] at R4 hb4 O4
        rw [hB2] at R4
        have z0 := (hb4.cell (p := ⟨p, 0, none⟩) (World.block_lt_of_cell? _ _ c0)).trans c0
        have z3 := (hb4.cell (p := ⟨w.heap.size, 0, none⟩) (World.block_lt_of_cell? _ _ b1)).trans b1
        have z4 := R4.cell (j := 0) (v := .slice (some ⟨b3, 0, none⟩) BL c3) rfl
        obtain ⟨B1, hB1⟩ : ∃ B1, w.heap.size = B1 := ⟨_, rfl⟩
        rw [hB1] at z3
        have n1 : B1 < w4.heap.size := World.block_lt_of_cell? _ _ z3
        have n2 : B2 < w4.heap.size := R4.lt
        have n3 : p < w4.heap.size := World.block_lt_of_cell? _ _ z0
        clear y0 y1 y2 y3
        go_wp2_with fail
        go_region
        have hb5 : Below w4.heap.size w4 (w4.alloc (.cells #[.bool (decide (s.P < i)), .int .i64 BL, .func (.func 101) #[] #[.pointer (some ⟨B1, 0, none⟩), .pointer (some ⟨B2, 0, none⟩)]] 118)).drew := below_drew1 ((Below.refl w4.heap.size w4).alloc (Nat.le_refl _) _)
        have R5 : RowC (w4.alloc (.cells #[.bool (decide (s.P < i)), .int .i64 BL, .func (.func 101) #[] #[.pointer (some ⟨B1, 0, none⟩), .pointer (some ⟨B2, 0, none⟩)]] 118)).drew w4.heap.size 118 [.bool (decide (s.P < i)), .int .i64 BL, .func (.func 101) #[] #[.pointer (some ⟨B1, 0, none⟩), .pointer (some ⟨B2, 0, none⟩)]] := heap_alloc_new w4 _
        obtain ⟨w5, hw5⟩ : ∃ w5, (w4.alloc (.cells #[.bool (decide (s.P < i)), .int .i64 BL, .func (.func 101) #[] #[.pointer (some ⟨B1, 0, none⟩), .pointer (some ⟨B2, 0, none⟩)]] 118)).drew = w5 := ⟨_, rfl⟩
        obtain ⟨B3, hB3⟩ : ∃ B3, w4.heap.size = B3 := ⟨_, rfl⟩
        rw [hw5] at hb5 R5 ⊢
        rw [hB3] at R5
        have bb5 := below_then hb4 hb5
        have D5 := HD.out.below (Ext.refl _ _) bb5
        have d4 := D5.row.cell (j := 4) (v := .slice (some ⟨q.g2, 0, none⟩) ((actS s).P + 3) ((actS s).P + 3)) rfl
        rw [e1] at d4
        have a0 := R5.cell (j := 0) (v := .bool (decide (s.P < i))) rfl
        have a1 := R5.cell (j := 1) (v := .int .i64 BL) rfl
        have a2 := R5.cell (j := 2) (v := .func (.func 101) #[] #[.pointer (some ⟨B1, 0, none⟩), .pointer (some ⟨B2, 0, none⟩)]) rfl
        clear D5 z0 z3 z4
        go_wp2_with fail
        go_still_tail 8, (by kernel_rfl)
        change wpList _ _ _ _ _ w5.drew
        go_wp2_with fail
        have hbd := below_drew1 (Below.refl w5.heap.size w5)
        have bb6 := below_then bb5 hbd
        have D6 := HD.out.below (Ext.refl _ _) bb6
        have G6 := D6.reads
        rw [e1, e5] at G6
        have hrl : s.reads.length = s.P + 3 := HOK.out.reads.len
        have hb34 : B1 < w4.heap.size ∧ B2 < w4.heap.size := ⟨n1, n2⟩
        have r1' : RowC w5.drew B1 3 [.int .i64 i] := by
          have := R1.below bb6
          rwa [hB1] at this
        have r2' : RowC w5.drew B2 22 [.slice (some ⟨b3, 0, none⟩) b.length c3] := by
          have := R4.below (below_then hb5 hbd)
          rwa [← HBL.out] at this
        have r3' : Own8 w5.drew 0 5 (.slice (some ⟨b3, 0, none⟩) b.length c3) b := Own8.mono (O4.below (below_then hb5 hbd)) (Nat.zero_le _)
        have hXl : b.length = (s.reads.getD i []).length := by rw [HSZ.out, (HOK.out.reads.getD HI.out).2]
        have h200 : b.length ≤ 200 := by
          have := sizeD_hi s.P s.K i
          have := HOK.out.k1
          rw [HSZ.out]; omega
        have PL := dlay_any G6 hrl (by have := HOK.out.p1; omega) (⟨decide (s.P < i), i, b⟩ : Wr) HI.out hXl r1' r2' r3' b.length (Nat.le_refl _) h200
        rw [HBL.out] at PL
        have HPL := Lib.hid PL
        clear PL r1' r2' r3' D6 G6 hXl h200
        refine HPL.out.mono ?_
        rintro e w6 ⟨⟨v6, rfl⟩, G6, K6⟩
        have kb6 : ∀ x, x < w1.heap.size → χ1 x ≠ (j, q.t2 + 1 + i) → w6.heap[x]? = w1.heap[x]? := fun x hx hc => (K6.block x (Nat.lt_of_lt_of_le hx bb6.size) hc).trans (bb6.block x hx)
        have hjp := HD.out.pos
        have ht1 := HD.out.tags
        have R6 : RowC w6 p 100 (diskC (actS s) q) := (kb6 p HD.out.row.lt (by rw [HD.out.col]; intro e; injection e with _ e; omega)).trans HD.out.row
        have hw14 : w.heap.size ≤ w4.heap.size := by have := hb4.size; have := hK.size; simp at this; omega
        have hS6 : RowC w6 B3 118 [.bool (decide (s.P < i)), .int .i64 BL, .func (.func 101) #[] #[.pointer (some ⟨B1, 0, none⟩), .pointer (some ⟨B2, 0, none⟩)]] :=
          (K6.block B3 R5.lt (by rw [hc1 B3 (by omega)]; intro e; injection e with e; omega)).trans (R5.below hbd)
        have d5 := R6.cell (j := 5) (v := q.vo) rfl
        have f5 := R6.free 5
        have s0 := hS6.cell (j := 0) (v := .bool (decide (s.P < i))) rfl
        have s1 := hS6.cell (j := 1) (v := .int .i64 BL) rfl
        have s2 := hS6.cell (j := 2) (v := .func (.func 101) #[] #[.pointer (some ⟨B1, 0, none⟩), .pointer (some ⟨B2, 0, none⟩)]) rfl
        have hWX : WrOk (actS s).P (actS s).K (⟨decide (s.P < i), i, b⟩ : Wr) := ⟨by rw [e1]; exact HI.out, by rw [e1, e2]; exact HSZ.out, by rw [e1]⟩
        have hcl4 : ClosR w4 χ1 (.func (.func 101) #[] #[.pointer (some ⟨B1, 0, none⟩), .pointer (some ⟨B2, 0, none⟩)]) (⟨decide (s.P < i), i, b⟩ : Wr) := by
          have q1 : w.heap.size ≤ w1.heap.size := Nat.le_trans hbx.size hK.size
          have q2 : w1.heap.size ≤ w2.heap.size := hb2'.size
          have q3 : w2.heap.size ≤ w3.heap.size := hN.below.size
          have q4 : w2.heap.size ≤ b3 := (World.ownsRow.lt hN.own b3 rfl).1
          refine ⟨B1, B2, b3, c3, rfl, by rw [hc1 B1 (by omega)], by rw [hc1 B2 (by omega)], by rw [hc1 b3 (by omega)], ?_, ?_, ?_⟩
          · have := R1.below hb4; rwa [hB1] at this
          · have := R4; rwa [← HBL.out] at this
          · exact Own8.mono O4 (Nat.zero_le _)
        have hcl6 := hcl4.ext (w' := w6) (Ext.refl _ _) (fun k hk h0 => (K6.block k (Nat.lt_of_lt_of_le hk (below_then hb5 hbd).size) (fun e => by rw [e] at h0; have : j = 0 := h0; omega)).trans ((below_then hb5 hbd).block k hk))
        have hLL : q.L.length = s.loose.length := by rw [← e6, HD.out.look, List.length_map]
        have hO6 : OwnLe w6 0 118 3 q.vo q.L.length (wrC q.L) := ownLe_same HD.out.loose.own fun k hk => kb6 k (ownLe_block HD.out.loose.own hk).2.1 (by rw [HD.out.loose.col k hk]; intro e; injection e with _ e; omega)
        have hb7 : Below w6.heap.size w6 (w6.alloc (.cells #[.bool (decide (s.P < i)), .int .i64 BL, .func (.func 101) #[] #[.pointer (some ⟨B1, 0, none⟩), .pointer (some ⟨B2, 0, none⟩)]] 118)).drew := below_drew1 ((Below.refl w6.heap.size w6).alloc (Nat.le_refl _) _)
        have hr7 : RowC (w6.alloc (.cells #[.bool (decide (s.P < i)), .int .i64 BL, .func (.func 101) #[] #[.pointer (some ⟨B1, 0, none⟩), .pointer (some ⟨B2, 0, none⟩)]] 118)).drew w6.heap.size 118 (wrC [((⟨decide (s.P < i), i, b⟩ : Wr), .func (.func 101) #[] #[.pointer (some ⟨B1, 0, none⟩), .pointer (some ⟨B2, 0, none⟩)])]) := by
          have := heap_alloc_new w6 (.cells #[.bool (decide (s.P < i)), .int .i64 BL, .func (.func 101) #[] #[.pointer (some ⟨B1, 0, none⟩), .pointer (some ⟨B2, 0, none⟩)]] 118)
          rw [← HBL.out] at this ⊢
          exact this
        have hna : ∀ j' u, (wrC [((⟨decide (s.P < i), i, b⟩ : Wr), .func (.func 101) #[] #[.pointer (some ⟨B1, 0, none⟩), .pointer (some ⟨B2, 0, none⟩)])])[j']? = some u → (w6.alloc (.cells #[.bool (decide (s.P < i)), .int .i64 BL, .func (.func 101) #[] #[.pointer (some ⟨B1, 0, none⟩), .pointer (some ⟨B2, 0, none⟩)]] 118)).drew.cell? ((⟨w6.heap.size, 0, none⟩ : Addr).add j') = some u := fun j' u hj' => by
          rw [Addr.add_lit, Nat.zero_add]
          exact hr7.cell hj'
        have hone : ∀ u ∈ wrC [((⟨decide (s.P < i), i, b⟩ : Wr), .func (.func 101) #[] #[.pointer (some ⟨B1, 0, none⟩), .pointer (some ⟨B2, 0, none⟩)])], u.oneCell' = true := fun u hu => by
          simp [wrC] at hu
          rcases hu with rfl | rfl | rfl <;> rfl
        have hO7 := ownLe_below hO6 hb7
        have HWR := Lib.hid (fun (w8 : World) (v : Value) (hO : OwnLe w8 0 118 3 v (q.L.length + 1) (wrC (q.L ++ [((⟨decide (s.P < i), i, b⟩ : Wr), .func (.func 101) #[] #[.pointer (some ⟨B1, 0, none⟩), .pointer (some ⟨B2, 0, none⟩)])]))) (hg : (w6.alloc (.cells #[.bool (decide (s.P < i)), .int .i64 BL, .func (.func 101) #[] #[.pointer (some ⟨B1, 0, none⟩), .pointer (some ⟨B2, 0, none⟩)]] 118)).drew.grownBy w8 q.vo.ownBlock) (hv : v.ownBlock = q.vo.ownBlock ∨ v.ownBlock = some (w6.heap.size + 1)) =>
          (show ActD w (w8.setCell ⟨p, 5, none⟩ v) χ (paint (w6.heap.size + 1) χ1 (j, 4)) j p { actS s with reads := layR s.reads ⟨decide (s.P < i), i, b⟩ BL, loose := s.loose ++ [⟨decide (s.P < i), i, b⟩] } by
            have hbl : (⟨decide (s.P < i), i, b⟩ : Wr).bs.length = BL := HBL.out
            have h7s : (w6.alloc (.cells #[.bool (decide (s.P < i)), .int .i64 BL, .func (.func 101) #[] #[.pointer (some ⟨B1, 0, none⟩), .pointer (some ⟨B2, 0, none⟩)]] 118)).drew.heap.size = w6.heap.size + 1 := by simp [World.drew]
            obtain ⟨hw, hk9⟩ := DiskR.wrote HD.out hWX bb6 (by exact K6) (by rw [e1, e5, hbl]; exact G6) hb7 (hcl6.ext (Ext.refl _ _) (fun k hk _ => hb7.block k hk)) (v := v) (w8 := w8) hO hg (by rw [h7s]; exact hv)
            rw [e5, e6, hbl, h7s] at hw
            have hs6 : w.heap.size ≤ w6.heap.size + 1 := by have := hbx.size; have := hK.size; have := bb6.size; have := K6.size; omega
            exact ⟨⟨_, hw⟩, touch_of hbx hK HPJ.out hx1 hk9, hx1.trans (paint_ext _ _ _) hs6⟩))
        have hb10 : (q.L.length + 1) * 24 ≤ 140737488355328 := by rw [hLL]; omega
        have hbm : q.L.length + 1 ≤ maxLen := by unfold maxLen; rw [hLL]; omega
        have HH := Lib.hid (And.intro hb10 hbm)
        have hB3w : B3 < w6.heap.size := hS6.lt
        have hpw : p < w6.heap.size := R6.lt
        have HRW := Lib.hid (fun (w8 : World) (hg8 : (w6.alloc (.cells #[.bool (decide (s.P < i)), .int .i64 BL, .func (.func 101) #[] #[.pointer (some ⟨B1, 0, none⟩), .pointer (some ⟨B2, 0, none⟩)]] 118)).drew.grownBy w8 q.vo.ownBlock) => (R6.below hb7).grown hg8 (fun e => by have := HD.out.loose.col p e; rw [HD.out.col] at this; injection this with _ this; omega))
        have HSW := Lib.hid (fun (w8 : World) (hg8 : (w6.alloc (.cells #[.bool (decide (s.P < i)), .int .i64 BL, .func (.func 101) #[] #[.pointer (some ⟨B1, 0, none⟩), .pointer (some ⟨B2, 0, none⟩)]] 118)).drew.grownBy w8 q.vo.ownBlock) => (by
          have hr := (hS6.below hb7).grown hg8 (fun e => by have := HD.out.loose.col B3 e; rw [hc1 B3 (by omega)] at this; injection this with this _; omega)
          exact ⟨hr.cell (j := 0) rfl, hr.cell (j := 1) rfl, hr.cell (j := 2) rfl⟩ : w8.cell? ⟨B3, 0, none⟩ = some (.bool (decide (s.P < i))) ∧ w8.cell? ⟨B3, 1, none⟩ = some (.int .i64 BL) ∧ w8.cell? ⟨B3, 2, none⟩ = some (.func (.func 101) #[] #[.pointer (some ⟨B1, 0, none⟩), .pointer (some ⟨B2, 0, none⟩)])))
        clear a0 a1 a2 d4 c0 c1 c2 b1 hb10 hbm hlo hr7 hcl4 hcl6 hO6 hWX hLL
        go_wp2_with fail
        go_region_law (refine step_appLe rfl _ _ _ rfl 0 118 Tryd.underlying98 (z := .agg #[.bool false, .int .i64 0, .nilFunc]) (size := 3) (bytes := 24) (by kernel_rfl) rfl (by decide) _ q.L.length _ rfl hO7 _ 1 1 _ rfl rfl hna hone HH.out.2 HH.out.1 (Nat.zero_le _) ?_; intro v8 w8 hO8 hg8 hv8; obtain ⟨A8, c8, rfl⟩ := ownLe_slice hO8; have R8 := HRW.out w8 hg8; have v0 := R8.cell (j := 5) (v := q.vo) rfl; have f8 := R8.free 5; obtain ⟨v1, v2, v3⟩ := HSW.out w8 hg8)
        all_goals
          rw [← wrC_app] at hO8
          have hv9 : (Value.slice A8 (q.L.length + 1) c8).ownBlock = q.vo.ownBlock ∨ (Value.slice A8 (q.L.length + 1) c8).ownBlock = some (w6.heap.size + 1) := by
            rcases hv8 with h | h
            · exact .inl h
            · exact .inr (by rw [h]; simp [World.drew])
          have HF := Lib.hid (HWR.out w8 _ hO8 hg8 hv9)
          clear HWR hO8 hg8 hv9 hv8
          go_wp2_with fail
          go_ret
          exact ⟨_, rfl, HF.out⟩
      · rw [if_pos hsz, if_neg (by decide)]
        have hi3 : i < s.P + 3 := by omega
        obtain ⟨BL, hBL⟩ : ∃ BL, b.length = BL := ⟨_, rfl⟩
        obtain ⟨Z, hZ⟩ : ∃ Z, sizeD s.P s.K i = Z := ⟨_, rfl⟩
        rw [hBL, hZ] at hsz
        have PS := fun (W : World) => size_any (w := W) s.P s.K (s.M : Int) h.ok.k1 i
        rw [hZ] at PS
        rw [hBL]
        have HPS := Lib.hid PS
        clear PS hBL hZ hA hb hbl hlo ha
        have n1 : ((BL : Int) == (Z : Int)) = false := beq_eq_false_iff_ne.2 (by omega)
        have n2 : ((BL : Int) != (Z : Int)) = true := by simp [bne, n1]
        have n3 : (BL == Z) = false := beq_eq_false_iff_ne.2 hsz
        go_enter Tryd.func87, Tryd.ntmps87
        go_wp2_with fail
        refine HA.out.mono ?_
        rintro e w1 ⟨rfl, hD, hK⟩
        have hpb : p ≠ w.heap.size := fun e => by have := h.row.lt; omega
        have R1 : RowC w1 w.heap.size 3 [.int .i64 i] := (hK.block w.heap.size (by simp) (fun e => hpb e.symm)).trans hRx
        have b1 := R1.cell (j := 0) (v := .int .i64 i) rfl
        have c0 := hD.row.cell (j := 0) (v := .int .i64 (actS s).P) rfl
        have c1 := hD.row.cell (j := 1) (v := .int .i64 (actS s).K) rfl
        have c2 := hD.row.cell (j := 2) (v := .int .i64 (actS s).M) rfl
        rw [e1] at c0
        rw [e2] at c1
        rw [e3] at c2
        have hbw := (Below.refl w1.heap.size w1).drew
        have HF := Lib.hid (fun (W : World) (hb : Below w1.heap.size w1 W) => ActD.of_act hbx hK HPJ.out hx1 hc1 hD hb)
        clear hD HA hneg hpl hi3 h1 h hsz hK hRx hbx hx1 hc1 R1
        go_wp2_with fail
        go_region_held3 (fun w' => w'.cell? ⟨p, 0, none⟩ = some (.int .i64 s.P) ∧ w'.cell? ⟨p, 1, none⟩ = some (.int .i64 s.K) ∧ w'.cell? ⟨p, 2, none⟩ = some (.int .i64 s.M) ∧ w'.cell? ⟨w.heap.size, 0, none⟩ = some (.int .i64 i)) (first | go_keep | exact ⟨c0, c1, c2, b1⟩ | exact ⟨y0, y1, y2, y3⟩)
          (first
            | (go_at_call 86; refine (HPS.out _).mono ?_; rintro e w2 ⟨rfl, hb2⟩; have hb2' := below_then hbw hb2; have y0 := (hb2'.cell (p := ⟨p, 0, none⟩) (World.block_lt_of_cell? _ _ c0)).trans c0; have y1 := (hb2'.cell (p := ⟨p, 1, none⟩) (World.block_lt_of_cell? _ _ c1)).trans c1; have y2 := (hb2'.cell (p := ⟨p, 2, none⟩) (World.block_lt_of_cell? _ _ c2)).trans c2; have y3 := (hb2'.cell (p := ⟨w.heap.size, 0, none⟩) (World.block_lt_of_cell? _ _ b1)).trans b1))
        have HF2 := Lib.hid (HF.out _ hb2')
        clear HF hb2 hb2'
        go_wp2_with fail
        go_ret
        exact ⟨χ1, rfl, HF2.out⟩
end Go.Proofs.YtapoknpakleiiaaDoor
