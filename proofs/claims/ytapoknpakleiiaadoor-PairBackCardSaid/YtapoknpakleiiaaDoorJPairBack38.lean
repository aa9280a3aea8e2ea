import Derived.Test.YtapoknpakleiiaaDoorJPairBack36
import Derived.Test.YtapoknpakleiiaaDoorJPairBack37
/- The contracts of package disk: the syncs. -/
set_option linter.unusedVariables false
set_option linter.unusedSimpArgs false
namespace Go.Proofs.YtapoknpakleiiaaDoor
open Go.RowKit Go.Tm
set_option maxHeartbeats 400000
set_option maxRecDepth 100000
attribute [local go_sem ↓] Go.wp_at_zero Go.wp_at_succ

set_option maxHeartbeats 4000000 in
theorem synced_any {w : World} {χ : Col} {j p : Nat} {s : DSt} (hd : IsDisk w χ j p s) (ha : s.acts < 4611686018427387904) (hlo : s.loose.length < 5000000000000) (m : Bool) :
    Calls Tryd.prog 88 #[.pointer (some ⟨p, 0, none⟩), .bool m] w fun e w' => ∃ χ', e = .returned (.int .i64 (syncE s)) ∧ ActD w w' χ χ' j p (syncS s m) := by
  obtain ⟨q, h⟩ := hd
  have HA := act_any h ha
  obtain ⟨e1, e2, e3, e4, e5, e6, e7, e8, e9⟩ := actS_same s
  have hok := syncS_ok h.ok m
  cases hB : actB s with
  | false =>
    rw [hB] at HA
    have x1 : syncE s = 1 := by unfold syncE; rw [if_pos hB]
    have x2 : syncS s m = actS s := by unfold syncS; rw [if_pos hB]
    rw [x1, x2]
    have HA := Lib.hid HA
    clear h ha hB hok x1 x2
    go_enter Tryd.func88, Tryd.ntmps88
    go_wp2_with fail
    refine HA.out.mono ?_
    rintro e w1 ⟨rfl, hD, hK⟩
    have HF := Lib.hid (ActD.of_act0 hD hK (Below.refl _ _))
    clear hD hK
    go_wp2_with fail
    go_ret
    exact ⟨_, rfl, HF.out⟩
  | true =>
    rw [hB] at HA
    have x1 : syncE s = 0 := by unfold syncE; rw [if_neg (by rw [hB]; decide)]
    have x2 : syncS s m = { actS s with lasts := layAll s.lasts (s.loose.filter fun x => x.m == m), loose := s.loose.filter fun x => x.m != m } := by unfold syncS; rw [if_neg (by rw [hB]; decide)]
    rw [x2] at hok
    rw [x1, x2]
    have HA := Lib.hid HA
    have hlk := h.look
    have HLK := Lib.hid hlk
    have hp1 := h.ok.p1
    have hll : q.L.length < 5000000000000 := by rw [hlk, List.length_map] at hlo; exact hlo
    rw [hlk, leftL_all, laidL_all] at hok ⊢
    clear h ha hB x1 x2 hlk hlo
    obtain ⟨T, hT⟩ : ∃ T, actS s = T := ⟨_, rfl⟩
    rw [hT] at HA e1 e2 e3 e4 e5 e6 e7 e8 e9 hok ⊢
    have HOK := Lib.hid hok
    clear hok hT
    go_enter Tryd.func88, Tryd.ntmps88
    go_wp2_with fail
    refine HA.out.mono ?_
    rintro e w1 ⟨rfl, hD, hK⟩
    have HD := Lib.hid hD
    obtain ⟨A, c, hv⟩ := ownLe_slice hD.loose.own
    have HC : Hid (∀ k x, q.L[k]? = some x → ∃ g, A = some ⟨g, 0, none⟩ ∧ w1.cell? ⟨g, k * 3, none⟩ = some (.bool x.1.m) ∧ w1.cell? ⟨g, k * 3 + 1, none⟩ = some (.int .i64 (x.1.bs.length : Int)) ∧ w1.cell? ⟨g, k * 3 + 2, none⟩ = some x.2 ∧ χ g = (j, 4) ∧ g < w1.heap.size ∧ q.L.length ≤ c) := Lib.hid fun k x hx => by
      have hO := hD.loose.own
      rw [hv] at hO
      obtain ⟨y1, y2, y3⟩ := wrC_get q.L k x hx
      obtain ⟨g, rfl, z1, _, z4⟩ := ownLe_cell hO y1
      obtain ⟨g2, e2', z2, _⟩ := ownLe_cell hO y2
      obtain ⟨g3, e3', z3, _⟩ := ownLe_cell hO y3
      injection e2' with e2'
      injection e2' with e2'
      injection e3' with e3'
      injection e3' with e3'
      subst e2' e3'
      have hg : q.vo.ownBlock = some g := by rw [hv]; rfl
      exact ⟨g, rfl, z1, z2, z3, hD.loose.col g hg, (ownLe_block hD.loose.own hg).2.1, z4⟩
    have c5 := hD.row.cell (j := 5) (v := q.vo) rfl
    have hcap : q.L.length ≤ c := by
      have hO := hD.loose.own
      rw [hv] at hO
      rcases hO.2 with ⟨a1, a2⟩ | ⟨g, cap, cur, a1, a2, a3, a4, a5⟩
      · omega
      · injection a1 with a1 a1' a1''
        omega
    rw [hv] at c5
    obtain ⟨N, hN⟩ : ∃ N, q.L.length = N := ⟨_, rfl⟩
    have HN := Lib.hid hN
    rw [hN] at c5 hcap hll
    have G0 : GroundK w1 (paint w1.heap.size χ (j, 4)) j q.t1 q.g1 q.vs1 (layAll s.lasts (laidL q.L m 0)) (T.P + 3) := by
      have := hD.lasts.below (paint_ext w1.heap.size χ (j, 4)) (Below.refl _ _)
      rw [e4] at this
      exact this
    have O0 : OwnLe w1 w1.heap.size 118 3 (.slice none 0 0) (leftL q.L m 0).length (wrC (leftL q.L m 0)) := ownLe_nil _ _ _ _
    have hlt := hD.row.lt
    have HE1 := Lib.hid e1
    have HE4 := Lib.hid e4
    clear hD hN hv e1 e2 e3 e4 e5 e6 e7 e8 e9
    go_wp2_with fail
    go_loopw [5, 16] (fun v i wr => ∃ k : Nat, k ≤ N ∧ i = .int .i64 k ∧ GroundK wr (paint w1.heap.size χ (j, 4)) j q.t1 q.g1 q.vs1 (layAll s.lasts (laidL q.L m k)) (T.P + 3) ∧ OwnLe wr w1.heap.size 118 3 v (leftL q.L m k).length (wrC (leftL q.L m k)) ∧ KeptBut (lastS χ j q.t1 T.P) w1 wr) (fun _ i _ => N - (intOf i).toNat)
    case atStart => exact ⟨0, by omega, rfl, G0, O0, KeptBut.refl _ _⟩
    case round =>
      obtain ⟨k, hk, rfl, hG, hO, hKb⟩ := hrel
      obtain ⟨wo, rfl⟩ : ∃ wo : World, wo = wr := ⟨_, rfl⟩
      by_cases hkt : k < N
      · have hkL : k < q.L.length := by rw [HN.out]; exact hkt
        obtain ⟨x, hx⟩ : ∃ x, q.L[k]? = some x := ⟨_, List.getElem?_eq_getElem hkL⟩
        obtain ⟨g, rfl, y0, y1, y2, yc, yl, _⟩ := HC.out k x hx
        have ht := HD.out.tags
        have hgS : ¬ lastS χ j q.t1 T.P g := fun h => by have := h.2.1; rw [yc] at this; dsimp only at this; omega
        have hpS : ¬ lastS χ j q.t1 T.P p := fun h => by have := h.2.1; rw [HD.out.col] at this; dsimp only at this; omega
        have z0 := hKb.cell (a := ⟨g, k * 3, none⟩) y0 hgS
        have z1 := hKb.cell (a := ⟨g, k * 3 + 1, none⟩) y1 hgS
        have z2 := hKb.cell (a := ⟨g, k * 3 + 2, none⟩) y2 hgS
        have hR : RowC wo p 100 (diskC T q) := (hKb.block p HD.out.row.lt hpS).trans HD.out.row
        have hxm : x ∈ q.L := List.mem_of_getElem? hx
        have hcl := (HD.out.loose.clos x hxm).ext (w' := wo) (paint_ext w1.heap.size χ (j, 4)) (fun k hk h0 => hKb.block k hk (fun h => by have := h.1; have := HD.out.pos; omega))
        have hwx : WrOk T.P T.K x.1 := HD.out.ok.loose _ (by rw [HD.out.look]; exact List.mem_map.2 ⟨x, hxm, rfl⟩)
        have HCL := Lib.hid hcl
        obtain ⟨b1, b2, b3, c3, hf, _, _, _, r1, r2, r3⟩ := hcl
        obtain ⟨MB, hMB⟩ : ∃ MB, x.1.m = MB := ⟨_, rfl⟩
        obtain ⟨BL, hBL⟩ : ∃ BL, x.1.bs.length = BL := ⟨_, rfl⟩
        have HFE := Lib.hid hf
        have HMB := Lib.hid hMB
        have HBL := Lib.hid hBL
        have HX := Lib.hid hx
        have HWX := Lib.hid hwx
        rw [hMB] at z0
        rw [hBL] at z1
        rw [hf] at z2
        have m0 : (0 : Int) ≤ (k : Int) := by omega
        have m1 : (k : Int) < (N : Int) := by omega
        have wlt : w1.heap.size ≤ wo.heap.size := hKb.size
        clear y0 y1 y2 hf hMB hBL hx hwx
        by_cases hm : MB = m
        · have hb1 : (MB != m) = false := by simp [bne, hm]
          have hL1 := leftL_no (L := q.L) (m := m) HX.out (by rw [HMB.out]; exact hm)
          have hL2 := laidL_no (L := q.L) (m := m) HX.out (by rw [HMB.out]; exact hm)
          have HL1 := Lib.hid hL1
          have HL2 := Lib.hid hL2
          have c3' := hR.cell (j := 3) (v := .slice (some ⟨q.g1, 0, none⟩) (T.P + 3) (T.P + 3)) rfl
          have hba : Below wo.heap.size wo (wo.alloc (.cells #[.bool MB, .int .i64 BL, .func (.func 101) #[] #[.pointer (some ⟨b1, 0, none⟩), .pointer (some ⟨b2, 0, none⟩)]] 118)).drew := below_drew1 ((Below.refl _ _).alloc (Nat.le_refl _) _)
          have hGa := hG.below (Ext.refl _ _) hba
          have hRO : RowsOk T.P T.K (layAll s.lasts (laidL q.L m k)) := by
            rw [← HE4.out]
            exact HD.out.ok.lasts.layAll _ (fun y hy => HD.out.ok.loose y (by rw [HD.out.look]; exact laidL_sub y hy))
          have hx200 : x.1.bs.length ≤ 200 := by
            have := sizeD_hi T.P T.K x.1.pl
            have := HD.out.ok.k1
            rw [HWX.out.len]
            omega
          have PL := dlay_any hGa hRO.len (by rw [HE1.out]; omega) x.1 HWX.out.pl (by rw [(hRO.getD HWX.out.pl).2]; exact HWX.out.len) (r1.below hba) (r2.below hba) (r3.below hba) x.1.bs.length (Nat.le_refl _) hx200
          rw [HBL.out] at PL
          have HPL := Lib.hid PL
          have HS := Lib.hid (fun (w7 : World) (hG7 : GroundK w7 (paint w1.heap.size χ (j, 4)) j q.t1 q.g1 q.vs1 (layR (layAll s.lasts (laidL q.L m k)) x.1 BL) (T.P + 3)) (hK7 : KeptBut (fun q' => paint w1.heap.size χ (j, 4) q' = (j, q.t1 + 1 + x.1.pl)) (wo.alloc (.cells #[.bool MB, .int .i64 BL, .func (.func 101) #[] #[.pointer (some ⟨b1, 0, none⟩), .pointer (some ⟨b2, 0, none⟩)]] 118)).drew w7) => (show GroundK w7 (paint w1.heap.size χ (j, 4)) j q.t1 q.g1 q.vs1 (layAll s.lasts (laidL q.L m (k + 1))) (T.P + 3) ∧ OwnLe w7 w1.heap.size 118 3 u5 (leftL q.L m (k + 1)).length (wrC (leftL q.L m (k + 1))) ∧ KeptBut (lastS χ j q.t1 T.P) w1 w7 by
            rw [HL1.out, HL2.out, layAll_snoc, HBL.out]
            refine ⟨hG7, ownLe_same (ownLe_below hO hba) fun q' hq' => hK7.block q' (ownLe_block (ownLe_below hO hba) hq').2.1 (fun e => ?_), lastS_mono HWX.out.pl (paint_ext _ _ _) (hKb.below hba) hK7⟩
            rw [paint_new (ownLe_block hO hq').1] at e
            injection e with _ e
            have := HD.out.tags
            omega))
          clear hL1 hL2 PL hGa hRO hx200 hb1
          subst hm
          have hRa : RowC (wo.alloc (.cells #[.bool MB, .int .i64 BL, .func (.func 101) #[] #[.pointer (some ⟨b1, 0, none⟩), .pointer (some ⟨b2, 0, none⟩)]] 118)) wo.heap.size 118 [.bool MB, .int .i64 BL, (.func (.func 101) #[] #[.pointer (some ⟨b1, 0, none⟩), .pointer (some ⟨b2, 0, none⟩)])] := heap_alloc_new _ _
          have hba0 : Below wo.heap.size wo (wo.alloc (.cells #[.bool MB, .int .i64 BL, .func (.func 101) #[] #[.pointer (some ⟨b1, 0, none⟩), .pointer (some ⟨b2, 0, none⟩)]] 118)) := (Below.refl _ _).alloc (Nat.le_refl _) _
          have c3a := (hR.below hba0).cell (j := 3) (v := .slice (some ⟨q.g1, 0, none⟩) (T.P + 3) (T.P + 3)) rfl
          have a1 := hRa.cell (j := 1) (v := .int .i64 BL) rfl
          have a2 := hRa.cell (j := 2) (v := (.func (.func 101) #[] #[.pointer (some ⟨b1, 0, none⟩), .pointer (some ⟨b2, 0, none⟩)])) rfl
          go_wp2_with fail
          obtain ⟨wa, hwa⟩ : ∃ wa, wo.alloc (.cells #[.bool MB, .int .i64 BL, .func (.func 101) #[] #[.pointer (some ⟨b1, 0, none⟩), .pointer (some ⟨b2, 0, none⟩)]] 118) = wa := ⟨_, rfl⟩
          have HWA := Lib.hid hwa
          rw [hwa] at c3a a1 a2 HPL HS ⊢
          clear c3' hwa hR hRa hba0 z0 z1 z2
          obtain ⟨SZ, hSZ⟩ : ∃ SZ, wo.heap.size = SZ := ⟨_, rfl⟩
          rw [hSZ] at a1 a2 ⊢
          go_still_tail 8, (by kernel_rfl)
          change wpList _ _ _ _ _ wa.drew
          go_wp2_with fail
          refine HPL.out.mono ?_
          rintro e w7 ⟨⟨v7, rfl⟩, G7, K7⟩
          have HG7 := Lib.hid (HS.out w7 G7 K7)
          clear HS G7 K7 hba hO hG hKb a1 a2 c3a
          go_wp2_with fail
          go_roundw
          case rel => exact ⟨k + 1, by omega, by go_num, HG7.out.1, HG7.out.2.1, HG7.out.2.2⟩
          case measure => simp [intOf]; omega
        · have hb1 : (MB == m) = false := beq_eq_false_iff_ne.2 hm
          have hL1 := leftL_yes (L := q.L) (m := m) HX.out (by rw [HMB.out]; exact hm)
          have hL2 := laidL_yes (L := q.L) (m := m) HX.out (by rw [HMB.out]; exact hm)
          have HL1 := Lib.hid hL1
          have HL2 := Lib.hid hL2
          have hbl : (leftL q.L m k).length < 5000000000000 := by have := leftL_len q.L m k; have := HN.out; omega
          clear hm hL1 hL2
          have hba : Below wo.heap.size wo ((wo.alloc (.cells #[.bool MB, .int .i64 BL, .func (.func 101) #[] #[.pointer (some ⟨b1, 0, none⟩), .pointer (some ⟨b2, 0, none⟩)]] 118)).alloc (.cells #[.bool MB, .int .i64 BL, .func (.func 101) #[] #[.pointer (some ⟨b1, 0, none⟩), .pointer (some ⟨b2, 0, none⟩)]] 118)) := ((Below.refl _ _).alloc (Nat.le_refl _) _).alloc (by simp) _
          have hra : RowC ((wo.alloc (.cells #[.bool MB, .int .i64 BL, .func (.func 101) #[] #[.pointer (some ⟨b1, 0, none⟩), .pointer (some ⟨b2, 0, none⟩)]] 118)).alloc (.cells #[.bool MB, .int .i64 BL, .func (.func 101) #[] #[.pointer (some ⟨b1, 0, none⟩), .pointer (some ⟨b2, 0, none⟩)]] 118)) (wo.heap.size + 1) 118 (wrC [x]) := by
            have := heap_alloc_new (wo.alloc (.cells #[.bool MB, .int .i64 BL, .func (.func 101) #[] #[.pointer (some ⟨b1, 0, none⟩), .pointer (some ⟨b2, 0, none⟩)]] 118)) (.cells #[.bool MB, .int .i64 BL, .func (.func 101) #[] #[.pointer (some ⟨b1, 0, none⟩), .pointer (some ⟨b2, 0, none⟩)]] 118)
            have hs : (wo.alloc (.cells #[.bool MB, .int .i64 BL, .func (.func 101) #[] #[.pointer (some ⟨b1, 0, none⟩), .pointer (some ⟨b2, 0, none⟩)]] 118)).heap.size = wo.heap.size + 1 := by simp
            rw [hs] at this
            rw [show wrC [x] = [.bool MB, .int .i64 BL, (.func (.func 101) #[] #[.pointer (some ⟨b1, 0, none⟩), .pointer (some ⟨b2, 0, none⟩)])] by simp [wrC, HMB.out, HBL.out, HFE.out]]
            exact this
          have hna : ∀ j' u, (wrC [x])[j']? = some u → ((wo.alloc (.cells #[.bool MB, .int .i64 BL, .func (.func 101) #[] #[.pointer (some ⟨b1, 0, none⟩), .pointer (some ⟨b2, 0, none⟩)]] 118)).alloc (.cells #[.bool MB, .int .i64 BL, .func (.func 101) #[] #[.pointer (some ⟨b1, 0, none⟩), .pointer (some ⟨b2, 0, none⟩)]] 118)).cell? ((⟨wo.heap.size + 1, 0, none⟩ : Addr).add j') = some u := fun j' u hj' => by
            rw [Addr.add_lit, Nat.zero_add]
            exact hra.cell hj'
          have hone : ∀ u ∈ wrC [x], u.oneCell' = true := fun u hu => by
            simp [wrC, HFE.out] at hu
            rcases hu with rfl | rfl | rfl <;> rfl
          have hOa := ownLe_below hO hba
          have hsz : w1.heap.size ≤ ((wo.alloc (.cells #[.bool MB, .int .i64 BL, .func (.func 101) #[] #[.pointer (some ⟨b1, 0, none⟩), .pointer (some ⟨b2, 0, none⟩)]] 118)).alloc (.cells #[.bool MB, .int .i64 BL, .func (.func 101) #[] #[.pointer (some ⟨b1, 0, none⟩), .pointer (some ⟨b2, 0, none⟩)]] 118)).heap.size := Nat.le_trans wlt hba.size
          have HG := Lib.hid (fun (w7 : World) (v7 : Value) (hO7 : OwnLe w7 w1.heap.size 118 3 v7 ((leftL q.L m k).length + 1) (wrC (leftL q.L m k) ++ wrC [x])) (hg7 : ((wo.alloc (.cells #[.bool MB, .int .i64 BL, .func (.func 101) #[] #[.pointer (some ⟨b1, 0, none⟩), .pointer (some ⟨b2, 0, none⟩)]] 118)).alloc (.cells #[.bool MB, .int .i64 BL, .func (.func 101) #[] #[.pointer (some ⟨b1, 0, none⟩), .pointer (some ⟨b2, 0, none⟩)]] 118)).grownBy w7 u5.ownBlock) => (show GroundK w7 (paint w1.heap.size χ (j, 4)) j q.t1 q.g1 q.vs1 (layAll s.lasts (laidL q.L m (k + 1))) (T.P + 3) ∧ OwnLe w7 w1.heap.size 118 3 v7 (leftL q.L m (k + 1)).length (wrC (leftL q.L m (k + 1))) ∧ KeptBut (lastS χ j q.t1 T.P) w1 w7 by
            rw [HL1.out, HL2.out, List.length_append, wrC_app]
            have hn : ∀ g, u5.ownBlock = some g → w1.heap.size ≤ g := fun g hg => (ownLe_block hO hg).1
            refine ⟨hG.ext (Ext.refl _ _) fun q' hq' hj1 hj2 hj3 => (hg7.block q' (Nat.lt_of_lt_of_le hq' hba.size) (fun e => ?_)).trans (hba.block q' hq'), hO7, (hKb.below hba).grown hg7 (fun g hg => .inr (hn g hg))⟩
            have := hn q' e.symm
            rw [paint_new this] at hj2
            have := HD.out.tags
            dsimp only at hj2
            omega))
          have hbm : (leftL q.L m k).length + 1 ≤ maxLen := by unfold maxLen; omega
          have hb24 : ((leftL q.L m k).length + 1) * 24 ≤ 140737488355328 := by omega
          clear hbl
          go_wp2_with (at_builtin; refine wpList_appLe rfl _ _ _ rfl w1.heap.size 118 Tryd.underlying98 (z := .agg #[.bool false, .int .i64 0, .nilFunc]) (size := 3) (bytes := 24) (by kernel_rfl) rfl (by decide) _ (leftL q.L m k).length _ rfl hOa _ 1 1 _ rfl rfl hna hone hbm hb24 hsz ?_)
          intro v7 w7 hO7 hg7 _
          have HG7 := Lib.hid (HG.out w7 v7 hO7 hg7)
          clear HG hO7 hg7 hOa hna hra hba hO hG hKb
          go_wp2_with fail
          go_roundw
          case rel => exact ⟨k + 1, by omega, by go_num, HG7.out.1, HG7.out.2.1, HG7.out.2.2⟩
          case measure => simp [intOf]; omega
      · have he : k = N := by omega
        subst he
        have hR : RowC wo p 100 (diskC T q) := (hKb.block p HD.out.row.lt (fun h => by have := h.2.1; have := HD.out.tags.1; rw [HD.out.col] at *; dsimp only at *; omega)).trans HD.out.row
        have c5' := hR.cell (j := 5) (v := q.vo) rfl
        have f5 := hR.free 5
        obtain ⟨A2, c2, rfl⟩ := ownLe_slice hO
        obtain ⟨LB, hLB⟩ : ∃ LB, leftL q.L m q.L.length = LB := ⟨_, rfl⟩
        have HS := DiskR.synced HD.out hG hKb hO leftL_sub rfl (by rw [← HN.out]; exact HOK.out)
        have HF : Hid (ActD w (wo.setCell ⟨p, 5, none⟩ (.slice A2 (leftL q.L m k).length c2)) χ (paint w1.heap.size χ (j, 4)) j p { T with lasts := layAll s.lasts (laidL q.L m k), loose := (leftL q.L m k).map Prod.fst }) := Lib.hid
          ⟨⟨_, HS.1⟩, (Touch.of_own hK (by rw [HD.out.col]) (Ext.refl _ _)).trans ⟨HS.2, paint_ext _ _ _⟩⟩
        obtain ⟨LL, hLL⟩ : ∃ LL, (leftL q.L m k).length = LL := ⟨_, rfl⟩
        rw [hLL] at HF ⊢
        clear HS hO hG hKb hR HLK
        go_wp2_with fail
        go_ret
        exact ⟨_, rfl, by rw [HN.out]; exact HF.out⟩
end Go.Proofs.YtapoknpakleiiaaDoor
