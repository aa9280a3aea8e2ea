import Derived.Test.YtaldpngilgaciabDoorLaw8
import Derived.Test.YtaldpngilgaciabDoorDoor
import Derived.Test.YtaldpngilgaciabDoorLaw8b
import Derived.Test.YtaldpngilgaciabDoorFrameTn
import Derived.Test.YtaldpngilgaciabDoorRoom
import Derived.Test.YtaldpngilgaciabDoorMarked08
/- FrameFresh: the walk. -/
set_option linter.unusedVariables false
set_option linter.unusedSimpArgs false
namespace Go.Proofs.YtaldpngilgaciabDoor
open Go.RowKit Go.Tm Go.ChangeShapes Go.WideShapes Go.ChangeAt
set_option maxHeartbeats 400000
set_option maxRecDepth 100000

@[local go_sem] theorem S8_size (l : List UInt8) : (S8 l).size = l.length := by simp [S8, ByteArray.size]
theorem frameL_inj {lsn : Int} {a b : List UInt8} (hl : okLsn lsn = true) (ha : okBody a.length = true) (hb : okBody b.length = true) (h : frameL lsn.toNat a = frameL lsn.toNat b) : a = b := by
  have h1 := openB_frame lsn a [] hl ha
  have h2 := openB_frame lsn b [] hl hb
  rw [h, h2] at h1
  exact (Option.some.inj h1).symm

set_option maxHeartbeats 1600000 in
theorem frameFresh_any {w : World} (hT : Tb w) {A : Option Addr} {n c : Nat} {l : List UInt8} (h : Rda w A c l) (hn : n = l.length) (lsn0 : Int) :
    Calls Tryd.prog 8 #[.int .i64 lsn0, .slice A n c] w fun e w' => e = .returned (.bool true) ∧ Below w.heap.size w w' := by
  subst hn
  have HI := Lib.hid (into_any lsn0 1152921504606846976 (by omega) (by omega) w)
  obtain ⟨L, hL⟩ : ∃ L, lsn0 % 1152921504606846976 = L := ⟨_, rfl⟩
  have hL0 : 0 ≤ L := by omega
  have hL1 : L < 1152921504606846976 := by omega
  rw [hL] at HI
  clear hL
  have hok : okLsn (1 + L) = true := (okLsn_iff _).2 (by omega)
  have hbo := bodyL_ok l
  have HB := Lib.hid (bodied_any h rfl)
  obtain ⟨bd, hbd⟩ : ∃ bd, bodyL l = bd := ⟨_, rfl⟩
  rw [hbd] at HB hbo
  clear hbd
  obtain ⟨hb0, hb1⟩ := (okBody_iff _).1 hbo
  have hfl := frameL_length (1 + L).toNat bd
  have hop := fun t => openB_frame (1 + L) bd t hok hbo
  have htn := fun k (h4 : 4 ≤ k) (hk : k < _) b hne => openB_turned (lsn := 1 + L) (body := bd) hok hbo k h4 hk b hne
  have hinj := fun (b : List UInt8) (hb : okBody b.length = true) => frameL_inj (a := b) (b := bd) hok hb hbo
  have HWW := fun (b : List UInt8) (hb : okBody b.length = true) (w1 : World) (T1 : Tb w1) (A1 : Option Addr) (n1 c1 : Nat) (h1 : Rda w1 A1 c1 b) (hn1 : n1 = b.length) => wrap_any (n := n1) T1 h1 hn1 (by have := (okBody_iff _).1 hb; omega) (1 + L)
  have HW := fun (b : List UInt8) (hb : okBody b.length = true) (w1 : World) (T1 : Tb w1) (A1 : Option Addr) (n1 c1 : Nat) (h1 : Rda w1 A1 c1 b) (hn1 : n1 = b.length) =>
    (show Calls Tryd.prog 9 #[.int .i64 (1 + L), .slice A1 n1 c1] w1 fun e w' => ∃ A' c', e = .returned (.tuple #[.slice A' (b.length + 16) c', .int .i64 0]) ∧ New 5 w1 w' A' c' (frameL (1 + L).toNat b) by
      have e1 : wrapE (1 + L) b = 0 := by unfold wrapE; rw [if_neg (by rw [hb]; decide), if_neg (by rw [hok]; decide)]
      have e2 : wrapV (1 + L) b = frameL (1 + L).toNat b := if_pos e1
      have := HWW b hb w1 T1 A1 n1 c1 h1 hn1
      rw [e1, e2, frameL_length] at this
      exact this)
  clear HWW
  have HBO := Lib.hid hbo
  have HW' := Lib.hid HW
  have HINJ := Lib.hid hinj
  have HW0 := Lib.hid (HW bd hbo)
  obtain ⟨F, hF⟩ : ∃ F, frameL (1 + L).toNat bd = F := ⟨_, rfl⟩
  rw [hF] at hfl hop htn HINJ HW0
  have Hop := Lib.hid hop
  have Htn := Lib.hid htn
  have Hfl := Lib.hid hfl
  clear hF HW hop htn hok hbo hfl hinj
  go_enter Tryd.func8, Tryd.ntmps8
  go_wp2_with fail
  refine HI.out.mono ?_
  rintro e w1 ⟨rfl, rfl⟩
  go_wp2_with fail
  refine HB.out.mono ?_
  rintro e w1 ⟨A1, c1, rfl, h1, b1⟩
  have T1 := hT.below b1
  have hnil := Own8.nilRow w1 w1.heap.size 5
  clear HI HB h
  go_wp2_with (at_builtin; refine wpList_app2 (l := []) (m := bd) rfl _ _ rfl tU8 rfl hnil rfl rfl h1 (by simp; omega) (Nat.le_refl _) ?_)
  intro v2 w2 o2 hw2
  try rw [List.nil_append] at o2
  have bb2 : Below w1.heap.size w1 w2 := grown_below hw2.grown (Nat.le_refl _) (fun k hk => by simp [Value.ownBlock] at hk)
  clear hw2 hnil
  go_wp2_with fail
  go_loopw [5, 6] (fun x i wr => ∃ k : Nat, k ≤ 200 ∧ i = .int .i64 k ∧ Own8 wr w1.heap.size 5 x (bd ++ repB k 165) ∧ Below w1.heap.size w1 wr) (fun _ i _ => 200 - (intOf i).toNat)
  case atStart => exact ⟨0, by omega, rfl, by rw [repB_zero, List.append_nil]; exact o2, bb2⟩
  case round =>
    obtain ⟨k, hk, rfl, ho, hb⟩ := hrel
    by_cases hkt : k < 200
    · have ho' := ho.alloc (.cells #[.int .u8 165] 5)
      have hb' := hb.alloc hb.size (.cells #[.int .u8 165] 5)
      have hb165 : Rda (wr.alloc (.cells #[.int .u8 165] 5)) (some ⟨wr.heap.size, 0, none⟩) 1 [165] := Rda.box wr _ 165 165 (by decide)
      clear ho hb
      go_wp2_with (at_builtin; refine wpList_app2 (l := bd ++ repB k 165) (m := [165]) rfl _ _ rfl tU8 rfl ho' rfl rfl hb165 (by rw [List.length_append, repB_length]; simp; omega) hb'.size ?_)
      intro v3 w3 o3 hw3
      replace o3 : Own8 w3 w1.heap.size 5 v3 (bd ++ repB (k + 1) 165) := by rw [repB_succ, ← List.append_assoc]; first | exact o3 | (rw [List.append_assoc]; exact o3)
      have hb3 := ho'.grown hw3.grown hb' hb'.size (Nat.le_refl _)
      clear hw3 ho' hb' hb165
      go_wp2_with fail
      go_roundw
      case rel => exact ⟨k + 1, by omega, by go_num, o3, hb3⟩
      case measure => simp [intOf]; omega
    · have he : k = 200 := by omega
      subst he
      obtain ⟨wh, rfl⟩ : ∃ wh : World, wh = wr := ⟨_, rfl⟩
      obtain ⟨Aw, cw, rfl, _⟩ := own_rda ho
      obtain ⟨gw, rfl, _⟩ := Own8.block ho (by rw [List.length_append, repB_length]; omega)
      have hR := RoomR.of_own ho
      have hwl : (bd ++ repB 200 165).length = bd.length + 200 := by rw [List.length_append, repB_length]
      have hwt : (bd ++ repB 200 165).take bd.length = bd := List.take_left
      have hwd : (bd ++ repB 200 165).drop bd.length = repB 200 165 := List.drop_left
      have hwg : ∀ j, j < 200 → (bd ++ repB 200 165).getD (bd.length + j) 0 = 165 := fun j hj => by rw [getD_append_right, repB_get _ _ _ hj]
      rw [hwl]
      obtain ⟨wd, hwd0⟩ : ∃ wd, bd ++ repB 200 165 = wd := ⟨_, rfl⟩
      rw [hwd0] at hR hwl hwt hwd hwg
      have HWL := Lib.hid hwl
      have HWT := Lib.hid hwt
      have HWD := Lib.hid hwd
      have HWG := Lib.hid hwg
      have hcw := hR.cap
      rw [hwl] at hcw
      have hglt := hR.lt
      clear ho hwl hwt hwd hwg hwd0 o2 bb2
      go_wp2_with fail
      have T3 := hT.below (b1.trans (hb.mono b1.size))
      have P3 : Pool wh wh.heap.size 5 [] := Pool.nil _ _ _
      refine (HW0.out wh T3 _ _ _ (by have := hR.rda.take bd.length (by rw [HWL.out]; omega); rw [HWT.out] at this; exact this) rfl).mono ?_
      rintro e w4 ⟨Af, cf, rfl, hN⟩
      have P4 := P3.push hN (Nat.le_refl _)
      rw [List.nil_append] at P4
      have hR4 := hR.below hN.below
      have bb4 := below_then hb hN.below
      have hwh := hb.size
      have q4 := hN.below.size
      clear hR T3 P3 hN hb
      have T4 := hT.below (b1.trans (bb4.mono b1.size))
      go_wp2_with fail
      refine (HW0.out w4 T4 _ _ _ (by have := hR4.rda.take bd.length (by rw [HWL.out]; omega); rw [HWT.out] at this; exact this) rfl).mono ?_
      rintro e w5 ⟨Ag, cg, rfl, hN⟩
      have P5 := P4.push hN q4
      have hR5 := hR4.below hN.below
      have bb5 := below_then bb4 hN.below
      have q5 := Nat.le_trans q4 hN.below.size
      clear hR4 T4 P4 hN bb4
      have T5 := hT.below (b1.trans (bb5.mono b1.size))
      have rf := P5.rda (x := (Af, cf, F)) (by simp)
      have rg := P5.rda (x := (Ag, cg, F)) (by simp)
      go_wp2_with fail
      refine (same_yes rf rg Hfl.out.symm Hfl.out.symm rfl).mono ?_
      rintro e w6 ⟨rfl, rfl⟩
      clear rg
      go_wp2_with fail
      refine (known_any T5).mono ?_
      rintro e w6 ⟨rfl, hb⟩
      have P6 := Lib.hid (P5.below hb)
      have hR6 := hR5.below hb
      have bb6 := below_then bb5 hb
      have q6 := Nat.le_trans q5 hb.size
      have rf6 := rf.below hb
      clear hR5 T5 P5 hb bb5 rf
      have hcf := fun dst hd => run_conv_rd (P := Tryd.prog) w6 tU8 rf6 (bd.length + 16) Hfl.out.symm dst hd
      have hlt6 := Lib.hid P6.out.lt
      go_wp2_with (first
        | (refine wpList_convBytes rfl _ rfl tU8 Tryd.underlying9 rfl (l := F) (by rw [Hfl.out]; omega) ?_)
        | fail)
      intro c7 w7 r7 hb
      have hR7 := hR6.below hb
      have bb7 := below_then bb6 hb
      have hc200 : bd.length + 200 ≤ cw := hcw
      have hpc : Rda w7 (pieceAt (some ⟨gw, 0, none⟩) bd.length cw) (cw - bd.length) (repB 200 165) := by
        have := hR7.rda.drop bd.length (by rw [HWL.out]; omega)
        rwa [HWD.out] at this
      have q7 := Lib.hid hb.size
      have hz7 : w6.heap.size ≤ w7.heap.size := hb.size
      go_wp2_with (first
        | ((with_reducible refine at_slice ?_); refine wpList_sliceAny (L := bd.length) (H := bd.length + 200) (M := cw) rfl _ _ _ _ rfl tU8 rfl rfl rfl rfl (.at _ _ _ _ rfl) (.no _) (.no _) (.inl rfl) (by omega) (by omega) (by omega) ?_)
        | (at_builtin; refine wpList_appRoom (l := F) (m := repB 200 165) rfl _ _ rfl tU8 rfl r7 rfl (by rw [repB_length]; omega) hpc (by rw [repB_length]; omega) (by rw [Hfl.out, repB_length]; omega) hz7 ?_))
      intro gr cr w8 r8 hgr hg8
      rw [repB_length]
      have bb8 := bb7.grown hg8 bb7.size (fun k hk => by injection hk with hk; have := bb6.size; omega)
      have hR8 := hR7.grown hg8 (by intro hk; injection hk with hk; omega)
      have P7 := P6.out.below hb
      have P8 := Lib.hid (P7.grown hg8 (fun x hx g hg hk => by injection hk with hk; have := hlt6.out x hx g hg; omega))
      have q8 := Nat.le_trans q7.out hg8.size
      have hgr2 : w6.heap.size ≤ gr := r8.base_
      have hRl : (F ++ repB 200 165).length = bd.length + 216 := by rw [List.length_append, repB_length, Hfl.out]
      have hRt : (F ++ repB 200 165).take F.length = F := List.take_left
      have hRs : ∀ v, ((F ++ repB 200 165).set 12 v).take F.length = F.set 12 v := fun v => by
        rw [List.set_append_left _ _ (by rw [Hfl.out]; omega)]
        exact List.take_left' (by simp)
      have hRg : ∀ j, j < 200 → (F ++ repB 200 165).getD (F.length + j) 0 = 165 := fun j hj => by rw [getD_append_right, repB_get _ _ _ hj]
      have hR12 : (F ++ repB 200 165).getD 12 0 = F.getD 12 0 := by
        have : 12 < F.length := by rw [Hfl.out]; omega
        simp [List.getD, List.getElem?_append_left this]
      obtain ⟨R, hR0⟩ : ∃ R, F ++ repB 200 165 = R := ⟨_, rfl⟩
      rw [hR0] at hRl hRt hRs hRg hR12 r8
      have HRL := Lib.hid hRl
      have HRT := Lib.hid hRt
      have HRS := Lib.hid hRs
      have HRG := Lib.hid hRg
      have HR12 := Lib.hid hR12
      have hcr := r8.cap
      rw [hRl] at hcr
      have hop0 := Hop.out []
      rw [List.append_nil] at hop0
      have HO := fun (W : World) (T : Tb W) (B : Option Addr) (n : Nat) (d : Nat) (hr : Rda W B d F) (hn : n = F.length) => open_any (n := n) T hr hn (by rw [Hfl.out]; omega) (1 + L)
      obtain ⟨z1, z2, z3⟩ := open_some hop0
      rw [z1, z2, z3] at HO
      have HO' := Lib.hid HO
      have H8F := Lib.hid (S8_size F)
      clear hRl hRt hRs hRg hR12 hR0 hop0 HO z1 z2 z3 hR6 hR7 bb6 bb7 P6 P7 hpc hb r7 hgr hg8 rf6 hcf q4 q5 q7
      have T8 := hT.below (b1.trans (bb8.mono b1.size))
      have rr8 := r8.rda.take F.length (by rw [HRL.out, Hfl.out]; omega)
      rw [HRT.out] at rr8
      have hFc : (F.length : Int) ≤ (cr : Int) := by rw [Hfl.out]; omega
      go_wp2_with fail
      refine (HO'.out w8 T8 _ _ _ rr8 rfl).mono ?_
      rintro e w9 ⟨Ac, cc, rfl, hN⟩
      have P9 := P8.out.push hN (by omega)
      have hR9 := hR8.below hN.below
      have r9 := r8.below hN.below
      have bb9 := below_then bb8 hN.below
      have Nc := Lib.hid (fun g (hg : (pv (Ac, cc, bd)).ownBlock = some g) => (World.ownsRow.lt hN.own g hg).1)
      have q9 := Nat.le_trans q8 hN.below.size
      have hz9 := hN.below.size
      have hgl := r8.lt
      clear hR8 r8 rr8 T8 P8 hN bb8
      have T9 := hT.below (b1.trans (bb9.mono b1.size))
      have rr9 := r9.rda.take F.length (by rw [HRL.out, Hfl.out]; omega)
      rw [HRT.out] at rr9
      go_wp2_with fail
      refine (HO'.out w9 T9 _ _ _ rr9 rfl).mono ?_
      rintro e w10 ⟨Ad, cd, rfl, hN⟩
      have P10 := P9.push hN (by omega)
      have hR10 := hR9.below hN.below
      have r10 := r9.below hN.below
      have bb10 := below_then bb9 hN.below
      have Nd := Lib.hid (fun g (hg : (pv (Ad, cd, bd)).ownBlock = some g) => (World.ownsRow.lt hN.own g hg).1)
      have q10 := Nat.le_trans q9 hN.below.size
      have rc := P10.rda (x := (Ac, cc, bd)) (by simp)
      have rd := P10.rda (x := (Ad, cd, bd)) (by simp)
      have hbd := h1.below bb10
      clear hR9 r9 rr9 T9 P9 hN bb9
      go_wp2_with fail
      refine (same_yes rc hbd rfl rfl rfl).mono ?_
      rintro e w11 ⟨rfl, rfl⟩
      go_wp2_with fail
      refine (same_yes rd hbd rfl rfl rfl).mono ?_
      rintro e w11 ⟨rfl, rfl⟩
      simp only [List.cons_append, List.nil_append] at P10
      have P11 := P10.below (((Below.refl _ w10).alloc (Nat.le_refl _)) (.cells #[.slice Af (bd.length + 16) cf, .slice Ag (bd.length + 16) cg, .slice Ac bd.length cc, .slice Ad bd.length cd] 22))
      have hm := marked_pool (n := 4) (cap := 4) (by simp) P11 (by simp; omega) (by simp [Hfl.out]; omega) (heap_alloc_new w10 _) (by
        intro j hj
        have : j = 0 ∨ j = 1 ∨ j = 2 ∨ j = 3 := by simp at hj; omega
        rcases this with rfl | rfl | rfl | rfl <;> simp [pv, Hfl.out]) rfl (by simp)
      have hge := poolS_ge P11
      have HM := Lib.hid hm
      have hnr : ¬ poolS [(Af, cf, F), (Ag, cg, F), (Ac, cc, bd), (Ad, cd, bd)] gr := by
        rintro ⟨x, hx, hg⟩
        simp only [List.mem_cons, List.not_mem_nil, or_false] at hx
        rcases hx with rfl | rfl | rfl | rfl
        · have := hlt6.out (Af, cf, F) (by simp) gr hg; omega
        · have := hlt6.out (Ag, cg, F) (by simp) gr hg; omega
        · have := Nc.out gr hg; omega
        · have := Nd.out gr hg; omega
      clear rc rd hm P10
      go_wp2_with fail
      refine HM.out.mono ?_
      rintro e w12 ⟨rfl, hK⟩
      have bb12 := (bb10.alloc bb10.size _).trans ((hK.toBelow hge (by simp; omega)).mono hwh)
      have hR12 := (hR10.below (((Below.refl _ w10).alloc (Nat.le_refl _)) _)).keptBut hK (fun hh => by have := hge gw hh; omega)
      have r12 := (r10.below (((Below.refl _ w10).alloc (Nat.le_refl _)) _)).keptBut hK hnr
      clear hK HM hnr hge P11 hR10 r10 bb10 hbd Nc Nd hlt6
      go_wp2_with fail
      go_loop [19] (fun i => ∃ k : Nat, k ≤ 200 ∧ i = .int .i64 k) (fun i => 200 - (intOf i).toNat)
      case atStart => exact ⟨0, by omega, rfl⟩
      case round =>
        obtain ⟨k, hk, rfl⟩ := hrel
        by_cases hkt : k < 200
        · have z1 := hR12.cells (bd.length + k) (by rw [HWL.out]; omega)
          rw [HWG.out k hkt] at z1
          have z2 := r12.cells (F.length + k) (by rw [HRL.out, Hfl.out]; omega)
          rw [HRG.out k hkt] at z2
          have hFb : F.length ≤ 1040 := by rw [Hfl.out]; omega
          go_wp2_with fail
          go_round
          case rel => exact ⟨k + 1, by omega, by go_num⟩
          case measure => simp [intOf]; omega
        · have he : k = 200 := by omega
          subst he
          have T12 := hT.below (b1.trans (bb12.mono b1.size))
          go_wp2_with fail
          refine (HW0.out w12 T12 _ _ _ (by have := hR12.rda.take bd.length (by rw [HWL.out]; omega); rw [HWT.out] at this; exact this) rfl).mono ?_
          rintro e w13 ⟨Af2, cf2, rfl, hN⟩
          have rf13 := hN.rda
          have hR13 := hR12.below hN.below
          have r13 := r12.below hN.below
          have bb13 := below_then bb12 hN.below
          clear hN hR12 r12 T12 bb12
          have T13 := hT.below (b1.trans (bb13.mono b1.size))
          have rr13 := r13.rda.take F.length (by rw [HRL.out, Hfl.out]; omega)
          rw [HRT.out] at rr13
          go_wp2_with fail
          refine (HO'.out w13 T13 _ _ _ rr13 rfl).mono ?_
          rintro e w14 ⟨Ac2, cc2, rfl, hN⟩
          have rc14 := hN.rda
          have rf14 := rf13.below hN.below
          have hR14 := hR13.below hN.below
          have r14 := r13.below hN.below
          have bb14 := below_then bb13 hN.below
          have rr14 := rr13.below hN.below
          have hbd := h1.below bb14
          clear hN hR13 r13 T13 bb13 rf13 rr13
          have k1 := fun dst hd => run_conv_rd (P := Tryd.prog) w14 tU8 rf14 (bd.length + 16) Hfl.out.symm dst hd
          have k2 := fun dst hd => run_conv_rd (P := Tryd.prog) w14 tU8 rr14 F.length rfl dst hd
          have hwb := hR14.rda.take bd.length (by rw [HWL.out]; omega)
          rw [HWT.out] at hwb
          go_wp2_with fail
          refine (same_yes rc14 hbd rfl rfl rfl).mono ?_
          rintro e w15 ⟨rfl, rfl⟩
          go_wp2_with fail
          refine (same_yes hwb hbd rfl rfl rfl).mono ?_
          rintro e w15 ⟨rfl, rfl⟩
          have z0 := hR14.cells 0 (by rw [HWL.out]; omega)
          have z0f := (hR14.there 0 (by omega)).2
          obtain ⟨a, ha⟩ : ∃ a, wd.getD 0 0 = a := ⟨_, rfl⟩
          rw [ha] at z0
          have hv : ((a.toNat : Int) + 1) % 256 = ((a + 1).toNat : Int) := by rw [UInt8.toNat_add]; simp
          obtain ⟨v, hv0⟩ : ∃ v, a + 1 = v := ⟨_, rfl⟩
          rw [hv0] at hv
          have hva : v ≠ a := by
            rintro rfl
            have := congrArg UInt8.toNat hv0
            rw [UInt8.toNat_add] at this
            have := v.toNat_lt
            simp at *
          obtain ⟨hR15, hg15⟩ := hR14.stored 0 (by rw [HWL.out]; omega) v
          have hst : (wd.set 0 v).take bd.length = bd.set 0 v := by rw [List.take_set, HWT.out]
          have hsl : (wd.set 0 v).length = bd.length + 200 := by rw [List.length_set]; exact HWL.out
          have hbd0 : bd.getD 0 0 = a := by
            rw [← HWT.out, ← ha]
            have : 0 < bd.length := by omega
            simp [List.getD, List.getElem?_take, this]
          have hbne : bd.set 0 v ≠ bd := by
            intro he
            have := congrArg (fun t => t.getD 0 0) he
            simp only [hbd0] at this
            rw [List.getD_eq_getElem?_getD, List.getElem?_set_self (by omega)] at this
            exact hva this
          have hbo2 : okBody (bd.set 0 v).length = true := by rw [List.length_set]; exact HBO.out
          have hFne := Lib.hid (fun he => hbne (HINJ.out _ hbo2 he))
          obtain ⟨b', hb'⟩ : ∃ b', bd.set 0 v = b' := ⟨_, rfl⟩
          have hbl : b'.length = bd.length := by rw [← hb', List.length_set]
          rw [hb'] at hst hbo2 hFne
          obtain ⟨wd', hwd'⟩ : ∃ wd', wd.set 0 v = wd' := ⟨_, rfl⟩
          rw [hwd'] at hst hsl hR15
          have HST := Lib.hid hst
          have HSL := Lib.hid hsl
          have HBL := Lib.hid hbl
          have HB2 := Lib.hid (HW'.out b' hbo2)
          have HVA := Lib.hid hva
          have bb15 := bb14.grown hg15 bb14.size (fun k hk => by injection hk with hk; omega)
          have r15 := r14.grown hg15 (by intro hk; injection hk with hk; omega)
          have hwb2 := hR15.rda.take bd.length (by rw [HSL.out]; omega)
          rw [HST.out] at hwb2
          have hnil := Own8.nilRow (w14.setCell ⟨gw, 0, none⟩ (.int .u8 (v.toNat : Int))) (w14.setCell ⟨gw, 0, none⟩ (.int .u8 (v.toNat : Int))).heap.size 5
          clear ha hv0 hva hst hsl hbd0 hbne hbo2 hb' hwd' hbl hR14 r14 bb14 rc14 hbd hwb
          go_wp2_with (at_builtin; refine wpList_app2 (l := []) (m := b') rfl _ _ rfl tU8 rfl hnil rfl HBL.out.symm hwb2 (by rw [HBL.out]; simp; omega) (Nat.le_refl _) ?_)
          intro v16 w16 o16 hw16
          try rw [List.nil_append] at o16
          have hb16 : Below (w14.setCell ⟨gw, 0, none⟩ (.int .u8 (v.toNat : Int))).heap.size (w14.setCell ⟨gw, 0, none⟩ (.int .u8 (v.toNat : Int))) w16 := grown_below hw16.grown (Nat.le_refl _) (fun k hk => by simp [Value.ownBlock] at hk)
          have bb16 := below_then bb15 hb16
          have r16 := r15.below hb16
          have hwb16 := hwb2.below hb16
          obtain ⟨At, ct, rfl, ht16⟩ := own_rda o16
          rw [HBL.out]
          clear o16 hw16 hb16 hR15 r15 bb15 hwb2 hnil hg15 rf14 rr14 k1 k2 z0 z0f hv
          have T16 := hT.below (b1.trans (bb16.mono b1.size))
          have HB2' := HB2.out
          rw [HBL.out] at HB2'
          have HB3 := Lib.hid HB2'
          clear HB2'
          go_wp2_with fail
          refine (HB3.out w16 T16 _ _ _ hwb16 rfl).mono ?_
          rintro e w17 ⟨Ax, cx, rfl, hN⟩
          have r17 := r16.below hN.below
          have bb17 := below_then bb16 hN.below
          have ht17 := ht16.below hN.below
          have rx17 := hN.rda
          have hgr16 := r16.lt
          have Nx := Lib.hid (fun (a : Addr) (ha : Ax = some a) => (World.ownsRow.lt hN.own a.block (by rw [ha]; rfl)).1)
          have hz17 := hN.below.size
          clear r16 bb16 ht16 hN T16 hwb16
          have T17 := hT.below (b1.trans (bb17.mono b1.size))
          go_wp2_with fail
          refine (HB3.out w17 T17 _ _ _ ht17 rfl).mono ?_
          rintro e w18 ⟨Ay, cy, rfl, hN⟩
          have r18 := r17.below hN.below
          have bb18 := below_then bb17 hN.below
          have rx18 := rx17.below hN.below
          have ry18 := hN.rda
          have Ny := Lib.hid (fun (a : Addr) (ha : Ay = some a) => (World.ownsRow.lt hN.own a.block (by rw [ha]; rfl)).1)
          clear r17 bb17 ht17 hN T17 rx17
          have z0 := r18.cells 12 (by rw [HRL.out]; omega)
          rw [HR12.out] at z0
          have z0f := (r18.there 12 (by omega)).2
          obtain ⟨a2, ha⟩ : ∃ a, F.getD 12 0 = a := ⟨_, rfl⟩
          rw [ha] at z0
          have hv : ((a2.toNat : Int) + 1) % 256 = ((a2 + 1).toNat : Int) := by rw [UInt8.toNat_add]; simp
          obtain ⟨v2', hv0⟩ : ∃ v, a2 + 1 = v := ⟨_, rfl⟩
          rw [hv0] at hv
          have hva : v2' ≠ a2 := by
            rintro rfl
            have := congrArg UInt8.toNat hv0
            rw [UInt8.toNat_add] at this
            have := v2'.toNat_lt
            simp at *
          have hopn := Htn.out 12 (by omega) (by omega) v2' (by rw [ha]; exact hva)
          obtain ⟨r19, hg19⟩ := r18.stored 12 (by rw [HRL.out]; omega) v2'
          have bb19 := bb18.grown hg19 bb18.size (fun k hk => by injection hk with hk; omega)
          have hrt := r19.rda.take F.length (by rw [List.length_set, HRL.out, Hfl.out]; omega)
          rw [HRS.out] at hrt
          have T19 := hT.below (b1.trans (bb19.mono b1.size))
          have P20 := open_any (n := F.length) T19 hrt (by rw [List.length_set]) (by rw [List.length_set, Hfl.out]; omega) (1 + L)
          obtain ⟨o1, o2, o3⟩ := open_none hopn
          rw [o1, o2, o3] at P20
          have HP20 := Lib.hid P20
          have rx19 : Rda (w18.setCell ⟨gr, 12, none⟩ (.int .u8 (v2'.toNat : Int))) Ax cx (frameL (1 + L).toNat b') := rx18.grown hg19 (fun a ha hc => by injection hc with hc; have := Nx.out a ha; omega)
          have ry19 : Rda (w18.setCell ⟨gr, 12, none⟩ (.int .u8 (v2'.toNat : Int))) Ay cy (frameL (1 + L).toNat b') := ry18.grown hg19 (fun a ha hc => by injection hc with hc; have := Ny.out a ha; omega)
          clear ha hv0 hva hopn r18 bb18 rx18 ry18 hrt P20 o1 o2 o3 T19 hg19
          go_wp2_with fail
          refine HP20.out.mono ?_
          rintro e w20 ⟨Az, cz, rfl, hN⟩
          have bb20 := below_then bb19 hN.below
          have rx20 := rx19.below hN.below
          have ry20 := ry19.below hN.below
          clear hN HP20 rx19 ry19 bb19 r19
          have hfl' := Lib.hid (frameL_length (1 + L).toNat b')
          obtain ⟨F', hF'⟩ : ∃ F', frameL (1 + L).toNat b' = F' := ⟨_, rfl⟩
          rw [hF'] at hFne hfl' rx20 ry20
          rw [HBL.out] at hfl'
          have hSne : ((S8 F').toList == (S8 F).toList) = false := by
            rw [s8_beq]
            exact decide_eq_false hFne.out
          have k1 := fun dst hd => run_conv_rd (P := Tryd.prog) w20 tU8 rx20 (bd.length + 16) hfl'.out.symm dst hd
          go_wp2_with fail
          refine (same_yes rx20 ry20 hfl'.out.symm hfl'.out.symm rfl).mono ?_
          rintro e w21 ⟨rfl, rfl⟩
          go_wp2_with fail
          go_ret
          exact ⟨rfl, b1.trans (bb20.mono b1.size)⟩

theorem frameFresh_contract (H : Type) (enc : TypeId × Value → H) (W : World) (base : Nat) (args : Array Value) (ds gs : List (DataW H)) (before : List MemPlace)
    (hval0 : ∀ (j : Nat) t v, Tryd.f8.params[j]? = some t → args[j]? = some v → Value.okWide Tryd.prog W .any base t v)
    (hW : DataW.Whole enc Tryd.prog Tryd.f8.params.toList Rows.frameFreshSpec.vars false W args.toList ds gs before) (hsz : (DataW.weightsEach Tryd.checked.prog (Tryd.f8.params.toList ++ Rows.frameFreshSpec.plain.varTypes Tryd.checked.prog) (ds ++ gs)).all (· ≤ reachBytes) = true) (hL : laidMetH Tryd.prog Rows.frameFreshRow.laid W) :
    Calls Tryd.prog 8 args W fun e W' => ∃ v, e = .returned v ∧ Rows.frameFreshSpec.post enc Tryd.prog Tryd.f8 false true false false W args v W' := by
  have hval : ∀ (j : Nat) t v, Tryd.f8.params[j]? = some t → args[j]? = some v → Value.okWide Tryd.prog W .any base t v := hval0
  have hW' := hW
  obtain ⟨p, q, hA0, hV, rfl, hfz, hnd⟩ := hW
  have hA : DataW.TrodAll enc Tryd.prog W 0 (fun _ => true) true Tryd.f8.params.toList args.toList ds p := hA0
  rw [Tryd.params8] at hA hval
  obtain ⟨v0, vs0, d0, ds0, p0, q0, hargs, rfl, rfl, h0, rr0⟩ := trodAll_cons hA
  obtain ⟨v1, vs1, d1, ds1, p1, q1, rfl, rfl, rfl, h1, rr1⟩ := trodAll_cons rr0
  obtain ⟨rfl, rfl, rfl⟩ := trodAll_nil rr1
  obtain rfl : args = #[v0, v1] := by cases args; simp_all
  obtain ⟨rfl, rfl⟩ := trodVars_none hV
  obtain ⟨x0, rfl, rfl, rfl, w0⟩ := open_int Tryd.underlying3 (hval 0 3 v0 rfl rfl) h0
  have b0 := bounds_i64 w0
  obtain ⟨a1, len1, cap1, rfl⟩ := okWide_slice Tryd.underlying22 (hval 1 22 v1 rfl rfl)
  have k1 := h1
  have lt1 : ∀ x ∈ p1, x.block < W.heap.size := by obtain ⟨m, hm⟩ := k1; exact DataW.trod_lt m _ _ _ hm
  obtain ⟨l1, n1, r1, dd1⟩ : ∃ l : List UInt8, len1 = l.length ∧ Rda W a1 cap1 l ∧ RowOf d1 l := by
    obtain ⟨fuel, hf⟩ := h1
    obtain ⟨A, l, c, hv, hr, hx⟩ := open_bytes tU8 (by kernel_rfl) (by simpa [Value.cells] using hf)
    obtain ⟨rfl, rfl, rfl⟩ : a1 = A ∧ len1 = l.length ∧ cap1 = c := by simpa using hv
    exact ⟨l, rfl, hr, hx⟩
  have s1 : l1.length ≤ 140737488351232 := by
    rcases dd1 with ⟨_, h⟩ | ⟨zs, sp, hd, hl⟩
    · rw [h]; simp
    · subst hd
      have := sized_slice hsz (j := 1) (t := 22) (e := 5) rfl rfl Tryd.underlying22
      rw [show Tryd.checked.prog.bytesOf 5 = 1 from by kernel_rfl] at this
      unfold lits at this
      simp only [List.length_map] at this
      have h47 : reachBytes ≤ 140737488351232 := by decide
      omega
  clear hA0 hval0
  refine (frameFresh_any (tb_of hL) r1 n1 x0).mono fun e W' ⟨he, bel⟩ => ?_
  subst he
  exact ⟨_, rfl, _, _, _, [], _, [], hW', trodAll_mk1 (shut_bool Tryd.underlying4 _), (trodAll_cons_mk (shut_int Tryd.underlying3 w0) (trodAll_cons_mk (Below.trod laid_out (by kernel_rfl) (of_decide_eq_true (by kernel_rfl)) k1 bel lt1) trodAll_mk0)), rfl, bel.frame _, fun h => by cases h⟩

theorem frameFresh_met (os : Os) : laidMet Tryd.prog Rows.frameFreshRow.laid ((laidWorld os).forCall (fun _ _ => 0) ⟨#[], #[.int .i64 0, .slice none 0 0], []⟩).memory :=
  laidMet_of_run' 8 (by kernel_rfl) (by kernel_rfl)
theorem frameFresh_reads (os : Os) {H : Type} (enc : TypeId × Value → H) : ∃ places, DataW.whole enc Tryd.prog ((laidWorld os).forCall (fun _ _ => 0) ⟨#[], #[.int .i64 0, .slice none 0 0], []⟩).memory Tryd.f8.params.toList Rows.frameFreshSpec.vars false (#[.int .i64 0, .slice none 0 0] : Array Value).toList 8 = some ([.lit (.int .i64 0), .nil], [], places) :=
  ⟨[], by kernel_rfl⟩

set_option maxRecDepth 100000 in
theorem frameFresh_lifted (os : Os) (started : os.Started) (H : Type) (enc : TypeId × Value → H) (F : Stop.Interp) :
    ReturnsInHanded {} Tryd.checked os 8 .any ((OpenSpec.ofChange Rows.frameFreshSpec).preRow enc Tryd.prog Tryd.f8 Rows.frameFreshRow.domain false Rows.frameFreshRow.laid) (((OpenSpec.ofChange Rows.frameFreshSpec).at F).post enc Tryd.prog Tryd.f8 false true false false) := by
  obtain ⟨places, hx⟩ := frameFresh_reads os enc
  refine returnsInHanded_of_row (C := Tryd.checked) (s := OpenSpec.ofChange Rows.frameFreshSpec) own_knob started (by kernel_rfl) Tryd.func8
    (witness_row_at (enc := enc) (C := Tryd.checked) false (laidWorld os) #[.int .i64 0, .slice none 0 0] rfl (by kernel_rfl) (by kernel_rfl) (by kernel_rfl)
      (OpenSpec.preRow_of_cond 8 hx (by kernel_rfl) (fun k hk => by cases hk) (by kernel_rfl) (frameFresh_met os))) ?_
  intro W base args ds gs before hval hW _ hcond hsz hL _ _
  exact frameFresh_contract H enc W base args ds gs before hval hW hsz hL

theorem frameFresh_said : Rows.FrameFreshSaid :=
  OpenClaim.holds_of_cond 8 Tryd.f8 rfl rfl rfl rfl rfl rfl rfl ⟨rfl, rfl, rfl, rfl, rfl⟩ rfl rfl rfl rfl rfl (by kernel_rfl) Tryd.func8 (by kernel_rfl)
    (of_decide_eq_true (by kernel_rfl)) (by unfold Func.isWrapper; first | (rw [if_pos (by decide +kernel)]; kernel_rfl) | (rw [if_neg (by decide +kernel)]; exact ⟨rfl, rfl⟩))
    (fun os started H enc _ F => by rw [OpenClaim.pre_eq_preRow]; exact frameFresh_lifted os started H enc F)

theorem frameFresh_plain (f : FuncId) (fn : Func) (hf : Tryd.pinned.checked.prog.funcNamed "tidemark/tidemarklaw08.FrameFresh" = some f) (hfn : Tryd.pinned.checked.prog.funcs[f]? = some fn) :
    false = Tryd.pinned.checked.prog.looks [] ∧ ∀ (j : Nat) t, fn.params[j]? = some t → Tryd.pinned.checked.prog.wantsStandIn t = false := by
  obtain rfl : f = 8 := Option.some.inj ((show Tryd.prog.funcNamed "tidemark/tidemarklaw08.FrameFresh" = some 8 by kernel_rfl).symm.trans hf) |>.symm
  obtain rfl : fn = Tryd.f8 := (Option.some.inj (Tryd.func8.symm.trans hfn)).symm
  refine ⟨by kernel_rfl, fun j t ht => ?_⟩
  rw [Tryd.params8] at ht
  have hm := Array.mem_of_getElem? ht
  have : t = 22∨t = 3 := by simp at hm; first | exact hm | (rcases hm with hh | hh <;> simp [hh]) | (rcases hm with hh | hh | hh <;> simp [hh]) | (rcases hm with hh | hh | hh | hh <;> simp [hh]) | (rcases hm with hh | hh | hh | hh | hh <;> simp [hh]) | (rcases hm with hh | hh | hh | hh | hh | hh <;> simp [hh]) | (rcases hm with hh | hh | hh | hh | hh | hh | hh <;> simp [hh]) | (rcases hm with hh | hh | hh | hh | hh | hh | hh | hh <;> simp [hh])
  rcases this with rfl|rfl
  · exact (show Tryd.prog.wantsStandIn 22 = false by kernel_rfl)
  · exact (show Tryd.prog.wantsStandIn 3 = false by kernel_rfl)

theorem frameFresh_holds : Rows.FrameFreshCardSaid :=
  Claim7.holds_tied_plain_at .later [] _ _ _ _ frameFresh_said (fun _ h => by cases h) (by kernel_rfl) (fun _ h => by cases h) frameFresh_row_tie rfl ⟨rfl, rfl⟩ (by kernel_rfl) rfl frameFresh_plain (by kernel_rfl)
#print axioms frameFresh_holds
end Go.Proofs.YtaldpngilgaciabDoor
