import Derived.Test.YtgcpmdodhnmneabLaw5
import Derived.Test.YtgcpmdodhnmneabRow
import Derived.Test.YtgcpmdodhnmneabHomePure
import Derived.Test.YtgcpmdodhnmneabRoom
import Derived.Test.YtgcpmdodhnmneabMarked05
/- HomeFresh: the walk. -/
set_option linter.unusedVariables false
set_option linter.unusedSimpArgs false
namespace Go.Proofs.Ytgcpmdodhnmneab
open Go.RowKit Go.Tm Go.ChangeShapes Go.WideShapes Go.ChangeAt
set_option maxHeartbeats 400000
set_option maxRecDepth 100000

set_option maxHeartbeats 1600000 in
theorem homeFresh_any {w : World} (slots key0 val : Int) (hv0 : 0 ≤ val) (hv1 : val < 18446744073709551616) :
    Calls Try.prog 8 #[.int .i64 slots, .int .i64 key0, .int .u64 val] w fun e w' => e = .returned (.bool true) ∧ Below w.heap.size w w' := by
  have HI1 := Lib.hid (fun W => into5_any slots 8 (by decide) (by decide) W)
  have HI2 := Lib.hid (fun W => into5_any key0 2147483648 (by decide) (by decide) W)
  obtain ⟨n0, hn0⟩ : ∃ n0, slots % 8 = n0 := ⟨_, rfl⟩
  obtain ⟨key, hkey⟩ : ∃ key, key0 % 2147483648 = key := ⟨_, rfl⟩
  have l0 : 0 ≤ n0 := by omega
  have l1 : n0 < 8 := by omega
  have k0 : 0 ≤ key := by omega
  have k1 : key < 2147483648 := by omega
  rw [hn0] at HI1
  rw [hkey] at HI2
  clear hn0 hkey
  obtain ⟨m, hm⟩ : ∃ m : Nat, (m : Int) = 1 + n0 := ⟨(1 + n0).toNat, by omega⟩
  have m1 : 1 ≤ m := by omega
  have m8 : m ≤ 8 := by omega
  obtain ⟨f1, f2⟩ := fresh_first m1 m8 k0 (by omega) val
  obtain ⟨g1, g2, g3, g4, g5⟩ := fresh_again m1 m8 k0 (by omega) val
  have hturn := fun u hu => fresh_turned m1 m8 k0 (by omega) val (u := u) hu
  have hZl := zeroL_length (24 + 16 * m)
  have hBl := (fresh_page m1 m8 key val).len
  obtain ⟨v1, hv⟩ : ∃ v1, IntKind.u64.wrap (val + 1) = v1 := ⟨_, rfl⟩
  have hv10 : 0 ≤ v1 := by rw [← hv, IntKind.wrap_u64]; omega
  have hv11 : v1 < 18446744073709551616 := by rw [← hv, IntKind.wrap_u64]; omega
  have g2v := g2 v1
  obtain ⟨Z, hZ⟩ : ∃ Z, zeroL (24 + 16 * m) = Z := ⟨_, rfl⟩
  obtain ⟨B, hB⟩ : ∃ B, freshP m key val = B := ⟨_, rfl⟩
  rw [hZ] at f1 f2 hZl
  rw [hB] at f2 g1 g3 g4 g5 g2v hBl hturn
  obtain ⟨N, hNm⟩ : ∃ N : Nat, 24 + 16 * m = N := ⟨_, rfl⟩
  rw [hNm] at hZ hZl hBl g2v g5
  have hN24 : 40 ≤ N := by omega
  have hN152 : N ≤ 152 := by omega
  have hNN : (N : Int) = 24 + 16 * (1 + n0) := by omega
  obtain ⟨P, hP⟩ : ∃ P, putV B key v1 = P := ⟨_, rfl⟩
  obtain ⟨D, hD⟩ : ∃ D, delV B key = D := ⟨_, rfl⟩
  rw [hP] at g2v
  rw [hD] at g5
  have H0 : ∀ W A c, Rda W A c Z → Calls Try.prog 16 #[.slice A N c, .int .i64 key, .int .u64 val] W fun e w' => ∃ A' c', e = .returned (.tuple #[.slice A' N c', .int .i64 0]) ∧ New 5 W w' A' c' B := fun W A c h => by
    have := put_any h (n := N) hZl.symm (by omega) key val hv0 hv1
    rw [f1, f2, hBl] at this
    exact this
  have H1 : ∀ W A c, Rda W A c B → Calls Try.prog 16 #[.slice A N c, .int .i64 key, .int .u64 v1] W fun e w' => ∃ A' c', e = .returned (.tuple #[.slice A' N c', .int .i64 0]) ∧ New 5 W w' A' c' P := fun W A c h => by
    have := put_any h (n := N) hBl.symm (by omega) key v1 hv10 hv11
    rw [g1, hP, g2v] at this
    exact this
  have H2 : ∀ W A c, Rda W A c B → Calls Try.prog 16 #[.slice A N c, .int .i64 key, .int .u64 val] W fun e w' => ∃ A' c', e = .returned (.tuple #[.slice A' N c', .int .i64 0]) ∧ New 5 W w' A' c' B := fun W A c h => by
    have := put_any h (n := N) hBl.symm (by omega) key val hv0 hv1
    rw [g1, g3, hBl] at this
    exact this
  have H3 : ∀ W A c, Rda W A c B → Calls Try.prog 18 #[.slice A N c, .int .i64 key] W fun e w' => ∃ A' c', e = .returned (.tuple #[.slice A' N c', .bool true]) ∧ New 5 W w' A' c' D := fun W A c h => by
    have := delete_any h (n := N) hBl.symm (by omega) key
    rw [g4, hD, g5] at this
    exact this
  have H4 : ∀ W A c, Rda W A c B → Calls Try.prog 12 #[.slice A N c, .int .i64 key] W fun e w' => e = .returned (.tuple #[.int .i64 (findI B key), .bool (findB B key)]) ∧ Below W.heap.size W w' := fun W A c h => find_any h (n := N) hBl.symm (by omega) key
  have H5 : ∀ W A c, Rda W A c B → Calls Try.prog 14 #[.slice A N c, .int .i64 (key + 1)] W fun e w' => e = .returned (.tuple #[.int .u64 (valueI B (key + 1)), .bool (findB B (key + 1))]) ∧ Below W.heap.size W w' := fun W A c h => value_any h (n := N) hBl.symm (by omega) (key + 1)
  have K0 := Lib.hid H0
  have K1 := Lib.hid H1
  have K2 := Lib.hid H2
  have K3 := Lib.hid H3
  have K4 := Lib.hid H4
  have K5 := Lib.hid H5
  have HTURN := Lib.hid hturn
  have HBL := Lib.hid hBl
  have HZL := Lib.hid hZl
  have HPL := Lib.hid g2v
  have HDL := Lib.hid g5
  have HV := Lib.hid hv
  have HZ := Lib.hid hZ
  have HV1 : Lt64 v1 := ⟨hv10, hv11⟩
  clear H0 H1 H2 H3 H4 H5 hturn hBl hZl g2v g5 hP hD f1 f2 g1 g2 g3 g4 hB hNm hZ hm m1 m8 hv hv1 hv11
  go_enter Try.func8, Try.ntmps8
  go_wp2_with fail
  refine (HI1.out _).mono ?_
  rintro e wx ⟨rfl, rfl⟩
  go_wp2_with fail
  refine (HI2.out _).mono ?_
  rintro e wx ⟨rfl, rfl⟩
  go_wp2_with (with_reducible refine wpList_make8 rfl _ _ rfl tU8 N rfl rfl (by omega) (by omega) (by omega) ?_)
  intro w1 hW hb1
  rw [HZ.out] at hW
  have r1 := hW.rda (by rw [HZL.out]; omega)
  rw [HZL.out] at r1
  clear hW hNN
  go_wp2_with fail
  refine (K0.out _ _ _ r1).mono ?_
  rintro e w2 ⟨A2, c2, rfl, hN⟩
  have r2 := hN.rda
  have b2 := below_then hb1 hN.below
  clear hN r1 hb1
  go_wp2_with fail
  refine known5_any.mono ?_
  rintro e w3 ⟨rfl, hN⟩
  have r3 := r2.below hN
  have b3 := below_then b2 hN
  clear hN r2 b2
  have hnil := Own8.nilRow w3 w3.heap.size 5
  go_wp2_with (at_builtin; refine wpList_app2 (l := []) (m := B) rfl _ _ rfl tU8 rfl hnil rfl HBL.out.symm r3 (by rw [HBL.out]; simp; omega) (Nat.le_refl _) ?_)
  intro v4 w4 o4 hw4
  try rw [List.nil_append] at o4
  have bb4 : Below w3.heap.size w3 w4 := grown_below hw4.grown (Nat.le_refl _) (fun k hk => by simp [Value.ownBlock] at hk)
  clear hw4 hnil
  go_wp2_with fail
  go_loopw [10, 11] (fun x i wr => ∃ k : Nat, k ≤ 200 ∧ i = .int .i64 k ∧ Own8 wr w3.heap.size 5 x (B ++ repB k 165) ∧ Below w3.heap.size w3 wr) (fun _ i _ => 200 - (intOf i).toNat)
  case atStart => exact ⟨0, by omega, rfl, by rw [repB_zero, List.append_nil]; exact o4, bb4⟩
  case round =>
    obtain ⟨k, hk, rfl, ho, hb⟩ := hrel
    by_cases hkt : k < 200
    · have ho' := ho.alloc (.cells #[.int .u8 165] 5)
      have hb' := hb.alloc hb.size (.cells #[.int .u8 165] 5)
      have hb165 : Rda (wr.alloc (.cells #[.int .u8 165] 5)) (some ⟨wr.heap.size, 0, none⟩) 1 [165] := Rda.box wr _ 165 165 (by decide)
      clear ho hb
      go_wp2_with (at_builtin; refine wpList_app2 (l := B ++ repB k 165) (m := [165]) rfl _ _ rfl tU8 rfl ho' rfl rfl hb165 (by rw [List.length_append, repB_length, HBL.out]; simp; omega) hb'.size ?_)
      intro v3 w5 o3 hw3
      replace o3 : Own8 w5 w3.heap.size 5 v3 (B ++ repB (k + 1) 165) := by rw [repB_succ, ← List.append_assoc]; first | exact o3 | (rw [List.append_assoc]; exact o3)
      have hb3 := ho'.grown hw3.grown hb' hb'.size (Nat.le_refl _)
      clear hw3 ho' hb' hb165
      go_wp2_with fail
      go_roundw
      case rel => exact ⟨k + 1, by omega, by go_num, o3, hb3⟩
      case measure => simp [intOf]; omega
    · have he : k = 200 := by omega
      subst he
      obtain ⟨wh, rfl⟩ : ∃ wh : World, wh = wr := ⟨_, rfl⟩
      obtain ⟨Aw, cw, rfl, _⟩ := own_rda ho
      obtain ⟨gw, rfl, _⟩ := Own8.block ho (by rw [List.length_append, repB_length]; omega)
      have hR := RoomR.of_own ho
      have hwl : (B ++ repB 200 165).length = N + 200 := by rw [List.length_append, repB_length, HBL.out]
      have hwt : (B ++ repB 200 165).take N = B := List.take_left' HBL.out
      have hwg : ∀ j, j < 200 → (B ++ repB 200 165).getD (N + j) 0 = 165 := fun j hj => by rw [← HBL.out, getD_append_right, repB_get _ _ _ hj]
      have hws : ∀ v, ((B ++ repB 200 165).set 20 v).take N = B.set 20 v := fun v => by
        rw [List.set_append_left _ _ (by rw [HBL.out]; omega)]
        exact List.take_left' (by rw [List.length_set]; exact HBL.out)
      have hw20 : (B ++ repB 200 165).getD 20 0 = B.getD 20 0 := by
        have : 20 < B.length := by rw [HBL.out]; omega
        simp [List.getD, List.getElem?_append_left this]
      rw [hwl]
      obtain ⟨wd, hwd0⟩ : ∃ wd, B ++ repB 200 165 = wd := ⟨_, rfl⟩
      rw [hwd0] at hR hwl hwt hwg hws hw20
      have HWL := Lib.hid hwl
      have HWT := Lib.hid hwt
      have HWG := Lib.hid hwg
      have HWS := Lib.hid hws
      have HW20 := Lib.hid hw20
      have hcw := hR.cap
      rw [hwl] at hcw
      have hglt := hR.lt
      have hgl3 := hR.base_
      clear ho hwl hwt hwg hwd0 o4 bb4 hws hw20
      go_wp2_with fail
      rw [HV.out]
      have P3 : Pool wh wh.heap.size 5 [] := Pool.nil _ _ _
      refine (K1.out wh _ _ (by have := hR.rda.take N (by rw [HWL.out]; omega); rw [HWT.out] at this; exact this)).mono ?_
      rintro e w4 ⟨Ap, cp, rfl, hN⟩
      have P4 := P3.push hN (Nat.le_refl _)
      rw [List.nil_append] at P4
      have hR4 := hR.below hN.below
      have bb4 := below_then hb hN.below
      have hwh := hb.size
      have q4 := hN.below.size
      clear hR P3 hN hb
      go_wp2_with fail
      rw [HV.out]
      refine (K1.out w4 _ _ (by have := hR4.rda.take N (by rw [HWL.out]; omega); rw [HWT.out] at this; exact this)).mono ?_
      rintro e w5 ⟨Aq, cq, rfl, hN⟩
      have P5 := P4.push hN q4
      have hR5 := hR4.below hN.below
      have bb5 := below_then bb4 hN.below
      have q5 := Nat.le_trans q4 hN.below.size
      clear hR4 P4 hN bb4
      go_wp2_with fail
      refine (K2.out w5 _ _ (by have := hR5.rda.take N (by rw [HWL.out]; omega); rw [HWT.out] at this; exact this)).mono ?_
      rintro e w6 ⟨Ar, cr, rfl, hN⟩
      have P6 := P5.push hN q5
      have hR6 := hR5.below hN.below
      have bb6 := below_then bb5 hN.below
      have q6 := Nat.le_trans q5 hN.below.size
      clear hR5 P5 hN bb5
      go_wp2_with fail
      refine (K3.out w6 _ _ (by have := hR6.rda.take N (by rw [HWL.out]; omega); rw [HWT.out] at this; exact this)).mono ?_
      rintro e w7 ⟨Ad, cd, rfl, hN⟩
      have P7 := P6.push hN q6
      have hR7 := hR6.below hN.below
      have bb7 := below_then bb6 hN.below
      have q7 := Nat.le_trans q6 hN.below.size
      clear hR6 P6 hN bb6
      go_wp2_with fail
      refine (K3.out w7 _ _ (by have := hR7.rda.take N (by rw [HWL.out]; omega); rw [HWT.out] at this; exact this)).mono ?_
      rintro e w8 ⟨Af, cf, rfl, hN⟩
      have P8 := P7.push hN q7
      have hR8 := hR7.below hN.below
      have bb8 := below_then bb7 hN.below
      have q8 := Nat.le_trans q7 hN.below.size
      clear hR7 P7 hN bb7
      simp only [List.cons_append, List.nil_append] at P8
      go_wp2_with fail
      refine (K4.out w8 _ _ (by have := hR8.rda.take N (by rw [HWL.out]; omega); rw [HWT.out] at this; exact this)).mono ?_
      rintro e w9 ⟨rfl, hN⟩
      have P9 := P8.below hN
      have hR9 := hR8.below hN
      have bb9 := below_then bb8 hN
      have q9 := Nat.le_trans q8 hN.size
      clear hR8 P8 hN bb8
      go_wp2_with fail
      refine (K5.out w9 _ _ (by have := hR9.rda.take N (by rw [HWL.out]; omega); rw [HWT.out] at this; exact this)).mono ?_
      rintro e w10 ⟨rfl, hN⟩
      have P10 := P9.below hN
      have hR10 := hR9.below hN
      have bb10 := below_then bb9 hN
      have q10 := Nat.le_trans q9 hN.size
      clear hR9 P9 hN bb9
      have rp := P10.rda (x := (Ap, cp, P)) (by simp)
      have rq := P10.rda (x := (Aq, cq, P)) (by simp)
      have rr := P10.rda (x := (Ar, cr, B)) (by simp)
      have rd := P10.rda (x := (Ad, cd, D)) (by simp)
      have rf := P10.rda (x := (Af, cf, D)) (by simp)
      have rb := r3.below bb10
      have kp := fun dst hd => run_conv_rd (P := Try.prog) w10 tU8 rp N HPL.out.symm dst hd
      have kq := fun dst hd => run_conv_rd (P := Try.prog) w10 tU8 rq N HPL.out.symm dst hd
      have kd := fun dst hd => run_conv_rd (P := Try.prog) w10 tU8 rd N HDL.out.symm dst hd
      have kf := fun dst hd => run_conv_rd (P := Try.prog) w10 tU8 rf N HDL.out.symm dst hd
      go_wp2_with fail
      refine (same5_yes rr rb HBL.out.symm HBL.out.symm rfl).mono ?_
      rintro e wx ⟨rfl, rfl⟩
      go_wp2_with fail
      have P11 := P10.below (((Below.refl _ w10).alloc (Nat.le_refl _)) (.cells #[.slice Ap N cp, .slice Aq N cq, .slice Ar N cr, .slice Ad N cd, .slice Af N cf] 29))
      have hm := marked_pool (n := 5) (cap := 5) (by simp) P11 (by simp; omega) (by simp [HPL.out, HDL.out, HBL.out]; omega) (heap_alloc_new w10 _) (by
        intro j hj
        have : j = 0 ∨ j = 1 ∨ j = 2 ∨ j = 3 ∨ j = 4 := by simp at hj; omega
        rcases this with rfl | rfl | rfl | rfl | rfl <;> simp [pv, HPL.out, HDL.out, HBL.out]) rfl (by simp)
      have hge := poolS_ge P11
      have HM := Lib.hid hm
      clear rp rq rr rd rf hm P10 kp kq kd kf
      refine HM.out.mono ?_
      rintro e w12 ⟨rfl, hK⟩
      have bb12 := (bb10.alloc bb10.size _).trans ((hK.toBelow hge (by simp; omega)).mono hwh)
      have hR12 := (hR10.below (((Below.refl _ w10).alloc (Nat.le_refl _)) _)).keptBut hK (fun hh => by have := hge gw hh; omega)
      clear hK HM hge P11 hR10 bb10 rb
      have rb := r3.below bb12
      have rl := hR12.rda.take N (by rw [HWL.out]; omega)
      rw [HWT.out] at rl
      go_wp2_with fail
      refine (same5_yes rl rb HBL.out.symm HBL.out.symm rfl).mono ?_
      rintro e wx ⟨rfl, rfl⟩
      clear rl rb
      go_wp2_with fail
      go_loop [25] (fun i => ∃ k : Nat, k ≤ 200 ∧ i = .int .i64 ((N + k : Nat) : Int)) (fun i => 400 - (intOf i).toNat)
      case atStart => exact ⟨0, by omega, rfl⟩
      case round =>
        obtain ⟨k, hk, rfl⟩ := hrel
        by_cases hkt : k < 200
        · have z1 := hR12.cells (N + k) (by rw [HWL.out]; omega)
          rw [HWG.out k hkt] at z1
          go_wp2_with fail
          go_round
          case rel => exact ⟨k + 1, by omega, by go_num⟩
          case measure => simp [intOf]; omega
        · have he : k = 200 := by omega
          subst he
          go_wp2_with fail
          rw [HV.out]
          refine (K1.out w12 _ _ (by have := hR12.rda.take N (by rw [HWL.out]; omega); rw [HWT.out] at this; exact this)).mono ?_
          rintro e w13 ⟨Ap2, cp2, rfl, hN⟩
          have rp13 := hN.rda
          have hR13 := hR12.below hN.below
          have bb13 := below_then bb12 hN.below
          clear hN hR12 bb12
          go_wp2_with fail
          refine (K3.out w13 _ _ (by have := hR13.rda.take N (by rw [HWL.out]; omega); rw [HWT.out] at this; exact this)).mono ?_
          rintro e w14 ⟨Ad2, cd2, rfl, hN⟩
          have rd14 := hN.rda
          have rp14 := rp13.below hN.below
          have hR14 := hR13.below hN.below
          have bb14 := below_then bb13 hN.below
          clear hN hR13 bb13 rp13
          have kp := fun dst hd => run_conv_rd (P := Try.prog) w14 tU8 rp14 N HPL.out.symm dst hd
          have kd := fun dst hd => run_conv_rd (P := Try.prog) w14 tU8 rd14 N HDL.out.symm dst hd
          have z0 := hR14.cells 20 (by rw [HWL.out]; omega)
          rw [HW20.out] at z0
          have z0f := (hR14.there 20 (by omega)).2
          obtain ⟨a, ha⟩ : ∃ a, B.getD 20 0 = a := ⟨_, rfl⟩
          rw [ha] at z0
          have hv : ((a.toNat : Int) + 1) % 256 = ((a + 1).toNat : Int) := by rw [UInt8.toNat_add]; simp
          obtain ⟨v, hv0⟩ : ∃ v, a + 1 = v := ⟨_, rfl⟩
          rw [hv0] at hv
          have hva : v ≠ a := by
            rintro rfl
            have := congrArg UInt8.toNat hv0
            rw [UInt8.toNat_add] at this
            have := v.toNat_lt
            simp at *
          have hdel := HTURN.out v (by rw [ha]; exact hva)
          obtain ⟨hR15, hg15⟩ := hR14.stored 20 (by rw [HWL.out]; omega) v
          have hst := HWS.out v
          have hsl : (wd.set 20 v).length = N + 200 := by rw [List.length_set]; exact HWL.out
          have hbl : (B.set 20 v).length = N := by rw [List.length_set]; exact HBL.out
          obtain ⟨B', hB'⟩ : ∃ B', B.set 20 v = B' := ⟨_, rfl⟩
          rw [hB'] at hst hbl hdel
          obtain ⟨wd', hwd'⟩ : ∃ wd', wd.set 20 v = wd' := ⟨_, rfl⟩
          rw [hwd'] at hst hsl hR15
          have HST := Lib.hid hst
          have HSL := Lib.hid hsl
          have HBL' := Lib.hid hbl
          have bb15 := bb14.grown hg15 bb14.size (fun k hk => by injection hk with hk; omega)
          have hwb2 := hR15.rda.take N (by rw [HSL.out]; omega)
          rw [HST.out] at hwb2
          have hnil := Own8.nilRow (w14.setCell ⟨gw, 20, none⟩ (.int .u8 (v.toNat : Int))) (w14.setCell ⟨gw, 20, none⟩ (.int .u8 (v.toNat : Int))).heap.size 5
          obtain ⟨E', hE'⟩ : ∃ E', putE B' key = E' := ⟨_, rfl⟩
          obtain ⟨P', hP'⟩ : ∃ P', putV B' key v1 = P' := ⟨_, rfl⟩
          obtain ⟨D', hD'⟩ : ∃ D', delV B' key = D' := ⟨_, rfl⟩
          have J1 : ∀ W A c, Rda W A c B' → Calls Try.prog 16 #[.slice A N c, .int .i64 key, .int .u64 v1] W fun e w' => ∃ A' c', e = .returned (.tuple #[.slice A' P'.length c', .int .i64 E']) ∧ New 5 W w' A' c' P' := fun W A c h => by
            have := put_any h (n := N) HBL'.out.symm (by omega) key v1 HV1.lo HV1.hi
            rw [hE', hP'] at this
            exact this
          have J2 : ∀ W A c, Rda W A c B' → Calls Try.prog 18 #[.slice A N c, .int .i64 key] W fun e w' => ∃ A' c', e = .returned (.tuple #[.slice A' D'.length c', .bool false]) ∧ New 5 W w' A' c' D' := fun W A c h => by
            have := delete_any h (n := N) HBL'.out.symm (by omega) key
            rw [hdel, hD'] at this
            exact this
          have K6 := Lib.hid J1
          have K7 := Lib.hid J2
          clear ha hv0 hva hst hsl hB' hwd' hbl hR14 bb14 hE' hP' hD' J1 J2 hdel
          go_wp2_with (at_builtin; refine wpList_app2 (l := []) (m := B') rfl _ _ rfl tU8 rfl hnil rfl HBL'.out.symm hwb2 (by rw [HBL'.out]; simp; omega) (Nat.le_refl _) ?_)
          intro v16 w16 o16 hw16
          try rw [List.nil_append] at o16
          have hb16 : Below (w14.setCell ⟨gw, 20, none⟩ (.int .u8 (v.toNat : Int))).heap.size (w14.setCell ⟨gw, 20, none⟩ (.int .u8 (v.toNat : Int))) w16 := grown_below hw16.grown (Nat.le_refl _) (fun k hk => by simp [Value.ownBlock] at hk)
          have bb16 := below_then bb15 hb16
          have hwb16 := hwb2.below hb16
          obtain ⟨At, ct, rfl, ht16⟩ := own_rda o16
          rw [HBL'.out]
          clear o16 hw16 hb16 hR15 bb15 hwb2 hnil hg15 rp14 rd14 kp kd z0 z0f hv
          go_wp2_with fail
          rw [HV.out]
          refine (K6.out w16 _ _ hwb16).mono ?_
          rintro e w17 ⟨Ax, cx, rfl, hN⟩
          have bb17 := below_then bb16 hN.below
          have ht17 := ht16.below hN.below
          have hwb17 := hwb16.below hN.below
          have rx17 := hN.rda
          clear bb16 ht16 hN hwb16
          go_wp2_with fail
          rw [HV.out]
          refine (K6.out w17 _ _ ht17).mono ?_
          rintro e w18 ⟨Ay, cy, rfl, hN⟩
          have bb18 := below_then bb17 hN.below
          have hwb18 := hwb17.below hN.below
          have rx18 := rx17.below hN.below
          have ry18 := hN.rda
          clear bb17 ht17 hN hwb17 rx17
          go_wp2_with fail
          refine (K7.out w18 _ _ hwb18).mono ?_
          rintro e w19 ⟨Az, cz, rfl, hN⟩
          have bb19 := below_then bb18 hN.below
          have rx19 := rx18.below hN.below
          have ry19 := ry18.below hN.below
          clear bb18 hN hwb18 rx18 ry18
          go_wp2_with fail
          refine (same5_yes rx19 ry19 rfl rfl rfl).mono ?_
          rintro e wx ⟨rfl, rfl⟩
          go_wp2_with fail
          go_ret
          exact ⟨rfl, b3.trans (bb19.mono b3.size)⟩

theorem homeFresh_contract (H : Type) (enc : TypeId × Value → H) (W : World) (base : Nat) (args : Array Value) (ds gs : List (DataW H)) (before : List MemPlace)
    (hval0 : ∀ (j : Nat) t v, Try.f8.params[j]? = some t → args[j]? = some v → Value.okWide Try.prog W .any base t v)
    (hW : DataW.Whole enc Try.prog Try.f8.params.toList Rows.homeFreshSpec.vars false W args.toList ds gs before) (hsz : (DataW.weightsEach Try.checked.prog (Try.f8.params.toList ++ Rows.homeFreshSpec.plain.varTypes Try.checked.prog) (ds ++ gs)).all (· ≤ reachBytes) = true) :
    Calls Try.prog 8 args W fun e W' => ∃ v, e = .returned v ∧ Rows.homeFreshSpec.post enc Try.prog Try.f8 false true false false W args v W' := by
  have hval : ∀ (j : Nat) t v, Try.f8.params[j]? = some t → args[j]? = some v → Value.okWide Try.prog W .any base t v := hval0
  have hW' := hW
  obtain ⟨p, q, hA0, hV, rfl, hfz, hnd⟩ := hW
  have hA : DataW.TrodAll enc Try.prog W 0 (fun _ => true) true Try.f8.params.toList args.toList ds p := hA0
  rw [Try.params8] at hA hval
  obtain ⟨v0, vs0, d0, ds0, p0, q0, hargs, rfl, rfl, h0, rr0⟩ := trodAll_cons hA
  obtain ⟨v1, vs1, d1, ds1, p1, q1, rfl, rfl, rfl, h1, rr1⟩ := trodAll_cons rr0
  obtain ⟨v2, vs2, d2, ds2, p2, q2, rfl, rfl, rfl, h2, rr2⟩ := trodAll_cons rr1
  obtain ⟨rfl, rfl, rfl⟩ := trodAll_nil rr2
  obtain rfl : args = #[v0, v1, v2] := by cases args; simp_all
  obtain ⟨rfl, rfl⟩ := trodVars_none hV
  obtain ⟨x0, rfl, rfl, rfl, w0⟩ := open_int Try.underlying3 (hval 0 3 v0 rfl rfl) h0
  have b0 := bounds_i64 w0
  obtain ⟨x1, rfl, rfl, rfl, w1⟩ := open_int Try.underlying3 (hval 1 3 v1 rfl rfl) h1
  have b1 := bounds_i64 w1
  obtain ⟨x2, rfl, rfl, rfl, w2⟩ := open_int Try.underlying30 (hval 2 30 v2 rfl rfl) h2
  have b2 := bounds_u64 w2
  clear hA0 hval0
  refine (homeFresh_any x0 x1 x2 b2.1 (by omega)).mono fun e W' ⟨he, bel⟩ => ?_
  subst he
  exact ⟨_, rfl, _, _, _, [], _, [], hW', trodAll_mk1 (shut_bool Try.underlying4 _), (trodAll_cons_mk (shut_int Try.underlying3 w0) (trodAll_cons_mk (shut_int Try.underlying3 w1) (trodAll_cons_mk (shut_int Try.underlying30 w2) trodAll_mk0))), rfl, bel.frame _, fun h => by cases h⟩

theorem homeFresh_lifted (os : Os) (started : os.Started) (H : Type) (enc : TypeId × Value → H) :
    ReturnsInHanded {} Try.checked os 8 .any (Rows.homeFreshSpec.pre6 enc Try.prog Try.f8 Rows.homeFreshRow.domain false) (Rows.homeFreshSpec.post enc Try.prog Try.f8 false true false false) := by
  refine returnsInHanded_of_change_sized (C := Try.checked) own_knob started (by kernel_rfl) Try.func8
    (ChangeSpec.witness6 (enc := enc) (C := Try.checked) false ⟨#[], #[.int .i64 0, .int .i64 0, .int .u64 0], []⟩ 8 (by kernel_rfl) (by kernel_rfl) (by kernel_rfl) (by kernel_rfl)) ?_
  intro W base args ds gs before hval hW _ hsz _
  exact homeFresh_contract H enc W base args ds gs before hval hW hsz

theorem homeFresh_holds : Rows.HomeFreshSaid :=
  OpenClaim.holds_of_wide 8 Try.f8 rfl rfl rfl rfl rfl rfl rfl ⟨rfl, rfl, rfl, rfl, rfl⟩ rfl rfl rfl rfl rfl (by kernel_rfl) Try.func8 (by kernel_rfl)
    (of_decide_eq_true (by kernel_rfl)) (by unfold Func.isWrapper; first | (rw [if_pos (by decide +kernel)]; kernel_rfl) | (rw [if_neg (by decide +kernel)]; exact ⟨rfl, rfl⟩))
    (fun os started H enc _ => homeFresh_lifted os started H enc)
#print axioms homeFresh_holds
end Go.Proofs.Ytgcpmdodhnmneab
