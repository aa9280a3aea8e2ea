import Derived.Test.YtaldpngilgaciabDoorCrc
import Derived.Test.YtaldpngilgaciabDoorRef1
import Derived.Test.YtaldpngilgaciabDoorFramePure
/- The contracts of the document's answer for layer 8 (package tidemarkref08). -/
set_option linter.unusedVariables false
set_option linter.unusedSimpArgs false
namespace Go.Proofs.YtaldpngilgaciabDoor
open Go.RowKit Go.Tm
set_option maxHeartbeats 400000
set_option maxRecDepth 100000

theorem refSize_any (n : Int) (h : n ≤ 9223372036854775807) (w : World) : Calls Tryd.prog 13 #[.int .i64 n] w fun e w' => e = .returned (.int .i64 (sizeF n)) ∧ w = w' := by
  by_cases h1 : n < 1
  · have e : sizeF n = 0 := if_pos (.inl h1)
    rw [e]
    clear e
    go_enter Tryd.func13, Tryd.ntmps13
    go_wp2
    go_ret
    exact ⟨rfl, rfl⟩
  · by_cases h2 : 1024 < n
    · have e : sizeF n = 0 := if_pos (.inr h2)
      rw [e]
      clear e
      go_enter Tryd.func13, Tryd.ntmps13
      go_wp2
      go_ret
      exact ⟨rfl, rfl⟩
    · have e : sizeF n = n + 16 := by unfold sizeF; rw [if_neg (by omega)]
      rw [e]
      clear e
      have h3 : 1 ≤ n := by omega
      have h4 : n ≤ 1024 := by omega
      clear h1 h2
      go_enter Tryd.func13, Tryd.ntmps13
      go_wp2
      go_ret
      exact ⟨rfl, rfl⟩

theorem refWrap_any {w : World} {A : Option Addr} {n c : Nat} {l : List UInt8} (h : Rda w A c l) (hn : n = l.length) (hl : l.length ≤ 140737488355328) (lsn : Int) :
    Calls Tryd.prog 10 #[.int .i64 lsn, .slice A n c] w fun e w' => ∃ A' c', e = .returned (.tuple #[.slice A' (wrapV lsn l).length c', .int .i64 (wrapE lsn l)]) ∧ New 5 w w' A' c' (wrapV lsn l) := by
  subst hn
  cases hb : okBody l.length with
  | false =>
    have e1 : wrapE lsn l = 81 := if_pos hb
    have e2 : wrapV lsn l = [] := if_neg (by rw [e1]; decide)
    rw [e1, e2]
    clear e1 e2
    have hno : ¬ (1 ≤ l.length ∧ l.length ≤ 1024) := fun h' => by rw [(okBody_iff _).2 h'] at hb; cases hb
    clear hb
    by_cases h0 : l.length = 0
    · have h0' : (l.length : Int) = 0 := by omega
      clear hno h0
      go_enter Tryd.func10, Tryd.ntmps10
      go_wp2_with fail
      go_ret2
      exact ⟨none, 0, rfl, ⟨Own8.nilRow _ _ _, Below.refl _ _⟩⟩
    · have h0' : ((l.length : Int) == 0) = false := by rw [beq_eq_false_iff_ne]; omega
      have h1' : (1024 : Int) < (l.length : Int) := by omega
      clear hno h0
      go_enter Tryd.func10, Tryd.ntmps10
      go_wp2_with fail
      go_ret2
      exact ⟨none, 0, rfl, ⟨Own8.nilRow _ _ _, Below.refl _ _⟩⟩
  | true =>
    have hbb := (okBody_iff _).1 hb
    have h0' : ((l.length : Int) == 0) = false := by rw [beq_eq_false_iff_ne]; omega
    have h1' : (l.length : Int) ≤ (1024 : Int) := by omega
    cases hL : okLsn lsn with
    | false =>
      have e1 : wrapE lsn l = 30 := by unfold wrapE; rw [if_neg (by rw [hb]; decide), if_pos hL]
      have e2 : wrapV lsn l = [] := if_neg (by rw [e1]; decide)
      rw [e1, e2]
      clear e1 e2 hb
      by_cases hlo : lsn < 1
      · clear hL hbb
        go_enter Tryd.func10, Tryd.ntmps10
        go_wp2_with fail
        go_ret2
        exact ⟨none, 0, rfl, ⟨Own8.nilRow _ _ _, Below.refl _ _⟩⟩
      · have hhi : 1152921504606846976 < lsn := by
          rcases Int.lt_or_le 1152921504606846976 lsn with hh | hh
          · exact hh
          · rw [(okLsn_iff lsn).2 ⟨by omega, hh⟩] at hL; cases hL
        clear hL hbb
        go_enter Tryd.func10, Tryd.ntmps10
        go_wp2_with fail
        go_ret2
        exact ⟨none, 0, rfl, ⟨Own8.nilRow _ _ _, Below.refl _ _⟩⟩
    | true =>
      have hll := (okLsn_iff lsn).1 hL
      have e1 : wrapE lsn l = 0 := by unfold wrapE; rw [if_neg (by rw [hb]; decide), if_neg (by rw [hL]; decide)]
      have e2 : wrapV lsn l = frameL lsn.toNat l := if_pos e1
      rw [e1, e2]
      clear e1 e2 hb hL
      obtain ⟨hl1, hl2⟩ := hll
      obtain ⟨hb1, hb2⟩ := hbb
      go_enter Tryd.func10, Tryd.ntmps10
      go_wp2_with fail
      have P1 := refPut_any (l := []) (Rda.nilRow w) (n := 0) rfl (by simp) (l.length : Int) (by omega) (by omega) 4 (by omega) (by rfl)
      rw [Int.toNat_natCast, List.nil_append] at P1
      refine P1.mono ?_
      clear P1
      rintro e w1 ⟨A1, c1, rfl, hN1⟩
      have h1 := h.below hN1.below
      go_wp2_with fail
      refine (refPut_any hN1.rda (by simp) (by simp) lsn (by omega) (by omega) 8 (by omega) (by rfl)).mono ?_
      rintro e w2 ⟨A2, c2, rfl, hN2⟩
      have h2 := h1.below hN2.below
      have B2 := below_then hN1.below hN2.below
      have o2 := hN2.own.mono (base' := w.heap.size) (by have := hN1.below.size; omega)
      rw [show (leB 4 l.length ++ leB 8 lsn.toNat).length = 12 by simp] at o2
      clear h1 hN1 hN2
      go_wp2_with (at_builtin; refine wpList_app (l := leB 4 l.length ++ leB 8 lsn.toNat) (m := l) _ rfl _ _ rfl tU8 rfl o2 rfl rfl h2 (by simp; omega) B2.size ?_)
      intro v3 w3 o3 hg3
      have B3 := o2.grown hg3 B2 B2.size (Nat.le_refl _)
      rw [← frontL] at o3
      obtain ⟨A3, c3, rfl, r3⟩ := own_rda o3
      clear o2 o3 hg3 h2 B2
      go_wp2_with fail
      refine (refMore_any r3 rfl 0 (by omega) (by rfl)).mono ?_
      rintro e w4 ⟨rfl, rfl⟩
      have hcb := crcM_lt 0 (frontL lsn.toNat l) (by omega)
      go_wp2_with fail
      have P5 := refPut_any r3 rfl (by rw [frontL_length]; omega) ((crcM 0 (frontL lsn.toNat l) : Nat) : Int) (by omega) (by omega) 4 (by omega) (kk := 4) (by rfl)
      rw [Int.toNat_natCast, ← frameL] at P5
      refine P5.mono ?_
      clear P5
      rintro e w5 ⟨A5, c5, rfl, hN5⟩
      have B5 := below_then B3 hN5.below
      go_wp2_with fail
      go_ret2
      exact ⟨A5, c5, rfl, ⟨hN5.own.mono B3.size, B5⟩⟩
theorem refOpen_any {w : World} {A : Option Addr} {n c : Nat} {l : List UInt8} (h : Rda w A c l) (hn : n = l.length) (hl : l.length ≤ 140737488355328) (lsn : Int) :
    Calls Tryd.prog 16 #[.slice A n c, .int .i64 lsn] w fun e w' => ∃ A' c', e = .returned (.tuple #[.slice A' (openV l lsn).length c', .int .i64 (openN l lsn), .int .i64 (openE l lsn)]) ∧ New 5 w w' A' c' (openV l lsn) := by
  subst hn
  have hcap := h.cap
  have hmax := h.max
  unfold maxLen at hmax
  have HG := refGet_any (n := l.length) h rfl 4 (by omega) (kk := 4) (by rfl)
  have hVb := getV_lt 4 l
  by_cases h4 : l.length < 4
  · have e1 : getV 4 l = 0 := if_pos h4
    have e2 : getE 4 l = 10 := if_pos h4
    rw [e1, e2] at HG
    have HG' := Lib.hid HG
    obtain ⟨q1, q2, q3⟩ := open_none (openB_no (b := l) (lsn := lsn) (by rw [e1]; rintro ⟨_, h2, _⟩; exact absurd h2 (by decide)))
    rw [q1, q2, q3]
    clear q1 q2 q3 e1 e2 HG hVb h4
    go_enter Tryd.func16, Tryd.ntmps16
    go_wp2_with fail
    refine HG'.out.mono ?_
    rintro e w1 ⟨rfl, rfl⟩
    go_wp2_with fail
    go_ret3
    exact ⟨none, 0, rfl, ⟨Own8.nilRow _ _ _, Below.refl _ _⟩⟩
  have e2 : getE 4 l = 0 := if_neg h4
  rw [e2] at HG
  clear e2
  obtain ⟨V, hV⟩ : ∃ V, getV 4 l = V := ⟨_, rfl⟩
  rw [hV] at HG hVb
  have HG' := Lib.hid HG
  clear HG
  have hV2 : (V : Int) < 4294967296 := by have : (256 : Nat) ^ 4 = 4294967296 := by decide
                                          omega
  by_cases hlo : V < 1
  · obtain ⟨q1, q2, q3⟩ := open_none (openB_no (b := l) (lsn := lsn) (by rw [hV]; rintro ⟨_, h2, _⟩; have := (okBody_iff _).1 h2; omega))
    rw [q1, q2, q3]
    have hlo' : (V : Int) < 1 := by omega
    clear q1 q2 q3 hVb hlo h4 hV
    go_enter Tryd.func16, Tryd.ntmps16
    go_wp2_with fail
    refine HG'.out.mono ?_
    rintro e w1 ⟨rfl, rfl⟩
    go_wp2_with fail
    go_ret3
    exact ⟨none, 0, rfl, ⟨Own8.nilRow _ _ _, Below.refl _ _⟩⟩
  have hlo' : (1 : Int) ≤ (V : Int) := by omega
  by_cases hhi : 1024 < V
  · obtain ⟨q1, q2, q3⟩ := open_none (openB_no (b := l) (lsn := lsn) (by rw [hV]; rintro ⟨_, h2, _⟩; have := (okBody_iff _).1 h2; omega))
    rw [q1, q2, q3]
    have hhi' : (1024 : Int) < (V : Int) := by omega
    clear q1 q2 q3 hVb hlo hhi h4 hV
    go_enter Tryd.func16, Tryd.ntmps16
    go_wp2_with fail
    refine HG'.out.mono ?_
    rintro e w1 ⟨rfl, rfl⟩
    go_wp2_with fail
    go_ret3
    exact ⟨none, 0, rfl, ⟨Own8.nilRow _ _ _, Below.refl _ _⟩⟩
  have hhi' : (V : Int) ≤ (1024 : Int) := by omega
  by_cases hsh : l.length < V + 16
  · obtain ⟨q1, q2, q3⟩ := open_none (openB_no (b := l) (lsn := lsn) (by rw [hV]; rintro ⟨_, h2, h3, _⟩; omega))
    rw [q1, q2, q3]
    have hsh' : (l.length : Int) < (V : Int) + 16 := by omega
    clear q1 q2 q3 hVb hlo hhi h4 hV hsh
    go_enter Tryd.func16, Tryd.ntmps16
    go_wp2_with fail
    refine HG'.out.mono ?_
    rintro e w1 ⟨rfl, rfl⟩
    go_wp2_with fail
    go_ret3
    exact ⟨none, 0, rfl, ⟨Own8.nilRow _ _ _, Below.refl _ _⟩⟩
  have hsh' : (V : Int) + 16 ≤ (l.length : Int) := by omega
  have hb : okBody V = true := (okBody_iff V).2 ⟨by omega, by omega⟩
  have hbl : ((l.drop 12).take V).length = V := by simp; omega
  have hBd := h.pieceAt 12 (12 + V) c (by omega) (by omega) (by omega) (by omega)
  have hbe : (l.take (12 + V)).drop 12 = (l.drop 12).take V := by rw [List.drop_take]; congr 1; omega
  rw [hbe] at hBd
  clear hbe
  obtain ⟨bd, hbd⟩ : ∃ bd, (l.drop 12).take V = bd := ⟨_, rfl⟩
  rw [hbd] at hbl hBd
  subst hbl
  have HVl := Lib.hid (show bd.length = leN (l.take 4) by rw [← hV]; exact if_neg h4)
  have HV := Lib.hid hV
  have HL := Lib.hid hl
  have HBD := Lib.hid hbd
  have HB := Lib.hid hb
  have p1 : (0 : Int) ≤ (bd.length : Int) + 16 := by omega
  have p2 : (12 : Int) + (bd.length : Int) ≤ (l.length : Int) := by omega
  have p3 : (12 : Int) + (bd.length : Int) ≤ (c : Int) := by omega
  have p4 : (12 : Int) ≤ (12 : Int) + (bd.length : Int) := by omega
  have p5 : (bd.length : Int) + 16 ≤ (c : Int) := by omega
  have hnil := Own8.nilRow w w.heap.size 5
  have hb1 : bd.length ≤ 1024 := by omega
  have hb0 : 1 ≤ bd.length := by omega
  clear hV h4 hVb hmax hlo hhi hsh hl hV2 hcap hbd hb
  have HW := fun (w1 : World) (A1 : Option Addr) (c1 : Nat) (hr : Rda w1 A1 c1 bd) => refWrap_any (n := bd.length) hr rfl (by omega) lsn
  cases hL : okLsn lsn with
  | false =>
    obtain ⟨q1, q2, q3⟩ := open_none (openB_no (b := l) (lsn := lsn) (by rintro ⟨h1, _⟩; rw [hL] at h1; cases h1))
    rw [q1, q2, q3]
    have e1 : wrapE lsn bd = 30 := by unfold wrapE; rw [if_neg (by rw [HB.out]; decide), if_pos hL]
    have e2 : wrapV lsn bd = [] := if_neg (by rw [e1]; decide)
    rw [e1, e2] at HW
    have HW' := Lib.hid HW
    clear q1 q2 q3 e1 e2 HW
    go_enter Tryd.func16, Tryd.ntmps16
    go_wp2_with fail
    refine HG'.out.mono ?_
    rintro e w1 ⟨rfl, rfl⟩
    go_wp2_with (at_builtin; refine wpList_app (l := []) (m := bd) _ rfl _ _ rfl tU8 rfl hnil rfl (by omega) hBd (by simp; omega) (Nat.le_refl _) ?_)
    intro v3 w3 o3 hg3
    have B3 := hnil.grown hg3 (Below.refl _ _) (Nat.le_refl _) (Nat.le_refl _)
    obtain ⟨A3, c3, rfl, r3⟩ := own_rda o3
    go_wp2_with fail
    refine (HW'.out _ _ _ r3).mono ?_
    rintro e w4 ⟨A4, c4, rfl, hN4⟩
    have B4 := below_then B3 hN4.below
    go_wp2_with fail
    go_quiet (fail)
    go_wp2_with fail
    go_ret3
    exact ⟨none, 0, rfl, ⟨Own8.nilRow _ _ _, below_then B4 (drewN_below w4 nq)⟩⟩
  | true =>
    have e1 : wrapE lsn bd = 0 := by unfold wrapE; rw [if_neg (by rw [HB.out]; decide), if_neg (by rw [hL]; decide)]
    have e2 : wrapV lsn bd = frameL lsn.toNat bd := if_pos e1
    have hfl := frameL_length lsn.toNat bd
    have hfi := frame_iff l bd.length lsn.toNat HVl.out (by omega) (lsn_lt hL)
    rw [HBD.out] at hfi
    rw [e1, e2] at HW
    obtain ⟨f, hf⟩ : ∃ f, frameL lsn.toNat bd = f := ⟨_, rfl⟩
    rw [hf] at HW hfi hfl
    rw [hfl] at HW
    have HW' := Lib.hid HW
    have hT := h.take (bd.length + 16) (by omega)
    have hTl : (l.take (bd.length + 16)).length = bd.length + 16 := by simp; omega
    by_cases he : f = l.take (bd.length + 16)
    · obtain ⟨q1, q2, q3⟩ := open_some (openB_yes (b := l) (lsn := lsn) (by rw [HV.out]; exact ⟨hL, HB.out, by omega, hfi.1 he⟩))
      rw [q1, q2, q3, HV.out, HBD.out]
      clear q1 q2 q3 e1 e2 HW hfi hL
      go_enter Tryd.func16, Tryd.ntmps16
      go_wp2_with fail
      refine HG'.out.mono ?_
      rintro e w1 ⟨rfl, rfl⟩
      go_wp2_with (at_builtin; refine wpList_app (l := []) (m := bd) _ rfl _ _ rfl tU8 rfl hnil rfl (by omega) hBd (by simp; omega) (Nat.le_refl _) ?_)
      intro v3 w3 o3 hg3
      have B3 := hnil.grown hg3 (Below.refl _ _) (Nat.le_refl _) (Nat.le_refl _)
      obtain ⟨A3, c3, rfl, r3⟩ := own_rda o3
      go_wp2_with fail
      refine (HW'.out _ _ _ r3).mono ?_
      rintro e w4 ⟨A4, c4, rfl, hN4⟩
      have B4 := below_then B3 hN4.below
      have hC1 := fun q => run_conv_rd (P := Tryd.prog) (w4.drewN q) tU8 (hN4.rda.below (drewN_below w4 q)) (bd.length + 16) hfl.symm 9 rfl
      have hC2 := fun q => run_conv_rd (P := Tryd.prog) (w4.drewN q) tU8 ((hT.below B4).below (drewN_below w4 q)) (bd.length + 16) hTl.symm 9 rfl
      rw [he] at hC1
      go_wp2_with fail
      go_quiet (fail)
      go_wp2_with fail
      go_ret3
      exact ⟨A3, c3, by rfl, ⟨(o3.below hN4.below).below (drewN_below w4 nq), below_then B4 (drewN_below w4 nq)⟩⟩
    · obtain ⟨q1, q2, q3⟩ := open_none (openB_no (b := l) (lsn := lsn) (by rw [HV.out]; rintro ⟨_, _, _, h4, h5⟩; exact he (hfi.2 ⟨h4, h5⟩)))
      rw [q1, q2, q3]
      clear q1 q2 q3 e1 e2 HW hfi hL
      go_enter Tryd.func16, Tryd.ntmps16
      go_wp2_with fail
      refine HG'.out.mono ?_
      rintro e w1 ⟨rfl, rfl⟩
      go_wp2_with (at_builtin; refine wpList_app (l := []) (m := bd) _ rfl _ _ rfl tU8 rfl hnil rfl (by omega) hBd (by simp; omega) (Nat.le_refl _) ?_)
      intro v3 w3 o3 hg3
      have B3 := hnil.grown hg3 (Below.refl _ _) (Nat.le_refl _) (Nat.le_refl _)
      obtain ⟨A3, c3, rfl, r3⟩ := own_rda o3
      go_wp2_with fail
      refine (HW'.out _ _ _ r3).mono ?_
      rintro e w4 ⟨A4, c4, rfl, hN4⟩
      have B4 := below_then B3 hN4.below
      have hC1 := fun q => run_conv_rd (P := Tryd.prog) (w4.drewN q) tU8 (hN4.rda.below (drewN_below w4 q)) (bd.length + 16) hfl.symm 9 rfl
      have hC2 := fun q => run_conv_rd (P := Tryd.prog) (w4.drewN q) tU8 ((hT.below B4).below (drewN_below w4 q)) (bd.length + 16) hTl.symm 9 rfl
      have hne := decide_eq_false he
      go_wp2_with fail
      go_quiet (fail)
      go_wp2_with fail
      go_ret3
      exact ⟨none, 0, rfl, ⟨Own8.nilRow _ _ _, below_then B4 (drewN_below w4 nq)⟩⟩
end Go.Proofs.YtaldpngilgaciabDoor
