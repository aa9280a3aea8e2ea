/-
  Proved: for every input that its row lets in the statement PairBack answers true; what was handed in stays as it was.
  Conditions: none beyond the row's own.
-/
import Derived.Test.YtapoknpakleiiaaDoorJPairBack43
import Derived.Test.YtapoknpakleiiaaDoorJPairBack45
import Derived.Test.YtapoknpakleiiaaDoorJPairBack48
/- PairBack: the walk. -/
set_option linter.unusedVariables false
set_option linter.unusedSimpArgs false
namespace Go.Proofs.YtapoknpakleiiaaDoor
open Go.RowKit Go.Tm Go.ChangeShapes Go.WideShapes Go.ChangeAt
set_option maxHeartbeats 400000
set_option maxRecDepth 100000
attribute [local go_sem ↓] Go.wp_at_zero Go.wp_at_succ

theorem restI_lt (n : Int) (m : Nat) (hm : 0 < m) : restI n m < m := by
  unfold restI
  have g0 := Int.emod_nonneg n (show (m : Int) ≠ 0 by omega)
  have g1 := Int.emod_lt_of_pos n (show (0 : Int) < m by omega)
  omega

set_option maxHeartbeats 40000000 in
theorem pairBack_any {w : World} (hT : Tb w) {B0 : Option Addr} {n0 d0 : Nat} {b : List UInt8} (hB : Rda w B0 d0 b) (hn0 : n0 = b.length) (hl0 : b.length ≤ 140737488351232) (number slots lsn at0 x : Int)
    (a0 : -9223372036854775808 ≤ number ∧ number ≤ 9223372036854775807) (a2 : -9223372036854775808 ≤ slots ∧ slots ≤ 9223372036854775807) (a3 : -9223372036854775808 ≤ lsn ∧ lsn ≤ 9223372036854775807) (a4 : -9223372036854775808 ≤ at0 ∧ at0 ≤ 9223372036854775807) (hx0 : 0 ≤ x) (hx1 : x ≤ 255) :
    Calls Tryd.prog 4 #[.int .i64 number, .slice B0 n0 d0, .int .i64 slots, .int .i64 lsn, .int .i64 at0, .int .u8 x] w fun e w' => e = .returned (.bool true) ∧ Below w.heap.size w w' := by
  have HR1 := Lib.hid (fun W => rest13_any (w := W) slots 8 a2.1 a2.2 (by omega) (by omega) (mm := 8) rfl)
  have HR2 := Lib.hid (fun W => rest13_any (w := W) number 16 a0.1 a0.2 (by omega) (by omega) (mm := 16) rfl)
  have HR3 := Lib.hid (fun W => rest13_any (w := W) lsn 576460752303423488 a3.1 a3.2 (by omega) (by omega) (mm := 576460752303423488) rfl)
  have HR4 := Lib.hid (fun W => rest13_any (w := W) at0 12 a4.1 a4.2 (by omega) (by omega) (mm := 12) rfl)
  have s7 := restI_lt slots 8 (by omega)
  have n15 := restI_lt number 16 (by omega)
  have lx := restI_lt lsn 576460752303423488 (by omega)
  have k11 := restI_lt at0 12 (by omega)
  obtain ⟨s', hs'⟩ : ∃ y, restI slots 8 = y := ⟨_, rfl⟩
  obtain ⟨nu, hnu⟩ : ∃ y, restI number 16 = y := ⟨_, rfl⟩
  obtain ⟨l', hl'⟩ : ∃ y, restI lsn 576460752303423488 = y := ⟨_, rfl⟩
  obtain ⟨K, hK⟩ : ∃ y, restI at0 12 = y := ⟨_, rfl⟩
  rw [hs'] at HR1 s7
  rw [hnu] at HR2 n15
  rw [hl'] at HR3 lx
  rw [hK] at HR4 k11
  clear hs' hnu hl' hK a0 a2 a3 a4
  obtain ⟨s, hs⟩ : ∃ s, s = 1 + s' := ⟨_, rfl⟩
  obtain ⟨l, hl⟩ : ∃ l, l = 1 + l' := ⟨_, rfl⟩
  have es : (1 : Int) + (s' : Int) = (s : Int) := by omega
  have el : (1 : Int) + (l' : Int) = (l : Int) := by omega
  have s1 : 1 ≤ s := by omega
  have s8 : s ≤ 8 := by omega
  have l1 : 1 ≤ l := by omega
  have l2 : l ≤ 576460752303423488 := by omega
  obtain ⟨F, hF⟩ : ∃ F, fitL b s = F := ⟨_, rfl⟩
  obtain ⟨cc, hc⟩ : ∃ c, stampP F nu l = c := ⟨_, rfl⟩
  obtain ⟨p, hp⟩ : ∃ p, pairL l nu cc = p := ⟨_, rfl⟩
  have hK : Bk F s nu l cc p := ⟨hF ▸ fitL_page b s1 s8, n15, l1, by omega, hc.symm, hp.symm⟩
  obtain ⟨Z, hZ⟩ : ∃ Z, 24 + 16 * s = Z := ⟨_, rfl⟩
  obtain ⟨PZ, hPZ⟩ : ∃ PZ, Z + 16 = PZ := ⟨_, rfl⟩
  have z1 : 24 ≤ Z := by omega
  have z2 : Z ≤ 152 := by omega
  have fl : F.length = Z := by rw [← hF, fitL_length]; exact hZ
  have cl : cc.length = Z := by rw [hK.clen]; exact hZ
  have pl : p.length = PZ := by rw [hK.plen]; omega
  have HPL := Lib.hid pl
  have HCL := Lib.hid cl
  -- the contracts, each with its answer
  have HFT : Hid (∀ W, Below w.heap.size w W → Calls Tryd.prog 24 #[.slice B0 n0 d0, .int .i64 (s : Nat)] W fun e w' => ∃ g, e = .returned (.slice (some ⟨g, 0, none⟩) Z Z) ∧ New 5 W w' (some ⟨g, 0, none⟩) Z F) := Lib.hid fun W hb => by
    have := fitted_any (hB.below hb) hn0 hl0 s s8 (ss := (s : Int)) rfl
    rwa [hF, hZ] at this
  have HST : Hid (∀ (W : World) (A : Option Addr) (c : Nat), Tb W → Rda W A c F → Calls Tryd.prog 23 #[.slice A Z c, .int .i64 (nu : Nat), .int .i64 (l : Nat)] W fun e w' => ∃ A' c', e = .returned (.tuple #[.slice A' Z c', .int .i64 0]) ∧ New 5 W w' A' c' cc) := Lib.hid fun W A c t h => by
    have := stamp_any t h fl.symm (by omega) (nu : Int) (l : Int)
    rwa [hK.stamp.1, hK.stamp.2, cl] at this
  obtain ⟨zz, hzz⟩ : ∃ z, stampV F nu 0 = z := ⟨_, rfl⟩
  have zl : zz.length = Z := by rw [← hzz, hK.zero.2.1]; exact hZ
  have HSZ : Hid (∀ (W : World) (A : Option Addr) (c : Nat), Tb W → Rda W A c F → Calls Tryd.prog 23 #[.slice A Z c, .int .i64 (nu : Nat), .int .i64 0] W fun e w' => ∃ A' c', e = .returned (.tuple #[.slice A' Z c', .int .i64 0]) ∧ New 5 W w' A' c' zz) := Lib.hid fun W A c t h => by
    have := stamp_any t h fl.symm (by omega) (nu : Int) 0
    rwa [hK.zero.1, hzz, zl] at this
  have HMK : Hid (∀ (W : World) (A : Option Addr) (c : Nat), Tb W → Rda W A c cc → Calls Tryd.prog 9 #[.int .i64 (nu : Nat), .slice A Z c] W fun e w' => ∃ A' c', e = .returned (.tuple #[.slice A' PZ c', .int .i64 0]) ∧ New 5 W w' A' c' p) := Lib.hid fun W A c t h => by
    have := pMake_any t h cl.symm (by omega) (nu : Int)
    rwa [hK.made.1, hK.made.2, pl] at this
  have HMZ : Hid (∀ (W : World) (A : Option Addr) (c : Nat), Tb W → Rda W A c zz → Calls Tryd.prog 9 #[.int .i64 (nu : Nat), .slice A Z c] W fun e w' => ∃ v, e = .returned (.tuple #[v, .int .i64 40]) ∧ Below W.heap.size W w') := Lib.hid fun W A c t h => by
    have := pMake_any t h zl.symm (by omega) (nu : Int)
    rw [← hzz, hK.zero.2.2] at this
    exact this.mono fun e w' ⟨A', c', h1, h2⟩ => ⟨_, h1, h2.below⟩
  have hwr := hK.wrong
  obtain ⟨nw, hnw⟩ : ∃ y, (nu + 1) % 16 = y := ⟨_, rfl⟩
  rw [hnw] at hwr
  have HMW : Hid (∀ (W : World) (A : Option Addr) (c : Nat), Tb W → Rda W A c cc → Calls Tryd.prog 9 #[.int .i64 (nw : Nat), .slice A Z c] W fun e w' => ∃ v, e = .returned (.tuple #[v, .int .i64 40]) ∧ Below W.heap.size W w') := Lib.hid fun W A c t h => by
    have := pMake_any t h cl.symm (by omega) (nw : Int)
    rw [hwr] at this
    exact this.mono fun e w' ⟨A', c', h1, h2⟩ => ⟨_, h1, h2.below⟩
  have enw : ((nu : Int) + 1) % 16 = (nw : Int) := by omega
  have HP0 : Hid (∀ (W : World) (A : Option Addr) (c : Nat), Tb W → Rda W A c p → Calls Tryd.prog 20 #[.slice A PZ c, .int .i64 ((nu : Int) + 1), .int .i64 (s : Nat)] W fun e w' => ∃ A' c', e = .returned (.tuple #[.int .i64 (nu : Nat), .slice A' Z c', .int .i64 0]) ∧ New 5 W w' A' c' cc) := Lib.hid fun W A c t h => by
    have := pParse_any t h pl.symm (by omega) ((nu : Int) + 1) (s : Int)
    obtain ⟨h1, h2, h3⟩ := hK.parse (m := (nu : Int) + 1) (by omega)
    rwa [h1, h2, h3, cl] at this
  have HPR : Hid (∀ (W : World) (A : Option Addr) (n c : Nat) (q : List UInt8) (m k E : Int), Tb W → Rda W A c q → n = q.length → q.length ≤ 200 → ppE q m k = E → Calls Tryd.prog 20 #[.slice A n c, .int .i64 m, .int .i64 k] W fun e w' => ∃ v u, e = .returned (.tuple #[v, u, .int .i64 E]) ∧ Below W.heap.size W w') := Lib.hid fun W A n c q m k E t h hn hq hE => by
    have := pParse_any t h hn (by omega) m k
    rw [hE] at this
    exact this.mono fun e w' ⟨A', c', h1, h2⟩ => ⟨_, _, h1, h2.below⟩
  have HLN : Hid (∀ (W : World) (A : Option Addr) (c : Nat), Rda W A c p → (Calls Tryd.prog 14 #[.slice A PZ c] W fun e w' => e = .returned (.int .i64 (l : Nat)) ∧ W = w') ∧ (Calls Tryd.prog 16 #[.slice A PZ c] W fun e w' => e = .returned (.int .i64 (nu : Nat)) ∧ W = w') ∧ (Calls Tryd.prog 18 #[.slice A PZ c] W fun e w' => ∃ A' c', e = .returned (.slice A' Z c') ∧ New 5 W w' A' c' cc)) := Lib.hid fun W A c h => by
    obtain ⟨h1, h2, h3⟩ := hK.parts
    refine ⟨by rw [← h1]; exact pLsn_any h pl.symm, by have := pNumber_any h pl.symm; rwa [h2] at this, ?_⟩
    have := pPage_any h pl.symm (by omega)
    rwa [h3, cl] at this
  have HNM : Hid (∀ (W : World) (y : Int), Calls Tryd.prog 12 #[.int .i64 y] W fun e w' => e = .returned (.int .i64 y) ∧ W = w') := Lib.hid fun W y => num_any y
  have HAL : Hid (∀ (W : World), Tb W → Calls Tryd.prog 11 #[] W fun e w' => e = .returned (.bool true) ∧ Below W.heap.size W w') := Lib.hid fun W t => alive_any t
  have HT := Lib.hid hT
  have HMO := Lib.hid hK.more
  have HLE := Lib.hid hK.less
  have HFE := Lib.hid hK.few
  have hso : ((s : Int) % 8 + 1) ≠ (s : Int) := by omega
  have HOT := Lib.hid (hK.other hso)
  have HTD := Lib.hid (fun v => hK.turnedE k11 v)
  have ez : (Z : Int) + 16 = (PZ : Int) := by omega
  have HES := Lib.hid es
  have HEL := Lib.hid el
  have HENW := Lib.hid enw
  have HEZ := Lib.hid ez
  have s'7 : (s' : Int) ≤ 7 := by omega
  have l'9 : (l' : Int) ≤ 576460752303423488 := by omega
  have HPZ := Lib.hid (show PZ = Z + 16 from hPZ.symm)
  have pz1 : PZ ≤ 168 := by omega
  have pz2 : 40 ≤ PZ := by omega
  clear hT hB hn0 hl0 hs hl hF hc hp hK hZ hPZ fl cl pl hzz zl hwr hnw enw hso es el ez lx
  go_enter Tryd.func4, Tryd.ntmps4
  go_wp2_with fail
  refine (HR1.out _).mono ?_
  rintro e w1 ⟨rfl, rfl⟩
  go_wp2_with fail
  refine (HR2.out _).mono ?_
  rintro e w1 ⟨rfl, rfl⟩
  go_wp2_with fail
  refine (HR3.out _).mono ?_
  rintro e w1 ⟨rfl, rfl⟩
  go_wp2_with fail
  rw [HES.out, HEL.out]
  refine (HFT.out _ (Below.refl _ _)).mono ?_
  rintro e w1 ⟨g1, rfl, N1⟩
  have HB1 := Lib.hid N1.below
  have HF1 := Lib.hid N1.rda
  clear N1
  go_wp2_with fail
  refine (HST.out _ _ _ (HT.out.below HB1.out) HF1.out).mono ?_
  rintro e w2 ⟨A2, c2, rfl, N2⟩
  have HB2 := Lib.hid (below_then HB1.out N2.below)
  have HC2 := Lib.hid N2.rda
  clear N2 HB1 HF1
  go_wp2_with fail
  refine (HMK.out _ _ _ (HT.out.below HB2.out) HC2.out).mono ?_
  rintro e w3 ⟨A3, c3, rfl, N3⟩
  have HB3 := Lib.hid (below_then HB2.out N3.below)
  have HC3 := Lib.hid (HC2.out.below N3.below)
  have HO3 := Lib.hid N3.own
  rw [HPL.out] at HO3
  have HS3 := Lib.hid HB2.out.size
  clear N3 HB2 HC2
  go_upto_region 6 with (fail)
  go_cut [106] from 67 to 106 (fun s106 wx => s106 = .bool false ∧ Below w3.heap.size w3 wx)
  case first =>
    have d1 : IntKind.i64.wrap ((Z : Int) + 16) = (PZ : Int) := by rw [HEZ.out]; exact IntWalk.i64_in _ (by omega)
    clear HR1 HR2 HR3 HR4 HFT HST HSZ HMK HMZ HMW HP0 HPR HMO HLE HFE HOT HTD
    refine wp_region_held_drew (S := (fun w' => Below w3.heap.size w3 w')) (by kernel_rfl) ((Below.refl w3.heap.size w3).drew) (fun hHeld => ?_)
    refine wpAnyH_take (i := 0) (oi := { dst := some 67, op := Op.move (Operand.tmp 17), type := 25, pos := "outright.go:241", after := #[], guard := none }) (v := ?va0) rfl (by kernel_rfl) (by kernel_rfl) (by kernel_rfl) (fun _ _ _ h => h) (Or.inl ⟨by rfl, ?ha0⟩) hHeld ?ra0
    case ha0 => ((intro w hSw); (try dsimp only at hSw); go_simp; (try with_reducible rfl))
    (try simp only [Act.put, List.setIfInBounds_toArray, List.set_cons_zero, List.set_cons_succ])
    refine wpAnyH_ready (rs := [1]) (by kernel_rfl) (by simp) ?_
    refine AllReadyH.cons (o := { dst := some 68, op := Op.call { callee := Callee.value (Operand.func 12), args := #[Operand.tmp 67], argTypes := #[25] }, type := 3, pos := "outright.go:241", after := #[{ on := 0, ground := Ground.data }], guard := none }) rfl (fun K hK => ?_) AllReadyH.nil
    go_simp
    go_at_call 12
    refine (HNM.out _ _).mono ?_
    rintro e wn ⟨rfl, rfl⟩
    try go_wp2_with fail
    refine hK.out _ _ ?_ (fun hHeld => ?_)
    · exact hHeld
    clear hK K
    (try simp only [Act.put, List.setIfInBounds_toArray, List.set_cons_zero, List.set_cons_succ])
    refine wpAnyH_take (i := 2) (oi := { dst := some 69, op := Op.binOp BinOp.neq 3 (Operand.tmp 68) (Operand.const (Value.int IntKind.i64 0)) 3, type := 4, pos := "outright.go:241", after := #[{ on := 1, ground := Ground.data }], guard := none }) (v := ?va1) rfl (by kernel_rfl) (by kernel_rfl) (by kernel_rfl) (fun _ _ _ h => h) (Or.inl ⟨by rfl, ?ha1⟩) hHeld ?ra1
    case ha1 => ((intro w hSw); (try dsimp only at hSw); go_simp; (try with_reducible rfl))
    (try simp only [Act.put, List.setIfInBounds_toArray, List.set_cons_zero, List.set_cons_succ])
    refine wpAnyH_take (i := 3) (oi := { dst := some 70, op := Op.move (Operand.tmp 69), type := 4, pos := "outright.go:241", after := #[{ on := 2, ground := Ground.data }, { on := 1, ground := Ground.chain }], guard := none }) (v := ?va2) rfl (by kernel_rfl) (by kernel_rfl) (by kernel_rfl) (fun _ _ _ h => h) (Or.inl ⟨by rfl, ?ha2⟩) hHeld ?ra2
    case ha2 => ((intro w hSw); (try dsimp only at hSw); go_simp; (try with_reducible rfl))
    (try simp only [Act.put, List.setIfInBounds_toArray, List.set_cons_zero, List.set_cons_succ])
    refine wpAnyH_take (i := 4) (oi := { dst := some 71, op := Op.move (Operand.tmp 19), type := 25, pos := "outright.go:241", after := #[{ on := 3, ground := Ground.guard }], guard := some (3, false) }) (v := ?va3) rfl (by kernel_rfl) (by kernel_rfl) (by kernel_rfl) (fun _ _ _ h => h) (Or.inl ⟨by rfl, ?ha3⟩) hHeld ?ra3
    case ha3 => ((intro w hSw); (try dsimp only at hSw); go_simp; (try with_reducible rfl))
    (try simp only [Act.put, List.setIfInBounds_toArray, List.set_cons_zero, List.set_cons_succ])
    refine wpAnyH_ready (rs := [5]) (by kernel_rfl) (by simp) ?_
    refine AllReadyH.cons (o := { dst := some 72, op := Op.call { callee := Callee.value (Operand.func 12), args := #[Operand.tmp 71], argTypes := #[25] }, type := 3, pos := "outright.go:241", after := #[{ on := 4, ground := Ground.data }, { on := 3, ground := Ground.chain }, { on := 3, ground := Ground.guard }], guard := some (3, false) }) rfl (fun K hK => ?_) AllReadyH.nil
    go_simp
    go_at_call 12
    refine (HNM.out _ _).mono ?_
    rintro e wn ⟨rfl, rfl⟩
    try go_wp2_with fail
    refine hK.out _ _ ?_ (fun hHeld => ?_)
    · exact hHeld
    clear hK K
    (try simp only [Act.put, List.setIfInBounds_toArray, List.set_cons_zero, List.set_cons_succ])
    refine wpAnyH_take (i := 6) (oi := { dst := some 73, op := Op.binOp BinOp.neq 3 (Operand.tmp 72) (Operand.const (Value.int IntKind.i64 0)) 3, type := 4, pos := "outright.go:241", after := #[{ on := 5, ground := Ground.data }, { on := 3, ground := Ground.guard }], guard := some (3, false) }) (v := ?va4) rfl (by kernel_rfl) (by kernel_rfl) (by kernel_rfl) (fun _ _ _ h => h) (Or.inl ⟨by rfl, ?ha4⟩) hHeld ?ra4
    case ha4 => ((intro w hSw); (try dsimp only at hSw); go_simp; (try with_reducible rfl))
    (try simp only [Act.put, List.setIfInBounds_toArray, List.set_cons_zero, List.set_cons_succ])
    refine wpAnyH_take (i := 7) (oi := { dst := some 74, op := Op.pick (Operand.tmp 70) (Operand.const (Value.bool true)) (Operand.tmp 73), type := 4, pos := "outright.go:241", after := #[{ on := 3, ground := Ground.data }, { on := 6, ground := Ground.data }], guard := none }) (v := ?va5) rfl (by kernel_rfl) (by kernel_rfl) (by kernel_rfl) (fun _ _ _ h => h) (Or.inl ⟨by rfl, ?ha5⟩) hHeld ?ra5
    case ha5 => ((intro w hSw); (try dsimp only at hSw); go_simp; (try with_reducible rfl))
    (try simp only [Act.put, List.setIfInBounds_toArray, List.set_cons_zero, List.set_cons_succ])
    refine wpAnyH_take (i := 8) (oi := { dst := some 75, op := Op.move (Operand.tmp 74), type := 4, pos := "outright.go:241", after := #[{ on := 7, ground := Ground.data }, { on := 5, ground := Ground.chain }], guard := none }) (v := ?va6) rfl (by kernel_rfl) (by kernel_rfl) (by kernel_rfl) (fun _ _ _ h => h) (Or.inl ⟨by rfl, ?ha6⟩) hHeld ?ra6
    case ha6 => ((intro w hSw); (try dsimp only at hSw); go_simp; (try with_reducible rfl))
    (try simp only [Act.put, List.setIfInBounds_toArray, List.set_cons_zero, List.set_cons_succ])
    refine wpAnyH_ready (rs := [9]) (by kernel_rfl) (by simp) ?_
    refine AllReadyH.cons (o := { dst := some 76, op := Op.call { callee := Callee.value (Operand.func 11), args := #[], argTypes := #[] }, type := 4, pos := "outright.go:241", after := #[{ on := 8, ground := Ground.chain }, { on := 8, ground := Ground.guard }], guard := some (8, false) }) rfl (fun K hK => ?_) AllReadyH.nil
    go_simp
    go_at_call 11
    refine (HAL.out _ (HT.out.below (below_then HB3.out hHeld))).mono ?_
    rintro e w4 ⟨rfl, hb4⟩
    try go_wp2_with fail
    refine hK.out _ _ ?_ (fun hHeld => ?_)
    · exact below_then hHeld hb4
    clear hK K
    (try simp only [Act.put, List.setIfInBounds_toArray, List.set_cons_zero, List.set_cons_succ])
    refine wpAnyH_take (i := 10) (oi := { dst := some 77, op := Op.unOp UnOp.not 4 (Operand.tmp 76), type := 4, pos := "outright.go:241", after := #[{ on := 9, ground := Ground.data }, { on := 8, ground := Ground.guard }], guard := some (8, false) }) (v := ?va7) rfl (by kernel_rfl) (by kernel_rfl) (by kernel_rfl) (fun _ _ _ h => h) (Or.inl ⟨by rfl, ?ha7⟩) hHeld ?ra7
    case ha7 => ((intro w hSw); (try dsimp only at hSw); go_simp; (try with_reducible rfl))
    (try simp only [Act.put, List.setIfInBounds_toArray, List.set_cons_zero, List.set_cons_succ])
    refine wpAnyH_take (i := 11) (oi := { dst := some 78, op := Op.pick (Operand.tmp 75) (Operand.const (Value.bool true)) (Operand.tmp 77), type := 4, pos := "outright.go:241", after := #[{ on := 8, ground := Ground.data }, { on := 10, ground := Ground.data }], guard := none }) (v := ?va8) rfl (by kernel_rfl) (by kernel_rfl) (by kernel_rfl) (fun _ _ _ h => h) (Or.inl ⟨by rfl, ?ha8⟩) hHeld ?ra8
    case ha8 => ((intro w hSw); (try dsimp only at hSw); go_simp; (try with_reducible rfl))
    (try simp only [Act.put, List.setIfInBounds_toArray, List.set_cons_zero, List.set_cons_succ])
    refine wpAnyH_take (i := 12) (oi := { dst := some 79, op := Op.move (Operand.tmp 78), type := 4, pos := "outright.go:241", after := #[{ on := 11, ground := Ground.data }, { on := 9, ground := Ground.chain }], guard := none }) (v := ?va9) rfl (by kernel_rfl) (by kernel_rfl) (by kernel_rfl) (fun _ _ _ h => h) (Or.inl ⟨by rfl, ?ha9⟩) hHeld ?ra9
    case ha9 => ((intro w hSw); (try dsimp only at hSw); go_simp; (try with_reducible rfl))
    (try simp only [Act.put, List.setIfInBounds_toArray, List.set_cons_zero, List.set_cons_succ])
    refine wpAnyH_take (i := 13) (oi := { dst := some 80, op := Op.move (Operand.tmp 18), type := 24, pos := "outright.go:241", after := #[{ on := 12, ground := Ground.guard }], guard := some (12, false) }) (v := ?va10) rfl (by kernel_rfl) (by kernel_rfl) (by kernel_rfl) (fun _ _ _ h => h) (Or.inl ⟨by rfl, ?ha10⟩) hHeld ?ra10
    case ha10 => ((intro w hSw); (try dsimp only at hSw); go_simp; (try with_reducible rfl))
    (try simp only [Act.put, List.setIfInBounds_toArray, List.set_cons_zero, List.set_cons_succ])
    refine wpAnyH_take (i := 14) (oi := { dst := some 81, op := Op.call { callee := Callee.builtin Builtin.len, args := #[Operand.tmp 80], argTypes := #[24] }, type := 3, pos := "outright.go:241", after := #[{ on := 13, ground := Ground.data }, { on := 12, ground := Ground.guard }], guard := some (12, false) }) (v := ?va11) rfl (by kernel_rfl) (by kernel_rfl) (by kernel_rfl) (fun _ _ _ h => h) (Or.inl ⟨by rfl, ?ha11⟩) hHeld ?ra11
    case ha11 => ((intro w hSw); (try dsimp only at hSw); go_simp; (try with_reducible rfl))
    (try simp only [Act.put, List.setIfInBounds_toArray, List.set_cons_zero, List.set_cons_succ])
    refine wpAnyH_take (i := 15) (oi := { dst := some 82, op := Op.move (Operand.tmp 16), type := 22, pos := "outright.go:241", after := #[{ on := 12, ground := Ground.guard }], guard := some (12, false) }) (v := ?va12) rfl (by kernel_rfl) (by kernel_rfl) (by kernel_rfl) (fun _ _ _ h => h) (Or.inl ⟨by rfl, ?ha12⟩) hHeld ?ra12
    case ha12 => ((intro w hSw); (try dsimp only at hSw); go_simp; (try with_reducible rfl))
    (try simp only [Act.put, List.setIfInBounds_toArray, List.set_cons_zero, List.set_cons_succ])
    refine wpAnyH_take (i := 16) (oi := { dst := some 83, op := Op.call { callee := Callee.builtin Builtin.len, args := #[Operand.tmp 82], argTypes := #[22] }, type := 3, pos := "outright.go:241", after := #[{ on := 15, ground := Ground.data }, { on := 12, ground := Ground.guard }], guard := some (12, false) }) (v := ?va13) rfl (by kernel_rfl) (by kernel_rfl) (by kernel_rfl) (fun _ _ _ h => h) (Or.inl ⟨by rfl, ?ha13⟩) hHeld ?ra13
    case ha13 => ((intro w hSw); (try dsimp only at hSw); go_simp; (try with_reducible rfl))
    (try simp only [Act.put, List.setIfInBounds_toArray, List.set_cons_zero, List.set_cons_succ])
    refine wpAnyH_take (i := 17) (oi := { dst := some 84, op := Op.binOp BinOp.add 3 (Operand.tmp 83) (Operand.const (Value.int IntKind.i64 16)) 3, type := 3, pos := "outright.go:241", after := #[{ on := 16, ground := Ground.data }, { on := 12, ground := Ground.guard }], guard := some (12, false) }) (v := ?va14) rfl (by kernel_rfl) (by kernel_rfl) (by kernel_rfl) (fun _ _ _ h => h) (Or.inl ⟨by rfl, ?ha14⟩) hHeld ?ra14
    case ha14 => ((intro w hSw); (try dsimp only at hSw); go_simp; (try with_reducible rfl))
    (try simp only [Act.put, List.setIfInBounds_toArray, List.set_cons_zero, List.set_cons_succ])
    refine wpAnyH_take (i := 18) (oi := { dst := some 85, op := Op.binOp BinOp.neq 3 (Operand.tmp 81) (Operand.tmp 84) 3, type := 4, pos := "outright.go:241", after := #[{ on := 14, ground := Ground.data }, { on := 17, ground := Ground.data }, { on := 12, ground := Ground.guard }], guard := some (12, false) }) (v := ?va15) rfl (by kernel_rfl) (by kernel_rfl) (by kernel_rfl) (fun _ _ _ h => h) (Or.inl ⟨by rfl, ?ha15⟩) hHeld ?ra15
    case ha15 => ((intro w hSw); (try dsimp only at hSw); go_simp; (try with_reducible rfl))
    (try simp only [Act.put, List.setIfInBounds_toArray, List.set_cons_zero, List.set_cons_succ])
    refine wpAnyH_take (i := 19) (oi := { dst := some 86, op := Op.pick (Operand.tmp 79) (Operand.const (Value.bool true)) (Operand.tmp 85), type := 4, pos := "outright.go:241", after := #[{ on := 12, ground := Ground.data }, { on := 18, ground := Ground.data }], guard := none }) (v := ?va16) rfl (by kernel_rfl) (by kernel_rfl) (by kernel_rfl) (fun _ _ _ h => h) (Or.inl ⟨by rfl, ?ha16⟩) hHeld ?ra16
    case ha16 => ((intro w hSw); (try dsimp only at hSw); go_simp; (try with_reducible rfl))
    (try simp only [Act.put, List.setIfInBounds_toArray, List.set_cons_zero, List.set_cons_succ])
    refine wpAnyH_take (i := 20) (oi := { dst := some 87, op := Op.move (Operand.tmp 86), type := 4, pos := "outright.go:241", after := #[{ on := 19, ground := Ground.data }, { on := 12, ground := Ground.chain }], guard := none }) (v := ?va17) rfl (by kernel_rfl) (by kernel_rfl) (by kernel_rfl) (fun _ _ _ h => h) (Or.inl ⟨by rfl, ?ha17⟩) hHeld ?ra17
    case ha17 => ((intro w hSw); (try dsimp only at hSw); go_simp; (try with_reducible rfl))
    (try simp only [Act.put, List.setIfInBounds_toArray, List.set_cons_zero, List.set_cons_succ])
    refine wpAnyH_take (i := 21) (oi := { dst := some 88, op := Op.move (Operand.tmp 18), type := 24, pos := "outright.go:241", after := #[{ on := 20, ground := Ground.guard }], guard := some (20, false) }) (v := ?va18) rfl (by kernel_rfl) (by kernel_rfl) (by kernel_rfl) (fun _ _ _ h => h) (Or.inl ⟨by rfl, ?ha18⟩) hHeld ?ra18
    case ha18 => ((intro w hSw); (try dsimp only at hSw); go_simp; (try with_reducible rfl))
    (try simp only [Act.put, List.setIfInBounds_toArray, List.set_cons_zero, List.set_cons_succ])
    refine wpAnyH_take (i := 23) (oi := { dst := some 90, op := Op.move (Operand.tmp 15), type := 3, pos := "outright.go:241", after := #[{ on := 20, ground := Ground.guard }], guard := some (20, false) }) (v := ?va19) rfl (by kernel_rfl) (by kernel_rfl) (by kernel_rfl) (fun _ _ _ h => h) (Or.inl ⟨by rfl, ?ha19⟩) hHeld ?ra19
    case ha19 => ((intro w hSw); (try dsimp only at hSw); go_simp; (try with_reducible rfl))
    (try simp only [Act.put, List.setIfInBounds_toArray, List.set_cons_zero, List.set_cons_succ])
    refine wpAnyH_ready (rs := [22]) (by kernel_rfl) (by simp) ?_
    refine AllReadyH.cons (o := { dst := some 89, op := Op.call { callee := Callee.value (Operand.func 14), args := #[Operand.tmp 88], argTypes := #[24] }, type := 3, pos := "outright.go:241", after := #[{ on := 21, ground := Ground.data }, { on := 20, ground := Ground.chain }, { on := 20, ground := Ground.guard }], guard := some (20, false) }) rfl (fun K hK => ?_) AllReadyH.nil
    go_simp
    go_at_call 14
    refine (HLN.out _ _ _ ((own_at HO3.out).2.below hHeld)).1.mono ?_
    rintro e wn ⟨rfl, rfl⟩
    try go_wp2_with fail
    refine hK.out _ _ ?_ (fun hHeld => ?_)
    · exact hHeld
    clear hK K
    (try simp only [Act.put, List.setIfInBounds_toArray, List.set_cons_zero, List.set_cons_succ])
    refine wpAnyH_take (i := 24) (oi := { dst := some 91, op := Op.binOp BinOp.neq 3 (Operand.tmp 89) (Operand.tmp 90) 3, type := 4, pos := "outright.go:241", after := #[{ on := 22, ground := Ground.data }, { on := 23, ground := Ground.data }, { on := 20, ground := Ground.guard }], guard := some (20, false) }) (v := ?va20) rfl (by kernel_rfl) (by kernel_rfl) (by kernel_rfl) (fun _ _ _ h => h) (Or.inl ⟨by rfl, ?ha20⟩) hHeld ?ra20
    case ha20 => ((intro w hSw); (try dsimp only at hSw); go_simp; (try with_reducible rfl))
    (try simp only [Act.put, List.setIfInBounds_toArray, List.set_cons_zero, List.set_cons_succ])
    refine wpAnyH_take (i := 25) (oi := { dst := some 92, op := Op.pick (Operand.tmp 87) (Operand.const (Value.bool true)) (Operand.tmp 91), type := 4, pos := "outright.go:241", after := #[{ on := 20, ground := Ground.data }, { on := 24, ground := Ground.data }], guard := none }) (v := ?va21) rfl (by kernel_rfl) (by kernel_rfl) (by kernel_rfl) (fun _ _ _ h => h) (Or.inl ⟨by rfl, ?ha21⟩) hHeld ?ra21
    case ha21 => ((intro w hSw); (try dsimp only at hSw); go_simp; (try with_reducible rfl))
    (try simp only [Act.put, List.setIfInBounds_toArray, List.set_cons_zero, List.set_cons_succ])
    refine wpAnyH_take (i := 26) (oi := { dst := some 93, op := Op.move (Operand.tmp 92), type := 4, pos := "outright.go:241", after := #[{ on := 25, ground := Ground.data }, { on := 22, ground := Ground.chain }], guard := none }) (v := ?va22) rfl (by kernel_rfl) (by kernel_rfl) (by kernel_rfl) (fun _ _ _ h => h) (Or.inl ⟨by rfl, ?ha22⟩) hHeld ?ra22
    case ha22 => ((intro w hSw); (try dsimp only at hSw); go_simp; (try with_reducible rfl))
    (try simp only [Act.put, List.setIfInBounds_toArray, List.set_cons_zero, List.set_cons_succ])
    refine wpAnyH_take (i := 27) (oi := { dst := some 94, op := Op.move (Operand.tmp 18), type := 24, pos := "outright.go:241", after := #[{ on := 26, ground := Ground.guard }], guard := some (26, false) }) (v := ?va23) rfl (by kernel_rfl) (by kernel_rfl) (by kernel_rfl) (fun _ _ _ h => h) (Or.inl ⟨by rfl, ?ha23⟩) hHeld ?ra23
    case ha23 => ((intro w hSw); (try dsimp only at hSw); go_simp; (try with_reducible rfl))
    (try simp only [Act.put, List.setIfInBounds_toArray, List.set_cons_zero, List.set_cons_succ])
    refine wpAnyH_take (i := 29) (oi := { dst := some 96, op := Op.move (Operand.tmp 14), type := 3, pos := "outright.go:241", after := #[{ on := 26, ground := Ground.guard }], guard := some (26, false) }) (v := ?va24) rfl (by kernel_rfl) (by kernel_rfl) (by kernel_rfl) (fun _ _ _ h => h) (Or.inl ⟨by rfl, ?ha24⟩) hHeld ?ra24
    case ha24 => ((intro w hSw); (try dsimp only at hSw); go_simp; (try with_reducible rfl))
    (try simp only [Act.put, List.setIfInBounds_toArray, List.set_cons_zero, List.set_cons_succ])
    refine wpAnyH_ready (rs := [28]) (by kernel_rfl) (by simp) ?_
    refine AllReadyH.cons (o := { dst := some 95, op := Op.call { callee := Callee.value (Operand.func 16), args := #[Operand.tmp 94], argTypes := #[24] }, type := 3, pos := "outright.go:241", after := #[{ on := 27, ground := Ground.data }, { on := 26, ground := Ground.chain }, { on := 26, ground := Ground.guard }], guard := some (26, false) }) rfl (fun K hK => ?_) AllReadyH.nil
    go_simp
    go_at_call 16
    refine (HLN.out _ _ _ ((own_at HO3.out).2.below hHeld)).2.1.mono ?_
    rintro e wn ⟨rfl, rfl⟩
    try go_wp2_with fail
    refine hK.out _ _ ?_ (fun hHeld => ?_)
    · exact hHeld
    clear hK K
    (try simp only [Act.put, List.setIfInBounds_toArray, List.set_cons_zero, List.set_cons_succ])
    refine wpAnyH_take (i := 30) (oi := { dst := some 97, op := Op.binOp BinOp.neq 3 (Operand.tmp 95) (Operand.tmp 96) 3, type := 4, pos := "outright.go:241", after := #[{ on := 28, ground := Ground.data }, { on := 29, ground := Ground.data }, { on := 26, ground := Ground.guard }], guard := some (26, false) }) (v := ?va25) rfl (by kernel_rfl) (by kernel_rfl) (by kernel_rfl) (fun _ _ _ h => h) (Or.inl ⟨by rfl, ?ha25⟩) hHeld ?ra25
    case ha25 => ((intro w hSw); (try dsimp only at hSw); go_simp; (try with_reducible rfl))
    (try simp only [Act.put, List.setIfInBounds_toArray, List.set_cons_zero, List.set_cons_succ])
    refine wpAnyH_take (i := 31) (oi := { dst := some 98, op := Op.pick (Operand.tmp 93) (Operand.const (Value.bool true)) (Operand.tmp 97), type := 4, pos := "outright.go:241", after := #[{ on := 26, ground := Ground.data }, { on := 30, ground := Ground.data }], guard := none }) (v := ?va26) rfl (by kernel_rfl) (by kernel_rfl) (by kernel_rfl) (fun _ _ _ h => h) (Or.inl ⟨by rfl, ?ha26⟩) hHeld ?ra26
    case ha26 => ((intro w hSw); (try dsimp only at hSw); go_simp; (try with_reducible rfl))
    (try simp only [Act.put, List.setIfInBounds_toArray, List.set_cons_zero, List.set_cons_succ])
    refine wpAnyH_take (i := 32) (oi := { dst := some 99, op := Op.move (Operand.tmp 98), type := 4, pos := "outright.go:241", after := #[{ on := 31, ground := Ground.data }, { on := 28, ground := Ground.chain }], guard := none }) (v := ?va27) rfl (by kernel_rfl) (by kernel_rfl) (by kernel_rfl) (fun _ _ _ h => h) (Or.inl ⟨by rfl, ?ha27⟩) hHeld ?ra27
    case ha27 => ((intro w hSw); (try dsimp only at hSw); go_simp; (try with_reducible rfl))
    (try simp only [Act.put, List.setIfInBounds_toArray, List.set_cons_zero, List.set_cons_succ])
    refine wpAnyH_take (i := 33) (oi := { dst := some 100, op := Op.move (Operand.tmp 18), type := 24, pos := "outright.go:241", after := #[{ on := 32, ground := Ground.guard }], guard := some (32, false) }) (v := ?va28) rfl (by kernel_rfl) (by kernel_rfl) (by kernel_rfl) (fun _ _ _ h => h) (Or.inl ⟨by rfl, ?ha28⟩) hHeld ?ra28
    case ha28 => ((intro w hSw); (try dsimp only at hSw); go_simp; (try with_reducible rfl))
    (try simp only [Act.put, List.setIfInBounds_toArray, List.set_cons_zero, List.set_cons_succ])
    refine wpAnyH_take (i := 36) (oi := { dst := some 103, op := Op.move (Operand.tmp 16), type := 22, pos := "outright.go:241", after := #[{ on := 32, ground := Ground.guard }], guard := some (32, false) }) (v := ?va29) rfl (by kernel_rfl) (by kernel_rfl) (by kernel_rfl) (fun _ _ _ h => h) (Or.inl ⟨by rfl, ?ha29⟩) hHeld ?ra29
    case ha29 => ((intro w hSw); (try dsimp only at hSw); go_simp; (try with_reducible rfl))
    (try simp only [Act.put, List.setIfInBounds_toArray, List.set_cons_zero, List.set_cons_succ])
    refine wpAnyH_ready (rs := [34, 37]) (by kernel_rfl) (by simp) ?_
    refine AllReadyH.cons (o := { dst := some 101, op := Op.call { callee := Callee.value (Operand.func 18), args := #[Operand.tmp 100], argTypes := #[24] }, type := 22, pos := "outright.go:241", after := #[{ on := 33, ground := Ground.data }, { on := 32, ground := Ground.chain }, { on := 32, ground := Ground.guard }], guard := some (32, false) }) rfl (fun K hK => ?sa30) ?ta30
    case sa30 =>
      go_simp
      go_at_call 18
      refine (HLN.out _ _ _ ((own_at HO3.out).2.below hHeld)).2.2.mono ?_
      rintro e w5 ⟨A5, c5, rfl, N5⟩
      have hb5 := below_then hHeld N5.below
      have r1 := fun dst hd => run_conv_rd (P := Tryd.prog) w5 tU8 N5.rda Z HCL.out.symm dst hd
      have r2 := fun dst hd => run_conv_rd (P := Tryd.prog) w5 tU8 (HC3.out.below hb5) Z HCL.out.symm dst hd
      try go_wp2_with fail
      refine hK.out _ _ ?_ (fun hHeld => ?_)
      · exact hb5
      clear hK K
      (try simp only [Act.put, List.setIfInBounds_toArray, List.set_cons_zero, List.set_cons_succ])
      refine wpAnyH_ready (rs := [35, 37]) (by kernel_rfl) (by simp) ?_
      refine AllReadyH.cons (o := { dst := some 102, op := Op.convert 22 9 (Operand.tmp 101), type := 9, pos := "outright.go:241", after := #[{ on := 34, ground := Ground.data }, { on := 32, ground := Ground.guard }], guard := some (32, false) }) rfl (fun K hK => ?sa31) ?ta31
      case sa31 =>
        go_simp
        refine hK.out _ _ ?_ (fun hHeld => ?_)
        · exact hHeld
        clear hK K
        (try simp only [Act.put, List.setIfInBounds_toArray, List.set_cons_zero, List.set_cons_succ])
        refine wpAnyH_ready (rs := [37]) (by kernel_rfl) (by simp) ?_
        refine AllReadyH.cons (o := { dst := some 104, op := Op.convert 22 9 (Operand.tmp 103), type := 9, pos := "outright.go:241", after := #[{ on := 36, ground := Ground.data }, { on := 32, ground := Ground.guard }], guard := some (32, false) }) rfl (fun K hK => ?_) AllReadyH.nil
        go_simp
        refine hK.out _ _ ?_ (fun hHeld => ?_)
        · exact hHeld
        clear hK K
        (try simp only [Act.put, List.setIfInBounds_toArray, List.set_cons_zero, List.set_cons_succ])
        refine wpAnyH_take (i := 38) (oi := { dst := some 105, op := Op.binOp BinOp.neq 9 (Operand.tmp 102) (Operand.tmp 104) 9, type := 4, pos := "outright.go:241", after := #[{ on := 35, ground := Ground.data }, { on := 37, ground := Ground.data }, { on := 32, ground := Ground.guard }], guard := some (32, false) }) (v := ?va32) rfl (by kernel_rfl) (by kernel_rfl) (by kernel_rfl) (fun _ _ _ h => h) (Or.inl ⟨by rfl, ?ha32⟩) hHeld ?ra32
        case ha32 => ((intro w hSw); (try dsimp only at hSw); go_simp; (try with_reducible rfl))
        (try simp only [Act.put, List.setIfInBounds_toArray, List.set_cons_zero, List.set_cons_succ])
        refine wpAnyH_take (i := 39) (oi := { dst := some 106, op := Op.pick (Operand.tmp 99) (Operand.const (Value.bool true)) (Operand.tmp 105), type := 4, pos := "outright.go:241", after := #[{ on := 32, ground := Ground.data }, { on := 38, ground := Ground.data }], guard := none }) (v := ?va33) rfl (by kernel_rfl) (by kernel_rfl) (by kernel_rfl) (fun _ _ _ h => h) (Or.inl ⟨by rfl, ?ha33⟩) hHeld ?ra33
        case ha33 => ((intro w hSw); (try dsimp only at hSw); go_simp; (try with_reducible rfl))
        (try simp only [Act.put, List.setIfInBounds_toArray, List.set_cons_zero, List.set_cons_succ])
        refine wpAnyH_done (by kernel_rfl) ?_ _
        have HBZ := Lib.hid hHeld
        clear hHeld
        go_wp2_with fail
        go_meet
        exact ⟨rfl, HBZ.out⟩
      refine AllReadyH.cons (o := { dst := some 104, op := Op.convert 22 9 (Operand.tmp 103), type := 9, pos := "outright.go:241", after := #[{ on := 36, ground := Ground.data }, { on := 32, ground := Ground.guard }], guard := some (32, false) }) rfl (fun K hK => ?_) AllReadyH.nil
      go_simp
      refine hK.out _ _ ?_ (fun hHeld => ?_)
      · exact hHeld
      clear hK K
      (try simp only [Act.put, List.setIfInBounds_toArray, List.set_cons_zero, List.set_cons_succ])
      refine wpAnyH_ready (rs := [35]) (by kernel_rfl) (by simp) ?_
      refine AllReadyH.cons (o := { dst := some 102, op := Op.convert 22 9 (Operand.tmp 101), type := 9, pos := "outright.go:241", after := #[{ on := 34, ground := Ground.data }, { on := 32, ground := Ground.guard }], guard := some (32, false) }) rfl (fun K hK => ?_) AllReadyH.nil
      go_simp
      refine hK.out _ _ ?_ (fun hHeld => ?_)
      · exact hHeld
      clear hK K
      (try simp only [Act.put, List.setIfInBounds_toArray, List.set_cons_zero, List.set_cons_succ])
      refine wpAnyH_take (i := 38) (oi := { dst := some 105, op := Op.binOp BinOp.neq 9 (Operand.tmp 102) (Operand.tmp 104) 9, type := 4, pos := "outright.go:241", after := #[{ on := 35, ground := Ground.data }, { on := 37, ground := Ground.data }, { on := 32, ground := Ground.guard }], guard := some (32, false) }) (v := ?va34) rfl (by kernel_rfl) (by kernel_rfl) (by kernel_rfl) (fun _ _ _ h => h) (Or.inl ⟨by rfl, ?ha34⟩) hHeld ?ra34
      case ha34 => ((intro w hSw); (try dsimp only at hSw); go_simp; (try with_reducible rfl))
      (try simp only [Act.put, List.setIfInBounds_toArray, List.set_cons_zero, List.set_cons_succ])
      refine wpAnyH_take (i := 39) (oi := { dst := some 106, op := Op.pick (Operand.tmp 99) (Operand.const (Value.bool true)) (Operand.tmp 105), type := 4, pos := "outright.go:241", after := #[{ on := 32, ground := Ground.data }, { on := 38, ground := Ground.data }], guard := none }) (v := ?va35) rfl (by kernel_rfl) (by kernel_rfl) (by kernel_rfl) (fun _ _ _ h => h) (Or.inl ⟨by rfl, ?ha35⟩) hHeld ?ra35
      case ha35 => ((intro w hSw); (try dsimp only at hSw); go_simp; (try with_reducible rfl))
      (try simp only [Act.put, List.setIfInBounds_toArray, List.set_cons_zero, List.set_cons_succ])
      refine wpAnyH_done (by kernel_rfl) ?_ _
      have HBZ := Lib.hid hHeld
      clear hHeld
      go_wp2_with fail
      go_meet
      exact ⟨rfl, HBZ.out⟩
    refine AllReadyH.cons (o := { dst := some 104, op := Op.convert 22 9 (Operand.tmp 103), type := 9, pos := "outright.go:241", after := #[{ on := 36, ground := Ground.data }, { on := 32, ground := Ground.guard }], guard := some (32, false) }) rfl (fun K hK => ?_) AllReadyH.nil
    have r0 := fun dst hd => run_conv_rd (P := Tryd.prog) _ tU8 (HC3.out.below hHeld) Z HCL.out.symm dst hd
    go_simp
    refine hK.out _ _ ?_ (fun hHeld => ?_)
    · exact hHeld
    clear hK K
    (try simp only [Act.put, List.setIfInBounds_toArray, List.set_cons_zero, List.set_cons_succ])
    refine wpAnyH_ready (rs := [34]) (by kernel_rfl) (by simp) ?_
    refine AllReadyH.cons (o := { dst := some 101, op := Op.call { callee := Callee.value (Operand.func 18), args := #[Operand.tmp 100], argTypes := #[24] }, type := 22, pos := "outright.go:241", after := #[{ on := 33, ground := Ground.data }, { on := 32, ground := Ground.chain }, { on := 32, ground := Ground.guard }], guard := some (32, false) }) rfl (fun K hK => ?_) AllReadyH.nil
    go_simp
    go_at_call 18
    refine (HLN.out _ _ _ ((own_at HO3.out).2.below hHeld)).2.2.mono ?_
    rintro e w5 ⟨A5, c5, rfl, N5⟩
    have hb5 := below_then hHeld N5.below
    have r1 := fun dst hd => run_conv_rd (P := Tryd.prog) w5 tU8 N5.rda Z HCL.out.symm dst hd
    have r2 := fun dst hd => run_conv_rd (P := Tryd.prog) w5 tU8 (HC3.out.below hb5) Z HCL.out.symm dst hd
    try go_wp2_with fail
    refine hK.out _ _ ?_ (fun hHeld => ?_)
    · exact hb5
    clear hK K
    (try simp only [Act.put, List.setIfInBounds_toArray, List.set_cons_zero, List.set_cons_succ])
    refine wpAnyH_ready (rs := [35]) (by kernel_rfl) (by simp) ?_
    refine AllReadyH.cons (o := { dst := some 102, op := Op.convert 22 9 (Operand.tmp 101), type := 9, pos := "outright.go:241", after := #[{ on := 34, ground := Ground.data }, { on := 32, ground := Ground.guard }], guard := some (32, false) }) rfl (fun K hK => ?_) AllReadyH.nil
    go_simp
    refine hK.out _ _ ?_ (fun hHeld => ?_)
    · exact hHeld
    clear hK K
    (try simp only [Act.put, List.setIfInBounds_toArray, List.set_cons_zero, List.set_cons_succ])
    refine wpAnyH_take (i := 38) (oi := { dst := some 105, op := Op.binOp BinOp.neq 9 (Operand.tmp 102) (Operand.tmp 104) 9, type := 4, pos := "outright.go:241", after := #[{ on := 35, ground := Ground.data }, { on := 37, ground := Ground.data }, { on := 32, ground := Ground.guard }], guard := some (32, false) }) (v := ?va36) rfl (by kernel_rfl) (by kernel_rfl) (by kernel_rfl) (fun _ _ _ h => h) (Or.inl ⟨by rfl, ?ha36⟩) hHeld ?ra36
    case ha36 => ((intro w hSw); (try dsimp only at hSw); go_simp; (try with_reducible rfl))
    (try simp only [Act.put, List.setIfInBounds_toArray, List.set_cons_zero, List.set_cons_succ])
    refine wpAnyH_take (i := 39) (oi := { dst := some 106, op := Op.pick (Operand.tmp 99) (Operand.const (Value.bool true)) (Operand.tmp 105), type := 4, pos := "outright.go:241", after := #[{ on := 32, ground := Ground.data }, { on := 38, ground := Ground.data }], guard := none }) (v := ?va37) rfl (by kernel_rfl) (by kernel_rfl) (by kernel_rfl) (fun _ _ _ h => h) (Or.inl ⟨by rfl, ?ha37⟩) hHeld ?ra37
    case ha37 => ((intro w hSw); (try dsimp only at hSw); go_simp; (try with_reducible rfl))
    (try simp only [Act.put, List.setIfInBounds_toArray, List.set_cons_zero, List.set_cons_succ])
    refine wpAnyH_done (by kernel_rfl) ?_ _
    have HBZ := Lib.hid hHeld
    clear hHeld
    go_wp2_with fail
    go_meet
    exact ⟨rfl, HBZ.out⟩
  case rest =>
    obtain ⟨rfl, hbc⟩ := hcut
    have HB4 := Lib.hid (below_then HB3.out hbc)
    have HC4 := Lib.hid (HC3.out.below hbc)
    have HO4 := Lib.hid (HO3.out.below hbc)
    have HLE2 : Hid (ppE (p.take (PZ - 1)) 16 (s : Int) = 130) := Lib.hid (by have := HLE.out; rwa [HPL.out] at this)
    clear HB3 HC3 HO3 hbc HLE
    go_wp2_with fail
    refine (HP0.out _ _ _ (HT.out.below HB4.out) (own_at HO4.out).2).mono ?_
    rintro e w5 ⟨A5, c5, rfl, N5⟩
    have HB5 := Lib.hid (below_then HB4.out N5.below)
    have HC5 := Lib.hid (HC4.out.below N5.below)
    have HO5 := Lib.hid (HO4.out.below N5.below)
    have q1 := fun dst hd => run_conv_rd (P := Tryd.prog) w5 tU8 N5.rda Z HCL.out.symm dst hd
    have q2 := fun dst hd => run_conv_rd (P := Tryd.prog) w5 tU8 HC5.out Z HCL.out.symm dst hd
    clear N5 HB4 HC4 HO4
    go_wp2_with fail
    refine (HNM.out _ _).mono ?_
    rintro e wx ⟨rfl, rfl⟩
    go_wp2_with (at_builtin; refine wpList_appT (l := []) rfl _ _ rfl tU8 tPB.slice rfl (Own8.nilRow _ w5.heap.size _) rfl HPL.out.symm (own_at HO5.out).2 (by rw [HPL.out]; simp only [List.length_nil]; omega) (Nat.le_refl _) ?_)
    intro v6 w6 o6 g6
    have o6 : Own8 w6 w5.heap.size 5 v6 p := o6
    have hb6 : Below w5.heap.size w5 w6 := grown_below g6.grown (Nat.le_refl _) (fun k hk => by simp [Value.ownBlock] at hk)
    obtain ⟨A6, c6, rfl, _⟩ := own_rda o6
    have HM6 := Lib.hid o6
    have HBB6 := Lib.hid hb6
    rw [HPL.out] at HM6 ⊢
    clear q1 q2 o6 g6 hb6
    go_wp2_with (at_builtin; refine wpList_app2 rfl _ _ rfl tU8 rfl (HM6.out.alloc _) rfl rfl (Rda.box w6 _ 0 0 rfl) (by rw [HPL.out]; simp only [List.length_cons, List.length_nil]; omega) (by have := HBB6.out.size; simp; omega) ?_)
    intro v7 w7 o7 g7
    have hb7 : Below w5.heap.size w5 w7 := (HBB6.out.alloc HBB6.out.size _).grown g7.grown (by have := HBB6.out.size; simp; omega) (fun k hk => (World.ownsRow.lt HM6.out k hk).1)
    obtain ⟨MO, hMO⟩ : ∃ MO, p ++ [0] = MO := ⟨_, rfl⟩
    have hML : MO.length = PZ + 1 := by rw [← hMO, List.length_append, HPL.out]; rfl
    rw [hMO] at o7 HMO
    obtain ⟨A7, c7, rfl, R7⟩ := own_rda o7
    rw [hML]
    have HR7 := Lib.hid R7
    have HML := Lib.hid hML
    have HB7 := Lib.hid (below_then HB5.out hb7)
    have HC7 := Lib.hid (HC5.out.below hb7)
    have HO7 := Lib.hid (HO5.out.below hb7)
    clear R7 o7 g7 hb7 hMO hML HBB6 HM6 HB5 HC5 HO5
    go_wp2_with fail
    refine (HPR.out _ _ _ _ MO 16 s 130 (HT.out.below HB7.out) HR7.out HML.out.symm (by rw [HML.out]; omega) HMO.out).mono ?_
    rintro e w8 ⟨v8, y8, rfl, hb8⟩
    have HB8 := Lib.hid (below_then HB7.out hb8)
    have HC8 := Lib.hid (HC7.out.below hb8)
    have HO8 := Lib.hid (HO7.out.below hb8)
    clear hb8 HB7 HC7 HO7
    have hcap := (own_at HO8.out).2.cap
    rw [HPL.out] at hcap
    go_wp2_with ((with_reducible refine at_slice ?_); refine wpList_slice8 (L := 0) (H := PZ - 1) (M := c3) rfl _ _ _ _ rfl tPB rfl HPL.out.symm (own_at HO8.out).2 rfl rfl rfl (.no _) (.at _ _ _ _ (by omega)) (.no _) (.inl rfl) (by omega) (by rw [HPL.out]; omega) (by omega) (Nat.le_refl _) ?_)
    intro hp8
    simp only [pieceAt_zero, Nat.sub_zero, List.drop_zero] at hp8
    simp only [pieceAt_zero, Nat.sub_zero]
    have HP8 := Lib.hid hp8
    have HTL : Hid (PZ - 1 = (p.take (PZ - 1)).length) := Lib.hid (by rw [List.length_take, HPL.out]; omega)
    clear hp8
    go_wp2_with fail
    refine (HPR.out _ _ _ _ (p.take (PZ - 1)) 16 s 130 (HT.out.below HB8.out) HP8.out HTL.out (by rw [← HTL.out]; omega) HLE2.out).mono ?_
    rintro e w9 ⟨v9, y9, rfl, hb9⟩
    have HB9 := Lib.hid (below_then HB8.out hb9)
    have HC9 := Lib.hid (HC8.out.below hb9)
    have HO9 := Lib.hid (HO8.out.below hb9)
    clear hb9 HB8 HC8 HO8 HP8
    go_wp2_with fail
    refine (HPR.out _ _ _ _ p nu s 130 (HT.out.below HB9.out) (own_at HO9.out).2 HPL.out.symm (by rw [HPL.out]; omega) HFE.out).mono ?_
    rintro e w10 ⟨v10, y10, rfl, hb10⟩
    have HB10 := Lib.hid (below_then HB9.out hb10)
    have HC10 := Lib.hid (HC9.out.below hb10)
    have HO10 := Lib.hid (HO9.out.below hb10)
    clear hb10 HB9 HC9 HO9
    go_wp2_with fail
    refine (HPR.out _ _ _ _ p 16 _ 130 (HT.out.below HB10.out) (own_at HO10.out).2 HPL.out.symm (by rw [HPL.out]; omega) HOT.out).mono ?_
    rintro e w11 ⟨v11, y11, rfl, hb11⟩
    have HB11 := Lib.hid (below_then HB10.out hb11)
    have HC11 := Lib.hid (HC10.out.below hb11)
    have HO11 := Lib.hid (HO10.out.below hb11)
    clear hb11 HB10 HC10 HO10
    go_wp2_with fail
    refine (HNM.out _ _).mono ?_
    rintro e wx ⟨rfl, rfl⟩
    go_wp2_with fail
    refine (HNM.out _ _).mono ?_
    rintro e wx ⟨rfl, rfl⟩
    go_wp2_with fail
    refine (HNM.out _ _).mono ?_
    rintro e wx ⟨rfl, rfl⟩
    go_wp2_with fail
    refine (HNM.out _ _).mono ?_
    rintro e wx ⟨rfl, rfl⟩
    go_wp2_with fail
    refine (HFT.out _ HB11.out).mono ?_
    rintro e w12 ⟨g12, rfl, N12⟩
    have HF12 := Lib.hid N12.rda
    have HB12 := Lib.hid (below_then HB11.out N12.below)
    have HC12 := Lib.hid (HC11.out.below N12.below)
    have HO12 := Lib.hid (HO11.out.below N12.below)
    clear N12 HB11 HC11 HO11
    go_wp2_with fail
    refine (HSZ.out _ _ _ (HT.out.below HB12.out) HF12.out).mono ?_
    rintro e w13 ⟨A13, c13, rfl, N13⟩
    have HZ13 := Lib.hid N13.rda
    have HB13 := Lib.hid (below_then HB12.out N13.below)
    have HC13 := Lib.hid (HC12.out.below N13.below)
    have HO13 := Lib.hid (HO12.out.below N13.below)
    clear N13 HB12 HC12 HO12 HF12
    go_wp2_with fail
    refine (HMZ.out _ _ _ (HT.out.below HB13.out) HZ13.out).mono ?_
    rintro e w14 ⟨v14, rfl, hb14⟩
    have HB14 := Lib.hid (below_then HB13.out hb14)
    have HC14 := Lib.hid (HC13.out.below hb14)
    have HO14 := Lib.hid (HO13.out.below hb14)
    clear hb14 HB13 HC13 HO13 HZ13
    go_wp2_with fail
    rw [HENW.out]
    refine (HMW.out _ _ _ (HT.out.below HB14.out) HC14.out).mono ?_
    rintro e w15 ⟨v15, rfl, hb15⟩
    have HB15 := Lib.hid (below_then HB14.out hb15)
    have HC15 := Lib.hid (HC14.out.below hb15)
    have HO15 := Lib.hid (HO14.out.below hb15)
    clear hb15 HB14 HC14 HO14
    go_wp2_with fail
    refine (HNM.out _ _).mono ?_
    rintro e wx ⟨rfl, rfl⟩
    go_wp2_with fail
    refine (HNM.out _ _).mono ?_
    rintro e wx ⟨rfl, rfl⟩
    go_wp2_with fail
    refine (HNM.out _ _).mono ?_
    rintro e wx ⟨rfl, rfl⟩
    obtain ⟨g3, rfl, hg3⟩ := HO15.out.block (by rw [HPL.out]; omega)
    have hcell := HO15.out.cellAt HPL.out.symm K (by rw [HPL.out]; omega)
    have hfz := HO15.out.unfrozen HPL.out.symm K
    have hx := xor8 (p.getD K 0) x hx0 hx1
    have hz := xor8_zero x hx0 hx1 (p.getD K 0)
    obtain ⟨v, hv⟩ : ∃ v, p.getD K 0 ^^^ UInt8.ofNat x.toNat = v := ⟨_, rfl⟩
    rw [hv] at hx hz
    have htd := HTD.out v
    obtain ⟨st1, st2⟩ := HO15.out.stored HPL.out.symm K v
    obtain ⟨a, ha⟩ : ∃ a, p.getD K 0 = a := ⟨_, rfl⟩
    rw [ha] at hcell hx hz htd
    have hbs : Below w.heap.size w (w15.setCell ⟨g3, K, none⟩ (.int .u8 (v.toNat : Int))) := HB15.out.grown st2 HB15.out.size (fun k hk => by injection hk with hk; have := HS3.out; omega)
    have HST1 := Lib.hid st1
    have HBS := Lib.hid hbs
    have HTDV := Lib.hid htd
    have HZV := Lib.hid hz
    have k0 : (0 : Int) ≤ (K : Int) := by omega
    have k1 : (K : Int) < (PZ : Int) := by omega
    clear st1 st2 hbs htd hz hv ha HC15
    go_wp2_with (first | (go_at_call 22; refine (HR4.out _).mono ?_; rintro e wx ⟨rfl, rfl⟩))
    by_cases hx00 : x = 0
    · have hE : ppE (p.set K v) 16 (s : Int) = 0 := by rw [HTDV.out, if_pos (HZV.out.2 hx00)]
      refine (HPR.out _ _ _ _ (p.set K v) 16 s 0 (HT.out.below HBS.out) (own_at HST1.out).2 (by rw [List.length_set]; exact HPL.out.symm) (by rw [List.length_set, HPL.out]; omega) hE).mono ?_
      rintro e w16 ⟨v16, y16, rfl, hb16⟩
      have HB16 := Lib.hid (below_then HBS.out hb16)
      clear hb16 hE hcell hfz hx
      subst hx00
      go_wp2_with fail
      refine (HNM.out _ _).mono ?_
      rintro e wx ⟨rfl, rfl⟩
      go_wp2_with fail
      go_ret
      exact ⟨rfl, HB16.out⟩
    · have hE : ppE (p.set K v) 16 (s : Int) = 130 := by rw [HTDV.out, if_neg (fun e => hx00 (HZV.out.1 e))]
      refine (HPR.out _ _ _ _ (p.set K v) 16 s 130 (HT.out.below HBS.out) (own_at HST1.out).2 (by rw [List.length_set]; exact HPL.out.symm) (by rw [List.length_set, HPL.out]; omega) hE).mono ?_
      rintro e w16 ⟨v16, y16, rfl, hb16⟩
      have HB16 := Lib.hid (below_then HBS.out hb16)
      have hb0 : (x != 0) = true := by simpa using hx00
      clear hb16 hE hcell hfz hx
      go_wp2_with fail
      refine (HNM.out _ _).mono ?_
      rintro e wx ⟨rfl, rfl⟩
      go_wp2_with fail
      go_ret
      exact ⟨rfl, HB16.out⟩

theorem pairBack_contract (H : Type) (enc : TypeId × Value → H) (W : World) (base : Nat) (args : Array Value) (ds gs : List (DataW H)) (before : List MemPlace)
    (hval0 : ∀ (j : Nat) t v, Tryd.f4.params[j]? = some t → args[j]? = some v → Value.okWide Tryd.prog W .any base t v)
    (hW : DataW.Whole enc Tryd.prog Tryd.f4.params.toList Rows.pairBackSpec.vars false W args.toList ds gs before) (hsz : (DataW.weightsEach Tryd.checked.prog (Tryd.f4.params.toList ++ Rows.pairBackSpec.plain.varTypes Tryd.checked.prog) (ds ++ gs)).all (· ≤ reachBytes) = true) (hL : laidMetH Tryd.prog Rows.pairBackRow.laid W) :
    Calls Tryd.prog 4 args W fun e W' => ∃ v, e = .returned v ∧ Rows.pairBackSpec.post enc Tryd.prog Tryd.f4 false true false false W args v W' := by
  have hval : ∀ (j : Nat) t v, Tryd.f4.params[j]? = some t → args[j]? = some v → Value.okWide Tryd.prog W .any base t v := hval0
  have hW' := hW
  obtain ⟨p, q, hA0, hV, rfl, hfz, hnd⟩ := hW
  have hA : DataW.TrodAll enc Tryd.prog W 0 (fun _ => true) true Tryd.f4.params.toList args.toList ds p := hA0
  rw [Tryd.params4] at hA hval
  obtain ⟨v0, vs0, d0, ds0, p0, q0, hargs, rfl, rfl, h0, rr0⟩ := trodAll_cons hA
  obtain ⟨v1, vs1, d1, ds1, p1, q1, rfl, rfl, rfl, h1, rr1⟩ := trodAll_cons rr0
  obtain ⟨v2, vs2, d2, ds2, p2, q2, rfl, rfl, rfl, h2, rr2⟩ := trodAll_cons rr1
  obtain ⟨v3, vs3, d3, ds3, p3, q3, rfl, rfl, rfl, h3, rr3⟩ := trodAll_cons rr2
  obtain ⟨v4, vs4, d4, ds4, p4, q4, rfl, rfl, rfl, h4, rr4⟩ := trodAll_cons rr3
  obtain ⟨v5, vs5, d5, ds5, p5, q5, rfl, rfl, rfl, h5, rr5⟩ := trodAll_cons rr4
  obtain ⟨rfl, rfl, rfl⟩ := trodAll_nil rr5
  obtain rfl : args = #[v0, v1, v2, v3, v4, v5] := by cases args; simp_all
  obtain ⟨rfl, rfl⟩ := trodVars_none hV
  obtain ⟨x0, rfl, rfl, rfl, w0⟩ := open_int Tryd.underlying3 (hval 0 3 v0 rfl rfl) h0
  have b0 := bounds_i64 w0
  obtain ⟨a1, len1, cap1, rfl⟩ := okWide_slice Tryd.underlying22 (hval 1 22 v1 rfl rfl)
  have k1 := h1
  have lt1 : ∀ x ∈ p1, x.block < W.heap.size := by obtain ⟨m, hm⟩ := k1; exact DataW.trod_lt m _ _ _ hm
  obtain ⟨l1, n1, r1, dd1⟩ : ∃ l : List UInt8, len1 = l.length ∧ Rda W a1 cap1 l ∧ RowOf d1 l := by
    obtain ⟨fuel, hf⟩ := h1
    obtain ⟨A, l, c, hv, hr, hx⟩ := open_bytes tU8 (by kernel_rfl) (by simpa [Value.cells] using hf)
    obtain ⟨rfl, rfl, rfl⟩ : a1 = A ∧ len1 = l.length ∧ cap1 = c := by simpa using hv
    exact ⟨l, rfl, hr, hx⟩
  obtain ⟨x2, rfl, rfl, rfl, w2⟩ := open_int Tryd.underlying3 (hval 2 3 v2 rfl rfl) h2
  have b2 := bounds_i64 w2
  obtain ⟨x3, rfl, rfl, rfl, w3⟩ := open_int Tryd.underlying3 (hval 3 3 v3 rfl rfl) h3
  have b3 := bounds_i64 w3
  obtain ⟨x4, rfl, rfl, rfl, w4⟩ := open_int Tryd.underlying3 (hval 4 3 v4 rfl rfl) h4
  have b4 := bounds_i64 w4
  obtain ⟨x5, rfl, rfl, rfl, w5⟩ := open_int Tryd.underlying5 (hval 5 5 v5 rfl rfl) h5
  have b5 := bounds_u8 w5
  have s1 : l1.length ≤ 140737488351232 := by
    rcases dd1 with ⟨_, h⟩ | ⟨zs, sp, hd, hl⟩
    · rw [h]; simp
    · subst hd
      have := sized_slice hsz (j := 1) (t := 22) (e := 5) rfl rfl Tryd.underlying22
      rw [show Tryd.checked.prog.bytesOf 5 = 1 from by kernel_rfl] at this
      unfold lits at this
      simp only [List.length_map] at this
      have h47 : reachBytes ≤ 140737488351232 := by decide
      omega
  clear hA0 hval0
  refine (pairBack_any (tb_of hL) r1 n1 (by omega) x0 x2 x3 x4 x5 b0 b2 b3 b4 b5.1 (by omega)).mono fun e W' ⟨he, bel⟩ => ?_
  subst he
  exact ⟨_, rfl, _, _, _, [], _, [], hW', trodAll_mk1 (shut_bool Tryd.underlying4 _), (trodAll_cons_mk (shut_int Tryd.underlying3 w0) (trodAll_cons_mk (Below.trod laid_out (by kernel_rfl) (of_decide_eq_true (by kernel_rfl)) k1 bel lt1) (trodAll_cons_mk (shut_int Tryd.underlying3 w2) (trodAll_cons_mk (shut_int Tryd.underlying3 w3) (trodAll_cons_mk (shut_int Tryd.underlying3 w4) (trodAll_cons_mk (shut_int Tryd.underlying5 w5) trodAll_mk0)))))), rfl, bel.frame _, fun h => by cases h⟩

theorem pairBack_met (os : Os) : laidMet Tryd.prog Rows.pairBackRow.laid ((laidWorld os).forCall (fun _ _ => 0) ⟨#[], #[.int .i64 0, .slice none 0 0, .int .i64 0, .int .i64 0, .int .i64 0, .int .u8 0], []⟩).memory :=
  laidMet_of_run' 8 (by kernel_rfl) (by kernel_rfl)
theorem pairBack_reads (os : Os) {H : Type} (enc : TypeId × Value → H) : ∃ places, DataW.whole enc Tryd.prog ((laidWorld os).forCall (fun _ _ => 0) ⟨#[], #[.int .i64 0, .slice none 0 0, .int .i64 0, .int .i64 0, .int .i64 0, .int .u8 0], []⟩).memory Tryd.f4.params.toList Rows.pairBackSpec.vars false (#[.int .i64 0, .slice none 0 0, .int .i64 0, .int .i64 0, .int .i64 0, .int .u8 0] : Array Value).toList 8 = some ([.lit (.int .i64 0), .nil, .lit (.int .i64 0), .lit (.int .i64 0), .lit (.int .i64 0), .lit (.int .u8 0)], [], places) :=
  ⟨[], by kernel_rfl⟩

set_option maxRecDepth 100000 in
theorem pairBack_lifted (os : Os) (started : os.Started) (H : Type) (enc : TypeId × Value → H) (F : Stop.Interp) :
    ReturnsInHanded {} Tryd.checked os 4 .any ((OpenSpec.ofChange Rows.pairBackSpec).preRow enc Tryd.prog Tryd.f4 Rows.pairBackRow.domain false Rows.pairBackRow.laid) (((OpenSpec.ofChange Rows.pairBackSpec).at F).post enc Tryd.prog Tryd.f4 false true false false) := by
  obtain ⟨places, hx⟩ := pairBack_reads os enc
  refine returnsInHanded_of_row (C := Tryd.checked) (s := OpenSpec.ofChange Rows.pairBackSpec) own_knob started (by kernel_rfl) Tryd.func4
    (witness_row_at (enc := enc) (C := Tryd.checked) false (laidWorld os) #[.int .i64 0, .slice none 0 0, .int .i64 0, .int .i64 0, .int .i64 0, .int .u8 0] rfl (by kernel_rfl) (by kernel_rfl) (by kernel_rfl)
      (OpenSpec.preRow_of_cond 8 hx (by kernel_rfl) (fun k hk => by cases hk) (by kernel_rfl) (pairBack_met os))) ?_
  intro W base args ds gs before hval hW _ hcond hsz hL _ _
  exact pairBack_contract H enc W base args ds gs before hval hW hsz hL

theorem pairBack_said : Rows.PairBackSaid :=
  OpenClaim.holds_of_cond 4 Tryd.f4 rfl rfl rfl rfl rfl rfl rfl ⟨rfl, rfl, rfl, rfl, rfl⟩ rfl rfl rfl rfl rfl (by kernel_rfl) Tryd.func4 (by kernel_rfl)
    (of_decide_eq_true (by kernel_rfl)) (by unfold Func.isWrapper; first | (rw [if_pos (by decide +kernel)]; kernel_rfl) | (rw [if_neg (by decide +kernel)]; exact ⟨rfl, rfl⟩))
    (fun os started H enc _ F => by rw [OpenClaim.pre_eq_preRow]; exact pairBack_lifted os started H enc F)

theorem pairBack_plain (f : FuncId) (fn : Func) (hf : Tryd.pinned.checked.prog.funcNamed "tidemark/tidemarklaw13.PairBack" = some f) (hfn : Tryd.pinned.checked.prog.funcs[f]? = some fn) :
    false = Tryd.pinned.checked.prog.looks [] ∧ ∀ (j : Nat) t, fn.params[j]? = some t → Tryd.pinned.checked.prog.wantsStandIn t = false := by
  obtain rfl : f = 4 := Option.some.inj ((show Tryd.prog.funcNamed "tidemark/tidemarklaw13.PairBack" = some 4 by kernel_rfl).symm.trans hf) |>.symm
  obtain rfl : fn = Tryd.f4 := (Option.some.inj (Tryd.func4.symm.trans hfn)).symm
  refine ⟨by kernel_rfl, fun j t ht => ?_⟩
  rw [Tryd.params4] at ht
  have hm := Array.mem_of_getElem? ht
  have : t = 22∨t = 3∨t = 5 := by simp at hm; first | exact hm | (rcases hm with hh | hh <;> simp [hh]) | (rcases hm with hh | hh | hh <;> simp [hh]) | (rcases hm with hh | hh | hh | hh <;> simp [hh]) | (rcases hm with hh | hh | hh | hh | hh <;> simp [hh]) | (rcases hm with hh | hh | hh | hh | hh | hh <;> simp [hh]) | (rcases hm with hh | hh | hh | hh | hh | hh | hh <;> simp [hh]) | (rcases hm with hh | hh | hh | hh | hh | hh | hh | hh <;> simp [hh])
  rcases this with rfl|rfl|rfl
  · exact (show Tryd.prog.wantsStandIn 22 = false by kernel_rfl)
  · exact (show Tryd.prog.wantsStandIn 3 = false by kernel_rfl)
  · exact (show Tryd.prog.wantsStandIn 5 = false by kernel_rfl)

theorem pairBack_holds : Rows.PairBackCardSaid :=
  Claim7.holds_tied_plain_at .later [] _ _ _ _ pairBack_said (fun _ h => by cases h) (by kernel_rfl) (fun _ h => by cases h) pairBack_row_tie rfl ⟨rfl, rfl⟩ (by kernel_rfl) rfl pairBack_plain (by kernel_rfl)
#print axioms pairBack_holds
end Go.Proofs.YtapoknpakleiiaaDoor
