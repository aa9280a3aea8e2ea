import Derived.Test.YtgcpmdodhnmneaaDoorLaw4
import Derived.Test.YtgcpmdodhnmneaaDoorDoor
import Derived.Test.YtgcpmdodhnmneaaDoorPlanPure
import Derived.Deep.QuietTactic
import Derived.BigQuiet
/- PageBack: the walk. -/
set_option linter.unusedVariables false
set_option linter.unusedSimpArgs false
namespace Go.Proofs.YtgcpmdodhnmneaaDoor
open Go.RowKit Go.Tm Go.ChangeShapes Go.WideShapes Go.ChangeAt
set_option maxHeartbeats 400000
set_option maxRecDepth 100000

/-- All that PageBack asks of the page F of a plan. -/
structure PageIs (n N : Nat) (nu ls : Int) (F : List UInt8) (es : List (Int × Int)) (us : List Bool) : Prop where
  len : F.length = N
  slots : slotsP F.length = n
  slot : ∀ j, j < n → ∃ u k v, SlotIs F es us j u k v
  chk : checkE F nu n = 0
  val : checkV F nu n = 1 + ls
  le : lsnE F = 0
  lv : lsnV F = 1 + ls
  num : ∀ number, (checkE F number n == 0) = (number == nu)
  siz : ∀ slots, (checkE F nu slots == 0) = (slots == (n : Int))
  byt : bytesP (n : Int) = (N : Int)
theorem page_is {n N : Nat} (n1 : 1 ≤ n) (n8 : n ≤ 8) (hN : N = 24 + 16 * n) {nu ls : Int} (u0 : 0 ≤ nu) (u1 : nu < 16) (s0 : 0 ≤ ls) (s1 : ls < 1152921504606846976) (l : List (Int × Bool × Int × Int)) (hv : ∀ x ∈ l, 0 ≤ x.2.2.2 ∧ x.2.2.2 < 18446744073709551616) :
    PageIs n N nu ls (stampP (planS nu n l).1 nu.toNat (1 + ls).toNat) (planS nu n l).2.1 (planS nu n l).2.2 := by
  obtain ⟨ho, _⟩ := planS_rows n1 n8 u0 u1 l hv
  obtain ⟨c1, c2, c3, c4⟩ := stamped_page ho.page (number := nu) (lsn := 1 + ls) u0 u1 (by omega) (by omega)
  have hs := fun (j : Nat) (hj : j < n) => plan_slot n1 n8 (ls := 1 + ls) u0 u1 l hv hj
  obtain ⟨F, hF⟩ : ∃ F, stampP (planS nu n l).1 nu.toNat (1 + ls).toNat = F := ⟨_, rfl⟩
  rw [hF] at c1 c2 c3 c4 hs ⊢
  have hb : blankB F = false := by
    cases h : blankB F with
    | false => rfl
    | true => rw [blank_zero h, (zero_front _).1] at c3; omega
  have hsl : slotsP F.length = n := by rw [c4]; exact slotsP_of n n1 n8
  have hle : lsnE F = 0 := by
    unfold lsnE
    rw [if_neg (by rw [hsl]; omega), if_neg (by omega)]
  refine ⟨by omega, hsl, hs, right_check c1 c2, ?_, hle, ?_, check_number c1 c2 (by omega), check_slots n1 n8 c4 c1 c2, by rw [bytesP_ok _ (by omega) (by omega)]; omega⟩
  · unfold checkV
    rw [c1, hb, c2]
    simp
    omega
  · unfold lsnV
    rw [if_pos hle]
    omega

set_option maxHeartbeats 1600000 in
theorem pageBack_any {w : World} (hT : Tb w) {A : Option Addr} {c : Nat} {l : List (Int × Bool × Int × Int)} (hp : PlanR w A c l) (num slots lsn slots0 num0 : Int) :
    Calls Tryd.prog 9 #[.agg #[.int .i64 num, .int .i64 slots, .int .i64 lsn, .slice A l.length c], .int .i64 slots0, .int .i64 num0] w fun e w' => e = .returned (.bool true) ∧ Below w.heap.size w w' := by
  obtain ⟨n, hn⟩ : ∃ n : Nat, (n : Int) = 1 + slots % 8 := ⟨(1 + slots % 8).toNat, by have := Int.emod_nonneg slots (b := 8) (by decide); omega⟩
  obtain ⟨N, hN⟩ : ∃ N, N = 24 + 16 * n := ⟨_, rfl⟩
  have hbx := (Below.refl w.heap.size w).alloc (Nat.le_refl _) (.cells #[.int .i64 num, .int .i64 slots, .int .i64 lsn, .slice A l.length c] 43)
  have hP0 : RowC (w.alloc (.cells #[.int .i64 num, .int .i64 slots, .int .i64 lsn, .slice A l.length c] 43)) w.heap.size 43 [.int .i64 num, .int .i64 slots, .int .i64 lsn, .slice A l.length c] := heap_alloc_new w _
  have HBT := Lib.hid (built_any (hT.below hbx) (hp.below hbx) num slots lsn n hn N hN)
  have HI1 := Lib.hid (fun W => into4_any slots 8 (by decide) (by decide) W)
  have HI2 := Lib.hid (fun W => into4_any num 16 (by decide) (by decide) W)
  have HI3 := Lib.hid (fun W => into4_any lsn 1152921504606846976 (by decide) (by decide) W)
  have n1 : 1 ≤ n := by have := Int.emod_nonneg slots (b := 8) (by decide); omega
  have n8 : n ≤ 8 := by have := Int.emod_lt_of_pos slots (b := 8) (by decide); omega
  obtain ⟨n0, hn0⟩ : ∃ n0, slots % 8 = n0 := ⟨_, rfl⟩
  obtain ⟨nu, hnu⟩ : ∃ nu, num % 16 = nu := ⟨_, rfl⟩
  obtain ⟨ls, hls⟩ : ∃ ls, lsn % 1152921504606846976 = ls := ⟨_, rfl⟩
  have l0 : 0 ≤ n0 := by omega
  have l1 : n0 < 8 := by omega
  have u0 : 0 ≤ nu := by omega
  have u1 : nu < 16 := by omega
  have s0 : 0 ≤ ls := by omega
  have s1 : ls < 1152921504606846976 := by omega
  rw [hn0] at HI1 hn
  rw [hnu] at HI2 HBT
  rw [hls] at HI3 HBT
  clear hn0 hnu hls
  have HPI := page_is n1 n8 hN u0 u1 s0 s1 l hp.vals
  obtain ⟨F, hF⟩ : ∃ F, stampP (planS nu n l).1 nu.toNat (1 + ls).toNat = F := ⟨_, rfl⟩
  obtain ⟨es, hes⟩ : ∃ es, (planS nu n l).2.1 = es := ⟨_, rfl⟩
  obtain ⟨us, hus⟩ : ∃ us, (planS nu n l).2.2 = us := ⟨_, rfl⟩
  rw [hF, hes, hus] at HBT HPI
  have HN := Lib.hid hn
  have hN152 : N ≤ 152 := by omega
  have hN24 : 24 ≤ N := by omega
  clear hF hes hus hn hN
  have HB := Lib.hid HPI
  clear HPI
  have p0 := hP0.cell (j := 0) rfl
  have p1 := hP0.cell (j := 1) rfl
  have p2 := hP0.cell (j := 2) rfl
  have p3 := hP0.cell (j := 3) rfl
  go_enter Tryd.func9, Tryd.ntmps9
  go_wp2_with fail
  refine HBT.out.mono ?_
  rintro e w2 ⟨A2, c2, gL, gU, rfl, hN2, hE2, hU2, hgL, hgU⟩
  have hP2 := hP0.below hN2.below
  have bb2 := below_then hbx hN2.below
  have r2 := hN2.rda
  clear p0 p1 p2 p3 HBT hP0 hN2 hgL hgU
  go_wp2_with fail
  refine (known_any (hT.below bb2)).mono ?_
  rintro e w3 ⟨rfl, hb3⟩
  have hP3 := hP2.below hb3
  have bb3 := below_then bb2 hb3
  have r3 := r2.below hb3
  have hE3 := hE2.below hb3
  have hU3 := hU2.below hb3
  clear hP2 bb2 r2 hE2 hU2 hb3
  have PE := entries4_any r3 (n := N) HB.out.len.symm (by rw [HB.out.len]; omega)
  rw [HB.out.slots] at PE
  have HPE := Lib.hid PE
  clear PE
  go_wp2_with fail
  refine HPE.out.mono ?_
  rintro e w4 ⟨v, rfl, hO4, hb4⟩
  obtain ⟨Av, cv, rfl⟩ : ∃ Av cv, v = .slice Av (entL F (List.range n)).length cv := by
    rcases hO4.2 with ⟨e1, e2⟩ | ⟨g, cap, cur, e1, _⟩
    · exact ⟨none, 0, by rw [e1, e2]⟩
    · exact ⟨some ⟨g, 0, none⟩, cap, e1⟩
  have hP4 := hP3.below hb4
  have bb4 := below_then bb3 hb4
  have r4 := r3.below hb4
  have hE4 := hE3.below hb4
  have hU4 := hU3.below hb4
  obtain ⟨M, hM⟩ : ∃ M, (entL F (List.range n)).length = M := ⟨_, rfl⟩
  have HUC : Hid (∀ at' i k v : Nat, (entL F (List.range n))[at']? = some (i, k, v) → at' < M ∧ ∃ g, Av = some ⟨g, 0, none⟩ ∧ M ≤ cv ∧ g < w4.heap.size ∧ w4.cell? ⟨g, at' * 3, none⟩ = some (.int .i64 (i : Int)) ∧ w4.cell? ⟨g, at' * 3 + 1, none⟩ = some (.int .i64 (k : Int)) ∧ w4.cell? ⟨g, at' * 3 + 2, none⟩ = some (.int .u64 (v : Int))) := by
    refine Lib.hid fun at' i k v hat => ?_
    have hlt : at' < M := by have := (List.getElem?_eq_some_iff.1 hat).1; omega
    refine ⟨hlt, ?_⟩
    rcases hO4.2 with ⟨e1, e2⟩ | ⟨g, cap, cur, e1, hg, hblk, hnc, _, hsz, htk⟩
    · omega
    · injection e1 with ea eb ec
      subst ea ec
      have hu := useC_get _ _ _ hat
      have hcell : ∀ (q : Nat) (x : Value), (useC (entL F (List.range n)))[q]? = some x → w4.cell? ⟨g, q, none⟩ = some x := fun q x hq => by
        rw [← htk, List.getElem?_take] at hq
        split at hq
        · unfold World.cell?
          rw [hblk]
          simpa using hq
        · cases hq
      exact ⟨g, rfl, by omega, (Array.getElem?_eq_some_iff.1 hblk).1, hcell _ _ hu.1, hcell _ _ hu.2.1, hcell _ _ hu.2.2⟩
  have HM := Lib.hid hM
  rw [hM]
  clear hP3 bb3 r3 hE3 hU3 hb4 hM hO4 HPE
  go_wp2_with fail
  go_loopw [13, 14, 15, 16, 17] (fun at' i _ _ _ wr => ∃ k : Nat, k ≤ n ∧ i = .int .i64 k ∧ at' = .int .i64 ((entL F (List.range k)).length : Nat) ∧ Below w4.heap.size w4 wr) (fun _ i _ _ _ _ => n - (intOf i).toNat)
  case atStart => exact ⟨0, by omega, rfl, rfl, Below.refl _ _⟩
  case round =>
    obtain ⟨k, hk, rfl, rfl, hb⟩ := hrel
    obtain ⟨wo, rfl⟩ : ∃ wo : World, wo = wr := ⟨_, rfl⟩
    have rk := r4.below hb
    have hPk := hP4.below hb
    have hEk := hE4.below hb
    have hUk := hU4.below hb
    by_cases hkt : k < n
    · obtain ⟨u, ky, vl, hS⟩ := HB.out.slot k hkt
      have P1 := slot_any rk (n := N) HB.out.len.symm (by rw [HB.out.len]; omega) (k : Int)
      rw [hS.used, hS.key, hS.val, hS.place] at P1
      have HP1 := Lib.hid P1
      have hat := fun (h : u = true) => HUC.out _ _ _ _ (ent_at hkt (by rw [hS.used]; exact h))
      have hsu := ent_succ F k
      rw [hS.used] at hsu
      have hkl := entL_len F (List.range k)
      rw [List.length_range] at hkl
      obtain ⟨q, hq⟩ : ∃ q, (entL F (List.range k)).length = q := ⟨_, rfl⟩
      rw [hq] at hat hsu hkl ⊢
      have HSU := Lib.hid hsu
      have HAT := Lib.hid hat
      have HSI := Lib.hid hS
      clear P1 hq hsu hat hS
      go_wp2_with fail
      refine HP1.out.mono ?_
      rintro e w1 ⟨rfl, hb1⟩
      have hE1 := hEk.below hb1
      have hU1 := hUk.below hb1
      have hbb := below_then hb hb1
      have hal := (Below.refl w1.heap.size w1).alloc (Nat.le_refl _) (.cells #[.int .i64 ky, .int .u64 vl] 53)
      have hX : RowC (w1.alloc (.cells #[.int .i64 ky, .int .u64 vl] 53)) w1.heap.size 53 [.int .i64 ky, .int .u64 vl] := heap_alloc_new _ _
      have hE2 := hE1.below hal
      have hU2 := hU1.below hal
      have x0 := hX.cell (j := 0) rfl
      have x1 := hX.cell (j := 1) rfl
      have e0 := hE2.cell (j := k * 2) (v := .int .i64 ky) (by rw [entC_get0, HSI.out.ee]; rfl)
      have e1 := hE2.cell (j := k * 2 + 1) (v := .int .u64 vl) (by rw [entC_get1, HSI.out.ee]; rfl)
      have y0 := hU2.cell (j := k) (v := .bool u) (by rw [boolC_get, HSI.out.ue]; rfl)
      have hbF := below_then hbb hal
      have HBF := Lib.hid hbF
      have g2 : (0 : Int) ≤ (k : Int) := by omega
      have g3 : (k : Int) < (n : Int) := by omega
      clear hb hb1 hbb hal hX hE1 hU1 hE2 hU2 hEk hUk hPk rk hbF
      go_wp2_with fail
      go_quiet (fail)
      cases u with
      | true =>
        obtain ⟨hqM, g, rfl, hMc, hgl, z0, z1, z2⟩ := HAT.out rfl
        have f0 := (HBF.out.cell (p := ⟨g, q * 3, none⟩) hgl).trans z0
        have f1 := (HBF.out.cell (p := ⟨g, q * 3 + 1, none⟩) hgl).trans z1
        have f2 := (HBF.out.cell (p := ⟨g, q * 3 + 2, none⟩) hgl).trans z2
        rw [HSI.out.kn rfl] at f1
        rw [HSI.out.vn rfl] at f2
        have hsu := HSU.out
        rw [if_pos rfl] at hsu
        have HSU2 := Lib.hid hsu
        have m1 : (q : Int) < (M : Int) := by omega
        have m0 : (0 : Int) ≤ (q : Int) := by omega
        have hd : decide ((M : Int) ≤ (q : Int)) = false := decide_eq_false (by omega)
        have hd2 : decide (M ≤ q) = false := decide_eq_false (by omega)
        clear z0 z1 z2 hsu HSU hqM e0 e1 y0
        go_wp2_with fail
        go_quiet (fail)
        go_wp2_with fail
        go_roundw
        case rel => exact ⟨k + 1, by omega, by go_num, by rw [HSU2.out]; go_num, below_drewN HBF.out _⟩
        case measure => simp [intOf]; omega
      | false =>
        have hsu := HSU.out
        rw [if_neg (by decide)] at hsu
        have HSU2 := Lib.hid hsu
        clear hsu HSU e0 e1 y0 x0 x1
        go_wp2_with fail
        go_roundw
        case rel => exact ⟨k + 1, by omega, by go_num, by rw [HSU2.out]; go_num, below_drewN HBF.out _⟩
        case measure => simp [intOf]; omega
    · have he : k = n := by omega
      subst he
      rw [HM.out]
      have x0 := hPk.cell (j := 0) rfl
      have x1 := hPk.cell (j := 1) rfl
      have x2 := hPk.cell (j := 2) rfl
      have bbk := below_then bb4 hb
      clear hEk hUk hP4 hE4 hU4 hb
      go_wp2_with fail
      refine (HI1.out _).mono ?_
      rintro e wx ⟨rfl, rfl⟩
      go_wp2_with fail
      rw [← HN.out]
      have PC := check_any (hT.below bbk) rk (n := N) HB.out.len.symm (by rw [HB.out.len]; omega) nu k
      rw [HB.out.chk, HB.out.val] at PC
      have HPC := Lib.hid PC
      clear PC
      refine (HI2.out _).mono ?_
      rintro e wx ⟨rfl, rfl⟩
      go_wp2_with fail
      refine HPC.out.mono ?_
      rintro e w5 ⟨rfl, hb5⟩
      go_wp2_with fail
      have hb6 := hb5
      have r5 := rk.below hb5
      have bb5 := below_then bbk hb5
      have hP5 := hPk.below hb5
      have PL := lsn_any r5 (n := N) HB.out.len.symm (by rw [HB.out.len]; omega)
      rw [HB.out.le, HB.out.lv] at PL
      have HPL := Lib.hid PL
      clear PL hb6 rk bbk hPk x0 x1 x2 hb5
      refine HPL.out.mono ?_
      rintro e w6 ⟨rfl, hb6⟩
      have r6 := r5.below hb6
      have bb6 := below_then bb5 hb6
      have hP6 := hP5.below hb6
      clear r5 bb5 hP5 hb6 HPL HPC
      have x0 := hP6.cell (j := 0) rfl
      have x2 := hP6.cell (j := 2) rfl
      go_wp2_with fail
      refine (HI3.out _).mono ?_
      rintro e wx ⟨rfl, rfl⟩
      go_wp2_with fail
      refine (bytes_any (k : Int) _).mono ?_
      rintro e wx ⟨rfl, rfl⟩
      rw [HB.out.byt]
      go_wp2_with fail
      have P1 := check_any (hT.below bb6) r6 (n := N) HB.out.len.symm (by rw [HB.out.len]; omega) num0 k
      have hE1 := HB.out.num num0
      obtain ⟨E1, h1⟩ : ∃ E1, checkE F num0 k = E1 := ⟨_, rfl⟩
      obtain ⟨V1, h2⟩ : ∃ V1, checkV F num0 k = V1 := ⟨_, rfl⟩
      rw [h1] at P1 hE1
      rw [h2] at P1
      have HE1 := Lib.hid hE1
      clear h1 h2 x0 x2 hE1
      refine P1.mono ?_
      clear P1
      rintro e w7 ⟨rfl, hb7⟩
      have r7 := r6.below hb7
      have bb7 := below_then bb6 hb7
      have hP7 := hP6.below hb7
      clear r6 bb6 hP6 hb7
      have x0 := hP7.cell (j := 0) rfl
      have P2 := check_any (hT.below bb7) r7 (n := N) HB.out.len.symm (by rw [HB.out.len]; omega) nu slots0
      have hE2 := HB.out.siz slots0
      obtain ⟨E2, h1⟩ : ∃ E2, checkE F nu slots0 = E2 := ⟨_, rfl⟩
      obtain ⟨V2, h2⟩ : ∃ V2, checkV F nu slots0 = V2 := ⟨_, rfl⟩
      rw [h1] at P2 hE2
      rw [h2] at P2
      have HE2 := Lib.hid hE2
      have HP2 := Lib.hid P2
      clear h1 h2 hE2 P2
      go_wp2_with fail
      refine (HI2.out _).mono ?_
      rintro e wx ⟨rfl, rfl⟩
      go_wp2_with fail
      refine HP2.out.mono ?_
      rintro e w8 ⟨rfl, hb8⟩
      have bb8 := below_then bb7 hb8
      have hP8 := hP7.below hb8
      clear r7 bb7 hP7 hb8 x0 HP2
      have x0 := hP8.cell (j := 0) rfl
      have hE1 := HE1.out
      have hE2 := HE2.out
      go_wp2_with fail
      refine (HI2.out _).mono ?_
      rintro e wx ⟨rfl, rfl⟩
      go_wp2_with fail
      go_ret
      exact ⟨by simp, bb8⟩

theorem pageBack_contract (H : Type) (enc : TypeId × Value → H) (W : World) (base : Nat) (args : Array Value) (ds gs : List (DataW H)) (before : List MemPlace)
    (hval0 : ∀ (j : Nat) t v, Tryd.f9.params[j]? = some t → args[j]? = some v → Value.okWide Tryd.prog W .any base t v)
    (hW : DataW.Whole enc Tryd.prog Tryd.f9.params.toList Rows.pageBackSpec.vars false W args.toList ds gs before) (hsz : (DataW.weightsEach Tryd.checked.prog (Tryd.f9.params.toList ++ Rows.pageBackSpec.plain.varTypes Tryd.checked.prog) (ds ++ gs)).all (· ≤ reachBytes) = true) (hL : laidMetH Tryd.prog Rows.pageBackRow.laid W) :
    Calls Tryd.prog 9 args W fun e W' => ∃ v, e = .returned v ∧ Rows.pageBackSpec.post enc Tryd.prog Tryd.f9 false true false false W args v W' := by
  have hval : ∀ (j : Nat) t v, Tryd.f9.params[j]? = some t → args[j]? = some v → Value.okWide Tryd.prog W .any base t v := hval0
  have hW' := hW
  obtain ⟨p, q, hA0, hV, rfl, hfz, hnd⟩ := hW
  have hA : DataW.TrodAll enc Tryd.prog W 0 (fun _ => true) true Tryd.f9.params.toList args.toList ds p := hA0
  rw [Tryd.params9] at hA hval
  obtain ⟨v0, vs0, d0, ds0, p0, q0, hargs, rfl, rfl, h0, rr0⟩ := trodAll_cons hA
  obtain ⟨v1, vs1, d1, ds1, p1, q1, rfl, rfl, rfl, h1, rr1⟩ := trodAll_cons rr0
  obtain ⟨v2, vs2, d2, ds2, p2, q2, rfl, rfl, rfl, h2, rr2⟩ := trodAll_cons rr1
  obtain ⟨rfl, rfl, rfl⟩ := trodAll_nil rr2
  obtain rfl : args = #[v0, v1, v2] := by cases args; simp_all
  obtain ⟨rfl, rfl⟩ := trodVars_none hV
  have k0 := h0
  have lt0 : ∀ x ∈ p0, x.block < W.heap.size := by obtain ⟨m, hm⟩ := k0; exact DataW.trod_lt m _ _ _ hm
  obtain ⟨num0, slots0, lsn0, a0, l0, cap0, rfl, r0⟩ := open_plan (hval 0 43 v0 rfl rfl) h0
  obtain ⟨x1, rfl, rfl, rfl, w1⟩ := open_int Tryd.underlying3 (hval 1 3 v1 rfl rfl) h1
  have b1 := bounds_i64 w1
  obtain ⟨x2, rfl, rfl, rfl, w2⟩ := open_int Tryd.underlying3 (hval 2 3 v2 rfl rfl) h2
  have b2 := bounds_i64 w2
  clear hA0 hval0
  refine (pageBack_any (tb_of hL) r0 num0 slots0 lsn0 x1 x2).mono fun e W' ⟨he, bel⟩ => ?_
  subst he
  exact ⟨_, rfl, _, _, _, [], _, [], hW', trodAll_mk1 (shut_bool Tryd.underlying4 _), (trodAll_cons_mk (Below.trod laid_out (by kernel_rfl) (of_decide_eq_true (by kernel_rfl)) k0 bel lt0) (trodAll_cons_mk (shut_int Tryd.underlying3 w1) (trodAll_cons_mk (shut_int Tryd.underlying3 w2) trodAll_mk0))), rfl, bel.frame _, fun h => by cases h⟩

theorem pageBack_met (os : Os) : laidMet Tryd.prog Rows.pageBackRow.laid ((laidWorld os).forCall (fun _ _ => 0) ⟨#[], #[.agg #[.int .i64 0, .int .i64 0, .int .i64 0, .slice none 0 0], .int .i64 0, .int .i64 0], []⟩).memory :=
  laidMet_of_run' 8 (by kernel_rfl) (by kernel_rfl)
theorem pageBack_reads (os : Os) {H : Type} (enc : TypeId × Value → H) : ∃ places, DataW.whole enc Tryd.prog ((laidWorld os).forCall (fun _ _ => 0) ⟨#[], #[.agg #[.int .i64 0, .int .i64 0, .int .i64 0, .slice none 0 0], .int .i64 0, .int .i64 0], []⟩).memory Tryd.f9.params.toList Rows.pageBackSpec.vars false (#[.agg #[.int .i64 0, .int .i64 0, .int .i64 0, .slice none 0 0], .int .i64 0, .int .i64 0] : Array Value).toList 8 = some ([.agg [.lit (.int .i64 0), .lit (.int .i64 0), .lit (.int .i64 0), .nil], .lit (.int .i64 0), .lit (.int .i64 0)], [], places) :=
  ⟨[], by kernel_rfl⟩

set_option maxRecDepth 100000 in
theorem pageBack_lifted (os : Os) (started : os.Started) (H : Type) (enc : TypeId × Value → H) (F : Stop.Interp) :
    ReturnsInHanded {} Tryd.checked os 9 .any ((OpenSpec.ofChange Rows.pageBackSpec).preRow enc Tryd.prog Tryd.f9 Rows.pageBackRow.domain false Rows.pageBackRow.laid) (((OpenSpec.ofChange Rows.pageBackSpec).at F).post enc Tryd.prog Tryd.f9 false true false false) := by
  obtain ⟨places, hx⟩ := pageBack_reads os enc
  refine returnsInHanded_of_row (C := Tryd.checked) (s := OpenSpec.ofChange Rows.pageBackSpec) own_knob started (by kernel_rfl) Tryd.func9
    (witness_row_at (enc := enc) (C := Tryd.checked) false (laidWorld os) #[.agg #[.int .i64 0, .int .i64 0, .int .i64 0, .slice none 0 0], .int .i64 0, .int .i64 0] rfl (by kernel_rfl) (by kernel_rfl) (by kernel_rfl)
      (OpenSpec.preRow_of_cond 8 hx (by kernel_rfl) (fun k hk => by cases hk) (by kernel_rfl) (pageBack_met os))) ?_
  intro W base args ds gs before hval hW _ hcond hsz hL _ _
  exact pageBack_contract H enc W base args ds gs before hval hW hsz hL

theorem pageBack_said : Rows.PageBackSaid :=
  OpenClaim.holds_of_cond 9 Tryd.f9 rfl rfl rfl rfl rfl rfl rfl ⟨rfl, rfl, rfl, rfl, rfl⟩ rfl rfl rfl rfl rfl (by kernel_rfl) Tryd.func9 (by kernel_rfl)
    (of_decide_eq_true (by kernel_rfl)) (by unfold Func.isWrapper; first | (rw [if_pos (by decide +kernel)]; kernel_rfl) | (rw [if_neg (by decide +kernel)]; exact ⟨rfl, rfl⟩))
    (fun os started H enc _ F => by rw [OpenClaim.pre_eq_preRow]; exact pageBack_lifted os started H enc F)

theorem pageBack_plain (f : FuncId) (fn : Func) (hf : Tryd.pinned.checked.prog.funcNamed "tidemark/tidemarklaw04.PageBack" = some f) (hfn : Tryd.pinned.checked.prog.funcs[f]? = some fn) :
    false = Tryd.pinned.checked.prog.looks [] ∧ ∀ (j : Nat) t, fn.params[j]? = some t → Tryd.pinned.checked.prog.wantsStandIn t = false := by
  obtain rfl : f = 9 := Option.some.inj ((show Tryd.prog.funcNamed "tidemark/tidemarklaw04.PageBack" = some 9 by kernel_rfl).symm.trans hf) |>.symm
  obtain rfl : fn = Tryd.f9 := (Option.some.inj (Tryd.func9.symm.trans hfn)).symm
  refine ⟨by kernel_rfl, fun j t ht => ?_⟩
  rw [Tryd.params9] at ht
  have hm := Array.mem_of_getElem? ht
  have : t = 3∨t = 43 := by simp at hm; first | exact hm | (rcases hm with hh | hh <;> simp [hh]) | (rcases hm with hh | hh | hh <;> simp [hh]) | (rcases hm with hh | hh | hh | hh <;> simp [hh]) | (rcases hm with hh | hh | hh | hh | hh <;> simp [hh]) | (rcases hm with hh | hh | hh | hh | hh | hh <;> simp [hh]) | (rcases hm with hh | hh | hh | hh | hh | hh | hh <;> simp [hh]) | (rcases hm with hh | hh | hh | hh | hh | hh | hh | hh <;> simp [hh])
  rcases this with rfl|rfl
  · exact (show Tryd.prog.wantsStandIn 3 = false by kernel_rfl)
  · exact (show Tryd.prog.wantsStandIn 43 = false by kernel_rfl)

theorem pageBack_holds : Rows.PageBackCardSaid :=
  Claim7.holds_tied_plain_at .later [] _ _ _ _ pageBack_said (fun _ h => by cases h) (by kernel_rfl) (fun _ h => by cases h) pageBack_row_tie rfl ⟨rfl, rfl⟩ (by kernel_rfl) rfl pageBack_plain (by kernel_rfl)
#print axioms pageBack_holds
end Go.Proofs.YtgcpmdodhnmneaaDoor
