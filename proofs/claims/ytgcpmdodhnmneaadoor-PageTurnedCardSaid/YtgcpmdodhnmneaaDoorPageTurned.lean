import Derived.Test.YtgcpmdodhnmneaaDoorLaw4
import Derived.Test.YtgcpmdodhnmneaaDoorDoor
import Derived.Test.YtgcpmdodhnmneaaDoorBuilt
import Derived.Test.YtgcpmdodhnmneaaDoorPageLaw
import Derived.Test.YtgcpmdodhnmneaaDoorStore
/- PageTurned: the walk. -/
set_option linter.unusedVariables false
set_option linter.unusedSimpArgs false
namespace Go.Proofs.YtgcpmdodhnmneaaDoor
open Go.RowKit Go.Tm Go.ChangeShapes Go.WideShapes Go.ChangeAt
set_option maxHeartbeats 400000
set_option maxRecDepth 100000

set_option maxHeartbeats 1600000 in
theorem pageTurned_any {w : World} (hT : Tb w) {A : Option Addr} {c : Nat} {l : List (Int × Bool × Int × Int)} (hp : PlanR w A c l) (num slots lsn at0 by0 : Int) (hy0 : 0 ≤ by0) (hy1 : by0 < 256) :
    Calls Tryd.prog 7 #[.agg #[.int .i64 num, .int .i64 slots, .int .i64 lsn, .slice A l.length c], .int .i64 at0, .int .u8 by0] w fun e w' => e = .returned (.bool true) ∧ Below w.heap.size w w' := by
  have HI1 := Lib.hid (fun W => into4_any slots 8 (by decide) (by decide) W)
  have HI2 := Lib.hid (fun W => into4_any num 16 (by decide) (by decide) W)
  obtain ⟨n, hn⟩ : ∃ n : Nat, (n : Int) = 1 + slots % 8 := ⟨(1 + slots % 8).toNat, by have := Int.emod_nonneg slots (b := 8) (by decide); omega⟩
  obtain ⟨N, hN⟩ : ∃ N, N = 24 + 16 * n := ⟨_, rfl⟩
  have hbx := (Below.refl w.heap.size w).alloc (Nat.le_refl _) (.cells #[.int .i64 num, .int .i64 slots, .int .i64 lsn, .slice A l.length c] 43)
  have hP0 : RowC (w.alloc (.cells #[.int .i64 num, .int .i64 slots, .int .i64 lsn, .slice A l.length c] 43)) w.heap.size 43 [.int .i64 num, .int .i64 slots, .int .i64 lsn, .slice A l.length c] := heap_alloc_new w _
  have HBT := Lib.hid (built_any (hT.below hbx) (hp.below hbx) num slots lsn n hn N hN)
  have hn1 : 1 ≤ n := by have := Int.emod_nonneg slots (b := 8) (by decide); omega
  have hn8 : n ≤ 8 := by have := Int.emod_lt_of_pos slots (b := 8) (by decide); omega
  obtain ⟨n0, hn0⟩ : ∃ n0, slots % 8 = n0 := ⟨_, rfl⟩
  obtain ⟨nu, hnu⟩ : ∃ nu, num % 16 = nu := ⟨_, rfl⟩
  obtain ⟨ls, hls⟩ : ∃ ls, lsn % 1152921504606846976 = ls := ⟨_, rfl⟩
  have l0 : 0 ≤ n0 := by omega
  have l1 : n0 < 8 := by omega
  have u0 : 0 ≤ nu := by omega
  have u1 : nu < 16 := by omega
  have s0 : 0 ≤ ls := by omega
  have s1 : ls < 1152921504606846976 := by omega
  rw [hn0] at HI1 hn
  rw [hnu] at HI2 HBT
  rw [hls] at HBT
  clear hn0 hnu hls
  obtain ⟨mE, mP, mV⟩ := make_page u0 u1 hn1 hn8
  have hpage : IsPage n (planS nu n l).1 := by
    unfold planS
    have : ∀ (q : List (Int × Bool × Int × Int)) s, PlanOk n s → PlanOk n (q.foldl (planStep n) s) := by
      intro q
      induction q with
      | nil => exact fun s h => h
      | cons x r ih => exact fun s h => ih _ (planStep_ok h x)
    exact (this l _ ⟨mP, by simp, by simp⟩).page
  obtain ⟨c1, c2, c3, c4⟩ := stamped_page hpage (number := nu) (lsn := 1 + ls) u0 u1 (by omega) (by omega)
  obtain ⟨F, hF⟩ : ∃ F, stampP (planS nu n l).1 nu.toNat (1 + ls).toNat = F := ⟨_, rfl⟩
  rw [hF] at c1 c2 c3 c4 HBT
  rw [← hN] at c4
  have HTU := Lib.hid (fun (k : Nat) (hk : k < F.length) (v : UInt8) (hv : v ≠ F.getD k 0) => turned_check (by rw [c4]; omega) c1 c2 (by rw [c3]; omega) hk hv)
  have HN := Lib.hid hn
  have hN152 : N ≤ 152 := by omega
  have hN24 : 24 ≤ N := by omega
  have HFL := Lib.hid c4
  clear hF mE mP mV c1 c2 c3 c4 hpage hn hN
  have p0 := hP0.cell (j := 0) rfl
  have p1 := hP0.cell (j := 1) rfl
  have p2 := hP0.cell (j := 2) rfl
  have p3 := hP0.cell (j := 3) rfl
  go_enter Tryd.func7, Tryd.ntmps7
  go_wp2_with fail
  refine HBT.out.mono ?_
  rintro e w2 ⟨A2, c2, gL, gU, rfl, hN2, _, _, _, _⟩
  have hP2 := hP0.below hN2.below
  have bb2 := below_then hbx hN2.below
  have o2 := hN2.own
  have hge := hN2.below.size
  clear p0 p1 p2 p3 HBT hP0 hN2
  go_wp2_with fail
  refine (known_any (hT.below bb2)).mono ?_
  rintro e w3 ⟨rfl, hb3⟩
  have hP3 := hP2.below hb3
  have bb3 := below_then bb2 hb3
  have o3 := o2.below hb3
  clear hP2 bb2 o2 hb3
  by_cases hz : by0 = 0
  · subst hz
    go_wp2_with fail
    refine (known_any (hT.below bb3)).mono ?_
    rintro e w4 ⟨rfl, hb4⟩
    have bb4 := below_then bb3 hb4
    go_wp2_with fail
    go_ret
    exact ⟨rfl, bb4⟩
  · have hzb : (by0 == 0) = false := by rw [beq_eq_false_iff_ne]; exact hz
    have p0 := hP3.cell (j := 0) rfl
    have p1 := hP3.cell (j := 1) rfl
    go_wp2_with fail
    refine (HI1.out _).mono ?_
    rintro e wx ⟨rfl, rfl⟩
    go_wp2_with fail
    refine (HI2.out _).mono ?_
    rintro e wx ⟨rfl, rfl⟩
    go_wp2_with fail
    obtain ⟨K, hK⟩ : ∃ K : Nat, at0 % (N : Int) = (K : Int) := Int.eq_ofNat_of_zero_le (Int.emod_nonneg _ (by omega))
    have hKl : K < N := by have := Int.emod_lt_of_pos at0 (b := (N : Int)) (by omega); omega
    have P4 := into4_any at0 (N : Int) (by omega) (by omega) w3
    rw [hK] at P4
    clear hK
    refine P4.mono ?_
    clear P4
    rintro e wx ⟨rfl, rfl⟩
    obtain ⟨g, rfl, hg⟩ := o3.block (by rw [HFL.out]; omega)
    have hfz := o3.unfrozen rfl K
    have hcell := o3.cellAt rfl K (by rw [HFL.out]; omega)
    have hx := xor8 (F.getD K 0) by0 hy0 (by omega)
    have hne := fun e => hz ((xor8_zero by0 hy0 (by omega) (F.getD K 0)).1 e)
    have hx2 := xor8 (F.getD K 0 ^^^ UInt8.ofNat by0.toNat) by0 hy0 (by omega)
    rw [UInt8.xor_assoc, UInt8.xor_self, UInt8.xor_zero] at hx2
    have hset : F.set K (F.getD K 0) = F := by
      have h4 : K < F.length := by rw [HFL.out]; omega
      rw [show F.getD K 0 = F[K] by simp [List.getD, h4], List.set_getElem_self]
    obtain ⟨t1, t2, t3⟩ := HTU.out K (by rw [HFL.out]; exact hKl) _ hne
    obtain ⟨a, ha⟩ : ∃ a, F.getD K 0 = a := ⟨_, rfl⟩
    rw [ha] at hcell hx hx2 hset t3
    obtain ⟨v, hv⟩ : ∃ v, a ^^^ UInt8.ofNat by0.toNat = v := ⟨_, rfl⟩
    rw [hv] at hx hx2 t3
    clear ha hv hne HTU
    obtain ⟨st1, st2⟩ := o3.stored rfl K v
    have bb5 : Below w.heap.size w (w3.setCell ⟨g, K, none⟩ (.int .u8 (v.toNat : Int))) := bb3.grown st2 bb3.size (fun k hk => by injection hk with hk; have := hbx.size; omega)
    have T5 := hT.below bb5
    have hlen5 : (F.set K v).length = N := by rw [List.length_set]; exact HFL.out
    have P6 := fun (W : World) (T : Tb W) (B : Option Addr) (d : Nat) (h : Rda W B d (F.set K v)) => check_any T h (n := N) hlen5.symm (by omega) nu n
    rw [t3] at P6
    obtain ⟨V, hV⟩ : ∃ V, checkV (F.set K v) nu n = V := ⟨_, rfl⟩
    rw [hV] at P6
    have P7 := fun (W : World) (T : Tb W) (B : Option Addr) (d : Nat) (h : Rda W B d F) => check_any T h (n := N) HFL.out.symm (by rw [HFL.out]; omega) nu n
    obtain ⟨V2, hV2⟩ : ∃ V, checkV F nu n = V := ⟨_, rfl⟩
    rw [t1, hV2] at P7
    have H6 := Lib.hid P6
    have H7 := Lib.hid P7
    have HS := Lib.hid hset
    clear P6 P7 t1 t2 t3 hV hV2 hset p0 p1 hP3
    go_wp2_with fail
    rw [← HN.out]
    refine (H6.out _ T5 _ _ (own_at st1).2).mono ?_
    rintro e w6 ⟨rfl, hN6⟩
    have f6 := st1.below hN6
    have bb6 := below_then bb5 hN6
    have hfz6 := f6.unfrozen (by rw [List.length_set]) K
    have hcell6 := f6.cellAt (by rw [List.length_set]) K (by rw [hlen5]; omega)
    rw [show (F.set K v).getD K 0 = v by rw [List.getD, List.getElem?_set_self (by rw [HFL.out]; omega)]; rfl] at hcell6
    obtain ⟨st3, st4⟩ := f6.stored (by rw [List.length_set]) K a
    rw [List.set_set, HS.out] at st3
    have bb7 : Below w.heap.size w (w6.setCell ⟨g, K, none⟩ (.int .u8 (a.toNat : Int))) := bb6.grown st4 bb6.size (fun k hk => by injection hk with hk; have := hbx.size; omega)
    have T7 := hT.below bb7
    clear hfz hcell hx o3 st1 st2 hN6 T5 bb5 bb6
    go_wp2_with fail
    refine (H7.out _ T7 _ _ (own_at st3).2).mono ?_
    rintro e w8 ⟨rfl, hN8⟩
    have bb8 := below_then bb7 hN8
    go_wp2_with fail
    go_ret
    exact ⟨rfl, bb8⟩

theorem pageTurned_contract (H : Type) (enc : TypeId × Value → H) (W : World) (base : Nat) (args : Array Value) (ds gs : List (DataW H)) (before : List MemPlace)
    (hval0 : ∀ (j : Nat) t v, Tryd.f7.params[j]? = some t → args[j]? = some v → Value.okWide Tryd.prog W .any base t v)
    (hW : DataW.Whole enc Tryd.prog Tryd.f7.params.toList Rows.pageTurnedSpec.vars false W args.toList ds gs before) (hsz : (DataW.weightsEach Tryd.checked.prog (Tryd.f7.params.toList ++ Rows.pageTurnedSpec.plain.varTypes Tryd.checked.prog) (ds ++ gs)).all (· ≤ reachBytes) = true) (hL : laidMetH Tryd.prog Rows.pageTurnedRow.laid W) :
    Calls Tryd.prog 7 args W fun e W' => ∃ v, e = .returned v ∧ Rows.pageTurnedSpec.post enc Tryd.prog Tryd.f7 false true false false W args v W' := by
  have hval : ∀ (j : Nat) t v, Tryd.f7.params[j]? = some t → args[j]? = some v → Value.okWide Tryd.prog W .any base t v := hval0
  have hW' := hW
  obtain ⟨p, q, hA0, hV, rfl, hfz, hnd⟩ := hW
  have hA : DataW.TrodAll enc Tryd.prog W 0 (fun _ => true) true Tryd.f7.params.toList args.toList ds p := hA0
  rw [Tryd.params7] at hA hval
  obtain ⟨v0, vs0, d0, ds0, p0, q0, hargs, rfl, rfl, h0, rr0⟩ := trodAll_cons hA
  obtain ⟨v1, vs1, d1, ds1, p1, q1, rfl, rfl, rfl, h1, rr1⟩ := trodAll_cons rr0
  obtain ⟨v2, vs2, d2, ds2, p2, q2, rfl, rfl, rfl, h2, rr2⟩ := trodAll_cons rr1
  obtain ⟨rfl, rfl, rfl⟩ := trodAll_nil rr2
  obtain rfl : args = #[v0, v1, v2] := by cases args; simp_all
  obtain ⟨rfl, rfl⟩ := trodVars_none hV
  have k0 := h0
  have lt0 : ∀ x ∈ p0, x.block < W.heap.size := by obtain ⟨m, hm⟩ := k0; exact DataW.trod_lt m _ _ _ hm
  obtain ⟨num0, slots0, lsn0, a0, l0, cap0, rfl, r0⟩ := open_plan (hval 0 43 v0 rfl rfl) h0
  obtain ⟨x1, rfl, rfl, rfl, w1⟩ := open_int Tryd.underlying3 (hval 1 3 v1 rfl rfl) h1
  have b1 := bounds_i64 w1
  obtain ⟨x2, rfl, rfl, rfl, w2⟩ := open_int Tryd.underlying5 (hval 2 5 v2 rfl rfl) h2
  have b2 := bounds_u8 w2
  clear hA0 hval0
  refine (pageTurned_any (tb_of hL) r0 num0 slots0 lsn0 x1 x2 b2.1 (by omega)).mono fun e W' ⟨he, bel⟩ => ?_
  subst he
  exact ⟨_, rfl, _, _, _, [], _, [], hW', trodAll_mk1 (shut_bool Tryd.underlying4 _), (trodAll_cons_mk (Below.trod laid_out (by kernel_rfl) (of_decide_eq_true (by kernel_rfl)) k0 bel lt0) (trodAll_cons_mk (shut_int Tryd.underlying3 w1) (trodAll_cons_mk (shut_int Tryd.underlying5 w2) trodAll_mk0))), rfl, bel.frame _, fun h => by cases h⟩

theorem pageTurned_met (os : Os) : laidMet Tryd.prog Rows.pageTurnedRow.laid ((laidWorld os).forCall (fun _ _ => 0) ⟨#[], #[.agg #[.int .i64 0, .int .i64 0, .int .i64 0, .slice none 0 0], .int .i64 0, .int .u8 0], []⟩).memory :=
  laidMet_of_run' 8 (by kernel_rfl) (by kernel_rfl)
theorem pageTurned_reads (os : Os) {H : Type} (enc : TypeId × Value → H) : ∃ places, DataW.whole enc Tryd.prog ((laidWorld os).forCall (fun _ _ => 0) ⟨#[], #[.agg #[.int .i64 0, .int .i64 0, .int .i64 0, .slice none 0 0], .int .i64 0, .int .u8 0], []⟩).memory Tryd.f7.params.toList Rows.pageTurnedSpec.vars false (#[.agg #[.int .i64 0, .int .i64 0, .int .i64 0, .slice none 0 0], .int .i64 0, .int .u8 0] : Array Value).toList 8 = some ([.agg [.lit (.int .i64 0), .lit (.int .i64 0), .lit (.int .i64 0), .nil], .lit (.int .i64 0), .lit (.int .u8 0)], [], places) :=
  ⟨[], by kernel_rfl⟩

set_option maxRecDepth 100000 in
theorem pageTurned_lifted (os : Os) (started : os.Started) (H : Type) (enc : TypeId × Value → H) (F : Stop.Interp) :
    ReturnsInHanded {} Tryd.checked os 7 .any ((OpenSpec.ofChange Rows.pageTurnedSpec).preRow enc Tryd.prog Tryd.f7 Rows.pageTurnedRow.domain false Rows.pageTurnedRow.laid) (((OpenSpec.ofChange Rows.pageTurnedSpec).at F).post enc Tryd.prog Tryd.f7 false true false false) := by
  obtain ⟨places, hx⟩ := pageTurned_reads os enc
  refine returnsInHanded_of_row (C := Tryd.checked) (s := OpenSpec.ofChange Rows.pageTurnedSpec) own_knob started (by kernel_rfl) Tryd.func7
    (witness_row_at (enc := enc) (C := Tryd.checked) false (laidWorld os) #[.agg #[.int .i64 0, .int .i64 0, .int .i64 0, .slice none 0 0], .int .i64 0, .int .u8 0] rfl (by kernel_rfl) (by kernel_rfl) (by kernel_rfl)
      (OpenSpec.preRow_of_cond 8 hx (by kernel_rfl) (fun k hk => by cases hk) (by kernel_rfl) (pageTurned_met os))) ?_
  intro W base args ds gs before hval hW _ hcond hsz hL _ _
  exact pageTurned_contract H enc W base args ds gs before hval hW hsz hL

theorem pageTurned_said : Rows.PageTurnedSaid :=
  OpenClaim.holds_of_cond 7 Tryd.f7 rfl rfl rfl rfl rfl rfl rfl ⟨rfl, rfl, rfl, rfl, rfl⟩ rfl rfl rfl rfl rfl (by kernel_rfl) Tryd.func7 (by kernel_rfl)
    (of_decide_eq_true (by kernel_rfl)) (by unfold Func.isWrapper; first | (rw [if_pos (by decide +kernel)]; kernel_rfl) | (rw [if_neg (by decide +kernel)]; exact ⟨rfl, rfl⟩))
    (fun os started H enc _ F => by rw [OpenClaim.pre_eq_preRow]; exact pageTurned_lifted os started H enc F)

theorem pageTurned_plain (f : FuncId) (fn : Func) (hf : Tryd.pinned.checked.prog.funcNamed "tidemark/tidemarklaw04.PageTurned" = some f) (hfn : Tryd.pinned.checked.prog.funcs[f]? = some fn) :
    false = Tryd.pinned.checked.prog.looks [] ∧ ∀ (j : Nat) t, fn.params[j]? = some t → Tryd.pinned.checked.prog.wantsStandIn t = false := by
  obtain rfl : f = 7 := Option.some.inj ((show Tryd.prog.funcNamed "tidemark/tidemarklaw04.PageTurned" = some 7 by kernel_rfl).symm.trans hf) |>.symm
  obtain rfl : fn = Tryd.f7 := (Option.some.inj (Tryd.func7.symm.trans hfn)).symm
  refine ⟨by kernel_rfl, fun j t ht => ?_⟩
  rw [Tryd.params7] at ht
  have hm := Array.mem_of_getElem? ht
  have : t = 3∨t = 43∨t = 5 := by simp at hm; first | exact hm | (rcases hm with hh | hh <;> simp [hh]) | (rcases hm with hh | hh | hh <;> simp [hh]) | (rcases hm with hh | hh | hh | hh <;> simp [hh]) | (rcases hm with hh | hh | hh | hh | hh <;> simp [hh]) | (rcases hm with hh | hh | hh | hh | hh | hh <;> simp [hh]) | (rcases hm with hh | hh | hh | hh | hh | hh | hh <;> simp [hh]) | (rcases hm with hh | hh | hh | hh | hh | hh | hh | hh <;> simp [hh])
  rcases this with rfl|rfl|rfl
  · exact (show Tryd.prog.wantsStandIn 3 = false by kernel_rfl)
  · exact (show Tryd.prog.wantsStandIn 43 = false by kernel_rfl)
  · exact (show Tryd.prog.wantsStandIn 5 = false by kernel_rfl)

theorem pageTurned_holds : Rows.PageTurnedCardSaid :=
  Claim7.holds_tied_plain_at .later [] _ _ _ _ pageTurned_said (fun _ h => by cases h) (by kernel_rfl) (fun _ h => by cases h) pageTurned_row_tie rfl ⟨rfl, rfl⟩ (by kernel_rfl) rfl pageTurned_plain (by kernel_rfl)
#print axioms pageTurned_holds
end Go.Proofs.YtgcpmdodhnmneaaDoor
