/-
  Proved: for every input that its row lets in the statement MasterBytes answers true; what was handed in stays as it was.
  Conditions: none beyond the row's own.
-/
import Derived.Test.YtgelgjghmoddoaaDoorLaw7
import Derived.Test.YtgelgjghmoddoaaDoorDoor
/- MasterBytes: the walk. -/
set_option linter.unusedVariables false
set_option linter.unusedSimpArgs false
namespace Go.Proofs.YtgelgjghmoddoaaDoor
open Go.RowKit Go.Tm Go.ChangeShapes Go.WideShapes Go.ChangeAt
set_option maxHeartbeats 400000
set_option maxRecDepth 100000

set_option maxHeartbeats 2000000 in
theorem masterBytes_any {w : World} (hT : Tb w) (t b c : Int) : Calls Tryd.prog 3 #[.int .i64 t, .int .i64 b, .int .i64 c] w fun e w' => e = .returned (.bool true) ∧ Below w.heap.size w w' := by
  have hb0 := (Below.refl w.heap.size w).alloc (Nat.le_refl _) (.cells #[.int .i64 t, .int .i64 b, .int .i64 c] 23)
  have hR0 : RowC (w.alloc (.cells #[.int .i64 t, .int .i64 b, .int .i64 c] 23)) w.heap.size 23 [.int .i64 t, .int .i64 b, .int .i64 c] := heap_alloc_new _ _
  have hlen : (mastV t b c).length ≤ 40 := by unfold mastV; split <;> simp [mastL_length]
  have HS : Hid (mayB t b c = true → mastE t b c = 0 ∧ isM (mastV t b c) = true ∧ (((pM (mastV t b c)).1 : Nat) : Int) = t ∧ (((pM (mastV t b c)).2.1 : Nat) : Int) = b ∧ (((pM (mastV t b c)).2.2 : Nat) : Int) = c) := Lib.hid fun hm => by
    obtain ⟨t1, t2, b1, b2, c1, c2⟩ := (mayB_iff t b c).1 hm
    have hv : mastV t b c = mastL t.toNat b.toNat c.toNat := if_pos hm
    rw [hv, (mast_is hm).1, (mast_is hm).2]
    exact ⟨if_pos hm, rfl, Int.toNat_of_nonneg (by omega), Int.toNat_of_nonneg b1, Int.toNat_of_nonneg c1⟩
  have HF : Hid (mayB t b c = false → mastE t b c = 30 ∧ isM (mastV t b c) = false ∧ (((pM (mastV t b c)).1 : Nat) : Int) = 0 ∧ (((pM (mastV t b c)).2.1 : Nat) : Int) = 0 ∧ (((pM (mastV t b c)).2.2 : Nat) : Int) = 0) := Lib.hid fun hm => by
    have hv : mastV t b c = [] := if_neg (by rw [hm]; decide)
    have hi : isM [] = false := by decide +kernel
    rw [hv, hi, refParse_false hi]
    exact ⟨if_neg (by rw [hm]; decide), rfl, rfl, rfl, rfl⟩
  have PB := mbytes_any (hT.below hb0) t b c
  have PR := fun W => refBytes7_any (w := W) t b c
  have PO := fun W => ours_any (w := W) t b c
  obtain ⟨V, hV⟩ : ∃ V, mastV t b c = V := ⟨_, rfl⟩
  obtain ⟨E, hE⟩ : ∃ E, mastE t b c = E := ⟨_, rfl⟩
  rw [hV, hE] at PB
  rw [hV] at hlen
  have PR2 : ∀ W, Calls Tryd.prog 9 #[.agg #[.int .i64 t, .int .i64 b, .int .i64 c]] W fun e w' => ∃ A c', e = .returned (.tuple #[.slice A V.length c', .int .i64 E]) ∧ New 5 W w' A c' V := fun W => by
    have := PR W
    rw [hV, hE] at this
    exact this
  rw [hV, hE] at HS HF
  have HPB := Lib.hid PB
  have HPR := Lib.hid PR2
  have HPO := Lib.hid PO
  have HT := Lib.hid hT
  have HB0 := Lib.hid hb0
  have HR0 := Lib.hid hR0
  have HLEN := Lib.hid hlen
  clear PB PR PR2 PO hV hE hT hb0 hR0 hlen
  cases hm : mayB t b c with
  | true =>
    obtain ⟨e0, ei, ep, eq, er⟩ := HS.out hm
    have HEQ := Lib.hid (And.intro ei (And.intro ep (And.intro eq er)))
    subst e0
    clear HS HF ei ep eq er hm
    go_enter Tryd.func3, Tryd.ntmps3
    go_wp2_with fail
    refine HPB.out.mono ?_
    rintro e w1 ⟨A1, c1, rfl, N1⟩
    have HB1 := Lib.hid (below_then HB0.out N1.below)
    have HR1 := Lib.hid (HR0.out.below N1.below)
    have HD1 := Lib.hid N1.rda
    have x0 := HR1.out.cell (j := 0) (v := .int .i64 t) rfl
    have x1 := HR1.out.cell (j := 1) (v := .int .i64 b) rfl
    have x2 := HR1.out.cell (j := 2) (v := .int .i64 c) rfl
    clear N1
    go_wp2_with fail
    refine (HPO.out _).mono ?_
    rintro e w2 ⟨rfl, hb2⟩
    have HB2 := Lib.hid (below_then HB1.out hb2)
    have HR2 := Lib.hid (HR1.out.below hb2)
    have HD2 := Lib.hid (HD1.out.below hb2)
    clear hb2 x0 x1 x2
    go_wp2_with fail
    refine (HPR.out _).mono ?_
    rintro e w3 ⟨A3, c3, rfl, N3⟩
    have HB3 := Lib.hid (below_then HB2.out N3.below)
    have HR3 := Lib.hid (HR2.out.below N3.below)
    have HD3 := Lib.hid (HD2.out.below N3.below)
    have HQ3 := Lib.hid N3.rda
    have HH := Lib.hid (head7_any (HT.out.below HB3.out))
    clear N3
    go_wp2_with fail
    refine HH.out.mono ?_
    rintro e w4 ⟨rfl, hb4⟩
    have HB4 := Lib.hid (below_then HB3.out hb4)
    have HR4 := Lib.hid (HR3.out.below hb4)
    have HD4 := Lib.hid (HD3.out.below hb4)
    have HSM := Lib.hid (same_yes (HD3.out.below hb4) (HQ3.out.below hb4) rfl rfl rfl)
    clear hb4 HH
    go_wp2_with fail
    refine HSM.out.mono ?_
    rintro e wx ⟨rfl, rfl⟩
    have PP := mparse_any (HT.out.below HB4.out) HD4.out rfl (by have := HLEN.out; omega)
    rw [HEQ.out.1, HEQ.out.2.1, HEQ.out.2.2.1, HEQ.out.2.2.2] at PP
    have HPP := Lib.hid PP
    clear PP HSM
    go_wp2_with fail
    refine HPP.out.mono ?_
    rintro e w5 ⟨rfl, hb5⟩
    have HB5 := Lib.hid (below_then HB4.out hb5)
    have hr5 := HR4.out.below hb5
    have hba := (Below.refl w5.heap.size w5).alloc (Nat.le_refl _) (.cells #[.int .i64 t, .int .i64 b, .int .i64 c] 23)
    have hr6 := hr5.below hba
    have y0 := hr6.cell (j := 0) (v := .int .i64 t) rfl
    have y1 := hr6.cell (j := 1) (v := .int .i64 b) rfl
    have y2 := hr6.cell (j := 2) (v := .int .i64 c) rfl
    have HB6 := Lib.hid (below_then HB5.out hba)
    clear hb5 hr5 hba hr6
    go_wp2_with fail
    go_ret
    exact ⟨rfl, HB6.out⟩
  | false =>
    obtain ⟨e0, ei, ep, eq, er⟩ := HF.out hm
    have HEQ := Lib.hid (And.intro ei (And.intro ep (And.intro eq er)))
    subst e0
    clear HS HF ei ep eq er hm
    go_enter Tryd.func3, Tryd.ntmps3
    go_wp2_with fail
    refine HPB.out.mono ?_
    rintro e w1 ⟨A1, c1, rfl, N1⟩
    have HB1 := Lib.hid (below_then HB0.out N1.below)
    have HR1 := Lib.hid (HR0.out.below N1.below)
    have HD1 := Lib.hid N1.rda
    have x0 := HR1.out.cell (j := 0) (v := .int .i64 t) rfl
    have x1 := HR1.out.cell (j := 1) (v := .int .i64 b) rfl
    have x2 := HR1.out.cell (j := 2) (v := .int .i64 c) rfl
    clear N1
    go_wp2_with fail
    refine (HPO.out _).mono ?_
    rintro e w2 ⟨rfl, hb2⟩
    have HB2 := Lib.hid (below_then HB1.out hb2)
    have HR2 := Lib.hid (HR1.out.below hb2)
    have HD2 := Lib.hid (HD1.out.below hb2)
    clear hb2 x0 x1 x2
    go_wp2_with fail
    refine (HPR.out _).mono ?_
    rintro e w3 ⟨A3, c3, rfl, N3⟩
    have HB3 := Lib.hid (below_then HB2.out N3.below)
    have HR3 := Lib.hid (HR2.out.below N3.below)
    have HD3 := Lib.hid (HD2.out.below N3.below)
    have HQ3 := Lib.hid N3.rda
    have HH := Lib.hid (head7_any (HT.out.below HB3.out))
    clear N3
    go_wp2_with fail
    refine HH.out.mono ?_
    rintro e w4 ⟨rfl, hb4⟩
    have HB4 := Lib.hid (below_then HB3.out hb4)
    have HR4 := Lib.hid (HR3.out.below hb4)
    have HD4 := Lib.hid (HD3.out.below hb4)
    have HSM := Lib.hid (same_yes (HD3.out.below hb4) (HQ3.out.below hb4) rfl rfl rfl)
    clear hb4 HH
    go_wp2_with fail
    refine HSM.out.mono ?_
    rintro e wx ⟨rfl, rfl⟩
    have PP := mparse_any (HT.out.below HB4.out) HD4.out rfl (by have := HLEN.out; omega)
    rw [HEQ.out.1, HEQ.out.2.1, HEQ.out.2.2.1, HEQ.out.2.2.2] at PP
    have HPP := Lib.hid PP
    clear PP HSM
    go_wp2_with fail
    refine HPP.out.mono ?_
    rintro e w5 ⟨rfl, hb5⟩
    have HB5 := Lib.hid (below_then HB4.out hb5)
    have hr5 := HR4.out.below hb5
    have hba := (Below.refl w5.heap.size w5).alloc (Nat.le_refl _) (.cells #[.int .i64 0, .int .i64 0, .int .i64 0] 23)
    have hr6 := hr5.below hba
    have y0 := hr6.cell (j := 0) (v := .int .i64 t) rfl
    have y1 := hr6.cell (j := 1) (v := .int .i64 b) rfl
    have y2 := hr6.cell (j := 2) (v := .int .i64 c) rfl
    have HB6 := Lib.hid (below_then HB5.out hba)
    clear hb5 hr5 hba hr6
    go_wp2_with fail
    go_ret
    exact ⟨rfl, HB6.out⟩

theorem masterBytes_contract (H : Type) (enc : TypeId × Value → H) (W : World) (base : Nat) (args : Array Value) (ds gs : List (DataW H)) (before : List MemPlace)
    (hval0 : ∀ (j : Nat) t v, Tryd.f3.params[j]? = some t → args[j]? = some v → Value.okWide Tryd.prog W .any base t v)
    (hW : DataW.Whole enc Tryd.prog Tryd.f3.params.toList Rows.masterBytesSpec.vars false W args.toList ds gs before) (hsz : (DataW.weightsEach Tryd.checked.prog (Tryd.f3.params.toList ++ Rows.masterBytesSpec.plain.varTypes Tryd.checked.prog) (ds ++ gs)).all (· ≤ reachBytes) = true) (hL : laidMetH Tryd.prog Rows.masterBytesRow.laid W) :
    Calls Tryd.prog 3 args W fun e W' => ∃ v, e = .returned v ∧ Rows.masterBytesSpec.post enc Tryd.prog Tryd.f3 false true false false W args v W' := by
  have hval : ∀ (j : Nat) t v, Tryd.f3.params[j]? = some t → args[j]? = some v → Value.okWide Tryd.prog W .any base t v := hval0
  have hW' := hW
  obtain ⟨p, q, hA0, hV, rfl, hfz, hnd⟩ := hW
  have hA : DataW.TrodAll enc Tryd.prog W 0 (fun _ => true) true Tryd.f3.params.toList args.toList ds p := hA0
  rw [Tryd.params3] at hA hval
  obtain ⟨v0, vs0, d0, ds0, p0, q0, hargs, rfl, rfl, h0, rr0⟩ := trodAll_cons hA
  obtain ⟨v1, vs1, d1, ds1, p1, q1, rfl, rfl, rfl, h1, rr1⟩ := trodAll_cons rr0
  obtain ⟨v2, vs2, d2, ds2, p2, q2, rfl, rfl, rfl, h2, rr2⟩ := trodAll_cons rr1
  obtain ⟨rfl, rfl, rfl⟩ := trodAll_nil rr2
  obtain rfl : args = #[v0, v1, v2] := by cases args; simp_all
  obtain ⟨rfl, rfl⟩ := trodVars_none hV
  obtain ⟨x0, rfl, rfl, rfl, w0⟩ := open_int Tryd.underlying3 (hval 0 3 v0 rfl rfl) h0
  have b0 := bounds_i64 w0
  obtain ⟨x1, rfl, rfl, rfl, w1⟩ := open_int Tryd.underlying3 (hval 1 3 v1 rfl rfl) h1
  have b1 := bounds_i64 w1
  obtain ⟨x2, rfl, rfl, rfl, w2⟩ := open_int Tryd.underlying3 (hval 2 3 v2 rfl rfl) h2
  have b2 := bounds_i64 w2
  clear hA0 hval0
  refine (masterBytes_any (tb_of hL) x0 x1 x2).mono fun e W' ⟨he, bel⟩ => ?_
  subst he
  exact ⟨_, rfl, _, _, _, [], _, [], hW', trodAll_mk1 (shut_bool Tryd.underlying4 _), (trodAll_cons_mk (shut_int Tryd.underlying3 w0) (trodAll_cons_mk (shut_int Tryd.underlying3 w1) (trodAll_cons_mk (shut_int Tryd.underlying3 w2) trodAll_mk0))), rfl, bel.frame _, fun h => by cases h⟩

theorem masterBytes_met (os : Os) : laidMet Tryd.prog Rows.masterBytesRow.laid ((laidWorld os).forCall (fun _ _ => 0) ⟨#[], #[.int .i64 0, .int .i64 0, .int .i64 0], []⟩).memory :=
  laidMet_of_run' 8 (by kernel_rfl) (by kernel_rfl)
theorem masterBytes_reads (os : Os) {H : Type} (enc : TypeId × Value → H) : ∃ places, DataW.whole enc Tryd.prog ((laidWorld os).forCall (fun _ _ => 0) ⟨#[], #[.int .i64 0, .int .i64 0, .int .i64 0], []⟩).memory Tryd.f3.params.toList Rows.masterBytesSpec.vars false (#[.int .i64 0, .int .i64 0, .int .i64 0] : Array Value).toList 8 = some ([.lit (.int .i64 0), .lit (.int .i64 0), .lit (.int .i64 0)], [], places) :=
  ⟨[], by kernel_rfl⟩

set_option maxRecDepth 100000 in
theorem masterBytes_lifted (os : Os) (started : os.Started) (H : Type) (enc : TypeId × Value → H) (F : Stop.Interp) :
    ReturnsInHanded {} Tryd.checked os 3 .any ((OpenSpec.ofChange Rows.masterBytesSpec).preRow enc Tryd.prog Tryd.f3 Rows.masterBytesRow.domain false Rows.masterBytesRow.laid) (((OpenSpec.ofChange Rows.masterBytesSpec).at F).post enc Tryd.prog Tryd.f3 false true false false) := by
  obtain ⟨places, hx⟩ := masterBytes_reads os enc
  refine returnsInHanded_of_row (C := Tryd.checked) (s := OpenSpec.ofChange Rows.masterBytesSpec) own_knob started (by kernel_rfl) Tryd.func3
    (witness_row_at (enc := enc) (C := Tryd.checked) false (laidWorld os) #[.int .i64 0, .int .i64 0, .int .i64 0] rfl (by kernel_rfl) (by kernel_rfl) (by kernel_rfl)
      (OpenSpec.preRow_of_cond 8 hx (by kernel_rfl) (fun k hk => by cases hk) (by kernel_rfl) (masterBytes_met os))) ?_
  intro W base args ds gs before hval hW _ hcond hsz hL _ _
  exact masterBytes_contract H enc W base args ds gs before hval hW hsz hL

theorem masterBytes_said : Rows.MasterBytesSaid :=
  OpenClaim.holds_of_cond 3 Tryd.f3 rfl rfl rfl rfl rfl rfl rfl ⟨rfl, rfl, rfl, rfl, rfl⟩ rfl rfl rfl rfl rfl (by kernel_rfl) Tryd.func3 (by kernel_rfl)
    (of_decide_eq_true (by kernel_rfl)) (by unfold Func.isWrapper; first | (rw [if_pos (by decide +kernel)]; kernel_rfl) | (rw [if_neg (by decide +kernel)]; exact ⟨rfl, rfl⟩))
    (fun os started H enc _ F => by rw [OpenClaim.pre_eq_preRow]; exact masterBytes_lifted os started H enc F)

theorem masterBytes_plain (f : FuncId) (fn : Func) (hf : Tryd.pinned.checked.prog.funcNamed "tidemark/tidemarklaw07.MasterBytes" = some f) (hfn : Tryd.pinned.checked.prog.funcs[f]? = some fn) :
    false = Tryd.pinned.checked.prog.looks [] ∧ ∀ (j : Nat) t, fn.params[j]? = some t → Tryd.pinned.checked.prog.wantsStandIn t = false := by
  obtain rfl : f = 3 := Option.some.inj ((show Tryd.prog.funcNamed "tidemark/tidemarklaw07.MasterBytes" = some 3 by kernel_rfl).symm.trans hf) |>.symm
  obtain rfl : fn = Tryd.f3 := (Option.some.inj (Tryd.func3.symm.trans hfn)).symm
  refine ⟨by kernel_rfl, fun j t ht => ?_⟩
  rw [Tryd.params3] at ht
  have hm := Array.mem_of_getElem? ht
  have : t = 3 := by simp at hm; first | exact hm | (rcases hm with hh | hh <;> simp [hh]) | (rcases hm with hh | hh | hh <;> simp [hh]) | (rcases hm with hh | hh | hh | hh <;> simp [hh]) | (rcases hm with hh | hh | hh | hh | hh <;> simp [hh]) | (rcases hm with hh | hh | hh | hh | hh | hh <;> simp [hh]) | (rcases hm with hh | hh | hh | hh | hh | hh | hh <;> simp [hh]) | (rcases hm with hh | hh | hh | hh | hh | hh | hh | hh <;> simp [hh])
  rcases this with rfl
  · exact (show Tryd.prog.wantsStandIn 3 = false by kernel_rfl)

theorem masterBytes_holds : Rows.MasterBytesCardSaid :=
  Claim7.holds_tied_plain_at .later [] _ _ _ _ masterBytes_said (fun _ h => by cases h) (by kernel_rfl) (fun _ h => by cases h) masterBytes_row_tie rfl ⟨rfl, rfl⟩ (by kernel_rfl) rfl masterBytes_plain (by kernel_rfl)
#print axioms masterBytes_holds
end Go.Proofs.YtgelgjghmoddoaaDoor
