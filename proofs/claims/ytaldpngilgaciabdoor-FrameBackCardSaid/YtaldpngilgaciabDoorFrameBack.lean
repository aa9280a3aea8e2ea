import Derived.Test.YtaldpngilgaciabDoorLaw8
import Derived.Test.YtaldpngilgaciabDoorDoor
import Derived.Test.YtaldpngilgaciabDoorLaw8b
/- FrameBack: the walk. -/
set_option linter.unusedVariables false
set_option linter.unusedSimpArgs false
namespace Go.Proofs.YtaldpngilgaciabDoor
open Go.RowKit Go.Tm Go.ChangeShapes Go.WideShapes Go.ChangeAt
set_option maxHeartbeats 400000
set_option maxRecDepth 100000

set_option maxHeartbeats 800000 in
theorem frameBack_any {w : World} (hT : Tb w) {A B : Option Addr} {n c m d : Nat} {l r : List UInt8} (h : Rda w A c l) (hr : Rda w B d r) (hn : n = l.length) (hm : m = r.length) (hl : r.length ≤ 140737488351232) (lsn0 other : Int) :
    Calls Tryd.prog 5 #[.int .i64 lsn0, .slice A n c, .slice B m d, .int .i64 other] w fun e w' => e = .returned (.bool true) ∧ Below w.heap.size w w' := by
  subst hn hm
  have HI := Lib.hid (into_any lsn0 1152921504606846976 (by omega) (by omega) w)
  obtain ⟨L, hL⟩ : ∃ L, lsn0 % 1152921504606846976 = L := ⟨_, rfl⟩
  have hL0 : 0 ≤ L := by omega
  have hL1 : L < 1152921504606846976 := by omega
  rw [hL] at HI
  clear hL
  have hok : okLsn (1 + L) = true := (okLsn_iff _).2 (by omega)
  have hbo := bodyL_ok l
  have HB := Lib.hid (bodied_any h rfl)
  obtain ⟨bd, hbd⟩ : ∃ bd, bodyL l = bd := ⟨_, rfl⟩
  rw [hbd] at HB hbo
  clear hbd h
  obtain ⟨hb0, hb1⟩ := (okBody_iff _).1 hbo
  have hfl := frameL_length (1 + L).toNat bd
  have hop := fun t => openB_frame (1 + L) bd t hok hbo
  have hot := fun t (hh : other ≠ 1 + L) => openB_other (1 + L) other bd t hok hbo hh
  have hsh := fun k (hk : k < _) => openB_short (lsn := 1 + L) (body := bd) hok hbo k hk
  have e1 : wrapE (1 + L) bd = 0 := by unfold wrapE; rw [if_neg (by rw [hbo]; decide), if_neg (by rw [hok]; decide)]
  have e2 : wrapV (1 + L) bd = frameL (1 + L).toNat bd := if_pos e1
  have hsz := sizeF_ok bd.length hbo
  have HW := fun (w1 : World) (T1 : Tb w1) (A1 : Option Addr) (c1 : Nat) (h1 : Rda w1 A1 c1 bd) => wrap_any (n := bd.length) T1 h1 rfl (by omega) (1 + L)
  rw [e1, e2] at HW
  obtain ⟨f, hf⟩ : ∃ f, frameL (1 + L).toNat bd = f := ⟨_, rfl⟩
  rw [hf] at hfl hop hot hsh HW
  rw [hfl] at HW hsh
  have HW' := Lib.hid HW
  have Hop := Lib.hid hop
  have Hot := Lib.hid hot
  have Hsh := Lib.hid hsh
  have Hsz := Lib.hid hsz
  have Hfl := Lib.hid hfl
  clear hf HW hop hot hsh e1 e2 hok hbo hsz hfl
  go_enter Tryd.func5, Tryd.ntmps5
  go_wp2_with fail
  refine HI.out.mono ?_
  rintro e w1 ⟨rfl, rfl⟩
  go_wp2_with fail
  refine HB.out.mono ?_
  rintro e w1 ⟨A1, c1, rfl, h1, b1⟩
  go_wp2_with fail
  refine (HW'.out _ (hT.below b1) _ _ h1).mono ?_
  rintro e w2 ⟨A2, c2, rfl, hN2⟩
  have b2 := below_then b1 hN2.below
  have h2 := h1.below hN2.below
  have f2 := hN2.rda
  have g2 := hr.below b2
  have T2 := hT.below b2
  clear h1 hN2 b1 hT hr HB HI HW'
  go_wp2_with fail
  have P3 := size_any (bd.length : Int) (by omega) w2
  rw [Hsz.out] at P3
  refine P3.mono ?_
  clear P3
  rintro e w3 ⟨rfl, rfl⟩
  go_wp2_with fail
  refine (known_any T2).mono ?_
  rintro e w3 ⟨rfl, b3'⟩
  have b3 := below_then b2 b3'
  have h3 := h2.below b3'
  have f3 := f2.below b3'
  have g3 := g2.below b3'
  have T3 := T2.below b3'
  clear h2 f2 g2 T2 b2 b3'
  have hnil := Own8.nilRow w3 w3.heap.size 5
  go_wp2_with (at_builtin; refine wpList_app (l := []) (m := f) _ rfl _ _ rfl tU8 rfl hnil rfl Hfl.out.symm f3 (by rw [Hfl.out]; simp; omega) (Nat.le_refl _) ?_)
  intro v4 w4 o4 hg4
  have b4' : Below w3.heap.size w3 w4 := hnil.grown hg4 (Below.refl _ _) (Nat.le_refl _) (Nat.le_refl _)
  have h4 := h3.below b4'
  have f4 := f3.below b4'
  have g4 := g3.below b4'
  go_wp2_with (at_builtin; refine wpList_app (l := f) (m := r) _ rfl _ _ rfl tU8 rfl o4 rfl rfl g4 (by rw [Hfl.out]; omega) b4'.size ?_)
  intro v5 w5 o5 hg5
  have hopx := Hop.out r
  have hotx := Hot.out r
  have hxl : (f ++ r).length ≤ 140737488355328 := by rw [List.length_append, Hfl.out]; omega
  obtain ⟨x, hx⟩ : ∃ x, f ++ r = x := ⟨_, rfl⟩
  rw [hx] at o5 hopx hotx hxl
  have Hotx := Lib.hid hotx
  have Hxl := Lib.hid hxl
  clear hx hotx hxl
  have b5' : Below w3.heap.size w3 w5 := o4.grown hg5 b4' b4'.size (Nat.le_refl _)
  obtain ⟨A5, c5, rfl, x5⟩ := own_rda o5
  have b5 := below_then b3 b5'
  have h5 := h3.below b5'
  have f5 := f3.below b5'
  have T5 := T3.below b5'
  clear h3 f3 g3 T3 h4 f4 g4 o4 o5 hg4 hg5 b4' b5' b3 hnil
  go_wp2_with fail
  have P6 := open_any T5 x5 rfl Hxl.out (1 + L)
  obtain ⟨q1, q2, q3⟩ := open_some hopx
  have Hopx := Lib.hid hopx
  clear hopx
  rw [q1, q2, q3] at P6
  refine P6.mono ?_
  clear P6 q1 q2 q3
  rintro e w6 ⟨A6, c6, rfl, hN6⟩
  have b6 := below_then b5 hN6.below
  have h6 := h5.below hN6.below
  have f6 := f5.below hN6.below
  have x6 := x5.below hN6.below
  have y6 := hN6.rda
  have T6 := T5.below hN6.below
  clear h5 f5 x5 T5 hN6 b5
  go_wp2_with fail
  refine (same_yes y6 h6 rfl rfl rfl).mono ?_
  rintro e w7 ⟨rfl, rfl⟩
  go_wp2_with fail
  have P8 : ∃ (V : List UInt8) (N E : Int), (E == 0) = (other == 1 + L) ∧ (N == (bd.length : Int) + 16) = (other == 1 + L) ∧
      Calls Tryd.prog 15 #[.slice A5 x.length c5, .int .i64 other] w6 fun e w' => ∃ A' c', e = .returned (.tuple #[.slice A' V.length c', .int .i64 N, .int .i64 E]) ∧ New 5 w6 w' A' c' V := by
    have := open_any T6 x6 rfl Hxl.out other
    refine ⟨_, _, _, ?_, ?_, this⟩
    · by_cases ho : other = 1 + L
      · rw [ho, (open_some Hopx.out).2.2]; simp
      · rw [(open_none (Hotx.out ho)).2.2, beq_eq_false_iff_ne.2 ho]; rfl
    · by_cases ho : other = 1 + L
      · rw [ho, (open_some Hopx.out).2.1]; simp
      · rw [(open_none (Hotx.out ho)).2.1, beq_eq_false_iff_ne.2 ho, beq_eq_false_iff_ne]; omega
  obtain ⟨V, N, E, hE, hN, P8⟩ := P8
  refine P8.mono ?_
  clear P8
  rintro e w8 ⟨A8, c8, rfl, hN8⟩
  have b8 := below_then b6 hN8.below
  have f8 := f6.below hN8.below
  have T8 := T6.below hN8.below
  clear h6 f6 x6 T6 y6 hN8 b6
  go_wp2_with fail
  clear hE hN
  go_loopw [18] (fun i wr => ∃ k : Nat, k ≤ 3000 ∧ i = .int .i64 k ∧ Below w.heap.size w wr ∧ Rda wr A2 c2 f ∧ Tb wr) (fun i _ => 3001 - (intOf i).toNat)
  case atStart => exact ⟨0, by omega, rfl, b8, f8, T8⟩
  case round =>
    obtain ⟨k, hk, rfl, b9, f9, T9⟩ := hrel
    by_cases hlt : k < bd.length + 16
    · have hlt' : (k : Int) < (bd.length : Int) + 16 := by omega
      have hkc : (k : Int) ≤ (c2 : Int) := by have := f9.cap; rw [Hfl.out] at this; omega
      obtain ⟨z1, z2, z3⟩ := open_none (Hsh.out k (by omega))
      have PZ := open_any (n := k) T9 (f9.take k (by rw [Hfl.out]; omega)) (by simp [Hfl.out]; omega) (by simp [Hfl.out]; omega) (1 + L)
      rw [z1, z2, z3] at PZ
      have PZ' := Lib.hid PZ
      have HLT := Lib.hid hlt
      clear PZ z1 z2 z3 hlt
      go_wp2_with fail
      refine PZ'.out.mono ?_
      rintro e w10 ⟨A10, c10, rfl, hN10⟩
      have b10 := below_then b9 hN10.below
      have f10 := f9.below hN10.below
      have T10 := T9.below hN10.below
      clear PZ'
      go_wp2_with fail
      go_roundw
      case rel => exact ⟨k + 1 + k / 9, by have := HLT.out; omega, by go_num, b10, f10, T10⟩
      case measure => simp [intOf]; have := HLT.out; omega
    · have hge : (bd.length : Int) + 16 ≤ (k : Int) := by omega
      have hkc : (bd.length : Int) + 16 - 1 ≤ (c2 : Int) := by have := f9.cap; rw [Hfl.out] at this; omega
      have hk0 : (0 : Int) ≤ (bd.length : Int) + 16 - 1 := by omega
      obtain ⟨z1, z2, z3⟩ := open_none (Hsh.out (bd.length + 15) (by omega))
      have PZ := open_any (n := bd.length + 15) T9 (f9.take (bd.length + 15) (by rw [Hfl.out]; omega)) (by simp [Hfl.out]) (by simp [Hfl.out]; omega) (1 + L)
      rw [z1, z2, z3] at PZ
      have PZ' := Lib.hid PZ
      clear PZ z1 z2 z3 hlt
      go_wp2_with fail
      refine PZ'.out.mono ?_
      rintro e w10 ⟨A10, c10, rfl, hN10⟩
      have b10 := below_then b9 hN10.below
      go_wp2_with fail
      go_ret
      exact ⟨rfl, b10⟩

theorem frameBack_contract (H : Type) (enc : TypeId × Value → H) (W : World) (base : Nat) (args : Array Value) (ds gs : List (DataW H)) (before : List MemPlace)
    (hval0 : ∀ (j : Nat) t v, Tryd.f5.params[j]? = some t → args[j]? = some v → Value.okWide Tryd.prog W .any base t v)
    (hW : DataW.Whole enc Tryd.prog Tryd.f5.params.toList Rows.frameBackSpec.vars false W args.toList ds gs before) (hsz : (DataW.weightsEach Tryd.checked.prog (Tryd.f5.params.toList ++ Rows.frameBackSpec.plain.varTypes Tryd.checked.prog) (ds ++ gs)).all (· ≤ reachBytes) = true) (hL : laidMetH Tryd.prog Rows.frameBackRow.laid W) :
    Calls Tryd.prog 5 args W fun e W' => ∃ v, e = .returned v ∧ Rows.frameBackSpec.post enc Tryd.prog Tryd.f5 false true false false W args v W' := by
  have hval : ∀ (j : Nat) t v, Tryd.f5.params[j]? = some t → args[j]? = some v → Value.okWide Tryd.prog W .any base t v := hval0
  have hW' := hW
  obtain ⟨p, q, hA0, hV, rfl, hfz, hnd⟩ := hW
  have hA : DataW.TrodAll enc Tryd.prog W 0 (fun _ => true) true Tryd.f5.params.toList args.toList ds p := hA0
  rw [Tryd.params5] at hA hval
  obtain ⟨v0, vs0, d0, ds0, p0, q0, hargs, rfl, rfl, h0, rr0⟩ := trodAll_cons hA
  obtain ⟨v1, vs1, d1, ds1, p1, q1, rfl, rfl, rfl, h1, rr1⟩ := trodAll_cons rr0
  obtain ⟨v2, vs2, d2, ds2, p2, q2, rfl, rfl, rfl, h2, rr2⟩ := trodAll_cons rr1
  obtain ⟨v3, vs3, d3, ds3, p3, q3, rfl, rfl, rfl, h3, rr3⟩ := trodAll_cons rr2
  obtain ⟨rfl, rfl, rfl⟩ := trodAll_nil rr3
  obtain rfl : args = #[v0, v1, v2, v3] := by cases args; simp_all
  obtain ⟨rfl, rfl⟩ := trodVars_none hV
  obtain ⟨x0, rfl, rfl, rfl, w0⟩ := open_int Tryd.underlying3 (hval 0 3 v0 rfl rfl) h0
  have b0 := bounds_i64 w0
  obtain ⟨a1, len1, cap1, rfl⟩ := okWide_slice Tryd.underlying22 (hval 1 22 v1 rfl rfl)
  have k1 := h1
  have lt1 : ∀ x ∈ p1, x.block < W.heap.size := by obtain ⟨m, hm⟩ := k1; exact DataW.trod_lt m _ _ _ hm
  obtain ⟨l1, n1, r1, dd1⟩ : ∃ l : List UInt8, len1 = l.length ∧ Rda W a1 cap1 l ∧ RowOf d1 l := by
    obtain ⟨fuel, hf⟩ := h1
    obtain ⟨A, l, c, hv, hr, hx⟩ := open_bytes tU8 (by kernel_rfl) (by simpa [Value.cells] using hf)
    obtain ⟨rfl, rfl, rfl⟩ : a1 = A ∧ len1 = l.length ∧ cap1 = c := by simpa using hv
    exact ⟨l, rfl, hr, hx⟩
  obtain ⟨a2, len2, cap2, rfl⟩ := okWide_slice Tryd.underlying22 (hval 2 22 v2 rfl rfl)
  have k2 := h2
  have lt2 : ∀ x ∈ p2, x.block < W.heap.size := by obtain ⟨m, hm⟩ := k2; exact DataW.trod_lt m _ _ _ hm
  obtain ⟨l2, n2, r2, dd2⟩ : ∃ l : List UInt8, len2 = l.length ∧ Rda W a2 cap2 l ∧ RowOf d2 l := by
    obtain ⟨fuel, hf⟩ := h2
    obtain ⟨A, l, c, hv, hr, hx⟩ := open_bytes tU8 (by kernel_rfl) (by simpa [Value.cells] using hf)
    obtain ⟨rfl, rfl, rfl⟩ : a2 = A ∧ len2 = l.length ∧ cap2 = c := by simpa using hv
    exact ⟨l, rfl, hr, hx⟩
  obtain ⟨x3, rfl, rfl, rfl, w3⟩ := open_int Tryd.underlying3 (hval 3 3 v3 rfl rfl) h3
  have b3 := bounds_i64 w3
  have s1 : l1.length ≤ 140737488351232 := by
    rcases dd1 with ⟨_, h⟩ | ⟨zs, sp, hd, hl⟩
    · rw [h]; simp
    · subst hd
      have := sized_slice hsz (j := 1) (t := 22) (e := 5) rfl rfl Tryd.underlying22
      rw [show Tryd.checked.prog.bytesOf 5 = 1 from by kernel_rfl] at this
      unfold lits at this
      simp only [List.length_map] at this
      have h47 : reachBytes ≤ 140737488351232 := by decide
      omega
  have s2 : l2.length ≤ 140737488351232 := by
    rcases dd2 with ⟨_, h⟩ | ⟨zs, sp, hd, hl⟩
    · rw [h]; simp
    · subst hd
      have := sized_slice hsz (j := 2) (t := 22) (e := 5) rfl rfl Tryd.underlying22
      rw [show Tryd.checked.prog.bytesOf 5 = 1 from by kernel_rfl] at this
      unfold lits at this
      simp only [List.length_map] at this
      have h47 : reachBytes ≤ 140737488351232 := by decide
      omega
  clear hA0 hval0
  refine (frameBack_any (tb_of hL) r1 r2 n1 n2 (by omega) x0 x3).mono fun e W' ⟨he, bel⟩ => ?_
  subst he
  exact ⟨_, rfl, _, _, _, [], _, [], hW', trodAll_mk1 (shut_bool Tryd.underlying4 _), (trodAll_cons_mk (shut_int Tryd.underlying3 w0) (trodAll_cons_mk (Below.trod laid_out (by kernel_rfl) (of_decide_eq_true (by kernel_rfl)) k1 bel lt1) (trodAll_cons_mk (Below.trod laid_out (by kernel_rfl) (of_decide_eq_true (by kernel_rfl)) k2 bel lt2) (trodAll_cons_mk (shut_int Tryd.underlying3 w3) trodAll_mk0)))), rfl, bel.frame _, fun h => by cases h⟩

theorem frameBack_met (os : Os) : laidMet Tryd.prog Rows.frameBackRow.laid ((laidWorld os).forCall (fun _ _ => 0) ⟨#[], #[.int .i64 0, .slice none 0 0, .slice none 0 0, .int .i64 0], []⟩).memory :=
  laidMet_of_run' 8 (by kernel_rfl) (by kernel_rfl)
theorem frameBack_reads (os : Os) {H : Type} (enc : TypeId × Value → H) : ∃ places, DataW.whole enc Tryd.prog ((laidWorld os).forCall (fun _ _ => 0) ⟨#[], #[.int .i64 0, .slice none 0 0, .slice none 0 0, .int .i64 0], []⟩).memory Tryd.f5.params.toList Rows.frameBackSpec.vars false (#[.int .i64 0, .slice none 0 0, .slice none 0 0, .int .i64 0] : Array Value).toList 8 = some ([.lit (.int .i64 0), .nil, .nil, .lit (.int .i64 0)], [], places) :=
  ⟨[], by kernel_rfl⟩

set_option maxRecDepth 100000 in
theorem frameBack_lifted (os : Os) (started : os.Started) (H : Type) (enc : TypeId × Value → H) (F : Stop.Interp) :
    ReturnsInHanded {} Tryd.checked os 5 .any ((OpenSpec.ofChange Rows.frameBackSpec).preRow enc Tryd.prog Tryd.f5 Rows.frameBackRow.domain false Rows.frameBackRow.laid) (((OpenSpec.ofChange Rows.frameBackSpec).at F).post enc Tryd.prog Tryd.f5 false true false false) := by
  obtain ⟨places, hx⟩ := frameBack_reads os enc
  refine returnsInHanded_of_row (C := Tryd.checked) (s := OpenSpec.ofChange Rows.frameBackSpec) own_knob started (by kernel_rfl) Tryd.func5
    (witness_row_at (enc := enc) (C := Tryd.checked) false (laidWorld os) #[.int .i64 0, .slice none 0 0, .slice none 0 0, .int .i64 0] rfl (by kernel_rfl) (by kernel_rfl) (by kernel_rfl)
      (OpenSpec.preRow_of_cond 8 hx (by kernel_rfl) (fun k hk => by cases hk) (by kernel_rfl) (frameBack_met os))) ?_
  intro W base args ds gs before hval hW _ hcond hsz hL _ _
  exact frameBack_contract H enc W base args ds gs before hval hW hsz hL

theorem frameBack_said : Rows.FrameBackSaid :=
  OpenClaim.holds_of_cond 5 Tryd.f5 rfl rfl rfl rfl rfl rfl rfl ⟨rfl, rfl, rfl, rfl, rfl⟩ rfl rfl rfl rfl rfl (by kernel_rfl) Tryd.func5 (by kernel_rfl)
    (of_decide_eq_true (by kernel_rfl)) (by unfold Func.isWrapper; first | (rw [if_pos (by decide +kernel)]; kernel_rfl) | (rw [if_neg (by decide +kernel)]; exact ⟨rfl, rfl⟩))
    (fun os started H enc _ F => by rw [OpenClaim.pre_eq_preRow]; exact frameBack_lifted os started H enc F)

theorem frameBack_plain (f : FuncId) (fn : Func) (hf : Tryd.pinned.checked.prog.funcNamed "tidemark/tidemarklaw08.FrameBack" = some f) (hfn : Tryd.pinned.checked.prog.funcs[f]? = some fn) :
    false = Tryd.pinned.checked.prog.looks [] ∧ ∀ (j : Nat) t, fn.params[j]? = some t → Tryd.pinned.checked.prog.wantsStandIn t = false := by
  obtain rfl : f = 5 := Option.some.inj ((show Tryd.prog.funcNamed "tidemark/tidemarklaw08.FrameBack" = some 5 by kernel_rfl).symm.trans hf) |>.symm
  obtain rfl : fn = Tryd.f5 := (Option.some.inj (Tryd.func5.symm.trans hfn)).symm
  refine ⟨by kernel_rfl, fun j t ht => ?_⟩
  rw [Tryd.params5] at ht
  have hm := Array.mem_of_getElem? ht
  have : t = 22∨t = 3 := by simp at hm; first | exact hm | (rcases hm with hh | hh <;> simp [hh]) | (rcases hm with hh | hh | hh <;> simp [hh]) | (rcases hm with hh | hh | hh | hh <;> simp [hh]) | (rcases hm with hh | hh | hh | hh | hh <;> simp [hh]) | (rcases hm with hh | hh | hh | hh | hh | hh <;> simp [hh]) | (rcases hm with hh | hh | hh | hh | hh | hh | hh <;> simp [hh]) | (rcases hm with hh | hh | hh | hh | hh | hh | hh | hh <;> simp [hh])
  rcases this with rfl|rfl
  · exact (show Tryd.prog.wantsStandIn 22 = false by kernel_rfl)
  · exact (show Tryd.prog.wantsStandIn 3 = false by kernel_rfl)

theorem frameBack_holds : Rows.FrameBackCardSaid :=
  Claim7.holds_tied_plain_at .later [] _ _ _ _ frameBack_said (fun _ h => by cases h) (by kernel_rfl) (fun _ h => by cases h) frameBack_row_tie rfl ⟨rfl, rfl⟩ (by kernel_rfl) rfl frameBack_plain (by kernel_rfl)
#print axioms frameBack_holds
end Go.Proofs.YtaldpngilgaciabDoor
