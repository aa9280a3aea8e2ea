import Derived.Test.YtaldpngilgaciabDoorLaw8
import Derived.Test.YtaldpngilgaciabDoorDoor
import Derived.Test.YtaldpngilgaciabDoorLaw8b
import Derived.Deep.RegionHeld3
import Derived.Deep.DrawnRows
/- FrameForm: the walk. -/
set_option linter.unusedVariables false
set_option linter.unusedSimpArgs false
namespace Go.Proofs.YtaldpngilgaciabDoor
open Go.RowKit Go.Tm Go.ChangeShapes Go.WideShapes Go.ChangeAt
set_option maxHeartbeats 400000
set_option maxRecDepth 100000

/-- What FrameForm asks of one list and one LSN. -/
structure FormRow (w : World) (g g2 k : Nat) (Ax : Option Addr) (cx : Nat) (x : List UInt8) (y : Int) : Prop where
  c1 : w.cell? ⟨g, k, none⟩ = some (.slice Ax x.length cx)
  c2 : w.cell? ⟨g2, k, none⟩ = some (.int .i64 y)
  rd : Rda w Ax cx x
  len : x.length ≤ 140737488355328
  none_ : openB x y = none → k = 0
theorem FormRow.below {w w' : World} {g g2 k : Nat} {Ax : Option Addr} {cx : Nat} {x : List UInt8} {y : Int} (h : FormRow w g g2 k Ax cx x y) (hb : Below w.heap.size w w') : FormRow w' g g2 k Ax cx x y :=
  ⟨(hb.cell (p := ⟨g, k, none⟩) (World.block_lt_of_cell? _ _ h.c1)).trans h.c1, (hb.cell (p := ⟨g2, k, none⟩) (World.block_lt_of_cell? _ _ h.c2)).trans h.c2, h.rd.below hb, h.len, h.none_⟩

attribute [local go_sem ↓] Go.wp_at_zero Go.wp_at_succ
set_option maxHeartbeats 800000 in
theorem frameForm_any {w : World} (hT : Tb w) {A : Option Addr} {n c : Nat} {l : List UInt8} (h : Rda w A c l) (hn : n = l.length) (hl : l.length ≤ 140737488351232) (lsn : Int) :
    Calls Tryd.prog 7 #[.slice A n c, .int .i64 lsn] w fun e w' => e = .returned (.bool true) ∧ Below w.heap.size w w' := by
  subst hn
  have HI := Lib.hid (into_any lsn 1152921504606846976 (by omega) (by omega) w)
  obtain ⟨L, hL⟩ : ∃ L, lsn % 1152921504606846976 = L := ⟨_, rfl⟩
  have hL0 : 0 ≤ L := by omega
  have hL1 : L < 1152921504606846976 := by omega
  rw [hL] at HI
  clear hL
  have hok : okLsn (1 + L) = true := (okLsn_iff _).2 (by omega)
  have hbo := bodyL_ok l
  have HB := Lib.hid (bodied_any h rfl)
  obtain ⟨bd, hbd⟩ : ∃ bd, bodyL l = bd := ⟨_, rfl⟩
  rw [hbd] at HB hbo
  clear hbd
  obtain ⟨hb0, hb1⟩ := (okBody_iff _).1 hbo
  have hfl := frameL_length (1 + L).toNat bd
  have hop := openB_frame (1 + L) bd [] hok hbo
  have e1 : wrapE (1 + L) bd = 0 := by unfold wrapE; rw [if_neg (by rw [hbo]; decide), if_neg (by rw [hok]; decide)]
  have e2 : wrapV (1 + L) bd = frameL (1 + L).toNat bd := if_pos e1
  have HW := fun (w1 : World) (T1 : Tb w1) (A1 : Option Addr) (c1 : Nat) (h1 : Rda w1 A1 c1 bd) => wrap_any (n := bd.length) T1 h1 rfl (by omega) (1 + L)
  rw [e1, e2] at HW
  rw [List.append_nil] at hop
  obtain ⟨f, hf⟩ : ∃ f, frameL (1 + L).toNat bd = f := ⟨_, rfl⟩
  rw [hf] at hfl hop HW
  have HW' := Lib.hid HW
  have Hop := Lib.hid hop
  have Hfl := Lib.hid hfl
  clear hf HW hop e1 e2 hok hbo hfl
  go_enter Tryd.func7, Tryd.ntmps7
  go_wp2_with fail
  refine HI.out.mono ?_
  rintro e w1 ⟨rfl, rfl⟩
  go_wp2_with fail
  refine HB.out.mono ?_
  rintro e w1 ⟨A1, c1, rfl, h1, b1⟩
  go_wp2_with fail
  refine (HW'.out _ (hT.below b1) _ _ h1).mono ?_
  rintro e w2 ⟨A2, c2, rfl, hN2⟩
  have b2 := below_then b1 hN2.below
  have f2 := hN2.rda
  clear hN2 HB HI HW'
  go_wp2_with fail
  refine (known_any (hT.below b2)).mono ?_
  rintro e w3 ⟨rfl, b3'⟩
  have b3 := below_then b2 b3'
  have f3 := f2.below b3'
  have h3 := h.below b3
  clear h f2 b3' b2 h1 b1
  have hz3 := b3.size
  have R0 : FormRow ((w3.alloc (.cells #[.slice A l.length c, .slice A2 f.length c2] 22)).alloc (.cells #[.int .i64 lsn, .int .i64 (1 + L)] 3)) w3.heap.size (w3.heap.size + 1) 0 A c l lsn :=
    ⟨by rw [World.cell?_alloc_lt _ _ _ (by simp), World.cell?_alloc_at _ _ _ _ rfl]; rfl, by rw [World.cell?_alloc_at _ _ _ _ (by simp)]; rfl, (h3.alloc _).alloc _, by omega, fun _ => rfl⟩
  have R1 : FormRow ((w3.alloc (.cells #[.slice A l.length c, .slice A2 f.length c2] 22)).alloc (.cells #[.int .i64 lsn, .int .i64 (1 + L)] 3)) w3.heap.size (w3.heap.size + 1) 1 A2 c2 f (1 + L) :=
    ⟨by rw [World.cell?_alloc_lt _ _ _ (by simp), World.cell?_alloc_at _ _ _ _ rfl]; rfl, by rw [World.cell?_alloc_at _ _ _ _ (by simp)]; rfl, (f3.alloc _).alloc _, by rw [Hfl.out]; omega, fun hh => by rw [Hop.out] at hh; cases hh⟩
  have b4 := (b3.alloc b3.size (.cells #[.slice A l.length c, .slice A2 f.length c2] 22)).alloc (by simp; omega) (.cells #[.int .i64 lsn, .int .i64 (1 + L)] 3)
  have RR : ∀ k, k < 2 → ∃ Ax cx x y, FormRow ((w3.alloc (.cells #[.slice A l.length c, .slice A2 f.length c2] 22)).alloc (.cells #[.int .i64 lsn, .int .i64 (1 + L)] 3)) w3.heap.size (w3.heap.size + 1) k Ax cx x y := by
    intro k hk
    have : k = 0 ∨ k = 1 := by omega
    rcases this with rfl | rfl
    · exact ⟨_, _, _, _, R0⟩
    · exact ⟨_, _, _, _, R1⟩
  have RH := Lib.hid RR
  clear R0 R1 RR f3 h3
  go_wp2_with fail
  generalize hW4 : (w3.alloc (.cells #[.slice A l.length c, .slice A2 f.length c2] 22)).alloc (.cells #[.int .i64 lsn, .int .i64 (1 + L)] 3) = w4 at RH b4 ⊢
  clear hW4
  go_loopw [10] (fun i wr => ∃ k : Nat, k ≤ 2 ∧ i = .int .i64 k ∧ Below w4.heap.size w4 wr) (fun i _ => 2 - (intOf i).toNat)
  case atStart => exact ⟨0, by omega, rfl, Below.refl _ _⟩
  case round =>
    obtain ⟨k, hk, rfl, b5⟩ := hrel
    by_cases hkt : k < 2
    · obtain ⟨Ax, cx, x, y, hR⟩ := RH.out k hkt
      have hR5 := (hR.below b5).below (below_drew1 (Below.refl _ wr))
      have hc1 := (hR.below b5).c1
      have hc2 := (hR.below b5).c2
      have b4' := b4
      clear hR
      have hTr : ∀ d, Tb (wr.drewN d) := fun d => (hT.below (b4.trans (b5.mono b4.size))).below (drewN_below wr d)
      have hRr : ∀ d, Rda (wr.drewN d) Ax cx x := fun d => hR5.rd.kept fun b o e j v hj => hj
      have hlx := hR5.len
      have hnone := Lib.hid hR5.none_
      have hcapx := hR5.rd.cap
      have HT' := Lib.hid hTr
      have HR' := Lib.hid hRr
      have p0 : (0 : Int) ≤ (k : Int) := by omega
      have p2 : (k : Int) < 2 := by omega
      clear hTr hRr hR5
      go_wp2_with fail
      go_region_held3 (fun w' => w'.cell? ⟨w3.heap.size, k, none⟩ = some (.slice Ax x.length cx) ∧ w'.cell? ⟨w3.heap.size + 1, k, none⟩ = some (.int .i64 y)) (first | go_keep | exact ⟨hs1, hs2⟩)
        (first | (go_at_call 15; refine (open_any (HT'.out 1) (HR'.out 1) rfl hlx y).mono ?_; rintro e w8 ⟨A8, c8, rfl, hN8⟩; have hs1 := (hN8.below.cell (p := ⟨w3.heap.size, k, none⟩) (World.block_lt_of_cell? _ _ hc1)).trans hc1; have hs2 := (hN8.below.cell (p := ⟨w3.heap.size + 1, k, none⟩) (World.block_lt_of_cell? _ _ hc2)).trans hc2))
      have hN8b := below_then (drewN_below wr 1) hN8.below
      have b8' := below_then b5 hN8b
      have b8 := below_then b4 b8'
      cases hO : openB x y with
      | none =>
        obtain ⟨q1, q2, q3⟩ := open_none hO
        rw [q1, q2, q3]
        obtain rfl := hnone.out hO
        clear q1 q2 q3 hO HT' HR' hN8 hN8b
        go_wp2_with fail
        go_roundw
        case rel => exact ⟨0 + 1, by omega, by go_num, b8'⟩
        case measure => simp [intOf]
      | some body =>
        obtain ⟨q1, q2, q3⟩ := open_some hO
        obtain ⟨o1, o2, r, o3⟩ := openB_some hO
        have w1' : wrapE y body = 0 := by unfold wrapE; rw [if_neg (by rw [o2]; decide), if_neg (by rw [o1]; decide)]
        have w2' : wrapV y body = frameL y.toNat body := if_pos w1'
        have hfl := frameL_length y.toNat body
        have hK8 := hN8.rda
        have hX8 := (HR'.out 0).kept (w' := w8) (fun b o e j v hj => (hN8.below.cell (p := ⟨b, j, none⟩) (World.block_lt_of_cell? _ _ hj)).trans hj)
        have hbb := (okBody_iff _).1 o2
        have PW := wrap_any (n := body.length) (hT.below b8) (by rw [q1] at hK8; exact hK8) rfl (by omega) y
        rw [w1', w2', hfl] at PW
        rw [q1, q2, q3]
        have hxt : x.take (body.length + 16) = frameL y.toNat body := by rw [o3]; exact List.take_left' hfl
        have hxl : body.length + 16 ≤ x.length := by rw [o3, List.length_append, hfl]; omega
        have HXT := Lib.hid hxt
        have PW' := Lib.hid PW
        obtain ⟨F, hF⟩ : ∃ F, frameL y.toNat body = F := ⟨_, rfl⟩
        rw [hF] at HXT PW' hfl
        have HFL := Lib.hid hfl
        clear q1 q2 q3 hO HT' HR' hN8 hN8b o1 o2 o3 w1' w2' hxt PW hF hfl hnone hK8
        go_wp2_with fail
        refine PW'.out.mono ?_
        rintro e w9 ⟨A9, c9, rfl, hN9⟩
        have hs3 := (hN9.below.cell (p := ⟨w3.heap.size, k, none⟩) (World.block_lt_of_cell? _ _ hs1)).trans hs1
        have hX9 := hX8.below hN9.below
        have b9 := below_then b8' hN9.below
        have hK9 := hN9.rda
        have p6 : (body.length : Int) + 16 ≤ (x.length : Int) := by omega
        have p7 : (body.length : Int) + 16 ≤ (cx : Int) := by omega
        clear hN9 PW' hs1 hs2 hX8
        go_wp2_with fail
        refine (same_yes hK9 (hX9.take (body.length + 16) hxl) HFL.out.symm (by rw [List.length_take]; omega) HXT.out.symm).mono ?_
        rintro e w10 ⟨rfl, rfl⟩
        go_wp2_with fail
        go_roundw
        case rel => exact ⟨k + 1, by omega, by go_num, b9⟩
        case measure => simp [intOf]; omega
    · have he : k = 2 := by omega
      subst he
      go_wp2_with fail
      go_ret
      exact ⟨rfl, b4.trans (b5.mono b4.size)⟩

theorem frameForm_contract (H : Type) (enc : TypeId × Value → H) (W : World) (base : Nat) (args : Array Value) (ds gs : List (DataW H)) (before : List MemPlace)
    (hval0 : ∀ (j : Nat) t v, Tryd.f7.params[j]? = some t → args[j]? = some v → Value.okWide Tryd.prog W .any base t v)
    (hW : DataW.Whole enc Tryd.prog Tryd.f7.params.toList Rows.frameFormSpec.vars false W args.toList ds gs before) (hsz : (DataW.weightsEach Tryd.checked.prog (Tryd.f7.params.toList ++ Rows.frameFormSpec.plain.varTypes Tryd.checked.prog) (ds ++ gs)).all (· ≤ reachBytes) = true) (hL : laidMetH Tryd.prog Rows.frameFormRow.laid W) :
    Calls Tryd.prog 7 args W fun e W' => ∃ v, e = .returned v ∧ Rows.frameFormSpec.post enc Tryd.prog Tryd.f7 false true false false W args v W' := by
  have hval : ∀ (j : Nat) t v, Tryd.f7.params[j]? = some t → args[j]? = some v → Value.okWide Tryd.prog W .any base t v := hval0
  have hW' := hW
  obtain ⟨p, q, hA0, hV, rfl, hfz, hnd⟩ := hW
  have hA : DataW.TrodAll enc Tryd.prog W 0 (fun _ => true) true Tryd.f7.params.toList args.toList ds p := hA0
  rw [Tryd.params7] at hA hval
  obtain ⟨v0, vs0, d0, ds0, p0, q0, hargs, rfl, rfl, h0, rr0⟩ := trodAll_cons hA
  obtain ⟨v1, vs1, d1, ds1, p1, q1, rfl, rfl, rfl, h1, rr1⟩ := trodAll_cons rr0
  obtain ⟨rfl, rfl, rfl⟩ := trodAll_nil rr1
  obtain rfl : args = #[v0, v1] := by cases args; simp_all
  obtain ⟨rfl, rfl⟩ := trodVars_none hV
  obtain ⟨a0, len0, cap0, rfl⟩ := okWide_slice Tryd.underlying22 (hval 0 22 v0 rfl rfl)
  have k0 := h0
  have lt0 : ∀ x ∈ p0, x.block < W.heap.size := by obtain ⟨m, hm⟩ := k0; exact DataW.trod_lt m _ _ _ hm
  obtain ⟨l0, n0, r0, dd0⟩ : ∃ l : List UInt8, len0 = l.length ∧ Rda W a0 cap0 l ∧ RowOf d0 l := by
    obtain ⟨fuel, hf⟩ := h0
    obtain ⟨A, l, c, hv, hr, hx⟩ := open_bytes tU8 (by kernel_rfl) (by simpa [Value.cells] using hf)
    obtain ⟨rfl, rfl, rfl⟩ : a0 = A ∧ len0 = l.length ∧ cap0 = c := by simpa using hv
    exact ⟨l, rfl, hr, hx⟩
  obtain ⟨x1, rfl, rfl, rfl, w1⟩ := open_int Tryd.underlying3 (hval 1 3 v1 rfl rfl) h1
  have b1 := bounds_i64 w1
  have s0 : l0.length ≤ 140737488351232 := by
    rcases dd0 with ⟨_, h⟩ | ⟨zs, sp, hd, hl⟩
    · rw [h]; simp
    · subst hd
      have := sized_slice hsz (j := 0) (t := 22) (e := 5) rfl rfl Tryd.underlying22
      rw [show Tryd.checked.prog.bytesOf 5 = 1 from by kernel_rfl] at this
      unfold lits at this
      simp only [List.length_map] at this
      have h47 : reachBytes ≤ 140737488351232 := by decide
      omega
  clear hA0 hval0
  refine (frameForm_any (tb_of hL) r0 n0 (by omega) x1).mono fun e W' ⟨he, bel⟩ => ?_
  subst he
  exact ⟨_, rfl, _, _, _, [], _, [], hW', trodAll_mk1 (shut_bool Tryd.underlying4 _), (trodAll_cons_mk (Below.trod laid_out (by kernel_rfl) (of_decide_eq_true (by kernel_rfl)) k0 bel lt0) (trodAll_cons_mk (shut_int Tryd.underlying3 w1) trodAll_mk0)), rfl, bel.frame _, fun h => by cases h⟩

theorem frameForm_met (os : Os) : laidMet Tryd.prog Rows.frameFormRow.laid ((laidWorld os).forCall (fun _ _ => 0) ⟨#[], #[.slice none 0 0, .int .i64 0], []⟩).memory :=
  laidMet_of_run' 8 (by kernel_rfl) (by kernel_rfl)
theorem frameForm_reads (os : Os) {H : Type} (enc : TypeId × Value → H) : ∃ places, DataW.whole enc Tryd.prog ((laidWorld os).forCall (fun _ _ => 0) ⟨#[], #[.slice none 0 0, .int .i64 0], []⟩).memory Tryd.f7.params.toList Rows.frameFormSpec.vars false (#[.slice none 0 0, .int .i64 0] : Array Value).toList 8 = some ([.nil, .lit (.int .i64 0)], [], places) :=
  ⟨[], by kernel_rfl⟩

set_option maxRecDepth 100000 in
theorem frameForm_lifted (os : Os) (started : os.Started) (H : Type) (enc : TypeId × Value → H) (F : Stop.Interp) :
    ReturnsInHanded {} Tryd.checked os 7 .any ((OpenSpec.ofChange Rows.frameFormSpec).preRow enc Tryd.prog Tryd.f7 Rows.frameFormRow.domain false Rows.frameFormRow.laid) (((OpenSpec.ofChange Rows.frameFormSpec).at F).post enc Tryd.prog Tryd.f7 false true false false) := by
  obtain ⟨places, hx⟩ := frameForm_reads os enc
  refine returnsInHanded_of_row (C := Tryd.checked) (s := OpenSpec.ofChange Rows.frameFormSpec) own_knob started (by kernel_rfl) Tryd.func7
    (witness_row_at (enc := enc) (C := Tryd.checked) false (laidWorld os) #[.slice none 0 0, .int .i64 0] rfl (by kernel_rfl) (by kernel_rfl) (by kernel_rfl)
      (OpenSpec.preRow_of_cond 8 hx (by kernel_rfl) (fun k hk => by cases hk) (by kernel_rfl) (frameForm_met os))) ?_
  intro W base args ds gs before hval hW _ hcond hsz hL _ _
  exact frameForm_contract H enc W base args ds gs before hval hW hsz hL

theorem frameForm_said : Rows.FrameFormSaid :=
  OpenClaim.holds_of_cond 7 Tryd.f7 rfl rfl rfl rfl rfl rfl rfl ⟨rfl, rfl, rfl, rfl, rfl⟩ rfl rfl rfl rfl rfl (by kernel_rfl) Tryd.func7 (by kernel_rfl)
    (of_decide_eq_true (by kernel_rfl)) (by unfold Func.isWrapper; first | (rw [if_pos (by decide +kernel)]; kernel_rfl) | (rw [if_neg (by decide +kernel)]; exact ⟨rfl, rfl⟩))
    (fun os started H enc _ F => by rw [OpenClaim.pre_eq_preRow]; exact frameForm_lifted os started H enc F)

theorem frameForm_plain (f : FuncId) (fn : Func) (hf : Tryd.pinned.checked.prog.funcNamed "tidemark/tidemarklaw08.FrameForm" = some f) (hfn : Tryd.pinned.checked.prog.funcs[f]? = some fn) :
    false = Tryd.pinned.checked.prog.looks [] ∧ ∀ (j : Nat) t, fn.params[j]? = some t → Tryd.pinned.checked.prog.wantsStandIn t = false := by
  obtain rfl : f = 7 := Option.some.inj ((show Tryd.prog.funcNamed "tidemark/tidemarklaw08.FrameForm" = some 7 by kernel_rfl).symm.trans hf) |>.symm
  obtain rfl : fn = Tryd.f7 := (Option.some.inj (Tryd.func7.symm.trans hfn)).symm
  refine ⟨by kernel_rfl, fun j t ht => ?_⟩
  rw [Tryd.params7] at ht
  have hm := Array.mem_of_getElem? ht
  have : t = 22∨t = 3 := by simp at hm; first | exact hm | (rcases hm with hh | hh <;> simp [hh]) | (rcases hm with hh | hh | hh <;> simp [hh]) | (rcases hm with hh | hh | hh | hh <;> simp [hh]) | (rcases hm with hh | hh | hh | hh | hh <;> simp [hh]) | (rcases hm with hh | hh | hh | hh | hh | hh <;> simp [hh]) | (rcases hm with hh | hh | hh | hh | hh | hh | hh <;> simp [hh]) | (rcases hm with hh | hh | hh | hh | hh | hh | hh | hh <;> simp [hh])
  rcases this with rfl|rfl
  · exact (show Tryd.prog.wantsStandIn 22 = false by kernel_rfl)
  · exact (show Tryd.prog.wantsStandIn 3 = false by kernel_rfl)

theorem frameForm_holds : Rows.FrameFormCardSaid :=
  Claim7.holds_tied_plain_at .later [] _ _ _ _ frameForm_said (fun _ h => by cases h) (by kernel_rfl) (fun _ h => by cases h) frameForm_row_tie rfl ⟨rfl, rfl⟩ (by kernel_rfl) rfl frameForm_plain (by kernel_rfl)
#print axioms frameForm_holds
end Go.Proofs.YtaldpngilgaciabDoor
