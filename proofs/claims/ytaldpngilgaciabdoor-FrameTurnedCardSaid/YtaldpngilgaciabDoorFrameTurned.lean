import Derived.Test.YtaldpngilgaciabDoorLaw8
import Derived.Test.YtaldpngilgaciabDoorDoor
import Derived.Test.YtaldpngilgaciabDoorLaw8b
import Derived.Test.YtaldpngilgaciabDoorFrameTn
import Derived.Test.YtaldpngilgaciabDoorStore
/- FrameTurned: the walk. -/
set_option linter.unusedVariables false
set_option linter.unusedSimpArgs false
namespace Go.Proofs.YtaldpngilgaciabDoor
open Go.RowKit Go.Tm Go.ChangeShapes Go.WideShapes Go.ChangeAt
set_option maxHeartbeats 400000
set_option maxRecDepth 100000

set_option maxHeartbeats 800000 in
theorem frameTurned_any {w : World} (hT : Tb w) {A : Option Addr} {n c : Nat} {l : List UInt8} (h : Rda w A c l) (hn : n = l.length) (lsn0 at0 by0 : Int) (hy0 : 0 ≤ by0) (hy1 : by0 ≤ 255) :
    Calls Tryd.prog 6 #[.int .i64 lsn0, .slice A n c, .int .i64 at0, .int .u8 by0] w fun e w' => e = .returned (.bool true) ∧ Below w.heap.size w w' := by
  subst hn
  have HI := Lib.hid (into_any lsn0 1152921504606846976 (by omega) (by omega) w)
  obtain ⟨L, hL⟩ : ∃ L, lsn0 % 1152921504606846976 = L := ⟨_, rfl⟩
  have hL0 : 0 ≤ L := by omega
  have hL1 : L < 1152921504606846976 := by omega
  rw [hL] at HI
  clear hL
  have hok : okLsn (1 + L) = true := (okLsn_iff _).2 (by omega)
  have hbo := bodyL_ok l
  have HB := Lib.hid (bodied_any h rfl)
  obtain ⟨bd, hbd⟩ : ∃ bd, bodyL l = bd := ⟨_, rfl⟩
  rw [hbd] at HB hbo
  clear hbd h
  obtain ⟨hb0, hb1⟩ := (okBody_iff _).1 hbo
  have hfl := frameL_length (1 + L).toNat bd
  have hop := fun t => openB_frame (1 + L) bd t hok hbo
  have htn := fun k (h4 : 4 ≤ k) (hk : k < _) b hne => openB_turned (lsn := 1 + L) (body := bd) hok hbo k h4 hk b hne
  have e1 : wrapE (1 + L) bd = 0 := by unfold wrapE; rw [if_neg (by rw [hbo]; decide), if_neg (by rw [hok]; decide)]
  have e2 : wrapV (1 + L) bd = frameL (1 + L).toNat bd := if_pos e1
  have hsz := sizeF_ok bd.length hbo
  have HW := fun (w1 : World) (T1 : Tb w1) (A1 : Option Addr) (c1 : Nat) (h1 : Rda w1 A1 c1 bd) => wrap_any (n := bd.length) T1 h1 rfl (by omega) (1 + L)
  rw [e1, e2] at HW
  obtain ⟨f, hf⟩ : ∃ f, frameL (1 + L).toNat bd = f := ⟨_, rfl⟩
  rw [hf] at hfl hop htn HW
  rw [hfl] at HW
  have HW' := Lib.hid HW
  have Hop := Lib.hid hop
  have Htn := Lib.hid htn
  have Hsz := Lib.hid hsz
  have Hfl := Lib.hid hfl
  clear hf HW hop htn e1 e2 hok hbo hsz hfl
  go_enter Tryd.func6, Tryd.ntmps6
  go_wp2_with fail
  refine HI.out.mono ?_
  rintro e w1 ⟨rfl, rfl⟩
  go_wp2_with fail
  refine HB.out.mono ?_
  rintro e w1 ⟨A1, c1, rfl, h1, b1⟩
  go_wp2_with fail
  refine (HW'.out _ (hT.below b1) _ _ h1).mono ?_
  rintro e w2 ⟨A2, c2, rfl, hN2⟩
  have bb2 := hN2.below
  have f2 := hN2.own
  clear hN2 HB HI HW'
  go_wp2_with fail
  refine (known_any (hT.below (below_then b1 bb2))).mono ?_
  rintro e w3 ⟨rfl, b3'⟩
  have bb3 := below_then bb2 b3'
  have f3 := f2.below b3'
  clear f2 bb2 b3'
  go_wp2_with fail
  obtain ⟨K, hK⟩ : ∃ K : Nat, at0 % ((bd.length : Int) + 16 - 4) = (K : Int) := Int.eq_ofNat_of_zero_le (Int.emod_nonneg _ (by omega))
  have hKl : K < bd.length + 12 := by have := Int.emod_lt_of_pos at0 (b := (bd.length : Int) + 16 - 4) (by omega); omega
  have P4 := into_any at0 ((bd.length : Int) + 16 - 4) (by omega) (by omega) w3
  rw [hK] at P4
  clear hK
  refine P4.mono ?_
  clear P4
  rintro e w4 ⟨rfl, rfl⟩
  obtain ⟨g, rfl, hg⟩ := f3.block (by rw [Hfl.out]; omega)
  have hfz := f3.unfrozen rfl (4 + K)
  have hcell := f3.cellAt rfl (4 + K) (by rw [Hfl.out]; omega)
  rw [Hfl.out] at f3
  have hx := xor8 (f.getD (4 + K) 0) by0 hy0 hy1
  have hz := xor8_zero by0 hy0 hy1 (f.getD (4 + K) 0)
  have hx2 := xor8 (f.getD (4 + K) 0 ^^^ UInt8.ofNat by0.toNat) by0 hy0 hy1
  rw [UInt8.xor_assoc, UInt8.xor_self, UInt8.xor_zero] at hx2
  have hset : f.set (4 + K) (f.getD (4 + K) 0) = f := by
    have h4 : 4 + K < f.length := by rw [Hfl.out]; omega
    rw [show f.getD (4 + K) 0 = f[4 + K] by simp [List.getD, h4], List.set_getElem_self]
  have htn := Htn.out (4 + K) (by omega) (by omega)
  obtain ⟨a, ha⟩ : ∃ a, f.getD (4 + K) 0 = a := ⟨_, rfl⟩
  rw [ha] at hcell hx hz hx2 hset htn
  obtain ⟨v, hv⟩ : ∃ v, a ^^^ UInt8.ofNat by0.toNat = v := ⟨_, rfl⟩
  rw [hv] at hx hz hx2
  have htv := Lib.hid (htn v)
  clear ha hv htn Htn
  obtain ⟨st1, st2⟩ := f3.stored Hfl.out.symm (4 + K) v
  have bb5 : Below w1.heap.size w1 (w3.setCell ⟨g, 4 + K, none⟩ (.int .u8 (v.toNat : Int))) := bb3.grown st2 bb3.size (fun k hk => by injection hk with hk; omega)
  have T5 := hT.below (below_then b1 bb5)
  go_wp2_with fail
  generalize hW5 : w3.setCell ⟨g, 4 + K, none⟩ (.int .u8 (v.toNat : Int)) = w5 at st1 st2 bb5 T5 ⊢
  have hvlen : (f.set (4 + K) v).length = bd.length + 16 := by rw [List.length_set]; exact Hfl.out
  have P6 : ∃ (V : List UInt8) (N E : Int), (E == 0) = (by0 == 0) ∧
      Calls Tryd.prog 15 #[.slice (some ⟨g, 0, none⟩) (bd.length + 16) c2, .int .i64 (1 + L)] w5 fun e w' => ∃ A' c', e = .returned (.tuple #[.slice A' V.length c', .int .i64 N, .int .i64 E]) ∧ New 5 w5 w' A' c' V := by
    have := open_any T5 (own_at st1).2 hvlen.symm (by rw [hvlen]; omega) (1 + L)
    refine ⟨_, _, _, ?_, this⟩
    by_cases hb : by0 = 0
    · rw [hz.2 hb, hset]
      have := Hop.out []
      rw [List.append_nil] at this
      rw [(open_some this).2.2, hb]
    · rw [(open_none (htv.out (fun e => hb (hz.1 e)))).2.2, beq_eq_false_iff_ne.2 hb]
      rfl
  obtain ⟨V, N, E, hE, P6⟩ := P6
  refine P6.mono ?_
  clear P6
  rintro e w6 ⟨A6, c6, rfl, hN6⟩
  have f6 := st1.below hN6.below
  have bb6 := below_then bb5 hN6.below
  have hfz6 := f6.unfrozen hvlen.symm (4 + K)
  have hcell6 := f6.cellAt hvlen.symm (4 + K) (by rw [hvlen]; omega)
  rw [show (f.set (4 + K) v).getD (4 + K) 0 = v by rw [List.getD, List.getElem?_set_self (by rw [Hfl.out]; omega)]; rfl] at hcell6
  obtain ⟨st3, st4⟩ := f6.stored hvlen.symm (4 + K) a
  rw [List.set_set, hset] at st3
  have bb7 : Below w1.heap.size w1 (w6.setCell ⟨g, 4 + K, none⟩ (.int .u8 (a.toNat : Int))) := bb6.grown st4 bb6.size (fun k hk => by injection hk with hk; omega)
  have T7 := hT.below (below_then b1 bb7)
  clear hx hcell hfz f3 st1 st2 hN6 T5 hW5 bb5
  go_wp2_with fail
  have hop := Hop.out []
  rw [List.append_nil] at hop
  have P8 := open_any (n := bd.length + 16) T7 (own_at st3).2 Hfl.out.symm (by rw [Hfl.out]; omega) (1 + L)
  obtain ⟨q1, q2, q3⟩ := open_some hop
  rw [q1, q2, q3] at P8
  have bb7' := below_then b1 bb7
  refine P8.mono ?_
  clear P8 q1 q2 q3 hop
  rintro e w8 ⟨A8, c8, rfl, hN8⟩
  have b8 := below_then bb7' hN8.below
  have h8 := h1.below (bb7.trans (hN8.below.mono bb7.size))
  have y8 := hN8.rda
  clear hN8 T7 f6 hfz6 hcell6 bb6 st3 st4 bb7 bb7' hset hx2
  by_cases hb : by0 = 0
  · have hE1 : E = 0 := by simpa [hb] using hE
    subst hb
    subst hE1
    clear hE
    go_wp2_with fail
    refine (same_yes y8 h8 rfl rfl rfl).mono ?_
    rintro e w9 ⟨rfl, rfl⟩
    go_wp2_with fail
    go_ret
    exact ⟨rfl, b8⟩
  · have hE2 : (by0 == 0) = false := beq_eq_false_iff_ne.2 hb
    have hE1 : (E == 0) = false := by rw [hE, hE2]
    clear hE
    go_wp2_with fail
    refine (same_yes y8 h8 rfl rfl rfl).mono ?_
    rintro e w9 ⟨rfl, rfl⟩
    go_wp2_with fail
    go_ret
    exact ⟨rfl, b8⟩

theorem frameTurned_contract (H : Type) (enc : TypeId × Value → H) (W : World) (base : Nat) (args : Array Value) (ds gs : List (DataW H)) (before : List MemPlace)
    (hval0 : ∀ (j : Nat) t v, Tryd.f6.params[j]? = some t → args[j]? = some v → Value.okWide Tryd.prog W .any base t v)
    (hW : DataW.Whole enc Tryd.prog Tryd.f6.params.toList Rows.frameTurnedSpec.vars false W args.toList ds gs before) (hsz : (DataW.weightsEach Tryd.checked.prog (Tryd.f6.params.toList ++ Rows.frameTurnedSpec.plain.varTypes Tryd.checked.prog) (ds ++ gs)).all (· ≤ reachBytes) = true) (hL : laidMetH Tryd.prog Rows.frameTurnedRow.laid W) :
    Calls Tryd.prog 6 args W fun e W' => ∃ v, e = .returned v ∧ Rows.frameTurnedSpec.post enc Tryd.prog Tryd.f6 false true false false W args v W' := by
  have hval : ∀ (j : Nat) t v, Tryd.f6.params[j]? = some t → args[j]? = some v → Value.okWide Tryd.prog W .any base t v := hval0
  have hW' := hW
  obtain ⟨p, q, hA0, hV, rfl, hfz, hnd⟩ := hW
  have hA : DataW.TrodAll enc Tryd.prog W 0 (fun _ => true) true Tryd.f6.params.toList args.toList ds p := hA0
  rw [Tryd.params6] at hA hval
  obtain ⟨v0, vs0, d0, ds0, p0, q0, hargs, rfl, rfl, h0, rr0⟩ := trodAll_cons hA
  obtain ⟨v1, vs1, d1, ds1, p1, q1, rfl, rfl, rfl, h1, rr1⟩ := trodAll_cons rr0
  obtain ⟨v2, vs2, d2, ds2, p2, q2, rfl, rfl, rfl, h2, rr2⟩ := trodAll_cons rr1
  obtain ⟨v3, vs3, d3, ds3, p3, q3, rfl, rfl, rfl, h3, rr3⟩ := trodAll_cons rr2
  obtain ⟨rfl, rfl, rfl⟩ := trodAll_nil rr3
  obtain rfl : args = #[v0, v1, v2, v3] := by cases args; simp_all
  obtain ⟨rfl, rfl⟩ := trodVars_none hV
  obtain ⟨x0, rfl, rfl, rfl, w0⟩ := open_int Tryd.underlying3 (hval 0 3 v0 rfl rfl) h0
  have b0 := bounds_i64 w0
  obtain ⟨a1, len1, cap1, rfl⟩ := okWide_slice Tryd.underlying22 (hval 1 22 v1 rfl rfl)
  have k1 := h1
  have lt1 : ∀ x ∈ p1, x.block < W.heap.size := by obtain ⟨m, hm⟩ := k1; exact DataW.trod_lt m _ _ _ hm
  obtain ⟨l1, n1, r1, dd1⟩ : ∃ l : List UInt8, len1 = l.length ∧ Rda W a1 cap1 l ∧ RowOf d1 l := by
    obtain ⟨fuel, hf⟩ := h1
    obtain ⟨A, l, c, hv, hr, hx⟩ := open_bytes tU8 (by kernel_rfl) (by simpa [Value.cells] using hf)
    obtain ⟨rfl, rfl, rfl⟩ : a1 = A ∧ len1 = l.length ∧ cap1 = c := by simpa using hv
    exact ⟨l, rfl, hr, hx⟩
  obtain ⟨x2, rfl, rfl, rfl, w2⟩ := open_int Tryd.underlying3 (hval 2 3 v2 rfl rfl) h2
  have b2 := bounds_i64 w2
  obtain ⟨x3, rfl, rfl, rfl, w3⟩ := open_int Tryd.underlying5 (hval 3 5 v3 rfl rfl) h3
  have b3 := bounds_u8 w3
  have s1 : l1.length ≤ 140737488351232 := by
    rcases dd1 with ⟨_, h⟩ | ⟨zs, sp, hd, hl⟩
    · rw [h]; simp
    · subst hd
      have := sized_slice hsz (j := 1) (t := 22) (e := 5) rfl rfl Tryd.underlying22
      rw [show Tryd.checked.prog.bytesOf 5 = 1 from by kernel_rfl] at this
      unfold lits at this
      simp only [List.length_map] at this
      have h47 : reachBytes ≤ 140737488351232 := by decide
      omega
  clear hA0 hval0
  refine (frameTurned_any (tb_of hL) r1 n1 x0 x2 x3 b3.1 b3.2).mono fun e W' ⟨he, bel⟩ => ?_
  subst he
  exact ⟨_, rfl, _, _, _, [], _, [], hW', trodAll_mk1 (shut_bool Tryd.underlying4 _), (trodAll_cons_mk (shut_int Tryd.underlying3 w0) (trodAll_cons_mk (Below.trod laid_out (by kernel_rfl) (of_decide_eq_true (by kernel_rfl)) k1 bel lt1) (trodAll_cons_mk (shut_int Tryd.underlying3 w2) (trodAll_cons_mk (shut_int Tryd.underlying5 w3) trodAll_mk0)))), rfl, bel.frame _, fun h => by cases h⟩

theorem frameTurned_met (os : Os) : laidMet Tryd.prog Rows.frameTurnedRow.laid ((laidWorld os).forCall (fun _ _ => 0) ⟨#[], #[.int .i64 0, .slice none 0 0, .int .i64 0, .int .u8 0], []⟩).memory :=
  laidMet_of_run' 8 (by kernel_rfl) (by kernel_rfl)
theorem frameTurned_reads (os : Os) {H : Type} (enc : TypeId × Value → H) : ∃ places, DataW.whole enc Tryd.prog ((laidWorld os).forCall (fun _ _ => 0) ⟨#[], #[.int .i64 0, .slice none 0 0, .int .i64 0, .int .u8 0], []⟩).memory Tryd.f6.params.toList Rows.frameTurnedSpec.vars false (#[.int .i64 0, .slice none 0 0, .int .i64 0, .int .u8 0] : Array Value).toList 8 = some ([.lit (.int .i64 0), .nil, .lit (.int .i64 0), .lit (.int .u8 0)], [], places) :=
  ⟨[], by kernel_rfl⟩

set_option maxRecDepth 100000 in
theorem frameTurned_lifted (os : Os) (started : os.Started) (H : Type) (enc : TypeId × Value → H) (F : Stop.Interp) :
    ReturnsInHanded {} Tryd.checked os 6 .any ((OpenSpec.ofChange Rows.frameTurnedSpec).preRow enc Tryd.prog Tryd.f6 Rows.frameTurnedRow.domain false Rows.frameTurnedRow.laid) (((OpenSpec.ofChange Rows.frameTurnedSpec).at F).post enc Tryd.prog Tryd.f6 false true false false) := by
  obtain ⟨places, hx⟩ := frameTurned_reads os enc
  refine returnsInHanded_of_row (C := Tryd.checked) (s := OpenSpec.ofChange Rows.frameTurnedSpec) own_knob started (by kernel_rfl) Tryd.func6
    (witness_row_at (enc := enc) (C := Tryd.checked) false (laidWorld os) #[.int .i64 0, .slice none 0 0, .int .i64 0, .int .u8 0] rfl (by kernel_rfl) (by kernel_rfl) (by kernel_rfl)
      (OpenSpec.preRow_of_cond 8 hx (by kernel_rfl) (fun k hk => by cases hk) (by kernel_rfl) (frameTurned_met os))) ?_
  intro W base args ds gs before hval hW _ hcond hsz hL _ _
  exact frameTurned_contract H enc W base args ds gs before hval hW hsz hL

theorem frameTurned_said : Rows.FrameTurnedSaid :=
  OpenClaim.holds_of_cond 6 Tryd.f6 rfl rfl rfl rfl rfl rfl rfl ⟨rfl, rfl, rfl, rfl, rfl⟩ rfl rfl rfl rfl rfl (by kernel_rfl) Tryd.func6 (by kernel_rfl)
    (of_decide_eq_true (by kernel_rfl)) (by unfold Func.isWrapper; first | (rw [if_pos (by decide +kernel)]; kernel_rfl) | (rw [if_neg (by decide +kernel)]; exact ⟨rfl, rfl⟩))
    (fun os started H enc _ F => by rw [OpenClaim.pre_eq_preRow]; exact frameTurned_lifted os started H enc F)

theorem frameTurned_plain (f : FuncId) (fn : Func) (hf : Tryd.pinned.checked.prog.funcNamed "tidemark/tidemarklaw08.FrameTurned" = some f) (hfn : Tryd.pinned.checked.prog.funcs[f]? = some fn) :
    false = Tryd.pinned.checked.prog.looks [] ∧ ∀ (j : Nat) t, fn.params[j]? = some t → Tryd.pinned.checked.prog.wantsStandIn t = false := by
  obtain rfl : f = 6 := Option.some.inj ((show Tryd.prog.funcNamed "tidemark/tidemarklaw08.FrameTurned" = some 6 by kernel_rfl).symm.trans hf) |>.symm
  obtain rfl : fn = Tryd.f6 := (Option.some.inj (Tryd.func6.symm.trans hfn)).symm
  refine ⟨by kernel_rfl, fun j t ht => ?_⟩
  rw [Tryd.params6] at ht
  have hm := Array.mem_of_getElem? ht
  have : t = 22∨t = 3∨t = 5 := by simp at hm; first | exact hm | (rcases hm with hh | hh <;> simp [hh]) | (rcases hm with hh | hh | hh <;> simp [hh]) | (rcases hm with hh | hh | hh | hh <;> simp [hh]) | (rcases hm with hh | hh | hh | hh | hh <;> simp [hh]) | (rcases hm with hh | hh | hh | hh | hh | hh <;> simp [hh]) | (rcases hm with hh | hh | hh | hh | hh | hh | hh <;> simp [hh]) | (rcases hm with hh | hh | hh | hh | hh | hh | hh | hh <;> simp [hh])
  rcases this with rfl|rfl|rfl
  · exact (show Tryd.prog.wantsStandIn 22 = false by kernel_rfl)
  · exact (show Tryd.prog.wantsStandIn 3 = false by kernel_rfl)
  · exact (show Tryd.prog.wantsStandIn 5 = false by kernel_rfl)

theorem frameTurned_holds : Rows.FrameTurnedCardSaid :=
  Claim7.holds_tied_plain_at .later [] _ _ _ _ frameTurned_said (fun _ h => by cases h) (by kernel_rfl) (fun _ h => by cases h) frameTurned_row_tie rfl ⟨rfl, rfl⟩ (by kernel_rfl) rfl frameTurned_plain (by kernel_rfl)
#print axioms frameTurned_holds
end Go.Proofs.YtaldpngilgaciabDoor
