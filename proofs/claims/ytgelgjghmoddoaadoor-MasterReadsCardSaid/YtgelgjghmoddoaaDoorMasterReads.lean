/-
  Proved: for every input that its row lets in the statement MasterReads answers true; what was handed in stays as it was.
  Conditions: none beyond the row's own.
-/
import Derived.Test.YtgelgjghmoddoaaDoorLaw7d
import Derived.Test.YtgelgjghmoddoaaDoorDoor
import Derived.Test.YtgelgjghmoddoaaDoorOpen7
import Derived.Deep.RegionHeld3
import Derived.BigRegion
/- MasterReads: the walk. -/
set_option linter.unusedVariables false
set_option linter.unusedSimpArgs false
namespace Go.Proofs.YtgelgjghmoddoaaDoor
open Go.RowKit Go.Tm Go.ChangeShapes Go.WideShapes Go.ChangeAt
set_option maxHeartbeats 400000
set_option maxRecDepth 100000

/-- byte(0), byte(1), .. -/
def rampB (k : Nat) : List UInt8 := (List.range k).map fun i => UInt8.ofNat (i % 256)
theorem rampB_length (k : Nat) : (rampB k).length = k := by simp [rampB]
theorem rampB_succ (k : Nat) : rampB (k + 1) = rampB k ++ [UInt8.ofNat (k % 256)] := by simp [rampB, List.range_succ]

set_option maxHeartbeats 4000000 in
theorem masterReads_any {w : World} (hT : Tb w) (t b c : Int) (at_ more : Int) (sm tn : Bool) {A : Option Addr} {n c' : Nat} {q : List UInt8} (hq : Rda w A c' q) (hn : n = q.length) (hql : q.length ≤ 140737488351232) (ha0 : -9223372036854775808 ≤ at_) (ha1 : at_ ≤ 9223372036854775807) :
    Calls Tryd.prog 4 #[.agg #[.int .i64 t, .int .i64 b, .int .i64 c], .agg #[.int .i64 at_, .int .i64 more, .bool sm, .bool tn, .slice A n c']] w fun e w' => e = .returned (.bool true) ∧ Below w.heap.size w w' := by
  have hb0 : Below w.heap.size w ((w.alloc (.cells #[.int .i64 t, .int .i64 b, .int .i64 c] 30)).alloc (.cells #[.int .i64 at_, .int .i64 more, .bool sm, .bool tn, .slice A n c'] 38)) := ((Below.refl _ _).alloc (Nat.le_refl _) _).alloc (by simp) _
  have HPS := Lib.hid (spoilt_any (w := ((w.alloc (.cells #[.int .i64 t, .int .i64 b, .int .i64 c] 30)).alloc (.cells #[.int .i64 at_, .int .i64 more, .bool sm, .bool tn, .slice A n c'] 38))) t b c at_ more sm tn (hq.below hb0) hn hql ha0 ha1)
  have HB0 := Lib.hid hb0
  have HT := Lib.hid hT
  clear hb0 hT hq hn
  go_enter Tryd.func4, Tryd.ntmps4
  go_wp2_with fail
  refine HPS.out.mono ?_
  rintro e w3 ⟨A3, c3, l, rfl, hl, N3⟩
  have hnil := Own8.nilRow w3 w3.heap.size 5
  have r3 := N3.rda
  have HR3 := Lib.hid r3
  have HB3 := Lib.hid (below_then HB0.out N3.below)
  have hll : l.length ≤ 140737488351272 := by omega
  clear N3
  go_wp2_with (at_builtin; refine wpList_app (l := []) (m := l) _ rfl _ _ rfl tU8 rfl hnil rfl rfl r3 (by simp; omega) (Nat.le_refl _) ?_)
  intro v4 w4 o4 hg4
  have hb4 := hnil.grown hg4 (Below.refl w3.heap.size w3) (Nat.le_refl _) (Nat.le_refl _)
  clear hnil hg4 r3
  go_wp2_with fail
  go_loopw [6, 7] (fun v i wr => ∃ k : Nat, k ≤ 300 ∧ i = .int .i64 k ∧ Own8 wr w3.heap.size 5 v (l ++ rampB k) ∧ Below w3.heap.size w3 wr) (fun _ i _ => 300 - (intOf i).toNat)
  case atStart => exact ⟨0, by omega, rfl, by simpa [rampB] using o4, hb4⟩
  case round =>
    obtain ⟨k, hk, rfl, ho, hb⟩ := hrel
    by_cases hk3 : k < 300
    · have HV : Hid (((k : Int)) % 256 = ((UInt8.ofNat (k % 256)).toNat : Int)) := Lib.hid (by
        have := tmByte0 ((k : Int) % 256) (by omega) (by omega)
        rw [this]
        congr 2)
      have ho1 := ho.alloc (.cells #[.int .u8 ((k : Int) % 256)] 5)
      have hbx := Rda.box wr 5 ((k : Int) % 256) _ HV.out
      have hB := hb.size
      have m0 : (0 : Int) ≤ (k : Int) := by omega
      go_wp2_with (at_builtin; refine wpList_app (l := l ++ rampB k) _ rfl _ _ rfl tU8 rfl ho1 rfl rfl hbx ?c1 ?c2 ?_)
      case c1 => rw [List.length_append, rampB_length]; simp; omega
      case c2 => simp; omega
      intro v' w' ho' hg
      have hb1 := ho1.grown hg (hb.alloc hB _) (by simp; omega) (Nat.le_refl _)
      clear ho ho1 hbx
      go_wp2_with fail
      go_roundw
      case rel => exact ⟨k + 1, by omega, by go_num, by rw [rampB_succ]; simpa using ho', hb1⟩
      case measure => simp [intOf]; omega
    · have he : k = 300 := by omega
      subst he
      have hlen : (l ++ rampB 300).length = l.length + 300 := by rw [List.length_append, rampB_length]
      obtain ⟨A5, c5, rfl, r5⟩ := own_rda ho
      rw [hlen] at ho ⊢
      obtain ⟨g, rfl, hg⟩ := ho.block (by rw [hlen]; omega)
      have hcap := r5.cap
      rw [hlen] at hcap
      have rt := r5.take l.length (by rw [hlen]; omega)
      rw [List.take_left] at rt
      have qc : ((l.length : Nat) : Int) ≤ (c5 : Int) := by omega
      have HWB := Lib.hid (below_then HB3.out hb)
      have HB := Lib.hid hb
      have HR5 := Lib.hid r5
      have HP := Lib.hid (mparse_any (HT.out.below HWB.out) rt (n := l.length) rfl (by omega))
      clear hlen ho hg hcap r5 rt hb o4 hb4
      go_wp2_with fail
      refine HP.out.mono ?_
      rintro e w6 ⟨rfl, hb6⟩
      obtain ⟨P1, hP1⟩ : ∃ P, (pM l).1 = P := ⟨_, rfl⟩
      obtain ⟨P2, hP2⟩ : ∃ P, (pM l).2.1 = P := ⟨_, rfl⟩
      obtain ⟨P3, hP3⟩ : ∃ P, (pM l).2.2 = P := ⟨_, rfl⟩
      obtain ⟨OK, hOK⟩ : ∃ b, isM l = b := ⟨_, rfl⟩
      rw [hP1, hP2, hP3, hOK]
      have hba := (Below.refl w6.heap.size w6).alloc (Nat.le_refl _) (.cells #[.int .i64 (P1 : Int), .int .i64 (P2 : Int), .int .i64 (P3 : Int)] 23)
      have hra : RowC (w6.alloc (.cells #[.int .i64 (P1 : Int), .int .i64 (P2 : Int), .int .i64 (P3 : Int)] 23)) w6.heap.size 23 [.int .i64 (P1 : Int), .int .i64 (P2 : Int), .int .i64 (P3 : Int)] := heap_alloc_new _ _
      have HRA := Lib.hid hra
      have hb7 := below_then (below_then HB.out hb6) hba
      have PR := refParse7_any (HR3.out.below hb7) (n := l.length) rfl (by omega)
      rw [hP1, hP2, hP3, hOK] at PR
      have HPR := Lib.hid PR
      have HB7 := Lib.hid hb7
      have HR7 := Lib.hid (HR5.out.below (below_then hb6 hba))
      clear PR hb7 hra hba hb6 hP1 hP2 hP3 hOK
      go_wp2_with fail
      refine HPR.out.mono ?_
      rintro e w8 ⟨rfl, hb8⟩
      have hbc := (Below.refl w8.heap.size w8).alloc (Nat.le_refl _) (.cells #[.int .i64 (P1 : Int), .int .i64 (P2 : Int), .int .i64 (P3 : Int)] 30)
      have HB9 := Lib.hid (below_then HB7.out (below_then hb8 hbc))
      have HR9 := Lib.hid (HR7.out.below (below_then hb8 hbc))
      have HRA9 := Lib.hid (HRA.out.below (below_then hb8 hbc))
      have hrc : RowC (w8.alloc (.cells #[.int .i64 (P1 : Int), .int .i64 (P2 : Int), .int .i64 (P3 : Int)] 30)) w8.heap.size 30 [.int .i64 (P1 : Int), .int .i64 (P2 : Int), .int .i64 (P3 : Int)] := heap_alloc_new _ _
      have HRC := Lib.hid hrc
      clear hbc hb8 hrc
      go_wp2_with fail
      go_loop [12] (fun i => ∃ k : Nat, k ≤ 300 ∧ i = .int .i64 k) (fun i => 300 - (intOf i).toNat)
      case atStart => exact ⟨0, by omega, rfl⟩
      case round =>
        obtain ⟨k, hk, rfl⟩ := hrel
        by_cases hk3 : k < 300
        · obtain ⟨g', o', he, hc⟩ := HR9.out.cells (by rw [List.length_append, rampB_length]; omega)
          injection he with he
          injection he with e1 e2
          subst e1 e2
          have hck := hc (l.length + k) (by rw [List.length_append, rampB_length]; omega)
          have hgd : (l ++ rampB 300).getD (l.length + k) 0 = UInt8.ofNat (k % 256) := by
            have : ((l ++ rampB 300)[l.length + k]?) = some (UInt8.ofNat (k % 256)) := by
              rw [List.getElem?_append_right (by omega), Nat.add_sub_cancel_left]
              simp [rampB, hk3]
            simp [List.getD, this]
          rw [hgd, Nat.zero_add] at hck
          have hv : ((UInt8.ofNat (k % 256)).toNat : Int) = (k : Int) % 256 := by
            have := tmByte0 ((k : Int) % 256) (by omega) (by omega)
            rw [this]
            congr 2
          rw [hv] at hck
          have m0 : (0 : Int) ≤ (l.length : Int) + (k : Int) := by omega
          have m1 : (l.length : Int) + (k : Int) < (l.length : Int) + 300 := by omega
          clear hc hgd hv
          go_wp2_with fail
          go_round
          case rel => exact ⟨k + 1, by omega, by go_num⟩
          case measure => simp [intOf]; omega
        · have hk9 : k = 300 := by omega
          subst hk9
          obtain ⟨W9, hW9⟩ : ∃ W, W = w8.alloc (.cells #[.int .i64 (P1 : Int), .int .i64 (P2 : Int), .int .i64 (P3 : Int)] 30) := ⟨_, rfl⟩
          obtain ⟨S6, hS6⟩ : ∃ S, S = w6.heap.size := ⟨_, rfl⟩
          obtain ⟨S8, hS8⟩ : ∃ S, S = w8.heap.size := ⟨_, rfl⟩
          rw [← hW9] at HRA9 HRC HR9 HB9
          rw [← hS6] at HRA9
          rw [← hS8] at HRC
          rw [← hW9, ← hS6, ← hS8]
          have hbd := (Below.refl W9.heap.size W9).drew
          have HH := Lib.hid (head7_any (HT.out.below (below_then (below_then HB3.out HB9.out) hbd)))
          have rt9 := HR9.out.take l.length (by rw [List.length_append]; omega)
          rw [List.take_left] at rt9
          have HRT9 := Lib.hid rt9
          have HR39 := Lib.hid (HR3.out.below HB9.out)
          clear rt9 hS6 hS8 hW9
          go_wp2_with fail
          go_region_held3 (fun w' => w'.cell? ⟨S6, 0, none⟩ = some (.int .i64 (P1 : Int)) ∧ w'.cell? ⟨S6, 1, none⟩ = some (.int .i64 (P2 : Int)) ∧ w'.cell? ⟨S6, 2, none⟩ = some (.int .i64 (P3 : Int)) ∧ w'.cell? ⟨S8, 0, none⟩ = some (.int .i64 (P1 : Int)) ∧ w'.cell? ⟨S8, 1, none⟩ = some (.int .i64 (P2 : Int)) ∧ w'.cell? ⟨S8, 2, none⟩ = some (.int .i64 (P3 : Int)))
            (with_reducible exact ⟨(HRA9.out.below (by assumption)).cell (j := 0) rfl, (HRA9.out.below (by assumption)).cell (j := 1) rfl, (HRA9.out.below (by assumption)).cell (j := 2) rfl, (HRC.out.below (by assumption)).cell (j := 0) rfl, (HRC.out.below (by assumption)).cell (j := 1) rfl, (HRC.out.below (by assumption)).cell (j := 2) rfl⟩)
            (first
              | (go_at_call 11; refine HH.out.mono ?_; rintro e wh ⟨rfl, hbh⟩; have hb1 := below_then hbd hbh; clear hbh)
              | (go_at_call 16; refine (theirs_any _ _ _).mono ?_; rintro e wt ⟨rfl, hbt⟩; have hb2 := below_then hb1 hbt; clear hbt)
              | (go_at_call 12; refine (same_yes (HRT9.out.below hb2) (HR39.out.below hb2) rfl rfl rfl).mono ?_; rintro e wz ⟨rfl, rfl⟩))
          all_goals (go_wp2_with fail; go_ret; exact ⟨rfl, below_then (below_then HB3.out HB9.out) hb2⟩)

theorem masterReads_contract (H : Type) (enc : TypeId × Value → H) (W : World) (base : Nat) (args : Array Value) (ds gs : List (DataW H)) (before : List MemPlace)
    (hval0 : ∀ (j : Nat) t v, Tryd.f4.params[j]? = some t → args[j]? = some v → Value.okWide Tryd.prog W .any base t v)
    (hW : DataW.Whole enc Tryd.prog Tryd.f4.params.toList Rows.masterReadsSpec.vars false W args.toList ds gs before) (hsz : (DataW.weightsEach Tryd.checked.prog (Tryd.f4.params.toList ++ Rows.masterReadsSpec.plain.varTypes Tryd.checked.prog) (ds ++ gs)).all (· ≤ reachBytes) = true) (hL : laidMetH Tryd.prog Rows.masterReadsRow.laid W) :
    Calls Tryd.prog 4 args W fun e W' => ∃ v, e = .returned v ∧ Rows.masterReadsSpec.post enc Tryd.prog Tryd.f4 false true false false W args v W' := by
  have hval : ∀ (j : Nat) t v, Tryd.f4.params[j]? = some t → args[j]? = some v → Value.okWide Tryd.prog W .any base t v := hval0
  have hW' := hW
  obtain ⟨p, q, hA0, hV, rfl, hfz, hnd⟩ := hW
  have hA : DataW.TrodAll enc Tryd.prog W 0 (fun _ => true) true Tryd.f4.params.toList args.toList ds p := hA0
  rw [Tryd.params4] at hA hval
  obtain ⟨v0, vs0, d0, ds0, p0, q0, hargs, rfl, rfl, h0, rr0⟩ := trodAll_cons hA
  obtain ⟨v1, vs1, d1, ds1, p1, q1, rfl, rfl, rfl, h1, rr1⟩ := trodAll_cons rr0
  obtain ⟨rfl, rfl, rfl⟩ := trodAll_nil rr1
  obtain rfl : args = #[v0, v1] := by cases args; simp_all
  obtain ⟨rfl, rfl⟩ := trodVars_none hV
  have k0 := h0
  have lt0 : ∀ x ∈ p0, x.block < W.heap.size := by obtain ⟨m, hm⟩ := k0; exact DataW.trod_lt m _ _ _ hm
  obtain ⟨t0, b0, c0, rfl⟩ := open_state7 (hval 0 30 v0 rfl rfl) h0 (arg_sized (j := 0) hsz rfl rfl)
  have k1 := h1
  have lt1 : ∀ x ∈ p1, x.block < W.heap.size := by obtain ⟨m, hm⟩ := k1; exact DataW.trod_lt m _ _ _ hm
  obtain ⟨at1, mo1, sm1, tn1, a1, cap1, l1, rfl, r1, s1, y1, z1⟩ := open_spoil7 (hval 1 38 v1 rfl rfl) h1 (arg_sized (j := 1) hsz rfl rfl)
  clear hA0 hval0
  refine (masterReads_any (tb_of hL) t0 b0 c0 at1 mo1 sm1 tn1 r1 rfl s1 y1 z1).mono fun e W' ⟨he, bel⟩ => ?_
  subst he
  exact ⟨_, rfl, _, _, _, [], _, [], hW', trodAll_mk1 (shut_bool Tryd.underlying4 _), (trodAll_cons_mk (Below.trod laid_out (by kernel_rfl) (of_decide_eq_true (by kernel_rfl)) k0 bel lt0) (trodAll_cons_mk (Below.trod laid_out (by kernel_rfl) (of_decide_eq_true (by kernel_rfl)) k1 bel lt1) trodAll_mk0)), rfl, bel.frame _, fun h => by cases h⟩

theorem masterReads_met (os : Os) : laidMet Tryd.prog Rows.masterReadsRow.laid ((laidWorld os).forCall (fun _ _ => 0) ⟨#[], #[.agg #[.int .i64 0, .int .i64 0, .int .i64 0], .agg #[.int .i64 0, .int .i64 0, .bool false, .bool false, .slice none 0 0]], []⟩).memory :=
  laidMet_of_run' 8 (by kernel_rfl) (by kernel_rfl)
theorem masterReads_reads (os : Os) {H : Type} (enc : TypeId × Value → H) : ∃ places, DataW.whole enc Tryd.prog ((laidWorld os).forCall (fun _ _ => 0) ⟨#[], #[.agg #[.int .i64 0, .int .i64 0, .int .i64 0], .agg #[.int .i64 0, .int .i64 0, .bool false, .bool false, .slice none 0 0]], []⟩).memory Tryd.f4.params.toList Rows.masterReadsSpec.vars false (#[.agg #[.int .i64 0, .int .i64 0, .int .i64 0], .agg #[.int .i64 0, .int .i64 0, .bool false, .bool false, .slice none 0 0]] : Array Value).toList 8 = some ([.agg [.lit (.int .i64 0), .lit (.int .i64 0), .lit (.int .i64 0)], .agg [.lit (.int .i64 0), .lit (.int .i64 0), .lit (.bool false), .lit (.bool false), .nil]], [], places) :=
  ⟨[], by kernel_rfl⟩

set_option maxRecDepth 100000 in
theorem masterReads_lifted (os : Os) (started : os.Started) (H : Type) (enc : TypeId × Value → H) (F : Stop.Interp) :
    ReturnsInHanded {} Tryd.checked os 4 .any ((OpenSpec.ofChange Rows.masterReadsSpec).preRow enc Tryd.prog Tryd.f4 Rows.masterReadsRow.domain false Rows.masterReadsRow.laid) (((OpenSpec.ofChange Rows.masterReadsSpec).at F).post enc Tryd.prog Tryd.f4 false true false false) := by
  obtain ⟨places, hx⟩ := masterReads_reads os enc
  refine returnsInHanded_of_row (C := Tryd.checked) (s := OpenSpec.ofChange Rows.masterReadsSpec) own_knob started (by kernel_rfl) Tryd.func4
    (witness_row_at (enc := enc) (C := Tryd.checked) false (laidWorld os) #[.agg #[.int .i64 0, .int .i64 0, .int .i64 0], .agg #[.int .i64 0, .int .i64 0, .bool false, .bool false, .slice none 0 0]] rfl (by kernel_rfl) (by kernel_rfl) (by kernel_rfl)
      (OpenSpec.preRow_of_cond 8 hx (by kernel_rfl) (fun k hk => by cases hk) (by kernel_rfl) (masterReads_met os))) ?_
  intro W base args ds gs before hval hW _ hcond hsz hL _ _
  exact masterReads_contract H enc W base args ds gs before hval hW hsz hL

theorem masterReads_said : Rows.MasterReadsSaid :=
  OpenClaim.holds_of_cond 4 Tryd.f4 rfl rfl rfl rfl rfl rfl rfl ⟨rfl, rfl, rfl, rfl, rfl⟩ rfl rfl rfl rfl rfl (by kernel_rfl) Tryd.func4 (by kernel_rfl)
    (of_decide_eq_true (by kernel_rfl)) (by unfold Func.isWrapper; first | (rw [if_pos (by decide +kernel)]; kernel_rfl) | (rw [if_neg (by decide +kernel)]; exact ⟨rfl, rfl⟩))
    (fun os started H enc _ F => by rw [OpenClaim.pre_eq_preRow]; exact masterReads_lifted os started H enc F)

theorem masterReads_plain (f : FuncId) (fn : Func) (hf : Tryd.pinned.checked.prog.funcNamed "tidemark/tidemarklaw07.MasterReads" = some f) (hfn : Tryd.pinned.checked.prog.funcs[f]? = some fn) :
    false = Tryd.pinned.checked.prog.looks [] ∧ ∀ (j : Nat) t, fn.params[j]? = some t → Tryd.pinned.checked.prog.wantsStandIn t = false := by
  obtain rfl : f = 4 := Option.some.inj ((show Tryd.prog.funcNamed "tidemark/tidemarklaw07.MasterReads" = some 4 by kernel_rfl).symm.trans hf) |>.symm
  obtain rfl : fn = Tryd.f4 := (Option.some.inj (Tryd.func4.symm.trans hfn)).symm
  refine ⟨by kernel_rfl, fun j t ht => ?_⟩
  rw [Tryd.params4] at ht
  have hm := Array.mem_of_getElem? ht
  have : t = 38∨t = 30 := by simp at hm; first | exact hm | (rcases hm with hh | hh <;> simp [hh]) | (rcases hm with hh | hh | hh <;> simp [hh]) | (rcases hm with hh | hh | hh | hh <;> simp [hh]) | (rcases hm with hh | hh | hh | hh | hh <;> simp [hh]) | (rcases hm with hh | hh | hh | hh | hh | hh <;> simp [hh]) | (rcases hm with hh | hh | hh | hh | hh | hh | hh <;> simp [hh]) | (rcases hm with hh | hh | hh | hh | hh | hh | hh | hh <;> simp [hh])
  rcases this with rfl|rfl
  · exact (show Tryd.prog.wantsStandIn 38 = false by kernel_rfl)
  · exact (show Tryd.prog.wantsStandIn 30 = false by kernel_rfl)

theorem masterReads_holds : Rows.MasterReadsCardSaid :=
  Claim7.holds_tied_plain_at .later [] _ _ _ _ masterReads_said (fun _ h => by cases h) (by kernel_rfl) (fun _ h => by cases h) masterReads_row_tie rfl ⟨rfl, rfl⟩ (by kernel_rfl) rfl masterReads_plain (by kernel_rfl)
#print axioms masterReads_holds
end Go.Proofs.YtgelgjghmoddoaaDoor
