/-
  Proved: for every list of bytes b and all numbers width and n the statement OctetRefuses answers true and leaves b as it reads.
  Conditions: none beyond the row's own (each slice of the form's reach).
-/
import Derived.Test.YtaldpngilgaciaaLaw1
import Derived.Test.YtaldpngilgaciaaRows
import Derived.Test.YtaldpngilgaciaaRow
import Derived.Deep.LoopGhost
import Derived.Deep.DeepCutAuto
import Derived.Deep.CutBlock
set_option linter.unusedVariables false
set_option linter.unusedSimpArgs false
namespace Go.Proofs.Ytaldpngilgaciaa
open Go.RowKit Go.Tm Go.ChangeShapes Go.WideShapes Go.ChangeAt
open Go.ChangeMaps (open_string shut_string)
set_option maxHeartbeats 400000
set_option maxRecDepth 100000


theorem numE_zero (n : Int) (l : List UInt8) (h : numE n l ≠ 0) : numV n l = 0 ∧ numL n l = l := ⟨if_neg h, if_neg h⟩
theorem intE_zero (l : List UInt8) (h : intE l ≠ 0) : intV l = 0 ∧ intL l = l := ⟨if_neg h, if_neg h⟩
theorem rowE_zero (n : Int) (l : List UInt8) (h : rowE n l ≠ 0) : rowV n l = [] ∧ rowL n l = l := ⟨if_neg h, if_neg h⟩
theorem intV_le (l : List UInt8) : intV l ≤ 1152921504606846976 := by
  unfold intV
  split
  · rename_i h
    unfold intE at h
    split at h
    · omega
    · split at h <;> omega
  · omega
theorem rowV_length (n : Int) (l : List UInt8) (h : rowE n l = 0) : (n = ((rowV n l).length : Int)) := by
  unfold rowV
  rw [if_pos h]
  unfold rowE at h
  split at h
  · omega
  · split at h
    · omega
    · simp; omega
theorem numL_le (n : Int) (l : List UInt8) : (numL n l).length ≤ l.length := by unfold numL; split <;> simp
theorem intL_le (l : List UInt8) : (intL l).length ≤ l.length := by unfold intL; split <;> simp
theorem rowL_le (n : Int) (l : List UInt8) : (rowL n l).length ≤ l.length := by unfold rowL; split <;> simp

/-- Two readers of the same rest. -/
structure Two (w : World) (B r t : Nat) (T : TypeId) (l : List UInt8) : Prop where
  one : IsR w r T l
  two : IsR w t T l
  ne : r ≠ t
  hr : B ≤ r
  ht : B ≤ t

set_option maxHeartbeats 4000000 in
theorem octetRefuses_walk {w : World} {A : Option Addr} {n c : Nat} {l : List UInt8} (h : Rda w A c l) (hn : n = l.length) (hl : l.length ≤ 140737488355328) (x y : Int) (hx : x ≤ 9223372036854775807) (hy : y ≤ 9223372036854775807) :
    Calls Try.prog 8 #[.slice A n c, .int .i64 x, .int .i64 y] w fun e w' => e = .returned (.bool true) ∧ Below w.heap.size w w' := by
  subst hn
  go_enter Try.func8, Try.ntmps8
  go_wp2_with fail
  refine (newReader_any h rfl hl).mono ?_
  rintro e w1 ⟨r, rfl, hr1, hR1, hb1⟩
  go_wp2_with fail
  refine (newReader_any (h.below hb1) rfl hl).mono ?_
  rintro e w2 ⟨t, rfl, ht2, hT2, hb2⟩
  go_wp2_with fail
  refine (known_any _).mono ?_
  rintro e w3 ⟨rfl, hb3⟩
  have hB3 := below_then (below_then hb1 hb2) hb3
  have hT3 : Two w3 w.heap.size r t 75 l := ⟨(hR1.below hb2).below hb3, hT2.below hb3, by have := hR1.lt; omega, hr1, by have := hb1.size; omega⟩
  clear hr1 hR1 hb1 ht2 hT2 hb2 hb3 h
  go_wp2_with fail
  go_loopg [9] 41 (fun g i wr => ∃ k : Nat, ∃ m : List UInt8, k + g = 41 ∧ i = .int .i64 k ∧ m.length ≤ l.length ∧ Two wr w.heap.size r t 75 m ∧ Below w.heap.size w wr)
  case atStart => exact ⟨0, l, by omega, rfl, Nat.le_refl _, hT3, hB3⟩
  case round =>
    obtain ⟨k, m, hk, rfl, hm, hT, hB⟩ := hrel
    clear hT3 hB3
    by_cases hk40 : k < 40
    · have hm0 : 0 < m.length ∨ m = [] := by cases m <;> simp
      rcases hm0 with hm0 | rfl
      · obtain ⟨E, V, L, hE, hV, hL⟩ : ∃ E V L, numE x m = E ∧ numV x m = V ∧ numL x m = L := ⟨_, _, _, rfl, rfl, rfl⟩
        have hEV := numE_zero x m
        have hLle := numL_le x m
        rw [hE, hV, hL] at hEV
        rw [hL] at hLle
        have hNum : ∀ (W : World) (p : Nat), IsR W p 75 m → Calls Try.prog 24 #[.pointer (some ⟨p, 0, none⟩), .int .i64 x] W fun e w' => e = .returned (.tuple #[.int .u64 (V : Nat), .int .i64 E]) ∧ W.grownBy w' (some p) ∧ IsR w' p 75 L := fun W p hp => by
          have := number_any hp x (by omega)
          rwa [hE, hV, hL] at this
        have HNum := Lib.hid hNum
        have HEV := Lib.hid hEV
        clear hE hV hL hNum hEV
        go_wp2_with fail
        refine (left_any hT.one).mono ?_
        rintro e w4 ⟨rfl, rfl⟩
        go_wp2_with fail
        refine (HNum.out _ _ hT.one).mono ?_
        rintro e w4 ⟨rfl, hg4, hR4⟩
        have hT4 := hT.two.boxed hT.one (Ne.symm hT.ne) hg4
        have hB4 := hB.grown hg4 hB.size (fun q e => by simp at e; have := hT.hr; omega)
        have hr' := hT.hr
        have ht' := hT.ht
        have hne := hT.ne
        clear hT hg4 hB
        go_upto_if 52 with (fail)
        go_cut [] (fun wx => Two wx w.heap.size r t 75 L ∧ Below w.heap.size w wx)
        case first =>
          by_cases he : E = 0
          · subst he
            go_wp2_with fail
            refine (HNum.out _ _ hT4).mono ?_
            rintro e w5 ⟨rfl, hg5, hR5⟩
            have hB5 := hB4.grown hg5 hB4.size (fun q e => by simp at e; omega)
            go_wp2_with fail
            go_meet
            exact ⟨⟨hR4.boxed hT4 hne hg5, hR5, hne, hr', ht'⟩, hB5⟩
          · obtain ⟨hv0, hl0⟩ := HEV.out he
            go_wp2_with fail
            go_meet
            have hl0 : L = m := (HEV.out he).2
            exact ⟨⟨hR4, by rw [hl0]; exact hT4, hne, hr', ht'⟩, hB4⟩
        case rest =>
          obtain ⟨hT5, hB5⟩ := hcut
          clear hR4 hT4 hB4
          obtain ⟨E2, V2, L2, hE2, hV2, hL2⟩ : ∃ E2 V2 L2, intE L = E2 ∧ intV L = V2 ∧ intL L = L2 := ⟨_, _, _, rfl, rfl, rfl⟩
          have hEV2 := intE_zero L
          have hLle2 := intL_le L
          have hVle2 := intV_le L
          rw [hE2, hV2, hL2] at hEV2
          rw [hL2] at hLle2
          rw [hV2] at hVle2
          have hInt : ∀ (W : World) (p : Nat), IsR W p 75 L → Calls Try.prog 31 #[.pointer (some ⟨p, 0, none⟩)] W fun e w' => e = .returned (.tuple #[.int .i64 (V2 : Nat), .int .i64 E2]) ∧ W.grownBy w' (some p) ∧ IsR w' p 75 L2 := fun W p hp => by
            have := int_any hp
            rwa [hE2, hV2, hL2] at this
          have HInt := Lib.hid hInt
          have HEV2 := Lib.hid hEV2
          clear hE2 hV2 hL2 hInt hEV2
          go_wp2_with fail
          refine (HInt.out _ _ hT5.one).mono ?_
          rintro e w6 ⟨rfl, hg6, hR6⟩
          have hT6 := hT5.two.boxed hT5.one (Ne.symm hne) hg6
          have hB6 := hB5.grown hg6 hB5.size (fun q e => by simp at e; omega)
          clear hT5 hg6 hB5
          go_upto_if 72 with (fail)
          go_cut [] (fun wx => Two wx w.heap.size r t 75 L2 ∧ Below w.heap.size w wx)
          case first =>
            by_cases he : E2 = 0
            · subst he
              go_wp2_with fail
              refine (HInt.out _ _ hT6).mono ?_
              rintro e w5 ⟨rfl, hg5, hR5⟩
              have hB5 := hB6.grown hg5 hB6.size (fun q e => by simp at e; omega)
              go_wp2_with fail
              go_meet
              exact ⟨⟨hR6.boxed hT6 hne hg5, hR5, hne, hr', ht'⟩, hB5⟩
            · go_wp2_with fail
              go_meet
              have hl0 : L2 = L := (HEV2.out he).2
              exact ⟨⟨hR6, by rw [hl0]; exact hT6, hne, hr', ht'⟩, hB6⟩
          case rest =>
            obtain ⟨hT7, hB7⟩ := hcut
            clear hR6 hT6 hB6
            obtain ⟨E3, V3, L3, hE3, hV3, hL3⟩ : ∃ E3 V3 L3, rowE y L2 = E3 ∧ rowV y L2 = V3 ∧ rowL y L2 = L3 := ⟨_, _, _, rfl, rfl, rfl⟩
            have hEV3 := rowE_zero y L2
            have hLle3 := rowL_le y L2
            have hlen3 := rowV_length y L2
            rw [hE3, hV3, hL3] at hEV3
            rw [hL3] at hLle3
            rw [hE3, hV3] at hlen3
            have hRow : ∀ (W : World) (p : Nat), IsR W p 75 L2 → Calls Try.prog 23 #[.pointer (some ⟨p, 0, none⟩), .int .i64 y] W fun e w' => ∃ A' c', e = .returned (.tuple #[.slice A' V3.length c', .int .i64 E3]) ∧ NewR 5 p W w' A' c' V3 ∧ IsR w' p 75 L3 := fun W p hp => by
              have := row_any hp y (by omega) hy
              rwa [hE3, hV3, hL3] at this
            have HRow := Lib.hid hRow
            have HEV3 := Lib.hid hEV3
            have HLen3 := Lib.hid hlen3
            clear hE3 hV3 hL3 hRow hEV3 hlen3
            go_wp2_with fail
            refine (HRow.out _ _ hT7.one).mono ?_
            rintro e w8 ⟨A8, c8, rfl, hN8, hR8⟩
            have hg8 := hN8.grown
            have hT8 := hT7.two.boxed hT7.one (Ne.symm hne) hg8
            have hB8 := hB7.grown hg8 hB7.size (fun q e => by simp at e; omega)
            have hA8 := hN8.rda
            clear hT7 hg8 hB7
            go_upto_if 100 with (fail)
            go_cut [] (fun wx => Two wx w.heap.size r t 75 L3 ∧ Below w.heap.size w wx)
            case first =>
              by_cases he : E3 = 0
              · have hyl := Lib.hid (HLen3.out he)
                subst he
                go_wp2_with fail
                refine (HRow.out _ _ hT8).mono ?_
                rintro e w5 ⟨A9, c9, rfl, hN9, hR9⟩
                have hg5 := hN9.grown
                have hB5 := hB8.grown hg5 hB8.size (fun q e => by simp at e; omega)
                have hR8' := hR8.boxed hT8 hne hg5
                obtain ⟨Ab, cb, hbx, _⟩ := hT8.is
                have hA9 := hA8.boxed hbx hg5
                clear hbx
                go_wp2_with fail
                refine (same_yes hA9 hN9.rda rfl rfl rfl).mono ?_
                rintro e w6 ⟨rfl, hb6⟩
                have hB6 := below_then hB5 hb6
                have hyl2 : y = (V3.length : Int) := hyl.out
                have hyl3 : ((V3.length : Int) != y) = false := by rw [← hyl2]; simp
                clear hyl2
                go_wp2_with fail
                go_meet
                exact ⟨⟨hR8'.below hb6, hR9.below hb6, hne, hr', ht'⟩, hB6⟩
              · go_wp2_with fail
                go_meet
                have hl0 : L3 = L2 := (HEV3.out he).2
                exact ⟨⟨hR8, by rw [hl0]; exact hT8, hne, hr', ht'⟩, hB8⟩
            case rest =>
              obtain ⟨hT9, hB9⟩ := hcut
              clear hR8 hT8 hB8
              go_upto_region 23 with fail
              go_cut [150] (fun s wx => s = .bool false ∧ wx = wc)
              case first =>
                have c1 : E = 0 ∨ (E ≠ 0 ∧ V = 0) := by
                  by_cases he : E = 0
                  · exact .inl he
                  · exact .inr ⟨he, (HEV.out he).1⟩
                have c2 : E2 = 0 ∨ (E2 ≠ 0 ∧ V2 = 0) := by
                  by_cases he : E2 = 0
                  · exact .inl he
                  · exact .inr ⟨he, (HEV2.out he).1⟩
                have c3 : E3 = 0 ∨ (E3 ≠ 0 ∧ V3 = []) := by
                  by_cases he : E3 = 0
                  · exact .inl he
                  · exact .inr ⟨he, (HEV3.out he).1⟩
                rcases c1 with rfl | ⟨e1, rfl⟩ <;> rcases c2 with rfl | ⟨e2, rfl⟩ <;> rcases c3 with rfl | ⟨e3, rfl⟩
                all_goals
                  go_wp2_with fail
                  refine (left_any hT9.one).mono ?_
                  rintro e wz ⟨rfl, rfl⟩
                  go_wp2_with fail
                  refine (left_any hT9.two).mono ?_
                  rintro e wz ⟨rfl, rfl⟩
                  go_wp2_with fail
                  go_meet
                  exact ⟨rfl, rfl⟩
              case rest =>
                obtain ⟨rfl, rfl⟩ := hcut
                go_wp2_with fail
                refine (row_any hT9.one 1 (by omega) (by omega)).mono ?_
                rintro e w10 ⟨A10, c10, rfl, hN10, hR10⟩
                have hT10 := hT9.two.boxed hT9.one (Ne.symm hne) hN10.grown
                have hB10 := hB9.grown hN10.grown hB9.size (fun q e => by simp at e; omega)
                go_wp2_with fail
                refine (row_any hT10 1 (by omega) (by omega)).mono ?_
                rintro e w11 ⟨A11, c11, rfl, hN11, hR11⟩
                have hR11' := hR10.boxed hT10 hne hN11.grown
                have hB11 := hB10.grown hN11.grown hB10.size (fun q e => by simp at e; omega)
                have hle := rowL_le 1 L3
                have hle2 : (rowL 1 L3).length ≤ l.length := by omega
                clear hN10 hT9 hT10 hR10 hB9 hB10 hN11
                go_wp2_with fail
                go_roundg (gk - 1)
                case measure => omega
                case rel => exact ⟨k + 1, _, by omega, by go_num, hle2, ⟨hR11', hR11, hne, hr', ht'⟩, hB11⟩
      · go_wp2_with fail
        refine (left_any hT.one).mono ?_
        rintro e w4 ⟨rfl, rfl⟩
        go_wp2_with fail
        refine (left_any hT.one).mono ?_
        rintro e w4 ⟨rfl, rfl⟩
        go_wp2_with fail
        refine (left_any hT.two).mono ?_
        rintro e w4 ⟨rfl, rfl⟩
        go_wp2_with fail
        go_ret
        exact ⟨rfl, hB⟩
    · go_wp2_with fail
      refine (left_any hT.one).mono ?_
      rintro e w4 ⟨rfl, rfl⟩
      go_wp2_with fail
      refine (left_any hT.two).mono ?_
      rintro e w4 ⟨rfl, rfl⟩
      go_wp2_with fail
      go_ret
      exact ⟨by simp, hB⟩

theorem octetRefuses_contract (H : Type) (enc : TypeId × Value → H) (W : World) (base : Nat) (args : Array Value) (ds gs : List (DataW H)) (before : List MemPlace)
    (hval0 : ∀ (j : Nat) t v, Try.f8.params[j]? = some t → args[j]? = some v → Value.okWide Try.prog W .any base t v)
    (hW : DataW.Whole enc Try.prog Try.f8.params.toList Rows.octetRefusesSpec.vars false W args.toList ds gs before) (hsz : (DataW.weightsEach Try.checked.prog (Try.f8.params.toList ++ Rows.octetRefusesSpec.plain.varTypes Try.checked.prog) (ds ++ gs)).all (· ≤ reachBytes) = true) :
    Calls Try.prog 8 args W fun e W' => ∃ v, e = .returned v ∧ Rows.octetRefusesSpec.post enc Try.prog Try.f8 false true false false W args v W' := by
  have hval : ∀ (j : Nat) t v, Try.f8.params[j]? = some t → args[j]? = some v → Value.okWide Try.prog W .any base t v := hval0
  have hW' := hW
  obtain ⟨p, q, hA0, hV, rfl, hfz, hnd⟩ := hW
  have hA : DataW.TrodAll enc Try.prog W 0 (fun _ => true) true Try.f8.params.toList args.toList ds p := hA0
  rw [Try.params8] at hA hval
  obtain ⟨v0, vs0, d0, ds0, p0, q0, hargs, rfl, rfl, h0, rr0⟩ := trodAll_cons hA
  obtain ⟨v1, vs1, d1, ds1, p1, q1, rfl, rfl, rfl, h1, rr1⟩ := trodAll_cons rr0
  obtain ⟨v2, vs2, d2, ds2, p2, q2, rfl, rfl, rfl, h2, rr2⟩ := trodAll_cons rr1
  obtain ⟨rfl, rfl, rfl⟩ := trodAll_nil rr2
  obtain rfl : args = #[v0, v1, v2] := by cases args; simp_all
  obtain ⟨rfl, rfl⟩ := trodVars_none hV
  obtain ⟨a0, len0, cap0, rfl⟩ := okWide_slice Try.underlying22 (hval 0 22 v0 rfl rfl)
  have k0 := h0
  have lt0 : ∀ x ∈ p0, x.block < W.heap.size := by obtain ⟨m, hm⟩ := k0; exact DataW.trod_lt m _ _ _ hm
  obtain ⟨l0, n0, r0, dd0⟩ : ∃ l : List UInt8, len0 = l.length ∧ Rda W a0 cap0 l ∧ RowOf d0 l := by
    obtain ⟨fuel, hf⟩ := h0
    obtain ⟨A, l, c, hv, hr, hx⟩ := open_bytes tU8 (by kernel_rfl) (by simpa [Value.cells] using hf)
    obtain ⟨rfl, rfl, rfl⟩ : a0 = A ∧ len0 = l.length ∧ cap0 = c := by simpa using hv
    exact ⟨l, rfl, hr, hx⟩
  obtain ⟨x1, rfl, rfl, rfl, w1⟩ := open_int Try.underlying3 (hval 1 3 v1 rfl rfl) h1
  have b1 := bounds_i64 w1
  obtain ⟨x2, rfl, rfl, rfl, w2⟩ := open_int Try.underlying3 (hval 2 3 v2 rfl rfl) h2
  have b2 := bounds_i64 w2
  have s0 : l0.length ≤ 140737488351232 := by
    rcases dd0 with ⟨_, h⟩ | ⟨zs, sp, hd, hl⟩
    · rw [h]; simp
    · subst hd
      have := sized_slice hsz (j := 0) (t := 22) (e := 5) rfl rfl Try.underlying22
      rw [show Try.checked.prog.bytesOf 5 = 1 from by kernel_rfl] at this
      unfold lits at this
      simp only [List.length_map] at this
      have h47 : reachBytes ≤ 140737488351232 := by decide
      omega
  clear hA0 hval0
  refine (octetRefuses_walk r0 n0 (by omega) x1 x2 b1.2 b2.2).mono fun e W' ⟨he, bel⟩ => ?_
  subst he
  exact ⟨_, rfl, _, _, _, [], _, [], hW', trodAll_mk1 (shut_bool Try.underlying4 _), (trodAll_cons_mk (Below.trod laid_out (by kernel_rfl) (of_decide_eq_true (by kernel_rfl)) k0 bel lt0) (trodAll_cons_mk (shut_int Try.underlying3 w1) (trodAll_cons_mk (shut_int Try.underlying3 w2) trodAll_mk0))), rfl, bel.frame _, fun h => by cases h⟩

theorem octetRefuses_lifted (os : Os) (started : os.Started) (H : Type) (enc : TypeId × Value → H) :
    ReturnsInHanded {} Try.checked os 8 .any (Rows.octetRefusesSpec.pre6 enc Try.prog Try.f8 Rows.octetRefusesRow.domain false) (Rows.octetRefusesSpec.post enc Try.prog Try.f8 false true false false) := by
  refine returnsInHanded_of_change_sized (C := Try.checked) own_knob started (by kernel_rfl) Try.func8
    (ChangeSpec.witness6 (enc := enc) (C := Try.checked) false ⟨#[], #[.slice none 0 0, .int .i64 0, .int .i64 0], []⟩ 8 (by kernel_rfl) (by kernel_rfl) (by kernel_rfl) (by kernel_rfl)) ?_
  intro W base args ds gs before hval hW _ hsz _
  exact octetRefuses_contract H enc W base args ds gs before hval hW hsz

theorem octetRefuses_holds : Rows.OctetRefusesSaid :=
  OpenClaim.holds_of_wide 8 Try.f8 rfl rfl rfl rfl rfl rfl rfl ⟨rfl, rfl, rfl, rfl, rfl⟩ rfl rfl rfl rfl rfl (by kernel_rfl) Try.func8 (by kernel_rfl)
    (of_decide_eq_true (by kernel_rfl)) (by unfold Func.isWrapper; first | (rw [if_pos (by decide +kernel)]; kernel_rfl) | (rw [if_neg (by decide +kernel)]; exact ⟨rfl, rfl⟩))
    (fun os started H enc _ => octetRefuses_lifted os started H enc)
#print axioms octetRefuses_holds
end Go.Proofs.Ytaldpngilgaciaa
