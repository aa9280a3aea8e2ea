import Derived.Test.YtgcpmdodhnmneabLaw5
import Derived.Test.YtgcpmdodhnmneabRow
/- HomeDoes: the walk. -/
set_option linter.unusedVariables false
set_option linter.unusedSimpArgs false
namespace Go.Proofs.Ytgcpmdodhnmneab
open Go.RowKit Go.Tm Go.ChangeShapes Go.WideShapes Go.ChangeAt
set_option maxHeartbeats 400000
set_option maxRecDepth 100000

theorem homeDoes_any {w : World} {A : Option Addr} {n c : Nat} {b : List UInt8} (h : Rda w A c b) (hn : n = b.length) (hsz : b.length ≤ 140737488351232) (key val : Int) (hv0 : 0 ≤ val) (hv1 : val < 18446744073709551616) :
    Calls Try.prog 4 #[.slice A n c, .int .i64 key, .int .u64 val] w fun e w' => e = .returned (.bool true) ∧ Below w.heap.size w w' := by
  subst hn
  have P1 := fun (W : World) (h : Rda W A c b) => find_any h rfl hsz key
  have P2 := fun (W : World) (h : Rda W A c b) => refFind_any h rfl hsz key
  have P3 := fun (W : World) (h : Rda W A c b) => value_any h rfl hsz key
  have P4 := fun (W : World) (h : Rda W A c b) => refValue_any h rfl hsz key
  have P5 := fun (W : World) (h : Rda W A c b) => put_any h rfl hsz key val hv0 hv1
  have P6 := fun (W : World) (h : Rda W A c b) => refPut5_any h rfl hsz key val hv0 hv1
  have P7 := fun (W : World) (h : Rda W A c b) => delete_any h rfl hsz key
  have P8 := fun (W : World) (h : Rda W A c b) => refDelete_any h rfl hsz key
  obtain ⟨I, hI⟩ : ∃ I, findI b key = I := ⟨_, rfl⟩
  obtain ⟨B, hB⟩ : ∃ B, findB b key = B := ⟨_, rfl⟩
  obtain ⟨V, hV⟩ : ∃ V, valueI b key = V := ⟨_, rfl⟩
  obtain ⟨C, hC⟩ : ∃ C, putV b key val = C := ⟨_, rfl⟩
  obtain ⟨E, hE⟩ : ∃ E, putE b key = E := ⟨_, rfl⟩
  obtain ⟨D, hD⟩ : ∃ D, delV b key = D := ⟨_, rfl⟩
  obtain ⟨G, hG⟩ : ∃ G, delB b key = G := ⟨_, rfl⟩
  rw [hI, hB] at P1 P2
  rw [hV, hB] at P3 P4
  rw [hC, hE] at P5 P6
  rw [hD, hG] at P7 P8
  have H1 := Lib.hid P1
  have H2 := Lib.hid P2
  have H3 := Lib.hid P3
  have H4 := Lib.hid P4
  have H5 := Lib.hid P5
  have H6 := Lib.hid P6
  have H7 := Lib.hid P7
  have H8 := Lib.hid P8
  clear P1 P2 P3 P4 P5 P6 P7 P8 hI hB hV hC hE hD hG hv1
  go_enter Try.func4, Try.ntmps4
  go_wp2_with fail
  refine (H1.out _ h).mono ?_
  rintro e w1 ⟨rfl, b1⟩
  go_wp2_with fail
  refine (H2.out _ (h.below b1)).mono ?_
  rintro e w2 ⟨rfl, hN⟩
  have b2 := below_then b1 hN
  clear hN b1
  go_wp2_with fail
  refine (H3.out _ (h.below b2)).mono ?_
  rintro e w3 ⟨rfl, hN⟩
  have b3 := below_then b2 hN
  clear hN b2
  go_wp2_with fail
  refine (H4.out _ (h.below b3)).mono ?_
  rintro e w4 ⟨rfl, hN⟩
  have b4 := below_then b3 hN
  clear hN b3
  go_wp2_with fail
  refine known5_any.mono ?_
  rintro e w5 ⟨rfl, hN⟩
  have b5 := below_then b4 hN
  clear hN b4
  go_wp2_with fail
  refine (H5.out _ (h.below b5)).mono ?_
  rintro e w6 ⟨A6, c6, rfl, hN⟩
  have b6 := below_then b5 hN.below
  have r6 := hN.rda
  clear hN b5
  go_wp2_with fail
  refine (H6.out _ (h.below b6)).mono ?_
  rintro e w7 ⟨A7, c7, rfl, hN⟩
  have b7 := below_then b6 hN.below
  have r7 := r6.below hN.below
  have s7 := hN.rda
  clear hN b6 r6
  go_wp2_with fail
  refine (H7.out _ (h.below b7)).mono ?_
  rintro e w8 ⟨A8, c8, rfl, hN⟩
  have b8 := below_then b7 hN.below
  have r8 := r7.below hN.below
  have s8 := s7.below hN.below
  have t8 := hN.rda
  clear hN b7 r7 s7
  go_wp2_with fail
  refine (H8.out _ (h.below b8)).mono ?_
  rintro e w9 ⟨A9, c9, rfl, hN⟩
  have b9 := below_then b8 hN.below
  have r9 := r8.below hN.below
  have s9 := s8.below hN.below
  have t9 := t8.below hN.below
  have u9' := hN.rda
  clear hN b8 r8 s8 t8
  go_wp2_with fail
  refine (same5_yes r9 s9 rfl rfl rfl).mono ?_
  rintro e wx ⟨rfl, rfl⟩
  go_wp2_with fail
  refine (same5_yes t9 u9' rfl rfl rfl).mono ?_
  rintro e wx ⟨rfl, rfl⟩
  go_wp2_with fail
  go_ret
  exact ⟨rfl, b9⟩

theorem homeDoes_contract (H : Type) (enc : TypeId × Value → H) (W : World) (base : Nat) (args : Array Value) (ds gs : List (DataW H)) (before : List MemPlace)
    (hval0 : ∀ (j : Nat) t v, Try.f4.params[j]? = some t → args[j]? = some v → Value.okWide Try.prog W .any base t v)
    (hW : DataW.Whole enc Try.prog Try.f4.params.toList Rows.homeDoesSpec.vars false W args.toList ds gs before) (hsz : (DataW.weightsEach Try.checked.prog (Try.f4.params.toList ++ Rows.homeDoesSpec.plain.varTypes Try.checked.prog) (ds ++ gs)).all (· ≤ reachBytes) = true) :
    Calls Try.prog 4 args W fun e W' => ∃ v, e = .returned v ∧ Rows.homeDoesSpec.post enc Try.prog Try.f4 false true false false W args v W' := by
  have hval : ∀ (j : Nat) t v, Try.f4.params[j]? = some t → args[j]? = some v → Value.okWide Try.prog W .any base t v := hval0
  have hW' := hW
  obtain ⟨p, q, hA0, hV, rfl, hfz, hnd⟩ := hW
  have hA : DataW.TrodAll enc Try.prog W 0 (fun _ => true) true Try.f4.params.toList args.toList ds p := hA0
  rw [Try.params4] at hA hval
  obtain ⟨v0, vs0, d0, ds0, p0, q0, hargs, rfl, rfl, h0, rr0⟩ := trodAll_cons hA
  obtain ⟨v1, vs1, d1, ds1, p1, q1, rfl, rfl, rfl, h1, rr1⟩ := trodAll_cons rr0
  obtain ⟨v2, vs2, d2, ds2, p2, q2, rfl, rfl, rfl, h2, rr2⟩ := trodAll_cons rr1
  obtain ⟨rfl, rfl, rfl⟩ := trodAll_nil rr2
  obtain rfl : args = #[v0, v1, v2] := by cases args; simp_all
  obtain ⟨rfl, rfl⟩ := trodVars_none hV
  obtain ⟨a0, len0, cap0, rfl⟩ := okWide_slice Try.underlying29 (hval 0 29 v0 rfl rfl)
  have k0 := h0
  have lt0 : ∀ x ∈ p0, x.block < W.heap.size := by obtain ⟨m, hm⟩ := k0; exact DataW.trod_lt m _ _ _ hm
  obtain ⟨l0, n0, r0, dd0⟩ : ∃ l : List UInt8, len0 = l.length ∧ Rda W a0 cap0 l ∧ RowOf d0 l := by
    obtain ⟨fuel, hf⟩ := h0
    obtain ⟨A, l, c, hv, hr, hx⟩ := open_bytes tU8 (by kernel_rfl) (by simpa [Value.cells] using hf)
    obtain ⟨rfl, rfl, rfl⟩ : a0 = A ∧ len0 = l.length ∧ cap0 = c := by simpa using hv
    exact ⟨l, rfl, hr, hx⟩
  obtain ⟨x1, rfl, rfl, rfl, w1⟩ := open_int Try.underlying3 (hval 1 3 v1 rfl rfl) h1
  have b1 := bounds_i64 w1
  obtain ⟨x2, rfl, rfl, rfl, w2⟩ := open_int Try.underlying30 (hval 2 30 v2 rfl rfl) h2
  have b2 := bounds_u64 w2
  have s0 : l0.length ≤ 140737488351232 := by
    rcases dd0 with ⟨_, h⟩ | ⟨zs, sp, hd, hl⟩
    · rw [h]; simp
    · subst hd
      have := sized_slice hsz (j := 0) (t := 29) (e := 5) rfl rfl Try.underlying29
      rw [show Try.checked.prog.bytesOf 5 = 1 from by kernel_rfl] at this
      unfold lits at this
      simp only [List.length_map] at this
      have h47 : reachBytes ≤ 140737488351232 := by decide
      omega
  clear hA0 hval0
  refine (homeDoes_any r0 n0 (by omega) x1 x2 b2.1 (by omega)).mono fun e W' ⟨he, bel⟩ => ?_
  subst he
  exact ⟨_, rfl, _, _, _, [], _, [], hW', trodAll_mk1 (shut_bool Try.underlying4 _), (trodAll_cons_mk (Below.trod laid_out (by kernel_rfl) (of_decide_eq_true (by kernel_rfl)) k0 bel lt0) (trodAll_cons_mk (shut_int Try.underlying3 w1) (trodAll_cons_mk (shut_int Try.underlying30 w2) trodAll_mk0))), rfl, bel.frame _, fun h => by cases h⟩

theorem homeDoes_lifted (os : Os) (started : os.Started) (H : Type) (enc : TypeId × Value → H) :
    ReturnsInHanded {} Try.checked os 4 .any (Rows.homeDoesSpec.pre6 enc Try.prog Try.f4 Rows.homeDoesRow.domain false) (Rows.homeDoesSpec.post enc Try.prog Try.f4 false true false false) := by
  refine returnsInHanded_of_change_sized (C := Try.checked) own_knob started (by kernel_rfl) Try.func4
    (ChangeSpec.witness6 (enc := enc) (C := Try.checked) false ⟨#[], #[.slice none 0 0, .int .i64 0, .int .u64 0], []⟩ 8 (by kernel_rfl) (by kernel_rfl) (by kernel_rfl) (by kernel_rfl)) ?_
  intro W base args ds gs before hval hW _ hsz _
  exact homeDoes_contract H enc W base args ds gs before hval hW hsz

theorem homeDoes_holds : Rows.HomeDoesSaid :=
  OpenClaim.holds_of_wide 4 Try.f4 rfl rfl rfl rfl rfl rfl rfl ⟨rfl, rfl, rfl, rfl, rfl⟩ rfl rfl rfl rfl rfl (by kernel_rfl) Try.func4 (by kernel_rfl)
    (of_decide_eq_true (by kernel_rfl)) (by unfold Func.isWrapper; first | (rw [if_pos (by decide +kernel)]; kernel_rfl) | (rw [if_neg (by decide +kernel)]; exact ⟨rfl, rfl⟩))
    (fun os started H enc _ => homeDoes_lifted os started H enc)
#print axioms homeDoes_holds
end Go.Proofs.Ytgcpmdodhnmneab
