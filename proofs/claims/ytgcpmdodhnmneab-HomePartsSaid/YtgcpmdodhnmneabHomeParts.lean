import Derived.Test.YtgcpmdodhnmneabLaw5
import Derived.Test.YtgcpmdodhnmneabRow
/- HomeParts: the walk. -/
set_option linter.unusedVariables false
set_option linter.unusedSimpArgs false
namespace Go.Proofs.Ytgcpmdodhnmneab
open Go.RowKit Go.Tm Go.ChangeShapes Go.WideShapes Go.ChangeAt
set_option maxHeartbeats 400000
set_option maxRecDepth 100000

theorem homeParts_any {w : World} (key other pages keys : Int) :
    Calls Try.prog 7 #[.int .i64 key, .int .i64 other, .int .i64 pages, .int .i64 keys] w fun e w' => e = .returned (.bool true) ∧ Below w.heap.size w w' := by
  obtain ⟨p0, hp⟩ : ∃ p0, pages % 16 = p0 := ⟨_, rfl⟩
  have hp0 : 0 ≤ p0 := by rw [← hp]; exact Int.emod_nonneg _ (by decide)
  have hp1 : p0 < 16 := by rw [← hp]; exact Int.emod_lt_of_pos _ (by decide)
  obtain ⟨n0, hn⟩ : ∃ n0, keys % 1048576 = n0 := ⟨_, rfl⟩
  have hn0 : 0 ≤ n0 := by rw [← hn]; exact Int.emod_nonneg _ (by decide)
  have hn1 : n0 < 1048576 := by rw [← hn]; exact Int.emod_lt_of_pos _ (by decide)
  have P1 := fun W => into5_any pages 16 (by decide) (by decide) W
  have P2 := fun W => into5_any keys 1048576 (by decide) (by decide) W
  rw [hp] at P1
  rw [hn] at P2
  have H1 := Lib.hid P1
  have H2 := Lib.hid P2
  clear P1 P2 hp hn
  obtain ⟨p, hpp⟩ : ∃ p, 1 + p0 = p := ⟨_, rfl⟩
  obtain ⟨n, hnn⟩ : ∃ n, 1 + n0 = n := ⟨_, rfl⟩
  have q0 : 1 ≤ p := by omega
  have q1 : p ≤ 16 := by omega
  have m0 : 1 ≤ n := by omega
  have m1 : n ≤ 1048576 := by omega
  have P3 := fun W => into5_any key n (by omega) (by omega) W
  have P4 := fun W => into5_any other n (by omega) (by omega) W
  obtain ⟨k, hk⟩ : ∃ k, key % n = k := ⟨_, rfl⟩
  have k0 : 0 ≤ k := by rw [← hk]; exact Int.emod_nonneg _ (by omega)
  have k1 : k < n := by rw [← hk]; exact Int.emod_lt_of_pos _ (by omega)
  obtain ⟨o, ho⟩ : ∃ o, other % n = o := ⟨_, rfl⟩
  have o0 : 0 ≤ o := by rw [← ho]; exact Int.emod_nonneg _ (by omega)
  have o1 : o < n := by rw [← ho]; exact Int.emod_lt_of_pos _ (by omega)
  rw [hk] at P3
  rw [ho] at P4
  have P5 := fun W => of_any k p n W
  have P6 := fun W => of_any o p n W
  have P7 := fun W => of_any (k + 1) p n W
  have P8 := fun W => into5_any (k - o) p (by omega) (by omega) W
  have e5 : ofE k p n = 0 := by unfold ofE; rw [if_neg (by omega), if_neg (by omega)]
  have e6 : ofE o p n = 0 := by unfold ofE; rw [if_neg (by omega), if_neg (by omega)]
  have v5 : ofV k p n = k % p := if_pos e5
  have v6 : ofV o p n = o % p := if_pos e6
  rw [e5, v5] at P5
  rw [e6, v6] at P6
  have hab : (k % p = o % p) ↔ (k - o) % p = 0 := Int.emod_eq_emod_iff_emod_sub_eq_zero
  have hcc : (k + 1) % p = (k % p + 1) % p := by rw [Int.emod_add_emod]
  obtain ⟨a, ha⟩ : ∃ a, k % p = a := ⟨_, rfl⟩
  have a0 : 0 ≤ a := by rw [← ha]; exact Int.emod_nonneg _ (by omega)
  have a1 : a < p := by rw [← ha]; exact Int.emod_lt_of_pos _ (by omega)
  obtain ⟨b, hb⟩ : ∃ b, o % p = b := ⟨_, rfl⟩
  rw [ha] at P5 hab hcc
  rw [hb] at P6 hab
  obtain ⟨s, hs⟩ : ∃ s, (k - o) % p = s := ⟨_, rfl⟩
  rw [hs] at P8 hab
  have hbool : (a == b) = (s == 0) := by
    rw [Bool.eq_iff_iff, beq_iff_eq, beq_iff_eq]
    exact hab
  have HB := Lib.hid hbool
  have H3 := Lib.hid P3
  have H4 := Lib.hid P4
  have H5 := Lib.hid P5
  have H6 := Lib.hid P6
  have H8 := Lib.hid P8
  have HP := Lib.hid hpp
  have HN := Lib.hid hnn
  by_cases hlast : k + 1 = n
  · have e7 : ofE (k + 1) p n = 50 := by unfold ofE; rw [if_neg (by omega), if_pos (by omega)]
    obtain ⟨v7, hv7⟩ : ∃ v, ofV (k + 1) p n = v := ⟨_, rfl⟩
    rw [e7, hv7] at P7
    have hl2 : (k + 1 == n) = true := by rw [beq_iff_eq]; exact hlast
    have H7 := Lib.hid P7
    clear P3 P4 P5 P6 P7 P8 hk ho e5 e6 v5 v6 hab hcc ha hb hs hbool e7 hv7 hlast hpp hnn
    go_enter Try.func7, Try.ntmps7
    go_wp2_with fail
    refine (H1.out _).mono ?_
    rintro e w1 ⟨rfl, rfl⟩
    go_wp2_with fail
    refine (H2.out _).mono ?_
    rintro e w1 ⟨rfl, rfl⟩
    go_wp2_with fail
    simp only [HP.out, HN.out]
    refine (H3.out _).mono ?_
    rintro e w1 ⟨rfl, rfl⟩
    go_wp2_with fail
    refine (H4.out _).mono ?_
    rintro e w1 ⟨rfl, rfl⟩
    go_wp2_with fail
    refine (H5.out _).mono ?_
    rintro e w1 ⟨rfl, rfl⟩
    go_wp2_with fail
    refine (H6.out _).mono ?_
    rintro e w1 ⟨rfl, rfl⟩
    go_wp2_with fail
    refine known5_any.mono ?_
    rintro e w1 ⟨rfl, hbw⟩
    go_wp2_with fail
    refine (H8.out _).mono ?_
    rintro e w2 ⟨rfl, rfl⟩
    have hb2 := HB.out
    go_wp2_with fail
    refine (H7.out _).mono ?_
    rintro e w2 ⟨rfl, rfl⟩
    go_wp2_with fail
    go_ret
    exact ⟨rfl, hbw⟩
  · have e7 : ofE (k + 1) p n = 0 := by unfold ofE; rw [if_neg (by omega), if_neg (by omega)]
    have v7 : ofV (k + 1) p n = (a + 1) % p := by unfold ofV; rw [if_pos e7, hcc]
    rw [e7, v7] at P7
    have hl2 : (k + 1 == n) = false := by rw [beq_eq_false_iff_ne]; exact hlast
    have H7 := Lib.hid P7
    clear P3 P4 P5 P6 P7 P8 hk ho e5 e6 v5 v6 hab hcc ha hb hs hbool e7 v7 hlast hpp hnn
    go_enter Try.func7, Try.ntmps7
    go_wp2_with fail
    refine (H1.out _).mono ?_
    rintro e w1 ⟨rfl, rfl⟩
    go_wp2_with fail
    refine (H2.out _).mono ?_
    rintro e w1 ⟨rfl, rfl⟩
    go_wp2_with fail
    simp only [HP.out, HN.out]
    refine (H3.out _).mono ?_
    rintro e w1 ⟨rfl, rfl⟩
    go_wp2_with fail
    refine (H4.out _).mono ?_
    rintro e w1 ⟨rfl, rfl⟩
    go_wp2_with fail
    refine (H5.out _).mono ?_
    rintro e w1 ⟨rfl, rfl⟩
    go_wp2_with fail
    refine (H6.out _).mono ?_
    rintro e w1 ⟨rfl, rfl⟩
    go_wp2_with fail
    refine known5_any.mono ?_
    rintro e w1 ⟨rfl, hbw⟩
    go_wp2_with fail
    refine (H8.out _).mono ?_
    rintro e w2 ⟨rfl, rfl⟩
    have hb2 := HB.out
    go_wp2_with fail
    refine (H7.out _).mono ?_
    rintro e w2 ⟨rfl, rfl⟩
    go_wp2_with fail
    go_ret
    exact ⟨rfl, hbw⟩

theorem homeParts_contract (H : Type) (enc : TypeId × Value → H) (W : World) (base : Nat) (args : Array Value) (ds gs : List (DataW H)) (before : List MemPlace)
    (hval0 : ∀ (j : Nat) t v, Try.f7.params[j]? = some t → args[j]? = some v → Value.okWide Try.prog W .any base t v)
    (hW : DataW.Whole enc Try.prog Try.f7.params.toList Rows.homePartsSpec.vars false W args.toList ds gs before) (hsz : (DataW.weightsEach Try.checked.prog (Try.f7.params.toList ++ Rows.homePartsSpec.plain.varTypes Try.checked.prog) (ds ++ gs)).all (· ≤ reachBytes) = true) :
    Calls Try.prog 7 args W fun e W' => ∃ v, e = .returned v ∧ Rows.homePartsSpec.post enc Try.prog Try.f7 false true false false W args v W' := by
  have hval : ∀ (j : Nat) t v, Try.f7.params[j]? = some t → args[j]? = some v → Value.okWide Try.prog W .any base t v := hval0
  have hW' := hW
  obtain ⟨p, q, hA0, hV, rfl, hfz, hnd⟩ := hW
  have hA : DataW.TrodAll enc Try.prog W 0 (fun _ => true) true Try.f7.params.toList args.toList ds p := hA0
  rw [Try.params7] at hA hval
  obtain ⟨v0, vs0, d0, ds0, p0, q0, hargs, rfl, rfl, h0, rr0⟩ := trodAll_cons hA
  obtain ⟨v1, vs1, d1, ds1, p1, q1, rfl, rfl, rfl, h1, rr1⟩ := trodAll_cons rr0
  obtain ⟨v2, vs2, d2, ds2, p2, q2, rfl, rfl, rfl, h2, rr2⟩ := trodAll_cons rr1
  obtain ⟨v3, vs3, d3, ds3, p3, q3, rfl, rfl, rfl, h3, rr3⟩ := trodAll_cons rr2
  obtain ⟨rfl, rfl, rfl⟩ := trodAll_nil rr3
  obtain rfl : args = #[v0, v1, v2, v3] := by cases args; simp_all
  obtain ⟨rfl, rfl⟩ := trodVars_none hV
  obtain ⟨x0, rfl, rfl, rfl, w0⟩ := open_int Try.underlying3 (hval 0 3 v0 rfl rfl) h0
  have b0 := bounds_i64 w0
  obtain ⟨x1, rfl, rfl, rfl, w1⟩ := open_int Try.underlying3 (hval 1 3 v1 rfl rfl) h1
  have b1 := bounds_i64 w1
  obtain ⟨x2, rfl, rfl, rfl, w2⟩ := open_int Try.underlying3 (hval 2 3 v2 rfl rfl) h2
  have b2 := bounds_i64 w2
  obtain ⟨x3, rfl, rfl, rfl, w3⟩ := open_int Try.underlying3 (hval 3 3 v3 rfl rfl) h3
  have b3 := bounds_i64 w3
  clear hA0 hval0
  refine (homeParts_any x0 x1 x2 x3).mono fun e W' ⟨he, bel⟩ => ?_
  subst he
  exact ⟨_, rfl, _, _, _, [], _, [], hW', trodAll_mk1 (shut_bool Try.underlying4 _), (trodAll_cons_mk (shut_int Try.underlying3 w0) (trodAll_cons_mk (shut_int Try.underlying3 w1) (trodAll_cons_mk (shut_int Try.underlying3 w2) (trodAll_cons_mk (shut_int Try.underlying3 w3) trodAll_mk0)))), rfl, bel.frame _, fun h => by cases h⟩

theorem homeParts_lifted (os : Os) (started : os.Started) (H : Type) (enc : TypeId × Value → H) :
    ReturnsInHanded {} Try.checked os 7 .any (Rows.homePartsSpec.pre6 enc Try.prog Try.f7 Rows.homePartsRow.domain false) (Rows.homePartsSpec.post enc Try.prog Try.f7 false true false false) := by
  refine returnsInHanded_of_change_sized (C := Try.checked) own_knob started (by kernel_rfl) Try.func7
    (ChangeSpec.witness6 (enc := enc) (C := Try.checked) false ⟨#[], #[.int .i64 0, .int .i64 0, .int .i64 0, .int .i64 0], []⟩ 8 (by kernel_rfl) (by kernel_rfl) (by kernel_rfl) (by kernel_rfl)) ?_
  intro W base args ds gs before hval hW _ hsz _
  exact homeParts_contract H enc W base args ds gs before hval hW hsz

theorem homeParts_holds : Rows.HomePartsSaid :=
  OpenClaim.holds_of_wide 7 Try.f7 rfl rfl rfl rfl rfl rfl rfl ⟨rfl, rfl, rfl, rfl, rfl⟩ rfl rfl rfl rfl rfl (by kernel_rfl) Try.func7 (by kernel_rfl)
    (of_decide_eq_true (by kernel_rfl)) (by unfold Func.isWrapper; first | (rw [if_pos (by decide +kernel)]; kernel_rfl) | (rw [if_neg (by decide +kernel)]; exact ⟨rfl, rfl⟩))
    (fun os started H enc _ => homeParts_lifted os started H enc)
#print axioms homeParts_holds
end Go.Proofs.Ytgcpmdodhnmneab
