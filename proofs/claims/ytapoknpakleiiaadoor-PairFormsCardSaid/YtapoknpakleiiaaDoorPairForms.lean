/-
  Proved: for every input that its row lets in the statement PairForms answers true; what was handed in stays as it was.
  Conditions: none beyond the row's own.
-/
import Derived.Test.YtapoknpakleiiaaDoorAlive13
import Derived.Test.YtapoknpakleiiaaDoorDoor
/- PairForms: the walk. -/
set_option linter.unusedVariables false
set_option linter.unusedSimpArgs false
namespace Go.Proofs.YtapoknpakleiiaaDoor
open Go.RowKit Go.Tm Go.ChangeShapes Go.WideShapes Go.ChangeAt
set_option maxHeartbeats 400000
set_option maxRecDepth 100000
attribute [local go_sem ↓] Go.wp_at_zero Go.wp_at_succ

theorem lent_cut {w : World} {g c n : Nat} {p : List UInt8} (h : Rda w (some ⟨g, 0, none⟩) c (lentL p)) (hn : n = p.length) : Rda w (some ⟨g, 0, none⟩) c p := by
  have := h.take n (by rw [lentL_length]; omega)
  rwa [hn, lentL_take] at this
theorem whole_yes {w : World} {A B : Option Addr} {n c m d : Nat} {p : List UInt8} (ha : Rda w A c (lentL p)) (hb : Rda w B d p) (hn : n = p.length + 120) (hm : m = p.length) (hl : p.length ≤ 140737488351232) :
    Calls Tryd.prog 13 #[.slice A n c, .slice B m d] w fun e w' => e = .returned (.bool true) ∧ Below w.heap.size w w' := by
  have := whole_any ha hb (hn.trans (lentL_length p).symm) hm hl
  rwa [decide_eq_true (show lentL p = lentL p from rfl)] at this

set_option maxHeartbeats 4000000 in
theorem pairForms_any {w : World} (hT : Tb w) {A B : Option Addr} {n m c d : Nat} {page b : List UInt8} (hA : Rda w A c page) (hn : n = page.length) (hl : page.length ≤ 140737488351232) (hB : Rda w B d b) (hm : m = b.length) (hl2 : b.length ≤ 140737488351232) (number pages slots : Int) :
    Calls Tryd.prog 3 #[.int .i64 number, .slice A n c, .slice B m d, .int .i64 pages, .int .i64 slots] w fun e w' => e = .returned (.bool true) ∧ Below w.heap.size w w' := by
  have HL1 : Hid (∀ W, Below w.heap.size w W → Calls Tryd.prog 8 #[.slice A n c] W fun e w' => ∃ g, e = .returned (.slice (some ⟨g, 0, none⟩) (n + 120) (n + 120)) ∧ New 5 W w' (some ⟨g, 0, none⟩) (n + 120) (lentL page)) := Lib.hid fun W hb => lent_any (hA.below hb) hn hl
  have HL2 : Hid (∀ W, Below w.heap.size w W → Calls Tryd.prog 8 #[.slice B m d] W fun e w' => ∃ g, e = .returned (.slice (some ⟨g, 0, none⟩) (m + 120) (m + 120)) ∧ New 5 W w' (some ⟨g, 0, none⟩) (m + 120) (lentL b)) := Lib.hid fun W hb => lent_any (hB.below hb) hm hl2
  obtain ⟨P, hP⟩ : ∃ P, pmV number page = P := ⟨_, rfl⟩
  obtain ⟨E, hE⟩ : ∃ E, pmE number page = E := ⟨_, rfl⟩
  obtain ⟨PL, hPL⟩ : ∃ PL, P.length = PL := ⟨_, rfl⟩
  have HPL := Lib.hid hPL
  have HM1 : Hid (∀ (W : World) (g : Nat), Below w.heap.size w W → Rda W (some ⟨g, 0, none⟩) (n + 120) (lentL page) → Calls Tryd.prog 9 #[.int .i64 number, .slice (some ⟨g, 0, none⟩) n (n + 120)] W fun e w' => ∃ A' c', e = .returned (.tuple #[.slice A' PL c', .int .i64 E]) ∧ New 5 W w' A' c' P) := Lib.hid fun W g hb hr => by
    have := pMake_any (hT.below hb) (lent_cut hr hn) hn hl number
    rwa [hE, hP, hPL] at this
  have HM2 : Hid (∀ (W : World), Below w.heap.size w W → Calls Tryd.prog 10 #[.int .i64 number, .slice A n c] W fun e w' => ∃ A' c', e = .returned (.tuple #[.slice A' PL c', .int .i64 E]) ∧ New 5 W w' A' c' P) := Lib.hid fun W hb => by
    have := refMake13_any (hA.below hb) hn hl number
    rwa [hE, hP, hPL] at this
  have HAL : Hid (∀ (W : World), Below w.heap.size w W → Calls Tryd.prog 11 #[] W fun e w' => e = .returned (.bool true) ∧ Below W.heap.size W w') := Lib.hid fun W hb => alive_any (hT.below hb)
  have HW1 : Hid (∀ (W : World) (g : Nat), Below w.heap.size w W → Rda W (some ⟨g, 0, none⟩) (n + 120) (lentL page) → Calls Tryd.prog 13 #[.slice (some ⟨g, 0, none⟩) (n + 120) (n + 120), .slice A n c] W fun e w' => e = .returned (.bool true) ∧ Below W.heap.size W w') := Lib.hid fun W g hb hr => whole_yes hr (hA.below hb) (by rw [← hn]) hn hl
  have HW2 : Hid (∀ (W : World) (g : Nat), Below w.heap.size w W → Rda W (some ⟨g, 0, none⟩) (m + 120) (lentL b) → Calls Tryd.prog 13 #[.slice (some ⟨g, 0, none⟩) (m + 120) (m + 120), .slice B m d] W fun e w' => e = .returned (.bool true) ∧ Below W.heap.size W w') := Lib.hid fun W g hb hr => whole_yes hr (hB.below hb) (by rw [← hm]) hm hl2
  obtain ⟨LS, hLS⟩ : ∃ x, pLsn b = x := ⟨_, rfl⟩
  obtain ⟨NU, hNU⟩ : ∃ x, pNum b = x := ⟨_, rfl⟩
  obtain ⟨PG, hPG⟩ : ∃ x, pPage b = x := ⟨_, rfl⟩
  obtain ⟨GL, hGL⟩ : ∃ x, PG.length = x := ⟨_, rfl⟩
  have HGL := Lib.hid hGL
  have HY : Hid (∀ (W : World) (g : Nat), Rda W (some ⟨g, 0, none⟩) (m + 120) (lentL b) → (Calls Tryd.prog 14 #[.slice (some ⟨g, 0, none⟩) m (m + 120)] W fun e w' => e = .returned (.int .i64 (LS : Nat)) ∧ W = w') ∧ (Calls Tryd.prog 16 #[.slice (some ⟨g, 0, none⟩) m (m + 120)] W fun e w' => e = .returned (.int .i64 (NU : Nat)) ∧ W = w') ∧ (Calls Tryd.prog 18 #[.slice (some ⟨g, 0, none⟩) m (m + 120)] W fun e w' => ∃ A' c', e = .returned (.slice A' GL c') ∧ New 5 W w' A' c' PG)) := Lib.hid fun W g hr => by
    have hc := lent_cut hr hm
    refine ⟨by rw [← hLS]; exact pLsn_any hc hm, by rw [← hNU]; exact pNumber_any hc hm, ?_⟩
    have := pPage_any hc hm (by omega)
    rwa [hPG, hGL] at this
  have HB2 : Hid (∀ (W : World), Below w.heap.size w W → (Calls Tryd.prog 15 #[.slice B m d] W fun e w' => e = .returned (.int .i64 (LS : Nat)) ∧ W = w') ∧ (Calls Tryd.prog 17 #[.slice B m d] W fun e w' => e = .returned (.int .i64 (NU : Nat)) ∧ W = w') ∧ (Calls Tryd.prog 19 #[.slice B m d] W fun e w' => ∃ A' c', e = .returned (.slice A' GL c') ∧ New 5 W w' A' c' PG)) := Lib.hid fun W hb => by
    have hc := hB.below hb
    refine ⟨by rw [← hLS]; exact refLsn13_any hc hm, by rw [← hNU]; exact refNumber13_any hc hm, ?_⟩
    have := refPage13_any hc hm hl2
    rwa [hPG, hGL] at this
  obtain ⟨QN, hQN⟩ : ∃ x, ppN b pages slots = x := ⟨_, rfl⟩
  obtain ⟨QV, hQV⟩ : ∃ x, ppV b pages slots = x := ⟨_, rfl⟩
  obtain ⟨QE, hQE⟩ : ∃ x, ppE b pages slots = x := ⟨_, rfl⟩
  obtain ⟨QL, hQL⟩ : ∃ x, QV.length = x := ⟨_, rfl⟩
  have HQL := Lib.hid hQL
  have HP1 : Hid (∀ (W : World) (g : Nat), Below w.heap.size w W → Rda W (some ⟨g, 0, none⟩) (m + 120) (lentL b) → Calls Tryd.prog 20 #[.slice (some ⟨g, 0, none⟩) m (m + 120), .int .i64 pages, .int .i64 slots] W fun e w' => ∃ A' c', e = .returned (.tuple #[.int .i64 (QN : Nat), .slice A' QL c', .int .i64 QE]) ∧ New 5 W w' A' c' QV) := Lib.hid fun W g hb hr => by
    have := pParse_any (hT.below hb) (lent_cut hr hm) hm hl2 pages slots
    rwa [hQN, hQV, hQE, hQL] at this
  have HP2 : Hid (∀ (W : World), Below w.heap.size w W → Calls Tryd.prog 21 #[.slice B m d, .int .i64 pages, .int .i64 slots] W fun e w' => ∃ A' c', e = .returned (.tuple #[.int .i64 (QN : Nat), .slice A' QL c', .int .i64 QE]) ∧ New 5 W w' A' c' QV) := Lib.hid fun W hb => by
    have := refParse13_any (hB.below hb) hm hl2 pages slots
    rwa [hQN, hQV, hQE, hQL] at this
  have m1 : (n : Int) ≤ (n : Int) + 120 := by omega
  have m2 : (m : Int) ≤ (m : Int) + 120 := by omega
  have HNM : Hid (∀ (W : World) (x : Int), Calls Tryd.prog 12 #[.int .i64 x] W fun e w' => e = .returned (.int .i64 x) ∧ W = w') := Lib.hid fun W x => num_any x
  clear hT hA hn hl hB hm hl2 hP hE hPL hLS hNU hPG hGL hQN hQV hQE hQL
  go_enter Tryd.func3, Tryd.ntmps3
  go_wp2_with fail
  refine (HL1.out _ (Below.refl _ _)).mono ?_
  rintro e w1 ⟨g1, rfl, N1⟩
  have HB1 := Lib.hid N1.below
  have HX1 := Lib.hid N1.rda
  clear N1
  go_wp2_with fail
  refine (HL2.out _ HB1.out).mono ?_
  rintro e w2 ⟨g2, rfl, N2⟩
  have HBB2 := Lib.hid (below_then HB1.out N2.below)
  have HX2 := Lib.hid (HX1.out.below N2.below)
  have HY2 := Lib.hid N2.rda
  clear N2 HX1 HB1
  go_wp2_with fail
  refine (HM1.out _ _ HBB2.out HX2.out).mono ?_
  rintro e w3 ⟨A3, c3, rfl, N3⟩
  have HB3 := Lib.hid (below_then HBB2.out N3.below)
  have HX3 := Lib.hid (HX2.out.below N3.below)
  have HY3 := Lib.hid (HY2.out.below N3.below)
  have HR3 := Lib.hid N3.rda
  clear N3 HX2 HY2 HBB2
  go_wp2_with fail
  refine (HM2.out _ HB3.out).mono ?_
  rintro e w4 ⟨A4, c4, rfl, N4⟩
  have HB4 := Lib.hid (below_then HB3.out N4.below)
  have HX4 := Lib.hid (HX3.out.below N4.below)
  have HY4 := Lib.hid (HY3.out.below N4.below)
  have HR4 := Lib.hid (HR3.out.below N4.below)
  have HS4 := Lib.hid N4.rda
  clear N4 HX3 HY3 HB3 HR3
  go_wp2_with fail
  refine (HAL.out _ HB4.out).mono ?_
  rintro e w5 ⟨rfl, hb5⟩
  have HB5 := Lib.hid (below_then HB4.out hb5)
  have HX5 := Lib.hid (HX4.out.below hb5)
  have HY5 := Lib.hid (HY4.out.below hb5)
  have q1 := fun dst hd => run_conv_rd (P := Tryd.prog) w5 tPB (HR4.out.below hb5) PL HPL.out.symm dst hd
  have q2 := fun dst hd => run_conv_rd (P := Tryd.prog) w5 tU8 (HS4.out.below hb5) PL HPL.out.symm dst hd
  clear hb5 HX4 HY4 HB4
  go_wp2_with fail
  refine (HNM.out _ _).mono ?_
  rintro e w6 ⟨rfl, rfl⟩
  clear q1 q2
  go_wp2_with fail
  refine (HW1.out _ _ HB5.out HX5.out).mono ?_
  rintro e w6 ⟨rfl, hb6⟩
  have HB6 := Lib.hid (below_then HB5.out hb6)
  have HY6 := Lib.hid (HY5.out.below hb6)
  clear hb6 HX5 HY5 HB5
  go_upto_region 8 with (fail)
  go_cut [88] from 68 to 88 (fun s88 wx => s88 = .bool false ∧ Below w6.heap.size w6 wx)
  case first =>
    have hbd := (Below.refl w6.heap.size w6).drew
    obtain ⟨a1, a2, a3⟩ := HY.out w6.drew g2 (HY6.out.below hbd)
    obtain ⟨b1, b2, b3⟩ := HB2.out w6.drew (below_then HB6.out hbd)
    have A1 := Lib.hid a1
    have A2 := Lib.hid a2
    have B1 := Lib.hid b1
    have B2 := Lib.hid b2
    have A3 := Lib.hid a3
    have B3 := Lib.hid b3
    have HYD := Lib.hid (fun (W : World) (hb : Below w6.heap.size w6 W) => (HY.out W g2 (HY6.out.below hb)).2.2)
    have HBD := Lib.hid (fun (W : World) (hb : Below w6.heap.size w6 W) => (HB2.out W (below_then HB6.out hb)).2.2)
    clear a1 a2 a3 b1 b2 b3
    go_region_law
      (first
        | (go_simp; go_at_call 14; refine A1.out.mono ?_; rintro e w7 ⟨rfl, rfl⟩)
        | (go_simp; go_at_call 15; refine B1.out.mono ?_; rintro e w7 ⟨rfl, rfl⟩)
        | (go_simp; go_at_call 16; refine A2.out.mono ?_; rintro e w7 ⟨rfl, rfl⟩)
        | (go_simp; go_at_call 17; refine B2.out.mono ?_; rintro e w7 ⟨rfl, rfl⟩)
        | (go_simp; go_at_call 18; refine A3.out.mono ?_; rintro e w7 ⟨A7, c7, rfl, N7⟩; have hp7 := below_then hbd N7.below; have r1 := fun dst hd => run_conv_rd (P := Tryd.prog) w7 tU8 N7.rda GL HGL.out.symm dst hd)
        | (go_simp; go_at_call 19; refine (HBD.out _ hp7).mono ?_; rintro e w8 ⟨A8, c8, rfl, N8⟩; have hbz := below_then hp7 N8.below; have r2 := fun dst hd => run_conv_rd (P := Tryd.prog) w8 tU8 N8.rda GL HGL.out.symm dst hd; have r3 := fun dst hd => run_conv_rd (P := Tryd.prog) w8 tU8 (N7.rda.below N8.below) GL HGL.out.symm dst hd)
        | (go_simp; go_at_call 19; refine B3.out.mono ?_; rintro e w8 ⟨A8, c8, rfl, N8⟩; have hp8 := below_then hbd N8.below; have r2 := fun dst hd => run_conv_rd (P := Tryd.prog) w8 tU8 N8.rda GL HGL.out.symm dst hd)
        | (go_simp; go_at_call 18; refine (HYD.out _ hp8).mono ?_; rintro e w7 ⟨A7, c7, rfl, N7⟩; have hbz := below_then hp8 N7.below; have r1 := fun dst hd => run_conv_rd (P := Tryd.prog) w7 tU8 N7.rda GL HGL.out.symm dst hd; have r3 := fun dst hd => run_conv_rd (P := Tryd.prog) w7 tU8 (N8.rda.below N7.below) GL HGL.out.symm dst hd))
    all_goals
      have HBZ := Lib.hid hbz
      go_wp2_with fail
      go_meet
      exact ⟨rfl, HBZ.out⟩
  case rest =>
    obtain ⟨rfl, hbc⟩ := hcut
    have HB7 := Lib.hid (below_then HB6.out hbc)
    have HY7 := Lib.hid (HY6.out.below hbc)
    clear hbc HB6 HY6
    go_wp2_with fail
    refine (HP1.out _ _ HB7.out HY7.out).mono ?_
    rintro e w8 ⟨A8, c8, rfl, N8⟩
    have HB8 := Lib.hid (below_then HB7.out N8.below)
    have HY8 := Lib.hid (HY7.out.below N8.below)
    have HR8 := Lib.hid N8.rda
    clear N8 HB7 HY7
    go_wp2_with fail
    refine (HP2.out _ HB8.out).mono ?_
    rintro e w9 ⟨A9, c9, rfl, N9⟩
    have HB9 := Lib.hid (below_then HB8.out N9.below)
    have HY9 := Lib.hid (HY8.out.below N9.below)
    have q1 := fun dst hd => run_conv_rd (P := Tryd.prog) w9 tU8 (HR8.out.below N9.below) QL HQL.out.symm dst hd
    have q2 := fun dst hd => run_conv_rd (P := Tryd.prog) w9 tU8 N9.rda QL HQL.out.symm dst hd
    clear N9 HB8 HY8
    go_wp2_with fail
    refine (HNM.out _ _).mono ?_
    rintro e w10 ⟨rfl, rfl⟩
    clear q1 q2
    go_wp2_with fail
    refine (HW2.out _ _ HB9.out HY9.out).mono ?_
    rintro e w10 ⟨rfl, hb10⟩
    have HB10 := Lib.hid (below_then HB9.out hb10)
    clear hb10
    go_wp2_with fail
    go_ret
    exact ⟨rfl, HB10.out⟩

theorem pairForms_contract (H : Type) (enc : TypeId × Value → H) (W : World) (base : Nat) (args : Array Value) (ds gs : List (DataW H)) (before : List MemPlace)
    (hval0 : ∀ (j : Nat) t v, Tryd.f3.params[j]? = some t → args[j]? = some v → Value.okWide Tryd.prog W .any base t v)
    (hW : DataW.Whole enc Tryd.prog Tryd.f3.params.toList Rows.pairFormsSpec.vars false W args.toList ds gs before) (hsz : (DataW.weightsEach Tryd.checked.prog (Tryd.f3.params.toList ++ Rows.pairFormsSpec.plain.varTypes Tryd.checked.prog) (ds ++ gs)).all (· ≤ reachBytes) = true) (hL : laidMetH Tryd.prog Rows.pairFormsRow.laid W) :
    Calls Tryd.prog 3 args W fun e W' => ∃ v, e = .returned v ∧ Rows.pairFormsSpec.post enc Tryd.prog Tryd.f3 false true false false W args v W' := by
  have hval : ∀ (j : Nat) t v, Tryd.f3.params[j]? = some t → args[j]? = some v → Value.okWide Tryd.prog W .any base t v := hval0
  have hW' := hW
  obtain ⟨p, q, hA0, hV, rfl, hfz, hnd⟩ := hW
  have hA : DataW.TrodAll enc Tryd.prog W 0 (fun _ => true) true Tryd.f3.params.toList args.toList ds p := hA0
  rw [Tryd.params3] at hA hval
  obtain ⟨v0, vs0, d0, ds0, p0, q0, hargs, rfl, rfl, h0, rr0⟩ := trodAll_cons hA
  obtain ⟨v1, vs1, d1, ds1, p1, q1, rfl, rfl, rfl, h1, rr1⟩ := trodAll_cons rr0
  obtain ⟨v2, vs2, d2, ds2, p2, q2, rfl, rfl, rfl, h2, rr2⟩ := trodAll_cons rr1
  obtain ⟨v3, vs3, d3, ds3, p3, q3, rfl, rfl, rfl, h3, rr3⟩ := trodAll_cons rr2
  obtain ⟨v4, vs4, d4, ds4, p4, q4, rfl, rfl, rfl, h4, rr4⟩ := trodAll_cons rr3
  obtain ⟨rfl, rfl, rfl⟩ := trodAll_nil rr4
  obtain rfl : args = #[v0, v1, v2, v3, v4] := by cases args; simp_all
  obtain ⟨rfl, rfl⟩ := trodVars_none hV
  obtain ⟨x0, rfl, rfl, rfl, w0⟩ := open_int Tryd.underlying3 (hval 0 3 v0 rfl rfl) h0
  have b0 := bounds_i64 w0
  obtain ⟨a1, len1, cap1, rfl⟩ := okWide_slice Tryd.underlying22 (hval 1 22 v1 rfl rfl)
  have k1 := h1
  have lt1 : ∀ x ∈ p1, x.block < W.heap.size := by obtain ⟨m, hm⟩ := k1; exact DataW.trod_lt m _ _ _ hm
  obtain ⟨l1, n1, r1, dd1⟩ : ∃ l : List UInt8, len1 = l.length ∧ Rda W a1 cap1 l ∧ RowOf d1 l := by
    obtain ⟨fuel, hf⟩ := h1
    obtain ⟨A, l, c, hv, hr, hx⟩ := open_bytes tU8 (by kernel_rfl) (by simpa [Value.cells] using hf)
    obtain ⟨rfl, rfl, rfl⟩ : a1 = A ∧ len1 = l.length ∧ cap1 = c := by simpa using hv
    exact ⟨l, rfl, hr, hx⟩
  obtain ⟨a2, len2, cap2, rfl⟩ := okWide_slice Tryd.underlying22 (hval 2 22 v2 rfl rfl)
  have k2 := h2
  have lt2 : ∀ x ∈ p2, x.block < W.heap.size := by obtain ⟨m, hm⟩ := k2; exact DataW.trod_lt m _ _ _ hm
  obtain ⟨l2, n2, r2, dd2⟩ : ∃ l : List UInt8, len2 = l.length ∧ Rda W a2 cap2 l ∧ RowOf d2 l := by
    obtain ⟨fuel, hf⟩ := h2
    obtain ⟨A, l, c, hv, hr, hx⟩ := open_bytes tU8 (by kernel_rfl) (by simpa [Value.cells] using hf)
    obtain ⟨rfl, rfl, rfl⟩ : a2 = A ∧ len2 = l.length ∧ cap2 = c := by simpa using hv
    exact ⟨l, rfl, hr, hx⟩
  obtain ⟨x3, rfl, rfl, rfl, w3⟩ := open_int Tryd.underlying3 (hval 3 3 v3 rfl rfl) h3
  have b3 := bounds_i64 w3
  obtain ⟨x4, rfl, rfl, rfl, w4⟩ := open_int Tryd.underlying3 (hval 4 3 v4 rfl rfl) h4
  have b4 := bounds_i64 w4
  have s1 : l1.length ≤ 140737488351232 := by
    rcases dd1 with ⟨_, h⟩ | ⟨zs, sp, hd, hl⟩
    · rw [h]; simp
    · subst hd
      have := sized_slice hsz (j := 1) (t := 22) (e := 5) rfl rfl Tryd.underlying22
      rw [show Tryd.checked.prog.bytesOf 5 = 1 from by kernel_rfl] at this
      unfold lits at this
      simp only [List.length_map] at this
      have h47 : reachBytes ≤ 140737488351232 := by decide
      omega
  have s2 : l2.length ≤ 140737488351232 := by
    rcases dd2 with ⟨_, h⟩ | ⟨zs, sp, hd, hl⟩
    · rw [h]; simp
    · subst hd
      have := sized_slice hsz (j := 2) (t := 22) (e := 5) rfl rfl Tryd.underlying22
      rw [show Tryd.checked.prog.bytesOf 5 = 1 from by kernel_rfl] at this
      unfold lits at this
      simp only [List.length_map] at this
      have h47 : reachBytes ≤ 140737488351232 := by decide
      omega
  clear hA0 hval0
  refine (pairForms_any (tb_of hL) r1 n1 (by omega) r2 n2 (by omega) x0 x3 x4).mono fun e W' ⟨he, bel⟩ => ?_
  subst he
  exact ⟨_, rfl, _, _, _, [], _, [], hW', trodAll_mk1 (shut_bool Tryd.underlying4 _), (trodAll_cons_mk (shut_int Tryd.underlying3 w0) (trodAll_cons_mk (Below.trod laid_out (by kernel_rfl) (of_decide_eq_true (by kernel_rfl)) k1 bel lt1) (trodAll_cons_mk (Below.trod laid_out (by kernel_rfl) (of_decide_eq_true (by kernel_rfl)) k2 bel lt2) (trodAll_cons_mk (shut_int Tryd.underlying3 w3) (trodAll_cons_mk (shut_int Tryd.underlying3 w4) trodAll_mk0))))), rfl, bel.frame _, fun h => by cases h⟩

theorem pairForms_met (os : Os) : laidMet Tryd.prog Rows.pairFormsRow.laid ((laidWorld os).forCall (fun _ _ => 0) ⟨#[], #[.int .i64 0, .slice none 0 0, .slice none 0 0, .int .i64 0, .int .i64 0], []⟩).memory :=
  laidMet_of_run' 8 (by kernel_rfl) (by kernel_rfl)
theorem pairForms_reads (os : Os) {H : Type} (enc : TypeId × Value → H) : ∃ places, DataW.whole enc Tryd.prog ((laidWorld os).forCall (fun _ _ => 0) ⟨#[], #[.int .i64 0, .slice none 0 0, .slice none 0 0, .int .i64 0, .int .i64 0], []⟩).memory Tryd.f3.params.toList Rows.pairFormsSpec.vars false (#[.int .i64 0, .slice none 0 0, .slice none 0 0, .int .i64 0, .int .i64 0] : Array Value).toList 8 = some ([.lit (.int .i64 0), .nil, .nil, .lit (.int .i64 0), .lit (.int .i64 0)], [], places) :=
  ⟨[], by kernel_rfl⟩

set_option maxRecDepth 100000 in
theorem pairForms_lifted (os : Os) (started : os.Started) (H : Type) (enc : TypeId × Value → H) (F : Stop.Interp) :
    ReturnsInHanded {} Tryd.checked os 3 .any ((OpenSpec.ofChange Rows.pairFormsSpec).preRow enc Tryd.prog Tryd.f3 Rows.pairFormsRow.domain false Rows.pairFormsRow.laid) (((OpenSpec.ofChange Rows.pairFormsSpec).at F).post enc Tryd.prog Tryd.f3 false true false false) := by
  obtain ⟨places, hx⟩ := pairForms_reads os enc
  refine returnsInHanded_of_row (C := Tryd.checked) (s := OpenSpec.ofChange Rows.pairFormsSpec) own_knob started (by kernel_rfl) Tryd.func3
    (witness_row_at (enc := enc) (C := Tryd.checked) false (laidWorld os) #[.int .i64 0, .slice none 0 0, .slice none 0 0, .int .i64 0, .int .i64 0] rfl (by kernel_rfl) (by kernel_rfl) (by kernel_rfl)
      (OpenSpec.preRow_of_cond 8 hx (by kernel_rfl) (fun k hk => by cases hk) (by kernel_rfl) (pairForms_met os))) ?_
  intro W base args ds gs before hval hW _ hcond hsz hL _ _
  exact pairForms_contract H enc W base args ds gs before hval hW hsz hL

theorem pairForms_said : Rows.PairFormsSaid :=
  OpenClaim.holds_of_cond 3 Tryd.f3 rfl rfl rfl rfl rfl rfl rfl ⟨rfl, rfl, rfl, rfl, rfl⟩ rfl rfl rfl rfl rfl (by kernel_rfl) Tryd.func3 (by kernel_rfl)
    (of_decide_eq_true (by kernel_rfl)) (by unfold Func.isWrapper; first | (rw [if_pos (by decide +kernel)]; kernel_rfl) | (rw [if_neg (by decide +kernel)]; exact ⟨rfl, rfl⟩))
    (fun os started H enc _ F => by rw [OpenClaim.pre_eq_preRow]; exact pairForms_lifted os started H enc F)

theorem pairForms_plain (f : FuncId) (fn : Func) (hf : Tryd.pinned.checked.prog.funcNamed "tidemark/tidemarklaw13.PairForms" = some f) (hfn : Tryd.pinned.checked.prog.funcs[f]? = some fn) :
    false = Tryd.pinned.checked.prog.looks [] ∧ ∀ (j : Nat) t, fn.params[j]? = some t → Tryd.pinned.checked.prog.wantsStandIn t = false := by
  obtain rfl : f = 3 := Option.some.inj ((show Tryd.prog.funcNamed "tidemark/tidemarklaw13.PairForms" = some 3 by kernel_rfl).symm.trans hf) |>.symm
  obtain rfl : fn = Tryd.f3 := (Option.some.inj (Tryd.func3.symm.trans hfn)).symm
  refine ⟨by kernel_rfl, fun j t ht => ?_⟩
  rw [Tryd.params3] at ht
  have hm := Array.mem_of_getElem? ht
  have : t = 22∨t = 3 := by simp at hm; first | exact hm | (rcases hm with hh | hh <;> simp [hh]) | (rcases hm with hh | hh | hh <;> simp [hh]) | (rcases hm with hh | hh | hh | hh <;> simp [hh]) | (rcases hm with hh | hh | hh | hh | hh <;> simp [hh]) | (rcases hm with hh | hh | hh | hh | hh | hh <;> simp [hh]) | (rcases hm with hh | hh | hh | hh | hh | hh | hh <;> simp [hh]) | (rcases hm with hh | hh | hh | hh | hh | hh | hh | hh <;> simp [hh])
  rcases this with rfl|rfl
  · exact (show Tryd.prog.wantsStandIn 22 = false by kernel_rfl)
  · exact (show Tryd.prog.wantsStandIn 3 = false by kernel_rfl)

theorem pairForms_holds : Rows.PairFormsCardSaid :=
  Claim7.holds_tied_plain_at .later [] _ _ _ _ pairForms_said (fun _ h => by cases h) (by kernel_rfl) (fun _ h => by cases h) pairForms_row_tie rfl ⟨rfl, rfl⟩ (by kernel_rfl) rfl pairForms_plain (by kernel_rfl)
#print axioms pairForms_holds
end Go.Proofs.YtapoknpakleiiaaDoor
