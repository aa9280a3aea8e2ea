/-
  Proved: for every input that its row lets in the statement RecordRefuses answers true; what was handed in stays as it was.
  Conditions: none beyond the row's own.
-/
import Derived.Test.YtiaehoppdihbdaaLaw9b
import Derived.Test.YtiaehoppdihbdaaRow
import Derived.Test.YtiaehoppdihbdaaOpen9
import Derived.Test.YtiaehoppdihbdaaSpoil2
import Derived.Test.YtiaehoppdihbdaaSpoil3
import Derived.Test.YtiaehoppdihbdaaSpoil4
/- RecordRefuses: the walk. -/
set_option linter.unusedVariables false
set_option linter.unusedSimpArgs false
namespace Go.Proofs.Ytiaehoppdihbdaa
open Go.RowKit Go.Tm Go.ChangeShapes Go.WideShapes Go.ChangeAt
set_option maxHeartbeats 400000
set_option maxRecDepth 100000
attribute [local go_sem ↓] Go.wp_at_zero Go.wp_at_succ

theorem spoilt_any {w : World} {x : RecD} {q : RPl} (h : RecR w x q) (hr : rgtB x = true) {cs : Array Value} (hcs : cs = (recC x q).toArray) :
    Calls Try.prog 23 #[.agg cs] w (SpoilP w) := by
  by_cases h2 : x.kind = 2
  · exact spoilt2_any h hr h2 hcs
  · by_cases h3 : x.kind = 3
    · exact spoilt3_any h hr h3 hcs
    · exact spoilt0_any h hr ⟨h2, h3⟩ hcs

set_option maxHeartbeats 20000000 in
theorem recordRefuses_any {w : World} {x : RecD} {q : RPl} (h : RecR w x q) (at0 : Int) (ha : -9223372036854775808 ≤ at0 ∧ at0 ≤ 9223372036854775807) :
    Calls Try.prog 7 #[.agg (recC x q).toArray, .int .i64 at0] w fun e w' => e = .returned (.bool true) ∧ Below w.heap.size w w' := by
  obtain ⟨A1, k1, c1, A2, k2, c2, A3, k3, c3, A4, k4, c4, hsp⟩ := recR_spell h
  have hcs : #[.int .i64 x.kind, .int .i64 x.birth, .int .i64 x.prev, .int .i64 x.id, .int .i64 x.page, .int .i64 x.frm, .slice A1 k1 c1, .slice A2 k2 c2, .int .i64 x.next, .slice A3 k3 c3, .slice A4 k4 c4] = (recC x q).toArray := by rw [hsp]
  rw [← hcs]
  have HBY : Hid (∀ W, Below w.heap.size w W → Calls Try.prog 10 #[.agg #[.int .i64 x.kind, .int .i64 x.birth, .int .i64 x.prev, .int .i64 x.id, .int .i64 x.page, .int .i64 x.frm, .slice A1 k1 c1, .slice A2 k2 c2, .int .i64 x.next, .slice A3 k3 c3, .slice A4 k4 c4]] W (BytP x W)) := Lib.hid fun W hb => bytes_any (h.below hb) hcs
  have HL0 := Lib.hid ((Below.refl w.heap.size w).alloc (Nat.le_refl _) (.cells #[.int .i64 x.kind, .int .i64 x.birth, .int .i64 x.prev, .int .i64 x.id, .int .i64 x.page, .int .i64 x.frm, .slice A1 k1 c1, .slice A2 k2 c2, .int .i64 x.next, .slice A3 k3 c3, .slice A4 k4 c4] 26))
  have RB0 : Hid (RowC (w.alloc (.cells #[.int .i64 x.kind, .int .i64 x.birth, .int .i64 x.prev, .int .i64 x.id, .int .i64 x.page, .int .i64 x.frm, .slice A1 k1 c1, .slice A2 k2 c2, .int .i64 x.next, .slice A3 k3 c3, .slice A4 k4 c4] 26)) w.heap.size 26 [.int .i64 x.kind, .int .i64 x.birth, .int .i64 x.prev, .int .i64 x.id, .int .i64 x.page, .int .i64 x.frm, .slice A1 k1 c1, .slice A2 k2 c2, .int .i64 x.next, .slice A3 k3 c3, .slice A4 k4 c4]) := Lib.hid (heap_alloc_new w _)
  have HX := Lib.hid h
  have HCS := Lib.hid hcs
  clear h hsp hcs
  cases hr : rgtB x with
  | false =>
    obtain ⟨v1, v2⟩ := rec_no hr
    have HV := Lib.hid v1
    have HE := Lib.hid v2
    clear v1 v2 hr
    go_enter Try.func7, Try.ntmps7
    go_wp2_with fail
    refine alive_any.mono ?_
    rintro e w1 ⟨rfl, hb1⟩
    have HL1 := Lib.hid (below_then HL0.out hb1)
    have RB1 := Lib.hid (RB0.out.below hb1)
    clear hb1
    have d0 := RB1.out.cell (j := 0) rfl
    have d1 := RB1.out.cell (j := 1) rfl
    have d2 := RB1.out.cell (j := 2) rfl
    have d3 := RB1.out.cell (j := 3) rfl
    have d4 := RB1.out.cell (j := 4) rfl
    have d5 := RB1.out.cell (j := 5) rfl
    have d6 := RB1.out.cell (j := 6) rfl
    have d7 := RB1.out.cell (j := 7) rfl
    have d8 := RB1.out.cell (j := 8) rfl
    have d9 := RB1.out.cell (j := 9) rfl
    have d10 := RB1.out.cell (j := 10) rfl
    go_wp2_with fail
    refine (HBY.out _ HL1.out).mono ?_
    rintro e w2 ⟨A0, c0, rfl, hN⟩
    clear d0 d1 d2 d3 d4 d5 d6 d7 d8 d9 d10
    rw [HV.out, HE.out]
    have HL2 := Lib.hid (below_then HL1.out hN.below)
    clear hN
    rw [show ([] : List UInt8).length = 0 from rfl]
    go_wp2_with (first | (go_at_call 13; refine (num_any _).mono ?_; rintro e w' ⟨rfl, rfl⟩) | fail)
    go_ret
    exact ⟨rfl, HL2.out⟩
  | true =>
    obtain ⟨v1, v2⟩ := rec_yes hr
    have HSPO : Hid (∀ W, Below w.heap.size w W → Calls Try.prog 23 #[.agg #[.int .i64 x.kind, .int .i64 x.birth, .int .i64 x.prev, .int .i64 x.id, .int .i64 x.page, .int .i64 x.frm, .slice A1 k1 c1, .slice A2 k2 c2, .int .i64 x.next, .slice A3 k3 c3, .slice A4 k4 c4]] W (SpoilP W)) := Lib.hid fun W hb => spoilt_any (HX.out.below hb) hr HCS.out
    have HE := Lib.hid v2
    clear v1 v2 hr
    go_enter Try.func7, Try.ntmps7
    go_wp2_with fail
    refine alive_any.mono ?_
    rintro e w1 ⟨rfl, hb1⟩
    have HL1 := Lib.hid (below_then HL0.out hb1)
    have RB1 := Lib.hid (RB0.out.below hb1)
    clear hb1
    have d0 := RB1.out.cell (j := 0) rfl
    have d1 := RB1.out.cell (j := 1) rfl
    have d2 := RB1.out.cell (j := 2) rfl
    have d3 := RB1.out.cell (j := 3) rfl
    have d4 := RB1.out.cell (j := 4) rfl
    have d5 := RB1.out.cell (j := 5) rfl
    have d6 := RB1.out.cell (j := 6) rfl
    have d7 := RB1.out.cell (j := 7) rfl
    have d8 := RB1.out.cell (j := 8) rfl
    have d9 := RB1.out.cell (j := 9) rfl
    have d10 := RB1.out.cell (j := 10) rfl
    go_wp2_with fail
    refine (HBY.out _ HL1.out).mono ?_
    rintro e w2 ⟨A0, c0, rfl, hN⟩
    clear d0 d1 d2 d3 d4 d5 d6 d7 d8 d9 d10
    rw [HE.out]
    obtain ⟨LN, hLN⟩ : ∃ n, (recV x).length = n := ⟨_, rfl⟩
    rw [hLN]
    have HL2 := Lib.hid (below_then HL1.out hN.below)
    have RB2 := Lib.hid (RB1.out.below hN.below)
    clear hN hLN
    have d0 := RB2.out.cell (j := 0) rfl
    have d1 := RB2.out.cell (j := 1) rfl
    have d2 := RB2.out.cell (j := 2) rfl
    have d3 := RB2.out.cell (j := 3) rfl
    have d4 := RB2.out.cell (j := 4) rfl
    have d5 := RB2.out.cell (j := 5) rfl
    have d6 := RB2.out.cell (j := 6) rfl
    have d7 := RB2.out.cell (j := 7) rfl
    have d8 := RB2.out.cell (j := 8) rfl
    have d9 := RB2.out.cell (j := 9) rfl
    have d10 := RB2.out.cell (j := 10) rfl
    go_wp2_with (first | (go_at_call 13; refine (num_any _).mono ?_; rintro e w' ⟨rfl, rfl⟩) | fail)
    refine (HSPO.out _ HL2.out).mono ?_
    clear d0 d1 d2 d3 d4 d5 d6 d7 d8 d9 d10
    rintro e w3 ⟨A, N, c, ys, rfl, hb3, ⟨n1, n2⟩, hlen, hO, hys⟩
    have HL3 := Lib.hid (below_then HL2.out hb3)
    have HLN := Lib.hid hlen
    have HO := Lib.hid hO
    have HYS := Lib.hid hys
    clear hb3 hlen hO hys
    have hlo : -(N : Int) < at0.tmod N := by
      have := Int.lt_tmod_of_pos at0 (b := (N : Int)) (by omega)
      omega
    have hhi : at0.tmod N < (N : Int) := Int.tmod_lt_of_pos at0 (by omega)
    obtain ⟨R, hRm⟩ : ∃ r, at0.tmod (N : Int) = r := ⟨_, rfl⟩
    rw [hRm] at hlo hhi
    by_cases hneg : R < 0
    · obtain ⟨K, hK⟩ : ∃ K : Nat, R + (N : Int) = (K : Int) := Int.eq_ofNat_of_zero_le (by omega)
      have hKN : K < N := by omega
      have q1 : (0 : Int) ≤ (K : Int) := by omega
      have q2 : (K : Int) < (N : Int) := by omega
      obtain ⟨⟨y, p⟩, hyp⟩ : ∃ r, ys[K]? = some r := ⟨ys[K]'(by rw [HLN.out]; exact hKN), by simp [HLN.out, hKN]⟩
      obtain ⟨hyR, hyB⟩ := HYS.out _ (List.mem_of_getElem? hyp)
      dsimp only at hyR hyB
      obtain ⟨B1, m1, e1, B2, m2, e2, B3, m3, e3, B4, m4, e4, hsp2⟩ := recR_spell hyR
      have hcs2 : #[.int .i64 y.kind, .int .i64 y.birth, .int .i64 y.prev, .int .i64 y.id, .int .i64 y.page, .int .i64 y.frm, .slice B1 m1 e1, .slice B2 m2 e2, .int .i64 y.next, .slice B3 m3 e3, .slice B4 m4 e4] = (recC y p).toArray := by rw [hsp2]
      have hcl : ∀ j v, [.int .i64 y.kind, .int .i64 y.birth, .int .i64 y.prev, .int .i64 y.id, .int .i64 y.page, .int .i64 y.frm, .slice B1 m1 e1, .slice B2 m2 e2, .int .i64 y.next, .slice B3 m3 e3, .slice B4 m4 e4][j]? = some v → ∃ g, A = some ⟨g, 0, none⟩ ∧ w3.cell? ⟨g, K * 11 + j, none⟩ = some v ∧ w3.frozen? ⟨g, K * 11 + j, none⟩ = false ∧ N ≤ c := fun j v hj => ownLe_cell HO.out (flat_get (f := recF) (fun _ => rfl) ys K j (y, p) v hyp (by show (recC y p)[j]? = some v; rw [hsp2]; exact hj))
      obtain ⟨g, rfl, f0, _, hNc⟩ := hcl 0 _ rfl
      have hcl2 : ∀ j v, [.int .i64 y.kind, .int .i64 y.birth, .int .i64 y.prev, .int .i64 y.id, .int .i64 y.page, .int .i64 y.frm, .slice B1 m1 e1, .slice B2 m2 e2, .int .i64 y.next, .slice B3 m3 e3, .slice B4 m4 e4][j]? = some v → w3.cell? ⟨g, K * 11 + j, none⟩ = some v := fun j v hj => by obtain ⟨g2, h1, h2, _⟩ := hcl j v hj; injection h1 with h1; injection h1 with h1; subst h1; exact h2
      have f1 := hcl2 1 _ rfl
      have f2 := hcl2 2 _ rfl
      have f3 := hcl2 3 _ rfl
      have f4 := hcl2 4 _ rfl
      have f5 := hcl2 5 _ rfl
      have f6 := hcl2 6 _ rfl
      have f7 := hcl2 7 _ rfl
      have f8 := hcl2 8 _ rfl
      have f9 := hcl2 9 _ rfl
      have f10 := hcl2 10 _ rfl
      clear hcl2
      rw [Nat.add_zero] at f0
      have HB2 : Hid (∀ W, Below w3.heap.size w3 W → Calls Try.prog 10 #[.agg #[.int .i64 y.kind, .int .i64 y.birth, .int .i64 y.prev, .int .i64 y.id, .int .i64 y.page, .int .i64 y.frm, .slice B1 m1 e1, .slice B2 m2 e2, .int .i64 y.next, .slice B3 m3 e3, .slice B4 m4 e4]] W (BytP y W)) := Lib.hid fun W hb => bytes_any (hyR.below hb) hcs2
      have HZ2 : Hid (∀ W, Below w3.heap.size w3 W → Calls Try.prog 14 #[.agg #[.int .i64 y.kind, .int .i64 y.birth, .int .i64 y.prev, .int .i64 y.id, .int .i64 y.page, .int .i64 y.frm, .slice B1 m1 e1, .slice B2 m2 e2, .int .i64 y.next, .slice B3 m3 e3, .slice B4 m4 e4]] W fun e w' => e = .returned (.int .i64 ((recV y).length : Int)) ∧ Below W.heap.size W w') := Lib.hid fun W hb => size_any (hyR.below hb) hcs2
      obtain ⟨v1, v2⟩ := rec_no hyB
      have HV2 := Lib.hid v1
      have HE2 := Lib.hid v2
      clear hcl hyR hyB hsp2 hcs2 v1 v2 hyp
      go_wp2_with fail
      refine (HB2.out _ (Below.refl _ _)).mono ?_
      rintro e w4 ⟨A4', c4', rfl, hN4⟩
      rw [HV2.out, HE2.out]
      have HB4 := Lib.hid hN4.below
      have i0 := (HB4.out.cell (p := ⟨g, K * 11, none⟩) (World.block_lt_of_cell? _ _ f0)).trans f0
      have i1 := (HB4.out.cell (p := ⟨g, K * 11 + 1, none⟩) (World.block_lt_of_cell? _ _ f1)).trans f1
      have i2 := (HB4.out.cell (p := ⟨g, K * 11 + 2, none⟩) (World.block_lt_of_cell? _ _ f2)).trans f2
      have i3 := (HB4.out.cell (p := ⟨g, K * 11 + 3, none⟩) (World.block_lt_of_cell? _ _ f3)).trans f3
      have i4 := (HB4.out.cell (p := ⟨g, K * 11 + 4, none⟩) (World.block_lt_of_cell? _ _ f4)).trans f4
      have i5 := (HB4.out.cell (p := ⟨g, K * 11 + 5, none⟩) (World.block_lt_of_cell? _ _ f5)).trans f5
      have i6 := (HB4.out.cell (p := ⟨g, K * 11 + 6, none⟩) (World.block_lt_of_cell? _ _ f6)).trans f6
      have i7 := (HB4.out.cell (p := ⟨g, K * 11 + 7, none⟩) (World.block_lt_of_cell? _ _ f7)).trans f7
      have i8 := (HB4.out.cell (p := ⟨g, K * 11 + 8, none⟩) (World.block_lt_of_cell? _ _ f8)).trans f8
      have i9 := (HB4.out.cell (p := ⟨g, K * 11 + 9, none⟩) (World.block_lt_of_cell? _ _ f9)).trans f9
      have i10 := (HB4.out.cell (p := ⟨g, K * 11 + 10, none⟩) (World.block_lt_of_cell? _ _ f10)).trans f10
      clear hN4 f0 f1 f2 f3 f4 f5 f6 f7 f8 f9 f10
      rw [show ([] : List UInt8).length = 0 from rfl]
      go_wp2_with (first | (go_at_call 13; refine (num_any _).mono ?_; rintro e w' ⟨rfl, rfl⟩) | fail)
      refine (HZ2.out _ HB4.out).mono ?_
      rintro e w5 ⟨rfl, hb5⟩
      rw [HV2.out]
      rw [show ([] : List UInt8).length = 0 from rfl]
      have HB5 := Lib.hid (below_then HL3.out (below_then HB4.out hb5))
      clear hb5 i0 i1 i2 i3 i4 i5 i6 i7 i8 i9 i10
      go_wp2_with fail
      go_ret
      exact ⟨rfl, HB5.out⟩
    · obtain ⟨K, rfl⟩ : ∃ K : Nat, R = (K : Int) := Int.eq_ofNat_of_zero_le (by omega)
      have hKN : K < N := by omega
      have q1 : (0 : Int) ≤ (K : Int) := by omega
      have q2 : (K : Int) < (N : Int) := by omega
      obtain ⟨⟨y, p⟩, hyp⟩ : ∃ r, ys[K]? = some r := ⟨ys[K]'(by rw [HLN.out]; exact hKN), by simp [HLN.out, hKN]⟩
      obtain ⟨hyR, hyB⟩ := HYS.out _ (List.mem_of_getElem? hyp)
      dsimp only at hyR hyB
      obtain ⟨B1, m1, e1, B2, m2, e2, B3, m3, e3, B4, m4, e4, hsp2⟩ := recR_spell hyR
      have hcs2 : #[.int .i64 y.kind, .int .i64 y.birth, .int .i64 y.prev, .int .i64 y.id, .int .i64 y.page, .int .i64 y.frm, .slice B1 m1 e1, .slice B2 m2 e2, .int .i64 y.next, .slice B3 m3 e3, .slice B4 m4 e4] = (recC y p).toArray := by rw [hsp2]
      have hcl : ∀ j v, [.int .i64 y.kind, .int .i64 y.birth, .int .i64 y.prev, .int .i64 y.id, .int .i64 y.page, .int .i64 y.frm, .slice B1 m1 e1, .slice B2 m2 e2, .int .i64 y.next, .slice B3 m3 e3, .slice B4 m4 e4][j]? = some v → ∃ g, A = some ⟨g, 0, none⟩ ∧ w3.cell? ⟨g, K * 11 + j, none⟩ = some v ∧ w3.frozen? ⟨g, K * 11 + j, none⟩ = false ∧ N ≤ c := fun j v hj => ownLe_cell HO.out (flat_get (f := recF) (fun _ => rfl) ys K j (y, p) v hyp (by show (recC y p)[j]? = some v; rw [hsp2]; exact hj))
      obtain ⟨g, rfl, f0, _, hNc⟩ := hcl 0 _ rfl
      have hcl2 : ∀ j v, [.int .i64 y.kind, .int .i64 y.birth, .int .i64 y.prev, .int .i64 y.id, .int .i64 y.page, .int .i64 y.frm, .slice B1 m1 e1, .slice B2 m2 e2, .int .i64 y.next, .slice B3 m3 e3, .slice B4 m4 e4][j]? = some v → w3.cell? ⟨g, K * 11 + j, none⟩ = some v := fun j v hj => by obtain ⟨g2, h1, h2, _⟩ := hcl j v hj; injection h1 with h1; injection h1 with h1; subst h1; exact h2
      have f1 := hcl2 1 _ rfl
      have f2 := hcl2 2 _ rfl
      have f3 := hcl2 3 _ rfl
      have f4 := hcl2 4 _ rfl
      have f5 := hcl2 5 _ rfl
      have f6 := hcl2 6 _ rfl
      have f7 := hcl2 7 _ rfl
      have f8 := hcl2 8 _ rfl
      have f9 := hcl2 9 _ rfl
      have f10 := hcl2 10 _ rfl
      clear hcl2
      rw [Nat.add_zero] at f0
      have HB2 : Hid (∀ W, Below w3.heap.size w3 W → Calls Try.prog 10 #[.agg #[.int .i64 y.kind, .int .i64 y.birth, .int .i64 y.prev, .int .i64 y.id, .int .i64 y.page, .int .i64 y.frm, .slice B1 m1 e1, .slice B2 m2 e2, .int .i64 y.next, .slice B3 m3 e3, .slice B4 m4 e4]] W (BytP y W)) := Lib.hid fun W hb => bytes_any (hyR.below hb) hcs2
      have HZ2 : Hid (∀ W, Below w3.heap.size w3 W → Calls Try.prog 14 #[.agg #[.int .i64 y.kind, .int .i64 y.birth, .int .i64 y.prev, .int .i64 y.id, .int .i64 y.page, .int .i64 y.frm, .slice B1 m1 e1, .slice B2 m2 e2, .int .i64 y.next, .slice B3 m3 e3, .slice B4 m4 e4]] W fun e w' => e = .returned (.int .i64 ((recV y).length : Int)) ∧ Below W.heap.size W w') := Lib.hid fun W hb => size_any (hyR.below hb) hcs2
      obtain ⟨v1, v2⟩ := rec_no hyB
      have HV2 := Lib.hid v1
      have HE2 := Lib.hid v2
      clear hcl hyR hyB hsp2 hcs2 v1 v2 hyp
      go_wp2_with fail
      refine (HB2.out _ (Below.refl _ _)).mono ?_
      rintro e w4 ⟨A4', c4', rfl, hN4⟩
      rw [HV2.out, HE2.out]
      have HB4 := Lib.hid hN4.below
      have i0 := (HB4.out.cell (p := ⟨g, K * 11, none⟩) (World.block_lt_of_cell? _ _ f0)).trans f0
      have i1 := (HB4.out.cell (p := ⟨g, K * 11 + 1, none⟩) (World.block_lt_of_cell? _ _ f1)).trans f1
      have i2 := (HB4.out.cell (p := ⟨g, K * 11 + 2, none⟩) (World.block_lt_of_cell? _ _ f2)).trans f2
      have i3 := (HB4.out.cell (p := ⟨g, K * 11 + 3, none⟩) (World.block_lt_of_cell? _ _ f3)).trans f3
      have i4 := (HB4.out.cell (p := ⟨g, K * 11 + 4, none⟩) (World.block_lt_of_cell? _ _ f4)).trans f4
      have i5 := (HB4.out.cell (p := ⟨g, K * 11 + 5, none⟩) (World.block_lt_of_cell? _ _ f5)).trans f5
      have i6 := (HB4.out.cell (p := ⟨g, K * 11 + 6, none⟩) (World.block_lt_of_cell? _ _ f6)).trans f6
      have i7 := (HB4.out.cell (p := ⟨g, K * 11 + 7, none⟩) (World.block_lt_of_cell? _ _ f7)).trans f7
      have i8 := (HB4.out.cell (p := ⟨g, K * 11 + 8, none⟩) (World.block_lt_of_cell? _ _ f8)).trans f8
      have i9 := (HB4.out.cell (p := ⟨g, K * 11 + 9, none⟩) (World.block_lt_of_cell? _ _ f9)).trans f9
      have i10 := (HB4.out.cell (p := ⟨g, K * 11 + 10, none⟩) (World.block_lt_of_cell? _ _ f10)).trans f10
      clear hN4 f0 f1 f2 f3 f4 f5 f6 f7 f8 f9 f10
      rw [show ([] : List UInt8).length = 0 from rfl]
      go_wp2_with (first | (go_at_call 13; refine (num_any _).mono ?_; rintro e w' ⟨rfl, rfl⟩) | fail)
      refine (HZ2.out _ HB4.out).mono ?_
      rintro e w5 ⟨rfl, hb5⟩
      rw [HV2.out]
      rw [show ([] : List UInt8).length = 0 from rfl]
      have HB5 := Lib.hid (below_then HL3.out (below_then HB4.out hb5))
      clear hb5 i0 i1 i2 i3 i4 i5 i6 i7 i8 i9 i10
      go_wp2_with fail
      go_ret
      exact ⟨rfl, HB5.out⟩

theorem recordRefuses_contract (H : Type) (enc : TypeId × Value → H) (W : World) (base : Nat) (args : Array Value) (ds gs : List (DataW H)) (before : List MemPlace)
    (hval0 : ∀ (j : Nat) t v, Try.f7.params[j]? = some t → args[j]? = some v → Value.okWide Try.prog W .any base t v)
    (hW : DataW.Whole enc Try.prog Try.f7.params.toList Rows.recordRefusesSpec.vars false W args.toList ds gs before) (hsz : (DataW.weightsEach Try.checked.prog (Try.f7.params.toList ++ Rows.recordRefusesSpec.plain.varTypes Try.checked.prog) (ds ++ gs)).all (· ≤ reachBytes) = true) :
    Calls Try.prog 7 args W fun e W' => ∃ v, e = .returned v ∧ Rows.recordRefusesSpec.post enc Try.prog Try.f7 false true false false W args v W' := by
  have hval : ∀ (j : Nat) t v, Try.f7.params[j]? = some t → args[j]? = some v → Value.okWide Try.prog W .any base t v := hval0
  have hW' := hW
  obtain ⟨p, q, hA0, hV, rfl, hfz, hnd⟩ := hW
  have hA : DataW.TrodAll enc Try.prog W 0 (fun _ => true) true Try.f7.params.toList args.toList ds p := hA0
  rw [Try.params7] at hA hval
  obtain ⟨v0, vs0, d0, ds0, p0, q0, hargs, rfl, rfl, h0, rr0⟩ := trodAll_cons hA
  obtain ⟨v1, vs1, d1, ds1, p1, q1, rfl, rfl, rfl, h1, rr1⟩ := trodAll_cons rr0
  obtain ⟨rfl, rfl, rfl⟩ := trodAll_nil rr1
  obtain rfl : args = #[v0, v1] := by cases args; simp_all
  obtain ⟨rfl, rfl⟩ := trodVars_none hV
  have k0 := h0
  have lt0 : ∀ x ∈ p0, x.block < W.heap.size := by obtain ⟨m, hm⟩ := k0; exact DataW.trod_lt m _ _ _ hm
  obtain ⟨x0, q0, rfl, r0⟩ := open_record (hval 0 26 v0 rfl rfl) h0 (arg_sized (j := 0) hsz rfl rfl)
  obtain ⟨x1, rfl, rfl, rfl, w1⟩ := open_int Try.underlying3 (hval 1 3 v1 rfl rfl) h1
  have b1 := bounds_i64 w1
  clear hA0 hval0
  refine (recordRefuses_any r0 x1 b1).mono fun e W' ⟨he, bel⟩ => ?_
  subst he
  exact ⟨_, rfl, _, _, _, [], _, [], hW', trodAll_mk1 (shut_bool Try.underlying4 _), (trodAll_cons_mk (Below.trod laid_out (by kernel_rfl) (of_decide_eq_true (by kernel_rfl)) k0 bel lt0) (trodAll_cons_mk (shut_int Try.underlying3 w1) trodAll_mk0)), rfl, bel.frame _, fun h => by cases h⟩

theorem recordRefuses_lifted (os : Os) (started : os.Started) (H : Type) (enc : TypeId × Value → H) :
    ReturnsInHanded {} Try.checked os 7 .any (Rows.recordRefusesSpec.pre6 enc Try.prog Try.f7 Rows.recordRefusesRow.domain false) (Rows.recordRefusesSpec.post enc Try.prog Try.f7 false true false false) := by
  refine returnsInHanded_of_change_sized (C := Try.checked) own_knob started (by kernel_rfl) Try.func7
    (ChangeSpec.witness6 (enc := enc) (C := Try.checked) false ⟨#[], #[.agg #[.int .i64 0, .int .i64 0, .int .i64 0, .int .i64 0, .int .i64 0, .int .i64 0, .slice none 0 0, .slice none 0 0, .int .i64 0, .slice none 0 0, .slice none 0 0], .int .i64 0], []⟩ 8 (by kernel_rfl) (by kernel_rfl) (by kernel_rfl) (by kernel_rfl)) ?_
  intro W base args ds gs before hval hW _ hsz _
  exact recordRefuses_contract H enc W base args ds gs before hval hW hsz

theorem recordRefuses_holds : Rows.RecordRefusesSaid :=
  OpenClaim.holds_of_wide 7 Try.f7 rfl rfl rfl rfl rfl rfl rfl ⟨rfl, rfl, rfl, rfl, rfl⟩ rfl rfl rfl rfl rfl (by kernel_rfl) Try.func7 (by kernel_rfl)
    (of_decide_eq_true (by kernel_rfl)) (by unfold Func.isWrapper; first | (rw [if_pos (by decide +kernel)]; kernel_rfl) | (rw [if_neg (by decide +kernel)]; exact ⟨rfl, rfl⟩))
    (fun os started H enc _ => recordRefuses_lifted os started H enc)
#print axioms recordRefuses_holds
end Go.Proofs.Ytiaehoppdihbdaa
