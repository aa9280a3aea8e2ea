/-
  Proved: for every input that its row lets in the statement RecordBack answers true; what was handed in stays as it was.
  Conditions: none beyond the row's own.
-/
import Derived.Test.YtndikhjodlpkfaaLaw9b
import Derived.Test.YtndikhjodlpkfaaRow
import Derived.Test.YtndikhjodlpkfaaOpen9
/- RecordBack: the walk. -/
set_option linter.unusedVariables false
set_option linter.unusedSimpArgs false
namespace Go.Proofs.Ytndikhjodlpkfaa
open Go.RowKit Go.Tm Go.ChangeShapes Go.WideShapes Go.ChangeAt
set_option maxHeartbeats 400000
set_option maxRecDepth 100000
attribute [local go_sem ↓] Go.wp_at_zero Go.wp_at_succ

set_option maxHeartbeats 20000000 in
theorem recordBack_any {w : World} {x : RecD} {q : RPl} (h : RecR w x q) {A : Option Addr} {n c : Nat} {b : List UInt8} (r : Rda w A c b) (hn : n = b.length) (hl : b.length ≤ 140737488351232) :
    Calls Try.prog 5 #[.agg (recC x q).toArray, .slice A n c] w fun e w' => e = .returned (.bool true) ∧ Below w.heap.size w w' := by
  obtain ⟨A1, k1, c1, A2, k2, c2, A3, k3, c3, A4, k4, c4, hsp⟩ := recR_spell h
  have hcs : #[.int .i64 x.kind, .int .i64 x.birth, .int .i64 x.prev, .int .i64 x.id, .int .i64 x.page, .int .i64 x.frm, .slice A1 k1 c1, .slice A2 k2 c2, .int .i64 x.next, .slice A3 k3 c3, .slice A4 k4 c4] = (recC x q).toArray := by rw [hsp]
  rw [← hcs]
  have HX := Lib.hid h
  have HR := Lib.hid r
  have HCS := Lib.hid hcs
  have HNB := Lib.hid hn
  have HLB := Lib.hid hl
  have HBY : Hid (∀ W, Below w.heap.size w W → Calls Try.prog 10 #[.agg #[.int .i64 x.kind, .int .i64 x.birth, .int .i64 x.prev, .int .i64 x.id, .int .i64 x.page, .int .i64 x.frm, .slice A1 k1 c1, .slice A2 k2 c2, .int .i64 x.next, .slice A3 k3 c3, .slice A4 k4 c4]] W (BytP x W)) := Lib.hid fun W hb => bytes_any (h.below hb) hcs
  have HSZ : Hid (∀ W, Below w.heap.size w W → Calls Try.prog 14 #[.agg #[.int .i64 x.kind, .int .i64 x.birth, .int .i64 x.prev, .int .i64 x.id, .int .i64 x.page, .int .i64 x.frm, .slice A1 k1 c1, .slice A2 k2 c2, .int .i64 x.next, .slice A3 k3 c3, .slice A4 k4 c4]] W fun e w' => e = .returned (.int .i64 ((recV x).length : Int)) ∧ Below W.heap.size W w') := Lib.hid fun W hb => size_any (h.below hb) hcs
  have HL0 := Lib.hid ((Below.refl w.heap.size w).alloc (Nat.le_refl _) (.cells #[.int .i64 x.kind, .int .i64 x.birth, .int .i64 x.prev, .int .i64 x.id, .int .i64 x.page, .int .i64 x.frm, .slice A1 k1 c1, .slice A2 k2 c2, .int .i64 x.next, .slice A3 k3 c3, .slice A4 k4 c4] 26))
  have RB0 : Hid (RowC (w.alloc (.cells #[.int .i64 x.kind, .int .i64 x.birth, .int .i64 x.prev, .int .i64 x.id, .int .i64 x.page, .int .i64 x.frm, .slice A1 k1 c1, .slice A2 k2 c2, .int .i64 x.next, .slice A3 k3 c3, .slice A4 k4 c4] 26)) w.heap.size 26 [.int .i64 x.kind, .int .i64 x.birth, .int .i64 x.prev, .int .i64 x.id, .int .i64 x.page, .int .i64 x.frm, .slice A1 k1 c1, .slice A2 k2 c2, .int .i64 x.next, .slice A3 k3 c3, .slice A4 k4 c4]) := Lib.hid (heap_alloc_new w _)
  clear h hsp hcs r hn hl
  cases hr : rgtB x with
  | false =>
    obtain ⟨v1, v2⟩ := rec_no hr
    have HV := Lib.hid v1
    have HE := Lib.hid v2
    clear v1 v2 hr
    go_enter Try.func5, Try.ntmps5
    go_wp2_with fail
    refine alive_any.mono ?_
    rintro e w1 ⟨rfl, hb1⟩
    have HL1 := Lib.hid (below_then HL0.out hb1)
    have RB1 := Lib.hid (RB0.out.below hb1)
    clear hb1
    have d0 := RB1.out.cell (j := 0) rfl
    have d1 := RB1.out.cell (j := 1) rfl
    have d2 := RB1.out.cell (j := 2) rfl
    have d3 := RB1.out.cell (j := 3) rfl
    have d4 := RB1.out.cell (j := 4) rfl
    have d5 := RB1.out.cell (j := 5) rfl
    have d6 := RB1.out.cell (j := 6) rfl
    have d7 := RB1.out.cell (j := 7) rfl
    have d8 := RB1.out.cell (j := 8) rfl
    have d9 := RB1.out.cell (j := 9) rfl
    have d10 := RB1.out.cell (j := 10) rfl
    go_wp2_with fail
    refine (HBY.out _ HL1.out).mono ?_
    rintro e w2 ⟨A0, c0, rfl, hN⟩
    clear d0 d1 d2 d3 d4 d5 d6 d7 d8 d9 d10
    rw [HV.out, HE.out]
    rw [HV.out] at hN
    have HL2 := Lib.hid (below_then HL1.out hN.below)
    have RB2 := Lib.hid (RB1.out.below hN.below)
    clear hN
    rw [show ([] : List UInt8).length = 0 from rfl]
    have d0 := RB2.out.cell (j := 0) rfl
    have d1 := RB2.out.cell (j := 1) rfl
    have d2 := RB2.out.cell (j := 2) rfl
    have d3 := RB2.out.cell (j := 3) rfl
    have d4 := RB2.out.cell (j := 4) rfl
    have d5 := RB2.out.cell (j := 5) rfl
    have d6 := RB2.out.cell (j := 6) rfl
    have d7 := RB2.out.cell (j := 7) rfl
    have d8 := RB2.out.cell (j := 8) rfl
    have d9 := RB2.out.cell (j := 9) rfl
    have d10 := RB2.out.cell (j := 10) rfl
    go_wp2_with (first | (go_at_call 13; refine (num_any _).mono ?_; rintro e w' ⟨rfl, rfl⟩) | fail)
    refine (HSZ.out _ HL2.out).mono ?_
    rintro e w3 ⟨rfl, hb3⟩
    clear d0 d1 d2 d3 d4 d5 d6 d7 d8 d9 d10
    rw [HV.out, show ((([] : List UInt8).length : Nat) : Int) = 0 from rfl]
    have HL3 := Lib.hid (below_then HL2.out hb3)
    have RB3 := Lib.hid (RB2.out.below hb3)
    clear hb3
    go_wp2_with (first | (go_at_call 13; refine (num_any _).mono ?_; rintro e w' ⟨rfl, rfl⟩) | fail)
    refine (parse_says (HR.out.below HL3.out) HNB.out HLB.out).mono ?_
    rintro e w20 ⟨q5, rfl, hb5, hR5⟩
    have HL20 := Lib.hid (below_then HL3.out hb5)
    clear hb5
    cases hp : pRec b with
    | none =>
      obtain ⟨p1, p2⟩ := par_none hp
      rw [p1, p2]
      rw [p1] at hR5
      obtain ⟨A1z, k1z, c1z, A2z, k2z, c2z, A3z, k3z, c3z, A4z, k4z, c4z, hsp5⟩ := recR_spell hR5
      have hcs5 : #[.int .i64 0, .int .i64 0, .int .i64 0, .int .i64 0, .int .i64 0, .int .i64 0, .slice A1z k1z c1z, .slice A2z k2z c2z, .int .i64 0, .slice A3z k3z c3z, .slice A4z k4z c4z] = (recC recZ q5).toArray := by rw [hsp5]; rfl
      rw [← hcs5]
      have HS := Lib.hid (same_any (hR5.below ((Below.refl _ _).alloc (Nat.le_refl _) (.cells #[.int .i64 0, .int .i64 0, .int .i64 0, .int .i64 0, .int .i64 0, .int .i64 0, .slice A1z k1z c1z, .slice A2z k2z c2z, .int .i64 0, .slice A3z k3z c3z, .slice A4z k4z c4z] 26))) (recR_nil (w20.alloc (.cells #[.int .i64 0, .int .i64 0, .int .i64 0, .int .i64 0, .int .i64 0, .int .i64 0, .slice A1z k1z c1z, .slice A2z k2z c2z, .int .i64 0, .slice A3z k3z c3z, .slice A4z k4z c4z] 26)) (x := recZ) rfl rfl rfl rfl recZ_in) hcs5 rfl)
      have HL21 := Lib.hid (HL20.out.alloc HL20.out.size (.cells #[.int .i64 0, .int .i64 0, .int .i64 0, .int .i64 0, .int .i64 0, .int .i64 0, .slice A1z k1z c1z, .slice A2z k2z c2z, .int .i64 0, .slice A3z k3z c3z, .slice A4z k4z c4z] 26))
      clear hp p1 p2 hR5 hsp5 hcs5
      go_wp2_with (first | (go_at_call 13; refine (num_any _).mono ?_; rintro e w' ⟨rfl, rfl⟩) | fail)
      refine HS.out.mono ?_
      rintro e w22 ⟨rfl, hb6⟩
      have HL22 := Lib.hid (below_then HL21.out hb6)
      rw [decide_eq_true rfl]
      clear hb6 HS
      go_wp2_with fail
      go_ret
      exact ⟨rfl, HL22.out⟩
    | some s =>
      obtain ⟨p1, p2⟩ := par_some hp
      obtain ⟨hs1, hs2⟩ := (pRec_iff _ _).1 hp
      obtain ⟨v1, v2⟩ := rec_yes hs1
      rw [hs2] at v1
      rw [p1, p2]
      rw [p1] at hR5
      obtain ⟨A1z, k1z, c1z, A2z, k2z, c2z, A3z, k3z, c3z, A4z, k4z, c4z, hsp5⟩ := recR_spell hR5
      have hcs5 : #[.int .i64 s.kind, .int .i64 s.birth, .int .i64 s.prev, .int .i64 s.id, .int .i64 s.page, .int .i64 s.frm, .slice A1z k1z c1z, .slice A2z k2z c2z, .int .i64 s.next, .slice A3z k3z c3z, .slice A4z k4z c4z] = (recC s q5).toArray := by rw [hsp5]
      rw [← hcs5]
      have HS := Lib.hid (bytes_any (hR5.below ((Below.refl _ _).alloc (Nat.le_refl _) (.cells #[.int .i64 s.kind, .int .i64 s.birth, .int .i64 s.prev, .int .i64 s.id, .int .i64 s.page, .int .i64 s.frm, .slice A1z k1z c1z, .slice A2z k2z c2z, .int .i64 s.next, .slice A3z k3z c3z, .slice A4z k4z c4z] 26))) hcs5)
      have HL21 := Lib.hid (HL20.out.alloc HL20.out.size (.cells #[.int .i64 s.kind, .int .i64 s.birth, .int .i64 s.prev, .int .i64 s.id, .int .i64 s.page, .int .i64 s.frm, .slice A1z k1z c1z, .slice A2z k2z c2z, .int .i64 s.next, .slice A3z k3z c3z, .slice A4z k4z c4z] 26))
      have HV1 := Lib.hid v1
      have HV2 := Lib.hid v2
      clear hp p1 p2 hs1 hs2 hR5 hsp5 hcs5 v1 v2
      go_wp2_with (first | (go_at_call 13; refine (num_any _).mono ?_; rintro e w' ⟨rfl, rfl⟩) | fail)
      refine HS.out.mono ?_
      rintro e w22 ⟨A9, c9, rfl, hN9⟩
      rw [HV1.out, HV2.out, ← HNB.out]
      rw [HV1.out] at hN9
      have HL22 := Lib.hid (below_then HL21.out hN9.below)
      have cv1 := fun dst hd => run_conv_rd (P := Try.prog) w22 tU8 hN9.rda n HNB.out dst hd
      have cv2 := fun dst hd => run_conv_rd (P := Try.prog) w22 tU8 (HR.out.below HL22.out) n HNB.out dst hd
      clear hN9 HS
      go_wp2_with (first | (go_at_call 13; refine (num_any _).mono ?_; rintro e w' ⟨rfl, rfl⟩) | fail)
      go_ret
      exact ⟨rfl, HL22.out⟩
  | true =>
    obtain ⟨v1, v2⟩ := rec_yes hr
    obtain ⟨p1, p2⟩ := par_recL hr
    have hsz := recL_length hr
    have hle := recL_le hr
    have HLS : Hid (∀ W, Below w.heap.size w W → Calls Try.prog 22 #[.agg #[.int .i64 x.kind, .int .i64 x.birth, .int .i64 x.prev, .int .i64 x.id, .int .i64 x.page, .int .i64 x.frm, .slice A1 k1 c1, .slice A2 k2 c2, .int .i64 x.next, .slice A3 k3 c3, .slice A4 k4 c4]] W fun e w' => e = .returned (.int .i64 (sizeR x : Int)) ∧ Below W.heap.size W w') := Lib.hid fun W hb => lsize_any (HX.out.below hb) HCS.out hr
    obtain ⟨L, hL⟩ : ∃ l, recL x = l := ⟨_, rfl⟩
    rw [hL] at v1 p1 p2 hsz hle
    obtain ⟨N, hN0⟩ : ∃ k, L.length = k := ⟨_, rfl⟩
    rw [hN0] at hsz hle
    have HV := Lib.hid v1
    have HE := Lib.hid v2
    have HP1 := Lib.hid p1
    have HP2 := Lib.hid p2
    have HZ := Lib.hid hsz
    have HN0 := Lib.hid hN0
    clear v1 v2 hr p1 p2 hsz hL hN0
    go_enter Try.func5, Try.ntmps5
    go_wp2_with fail
    refine alive_any.mono ?_
    rintro e w1 ⟨rfl, hb1⟩
    have HL1 := Lib.hid (below_then HL0.out hb1)
    have RB1 := Lib.hid (RB0.out.below hb1)
    clear hb1
    have d0 := RB1.out.cell (j := 0) rfl
    have d1 := RB1.out.cell (j := 1) rfl
    have d2 := RB1.out.cell (j := 2) rfl
    have d3 := RB1.out.cell (j := 3) rfl
    have d4 := RB1.out.cell (j := 4) rfl
    have d5 := RB1.out.cell (j := 5) rfl
    have d6 := RB1.out.cell (j := 6) rfl
    have d7 := RB1.out.cell (j := 7) rfl
    have d8 := RB1.out.cell (j := 8) rfl
    have d9 := RB1.out.cell (j := 9) rfl
    have d10 := RB1.out.cell (j := 10) rfl
    go_wp2_with fail
    refine (HBY.out _ HL1.out).mono ?_
    rintro e w2 ⟨A0, c0, rfl, hN⟩
    clear d0 d1 d2 d3 d4 d5 d6 d7 d8 d9 d10
    rw [HV.out, HE.out]
    rw [HV.out] at hN
    have HL2 := Lib.hid (below_then HL1.out hN.below)
    have RB2 := Lib.hid (RB1.out.below hN.below)
    rw [HN0.out]
    have HNW := Lib.hid hN
    clear hN
    go_wp2_with (first | (go_at_call 13; refine (num_any _).mono ?_; rintro e w' ⟨rfl, rfl⟩) | fail)
    refine (parse_says HNW.out.rda HN0.out.symm (by rw [HN0.out]; omega)).mono ?_
    rintro e w3 ⟨q3, rfl, hb3, hR3⟩
    rw [HP1.out, HP2.out]
    rw [HP1.out] at hR3
    have HL3 := Lib.hid (below_then HL2.out hb3)
    have RB3 := Lib.hid (RB2.out.below hb3)
    obtain ⟨A1y, k1y, c1y, A2y, k2y, c2y, A3y, k3y, c3y, A4y, k4y, c4y, hsp3⟩ := recR_spell hR3
    have hcs3 : #[.int .i64 x.kind, .int .i64 x.birth, .int .i64 x.prev, .int .i64 x.id, .int .i64 x.page, .int .i64 x.frm, .slice A1y k1y c1y, .slice A2y k2y c2y, .int .i64 x.next, .slice A3y k3y c3y, .slice A4y k4y c4y] = (recC x q3).toArray := by rw [hsp3]
    rw [← hcs3]
    have hba := (Below.refl w3.heap.size w3).alloc (Nat.le_refl _) (.cells #[.int .i64 x.kind, .int .i64 x.birth, .int .i64 x.prev, .int .i64 x.id, .int .i64 x.page, .int .i64 x.frm, .slice A1y k1y c1y, .slice A2y k2y c2y, .int .i64 x.next, .slice A3y k3y c3y, .slice A4y k4y c4y] 26)
    have HL4 := Lib.hid (below_then HL3.out hba)
    have RB4 := Lib.hid (RB3.out.below hba)
    have HS := Lib.hid (same_any (HX.out.below HL4.out) (hR3.below hba) HCS.out hcs3)
    clear hb3 hR3 hsp3 hcs3 hba
    have d0 := RB4.out.cell (j := 0) rfl
    have d1 := RB4.out.cell (j := 1) rfl
    have d2 := RB4.out.cell (j := 2) rfl
    have d3 := RB4.out.cell (j := 3) rfl
    have d4 := RB4.out.cell (j := 4) rfl
    have d5 := RB4.out.cell (j := 5) rfl
    have d6 := RB4.out.cell (j := 6) rfl
    have d7 := RB4.out.cell (j := 7) rfl
    have d8 := RB4.out.cell (j := 8) rfl
    have d9 := RB4.out.cell (j := 9) rfl
    have d10 := RB4.out.cell (j := 10) rfl
    go_wp2_with (first | (go_at_call 13; refine (num_any _).mono ?_; rintro e w' ⟨rfl, rfl⟩) | fail)
    refine HS.out.mono ?_
    rintro e w5 ⟨rfl, hb5⟩
    clear d0 d1 d2 d3 d4 d5 d6 d7 d8 d9 d10
    rw [decide_eq_true rfl]
    have HL5 := Lib.hid (below_then HL4.out hb5)
    have RB5 := Lib.hid (RB4.out.below hb5)
    clear hb5
    have d0 := RB5.out.cell (j := 0) rfl
    have d1 := RB5.out.cell (j := 1) rfl
    have d2 := RB5.out.cell (j := 2) rfl
    have d3 := RB5.out.cell (j := 3) rfl
    have d4 := RB5.out.cell (j := 4) rfl
    have d5 := RB5.out.cell (j := 5) rfl
    have d6 := RB5.out.cell (j := 6) rfl
    have d7 := RB5.out.cell (j := 7) rfl
    have d8 := RB5.out.cell (j := 8) rfl
    have d9 := RB5.out.cell (j := 9) rfl
    have d10 := RB5.out.cell (j := 10) rfl
    go_wp2_with fail
    refine (HSZ.out _ HL5.out).mono ?_
    rintro e w6 ⟨rfl, hb6⟩
    clear d0 d1 d2 d3 d4 d5 d6 d7 d8 d9 d10
    rw [HV.out, HN0.out]
    have HL6 := Lib.hid (below_then HL5.out hb6)
    have RB6 := Lib.hid (RB5.out.below hb6)
    clear hb6
    have d0 := RB6.out.cell (j := 0) rfl
    have d1 := RB6.out.cell (j := 1) rfl
    have d2 := RB6.out.cell (j := 2) rfl
    have d3 := RB6.out.cell (j := 3) rfl
    have d4 := RB6.out.cell (j := 4) rfl
    have d5 := RB6.out.cell (j := 5) rfl
    have d6 := RB6.out.cell (j := 6) rfl
    have d7 := RB6.out.cell (j := 7) rfl
    have d8 := RB6.out.cell (j := 8) rfl
    have d9 := RB6.out.cell (j := 9) rfl
    have d10 := RB6.out.cell (j := 10) rfl
    go_wp2_with fail
    refine (HLS.out _ HL6.out).mono ?_
    rintro e w7 ⟨rfl, hb7⟩
    clear d0 d1 d2 d3 d4 d5 d6 d7 d8 d9 d10
    rw [← HZ.out]
    have HL7 := Lib.hid (below_then HL6.out hb7)
    have RB7 := Lib.hid (RB6.out.below hb7)
    clear hb7
    go_wp2_with fail
    refine (parse_says (HR.out.below HL7.out) HNB.out HLB.out).mono ?_
    rintro e w20 ⟨q5, rfl, hb5, hR5⟩
    have HL20 := Lib.hid (below_then HL7.out hb5)
    clear hb5
    cases hp : pRec b with
    | none =>
      obtain ⟨p1, p2⟩ := par_none hp
      rw [p1, p2]
      rw [p1] at hR5
      obtain ⟨A1z, k1z, c1z, A2z, k2z, c2z, A3z, k3z, c3z, A4z, k4z, c4z, hsp5⟩ := recR_spell hR5
      have hcs5 : #[.int .i64 0, .int .i64 0, .int .i64 0, .int .i64 0, .int .i64 0, .int .i64 0, .slice A1z k1z c1z, .slice A2z k2z c2z, .int .i64 0, .slice A3z k3z c3z, .slice A4z k4z c4z] = (recC recZ q5).toArray := by rw [hsp5]; rfl
      rw [← hcs5]
      have HS := Lib.hid (same_any (hR5.below ((Below.refl _ _).alloc (Nat.le_refl _) (.cells #[.int .i64 0, .int .i64 0, .int .i64 0, .int .i64 0, .int .i64 0, .int .i64 0, .slice A1z k1z c1z, .slice A2z k2z c2z, .int .i64 0, .slice A3z k3z c3z, .slice A4z k4z c4z] 26))) (recR_nil (w20.alloc (.cells #[.int .i64 0, .int .i64 0, .int .i64 0, .int .i64 0, .int .i64 0, .int .i64 0, .slice A1z k1z c1z, .slice A2z k2z c2z, .int .i64 0, .slice A3z k3z c3z, .slice A4z k4z c4z] 26)) (x := recZ) rfl rfl rfl rfl recZ_in) hcs5 rfl)
      have HL21 := Lib.hid (HL20.out.alloc HL20.out.size (.cells #[.int .i64 0, .int .i64 0, .int .i64 0, .int .i64 0, .int .i64 0, .int .i64 0, .slice A1z k1z c1z, .slice A2z k2z c2z, .int .i64 0, .slice A3z k3z c3z, .slice A4z k4z c4z] 26))
      clear hp p1 p2 hR5 hsp5 hcs5
      go_wp2_with (first | (go_at_call 13; refine (num_any _).mono ?_; rintro e w' ⟨rfl, rfl⟩) | fail)
      refine HS.out.mono ?_
      rintro e w22 ⟨rfl, hb6⟩
      have HL22 := Lib.hid (below_then HL21.out hb6)
      rw [decide_eq_true rfl]
      clear hb6 HS
      go_wp2_with fail
      go_ret
      exact ⟨rfl, HL22.out⟩
    | some s =>
      obtain ⟨p1, p2⟩ := par_some hp
      obtain ⟨hs1, hs2⟩ := (pRec_iff _ _).1 hp
      obtain ⟨v1, v2⟩ := rec_yes hs1
      rw [hs2] at v1
      rw [p1, p2]
      rw [p1] at hR5
      obtain ⟨A1z, k1z, c1z, A2z, k2z, c2z, A3z, k3z, c3z, A4z, k4z, c4z, hsp5⟩ := recR_spell hR5
      have hcs5 : #[.int .i64 s.kind, .int .i64 s.birth, .int .i64 s.prev, .int .i64 s.id, .int .i64 s.page, .int .i64 s.frm, .slice A1z k1z c1z, .slice A2z k2z c2z, .int .i64 s.next, .slice A3z k3z c3z, .slice A4z k4z c4z] = (recC s q5).toArray := by rw [hsp5]
      rw [← hcs5]
      have HS := Lib.hid (bytes_any (hR5.below ((Below.refl _ _).alloc (Nat.le_refl _) (.cells #[.int .i64 s.kind, .int .i64 s.birth, .int .i64 s.prev, .int .i64 s.id, .int .i64 s.page, .int .i64 s.frm, .slice A1z k1z c1z, .slice A2z k2z c2z, .int .i64 s.next, .slice A3z k3z c3z, .slice A4z k4z c4z] 26))) hcs5)
      have HL21 := Lib.hid (HL20.out.alloc HL20.out.size (.cells #[.int .i64 s.kind, .int .i64 s.birth, .int .i64 s.prev, .int .i64 s.id, .int .i64 s.page, .int .i64 s.frm, .slice A1z k1z c1z, .slice A2z k2z c2z, .int .i64 s.next, .slice A3z k3z c3z, .slice A4z k4z c4z] 26))
      have HV1 := Lib.hid v1
      have HV2 := Lib.hid v2
      clear hp p1 p2 hs1 hs2 hR5 hsp5 hcs5 v1 v2
      go_wp2_with (first | (go_at_call 13; refine (num_any _).mono ?_; rintro e w' ⟨rfl, rfl⟩) | fail)
      refine HS.out.mono ?_
      rintro e w22 ⟨A9, c9, rfl, hN9⟩
      rw [HV1.out, HV2.out, ← HNB.out]
      rw [HV1.out] at hN9
      have HL22 := Lib.hid (below_then HL21.out hN9.below)
      have cv1 := fun dst hd => run_conv_rd (P := Try.prog) w22 tU8 hN9.rda n HNB.out dst hd
      have cv2 := fun dst hd => run_conv_rd (P := Try.prog) w22 tU8 (HR.out.below HL22.out) n HNB.out dst hd
      clear hN9 HS
      go_wp2_with (first | (go_at_call 13; refine (num_any _).mono ?_; rintro e w' ⟨rfl, rfl⟩) | fail)
      go_ret
      exact ⟨rfl, HL22.out⟩

theorem recordBack_contract (H : Type) (enc : TypeId × Value → H) (W : World) (base : Nat) (args : Array Value) (ds gs : List (DataW H)) (before : List MemPlace)
    (hval0 : ∀ (j : Nat) t v, Try.f5.params[j]? = some t → args[j]? = some v → Value.okWide Try.prog W .any base t v)
    (hW : DataW.Whole enc Try.prog Try.f5.params.toList Rows.recordBackSpec.vars false W args.toList ds gs before) (hsz : (DataW.weightsEach Try.checked.prog (Try.f5.params.toList ++ Rows.recordBackSpec.plain.varTypes Try.checked.prog) (ds ++ gs)).all (· ≤ reachBytes) = true) :
    Calls Try.prog 5 args W fun e W' => ∃ v, e = .returned v ∧ Rows.recordBackSpec.post enc Try.prog Try.f5 false true false false W args v W' := by
  have hval : ∀ (j : Nat) t v, Try.f5.params[j]? = some t → args[j]? = some v → Value.okWide Try.prog W .any base t v := hval0
  have hW' := hW
  obtain ⟨p, q, hA0, hV, rfl, hfz, hnd⟩ := hW
  have hA : DataW.TrodAll enc Try.prog W 0 (fun _ => true) true Try.f5.params.toList args.toList ds p := hA0
  rw [Try.params5] at hA hval
  obtain ⟨v0, vs0, d0, ds0, p0, q0, hargs, rfl, rfl, h0, rr0⟩ := trodAll_cons hA
  obtain ⟨v1, vs1, d1, ds1, p1, q1, rfl, rfl, rfl, h1, rr1⟩ := trodAll_cons rr0
  obtain ⟨rfl, rfl, rfl⟩ := trodAll_nil rr1
  obtain rfl : args = #[v0, v1] := by cases args; simp_all
  obtain ⟨rfl, rfl⟩ := trodVars_none hV
  have k0 := h0
  have lt0 : ∀ x ∈ p0, x.block < W.heap.size := by obtain ⟨m, hm⟩ := k0; exact DataW.trod_lt m _ _ _ hm
  obtain ⟨x0, q0, rfl, r0⟩ := open_record (hval 0 26 v0 rfl rfl) h0 (arg_sized (j := 0) hsz rfl rfl)
  obtain ⟨a1, len1, cap1, rfl⟩ := okWide_slice Try.underlying22 (hval 1 22 v1 rfl rfl)
  have k1 := h1
  have lt1 : ∀ x ∈ p1, x.block < W.heap.size := by obtain ⟨m, hm⟩ := k1; exact DataW.trod_lt m _ _ _ hm
  obtain ⟨l1, n1, r1, dd1⟩ : ∃ l : List UInt8, len1 = l.length ∧ Rda W a1 cap1 l ∧ RowOf d1 l := by
    obtain ⟨fuel, hf⟩ := h1
    obtain ⟨A, l, c, hv, hr, hx⟩ := open_bytes tU8 (by kernel_rfl) (by simpa [Value.cells] using hf)
    obtain ⟨rfl, rfl, rfl⟩ : a1 = A ∧ len1 = l.length ∧ cap1 = c := by simpa using hv
    exact ⟨l, rfl, hr, hx⟩
  have s1 : l1.length ≤ 140737488351232 := by
    rcases dd1 with ⟨_, h⟩ | ⟨zs, sp, hd, hl⟩
    · rw [h]; simp
    · subst hd
      have := sized_slice hsz (j := 1) (t := 22) (e := 5) rfl rfl Try.underlying22
      rw [show Try.checked.prog.bytesOf 5 = 1 from by kernel_rfl] at this
      unfold lits at this
      simp only [List.length_map] at this
      have h47 : reachBytes ≤ 140737488351232 := by decide
      omega
  clear hA0 hval0
  refine (recordBack_any r0 r1 n1 s1).mono fun e W' ⟨he, bel⟩ => ?_
  subst he
  exact ⟨_, rfl, _, _, _, [], _, [], hW', trodAll_mk1 (shut_bool Try.underlying4 _), (trodAll_cons_mk (Below.trod laid_out (by kernel_rfl) (of_decide_eq_true (by kernel_rfl)) k0 bel lt0) (trodAll_cons_mk (Below.trod laid_out (by kernel_rfl) (of_decide_eq_true (by kernel_rfl)) k1 bel lt1) trodAll_mk0)), rfl, bel.frame _, fun h => by cases h⟩

theorem recordBack_lifted (os : Os) (started : os.Started) (H : Type) (enc : TypeId × Value → H) :
    ReturnsInHanded {} Try.checked os 5 .any (Rows.recordBackSpec.pre6 enc Try.prog Try.f5 Rows.recordBackRow.domain false) (Rows.recordBackSpec.post enc Try.prog Try.f5 false true false false) := by
  refine returnsInHanded_of_change_sized (C := Try.checked) own_knob started (by kernel_rfl) Try.func5
    (ChangeSpec.witness6 (enc := enc) (C := Try.checked) false ⟨#[], #[.agg #[.int .i64 0, .int .i64 0, .int .i64 0, .int .i64 0, .int .i64 0, .int .i64 0, .slice none 0 0, .slice none 0 0, .int .i64 0, .slice none 0 0, .slice none 0 0], .slice none 0 0], []⟩ 8 (by kernel_rfl) (by kernel_rfl) (by kernel_rfl) (by kernel_rfl)) ?_
  intro W base args ds gs before hval hW _ hsz _
  exact recordBack_contract H enc W base args ds gs before hval hW hsz

theorem recordBack_holds : Rows.RecordBackSaid :=
  OpenClaim.holds_of_wide 5 Try.f5 rfl rfl rfl rfl rfl rfl rfl ⟨rfl, rfl, rfl, rfl, rfl⟩ rfl rfl rfl rfl rfl (by kernel_rfl) Try.func5 (by kernel_rfl)
    (of_decide_eq_true (by kernel_rfl)) (by unfold Func.isWrapper; first | (rw [if_pos (by decide +kernel)]; kernel_rfl) | (rw [if_neg (by decide +kernel)]; exact ⟨rfl, rfl⟩))
    (fun os started H enc _ => recordBack_lifted os started H enc)
#print axioms recordBack_holds
end Go.Proofs.Ytndikhjodlpkfaa
