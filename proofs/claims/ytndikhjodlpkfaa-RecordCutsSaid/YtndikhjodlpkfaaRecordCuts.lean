/-
  Proved: for every input that its row lets in the statement RecordCuts answers true; what was handed in stays as it was.
  Conditions: none beyond the row's own.
-/
import Derived.Test.YtndikhjodlpkfaaLaw9b
import Derived.Test.YtndikhjodlpkfaaRow
import Derived.Test.YtndikhjodlpkfaaOpen9
import Derived.Test.YtndikhjodlpkfaaStore
/- RecordCuts: the walk. -/
set_option linter.unusedVariables false
set_option linter.unusedSimpArgs false
namespace Go.Proofs.Ytndikhjodlpkfaa
open Go.RowKit Go.Tm Go.ChangeShapes Go.WideShapes Go.ChangeAt
set_option maxHeartbeats 400000
set_option maxRecDepth 100000
attribute [local go_sem ↓] Go.wp_at_zero Go.wp_at_succ

theorem cut_none {x : RecD} (h : rgtB x = true) {k : Nat} (hk : k < (recL x).length) : pRec ((recL x).take k) = none := by
  cases hp : pRec ((recL x).take k) with
  | none => rfl
  | some s =>
    obtain ⟨h1, h2⟩ := (pRec_iff _ _).1 hp
    have h3 := recL_prefix h1 h (m := (recL x).drop k) (by rw [h2, List.take_append_drop])
    have h4 := congrArg List.length h3
    rw [List.length_drop, List.length_nil] at h4
    omega
theorem more_none {x : RecD} (h : rgtB x = true) (y : UInt8) : pRec (recL x ++ [y]) = none := by
  cases hp : pRec (recL x ++ [y]) with
  | none => rfl
  | some s =>
    obtain ⟨h1, h2⟩ := (pRec_iff _ _).1 hp
    have h3 := recL_prefix h h1 h2
    cases h3

set_option maxHeartbeats 20000000 in
theorem recordCuts_any {w : World} {x : RecD} {q : RPl} (h : RecR w x q) (at0 by0 : Int) (ha : -9223372036854775808 ≤ at0 ∧ at0 ≤ 9223372036854775807) (hy : 0 ≤ by0 ∧ by0 ≤ 255) :
    Calls Try.prog 6 #[.agg (recC x q).toArray, .int .i64 at0, .int .u8 by0] w fun e w' => e = .returned (.bool true) ∧ Below w.heap.size w w' := by
  obtain ⟨A1, k1, c1, A2, k2, c2, A3, k3, c3, A4, k4, c4, hsp⟩ := recR_spell h
  have hcs : #[.int .i64 x.kind, .int .i64 x.birth, .int .i64 x.prev, .int .i64 x.id, .int .i64 x.page, .int .i64 x.frm, .slice A1 k1 c1, .slice A2 k2 c2, .int .i64 x.next, .slice A3 k3 c3, .slice A4 k4 c4] = (recC x q).toArray := by rw [hsp]
  rw [← hcs]
  have HX := Lib.hid h
  have HCS := Lib.hid hcs
  have HBY : Hid (∀ W, Below w.heap.size w W → Calls Try.prog 10 #[.agg #[.int .i64 x.kind, .int .i64 x.birth, .int .i64 x.prev, .int .i64 x.id, .int .i64 x.page, .int .i64 x.frm, .slice A1 k1 c1, .slice A2 k2 c2, .int .i64 x.next, .slice A3 k3 c3, .slice A4 k4 c4]] W (BytP x W)) := Lib.hid fun W hb => bytes_any (h.below hb) hcs
  have HL0 := Lib.hid ((Below.refl w.heap.size w).alloc (Nat.le_refl _) (.cells #[.int .i64 x.kind, .int .i64 x.birth, .int .i64 x.prev, .int .i64 x.id, .int .i64 x.page, .int .i64 x.frm, .slice A1 k1 c1, .slice A2 k2 c2, .int .i64 x.next, .slice A3 k3 c3, .slice A4 k4 c4] 26))
  have RB0 : Hid (RowC (w.alloc (.cells #[.int .i64 x.kind, .int .i64 x.birth, .int .i64 x.prev, .int .i64 x.id, .int .i64 x.page, .int .i64 x.frm, .slice A1 k1 c1, .slice A2 k2 c2, .int .i64 x.next, .slice A3 k3 c3, .slice A4 k4 c4] 26)) w.heap.size 26 [.int .i64 x.kind, .int .i64 x.birth, .int .i64 x.prev, .int .i64 x.id, .int .i64 x.page, .int .i64 x.frm, .slice A1 k1 c1, .slice A2 k2 c2, .int .i64 x.next, .slice A3 k3 c3, .slice A4 k4 c4]) := Lib.hid (heap_alloc_new w _)
  have HA := Lib.hid ha
  obtain ⟨Y, rfl⟩ : ∃ Y : UInt8, by0 = (Y.toNat : Int) := ⟨UInt8.ofNat by0.toNat, by rw [UInt8.toNat_ofNat', Nat.mod_eq_of_lt (by omega)]; omega⟩
  clear h hsp hcs ha
  cases hr : rgtB x with
  | false =>
    obtain ⟨v1, v2⟩ := rec_no hr
    have HV := Lib.hid v1
    have HE := Lib.hid v2
    clear v1 v2 hr
    go_enter Try.func6, Try.ntmps6
    go_wp2_with fail
    refine alive_any.mono ?_
    rintro e w1 ⟨rfl, hb1⟩
    have HL1 := Lib.hid (below_then HL0.out hb1)
    have RB1 := Lib.hid (RB0.out.below hb1)
    clear hb1
    have d0 := RB1.out.cell (j := 0) rfl
    have d1 := RB1.out.cell (j := 1) rfl
    have d2 := RB1.out.cell (j := 2) rfl
    have d3 := RB1.out.cell (j := 3) rfl
    have d4 := RB1.out.cell (j := 4) rfl
    have d5 := RB1.out.cell (j := 5) rfl
    have d6 := RB1.out.cell (j := 6) rfl
    have d7 := RB1.out.cell (j := 7) rfl
    have d8 := RB1.out.cell (j := 8) rfl
    have d9 := RB1.out.cell (j := 9) rfl
    have d10 := RB1.out.cell (j := 10) rfl
    go_wp2_with fail
    refine (HBY.out _ HL1.out).mono ?_
    rintro e w2 ⟨A0, c0, rfl, hN⟩
    clear d0 d1 d2 d3 d4 d5 d6 d7 d8 d9 d10
    rw [HV.out, HE.out]
    rw [HV.out] at hN
    have HL2 := Lib.hid (below_then HL1.out hN.below)
    have RB2 := Lib.hid (RB1.out.below hN.below)
    clear hN
    rw [show ([] : List UInt8).length = 0 from rfl]
    go_wp2_with (first | (go_at_call 13; refine (num_any _).mono ?_; rintro e w' ⟨rfl, rfl⟩) | fail)
    go_ret
    exact ⟨rfl, HL2.out⟩
  | true =>
    obtain ⟨v1, v2⟩ := rec_yes hr
    obtain ⟨p1, p2⟩ := par_recL hr
    have hsz := recL_length hr
    have hle := recL_le hr
    have hpos : 17 ≤ (recL x).length := by rw [hsz]; unfold sizeR; (repeat' split) <;> omega
    have HCN := Lib.hid (fun k => cut_none hr (k := k))
    have HMN := Lib.hid (more_none hr)
    obtain ⟨L, hL⟩ : ∃ l, recL x = l := ⟨_, rfl⟩
    rw [hL] at v1 p1 p2 hsz hle hpos HCN HMN
    obtain ⟨N, hN0⟩ : ∃ k, L.length = k := ⟨_, rfl⟩
    rw [hN0] at hsz hle hpos HCN
    have HV := Lib.hid v1
    have HE := Lib.hid v2
    have HP1 := Lib.hid p1
    have HP2 := Lib.hid p2
    have HN0 := Lib.hid hN0
    have HRT := Lib.hid hr
    have HLL := Lib.hid hL
    clear v1 v2 hr p1 p2 hsz hL hN0
    go_enter Try.func6, Try.ntmps6
    go_wp2_with fail
    refine alive_any.mono ?_
    rintro e w1 ⟨rfl, hb1⟩
    have HL1 := Lib.hid (below_then HL0.out hb1)
    have RB1 := Lib.hid (RB0.out.below hb1)
    clear hb1
    have d0 := RB1.out.cell (j := 0) rfl
    have d1 := RB1.out.cell (j := 1) rfl
    have d2 := RB1.out.cell (j := 2) rfl
    have d3 := RB1.out.cell (j := 3) rfl
    have d4 := RB1.out.cell (j := 4) rfl
    have d5 := RB1.out.cell (j := 5) rfl
    have d6 := RB1.out.cell (j := 6) rfl
    have d7 := RB1.out.cell (j := 7) rfl
    have d8 := RB1.out.cell (j := 8) rfl
    have d9 := RB1.out.cell (j := 9) rfl
    have d10 := RB1.out.cell (j := 10) rfl
    go_wp2_with fail
    refine (HBY.out _ HL1.out).mono ?_
    rintro e w2 ⟨A0, c0, rfl, hN⟩
    clear d0 d1 d2 d3 d4 d5 d6 d7 d8 d9 d10
    rw [HV.out, HE.out]
    rw [HV.out] at hN
    have HL2 := Lib.hid (below_then HL1.out hN.below)
    have RB2 := Lib.hid (RB1.out.below hN.below)
    rw [HN0.out]
    have HNW := Lib.hid hN
    have hcap0 : N ≤ c0 := by have := hN.rda.cap; rwa [HN0.out] at this
    clear hN
    go_wp2_with (first | (go_at_call 13; refine (num_any _).mono ?_; rintro e w' ⟨rfl, rfl⟩) | fail)
    go_loopw [9] (fun iv wr => ∃ k : Nat, k ≤ N ∧ iv = .int .i64 k ∧ Below w2.heap.size w2 wr) (fun i _ => N - (intOf i).toNat)
    case atStart => exact ⟨0, by omega, rfl, Below.refl _ _⟩
    case round =>
      obtain ⟨k, hk, rfl, hrel⟩ := hrel
      have HB := Lib.hid hrel
      clear hrel
      by_cases hlt : k < N
      · have q1 : (0 : Int) ≤ (k : Int) := by omega
        have q2 : (k : Int) < (N : Int) := by omega
        go_wp2_with fail
        refine (parse_says ((HNW.out.rda.below HB.out).take k (by rw [HN0.out]; omega)) (n := k) (by rw [List.length_take, HN0.out]; omega) (by rw [List.length_take, HN0.out]; omega)).mono ?_
        rintro e w3 ⟨q3, rfl, hb3, hR3⟩
        have HB3 := Lib.hid (below_then HB.out hb3)
        clear hb3
        obtain ⟨p1, p2⟩ := par_none (HCN.out k hlt)
        rw [p1, p2]
        rw [p1] at hR3
        obtain ⟨A1z, k1z, c1z, A2z, k2z, c2z, A3z, k3z, c3z, A4z, k4z, c4z, hsp5⟩ := recR_spell hR3
        have hcs5 : #[.int .i64 0, .int .i64 0, .int .i64 0, .int .i64 0, .int .i64 0, .int .i64 0, .slice A1z k1z c1z, .slice A2z k2z c2z, .int .i64 0, .slice A3z k3z c3z, .slice A4z k4z c4z] = (recC recZ q3).toArray := by rw [hsp5]; rfl
        rw [← hcs5]
        clear p1 p2 hR3 hsp5 hcs5
        have HB4 := Lib.hid (HB3.out.alloc HB3.out.size (.cells #[.int .i64 0, .int .i64 0, .int .i64 0, .int .i64 0, .int .i64 0, .int .i64 0, .slice A1z k1z c1z, .slice A2z k2z c2z, .int .i64 0, .slice A3z k3z c3z, .slice A4z k4z c4z] 26))
        go_wp2_with (first | (go_at_call 13; refine (num_any _).mono ?_; rintro e w' ⟨rfl, rfl⟩) | fail)
        go_roundw
        case rel => exact ⟨k + 1, by omega, by go_num, HB4.out⟩
        case measure => simp [intOf]; omega
      · have hkk : N = k := by omega
        subst hkk
        have hnil := Own8.nilRow wr wr.heap.size 5
        have hLW := HNW.out.rda.below HB.out
        go_wp2_with (at_builtin; refine wpList_app2 (l := []) (m := L) rfl _ _ rfl tU8 rfl hnil rfl HN0.out.symm hLW (by rw [HN0.out]; simp; omega) (Nat.le_refl _) ?_)
        intro v4 w4 o4 hw4
        have hb4 : Below wr.heap.size wr w4 := grown_below hw4.grown (Nat.le_refl _) (fun k hk => by simp [Value.ownBlock] at hk)
        try rw [List.nil_append] at o4
        obtain ⟨A4', c4', rfl, r4⟩ := own_rda o4
        rw [HN0.out] at o4 ⊢
        have HB4 := Lib.hid (below_then HB.out hb4)
        have o5 := o4.alloc (.cells #[.int .u8 (Y.toNat : Int)] 5)
        have hbox := Rda.box w4 5 (Y.toNat : Int) Y rfl
        have hsz5 : wr.heap.size ≤ (w4.alloc (.cells #[.int .u8 (Y.toNat : Int)] 5)).heap.size := Nat.le_trans hb4.size (by simp)
        have HB5 := Lib.hid (HB4.out.alloc HB4.out.size (.cells #[.int .u8 (Y.toNat : Int)] 5))
        have HWR := Lib.hid HB.out.size
        clear hnil hLW hw4 hb4 o4 r4
        go_wp2_with (at_builtin; refine wpList_app2 (l := L) (m := [Y]) rfl _ _ rfl tU8 rfl o5 rfl rfl hbox (by rw [HN0.out]; simp; omega) hsz5 ?_)
        intro v6 w6 o6 hw6
        have HB6 := Lib.hid (o5.grown hw6.grown HB5.out HB5.out.size HWR.out)
        clear hw6 o5 hbox hsz5
        obtain ⟨A6, c6, rfl, r6⟩ := own_rda o6
        have hx6 : (L ++ [Y]).length = N + 1 := by rw [List.length_append, HN0.out]; rfl
        rw [hx6]
        go_wp2_with fail
        refine (parse_says r6 hx6.symm (by rw [hx6]; omega)).mono ?_
        clear o6 r6 hx6
        rintro e w7 ⟨q3, rfl, hb7, hR3⟩
        have HB7 := Lib.hid (below_then HB6.out hb7)
        clear hb7
        obtain ⟨p1, p2⟩ := par_none (HMN.out Y)
        rw [p1, p2]
        rw [p1] at hR3
        obtain ⟨A1z, k1z, c1z, A2z, k2z, c2z, A3z, k3z, c3z, A4z, k4z, c4z, hsp5⟩ := recR_spell hR3
        have hcs5 : #[.int .i64 0, .int .i64 0, .int .i64 0, .int .i64 0, .int .i64 0, .int .i64 0, .slice A1z k1z c1z, .slice A2z k2z c2z, .int .i64 0, .slice A3z k3z c3z, .slice A4z k4z c4z] = (recC recZ q3).toArray := by rw [hsp5]; rfl
        rw [← hcs5]
        clear p1 p2 hR3 hsp5 hcs5
        have HB8 := Lib.hid (HB7.out.alloc HB7.out.size (.cells #[.int .i64 0, .int .i64 0, .int .i64 0, .int .i64 0, .int .i64 0, .int .i64 0, .slice A1z k1z c1z, .slice A2z k2z c2z, .int .i64 0, .slice A3z k3z c3z, .slice A4z k4z c4z] 26))
        have hlo : -(N : Int) < at0.tmod N := by
          have := Int.lt_tmod_of_pos at0 (b := (N : Int)) (by omega)
          omega
        have hhi : at0.tmod N < (N : Int) := Int.tmod_lt_of_pos at0 (by omega)
        obtain ⟨R, hRm⟩ : ∃ r, at0.tmod (N : Int) = r := ⟨_, rfl⟩
        rw [hRm] at hlo hhi
        by_cases hneg : R < 0
        · obtain ⟨K, hK⟩ : ∃ K : Nat, R + (N : Int) = (K : Int) := Int.eq_ofNat_of_zero_le (by omega)
          have hKN : K < N := by omega
          obtain ⟨W8, hW8⟩ : ∃ W, (w7.alloc (.cells #[.int .i64 0, .int .i64 0, .int .i64 0, .int .i64 0, .int .i64 0, .int .i64 0, .slice A1z k1z c1z, .slice A2z k2z c2z, .int .i64 0, .slice A3z k3z c3z, .slice A4z k4z c4z] 26)) = W := ⟨_, rfl⟩
          have hnil := Own8.nilRow (w7.alloc (.cells #[.int .i64 0, .int .i64 0, .int .i64 0, .int .i64 0, .int .i64 0, .int .i64 0, .slice A1z k1z c1z, .slice A2z k2z c2z, .int .i64 0, .slice A3z k3z c3z, .slice A4z k4z c4z] 26)) (w7.alloc (.cells #[.int .i64 0, .int .i64 0, .int .i64 0, .int .i64 0, .int .i64 0, .int .i64 0, .slice A1z k1z c1z, .slice A2z k2z c2z, .int .i64 0, .slice A3z k3z c3z, .slice A4z k4z c4z] 26)).heap.size 5
          have hLW := HNW.out.rda.below HB8.out
          have hs8 : w2.heap.size ≤ (w7.alloc (.cells #[.int .i64 0, .int .i64 0, .int .i64 0, .int .i64 0, .int .i64 0, .int .i64 0, .slice A1z k1z c1z, .slice A2z k2z c2z, .int .i64 0, .slice A3z k3z c3z, .slice A4z k4z c4z] 26)).heap.size := HB8.out.size
          rw [hW8] at hnil hLW hs8
          rw [← hW8] at hnil hLW hs8
          clear hW8 W8
          go_wp2_with (first | (go_at_call 13; refine (num_any _).mono ?_; rintro e w' ⟨rfl, rfl⟩) | (at_builtin; refine wpList_app2 (l := []) (m := L) rfl _ _ rfl tU8 rfl hnil rfl HN0.out.symm hLW (by rw [HN0.out]; simp; omega) (Nat.le_refl _) ?_) | fail)
          clear hRm hnil hLW
          intro v9 w9 o9 hw9
          have hb9 : Below (w7.alloc (.cells #[.int .i64 0, .int .i64 0, .int .i64 0, .int .i64 0, .int .i64 0, .int .i64 0, .slice A1z k1z c1z, .slice A2z k2z c2z, .int .i64 0, .slice A3z k3z c3z, .slice A4z k4z c4z] 26)).heap.size (w7.alloc (.cells #[.int .i64 0, .int .i64 0, .int .i64 0, .int .i64 0, .int .i64 0, .int .i64 0, .slice A1z k1z c1z, .slice A2z k2z c2z, .int .i64 0, .slice A3z k3z c3z, .slice A4z k4z c4z] 26)) w9 := grown_below hw9.grown (Nat.le_refl _) (fun k hk => by simp [Value.ownBlock] at hk)
          try rw [List.nil_append] at o9
          obtain ⟨A9, c9, rfl, r9⟩ := own_rda o9
          have HB9 := Lib.hid (below_then HB8.out hb9)
          obtain ⟨g, rfl, hg⟩ := o9.block (by rw [HN0.out]; omega)
          have hfz := o9.unfrozen rfl K
          have hcell := o9.cellAt rfl K (by rw [HN0.out]; exact hKN)
          have hx := xor8 (L.getD K 0) (Y.toNat : Int) (by omega) (by have := Y.toNat_lt; omega)
          rw [show UInt8.ofNat (Y.toNat : Int).toNat = Y from by simp] at hx
          have hset : L.set K (L.getD K 0) = L := by
            have h4 : K < L.length := by rw [HN0.out]; exact hKN
            rw [show L.getD K 0 = L[K] by simp [List.getD, h4], List.set_getElem_self]
          have hget : ∀ v : UInt8, (L.set K v).getD K 0 = v := fun v => by rw [List.getD, List.getElem?_set_self (by rw [HN0.out]; exact hKN)]; rfl
          obtain ⟨a, hav⟩ : ∃ a, L.getD K 0 = a := ⟨_, rfl⟩
          rw [hav] at hcell hx hset
          obtain ⟨v, hv⟩ : ∃ v, a ^^^ Y = v := ⟨_, rfl⟩
          rw [hv] at hx
          obtain ⟨st1, st2⟩ := o9.stored rfl K v
          have HB10 := Lib.hid (HB9.out.grown st2 HB9.out.size (fun k hk => by injection hk with hk; exact hk ▸ Nat.le_trans (by simpa using hs8) hg))
          have ST := Lib.hid (own_at st1).2
          have HSET := Lib.hid hset
          have HGET := Lib.hid hget
          have HV0 := Lib.hid hv
          have HAV := Lib.hid hav
          rw [HN0.out]
          clear hw9 hb9 o9 r9 st1 st2 hset hget hv hav hg hs8
          go_wp2_with fail
          refine (parse_says ST.out (n := N) (by rw [List.length_set, HN0.out]) (by rw [List.length_set, HN0.out]; omega)).mono ?_
          rintro e w11 ⟨q3, rfl, hb11, hR3⟩
          have HB11 := Lib.hid (below_then HB10.out hb11)
          have HL11 := Lib.hid (below_then HL2.out HB11.out)
          clear hb11 hfz hcell hx
          cases hp : pRec (L.set K v) with
          | none =>
            have hY : ¬ (Y.toNat : Int) = 0 := by
              intro e
              have e2 : Y = 0 := UInt8.toNat_inj.1 (by have : (0 : UInt8).toNat = 0 := rfl; omega)
              have e3 : v = a := by rw [← HV0.out, e2]; simp
              rw [e3, HSET.out, ← HLL.out, (pRec_iff _ _).2 ⟨HRT.out, rfl⟩] at hp
              cases hp
            obtain ⟨p1, p2⟩ := par_none hp
            rw [p1, p2]
            rw [p1] at hR3
            obtain ⟨A1t, k1t, c1t, A2t, k2t, c2t, A3t, k3t, c3t, A4t, k4t, c4t, hsp5⟩ := recR_spell hR3
            have hcs5 : #[.int .i64 0, .int .i64 0, .int .i64 0, .int .i64 0, .int .i64 0, .int .i64 0, .slice A1t k1t c1t, .slice A2t k2t c2t, .int .i64 0, .slice A3t k3t c3t, .slice A4t k4t c4t] = (recC recZ q3).toArray := by rw [hsp5]; rfl
            rw [← hcs5]
            have HB12 := Lib.hid (HL11.out.alloc HL11.out.size (.cells #[.int .i64 0, .int .i64 0, .int .i64 0, .int .i64 0, .int .i64 0, .int .i64 0, .slice A1t k1t c1t, .slice A2t k2t c2t, .int .i64 0, .slice A3t k3t c3t, .slice A4t k4t c4t] 26))
            clear hp p1 p2 hR3 hsp5 hcs5
            have hY2 : ¬ Y.toNat = 0 := by omega
            have hY3 : ((Y.toNat : Int) == 0) = false := by rw [beq_eq_false_iff_ne]; exact hY
            have hY4 : ((Y.toNat : Int) != 0) = true := by rw [bne_iff_ne]; exact hY
            go_wp2_with (first | (go_at_call 13; refine (num_any _).mono ?_; rintro e w' ⟨rfl, rfl⟩) | fail)
            go_ret
            exact ⟨rfl, HB12.out⟩
          | some s =>
            obtain ⟨p1, p2⟩ := par_some hp
            obtain ⟨hs1, hs2⟩ := (pRec_iff _ _).1 hp
            rw [p1, p2]
            rw [p1] at hR3
            obtain ⟨A1t, k1t, c1t, A2t, k2t, c2t, A3t, k3t, c3t, A4t, k4t, c4t, hsp5⟩ := recR_spell hR3
            have hcs5 : #[.int .i64 s.kind, .int .i64 s.birth, .int .i64 s.prev, .int .i64 s.id, .int .i64 s.page, .int .i64 s.frm, .slice A1t k1t c1t, .slice A2t k2t c2t, .int .i64 s.next, .slice A3t k3t c3t, .slice A4t k4t c4t] = (recC s q3).toArray := by rw [hsp5]
            rw [← hcs5]
            have HEQ : Hid (decide (s = x) = decide ((Y.toNat : Int) = 0)) := Lib.hid (by
              apply decide_eq_decide.2
              constructor
              · intro e
                rw [e, HLL.out] at hs2
                have e1 := HGET.out v
                rw [← hs2, HAV.out] at e1
                have e2 : a ^^^ Y = a := by rw [HV0.out, ← e1]
                have e3 := (xor8_zero (Y.toNat : Int) (by omega) (by have := Y.toNat_lt; omega) a).1 (by rw [show UInt8.ofNat (Y.toNat : Int).toNat = Y from by simp]; exact e2)
                exact e3
              · intro e
                have e2 : Y = 0 := UInt8.toNat_inj.1 (by have : (0 : UInt8).toNat = 0 := rfl; omega)
                have e3 : v = a := by rw [← HV0.out, e2]; simp
                rw [e3, HSET.out, ← HLL.out] at hs2
                exact recL_inj hs1 HRT.out hs2)
            have hba := (Below.refl w11.heap.size w11).alloc (Nat.le_refl _) (.cells #[.int .i64 s.kind, .int .i64 s.birth, .int .i64 s.prev, .int .i64 s.id, .int .i64 s.page, .int .i64 s.frm, .slice A1t k1t c1t, .slice A2t k2t c2t, .int .i64 s.next, .slice A3t k3t c3t, .slice A4t k4t c4t] 26)
            have HL12 := Lib.hid (below_then HL11.out hba)
            have RB12 := Lib.hid ((RB2.out.below HB11.out).below hba)
            have HS := Lib.hid (same_any (hR3.below hba) (HX.out.below HL12.out) hcs5 HCS.out)
            clear hp p1 p2 hs1 hs2 hR3 hsp5 hcs5 hba
            have d0 := RB12.out.cell (j := 0) rfl
            have d1 := RB12.out.cell (j := 1) rfl
            have d2 := RB12.out.cell (j := 2) rfl
            have d3 := RB12.out.cell (j := 3) rfl
            have d4 := RB12.out.cell (j := 4) rfl
            have d5 := RB12.out.cell (j := 5) rfl
            have d6 := RB12.out.cell (j := 6) rfl
            have d7 := RB12.out.cell (j := 7) rfl
            have d8 := RB12.out.cell (j := 8) rfl
            have d9 := RB12.out.cell (j := 9) rfl
            have d10 := RB12.out.cell (j := 10) rfl
            go_wp2_with (first | (go_at_call 13; refine (num_any _).mono ?_; rintro e w' ⟨rfl, rfl⟩) | fail)
            refine HS.out.mono ?_
            rintro e w13 ⟨rfl, hb13⟩
            clear d0 d1 d2 d3 d4 d5 d6 d7 d8 d9 d10
            have HL13 := Lib.hid (below_then HL12.out hb13)
            rw [HEQ.out]
            clear hb13 HS
            by_cases hY : (Y.toNat : Int) = 0
            · rw [decide_eq_true hY]
              go_wp2_with fail
              go_ret
              exact ⟨rfl, HL13.out⟩
            · rw [decide_eq_false hY]
              have hY2 : ¬ Y.toNat = 0 := by omega
              have hY3 : ((Y.toNat : Int) == 0) = false := by rw [beq_eq_false_iff_ne]; exact hY
              have hY4 : ((Y.toNat : Int) != 0) = true := by rw [bne_iff_ne]; exact hY
              go_wp2_with fail
              go_ret
              exact ⟨rfl, HL13.out⟩
        · obtain ⟨K, rfl⟩ := Int.eq_ofNat_of_zero_le (Int.not_lt.1 hneg)
          have hKN : K < N := by omega
          obtain ⟨W8, hW8⟩ : ∃ W, (w7.alloc (.cells #[.int .i64 0, .int .i64 0, .int .i64 0, .int .i64 0, .int .i64 0, .int .i64 0, .slice A1z k1z c1z, .slice A2z k2z c2z, .int .i64 0, .slice A3z k3z c3z, .slice A4z k4z c4z] 26)) = W := ⟨_, rfl⟩
          have hnil := Own8.nilRow (w7.alloc (.cells #[.int .i64 0, .int .i64 0, .int .i64 0, .int .i64 0, .int .i64 0, .int .i64 0, .slice A1z k1z c1z, .slice A2z k2z c2z, .int .i64 0, .slice A3z k3z c3z, .slice A4z k4z c4z] 26)) (w7.alloc (.cells #[.int .i64 0, .int .i64 0, .int .i64 0, .int .i64 0, .int .i64 0, .int .i64 0, .slice A1z k1z c1z, .slice A2z k2z c2z, .int .i64 0, .slice A3z k3z c3z, .slice A4z k4z c4z] 26)).heap.size 5
          have hLW := HNW.out.rda.below HB8.out
          have hs8 : w2.heap.size ≤ (w7.alloc (.cells #[.int .i64 0, .int .i64 0, .int .i64 0, .int .i64 0, .int .i64 0, .int .i64 0, .slice A1z k1z c1z, .slice A2z k2z c2z, .int .i64 0, .slice A3z k3z c3z, .slice A4z k4z c4z] 26)).heap.size := HB8.out.size
          rw [hW8] at hnil hLW hs8
          rw [← hW8] at hnil hLW hs8
          clear hW8 W8
          go_wp2_with (first | (go_at_call 13; refine (num_any _).mono ?_; rintro e w' ⟨rfl, rfl⟩) | (at_builtin; refine wpList_app2 (l := []) (m := L) rfl _ _ rfl tU8 rfl hnil rfl HN0.out.symm hLW (by rw [HN0.out]; simp; omega) (Nat.le_refl _) ?_) | fail)
          clear hRm hnil hLW
          intro v9 w9 o9 hw9
          have hb9 : Below (w7.alloc (.cells #[.int .i64 0, .int .i64 0, .int .i64 0, .int .i64 0, .int .i64 0, .int .i64 0, .slice A1z k1z c1z, .slice A2z k2z c2z, .int .i64 0, .slice A3z k3z c3z, .slice A4z k4z c4z] 26)).heap.size (w7.alloc (.cells #[.int .i64 0, .int .i64 0, .int .i64 0, .int .i64 0, .int .i64 0, .int .i64 0, .slice A1z k1z c1z, .slice A2z k2z c2z, .int .i64 0, .slice A3z k3z c3z, .slice A4z k4z c4z] 26)) w9 := grown_below hw9.grown (Nat.le_refl _) (fun k hk => by simp [Value.ownBlock] at hk)
          try rw [List.nil_append] at o9
          obtain ⟨A9, c9, rfl, r9⟩ := own_rda o9
          have HB9 := Lib.hid (below_then HB8.out hb9)
          obtain ⟨g, rfl, hg⟩ := o9.block (by rw [HN0.out]; omega)
          have hfz := o9.unfrozen rfl K
          have hcell := o9.cellAt rfl K (by rw [HN0.out]; exact hKN)
          have hx := xor8 (L.getD K 0) (Y.toNat : Int) (by omega) (by have := Y.toNat_lt; omega)
          rw [show UInt8.ofNat (Y.toNat : Int).toNat = Y from by simp] at hx
          have hset : L.set K (L.getD K 0) = L := by
            have h4 : K < L.length := by rw [HN0.out]; exact hKN
            rw [show L.getD K 0 = L[K] by simp [List.getD, h4], List.set_getElem_self]
          have hget : ∀ v : UInt8, (L.set K v).getD K 0 = v := fun v => by rw [List.getD, List.getElem?_set_self (by rw [HN0.out]; exact hKN)]; rfl
          obtain ⟨a, hav⟩ : ∃ a, L.getD K 0 = a := ⟨_, rfl⟩
          rw [hav] at hcell hx hset
          obtain ⟨v, hv⟩ : ∃ v, a ^^^ Y = v := ⟨_, rfl⟩
          rw [hv] at hx
          obtain ⟨st1, st2⟩ := o9.stored rfl K v
          have HB10 := Lib.hid (HB9.out.grown st2 HB9.out.size (fun k hk => by injection hk with hk; exact hk ▸ Nat.le_trans (by simpa using hs8) hg))
          have ST := Lib.hid (own_at st1).2
          have HSET := Lib.hid hset
          have HGET := Lib.hid hget
          have HV0 := Lib.hid hv
          have HAV := Lib.hid hav
          rw [HN0.out]
          clear hw9 hb9 o9 r9 st1 st2 hset hget hv hav hg hs8
          go_wp2_with fail
          refine (parse_says ST.out (n := N) (by rw [List.length_set, HN0.out]) (by rw [List.length_set, HN0.out]; omega)).mono ?_
          rintro e w11 ⟨q3, rfl, hb11, hR3⟩
          have HB11 := Lib.hid (below_then HB10.out hb11)
          have HL11 := Lib.hid (below_then HL2.out HB11.out)
          clear hb11 hfz hcell hx
          cases hp : pRec (L.set K v) with
          | none =>
            have hY : ¬ (Y.toNat : Int) = 0 := by
              intro e
              have e2 : Y = 0 := UInt8.toNat_inj.1 (by have : (0 : UInt8).toNat = 0 := rfl; omega)
              have e3 : v = a := by rw [← HV0.out, e2]; simp
              rw [e3, HSET.out, ← HLL.out, (pRec_iff _ _).2 ⟨HRT.out, rfl⟩] at hp
              cases hp
            obtain ⟨p1, p2⟩ := par_none hp
            rw [p1, p2]
            rw [p1] at hR3
            obtain ⟨A1t, k1t, c1t, A2t, k2t, c2t, A3t, k3t, c3t, A4t, k4t, c4t, hsp5⟩ := recR_spell hR3
            have hcs5 : #[.int .i64 0, .int .i64 0, .int .i64 0, .int .i64 0, .int .i64 0, .int .i64 0, .slice A1t k1t c1t, .slice A2t k2t c2t, .int .i64 0, .slice A3t k3t c3t, .slice A4t k4t c4t] = (recC recZ q3).toArray := by rw [hsp5]; rfl
            rw [← hcs5]
            have HB12 := Lib.hid (HL11.out.alloc HL11.out.size (.cells #[.int .i64 0, .int .i64 0, .int .i64 0, .int .i64 0, .int .i64 0, .int .i64 0, .slice A1t k1t c1t, .slice A2t k2t c2t, .int .i64 0, .slice A3t k3t c3t, .slice A4t k4t c4t] 26))
            clear hp p1 p2 hR3 hsp5 hcs5
            have hY2 : ¬ Y.toNat = 0 := by omega
            have hY3 : ((Y.toNat : Int) == 0) = false := by rw [beq_eq_false_iff_ne]; exact hY
            have hY4 : ((Y.toNat : Int) != 0) = true := by rw [bne_iff_ne]; exact hY
            go_wp2_with (first | (go_at_call 13; refine (num_any _).mono ?_; rintro e w' ⟨rfl, rfl⟩) | fail)
            go_ret
            exact ⟨rfl, HB12.out⟩
          | some s =>
            obtain ⟨p1, p2⟩ := par_some hp
            obtain ⟨hs1, hs2⟩ := (pRec_iff _ _).1 hp
            rw [p1, p2]
            rw [p1] at hR3
            obtain ⟨A1t, k1t, c1t, A2t, k2t, c2t, A3t, k3t, c3t, A4t, k4t, c4t, hsp5⟩ := recR_spell hR3
            have hcs5 : #[.int .i64 s.kind, .int .i64 s.birth, .int .i64 s.prev, .int .i64 s.id, .int .i64 s.page, .int .i64 s.frm, .slice A1t k1t c1t, .slice A2t k2t c2t, .int .i64 s.next, .slice A3t k3t c3t, .slice A4t k4t c4t] = (recC s q3).toArray := by rw [hsp5]
            rw [← hcs5]
            have HEQ : Hid (decide (s = x) = decide ((Y.toNat : Int) = 0)) := Lib.hid (by
              apply decide_eq_decide.2
              constructor
              · intro e
                rw [e, HLL.out] at hs2
                have e1 := HGET.out v
                rw [← hs2, HAV.out] at e1
                have e2 : a ^^^ Y = a := by rw [HV0.out, ← e1]
                have e3 := (xor8_zero (Y.toNat : Int) (by omega) (by have := Y.toNat_lt; omega) a).1 (by rw [show UInt8.ofNat (Y.toNat : Int).toNat = Y from by simp]; exact e2)
                exact e3
              · intro e
                have e2 : Y = 0 := UInt8.toNat_inj.1 (by have : (0 : UInt8).toNat = 0 := rfl; omega)
                have e3 : v = a := by rw [← HV0.out, e2]; simp
                rw [e3, HSET.out, ← HLL.out] at hs2
                exact recL_inj hs1 HRT.out hs2)
            have hba := (Below.refl w11.heap.size w11).alloc (Nat.le_refl _) (.cells #[.int .i64 s.kind, .int .i64 s.birth, .int .i64 s.prev, .int .i64 s.id, .int .i64 s.page, .int .i64 s.frm, .slice A1t k1t c1t, .slice A2t k2t c2t, .int .i64 s.next, .slice A3t k3t c3t, .slice A4t k4t c4t] 26)
            have HL12 := Lib.hid (below_then HL11.out hba)
            have RB12 := Lib.hid ((RB2.out.below HB11.out).below hba)
            have HS := Lib.hid (same_any (hR3.below hba) (HX.out.below HL12.out) hcs5 HCS.out)
            clear hp p1 p2 hs1 hs2 hR3 hsp5 hcs5 hba
            have d0 := RB12.out.cell (j := 0) rfl
            have d1 := RB12.out.cell (j := 1) rfl
            have d2 := RB12.out.cell (j := 2) rfl
            have d3 := RB12.out.cell (j := 3) rfl
            have d4 := RB12.out.cell (j := 4) rfl
            have d5 := RB12.out.cell (j := 5) rfl
            have d6 := RB12.out.cell (j := 6) rfl
            have d7 := RB12.out.cell (j := 7) rfl
            have d8 := RB12.out.cell (j := 8) rfl
            have d9 := RB12.out.cell (j := 9) rfl
            have d10 := RB12.out.cell (j := 10) rfl
            go_wp2_with (first | (go_at_call 13; refine (num_any _).mono ?_; rintro e w' ⟨rfl, rfl⟩) | fail)
            refine HS.out.mono ?_
            rintro e w13 ⟨rfl, hb13⟩
            clear d0 d1 d2 d3 d4 d5 d6 d7 d8 d9 d10
            have HL13 := Lib.hid (below_then HL12.out hb13)
            rw [HEQ.out]
            clear hb13 HS
            by_cases hY : (Y.toNat : Int) = 0
            · rw [decide_eq_true hY]
              go_wp2_with fail
              go_ret
              exact ⟨rfl, HL13.out⟩
            · rw [decide_eq_false hY]
              have hY2 : ¬ Y.toNat = 0 := by omega
              have hY3 : ((Y.toNat : Int) == 0) = false := by rw [beq_eq_false_iff_ne]; exact hY
              have hY4 : ((Y.toNat : Int) != 0) = true := by rw [bne_iff_ne]; exact hY
              go_wp2_with fail
              go_ret
              exact ⟨rfl, HL13.out⟩

theorem recordCuts_contract (H : Type) (enc : TypeId × Value → H) (W : World) (base : Nat) (args : Array Value) (ds gs : List (DataW H)) (before : List MemPlace)
    (hval0 : ∀ (j : Nat) t v, Try.f6.params[j]? = some t → args[j]? = some v → Value.okWide Try.prog W .any base t v)
    (hW : DataW.Whole enc Try.prog Try.f6.params.toList Rows.recordCutsSpec.vars false W args.toList ds gs before) (hsz : (DataW.weightsEach Try.checked.prog (Try.f6.params.toList ++ Rows.recordCutsSpec.plain.varTypes Try.checked.prog) (ds ++ gs)).all (· ≤ reachBytes) = true) :
    Calls Try.prog 6 args W fun e W' => ∃ v, e = .returned v ∧ Rows.recordCutsSpec.post enc Try.prog Try.f6 false true false false W args v W' := by
  have hval : ∀ (j : Nat) t v, Try.f6.params[j]? = some t → args[j]? = some v → Value.okWide Try.prog W .any base t v := hval0
  have hW' := hW
  obtain ⟨p, q, hA0, hV, rfl, hfz, hnd⟩ := hW
  have hA : DataW.TrodAll enc Try.prog W 0 (fun _ => true) true Try.f6.params.toList args.toList ds p := hA0
  rw [Try.params6] at hA hval
  obtain ⟨v0, vs0, d0, ds0, p0, q0, hargs, rfl, rfl, h0, rr0⟩ := trodAll_cons hA
  obtain ⟨v1, vs1, d1, ds1, p1, q1, rfl, rfl, rfl, h1, rr1⟩ := trodAll_cons rr0
  obtain ⟨v2, vs2, d2, ds2, p2, q2, rfl, rfl, rfl, h2, rr2⟩ := trodAll_cons rr1
  obtain ⟨rfl, rfl, rfl⟩ := trodAll_nil rr2
  obtain rfl : args = #[v0, v1, v2] := by cases args; simp_all
  obtain ⟨rfl, rfl⟩ := trodVars_none hV
  have k0 := h0
  have lt0 : ∀ x ∈ p0, x.block < W.heap.size := by obtain ⟨m, hm⟩ := k0; exact DataW.trod_lt m _ _ _ hm
  obtain ⟨x0, q0, rfl, r0⟩ := open_record (hval 0 26 v0 rfl rfl) h0 (arg_sized (j := 0) hsz rfl rfl)
  obtain ⟨x1, rfl, rfl, rfl, w1⟩ := open_int Try.underlying3 (hval 1 3 v1 rfl rfl) h1
  have b1 := bounds_i64 w1
  obtain ⟨x2, rfl, rfl, rfl, w2⟩ := open_int Try.underlying5 (hval 2 5 v2 rfl rfl) h2
  have b2 := bounds_u8 w2
  clear hA0 hval0
  refine (recordCuts_any r0 x1 x2 b1 b2).mono fun e W' ⟨he, bel⟩ => ?_
  subst he
  exact ⟨_, rfl, _, _, _, [], _, [], hW', trodAll_mk1 (shut_bool Try.underlying4 _), (trodAll_cons_mk (Below.trod laid_out (by kernel_rfl) (of_decide_eq_true (by kernel_rfl)) k0 bel lt0) (trodAll_cons_mk (shut_int Try.underlying3 w1) (trodAll_cons_mk (shut_int Try.underlying5 w2) trodAll_mk0))), rfl, bel.frame _, fun h => by cases h⟩

theorem recordCuts_lifted (os : Os) (started : os.Started) (H : Type) (enc : TypeId × Value → H) :
    ReturnsInHanded {} Try.checked os 6 .any (Rows.recordCutsSpec.pre6 enc Try.prog Try.f6 Rows.recordCutsRow.domain false) (Rows.recordCutsSpec.post enc Try.prog Try.f6 false true false false) := by
  refine returnsInHanded_of_change_sized (C := Try.checked) own_knob started (by kernel_rfl) Try.func6
    (ChangeSpec.witness6 (enc := enc) (C := Try.checked) false ⟨#[], #[.agg #[.int .i64 0, .int .i64 0, .int .i64 0, .int .i64 0, .int .i64 0, .int .i64 0, .slice none 0 0, .slice none 0 0, .int .i64 0, .slice none 0 0, .slice none 0 0], .int .i64 0, .int .u8 0], []⟩ 8 (by kernel_rfl) (by kernel_rfl) (by kernel_rfl) (by kernel_rfl)) ?_
  intro W base args ds gs before hval hW _ hsz _
  exact recordCuts_contract H enc W base args ds gs before hval hW hsz

theorem recordCuts_holds : Rows.RecordCutsSaid :=
  OpenClaim.holds_of_wide 6 Try.f6 rfl rfl rfl rfl rfl rfl rfl ⟨rfl, rfl, rfl, rfl, rfl⟩ rfl rfl rfl rfl rfl (by kernel_rfl) Try.func6 (by kernel_rfl)
    (of_decide_eq_true (by kernel_rfl)) (by unfold Func.isWrapper; first | (rw [if_pos (by decide +kernel)]; kernel_rfl) | (rw [if_neg (by decide +kernel)]; exact ⟨rfl, rfl⟩))
    (fun os started H enc _ => recordCuts_lifted os started H enc)
#print axioms recordCuts_holds
end Go.Proofs.Ytndikhjodlpkfaa
