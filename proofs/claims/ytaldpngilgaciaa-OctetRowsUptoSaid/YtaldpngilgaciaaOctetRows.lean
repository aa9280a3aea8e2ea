/-
  Proved: for every list of rows of bytes the statement OctetRows answers true and leaves the rows as they read.
  Conditions: what the arguments hold together is of bulk at most 1048576 (the row's own second form).
-/
import Derived.Test.YtaldpngilgaciaaLaw1
import Derived.Test.YtaldpngilgaciaaRows
import Derived.Test.YtaldpngilgaciaaRow
set_option linter.unusedVariables false
set_option linter.unusedSimpArgs false
namespace Go.Proofs.Ytaldpngilgaciaa
open Go.RowKit Go.Tm Go.ChangeShapes Go.WideShapes Go.ChangeAt
open Go.ChangeMaps (open_string shut_string)
set_option maxHeartbeats 400000
set_option maxRecDepth 100000


theorem octetRows_walk {w : World} {A : Option Addr} {n c : Nat} {ls : List (List UInt8)} (h : RdRows w A c ls) (hn : n = ls.length) (hl : (cat ls).length ≤ 140737488355328) :
    Calls Try.prog 7 #[.slice A n c] w fun e w' => e = .returned (.bool true) ∧ Below w.heap.size w w' := by
  subst hn
  have hcap := h.cap
  have hmax := h.max
  unfold maxLen at hmax
  go_enter Try.func7, Try.ntmps7
  go_wp2_with fail
  refine (join_any h rfl hl).mono ?_
  rintro e w1 ⟨A1, c1, rfl, hN1⟩
  go_wp2_with fail
  refine (newReader_any hN1.rda rfl hl).mono ?_
  rintro e w2 ⟨r, rfl, hr2, hR2, hb2⟩
  have B2 := below_then hN1.below hb2
  go_wp2_with fail
  refine (known_any _).mono ?_
  rintro e w3 ⟨rfl, hb3⟩
  have B3 := below_then B2 hb3
  have hR3 := hR2.below hb3
  have hrw : w.heap.size ≤ r := Nat.le_trans hN1.below.size hr2
  clear hN1 hb2 hb3 hR2 B2 hr2
  go_wp2_with fail
  go_loopw [5, 6] (fun f i wr => ∃ k : Nat, k ≤ ls.length ∧ i = .int .i64 k ∧ f = .int .i64 ((cat (ls.drop k)).length : Nat) ∧ IsR wr r 75 (cat (ls.drop k)) ∧ Below w.heap.size w wr) (fun _ i _ => ls.length - (intOf i).toNat)
  case atStart => exact ⟨0, by omega, rfl, rfl, hR3, B3⟩
  case round =>
    obtain ⟨k, hk, rfl, rfl, hR, hB⟩ := hrel
    clear hR3 B3
    by_cases hlt : k < ls.length
    · obtain ⟨b, o, rfl, _⟩ := h.cells (by omega)
      have hst0 := cat_drop ls k hlt
      have hle := cat_drop_le ls k
      obtain ⟨R, hRe⟩ : ∃ R, ls.getD k [] = R := ⟨_, rfl⟩
      obtain ⟨T, hTe⟩ : ∃ T, cat (ls.drop (k + 1)) = T := ⟨_, rfl⟩
      have hat : ∀ w1, Below w.heap.size w w1 → ∃ Aj cj, w1.cell? ⟨b, o + k, none⟩ = some (.slice Aj R.length cj) ∧ Rda w1 Aj cj R := fun w1 hb => by
        rw [← hRe]
        exact (h.below hb).at_ k hlt
      have HAT := Lib.hid hat
      rw [hTe, hRe] at hst0
      have HT := Lib.hid hTe
      rw [hst0] at hR hle ⊢
      clear hRe hTe hst0 hat h
      rw [List.length_append] at hle
      obtain ⟨q1, q2, q3⟩ := row_of_append R T
      have HRow := row_any hR (R.length : Int) (by rw [List.length_append]; omega) (by omega)
      rw [q1, q2, q3] at HRow
      have HR := Lib.hid HRow
      clear q1 q2 q3 HRow
      obtain ⟨Aj, cj, hcj, hj⟩ := HAT.out wr hB
      have hE : endE (R ++ T) = 0 ∨ (endE (R ++ T) = 11 ∧ 1 ≤ R.length + T.length) := by
        by_cases h0 : R ++ T = []
        · exact .inl (if_pos h0)
        · refine .inr ⟨if_neg h0, ?_⟩
          have := List.length_pos_iff.2 h0
          rw [List.length_append] at this
          omega
      rcases hE with e0 | ⟨e0, hpos⟩
      all_goals
        have HE := end_any hR
        rw [e0] at HE
        have HE' := Lib.hid HE
        have HL := Lib.hid (left_any hR)
        clear HE e0
        go_wp2_with fail
        refine HE'.out.mono ?_
        rintro e w4 ⟨rfl, rfl⟩
        go_wp2_with fail
        refine HL.out.mono ?_
        rintro e w4 ⟨rfl, rfl⟩
        go_wp2_with fail
        refine HR.out.mono ?_
        rintro e w4 ⟨A4, c4, rfl, hN4, hR4⟩
        have hB4 : Below w.heap.size w w4 := hB.grown hN4.grown hB.size (fun k e => by simp at e; omega)
        have hr4 := hN4.rda
        obtain ⟨Aj, cj, hcj, hj⟩ := HAT.out w4 hB4
        clear hR HE' HL HR
        go_wp2_with fail
        refine (same_yes hr4 hj rfl rfl rfl).mono ?_
        rintro e w5 ⟨rfl, hb5⟩
        have hB5 := below_then hB4 hb5
        have hR5 := hR4.below hb5
        obtain ⟨Aj, cj, hcj, hj⟩ := HAT.out w5 hB5
        clear hR4 hN4 hr4
        go_wp2
        go_roundw
        case rel => exact ⟨k + 1, by omega, by go_num, by rw [HT.out]; go_num, by rw [HT.out]; exact hR5, hB5⟩
        case measure => simp [intOf]; omega
    · have he : k = ls.length := by omega
      subst he
      rw [List.drop_length] at hR ⊢
      rw [cat_nil] at hR ⊢
      go_wp2_with fail
      refine (left_any hR).mono ?_
      rintro e w4 ⟨rfl, rfl⟩
      go_wp2_with fail
      refine (end_any hR).mono ?_
      rw [show endE [] = 0 from rfl]
      rintro e w4 ⟨rfl, rfl⟩
      go_wp2_with fail
      go_ret
      exact ⟨rfl, hB⟩

theorem octetRows_contract (H : Type) (enc : TypeId × Value → H) (W : World) (base : Nat) (args : Array Value) (ds gs : List (DataW H)) (before : List MemPlace)
    (hval0 : ∀ (j : Nat) t v, Try.f7.params[j]? = some t → args[j]? = some v → Value.okWide Try.prog W .any base t v)
    (hW : DataW.Whole enc Try.prog Try.f7.params.toList Rows.octetRowsSpec.vars false W args.toList ds gs before) (hk : Rows.uptoSmall H (ds ++ gs) = true) :
    Calls Try.prog 7 args W fun e W' => ∃ v, e = .returned v ∧ Rows.octetRowsSpec.post enc Try.prog Try.f7 false true false false W args v W' := by
  have hval : ∀ (j : Nat) t v, Try.f7.params[j]? = some t → args[j]? = some v → Value.okWide Try.prog W .any base t v := hval0
  have hW' := hW
  obtain ⟨p, q, hA0, hV, rfl, hfz, hnd⟩ := hW
  have hA : DataW.TrodAll enc Try.prog W 0 (fun _ => true) true Try.f7.params.toList args.toList ds p := hA0
  rw [Try.params7] at hA hval
  obtain ⟨v0, vs0, d0, ds0, p0, q0, hargs, rfl, rfl, h0, rr0⟩ := trodAll_cons hA
  obtain ⟨rfl, rfl, rfl⟩ := trodAll_nil rr0
  obtain rfl : args = #[v0] := by cases args; simp_all
  obtain ⟨rfl, rfl⟩ := trodVars_none hV
  obtain ⟨a0, len0, cap0, rfl⟩ := okWide_slice Try.underlying28 (hval 0 28 v0 rfl rfl)
  have k0 := h0
  have lt0 : ∀ x ∈ p0, x.block < W.heap.size := by obtain ⟨m, hm⟩ := k0; exact DataW.trod_lt m _ _ _ hm
  obtain ⟨l0, n0, r0, dd0⟩ : ∃ ls : List (List UInt8), len0 = ls.length ∧ RdRows W a0 cap0 ls ∧ ((d0 = .nil ∧ ls = []) ∨ ∃ es sp, d0 = .slice es sp ∧ RowsOf es ls) := by
    obtain ⟨fuel, hf⟩ := h0
    obtain ⟨A, l, c, hv, hr, hx⟩ := open_rows Try.underlying28 tU8 (by kernel_rfl) (by kernel_rfl) (by simpa [Value.cells] using hf)
    obtain ⟨rfl, rfl, rfl⟩ : a0 = A ∧ len0 = l.length ∧ cap0 = c := by simpa using hv
    exact ⟨l, rfl, hr, hx⟩
  have s0 : (cat l0).length + l0.length ≤ 1048576 := by
    rcases dd0 with ⟨_, h⟩ | ⟨es, sp, hd, hl⟩
    · rw [h]; simp [cat_nil]
    · have h1 := bulk_slice (sp := sp) hl
      have h2 := Nat.le_trans (bulk_part (d := d0) (by simp)) (bulk_all hk)
      rw [hd] at h2
      omega
  clear hA0 hval0
  refine (octetRows_walk r0 n0 (by omega)).mono fun e W' ⟨he, bel⟩ => ?_
  subst he
  exact ⟨_, rfl, _, _, _, [], _, [], hW', trodAll_mk1 (shut_bool Try.underlying4 _), (trodAll_cons_mk (Below.trod laid_out (by kernel_rfl) (of_decide_eq_true (by kernel_rfl)) k0 bel lt0) trodAll_mk0), rfl, bel.frame _, fun h => by cases h⟩

theorem octetRows_lifted (os : Os) (started : os.Started) (H : Type) (enc : TypeId × Value → H) (F : Stop.Interp) :
    ReturnsInHanded {} Try.checked os 7 .any ((Rows.OpenSpec.upto Rows.octetRowsSpec).pre6 enc Try.prog Try.f7 Rows.octetRowsUptoRow.domain false) (((Rows.OpenSpec.upto Rows.octetRowsSpec).at F).post enc Try.prog Try.f7 false true false false) := by
  refine returnsInHanded_of_cond (C := Try.checked) (s := Rows.OpenSpec.upto Rows.octetRowsSpec) (k := Rows.uptoSmall) rfl own_knob started (by kernel_rfl) Try.func7
    (OpenSpec.witness (enc := enc) (C := Try.checked) (s := Rows.OpenSpec.upto Rows.octetRowsSpec) (k := Rows.uptoSmall) rfl false ⟨#[], #[.slice none 0 0], []⟩ 8 (by kernel_rfl) (by kernel_rfl) (by kernel_rfl)
      (x := ([.nil], [], [])) (by kernel_rfl) rfl (by kernel_rfl)) ?_
  intro W base args ds gs before hval hW _ hk _
  exact octetRows_contract H enc W base args ds gs before hval hW hk

theorem octetRows_holds : Rows.OctetRowsUptoSaid :=
  OpenClaim.holds_of_cond 7 Try.f7 rfl rfl rfl rfl rfl rfl rfl ⟨rfl, rfl, rfl, rfl, rfl⟩ rfl rfl rfl rfl rfl (by kernel_rfl) Try.func7 (by kernel_rfl)
    (of_decide_eq_true (by kernel_rfl)) (by unfold Func.isWrapper; first | (rw [if_pos (by decide +kernel)]; kernel_rfl) | (rw [if_neg (by decide +kernel)]; exact ⟨rfl, rfl⟩))
    (fun os started H enc _ F => octetRows_lifted os started H enc F)
#print axioms octetRows_holds
end Go.Proofs.Ytaldpngilgaciaa
