/-
  Proved: for every list of rows of bytes the statement OctetJoins answers true and leaves the rows as they read.
  Conditions: what the arguments hold together is of bulk at most 1048576 (the row's own second form).
-/
import Derived.Test.YtaldpngilgaciaaLaw1
import Derived.Test.YtaldpngilgaciaaRows
import Derived.Test.YtaldpngilgaciaaRow
set_option linter.unusedVariables false
set_option linter.unusedSimpArgs false
namespace Go.Proofs.Ytaldpngilgaciaa
open Go.RowKit Go.Tm Go.ChangeShapes Go.WideShapes Go.ChangeAt
open Go.ChangeMaps (open_string shut_string)
set_option maxHeartbeats 400000
set_option maxRecDepth 100000

theorem octetJoins_walk {w : World} {A : Option Addr} {n c : Nat} {ls : List (List UInt8)} (h : RdRows w A c ls) (hn : n = ls.length) (hl : (cat ls).length ≤ 140737488355328) :
    Calls Try.prog 4 #[.slice A n c] w fun e w' => e = .returned (.bool true) ∧ Below w.heap.size w w' := by
  subst hn
  go_enter Try.func4, Try.ntmps4
  go_wp2_with fail
  refine (known_any _).mono ?_
  rintro e w1 ⟨rfl, hb1⟩
  have r1 := h.below hb1
  go_wp2_with fail
  refine (join_any r1 rfl hl).mono ?_
  rintro e w2 ⟨A2, c2, rfl, hN2⟩
  have r2 := r1.below hN2.below
  go_wp2_with fail
  refine (refJoin_any r2 rfl hl).mono ?_
  rintro e w3 ⟨A3, c3, rfl, hN3⟩
  go_wp2_with fail
  refine (same_yes (hN2.rda.below hN3.below) hN3.rda rfl rfl rfl).mono ?_
  rintro e w4 ⟨rfl, hb4⟩
  go_wp2_with fail
  go_ret
  exact ⟨rfl, below_then (below_then (below_then hb1 hN2.below) hN3.below) hb4⟩

theorem octetJoins_contract (H : Type) (enc : TypeId × Value → H) (W : World) (base : Nat) (args : Array Value) (ds gs : List (DataW H)) (before : List MemPlace)
    (hval0 : ∀ (j : Nat) t v, Try.f4.params[j]? = some t → args[j]? = some v → Value.okWide Try.prog W .any base t v)
    (hW : DataW.Whole enc Try.prog Try.f4.params.toList Rows.octetJoinsSpec.vars false W args.toList ds gs before) (hk : Rows.uptoSmall H (ds ++ gs) = true) :
    Calls Try.prog 4 args W fun e W' => ∃ v, e = .returned v ∧ Rows.octetJoinsSpec.post enc Try.prog Try.f4 false true false false W args v W' := by
  have hval : ∀ (j : Nat) t v, Try.f4.params[j]? = some t → args[j]? = some v → Value.okWide Try.prog W .any base t v := hval0
  have hW' := hW
  obtain ⟨p, q, hA0, hV, rfl, hfz, hnd⟩ := hW
  have hA : DataW.TrodAll enc Try.prog W 0 (fun _ => true) true Try.f4.params.toList args.toList ds p := hA0
  rw [Try.params4] at hA hval
  obtain ⟨v0, vs0, d0, ds0, p0, q0, hargs, rfl, rfl, h0, rr0⟩ := trodAll_cons hA
  obtain ⟨rfl, rfl, rfl⟩ := trodAll_nil rr0
  obtain rfl : args = #[v0] := by cases args; simp_all
  obtain ⟨rfl, rfl⟩ := trodVars_none hV
  obtain ⟨a0, len0, cap0, rfl⟩ := okWide_slice Try.underlying28 (hval 0 28 v0 rfl rfl)
  have k0 := h0
  have lt0 : ∀ x ∈ p0, x.block < W.heap.size := by obtain ⟨m, hm⟩ := k0; exact DataW.trod_lt m _ _ _ hm
  obtain ⟨l0, n0, r0, dd0⟩ : ∃ ls : List (List UInt8), len0 = ls.length ∧ RdRows W a0 cap0 ls ∧ ((d0 = .nil ∧ ls = []) ∨ ∃ es sp, d0 = .slice es sp ∧ RowsOf es ls) := by
    obtain ⟨fuel, hf⟩ := h0
    obtain ⟨A, l, c, hv, hr, hx⟩ := open_rows Try.underlying28 tU8 (by kernel_rfl) (by kernel_rfl) (by simpa [Value.cells] using hf)
    obtain ⟨rfl, rfl, rfl⟩ : a0 = A ∧ len0 = l.length ∧ cap0 = c := by simpa using hv
    exact ⟨l, rfl, hr, hx⟩
  have s0 : (cat l0).length + l0.length ≤ 1048576 := by
    rcases dd0 with ⟨_, h⟩ | ⟨es, sp, hd, hl⟩
    · rw [h]; simp [cat_nil]
    · have h1 := bulk_slice (sp := sp) hl
      have h2 := Nat.le_trans (bulk_part (d := d0) (by simp)) (bulk_all hk)
      rw [hd] at h2
      omega
  clear hA0 hval0
  refine (octetJoins_walk r0 n0 (by omega)).mono fun e W' ⟨he, bel⟩ => ?_
  subst he
  exact ⟨_, rfl, _, _, _, [], _, [], hW', trodAll_mk1 (shut_bool Try.underlying4 _), (trodAll_cons_mk (Below.trod laid_out (by kernel_rfl) (of_decide_eq_true (by kernel_rfl)) k0 bel lt0) trodAll_mk0), rfl, bel.frame _, fun h => by cases h⟩

theorem octetJoins_lifted (os : Os) (started : os.Started) (H : Type) (enc : TypeId × Value → H) (F : Stop.Interp) :
    ReturnsInHanded {} Try.checked os 4 .any ((Rows.OpenSpec.upto Rows.octetJoinsSpec).pre6 enc Try.prog Try.f4 Rows.octetJoinsUptoRow.domain false) (((Rows.OpenSpec.upto Rows.octetJoinsSpec).at F).post enc Try.prog Try.f4 false true false false) := by
  refine returnsInHanded_of_cond (C := Try.checked) (s := Rows.OpenSpec.upto Rows.octetJoinsSpec) (k := Rows.uptoSmall) rfl own_knob started (by kernel_rfl) Try.func4
    (OpenSpec.witness (enc := enc) (C := Try.checked) (s := Rows.OpenSpec.upto Rows.octetJoinsSpec) (k := Rows.uptoSmall) rfl false ⟨#[], #[.slice none 0 0], []⟩ 8 (by kernel_rfl) (by kernel_rfl) (by kernel_rfl)
      (x := ([.nil], [], [])) (by kernel_rfl) rfl (by kernel_rfl)) ?_
  intro W base args ds gs before hval hW _ hk _
  exact octetJoins_contract H enc W base args ds gs before hval hW hk

theorem octetJoins_holds : Rows.OctetJoinsUptoSaid :=
  OpenClaim.holds_of_cond 4 Try.f4 rfl rfl rfl rfl rfl rfl rfl ⟨rfl, rfl, rfl, rfl, rfl⟩ rfl rfl rfl rfl rfl (by kernel_rfl) Try.func4 (by kernel_rfl)
    (of_decide_eq_true (by kernel_rfl)) (by unfold Func.isWrapper; first | (rw [if_pos (by decide +kernel)]; kernel_rfl) | (rw [if_neg (by decide +kernel)]; exact ⟨rfl, rfl⟩))
    (fun os started H enc _ F => octetJoins_lifted os started H enc F)
#print axioms octetJoins_holds
end Go.Proofs.Ytaldpngilgaciaa
