/-
  Proved: for every list of bytes b and every 64-bit number v the statement OctetPuts answers true and leaves b as it reads.
  Conditions: none beyond the row's own (each slice of the form's reach).
-/
import Derived.Test.YtaldpngilgaciaaLaw1
import Derived.Test.YtaldpngilgaciaaRows
import Derived.Test.YtaldpngilgaciaaRow
set_option linter.unusedVariables false
set_option linter.unusedSimpArgs false
namespace Go.Proofs.Ytaldpngilgaciaa
open Go.RowKit Go.Tm Go.ChangeShapes Go.WideShapes Go.ChangeAt
open Go.ChangeMaps (open_string shut_string)
set_option maxHeartbeats 400000
set_option maxRecDepth 100000

theorem octetPuts_walk {w : World} {A : Option Addr} {n c : Nat} {l : List UInt8} (h : Rda w A c l) (hn : n = l.length) (hl : l.length + 8 ≤ 140737488355328) (x : Int) (h0 : 0 ≤ x) (h1 : x < 18446744073709551616) :
    Calls Try.prog 3 #[.slice A n c, .int .u64 x] w fun e w' => e = .returned (.bool true) ∧ Below w.heap.size w w' := by
  subst hn
  go_enter Try.func3, Try.ntmps3
  go_wp2_with fail
  refine (known_any _).mono ?_
  rintro e w1 ⟨rfl, hb1⟩
  have r1 := h.below hb1
  go_wp2_with fail
  refine (puts_any r1 rfl hl x h0 h1).mono ?_
  rintro e w2 ⟨rfl, hb2⟩
  have r2 := r1.below hb2
  go_wp2_with fail
  refine (gets_any r2 rfl).mono ?_
  rintro e w3 ⟨rfl, rfl⟩
  go_wp2_with fail
  refine (put8_any r2 rfl hl x h0 h1).mono ?_
  rintro e w4 ⟨A4, c4, rfl, hN4⟩
  go_wp2_with fail
  refine (gets_any hN4.rda (by simp)).mono ?_
  rintro e w5 ⟨rfl, rfl⟩
  go_wp2_with fail
  go_ret
  exact ⟨rfl, below_then (below_then hb1 hb2) hN4.below⟩

theorem octetPuts_lifted (os : Os) (started : os.Started) (H : Type) (enc : TypeId × Value → H) :
    ReturnsInHanded {} Try.checked os 3 .any (Rows.octetPutsSpec.pre6 enc Try.prog Try.f3 Rows.octetPutsRow.domain false) (Rows.octetPutsSpec.post enc Try.prog Try.f3 false true false false) := by
  refine returnsInHanded_of_change_sized (C := Try.checked) own_knob started (by kernel_rfl) Try.func3
    (ChangeSpec.witness6 (enc := enc) (C := Try.checked) false ⟨#[], #[.slice none 0 0, .int .u64 0], []⟩ 8 (by kernel_rfl) (by kernel_rfl) (by kernel_rfl) (by kernel_rfl)) ?_
  intro W base args ds gs before hval0 hW hcnd hsz _
  have hval : ∀ (j : Nat) t v, Try.f3.params[j]? = some t → args[j]? = some v → Value.okWide Try.prog W .any base t v := hval0
  have hW' := hW
  obtain ⟨p, q, hA0, hV, rfl, hfz, hnd⟩ := hW
  have hA : DataW.TrodAll enc Try.prog W 0 (fun _ => true) true Try.f3.params.toList args.toList ds p := hA0
  rw [Try.params3] at hA hval
  obtain ⟨v0, vs0, d0, ds0, p0, q0, hargs, rfl, rfl, h0, rr0⟩ := trodAll_cons hA
  obtain ⟨v1, vs1, d1, ds1, p1, q1, rfl, rfl, rfl, h1, rr1⟩ := trodAll_cons rr0
  obtain ⟨rfl, rfl, rfl⟩ := trodAll_nil rr1
  obtain rfl : args = #[v0, v1] := by cases args; simp_all
  obtain ⟨rfl, rfl⟩ := trodVars_none hV
  obtain ⟨a0, len0, cap0, rfl⟩ := okWide_slice Try.underlying22 (hval 0 22 v0 rfl rfl)
  have k0 := h0
  have lt0 : ∀ x ∈ p0, x.block < W.heap.size := by obtain ⟨m, hm⟩ := k0; exact DataW.trod_lt m _ _ _ hm
  obtain ⟨l0, n0, r0, dd0⟩ : ∃ l : List UInt8, len0 = l.length ∧ Rda W a0 cap0 l ∧ ((d0 = .nil ∧ l = []) ∨ ∃ zs sp, d0 = .slice (lits .u8 zs) sp ∧ zs.length = l.length) := by
    obtain ⟨fuel, hf⟩ := h0
    obtain ⟨A, l, c, hv, hr, hx⟩ := open_bytes tU8 (by kernel_rfl) (by simpa [Value.cells] using hf)
    obtain ⟨rfl, rfl, rfl⟩ : a0 = A ∧ len0 = l.length ∧ cap0 = c := by simpa using hv
    exact ⟨l, rfl, hr, hx⟩
  have s0 : l0.length ≤ 140737488351232 := by
    rcases dd0 with ⟨_, h⟩ | ⟨zs, sp, hd, hl⟩
    · rw [h]; simp
    · subst hd
      have := sized_slice hsz (j := 0) (t := 22) (e := 5) rfl rfl Try.underlying22
      rw [show Try.checked.prog.bytesOf 5 = 1 from by kernel_rfl] at this
      unfold lits at this
      simp only [List.length_map] at this
      have h47 : reachBytes ≤ 140737488351232 := by decide
      omega
  obtain ⟨x1, rfl, rfl, rfl, w1⟩ := open_int Try.underlying23 (hval 1 23 v1 rfl rfl) h1
  have b1 := bounds_u64 w1
  clear hA0 hval0
  refine (octetPuts_walk r0 n0 (by omega) x1 b1.1 (by omega)).mono fun e W' ⟨he, bel⟩ => ?_
  subst he
  exact ⟨_, rfl, _, _, _, [], _, [], hW', trodAll_mk1 (shut_bool Try.underlying4 _), (trodAll_cons_mk (Below.trod laid_out (by kernel_rfl) (of_decide_eq_true (by kernel_rfl)) k0 bel lt0) (trodAll_cons_mk (shut_int Try.underlying23 w1) trodAll_mk0)), rfl, bel.frame _, fun h => by cases h⟩

theorem octetPuts_holds : Rows.OctetPutsSaid :=
  OpenClaim.holds_of_wide 3 Try.f3 rfl rfl rfl rfl rfl rfl rfl ⟨rfl, rfl, rfl, rfl, rfl⟩ rfl rfl rfl rfl rfl (by kernel_rfl) Try.func3 (by kernel_rfl)
    (of_decide_eq_true (by kernel_rfl)) (by unfold Func.isWrapper; first | (rw [if_pos (by decide +kernel)]; kernel_rfl) | (rw [if_neg (by decide +kernel)]; exact ⟨rfl, rfl⟩))
    (fun os started H enc _ => octetPuts_lifted os started H enc)
#print axioms octetPuts_holds
end Go.Proofs.Ytaldpngilgaciaa
