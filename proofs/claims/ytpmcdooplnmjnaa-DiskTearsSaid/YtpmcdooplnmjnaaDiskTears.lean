/-
  Proved: for every input that its row lets in the statement DiskTears answers true; what was handed in stays as it was.
  Conditions: none beyond the row's own.
-/
import Derived.Test.YtpmcdooplnmjnaaTears0
import Derived.Test.YtpmcdooplnmjnaaTears1
import Derived.Test.YtpmcdooplnmjnaaTears2
import Derived.Test.YtpmcdooplnmjnaaTears3
import Derived.Test.YtpmcdooplnmjnaaShape6
set_option linter.unusedVariables false
set_option linter.unusedSimpArgs false
namespace Go.Proofs.Ytpmcdooplnmjnaa
open Go.RowKit Go.Tm Go.ChangeShapes Go.WideShapes Go.ChangeAt
set_option maxHeartbeats 400000
set_option maxRecDepth 100000
attribute [local go_sem ↓] Go.wp_at_zero Go.wp_at_succ

theorem u8_of (x : Int) (h : 0 ≤ x ∧ x ≤ 255) : ∃ a : UInt8, x = (a.toNat : Int) := ⟨UInt8.ofNat x.toNat, by simp; omega⟩

set_option maxHeartbeats 1600000 in
theorem diskTears_any {w : World} (P K M x y z u : Int) (hx : 0 ≤ x ∧ x ≤ 255) (hy : 0 ≤ y ∧ y ≤ 255) (hz : -9223372036854775808 ≤ z ∧ z ≤ 9223372036854775807) (hu : -9223372036854775808 ≤ u ∧ u ≤ 9223372036854775807) :
    Calls Try.prog 3 #[.agg #[.int .i64 P, .int .i64 K, .int .i64 M], .agg #[.int .u8 x, .int .u8 y, .int .i64 z, .int .i64 u]] w fun e w' => e = .returned (.bool true) ∧ Below w.heap.size w w' := by
  obtain ⟨a, rfl⟩ := u8_of x hx
  obtain ⟨b, rfl⟩ := u8_of y hy
  cases hs : shapeB P K M with
  | true =>
    obtain ⟨q1, q2, q3, q4, q5, q6⟩ := shapeB_yes hs
    obtain ⟨P, rfl⟩ := Int.eq_ofNat_of_zero_le (show 0 ≤ P by omega)
    obtain ⟨K, rfl⟩ := Int.eq_ofNat_of_zero_le (show 0 ≤ K by omega)
    obtain ⟨M, rfl⟩ := Int.eq_ofNat_of_zero_le (show 0 ≤ M by omega)
    have hr : restI z 4 < 4 := by unfold restI; omega
    have hc : restI z 4 = 0 ∨ restI z 4 = 1 ∨ restI z 4 = 2 ∨ restI z 4 = 3 := by omega
    rcases hc with hc | hc | hc | hc
    · exact tears0_walk P K M a b z u hs hc hz.1 hz.2 hu.1 hu.2
    · exact tears1_walk P K M a b z u hs hc hz.1 hz.2 hu.1 hu.2
    · exact tears2_walk P K M a b z u hs hc hz.1 hz.2 hu.1 hu.2
    · exact tears3_walk P K M a b z u hs hc hz.1 hz.2 hu.1 hu.2
  | false =>
    have hb0 : Below w.heap.size w ((w.alloc (.cells #[.int .i64 P, .int .i64 K, .int .i64 M] 23)).alloc (.cells #[.int .u8 (a.toNat : Int), .int .u8 (b.toNat : Int), .int .i64 z, .int .i64 u] 25)) := ((Below.refl _ _).alloc (Nat.le_refl _) _).alloc (by simp) _
    have rS : RowC ((w.alloc (.cells #[.int .i64 P, .int .i64 K, .int .i64 M] 23)).alloc (.cells #[.int .u8 (a.toNat : Int), .int .u8 (b.toNat : Int), .int .i64 z, .int .i64 u] 25)) w.heap.size 23 [.int .i64 P, .int .i64 K, .int .i64 M] := (show RowC (w.alloc (.cells #[.int .i64 P, .int .i64 K, .int .i64 M] 23)) w.heap.size 23 [.int .i64 P, .int .i64 K, .int .i64 M] from heap_alloc_new _ _).below ((Below.refl _ _).alloc (Nat.le_refl _) _)
    obtain ⟨wB, hwB⟩ : ∃ wB, (w.alloc (.cells #[.int .i64 P, .int .i64 K, .int .i64 M] 23)).alloc (.cells #[.int .u8 (a.toNat : Int), .int .u8 (b.toNat : Int), .int .i64 z, .int .i64 u] 25) = wB := ⟨_, rfl⟩
    rw [hwB] at hb0 rS
    obtain ⟨SB, hSB⟩ : ∃ SB, w.heap.size = SB := ⟨_, rfl⟩
    have HB0 := Lib.hid hb0
    rw [hSB] at rS
    have RS := Lib.hid rS
    have HHead := Lib.hid (head_any (w := wB))
    have HPN : Hid (∀ w1, Calls Try.prog 9 #[.agg #[.int .i64 P, .int .i64 K, .int .i64 M]] w1 fun e w' => e = .returned (.tuple #[.pointer none, .int .i64 60]) ∧ Below w1.heap.size w1 w') := Lib.hid fun w1 => (diskNew_any (w := w1) P K M (fun _ => (0, 7)) 1 (by omega)).mono fun e w' h => by
      rcases h with ⟨_, h1, h2⟩ | ⟨h, _⟩
      · exact ⟨h1, h2⟩
      · rw [hs] at h; cases h
    clear rS hb0 hs
    go_enter Try.func3, Try.ntmps3
    go_wp2_with fail
    refine HHead.out.mono ?_
    rintro e w1 ⟨rfl, hb1⟩
    have HB1 := Lib.hid hb1
    have x0 := (RS.out.below hb1).cell (j := 0) (v := .int .i64 P) rfl
    have x1 := (RS.out.below hb1).cell (j := 1) (v := .int .i64 K) rfl
    have x2 := (RS.out.below hb1).cell (j := 2) (v := .int .i64 M) rfl
    clear hb1
    go_wp2_with fail
    refine (HPN.out w1).mono ?_
    rintro e w2 ⟨rfl, hb2⟩
    have HEND := Lib.hid (below_then HB0.out (below_then HB1.out hb2))
    clear hb2 x0 x1 x2
    go_wp2_with fail
    go_ret
    exact ⟨rfl, HEND.out⟩

theorem diskTears_contract (H : Type) (enc : TypeId × Value → H) (W : World) (base : Nat) (args : Array Value) (ds gs : List (DataW H)) (before : List MemPlace)
    (hval0 : ∀ (j : Nat) t v, Try.f3.params[j]? = some t → args[j]? = some v → Value.okWide Try.prog W .any base t v)
    (hW : DataW.Whole enc Try.prog Try.f3.params.toList Rows.diskTearsSpec.vars false W args.toList ds gs before) (hsz : (DataW.weightsEach Try.checked.prog (Try.f3.params.toList ++ Rows.diskTearsSpec.plain.varTypes Try.checked.prog) (ds ++ gs)).all (· ≤ reachBytes) = true) :
    Calls Try.prog 3 args W fun e W' => ∃ v, e = .returned v ∧ Rows.diskTearsSpec.post enc Try.prog Try.f3 false true false false W args v W' := by
  have hval : ∀ (j : Nat) t v, Try.f3.params[j]? = some t → args[j]? = some v → Value.okWide Try.prog W .any base t v := hval0
  have hW' := hW
  obtain ⟨p, q, hA0, hV, rfl, hfz, hnd⟩ := hW
  have hA : DataW.TrodAll enc Try.prog W 0 (fun _ => true) true Try.f3.params.toList args.toList ds p := hA0
  rw [Try.params3] at hA hval
  obtain ⟨v0, vs0, d0, ds0, p0, q0, hargs, rfl, rfl, h0, rr0⟩ := trodAll_cons hA
  obtain ⟨v1, vs1, d1, ds1, p1, q1, rfl, rfl, rfl, h1, rr1⟩ := trodAll_cons rr0
  obtain ⟨rfl, rfl, rfl⟩ := trodAll_nil rr1
  obtain rfl : args = #[v0, v1] := by cases args; simp_all
  obtain ⟨rfl, rfl⟩ := trodVars_none hV
  have k0 := h0
  have lt0 : ∀ x ∈ p0, x.block < W.heap.size := by obtain ⟨m, hm⟩ := k0; exact DataW.trod_lt m _ _ _ hm
  obtain ⟨x0, y0, z0, rfl⟩ := open_shape (hval 0 23 v0 rfl rfl) h0
  have k1 := h1
  have lt1 : ∀ x ∈ p1, x.block < W.heap.size := by obtain ⟨m, hm⟩ := k1; exact DataW.trod_lt m _ _ _ hm
  obtain ⟨x1, y1, z1, u1, rfl, bx1, by1, bz1, bu1⟩ := open_two (hval 1 25 v1 rfl rfl) h1
  clear hA0 hval0
  refine (diskTears_any x0 y0 z0 x1 y1 z1 u1 bx1 by1 bz1 bu1).mono fun e W' ⟨he, bel⟩ => ?_
  subst he
  exact ⟨_, rfl, _, _, _, [], _, [], hW', trodAll_mk1 (shut_bool Try.underlying4 _), (trodAll_cons_mk (Below.trod laid_out (by kernel_rfl) (of_decide_eq_true (by kernel_rfl)) k0 bel lt0) (trodAll_cons_mk (Below.trod laid_out (by kernel_rfl) (of_decide_eq_true (by kernel_rfl)) k1 bel lt1) trodAll_mk0)), rfl, bel.frame _, fun h => by cases h⟩

theorem diskTears_lifted (os : Os) (started : os.Started) (H : Type) (enc : TypeId × Value → H) :
    ReturnsInHanded {} Try.checked os 3 .any (Rows.diskTearsSpec.pre6 enc Try.prog Try.f3 Rows.diskTearsRow.domain false) (Rows.diskTearsSpec.post enc Try.prog Try.f3 false true false false) := by
  refine returnsInHanded_of_change_sized (C := Try.checked) own_knob started (by kernel_rfl) Try.func3
    (ChangeSpec.witness6 (enc := enc) (C := Try.checked) false ⟨#[], #[.agg #[.int .i64 0, .int .i64 0, .int .i64 0], .agg #[.int .u8 0, .int .u8 0, .int .i64 0, .int .i64 0]], []⟩ 8 (by kernel_rfl) (by kernel_rfl) (by kernel_rfl) (by kernel_rfl)) ?_
  intro W base args ds gs before hval hW _ hsz _
  exact diskTears_contract H enc W base args ds gs before hval hW hsz

theorem diskTears_holds : Rows.DiskTearsSaid :=
  OpenClaim.holds_of_wide 3 Try.f3 rfl rfl rfl rfl rfl rfl rfl ⟨rfl, rfl, rfl, rfl, rfl⟩ rfl rfl rfl rfl rfl (by kernel_rfl) Try.func3 (by kernel_rfl)
    (of_decide_eq_true (by kernel_rfl)) (by unfold Func.isWrapper; first | (rw [if_pos (by decide +kernel)]; kernel_rfl) | (rw [if_neg (by decide +kernel)]; exact ⟨rfl, rfl⟩))
    (fun os started H enc _ => diskTears_lifted os started H enc)
#print axioms diskTears_holds
end Go.Proofs.Ytpmcdooplnmjnaa
