import Derived.Test.YtiaehoppdihbdaaRec12
import Derived.Test.YtiaehoppdihbdaaRec9
import Derived.Test.YtiaehoppdihbdaaLaw9
import Derived.Test.YtiaehoppdihbdaaSame9
import Derived.Test.YtiaehoppdihbdaaRoom
/- The program answers the fixed record of layer 9. -/
set_option linter.unusedVariables false
set_option linter.unusedSimpArgs false
namespace Go.Proofs.Ytiaehoppdihbdaa
open Go.RowKit Go.Tm
set_option maxHeartbeats 400000
set_option maxRecDepth 100000
attribute [local go_sem ↓] Go.wp_at_zero Go.wp_at_succ

abbrev alvL : List UInt8 := [4, 1, 0, 0, 0, 0, 0, 0, 0, 2, 1, 0, 0, 0, 0, 0, 0]
abbrev alvX : RecD := ⟨4, 1, 258, 0, 0, 0, [], [], 0, [], []⟩
theorem alv_v : recV alvX = alvL := by decide +kernel
theorem alv_e : recE alvX = 0 := by decide +kernel
theorem alv_pv : parV alvL = alvX := by decide +kernel
theorem alv_pe : parE alvL = 0 := by decide +kernel
theorem recR_nil (w : World) {x : RecD} (h1 : x.before = []) (h2 : x.after = []) (h3 : x.rows = []) (h4 : x.dirty = []) (hi : RecIn x) : RecR w x nilQ := (recLs_nil w w.heap.size h1 h2 h3 h4).toR hi

set_option maxHeartbeats 4000000 in
theorem alive_any {w : World} : Calls Try.prog 12 #[] w fun e w' => e = .returned (.bool true) ∧ Below w.heap.size w w' := by
  obtain ⟨L, hL⟩ : ∃ l, S8 alvL = l := ⟨_, rfl⟩
  have HL := Lib.hid hL
  have c1 : ∀ dst, Try.prog.underlying dst = some .string → (convert 22 dst (.slice (some ⟨w.heap.size, 0, none⟩) 17 17)).run Try.prog (w.alloc (.cells #[.int .u8 4, .int .u8 1, .int .u8 0, .int .u8 0, .int .u8 0, .int .u8 0, .int .u8 0, .int .u8 0, .int .u8 0, .int .u8 2, .int .u8 1, .int .u8 0, .int .u8 0, .int .u8 0, .int .u8 0, .int .u8 0, .int .u8 0] 5)) = .ok (.string L) (w.alloc (.cells #[.int .u8 4, .int .u8 1, .int .u8 0, .int .u8 0, .int .u8 0, .int .u8 0, .int .u8 0, .int .u8 0, .int .u8 0, .int .u8 2, .int .u8 1, .int .u8 0, .int .u8 0, .int .u8 0, .int .u8 0, .int .u8 0, .int .u8 0] 5)) := fun dst hd => by rw [← hL]; exact run_conv_rd (P := Try.prog) _ tU8 (Rda_lit w 5 alvL 17 rfl (by simp) rfl) 17 rfl dst hd
  have HB0 := Lib.hid ((Below.refl w.heap.size w).alloc (Nat.le_refl _) (.cells #[.int .u8 4, .int .u8 1, .int .u8 0, .int .u8 0, .int .u8 0, .int .u8 0, .int .u8 0, .int .u8 0, .int .u8 0, .int .u8 2, .int .u8 1, .int .u8 0, .int .u8 0, .int .u8 0, .int .u8 0, .int .u8 0, .int .u8 0] 5))
  have hi : RecIn alvX := ⟨⟨⟨by decide, by decide⟩, ⟨by decide, by decide⟩, ⟨by decide, by decide⟩, zero60, zero60, zero60, zero60⟩, fun y h => (by cases h), fun y h => (by cases h), by simp⟩
  have HBY : Hid (∀ W, Calls Try.prog 10 #[.agg #[.int .i64 4, .int .i64 1, .int .i64 258, .int .i64 0, .int .i64 0, .int .i64 0, .slice none 0 0, .slice none 0 0, .int .i64 0, .slice none 0 0, .slice none 0 0]] W (BytP alvX W)) := Lib.hid fun W => bytes_any (recR_nil W rfl rfl rfl rfl hi) rfl
  clear hL
  go_enter Try.func12, Try.ntmps12
  go_wp2_with fail
  refine (HBY.out _).mono ?_
  rintro e w1 ⟨A1, c1, rfl, hN⟩
  rw [alv_v, alv_e]
  rw [alv_v] at hN
  have HN1 := Lib.hid hN
  have HB1 := Lib.hid (below_then HB0.out hN.below)
  clear hN
  rw [show alvL.length = 17 from rfl]
  go_wp2_with (first
    | (refine wpList_convBytes rfl _ rfl tU8 Try.underlying9 (l := alvL) (by rw [HL.out]; rfl) (by simp) ?_)
    | fail)
  intro c7 w7 r7 hb
  have HN7 := Lib.hid (HN1.out.rda.below hb)
  have HB7 := Lib.hid (below_then HB1.out hb)
  have P := parse_any (n := 17) r7.rda rfl (by simp)
  clear hb HN1 HB1 r7
  go_wp2_with fail
  refine P.mono ?_
  clear P
  rintro e w8 ⟨q, rfl, hb8, hls⟩
  rw [alv_pv, alv_pe]
  rw [alv_pv] at hls
  have hR := hls.toR hi
  have HR := Lib.hid hR
  obtain ⟨⟨B1, k1, e1, _⟩, ⟨B2, k2, e2, _⟩, ⟨B3, k3, e3, _⟩, ⟨B4, k4, e4, _⟩, _, _⟩ := hR
  have HN8 := Lib.hid (HN7.out.below hb8)
  have HB8 := Lib.hid (below_then HB7.out hb8)
  have hcs : (recC alvX q).toArray = #[.int .i64 4, .int .i64 1, .int .i64 258, .int .i64 0, .int .i64 0, .int .i64 0, .slice B1 0 k1, .slice B2 0 k2, .int .i64 0, .slice B3 0 k3, .slice B4 0 k4] := by unfold recC; rw [e1, e2, e3, e4]; rfl
  rw [hcs]
  have HSZ := Lib.hid (size_any (HR.out.below ((Below.refl _ _).alloc (Nat.le_refl _) (.cells #[.int .i64 4, .int .i64 1, .int .i64 258, .int .i64 0, .int .i64 0, .int .i64 0, .slice B1 0 k1, .slice B2 0 k2, .int .i64 0, .slice B3 0 k3, .slice B4 0 k4] 26))) hcs.symm)
  have HB9 := Lib.hid (HB8.out.alloc HB8.out.size (.cells #[.int .i64 4, .int .i64 1, .int .i64 258, .int .i64 0, .int .i64 0, .int .i64 0, .slice B1 0 k1, .slice B2 0 k2, .int .i64 0, .slice B3 0 k3, .slice B4 0 k4] 26))
  have c9 := fun dst hd => run_conv_rd (P := Try.prog) _ tU8 (HN8.out.below ((Below.refl _ _).alloc (Nat.le_refl _) (.cells #[.int .i64 4, .int .i64 1, .int .i64 258, .int .i64 0, .int .i64 0, .int .i64 0, .slice B1 0 k1, .slice B2 0 k2, .int .i64 0, .slice B3 0 k3, .slice B4 0 k4] 26))) 17 rfl dst hd
  rw [HL.out] at c9
  clear hb8 hls e1 e2 e3 e4 hcs hi
  go_wp2_with (first | (go_at_call 13; refine (num_any _).mono ?_; rintro e w' ⟨rfl, rfl⟩) | fail)
  refine HSZ.out.mono ?_
  rintro e w9 ⟨rfl, hb9⟩
  rw [alv_v, show ((alvL.length : Nat) : Int) = 17 from rfl]
  have HB10 := Lib.hid (below_then HB9.out hb9)
  clear hb9
  go_wp2_with fail
  go_ret
  exact ⟨rfl, HB10.out⟩
end Go.Proofs.Ytiaehoppdihbdaa
