import Derived.Test.YtgelgjghmoddoaaDoorLaw7
import Derived.Laws.BitsLemmas
/- within: a number from 0 to MaxLsn. -/
set_option linter.unusedVariables false
set_option linter.unusedSimpArgs false
namespace Go.Proofs.YtgelgjghmoddoaaDoor
open Go.RowKit Go.Tm
set_option maxHeartbeats 400000
set_option maxRecDepth 100000

theorem and_max (x : Int) (h0 : 0 ≤ x) (h1 : x ≤ 9223372036854775807) : bits .and .i64 x 1152921504606846975 = x % 1152921504606846976 :=
  bits_mask .i64 63 (by decide) (fun n a b => i64_id n (by omega) (by omega)) 60 (by decide) x h0 (by omega)

def withinN (n : Int) : Nat := ((if n < 0 then -1 - n else n) % 1152921504606846976).toNat
theorem withinN_lt (n : Int) : withinN n < 1152921504606846976 := by unfold withinN; split <;> omega
theorem within_det {w : World} (n : Int) (h0 : -9223372036854775808 ≤ n) (h1 : n ≤ 9223372036854775807) : Calls Tryd.prog 17 #[.int .i64 n] w fun e w' => e = .returned (.int .i64 (withinN n : Int)) ∧ w' = w := by
  by_cases hn : n < 0
  · have hw : IntKind.i64.wrap (-1 - n) = -1 - n := i64_id _ (by omega) (by omega)
    have ha := and_max (-1 - n) (by omega) (by omega)
    have HA := Lib.hid ha
    have HN : Hid ((withinN n : Int) = (-1 - n) % 1152921504606846976) := Lib.hid (by unfold withinN; rw [if_pos hn, Int.toNat_of_nonneg (by omega)])
    clear ha hw
    go_enter Tryd.func17, Tryd.ntmps17
    go_wp2
    go_ret
    refine ⟨?_, rfl⟩
    rw [HA.out, HN.out]
    rfl
  · have ha := and_max n (by omega) (by omega)
    have HA := Lib.hid ha
    have HN : Hid ((withinN n : Int) = n % 1152921504606846976) := Lib.hid (by unfold withinN; rw [if_neg hn, Int.toNat_of_nonneg (by omega)])
    clear ha
    go_enter Tryd.func17, Tryd.ntmps17
    go_wp2
    go_ret
    refine ⟨?_, rfl⟩
    rw [HA.out, HN.out]
    rfl
def InLsn (w : World) (e : Ending) (w' : World) : Prop := ∃ r : Nat, e = .returned (.int .i64 (r : Int)) ∧ r < 1152921504606846976 ∧ w = w'
theorem within_any {w : World} (n : Int) (h0 : -9223372036854775808 ≤ n) (h1 : n ≤ 9223372036854775807) : Calls Tryd.prog 17 #[.int .i64 n] w (InLsn w) :=
  (within_det n h0 h1).mono fun e w' h => ⟨withinN n, h.1, withinN_lt n, h.2.symm⟩
end Go.Proofs.YtgelgjghmoddoaaDoor
