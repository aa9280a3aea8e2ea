import Derived.Test.YtpmcdooplnmjnaaProg
import Derived.Test.YtpmcdooplnmjnaaLib
/- The contracts of package octet, of slices.Clone, slices.Grow and slices.Concat, and of the document's answer for layer 1. -/
set_option linter.unusedVariables false
set_option linter.unusedSimpArgs false
namespace Go.Proofs.Ytpmcdooplnmjnaa
open Go.RowKit Go.Tm
set_option maxHeartbeats 400000
set_option maxRecDepth 100000

theorem tU8 : U8 Try.prog 33 5 := ⟨Try.underlying33, Try.underlying5, by
  obtain ⟨i, h, h1, h2, h3⟩ := info_parts (P := Try.prog) (e := 5) (z := .int .u8 0) (size := 1) (bytes := 1) (by kernel_rfl)
  exact ⟨i, h, h1, h2, h3⟩⟩

theorem own_knob : ownKnob Try.prog.godebug = none := by kernel_rfl
theorem laid_out : laidOutB Try.prog = true := by kernel_rfl

def topOf (n k : Nat) : Int := (256 ^ n / 256 ^ k - 1 : Nat)
theorem topOf_all : ∀ n, n < 9 → ∀ k, k < n → 0 < topOf n k ∧ topOf n k / 256 = topOf n (k + 1) := by decide +kernel
theorem topOf_end : ∀ n, n < 9 → topOf n n = 0 := by decide +kernel









end Go.Proofs.Ytpmcdooplnmjnaa
