import Derived.Test.YtgelgjghmoddoaaDoorMasterPure
import Derived.Test.YtgelgjghmoddoaaDoorDiskPure
/- The masters of a disk, in plain lists. -/
set_option linter.unusedVariables false
set_option linter.unusedSimpArgs false
namespace Go.Tm
def halfM (k : Nat) (b : List UInt8) : Nat × Nat × Nat := if isM b = true ∧ mT b % 2 = k then pM b else (0, 0, 0)
def selM (x y : Nat × Nat × Nat) : Nat × Nat × Nat := if x.1 < y.1 then y else x
def newE (s : DSt) : Int := if actB s = false then 1 else if actB (actS s) = false then 1 else 0
def newS (s : DSt) : DSt := if actB s = false then actS s else actS (actS s)
def newV (s : DSt) : Nat × Nat × Nat := if newE s = 0 then selM (halfM 0 (s.reads.getD (s.P + 1) [])) (halfM 1 (s.reads.getD (s.P + 2) [])) else (0, 0, 0)
def newOk (s : DSt) : Bool := !decide (newV s = (0, 0, 0))
theorem halfM_le (k : Nat) (b : List UInt8) : (halfM k b).1 ≤ 1152921504606846976 ∧ (halfM k b).2.1 ≤ 1152921504606846976 ∧ (halfM k b).2.2 ≤ 1152921504606846976 := by
  unfold halfM
  split
  · exact pM_le b
  · exact ⟨Nat.zero_le _, Nat.zero_le _, Nat.zero_le _⟩
theorem halfM_yes {k : Nat} {b : List UInt8} (h : isM b = true) (hk : (pM b).1 % 2 = k) : halfM k b = pM b := by
  have : (pM b).1 = mT b := by unfold pM; rw [if_pos h]
  rw [this] at hk
  exact if_pos ⟨h, hk⟩
theorem halfM_no1 {k : Nat} {b : List UInt8} (h : isM b = false) : halfM k b = (0, 0, 0) := if_neg fun h' => by rw [h] at h'; cases h'.1
theorem halfM_no2 {k : Nat} {b : List UInt8} (h : isM b = true) (hk : (pM b).1 % 2 ≠ k) : halfM k b = (0, 0, 0) := by
  have : (pM b).1 = mT b := by unfold pM; rw [if_pos h]
  rw [this] at hk
  exact if_neg fun h' => hk h'.2
theorem halfM_zero {k : Nat} {b : List UInt8} (h : (halfM k b).1 = 0) : halfM k b = (0, 0, 0) := by
  by_cases hc : isM b = true ∧ mT b % 2 = k
  · have h1 := isM_pos hc.1
    have h2 : halfM k b = pM b := if_pos hc
    rw [h2] at h
    omega
  · exact if_neg hc
/-- Next. -/
def nextE (s : DSt) (t b c : Int) : Int := if t < 0 ∨ 1152921504606846976 ≤ t then 30 else if mayB (t + 1) b c = false then 30 else
  let s1 := writeS s ((s.P : Int) + 1 + (t + 1) % 2) (mastV (t + 1) b c)
  if writeE s ((s.P : Int) + 1 + (t + 1) % 2) (mastV (t + 1) b c) ≠ 0 then writeE s ((s.P : Int) + 1 + (t + 1) % 2) (mastV (t + 1) b c) else syncE s1
def nextS (s : DSt) (t b c : Int) : DSt := if t < 0 ∨ 1152921504606846976 ≤ t then s else if mayB (t + 1) b c = false then s else
  let s1 := writeS s ((s.P : Int) + 1 + (t + 1) % 2) (mastV (t + 1) b c)
  if writeE s ((s.P : Int) + 1 + (t + 1) % 2) (mastV (t + 1) b c) ≠ 0 then s1 else syncS s1 true
def nextV (s : DSt) (t b c : Int) : Int × Int × Int := if nextE s t b c = 0 then (t + 1, b, c) else (0, 0, 0)
end Go.Tm
