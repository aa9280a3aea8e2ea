import Derived.Test.YtgelgjghmoddoaaDoorCrcPure
import Derived.Test.YtgelgjghmoddoaaDoorLib
/- Masters, in plain lists. -/
set_option linter.unusedVariables false
set_option linter.unusedSimpArgs false
namespace Go.Tm
/-- May a State be written? -/
def mayB (t b c : Int) : Bool := decide (1 ≤ t) && decide (t ≤ 1152921504606846976) && decide (0 ≤ b) && decide (b ≤ 1152921504606846976) && decide (0 ≤ c) && decide (c ≤ 1152921504606846976)
theorem mayB_iff (t b c : Int) : mayB t b c = true ↔ 1 ≤ t ∧ t ≤ 1152921504606846976 ∧ 0 ≤ b ∧ b ≤ 1152921504606846976 ∧ 0 ≤ c ∧ c ≤ 1152921504606846976 := by simp [mayB, and_assoc]
def frontM (t b c : Nat) : List UInt8 := leB 8 t ++ leB 8 b ++ leB 8 c ++ leB 4 0
def mastL (t b c : Nat) : List UInt8 := frontM t b c ++ leB 4 (crcM 0 (frontM t b c)) ++ leB 8 t
theorem frontM_length (t b c : Nat) : (frontM t b c).length = 28 := by simp [frontM]
theorem mastL_length (t b c : Nat) : (mastL t b c).length = 40 := by simp [mastL, frontM_length]
/-- What Bytes answers. -/
def mastE (t b c : Int) : Int := if mayB t b c = true then 0 else 30
def mastV (t b c : Int) : List UInt8 := if mayB t b c = true then mastL t.toNat b.toNat c.toNat else []
/-- The fields of 40 bytes. -/
def mT (l : List UInt8) : Nat := leN (l.take 8)
def mB (l : List UInt8) : Nat := leN ((l.drop 8).take 8)
def mC (l : List UInt8) : Nat := leN ((l.drop 16).take 8)
def isM (l : List UInt8) : Bool := decide (l.length = 40) && mayB (mT l) (mB l) (mC l) && decide (mastL (mT l) (mB l) (mC l) = l)
def pM (l : List UInt8) : Nat × Nat × Nat := if isM l = true then (mT l, mB l, mC l) else (0, 0, 0)
theorem isM_iff (l : List UInt8) : isM l = true ↔ l.length = 40 ∧ mayB (mT l) (mB l) (mC l) = true ∧ mastL (mT l) (mB l) (mC l) = l := by simp [isM, and_assoc]
theorem mast_fields (t b c : Nat) (ht : t < 256 ^ 8) (hb : b < 256 ^ 8) (hc : c < 256 ^ 8) : mT (mastL t b c) = t ∧ mB (mastL t b c) = b ∧ mC (mastL t b c) = c := by
  have l8 : ∀ v, (leB 8 v).length = 8 := fun v => leB_length 8 v
  have e1 : (mastL t b c).take 8 = leB 8 t := by
    unfold mastL frontM
    simp only [List.append_assoc]
    exact List.take_left' (l8 t)
  have e2 : ((mastL t b c).drop 8).take 8 = leB 8 b := by
    unfold mastL frontM
    simp only [List.append_assoc]
    rw [List.drop_left' (l8 t)]
    exact List.take_left' (l8 b)
  have e3 : ((mastL t b c).drop 16).take 8 = leB 8 c := by
    unfold mastL frontM
    simp only [List.append_assoc]
    rw [show (16 : Nat) = 8 + 8 from rfl, ← List.drop_drop, List.drop_left' (l8 t), List.drop_left' (l8 b)]
    exact List.take_left' (l8 c)
  unfold mT mB mC
  rw [e1, e2, e3, leN_leB, leN_leB, leN_leB]
  exact ⟨Nat.mod_eq_of_lt ht, Nat.mod_eq_of_lt hb, Nat.mod_eq_of_lt hc⟩
theorem mast_is {t b c : Int} (h : mayB t b c = true) : isM (mastL t.toNat b.toNat c.toNat) = true ∧ pM (mastL t.toNat b.toNat c.toNat) = (t.toNat, b.toNat, c.toNat) := by
  obtain ⟨h1, h2, h3, h4, h5, h6⟩ := (mayB_iff t b c).1 h
  obtain ⟨e1, e2, e3⟩ := mast_fields t.toNat b.toNat c.toNat (by omega) (by omega) (by omega)
  have : isM (mastL t.toNat b.toNat c.toNat) = true := by
    rw [isM_iff, e1, e2, e3]
    refine ⟨mastL_length _ _ _, ?_, rfl⟩
    rw [mayB_iff]
    omega
  refine ⟨this, ?_⟩
  unfold pM
  rw [if_pos this, e1, e2, e3]
theorem pM_le (l : List UInt8) : (pM l).1 ≤ 1152921504606846976 ∧ (pM l).2.1 ≤ 1152921504606846976 ∧ (pM l).2.2 ≤ 1152921504606846976 := by
  unfold pM
  split
  · rename_i h
    have := (mayB_iff _ _ _).1 ((isM_iff l).1 h).2.1
    exact ⟨by show mT l ≤ _; omega, by show mB l ≤ _; omega, by show mC l ≤ _; omega⟩
  · exact ⟨Nat.zero_le _, Nat.zero_le _, Nat.zero_le _⟩
theorem isM_pos {l : List UInt8} (h : isM l = true) : 1 ≤ (pM l).1 := by
  unfold pM
  rw [if_pos h]
  have := (mayB_iff _ _ _).1 ((isM_iff l).1 h).2.1
  show 1 ≤ mT l
  omega
end Go.Tm
