import Derived.WalkKit
import Derived.Laws.BitsAllLaws
/- The sum of 32 bits: bit by bit, and by a table of sixteen words. Plain numbers; no program. -/
set_option linter.unusedVariables false
set_option linter.unusedSimpArgs false
namespace Go.Tm

def bit1 (w : Nat) : Nat := if w % 2 = 1 then (w / 2) ^^^ 3988292384 else w / 2
def tab : List Nat := [0, 498536548, 997073096, 651767980, 1994146192, 1802195444, 1303535960, 1342533948, 3988292384, 4027552580, 3604390888, 3412177804, 2607071920, 2262029012, 2685067896, 3183342108]
def nib (w : Nat) : Nat := (w / 16) ^^^ tab.getD (w % 16) 0

theorem bit1_xor (a b : Nat) : bit1 (a ^^^ b) = bit1 a ^^^ bit1 b := by
  have h1 := Nat.xor_div_two (a := a) (b := b)
  have h2 := Nat.xor_mod_two_eq_one (a := a) (b := b)
  unfold bit1
  rw [h1]
  by_cases ha : a % 2 = 1 <;> by_cases hb : b % 2 = 1
  · rw [if_neg (by rw [h2]; simp [ha, hb]), if_pos ha, if_pos hb]
    rw [Nat.xor_assoc, Nat.xor_comm 3988292384, Nat.xor_assoc, Nat.xor_self, Nat.xor_zero]
  · rw [if_pos (by rw [h2]; simp [ha, hb]), if_pos ha, if_neg hb]
    rw [Nat.xor_assoc, Nat.xor_assoc, Nat.xor_comm (b / 2)]
  · rw [if_pos (by rw [h2]; simp [ha, hb]), if_neg ha, if_pos hb, Nat.xor_assoc]
  · rw [if_neg (by rw [h2]; simp [ha, hb]), if_neg ha, if_neg hb]
theorem bit1_double (m : Nat) : bit1 (2 * m) = m := by
  unfold bit1
  rw [if_neg (by omega)]
  omega
theorem split16 (w : Nat) : w = (16 * (w / 16)) ^^^ (w % 16) := by
  have hr : w % 16 < 2 ^ 4 := Nat.mod_lt _ (by omega)
  apply Nat.eq_of_testBit_eq
  intro j
  have e : w = 2 ^ 4 * (w / 16) + w % 16 := by omega
  rw [show 16 * (w / 16) = 2 ^ 4 * (w / 16) from rfl, Nat.testBit_xor, Nat.testBit_two_pow_mul]
  conv => lhs; rw [e]
  rw [Nat.testBit_two_pow_mul_add _ hr]
  by_cases hj : j < 4
  · rw [if_pos hj]
    simp [show ¬ (4 ≤ j) by omega]
  · rw [if_neg hj]
    have : (w % 16).testBit j = false := Nat.testBit_lt_two_pow (Nat.lt_of_lt_of_le hr (Nat.pow_le_pow_right (by omega) (by omega)))
    simp [this, show 4 ≤ j by omega]
theorem nib_small : ∀ r, r < 16 → bit1 (bit1 (bit1 (bit1 r))) = tab.getD r 0 := by decide +kernel
theorem nib_bits (w : Nat) : bit1 (bit1 (bit1 (bit1 w))) = nib w := by
  conv => lhs; rw [split16 w]
  rw [bit1_xor, bit1_xor, bit1_xor, bit1_xor]
  rw [show 16 * (w / 16) = 2 * (2 * (2 * (2 * (w / 16)))) by omega, bit1_double, bit1_double, bit1_double, bit1_double, nib_small _ (Nat.mod_lt _ (by omega))]
  rfl
theorem tab_lt : ∀ r, r < 16 → tab.getD r 0 < 4294967296 := by decide +kernel
theorem xor_lt32 {a b : Nat} (ha : a < 4294967296) (hb : b < 4294967296) : a ^^^ b < 4294967296 := Nat.xor_lt_two_pow (n := 32) ha hb
theorem nib_lt (w : Nat) (h : w < 4294967296) : nib w < 4294967296 := xor_lt32 (by omega) (tab_lt _ (Nat.mod_lt _ (by omega)))
theorem bit1_lt (w : Nat) (h : w < 4294967296) : bit1 w < 4294967296 := by
  unfold bit1
  split
  · exact xor_lt32 (by omega) (by omega)
  · omega

def bitN : Nat → Nat → Nat
  | 0, x => x
  | k + 1, x => bit1 (bitN k x)
theorem bitN_lt : ∀ (k x : Nat), x < 4294967296 → bitN k x < 4294967296
  | 0, _, h => h
  | k + 1, x, h => bit1_lt _ (bitN_lt k x h)
theorem bitN_8 (x : Nat) : bitN 8 x = nib (nib x) := by
  rw [← nib_bits, ← nib_bits x]
  rfl
/-- One byte. -/
def crcB (w : Nat) (c : UInt8) : Nat := nib (nib (w ^^^ c.toNat))
def crcL (w : Nat) (l : List UInt8) : Nat := l.foldl crcB w
/-- The sum of what has the sum s, and of the bytes l behind it. -/
def crcM (s : Nat) (l : List UInt8) : Nat := 4294967295 ^^^ crcL (4294967295 ^^^ s) l
theorem crcB_lt (w : Nat) (c : UInt8) (h : w < 4294967296) : crcB w c < 4294967296 := nib_lt _ (nib_lt _ (xor_lt32 h (by have := c.toNat_lt; omega)))
theorem crcL_lt : ∀ (l : List UInt8) (w : Nat), w < 4294967296 → crcL w l < 4294967296
  | [], w, h => h
  | c :: l, w, h => crcL_lt l (crcB w c) (crcB_lt w c h)
theorem crcM_lt (s : Nat) (l : List UInt8) (h : s < 4294967296) : crcM s l < 4294967296 := xor_lt32 (by omega) (crcL_lt l _ (xor_lt32 (by omega) h))
theorem crcL_snoc (w : Nat) (l : List UInt8) (c : UInt8) : crcL w (l ++ [c]) = crcB (crcL w l) c := by simp [crcL]
theorem crcL_append (w : Nat) (l m : List UInt8) : crcL w (l ++ m) = crcL (crcL w l) m := by simp [crcL]
theorem crcM_append (s : Nat) (l m : List UInt8) (h : s < 4294967296) : crcM s (l ++ m) = crcM (crcM s l) m := by
  unfold crcM
  rw [crcL_append, ← Nat.xor_assoc, Nat.xor_self, Nat.zero_xor]
end Go.Tm
