import Derived.Test.YtapoknpakleiiaaDoorPagePure
/- Lent bytes, in plain lists. -/
set_option linter.unusedVariables false
set_option linter.unusedSimpArgs false
namespace Go.Tm
/-- m marks from 129 on. -/
def markL (m : Nat) : List UInt8 := (List.range m).map fun i => UInt8.ofNat (129 + i)
theorem markL_length (m : Nat) : (markL m).length = m := by simp [markL]
theorem markL_succ (m : Nat) : markL (m + 1) = markL m ++ [UInt8.ofNat (129 + m)] := by simp [markL, List.range_succ]
def lentL (p : List UInt8) : List UInt8 := p ++ markL 120
theorem lentL_length (p : List UInt8) : (lentL p).length = p.length + 120 := by simp [lentL, markL_length]
theorem lentL_take (p : List UInt8) : (lentL p).take p.length = p := by simp [lentL]
/-- The first k bytes of p, zeros behind. -/
def cpL (p : List UInt8) (n m k : Nat) : List UInt8 := p.take k ++ zeroL (n - k + m)
theorem cpL_zero (p : List UInt8) (n m : Nat) : cpL p n m 0 = zeroL (n + m) := by simp [cpL]
theorem cpL_length (p : List UInt8) (n m k : Nat) (hk : k ≤ n) (hn : n = p.length) : (cpL p n m k).length = n + m := by
  unfold cpL
  rw [List.length_append, List.length_take, zeroL_length]
  omega
theorem set_mid (a : List UInt8) (x b : UInt8) (r : List UInt8) {k : Nat} (hk : k = a.length) : (a ++ x :: r).set k b = a ++ b :: r := by
  subst hk
  simp [List.set_append]
theorem cpL_step (p : List UInt8) (n m k : Nat) (X : UInt8) (hk : k < n) (hn : n = p.length) (hX : p.getD k 0 = X) : (cpL p n m k).set k X = cpL p n m (k + 1) := by
  unfold cpL
  have h1 : n - k + m = (n - (k + 1) + m) + 1 := by omega
  have h2 : p.take (k + 1) = p.take k ++ [X] := by
    rw [List.take_add_one]
    congr 1
    rw [List.getElem?_eq_getElem (by omega)]
    rw [List.getD_eq_getElem?_getD, List.getElem?_eq_getElem (by omega)] at hX
    rw [← hX]
    rfl
  rw [h1, h2]
  show (p.take k ++ (0 : UInt8) :: zeroL (n - (k + 1) + m)).set k X = _
  rw [set_mid _ _ _ _ (by rw [List.length_take]; omega)]
  simp
theorem cpL_end (p : List UInt8) (n m : Nat) (hn : n = p.length) : cpL p n m n = p ++ zeroL m := by
  subst hn
  simp [cpL]
/-- p, k marks, zeros behind. -/
def rpL (p : List UInt8) (m k : Nat) : List UInt8 := p ++ (markL k ++ zeroL (m - k))
theorem rpL_zero (p : List UInt8) (m : Nat) : rpL p m 0 = p ++ zeroL m := by simp [rpL, markL]
theorem rpL_length (p : List UInt8) (m k : Nat) (hk : k ≤ m) : (rpL p m k).length = p.length + m := by
  unfold rpL
  rw [List.length_append, List.length_append, markL_length, zeroL_length]
  omega
theorem rpL_step (p : List UInt8) (m k : Nat) (hk : k < m) {x n : Nat} (hx : x = n + k) (hn : n = p.length) : (rpL p m k).set x (UInt8.ofNat (129 + k)) = rpL p m (k + 1) := by
  subst hx hn
  unfold rpL
  have h1 : m - k = (m - (k + 1)) + 1 := by omega
  rw [h1, markL_succ]
  show (p ++ (markL k ++ (0 : UInt8) :: zeroL (m - (k + 1)))).set (p.length + k) _ = _
  rw [← List.append_assoc, set_mid _ _ _ _ (by rw [List.length_append, markL_length])]
  simp
theorem rpL_end (p : List UInt8) : rpL p 120 120 = lentL p := by simp [rpL, lentL, zeroL]
end Go.Tm
