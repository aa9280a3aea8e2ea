import Derived.Test.YtapoknpakleiiaaDoorPagePure
import Derived.Test.YtapoknpakleiiaaDoorDiskPure
/- Pairs, in plain lists. -/
set_option linter.unusedVariables false
set_option linter.unusedSimpArgs false
namespace Go.Tm
def pairL (lsn number : Nat) (b : List UInt8) : List UInt8 := leB 8 lsn ++ (leB 4 number ++ (leB 4 0 ++ b))
theorem pairL_length (lsn number : Nat) (b : List UInt8) : (pairL lsn number b).length = b.length + 16 := by simp [pairL]; omega
def pmE (number : Int) (b : List UInt8) : Int := if checkE b number (slotsP b.length : Nat) ≠ 0 ∨ checkV b number (slotsP b.length : Nat) < 1 then 40 else 0
def pmV (number : Int) (b : List UInt8) : List UInt8 := if pmE number b = 0 then pairL (checkV b number (slotsP b.length : Nat)).toNat number.toNat b else []
def pLsn (p : List UInt8) : Nat := if p.length < 8 then 0 else if 1152921504606846976 < leN (p.take 8) then 0 else leN (p.take 8)
def pNum (p : List UInt8) : Nat := if p.length < 12 then 0 else leN ((p.drop 8).take 4)
def pPage (p : List UInt8) : List UInt8 := p.drop 16
def ppOk (b : List UInt8) (pages slots : Int) : Bool := decide (checkE (pPage b) (pNum b) slots = 0) && decide ((pNum b : Int) < pages) && decide (1 ≤ checkV (pPage b) (pNum b) slots) && decide (checkV (pPage b) (pNum b) slots = (pLsn b : Int))
def ppE (b : List UInt8) (pages slots : Int) : Int := if ppOk b pages slots = true then 0 else 130
def ppN (b : List UInt8) (pages slots : Int) : Nat := if ppOk b pages slots = true then pNum b else 0
def ppV (b : List UInt8) (pages slots : Int) : List UInt8 := if ppOk b pages slots = true then pPage b else []
theorem checkOk_num {b : List UInt8} {n s : Int} (h : checkE b n s = 0) : 0 ≤ n ∧ n < 16 ∧ (b.length : Int) = bytesP s ∧ bytesP s ≠ 0 := by
  unfold checkE at h
  split at h
  · cases h
  · rename_i hc
    have hc' : checkOk b n s = true := by simpa using hc
    simp only [checkOk, Bool.and_eq_true, decide_eq_true_eq] at hc'
    have := (okNum_iff n).1 hc'.1.2
    exact ⟨this.1, this.2, hc'.2, hc'.1.1⟩
theorem checkV_le (b : List UInt8) (n s : Int) : 0 ≤ checkV b n s ∧ checkV b n s ≤ 1152921504606846976 := by
  unfold checkV
  split
  · omega
  · split
    · omega
    · split
      · rename_i h
        simp only [rightB, Bool.and_eq_true, decide_eq_true_eq] at h
        omega
      · omega
theorem pmE_or (n : Int) (b : List UInt8) : pmE n b = 0 ∨ pmE n b = 40 := by unfold pmE; split <;> simp
theorem pLsn_le (p : List UInt8) : pLsn p ≤ 1152921504606846976 := by unfold pLsn; split; omega; split <;> omega
theorem pNum_lt (p : List UInt8) : pNum p < 4294967296 := by
  unfold pNum
  split
  · omega
  · have := leN_lt ((p.drop 8).take 4)
    rw [List.length_take, List.length_drop, Nat.min_eq_left (by omega)] at this
    omega
/-! Write and Repair on a disk. -/
def wrChain (s : DSt) (n : Int) (p b : List UInt8) : Int × DSt :=
  if writeE s s.P p ≠ 0 then (writeE s s.P p, writeS s s.P p)
  else if syncE (writeS s s.P p) ≠ 0 then (syncE (writeS s s.P p), syncS (writeS s s.P p) false)
  else if writeE (syncS (writeS s s.P p) false) n b ≠ 0 then (writeE (syncS (writeS s s.P p) false) n b, writeS (syncS (writeS s s.P p) false) n b)
  else (syncE (writeS (syncS (writeS s s.P p) false) n b), syncS (writeS (syncS (writeS s s.P p) false) n b) false)
def pairW (s : DSt) (n : Int) (b : List UInt8) : Int × DSt :=
  if n < 0 ∨ (s.P : Int) ≤ n then (61, s) else if pmE n b ≠ 0 ∨ (b.length : Int) ≠ bytesP s.K then (40, s) else wrChain s n (pmV n b) b
def pairC (s : DSt) (b : List UInt8) : Int × Int × DSt :=
  if blankB b = true then (-1, 0, s)
  else if writeE s s.P (zeroL b.length) ≠ 0 then (0, writeE s s.P (zeroL b.length), writeS s s.P (zeroL b.length))
  else if syncE (writeS s s.P (zeroL b.length)) ≠ 0 then (0, syncE (writeS s s.P (zeroL b.length)), syncS (writeS s s.P (zeroL b.length)) false)
  else (-1, 0, syncS (writeS s s.P (zeroL b.length)) false)
def pairR (s : DSt) : Int × Int × DSt :=
  if readE s s.P ≠ 0 then (0, readE s s.P, actS s)
  else if ppE (readV s s.P) s.P s.K ≠ 0 then pairC (actS s) (readV s s.P)
  else if writeE (actS s) (ppN (readV s s.P) s.P s.K) (ppV (readV s s.P) s.P s.K) ≠ 0 then (0, writeE (actS s) (ppN (readV s s.P) s.P s.K) (ppV (readV s s.P) s.P s.K), writeS (actS s) (ppN (readV s s.P) s.P s.K) (ppV (readV s s.P) s.P s.K))
  else if syncE (writeS (actS s) (ppN (readV s s.P) s.P s.K) (ppV (readV s s.P) s.P s.K)) ≠ 0 then (0, syncE (writeS (actS s) (ppN (readV s s.P) s.P s.K) (ppV (readV s s.P) s.P s.K)), syncS (writeS (actS s) (ppN (readV s s.P) s.P s.K) (ppV (readV s s.P) s.P s.K)) false)
  else ((ppN (readV s s.P) s.P s.K : Int), 0, syncS (writeS (actS s) (ppN (readV s s.P) s.P s.K) (ppV (readV s s.P) s.P s.K)) false)
/-! How far the acts and the loose writes go. -/
theorem actS_acts (s : DSt) : (actS s).acts ≤ s.acts + 1 := by unfold actS; split <;> (dsimp only; omega)
theorem writeS_some (s : DSt) (pl : Int) (b : List UInt8) : (writeS s pl b).acts ≤ s.acts + 1 ∧ (writeS s pl b).loose.length ≤ s.loose.length + 1 ∧ (writeS s pl b).P = s.P ∧ (writeS s pl b).K = s.K := by
  obtain ⟨e1, e2, _, _, _, e6, _⟩ := actS_same s
  have h := actS_acts s
  unfold writeS
  split
  · exact ⟨h, by simp, e1, e2⟩
  · exact ⟨h, by rw [e6]; omega, e1, e2⟩
theorem syncS_some (s : DSt) (m : Bool) : (syncS s m).acts ≤ s.acts + 1 ∧ (syncS s m).loose.length ≤ s.loose.length ∧ (syncS s m).P = s.P ∧ (syncS s m).K = s.K := by
  obtain ⟨e1, e2, _, _, _, e6, _⟩ := actS_same s
  have h := actS_acts s
  unfold syncS
  split
  · exact ⟨h, by rw [e6]; omega, e1, e2⟩
  · exact ⟨h, List.length_filter_le _ _, e1, e2⟩
end Go.Tm
