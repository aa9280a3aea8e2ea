import Derived.Test.YtiaehoppdihbdaaCrcPure
import Derived.Test.YtiaehoppdihbdaaLib
/- Pages as plain lists of bytes. -/
set_option linter.unusedVariables false
set_option linter.unusedSimpArgs false
namespace Go.Tm

/-- b with a row laid over it. -/
def layL (b : List UInt8) (k : Nat) (row : List UInt8) : List UInt8 := b.take k ++ (row ++ b.drop (k + row.length))
theorem layL_mid (x y z row : List UInt8) (h : y.length = row.length) {k : Nat} (hk : k = x.length) : layL (x ++ (y ++ z)) k row = x ++ (row ++ z) := by
  subst hk
  unfold layL
  rw [List.take_left, ← List.drop_drop, List.drop_left, ← h, List.drop_left]
theorem layL_length (b : List UInt8) (k : Nat) (row : List UInt8) (h : k + row.length ≤ b.length) : (layL b k row).length = b.length := by
  unfold layL
  simp
  omega
theorem three (b : List UInt8) (k m : Nat) (h : k + m ≤ b.length) : ∃ x y z, b = x ++ (y ++ z) ∧ x.length = k ∧ y.length = m := by
  refine ⟨b.take k, (b.drop k).take m, (b.drop k).drop m, by rw [List.take_append_drop, List.take_append_drop], by simp; omega, by simp; omega⟩
/-- A page's five pieces. -/
theorem five (b : List UInt8) (h : 24 ≤ b.length) : ∃ p8 p4 q4 mid t8, b = p8 ++ (p4 ++ (q4 ++ (mid ++ t8))) ∧ p8.length = 8 ∧ p4.length = 4 ∧ q4.length = 4 ∧ t8.length = 8 := by
  obtain ⟨p8, p4, r, h1, h2, h3⟩ := three b 8 4 (by omega)
  have hr : r.length + 12 = b.length := by rw [h1]; simp; omega
  obtain ⟨q4, mid, t8, h4, h5, h6⟩ := three r 4 (r.length - 12) (by omega)
  refine ⟨p8, p4, q4, mid, t8, by rw [h1, h4], h2, h3, h5, ?_⟩
  have := congrArg List.length h4
  simp at this
  omega

/-- How many bytes a page has. -/
def bytesP (s : Int) : Int := if s < 1 ∨ 8 < s then 0 else 24 + 16 * s
/-- How many slots so many bytes have. -/
def slotsP (n : Nat) : Nat := if 40 ≤ n ∧ n ≤ 152 ∧ n % 16 = 8 then (n - 24) / 16 else 0
theorem slotsP_le (n : Nat) : slotsP n ≤ 8 := by unfold slotsP; split <;> omega
theorem slotsP_len {n : Nat} (h : 0 < slotsP n) : n = 24 + 16 * slotsP n := by
  by_cases hc : 40 ≤ n ∧ n ≤ 152 ∧ n % 16 = 8
  · have e : slotsP n = (n - 24) / 16 := if_pos hc
    rw [e]
    omega
  · have e : slotsP n = 0 := if_neg hc
    omega
theorem slotsP_pos {n : Nat} : 0 < slotsP n ↔ 40 ≤ n ∧ n ≤ 152 ∧ n % 16 = 8 := by
  constructor
  · intro h
    have h1 := slotsP_len h
    have h2 := slotsP_le n
    omega
  · intro hc
    have e : slotsP n = (n - 24) / 16 := if_pos hc
    omega
theorem slotsP_of (s : Nat) (h1 : 1 ≤ s) (h8 : s ≤ 8) : slotsP (24 + 16 * s) = s := by
  unfold slotsP
  rw [if_pos (by omega)]
  omega
theorem bytesP_ok (s : Int) (h1 : 1 ≤ s) (h8 : s ≤ 8) : bytesP s = 24 + 16 * s := if_neg (by omega)
theorem bytesP_no (s : Int) (h : s < 1 ∨ 8 < s) : bytesP s = 0 := if_pos h

/-- What is behind the head: the slots as they are, the LSN. -/
def restP (b : List UInt8) (lsn : Nat) : List UInt8 := (b.take (b.length - 8)).drop 16 ++ leB 8 lsn
/-- Number, both LSNs, the sum. -/
def stampP (b : List UInt8) (number lsn : Nat) : List UInt8 :=
  (leB 8 lsn ++ leB 4 number) ++ (leB 4 (crcM 0 (leB 8 lsn ++ leB 4 number ++ restP b lsn)) ++ restP b lsn)
theorem restP_length (b : List UInt8) (lsn : Nat) (h : 24 ≤ b.length) : (restP b lsn).length = b.length - 16 := by
  simp [restP]
  omega
theorem stampP_length (b : List UInt8) (number lsn : Nat) (h : 24 ≤ b.length) : (stampP b number lsn).length = b.length := by
  simp [stampP, restP_length b lsn h]
  omega
theorem restP_five (p8 p4 q4 mid t8 : List UInt8) (lsn : Nat) (h1 : p8.length = 8) (h2 : p4.length = 4) (h3 : q4.length = 4) (h5 : t8.length = 8) :
    restP (p8 ++ (p4 ++ (q4 ++ (mid ++ t8)))) lsn = mid ++ leB 8 lsn := by
  unfold restP
  congr 1
  have e1 : p8 ++ (p4 ++ (q4 ++ (mid ++ t8))) = (p8 ++ (p4 ++ q4)) ++ mid ++ t8 := by simp
  rw [e1, List.take_left' (by simp; omega), List.drop_left' (by simp; omega)]
/-- The sum of all bytes but the sum's own. -/
def sumP (b : List UInt8) : Nat := crcM 0 (b.take 12 ++ b.drop 16)
/-- The document's way: row by row over a copy. -/
theorem stamped_ref (b : List UInt8) (number lsn : Nat) (h : 24 ≤ b.length) :
    layL (layL (layL (layL b 0 (leB 8 lsn)) 8 (leB 4 number)) (b.length - 8) (leB 8 lsn)) 12 (leB 4 (sumP (layL (layL (layL b 0 (leB 8 lsn)) 8 (leB 4 number)) (b.length - 8) (leB 8 lsn)))) = stampP b number lsn := by
  obtain ⟨p8, p4, q4, mid, t8, rfl, h1, h2, h3, h5⟩ := five b h
  have e1 : layL (p8 ++ (p4 ++ (q4 ++ (mid ++ t8)))) 0 (leB 8 lsn) = leB 8 lsn ++ (p4 ++ (q4 ++ (mid ++ t8))) := by
    have := layL_mid [] p8 (p4 ++ (q4 ++ (mid ++ t8))) (leB 8 lsn) (by simp [h1]) (k := 0) rfl
    simpa using this
  rw [e1, layL_mid (leB 8 lsn) p4 (q4 ++ (mid ++ t8)) (leB 4 number) (by simp [h2]) (by simp)]
  have e3 : layL (leB 8 lsn ++ (leB 4 number ++ (q4 ++ (mid ++ t8)))) ((p8 ++ (p4 ++ (q4 ++ (mid ++ t8)))).length - 8) (leB 8 lsn) = leB 8 lsn ++ (leB 4 number ++ (q4 ++ (mid ++ leB 8 lsn))) := by
    have := layL_mid (leB 8 lsn ++ (leB 4 number ++ (q4 ++ mid))) t8 [] (leB 8 lsn) (by simp [h5]) (k := (p8 ++ (p4 ++ (q4 ++ (mid ++ t8)))).length - 8) (by simp; omega)
    simpa using this
  rw [e3]
  have e4 : sumP (leB 8 lsn ++ (leB 4 number ++ (q4 ++ (mid ++ leB 8 lsn)))) = crcM 0 (leB 8 lsn ++ leB 4 number ++ (mid ++ leB 8 lsn)) := by
    unfold sumP
    have a1 : (leB 8 lsn ++ (leB 4 number ++ (q4 ++ (mid ++ leB 8 lsn)))).take 12 = leB 8 lsn ++ leB 4 number := by
      rw [← List.append_assoc]; exact List.take_left' (by simp)
    have a2 : (leB 8 lsn ++ (leB 4 number ++ (q4 ++ (mid ++ leB 8 lsn)))).drop 16 = mid ++ leB 8 lsn := by
      have : leB 8 lsn ++ (leB 4 number ++ (q4 ++ (mid ++ leB 8 lsn))) = (leB 8 lsn ++ (leB 4 number ++ q4)) ++ (mid ++ leB 8 lsn) := by simp
      rw [this]
      exact List.drop_left' (by simp; omega)
    rw [a1, a2]
  rw [e4]
  have e5 := layL_mid (leB 8 lsn ++ leB 4 number) q4 (mid ++ leB 8 lsn) (leB 4 (crcM 0 (leB 8 lsn ++ leB 4 number ++ (mid ++ leB 8 lsn)))) (by simp [h3]) (k := 12) (by simp)
  rw [List.append_assoc] at e5
  rw [e5]
  unfold stampP
  rw [restP_five p8 p4 q4 mid t8 lsn h1 h2 h3 h5]
  try simp

/-- What Make answers. -/
def okNum (n : Int) : Bool := decide (0 ≤ n) && decide (n < 16)
theorem okNum_iff (n : Int) : okNum n = true ↔ 0 ≤ n ∧ n < 16 := by simp [okNum]
def makeE (number slots : Int) : Int := if bytesP slots = 0 then 41 else if okNum number = false then 40 else 0
def zeroL (n : Nat) : List UInt8 := List.replicate n 0
theorem zeroL_length (n : Nat) : (zeroL n).length = n := by simp [zeroL]
def makeV (number slots : Int) : List UInt8 := if makeE number slots = 0 then stampP (zeroL (bytesP slots).toNat) number.toNat 0 else []

/-- Are all bytes 0? -/
def blankB (b : List UInt8) : Bool := b.all fun c => c == 0
def frontN (b : List UInt8) : Nat := leN (b.take 8)
def backN (b : List UInt8) : Nat := leN (b.drop (b.length - 8))
def numN (b : List UInt8) : Nat := leN ((b.drop 8).take 4)
def toldN (b : List UInt8) : Nat := leN ((b.drop 12).take 4)
/-- What Check answers. -/
def checkOk (b : List UInt8) (number slots : Int) : Bool := decide (bytesP slots ≠ 0) && okNum number && decide ((b.length : Int) = bytesP slots)
def rightB (b : List UInt8) (number : Int) : Bool := decide (frontN b = backN b) && decide (frontN b ≤ 1152921504606846976) && decide ((numN b : Int) = number) && decide (toldN b = sumP b)
def checkE (b : List UInt8) (number slots : Int) : Int := if checkOk b number slots = false then 40 else if blankB b = true then 0 else if rightB b number = true then 0 else 40
def checkV (b : List UInt8) (number slots : Int) : Int := if checkOk b number slots = false then 0 else if blankB b = true then 0 else if rightB b number = true then (frontN b : Int) else 0
def lsnE (b : List UInt8) : Int := if slotsP b.length = 0 then 40 else if 1152921504606846976 < frontN b then 40 else 0
def lsnV (b : List UInt8) : Int := if lsnE b = 0 then (frontN b : Int) else 0
def stampE (b : List UInt8) (number lsn : Int) : Int := if slotsP b.length = 0 ∨ okNum number = false then 40 else if lsn < 0 ∨ 1152921504606846976 < lsn then 30 else 0
def stampV (b : List UInt8) (number lsn : Int) : List UInt8 := if stampE b number lsn = 0 then stampP b number.toNat lsn.toNat else []
/-- A slot's place. -/
def placeE (b : List UInt8) (i : Int) : Int := if slotsP b.length = 0 then 40 else if i < 0 ∨ (slotsP b.length : Int) ≤ i then 41 else 0
def usedB (b : List UInt8) (i : Int) : Bool := decide (placeE b i = 0) && (b.getD (16 + 16 * i.toNat) 0 == 1)
def keyN (b : List UInt8) (i : Nat) : Nat := leN ((b.drop (20 + 16 * i)).take 4)
def valN (b : List UInt8) (i : Nat) : Nat := leN ((b.drop (24 + 16 * i)).take 8)
def slotK (b : List UInt8) (i : Int) : Int := if usedB b i = true then (keyN b i.toNat : Int) else 0
def slotV (b : List UInt8) (i : Int) : Int := if usedB b i = true then (valN b i.toNat : Int) else 0
def slotRow (key val : Nat) : List UInt8 := [1, 0, 0, 0] ++ leB 4 key ++ leB 8 val
theorem slotRow_length (key val : Nat) : (slotRow key val).length = 16 := by simp [slotRow]
def fillE (b : List UInt8) (i key : Int) : Int := if placeE b i ≠ 0 then placeE b i else if key < 0 ∨ 4294967295 < key then 50 else 0
def fillV (b : List UInt8) (i key val : Int) : List UInt8 := if fillE b i key = 0 then layL b (16 + 16 * i.toNat) (slotRow key.toNat val.toNat) else []
def freeV (b : List UInt8) (i : Int) : List UInt8 := if placeE b i = 0 then layL b (16 + 16 * i.toNat) (zeroL 16) else []
end Go.Tm
