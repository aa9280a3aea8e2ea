import Derived.Test.YtaldpngilgaciabDoorCrcPure
import Derived.Test.YtaldpngilgaciabDoorLib
/- Frames of the log as plain lists of bytes. -/
set_option linter.unusedVariables false
set_option linter.unusedSimpArgs false
namespace Go.Tm

def frontL (lsn : Nat) (body : List UInt8) : List UInt8 := leB 4 body.length ++ (leB 8 lsn ++ body)
def frameL (lsn : Nat) (body : List UInt8) : List UInt8 := frontL lsn body ++ leB 4 (crcM 0 (frontL lsn body))
theorem frontL_length (lsn : Nat) (body : List UInt8) : (frontL lsn body).length = body.length + 12 := by
  simp [frontL]; omega
theorem frameL_length (lsn : Nat) (body : List UInt8) : (frameL lsn body).length = body.length + 16 := by
  rw [frameL, List.length_append, frontL_length, leB_length]
def okLsn (lsn : Int) : Bool := decide (1 ≤ lsn) && decide (lsn ≤ 1152921504606846976)
def okBody (n : Nat) : Bool := decide (1 ≤ n) && decide (n ≤ 1024)
theorem okLsn_iff (lsn : Int) : okLsn lsn = true ↔ 1 ≤ lsn ∧ lsn ≤ 1152921504606846976 := by simp [okLsn]
theorem okBody_iff (n : Nat) : okBody n = true ↔ 1 ≤ n ∧ n ≤ 1024 := by simp [okBody]
def sizeF (n : Int) : Int := if n < 1 ∨ 1024 < n then 0 else n + 16
theorem sizeF_ok (n : Nat) (h : okBody n = true) : sizeF (n : Int) = (n : Int) + 16 := by
  have := (okBody_iff n).1 h
  exact if_neg (by omega)
theorem sizeF_no (n : Nat) (h : okBody n = false) : sizeF (n : Int) = 0 := by
  have : ¬ (1 ≤ n ∧ n ≤ 1024) := fun h' => by rw [(okBody_iff n).2 h'] at h; cases h
  exact if_pos (by omega)

/-- What Wrap answers. -/
def wrapE (lsn : Int) (body : List UInt8) : Int := if okBody body.length = false then 81 else if okLsn lsn = false then 30 else 0
def wrapV (lsn : Int) (body : List UInt8) : List UInt8 := if wrapE lsn body = 0 then frameL lsn.toNat body else []

/-- The four pieces of a list's first n + 16 bytes. -/
theorem pieces (b : List UInt8) (n : Nat) : b.take (n + 16) = b.take 4 ++ ((b.drop 4).take 8 ++ (b.drop 12).take n) ++ (b.drop (n + 12)).take 4 := by
  have e1 : b.take (n + 16) = b.take 4 ++ (b.drop 4).take (8 + (n + 4)) := by rw [← List.take_add]; congr 1; omega
  have e2 : (b.drop 4).take (8 + (n + 4)) = (b.drop 4).take 8 ++ ((b.drop 4).drop 8).take (n + 4) := List.take_add
  have e3 : ((b.drop 4).drop 8).take (n + 4) = ((b.drop 4).drop 8).take n ++ (((b.drop 4).drop 8).drop n).take 4 := List.take_add
  rw [e1, e2, e3]
  simp only [List.drop_drop, List.append_assoc]
  rw [show 4 + 8 = 12 from rfl, show 12 + n = n + 12 by omega]
theorem front_pieces (b : List UInt8) (n : Nat) : b.take (n + 12) = b.take 4 ++ ((b.drop 4).take 8 ++ (b.drop 12).take n) := by
  have e1 : b.take (n + 12) = b.take 4 ++ (b.drop 4).take (8 + n) := by rw [← List.take_add]; congr 1; omega
  have e2 : (b.drop 4).take (8 + n) = (b.drop 4).take 8 ++ ((b.drop 4).drop 8).take n := List.take_add
  rw [e1, e2]
  simp only [List.drop_drop]

/-- The bytes begin with the frame of their own body: told by three numbers. -/
theorem frame_iff (b : List UInt8) (n lsn : Nat) (hn : n = leN (b.take 4)) (hb : n + 16 ≤ b.length) (hl : lsn < 256 ^ 8) :
    frameL lsn ((b.drop 12).take n) = b.take (n + 16) ↔ (leN ((b.drop 4).take 8) = lsn ∧ leN ((b.drop (n + 12)).take 4) = crcM 0 (b.take (n + 12))) := by
  have l1 : (b.take 4).length = 4 := by simp; omega
  have l2 : ((b.drop 4).take 8).length = 8 := by simp; omega
  have l3 : ((b.drop 12).take n).length = n := by simp; omega
  have l4 : ((b.drop (n + 12)).take 4).length = 4 := by simp; omega
  have q1 : leB 4 n = b.take 4 := by rw [hn]; have := leB_leN (b.take 4); rwa [l1] at this
  constructor
  · intro h
    rw [pieces b n, frameL, frontL, l3] at h
    have h1 := List.append_inj h (by simp [l1, l2, l3])
    have h2 := List.append_inj h1.1 (by rw [leB_length, l1])
    have h3 := List.append_inj h2.2 (by rw [leB_length, l2])
    have hfr : leB 4 n ++ (leB 8 lsn ++ (b.drop 12).take n) = b.take (n + 12) := by rw [front_pieces b n, ← h3.1, ← h2.1]
    refine ⟨?_, ?_⟩
    · rw [← h3.1, leN_leB, Nat.mod_eq_of_lt hl]
    · rw [← h1.2, leN_leB, hfr, Nat.mod_eq_of_lt (Nat.lt_of_lt_of_le (crcM_lt 0 _ (by omega)) (by decide))]
  · rintro ⟨h1, h2⟩
    have q2 : leB 8 lsn = (b.drop 4).take 8 := by rw [← h1]; have := leB_leN ((b.drop 4).take 8); rwa [l2] at this
    have hfr : frontL lsn ((b.drop 12).take n) = b.take (n + 12) := by rw [frontL, l3, q1, q2, front_pieces b n]
    rw [frameL, hfr, ← h2]
    have q4 : leB 4 (leN ((b.drop (n + 12)).take 4)) = (b.drop (n + 12)).take 4 := by
      have := leB_leN ((b.drop (n + 12)).take 4)
      rwa [l4] at this
    rw [q4, pieces b n, front_pieces b n]

/-- The body of the frame at the beginning, if there is one under this LSN. -/
def openB (b : List UInt8) (lsn : Int) : Option (List UInt8) :=
  if okLsn lsn = true ∧ okBody (getV 4 b) = true ∧ getV 4 b + 16 ≤ b.length ∧ leN ((b.drop 4).take 8) = lsn.toNat ∧ leN ((b.drop (getV 4 b + 12)).take 4) = crcM 0 (b.take (getV 4 b + 12)) then some ((b.drop 12).take (getV 4 b)) else none
theorem getV4_of (b : List UInt8) (h : okBody (getV 4 b) = true) : 4 ≤ b.length ∧ getV 4 b = leN (b.take 4) := by
  have h1 := (okBody_iff _).1 h
  unfold getV at h1 ⊢
  split
  · rename_i hlt
    rw [if_pos hlt] at h1
    omega
  · exact ⟨by omega, rfl⟩
theorem lsn_lt {lsn : Int} (h : okLsn lsn = true) : lsn.toNat < 256 ^ 8 := by
  have := (okLsn_iff lsn).1 h
  have e : (256 : Nat) ^ 8 = 18446744073709551616 := by decide
  omega
theorem frame_len4 (lsn : Nat) (body r : List UInt8) (h : okBody body.length = true) : getV 4 (frameL lsn body ++ r) = body.length := by
  have hb := (okBody_iff _).1 h
  unfold getV
  rw [if_neg (by rw [List.length_append, frameL_length]; omega), frameL, frontL, List.append_assoc, List.append_assoc, List.take_left' (by simp), leN_leB]
  exact Nat.mod_eq_of_lt (Nat.lt_of_le_of_lt hb.2 (by decide))
/-- A frame with anything behind it is opened under its LSN. -/
theorem openB_frame (lsn : Int) (body r : List UInt8) (hl : okLsn lsn = true) (hb : okBody body.length = true) : openB (frameL lsn.toNat body ++ r) lsn = some body := by
  have h4 := frame_len4 lsn.toNat body r hb
  have hbd : ((frameL lsn.toNat body ++ r).drop 12).take body.length = body := by
    rw [frameL, frontL]
    simp only [List.append_assoc]
    rw [show 12 = 4 + 8 from rfl, ← List.drop_drop, List.drop_left' (by simp), List.drop_left' (by simp), List.take_left' rfl]
  have hlen : body.length + 16 ≤ (frameL lsn.toNat body ++ r).length := by rw [List.length_append, frameL_length]; omega
  have htk : (frameL lsn.toNat body ++ r).take (body.length + 16) = frameL lsn.toNat body := List.take_left' (frameL_length _ _)
  have hv := getV4_of (frameL lsn.toNat body ++ r) (by rw [h4]; exact hb)
  have hf := (frame_iff (frameL lsn.toNat body ++ r) body.length lsn.toNat (by rw [← h4]; exact hv.2) hlen (lsn_lt hl)).1 (by rw [hbd, htk])
  unfold openB
  rw [if_pos (by rw [h4]; exact ⟨hl, hb, hlen, hf.1, hf.2⟩), h4, hbd]
/-- What is opened is such a frame. -/
theorem openB_some {b : List UInt8} {lsn : Int} {body : List UInt8} (h : openB b lsn = some body) : okLsn lsn = true ∧ okBody body.length = true ∧ ∃ r, b = frameL lsn.toNat body ++ r := by
  unfold openB at h
  split at h
  · rename_i hc
    obtain ⟨h1, h2, h3, h4, h5⟩ := hc
    injection h with h
    have hlen : body.length = getV 4 b := by rw [← h]; simp; omega
    have hf := (frame_iff b (getV 4 b) lsn.toNat (getV4_of b h2).2 h3 (lsn_lt h1)).2 ⟨h4, h5⟩
    refine ⟨h1, by rw [hlen]; exact h2, b.drop (getV 4 b + 16), ?_⟩
    rw [← h, hf, List.take_append_drop]
  · cases h

/-- What Open answers. -/
def openV (b : List UInt8) (lsn : Int) : List UInt8 := (openB b lsn).getD []
def openN (b : List UInt8) (lsn : Int) : Int := match openB b lsn with | some body => (body.length : Int) + 16 | none => 0
def openE (b : List UInt8) (lsn : Int) : Int := match openB b lsn with | some _ => 0 | none => 80
theorem open_none {b : List UInt8} {lsn : Int} (h : openB b lsn = none) : openV b lsn = [] ∧ openN b lsn = 0 ∧ openE b lsn = 80 := by simp [openV, openN, openE, h]
theorem open_some {b : List UInt8} {lsn : Int} {body : List UInt8} (h : openB b lsn = some body) : openV b lsn = body ∧ openN b lsn = (body.length : Int) + 16 ∧ openE b lsn = 0 := by simp [openV, openN, openE, h]
theorem openB_no {b : List UInt8} {lsn : Int} (h : ¬ (okLsn lsn = true ∧ okBody (getV 4 b) = true ∧ getV 4 b + 16 ≤ b.length ∧ leN ((b.drop 4).take 8) = lsn.toNat ∧ leN ((b.drop (getV 4 b + 12)).take 4) = crcM 0 (b.take (getV 4 b + 12)))) : openB b lsn = none := if_neg h
theorem openB_yes {b : List UInt8} {lsn : Int} (h : okLsn lsn = true ∧ okBody (getV 4 b) = true ∧ getV 4 b + 16 ≤ b.length ∧ leN ((b.drop 4).take 8) = lsn.toNat ∧ leN ((b.drop (getV 4 b + 12)).take 4) = crcM 0 (b.take (getV 4 b + 12))) : openB b lsn = some ((b.drop 12).take (getV 4 b)) := if_pos h
/-- A frame is opened under its own LSN alone. -/
theorem openB_lsn {lsn other : Int} {body r body' : List UInt8} (hl : okLsn lsn = true) (hb : okBody body.length = true) (h : openB (frameL lsn.toNat body ++ r) other = some body') : other = lsn := by
  unfold openB at h
  split at h
  · rename_i hc
    obtain ⟨h1, h2, h3, h4, h5⟩ := hc
    have e : ((frameL lsn.toNat body ++ r).drop 4).take 8 = leB 8 lsn.toNat := by
      rw [frameL, frontL]
      simp only [List.append_assoc]
      rw [List.drop_left' (by simp), List.take_left' (by simp)]
    rw [e, leN_leB, Nat.mod_eq_of_lt (lsn_lt hl)] at h4
    have i1 := (okLsn_iff _).1 hl
    have i2 := (okLsn_iff _).1 h1
    omega
  · cases h
theorem openB_other (lsn other : Int) (body r : List UInt8) (hl : okLsn lsn = true) (hb : okBody body.length = true) (h : other ≠ lsn) : openB (frameL lsn.toNat body ++ r) other = none := by
  cases hh : openB (frameL lsn.toNat body ++ r) other with
  | none => rfl
  | some b => exact absurd (openB_lsn hl hb hh) h
/-- No shorter beginning of a frame is one. -/
theorem openB_short {lsn : Int} {body : List UInt8} (hl : okLsn lsn = true) (hb : okBody body.length = true) (k : Nat) (hk : k < (frameL lsn.toNat body).length) : openB ((frameL lsn.toNat body).take k) lsn = none := by
  cases hh : openB ((frameL lsn.toNat body).take k) lsn with
  | none => rfl
  | some body' =>
    obtain ⟨_, hb', r, hr⟩ := openB_some hh
    have e : frameL lsn.toNat body = frameL lsn.toNat body' ++ (r ++ (frameL lsn.toNat body).drop k) := by
      rw [← List.append_assoc, ← hr, List.take_append_drop]
    have h1 := openB_frame lsn body [] hl hb
    have h2 := openB_frame lsn body' (r ++ (frameL lsn.toNat body).drop k) hl hb'
    rw [List.append_nil, e, h2] at h1
    obtain rfl := Option.some.inj h1
    have h3 := congrArg List.length hr
    simp only [List.length_take, List.length_append] at h3
    omega
end Go.Tm
