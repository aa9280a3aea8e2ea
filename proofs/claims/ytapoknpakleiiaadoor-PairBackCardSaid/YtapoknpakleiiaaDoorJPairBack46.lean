import Derived.Test.YtapoknpakleiiaaDoorSlotPure
import Derived.Test.YtapoknpakleiiaaDoorJPairBack45
/- What the document says of right pages, in plain lists. -/
set_option linter.unusedVariables false
set_option linter.unusedSimpArgs false
namespace Go.Tm
open Go.RowKit

theorem setAt_split (l : List UInt8) (k : Nat) (b : UInt8) (hk : k < l.length) : l.set k b = l.take k ++ b :: l.drop (k + 1) := by
  rw [List.set_eq_take_append_cons_drop, if_pos hk]
theorem ownAt_split (l : List UInt8) (k : Nat) (hk : k < l.length) : l = l.take k ++ l.getD k 0 :: l.drop (k + 1) := by
  have e : l.getD k 0 = l[k] := by simp [List.getD, hk]
  rw [e, List.getElem_cons_drop hk, List.take_append_drop]
theorem leN_inj {a b : List UInt8} (hl : a.length = b.length) (h : leN a = leN b) : a = b := by
  rw [← leB_leN a, ← leB_leN b, hl, h]
theorem leN_zeros : ∀ l : List UInt8, (∀ x ∈ l, x = 0) → leN l = 0
  | [], _ => rfl
  | x :: r, h => by
    rw [leN, h x (by simp), leN_zeros r (fun y hy => h y (by simp [hy]))]
    rfl

/-- The parts of a stamped page. -/
theorem stamp_parts (b : List UInt8) (number lsn : Nat) (h : 24 ≤ b.length) :
    (stampP b number lsn).take 8 = leB 8 lsn ∧ ((stampP b number lsn).drop 8).take 4 = leB 4 number ∧ ((stampP b number lsn).drop 12).take 4 = leB 4 (sumP (stampP b number lsn)) ∧
    (stampP b number lsn).drop ((stampP b number lsn).length - 8) = leB 8 lsn := by
  have hl := stampP_length b number lsn h
  have hr := restP_length b lsn h
  have e1 : (stampP b number lsn).take 12 = leB 8 lsn ++ leB 4 number := by
    unfold stampP
    exact List.take_left' (by simp)
  have e2 : (stampP b number lsn).drop 16 = restP b lsn := by
    unfold stampP
    rw [← List.append_assoc]
    exact List.drop_left' (by simp)
  have e3 : (stampP b number lsn).drop 12 = leB 4 (crcM 0 (leB 8 lsn ++ leB 4 number ++ restP b lsn)) ++ restP b lsn := by
    unfold stampP
    exact List.drop_left' (by simp)
  refine ⟨?_, ?_, ?_, ?_⟩
  · have : (stampP b number lsn).take 8 = ((stampP b number lsn).take 12).take 8 := by rw [List.take_take]; rfl
    rw [this, e1]
    exact List.take_left' (by simp)
  · have : ((stampP b number lsn).drop 8).take 4 = ((stampP b number lsn).take 12).drop 8 := by rw [List.drop_take]
    rw [this, e1]
    exact List.drop_left' (by simp)
  · rw [e3]
    unfold sumP
    rw [e1, e2]
    exact List.take_left' (by simp)
  · have : (stampP b number lsn).drop ((stampP b number lsn).length - 8) = ((stampP b number lsn).drop 16).drop ((stampP b number lsn).length - 24) := by
      rw [List.drop_drop]
      congr 1
      omega
    rw [this, e2]
    unfold restP
    exact List.drop_left' (by simp; omega)
theorem stamp_right {b : List UInt8} {number lsn : Nat} (h : 24 ≤ b.length) (hn : number < 16) (hl : lsn ≤ 1152921504606846976) : rightB (stampP b number lsn) (number : Int) = true ∧ frontN (stampP b number lsn) = lsn := by
  obtain ⟨p1, p2, p3, p4⟩ := stamp_parts b number lsn h
  have f1 : frontN (stampP b number lsn) = lsn := by
    unfold frontN
    rw [p1, leN_leB]
    exact Nat.mod_eq_of_lt (by omega)
  have f2 : backN (stampP b number lsn) = lsn := by
    unfold backN
    rw [p4, leN_leB]
    exact Nat.mod_eq_of_lt (by omega)
  have f3 : numN (stampP b number lsn) = number := by
    unfold numN
    rw [p2, leN_leB]
    exact Nat.mod_eq_of_lt (by omega)
  have f4 : toldN (stampP b number lsn) = sumP (stampP b number lsn) := by
    unfold toldN
    rw [p3, leN_leB]
    exact Nat.mod_eq_of_lt (crcM_lt _ _ (by omega))
  refine ⟨?_, f1⟩
  unfold rightB
  rw [f1, f2, f3, f4, decide_eq_true rfl, decide_eq_true hl, decide_eq_true rfl, decide_eq_true rfl]
  rfl
/-- One byte turned: the sum is not told. -/
theorem turned_sum {F : List UInt8} (hF : 24 ≤ F.length) (ht : toldN F = sumP F) {k : Nat} (hk : k < F.length) {v : UInt8} (hv : v ≠ F.getD k 0) : toldN (F.set k v) ≠ sumP (F.set k v) := by
  intro h
  by_cases hin : 12 ≤ k ∧ k < 16
  · have e : sumP (F.set k v) = sumP F := by
      unfold sumP
      rw [List.take_set_of_le (by omega), List.drop_set_of_lt (by omega)]
    rw [e, ← ht] at h
    unfold toldN at h
    have h2 := leN_inj (by simp) h
    have h3 := congrArg (fun l => l.getD (k - 12) 0) h2
    simp only [List.getD_eq_getElem?_getD, List.getElem?_take, List.getElem?_drop] at h3
    rw [if_pos (by omega), if_pos (by omega), show 12 + (k - 12) = k by omega, List.getElem?_set_self hk, ← List.getD_eq_getElem?_getD] at h3
    exact hv h3
  · have e : toldN (F.set k v) = toldN F := by
      unfold toldN
      congr 1
      apply List.ext_getElem?
      intro x
      rw [List.getElem?_take, List.getElem?_take]
      split
      · rw [List.getElem?_drop, List.getElem?_drop, List.getElem?_set_ne (by omega)]
      · rfl
    rw [e, ht] at h
    unfold sumP at h
    by_cases hlo : k < 12
    · rw [List.drop_set_of_lt (by omega), List.take_set, setAt_split _ k v (by rw [List.length_take]; omega)] at h
      have hs := ownAt_split (F.take 12) k (by rw [List.length_take]; omega)
      have hg : (F.take 12).getD k 0 = F.getD k 0 := by
        rw [List.getD_eq_getElem?_getD, List.getElem?_take, if_pos hlo, List.getD_eq_getElem?_getD]
      rw [hg] at hs
      generalize hX : (F.take 12).take k = X at h hs
      generalize hY : (F.take 12).drop (k + 1) = Y at h hs
      rw [hs, List.append_assoc, List.append_assoc, List.cons_append, List.cons_append] at h
      exact hv (crcM_one _ _ _ _ h).symm
    · have hk16 : 16 ≤ k := by omega
      rw [List.take_set_of_le (by omega), List.drop_set, if_neg (by omega)] at h
      have hs := ownAt_split (F.drop 16) (k - 16) (by rw [List.length_drop]; omega)
      have hg : (F.drop 16).getD (k - 16) 0 = F.getD k 0 := by
        rw [List.getD_eq_getElem?_getD, List.getElem?_drop, show 16 + (k - 16) = k by omega, List.getD_eq_getElem?_getD]
      rw [setAt_split _ (k - 16) v (by rw [List.length_drop]; omega)] at h
      rw [hg] at hs
      generalize hX : (F.drop 16).take (k - 16) = X at h hs
      generalize hY : (F.drop 16).drop (k - 16 + 1) = Y at h hs
      rw [hs, ← List.append_assoc, ← List.append_assoc] at h
      exact hv (crcM_one _ _ _ _ h).symm

/-- A right page that is not blank, with one byte turned, is none. -/
theorem turned_check {F : List UInt8} {number slots : Int} (hF : 24 ≤ F.length) (hok : checkOk F number slots = true) (hr : rightB F number = true) (h1 : 1 ≤ frontN F) {k : Nat} (hk : k < F.length) {v : UInt8} (hv : v ≠ F.getD k 0) :
    checkE F number slots = 0 ∧ checkV F number slots = (frontN F : Int) ∧ checkE (F.set k v) number slots = 40 := by
  have hrr := hr
  unfold rightB at hrr
  simp only [Bool.and_eq_true, decide_eq_true_eq] at hrr
  obtain ⟨⟨⟨q1, q2⟩, q3⟩, q4⟩ := hrr
  have hbl : ∀ G : List UInt8, blankB G = true → ∀ x ∈ G, x = 0 := fun G hG x hx => by
    unfold blankB at hG
    rw [List.all_eq_true] at hG
    simpa using hG x hx
  have hnb : blankB F = false := by
    cases hb : blankB F with
    | false => rfl
    | true =>
      have := leN_zeros (F.take 8) (fun x hx => hbl F hb x (List.mem_of_mem_take hx))
      unfold frontN at h1
      omega
  have hok2 : checkOk (F.set k v) number slots = true := by
    unfold checkOk at hok ⊢
    rw [List.length_set]
    exact hok
  have hnb2 : blankB (F.set k v) = false := by
    cases hb : blankB (F.set k v) with
    | false => rfl
    | true =>
      exfalso
      by_cases h8 : k < 8
      · have h2 := leN_zeros ((F.set k v).drop (F.length - 8)) (fun x hx => hbl _ hb x (List.mem_of_mem_drop hx))
        rw [List.drop_set_of_lt (by omega)] at h2
        have : backN F = 0 := h2
        omega
      · have h2 := leN_zeros ((F.set k v).take 8) (fun x hx => hbl _ hb x (List.mem_of_mem_take hx))
        rw [List.take_set_of_le (by omega)] at h2
        have : frontN F = 0 := h2
        omega
  have hnr : rightB (F.set k v) number = false := by
    have ht := turned_sum hF q4 hk hv
    unfold rightB
    rw [decide_eq_false ht, Bool.and_false]
  refine ⟨?_, ?_, ?_⟩
  · unfold checkE
    rw [hok, hnb, hr]
    rfl
  · unfold checkV
    rw [hok, hnb, hr]
    rfl
  · unfold checkE
    rw [hok2, hnb2, hnr]
    rfl
/-- The page of a plan. -/
theorem stamped_page {n : Nat} {b : List UInt8} (h : IsPage n b) {number lsn : Int} (n0 : 0 ≤ number) (n1 : number < 16) (l0 : 1 ≤ lsn) (l1 : lsn ≤ 1152921504606846976) :
    checkOk (stampP b number.toNat lsn.toNat) number n = true ∧ rightB (stampP b number.toNat lsn.toNat) number = true ∧ frontN (stampP b number.toNat lsn.toNat) = lsn.toNat ∧ (stampP b number.toNat lsn.toNat).length = 24 + 16 * n := by
  have h24 : 24 ≤ b.length := by rw [h.len]; omega
  have hl : (stampP b number.toNat lsn.toNat).length = 24 + 16 * n := by rw [stampP_length _ _ _ h24]; exact h.len
  obtain ⟨r1, r2⟩ := stamp_right (b := b) (number := number.toNat) (lsn := lsn.toNat) h24 (by omega) (by omega)
  rw [Int.toNat_of_nonneg n0] at r1
  have hb := bytesP_ok (n : Int) (by have := h.lo; omega) (by have := h.hi; omega)
  refine ⟨?_, r1, r2, hl⟩
  unfold checkOk
  rw [hl, hb, (okNum_iff number).2 ⟨n0, n1⟩, decide_eq_true (by omega), decide_eq_true (by omega)]
  rfl
end Go.Tm
