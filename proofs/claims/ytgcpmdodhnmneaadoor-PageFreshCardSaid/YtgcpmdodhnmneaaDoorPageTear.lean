import Derived.Test.YtgcpmdodhnmneaaDoorPageLaw
/- A torn page, in plain lists. -/
set_option linter.unusedVariables false
set_option linter.unusedSimpArgs false
namespace Go.Tm
open Go.RowKit

theorem parts_eq {a b : List UInt8} (k : Nat) (h1 : a.take k = b.take k) (h2 : a.drop k = b.drop k) : a = b := by
  rw [← List.take_append_drop k a, ← List.take_append_drop k b, h1, h2]
theorem tear_law {F C : List UInt8} (hl : C.length = F.length) (h24 : 24 ≤ F.length) (hf : frontN F = backN F) (hc : frontN C = backN C) (hne : frontN F ≠ frontN C) {k : Nat} (hk : k ≤ F.length)
    (h : frontN (F.take k ++ C.drop k) = backN (F.take k ++ C.drop k)) : F.take k ++ C.drop k = F ∨ F.take k ++ C.drop k = C := by
  have hkl : (F.take k).length = k := by rw [List.length_take]; omega
  have hT : (F.take k ++ C.drop k).length = F.length := by rw [List.length_append, hkl, List.length_drop]; omega
  have tk : ∀ m, m ≤ k → (F.take k ++ C.drop k).take m = F.take m := fun m hm => by
    rw [List.take_append_of_le_length (by omega), List.take_take, Nat.min_eq_left hm]
  have dr : ∀ m, k ≤ m → (F.take k ++ C.drop k).drop m = C.drop m := fun m hm => by
    rw [List.drop_append, List.drop_of_length_le (by omega), List.nil_append, hkl, List.drop_drop]
    congr 1
    omega
  obtain ⟨T, hTT⟩ : ∃ T, F.take k ++ C.drop k = T := ⟨_, rfl⟩
  rw [hTT] at hT tk dr h ⊢
  unfold frontN backN at h hf hc
  unfold frontN at hne
  rw [hT] at h
  rw [hl] at hc
  by_cases h8 : 8 ≤ k
  · rw [tk 8 h8] at h
    by_cases hN : k ≤ F.length - 8
    · rw [dr _ hN] at h
      omega
    · left
      have e := leN_inj (a := T.drop (F.length - 8)) (b := F.drop (F.length - 8)) (by rw [List.length_drop, List.length_drop, hT]) (by omega)
      exact parts_eq (F.length - 8) (tk _ (by omega)) e
  · right
    rw [dr (F.length - 8) (by omega)] at h
    have e := leN_inj (a := T.take 8) (b := C.take 8) (by rw [List.length_take, List.length_take, hT, hl]) (by omega)
    exact parts_eq 8 e (dr 8 (by omega))
theorem blank_zero {b : List UInt8} (h : blankB b = true) : b = zeroL b.length := by
  unfold blankB at h
  rw [List.all_eq_true] at h
  unfold zeroL
  exact List.eq_replicate_iff.2 ⟨rfl, fun x hx => by simpa using h x hx⟩
theorem zero_blank (n : Nat) : blankB (zeroL n) = true := by
  unfold blankB zeroL
  rw [List.all_eq_true]
  intro x hx
  simp [List.eq_of_mem_replicate hx]
theorem zero_front (n : Nat) : frontN (zeroL n) = 0 ∧ backN (zeroL n) = 0 := by
  have h : ∀ x ∈ zeroL n, x = 0 := fun x hx => List.eq_of_mem_replicate hx
  exact ⟨leN_zeros _ fun x hx => h x (List.mem_of_mem_take hx), leN_zeros _ fun x hx => h x (List.mem_of_mem_drop hx)⟩
theorem check_zero {b : List UInt8} {number slots : Int} (h : checkE b number slots = 0) : frontN b = backN b := by
  unfold checkE at h
  split at h
  · cases h
  · split at h
    · rename_i hb
      rw [blank_zero hb, (zero_front _).1, (zero_front _).2]
    · split at h
      · rename_i hr
        unfold rightB at hr
        simp only [Bool.and_eq_true, decide_eq_true_eq] at hr
        exact hr.1.1.1
      · cases h
theorem right_front {b : List UInt8} {number : Int} (hr : rightB b number = true) : frontN b = backN b := by
  unfold rightB at hr
  simp only [Bool.and_eq_true, decide_eq_true_eq] at hr
  exact hr.1.1.1
theorem right_check {b : List UInt8} {number slots : Int} (hok : checkOk b number slots = true) (hr : rightB b number = true) : checkE b number slots = 0 := by
  unfold checkE
  rw [hok, hr]
  cases blankB b <;> rfl
theorem zero_check {b : List UInt8} {number slots : Int} (hok : checkOk b number slots = true) (hb : blankB b = true) : checkE b number slots = 0 := by
  unfold checkE
  rw [hok, hb]
  rfl
/-- A torn page is right only if it is one of the two. -/
theorem torn_check {F C : List UInt8} {number slots : Int} (hl : C.length = F.length) (h24 : 24 ≤ F.length) (hF : checkE F number slots = 0) (hC : checkE C number slots = 0) (hne : frontN F ≠ frontN C) {k : Nat} (hk : k ≤ F.length) :
    (checkE (F.take k ++ C.drop k) number slots == 0) = (decide (F.take k ++ C.drop k = F) || decide (F.take k ++ C.drop k = C)) := by
  rw [Bool.eq_iff_iff, Bool.or_eq_true, decide_eq_true_eq, decide_eq_true_eq, beq_iff_eq]
  constructor
  · intro h
    exact tear_law hl h24 (check_zero hF) (check_zero hC) hne hk (check_zero h)
  · intro h
    rcases h with h | h
    · rw [h]; exact hF
    · rw [h]; exact hC
end Go.Tm
