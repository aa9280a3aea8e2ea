import Derived.Test.YtapoknpakleiiaaDoorPairPure
import Derived.Test.YtapoknpakleiiaaDoorJPairBack46
import Derived.Test.YtapoknpakleiiaaDoorJPairBack27
/- PairBack, in plain lists. -/
set_option linter.unusedVariables false
set_option linter.unusedSimpArgs false
namespace Go.Tm
/-- A page that was stamped, a number, its pair. -/
structure Bk (F : List UInt8) (s n l : Nat) (c p : List UInt8) : Prop where
  page : IsPage s F
  n1 : n < 16
  l0 : 1 ≤ l
  l1 : l ≤ 1152921504606846976
  ec : c = stampP F n l
  ep : p = pairL l n c
section
variable {F c p : List UInt8} {s n l : Nat}
theorem Bk.clen (h : Bk F s n l c p) : c.length = 24 + 16 * s := by rw [h.ec, stampP_length _ _ _ (by have := h.page.len; omega)]; exact h.page.len
theorem Bk.plen (h : Bk F s n l c p) : p.length = 40 + 16 * s := by rw [h.ep, pairL_length, h.clen]; omega
theorem Bk.slots (h : Bk F s n l c p) : slotsP c.length = s := by rw [h.clen]; exact slotsP_of s h.page.lo h.page.hi
theorem Bk.bytes (h : Bk F s n l c p) : bytesP (s : Int) = 24 + 16 * s := bytesP_ok _ (by have := h.page.lo; omega) (by have := h.page.hi; omega)
theorem Bk.stamp (h : Bk F s n l c p) : stampE F n l = 0 ∧ stampV F n l = c := by
  have e : stampE F n l = 0 := by
    unfold stampE
    rw [if_neg, if_neg (by have := h.l1; omega)]
    rintro (h1 | h1)
    · rw [h.page.slots] at h1; have := h.page.lo; omega
    · rw [(okNum_iff _).2 ⟨by omega, by have := h.n1; omega⟩] at h1; cases h1
  refine ⟨e, ?_⟩
  unfold stampV
  rw [if_pos e, h.ec, Int.toNat_natCast, Int.toNat_natCast]
theorem Bk.right (h : Bk F s n l c p) : checkOk c n s = true ∧ rightB c n = true ∧ frontN c = l := by
  have := stamped_page h.page (number := n) (lsn := l) (by omega) (by have := h.n1; omega) (by have := h.l0; omega) (by have := h.l1; omega)
  rw [Int.toNat_natCast, Int.toNat_natCast, ← h.ec] at this
  exact ⟨this.1, this.2.1, this.2.2.1⟩
theorem blank_front {b : List UInt8} (h : blankB b = true) : frontN b = 0 := by
  unfold frontN
  refine leN_zeros _ fun x hx => ?_
  have := List.all_eq_true.1 h x (List.mem_of_mem_take hx)
  simpa using this
theorem Bk.blank (h : Bk F s n l c p) : blankB c = false := by
  rw [← Bool.not_eq_true]
  intro hb
  have := blank_front hb
  rw [h.right.2.2] at this
  have := h.l0
  omega
theorem Bk.check (h : Bk F s n l c p) : checkE c n s = 0 ∧ checkV c n s = l := by
  obtain ⟨h1, h2, h3⟩ := h.right
  unfold checkE checkV
  rw [h1, h.blank, h2, h3]
  simp
theorem Bk.check_no (h : Bk F s n l c p) {m : Int} (hm : m ≠ n) (k : Int) : checkE c m k = 40 := by
  unfold checkE
  split
  · rfl
  · rw [h.blank, if_neg (by decide)]
    have hr := h.right.2.1
    have : rightB c m = false := by
      rw [← Bool.not_eq_true]
      intro hb
      simp only [rightB, Bool.and_eq_true, decide_eq_true_eq] at hb hr
      omega
    rw [this]
    rfl
theorem Bk.made (h : Bk F s n l c p) : pmE n c = 0 ∧ pmV n c = p := by
  obtain ⟨h1, h2⟩ := h.check
  have e : pmE n c = 0 := by
    unfold pmE
    rw [h.slots, h1, h2, if_neg (by have := h.l0; omega)]
  refine ⟨e, ?_⟩
  unfold pmV
  rw [if_pos e, h.slots, h2, h.ep, Int.toNat_natCast, Int.toNat_natCast]
theorem pairL_parts (l n : Nat) (c : List UInt8) : (pairL l n c).take 8 = leB 8 l ∧ ((pairL l n c).drop 8).take 4 = leB 4 n ∧ (pairL l n c).drop 16 = c := by
  unfold pairL
  refine ⟨List.take_left' (by simp), ?_, ?_⟩
  · rw [List.drop_left' (by simp)]
    exact List.take_left' (by simp)
  · rw [← List.append_assoc, ← List.append_assoc]
    exact List.drop_left' (by simp)
theorem Bk.parts (h : Bk F s n l c p) : pLsn p = l ∧ pNum p = n ∧ pPage p = c := by
  obtain ⟨h1, h2, h3⟩ := pairL_parts l n c
  rw [← h.ep] at h1 h2 h3
  have hl := h.plen
  have e1 : leN (p.take 8) = l := by rw [h1, leN_leB]; exact Nat.mod_eq_of_lt (by have := h.l1; omega)
  refine ⟨?_, ?_, h3⟩
  · unfold pLsn
    rw [if_neg (by omega), e1, if_neg (by have := h.l1; omega)]
  · unfold pNum
    rw [if_neg (by omega), h2, leN_leB]
    exact Nat.mod_eq_of_lt (by have := h.n1; omega)
theorem ppE_no {b : List UInt8} {pages slots : Int} (h : checkE (pPage b) (pNum b) slots ≠ 0 ∨ pages ≤ (pNum b : Int) ∨ checkV (pPage b) (pNum b) slots ≠ (pLsn b : Int)) : ppE b pages slots = 130 := by
  unfold ppE
  rw [if_neg]
  intro hk
  simp only [ppOk, Bool.and_eq_true, decide_eq_true_eq] at hk
  omega
theorem Bk.parse (h : Bk F s n l c p) {m : Int} (hm : (n : Int) < m) : ppE p m s = 0 ∧ ppN p m s = n ∧ ppV p m s = c := by
  obtain ⟨h1, h2, h3⟩ := h.parts
  obtain ⟨h4, h5⟩ := h.check
  have e : ppOk p m s = true := by
    simp only [ppOk, Bool.and_eq_true, decide_eq_true_eq]
    rw [h1, h2, h3, h4, h5]
    exact ⟨⟨⟨rfl, hm⟩, by have := h.l0; omega⟩, rfl⟩
  unfold ppE ppN ppV
  rw [if_pos e, if_pos e, if_pos e]
  exact ⟨rfl, h2, h3⟩
theorem check_len {b : List UInt8} {m k : Int} (h : (b.length : Int) ≠ bytesP k) : checkE b m k ≠ 0 := fun e => h (checkOk_num e).2.2.1
theorem Bk.more (h : Bk F s n l c p) : ppE (p ++ [0]) 16 s = 130 := by
  refine ppE_no (.inl (check_len ?_))
  have hl := h.plen
  unfold pPage
  rw [List.length_drop, List.length_append, hl, h.bytes]
  simp
  omega
theorem Bk.less (h : Bk F s n l c p) : ppE (p.take (p.length - 1)) 16 s = 130 := by
  refine ppE_no (.inl (check_len ?_))
  have hl := h.plen
  unfold pPage
  rw [List.length_drop, List.length_take, hl, h.bytes]
  omega
theorem Bk.few (h : Bk F s n l c p) : ppE p n s = 130 := by
  refine ppE_no (.inr (.inl ?_))
  rw [h.parts.2.1]
  omega
theorem Bk.other (h : Bk F s n l c p) {k : Int} (hk : k ≠ s) : ppE p 16 k = 130 := by
  refine ppE_no (.inl (check_len ?_))
  rw [h.parts.2.2, h.clen]
  unfold bytesP
  split <;> omega
theorem Bk.zero (h : Bk F s n l c p) : stampE F n 0 = 0 ∧ (stampV F n 0).length = 24 + 16 * s ∧ pmE n (stampV F n 0) = 40 := by
  have e : stampE F n 0 = 0 := by
    unfold stampE
    rw [if_neg, if_neg (by omega)]
    rintro (h1 | h1)
    · rw [h.page.slots] at h1; have := h.page.lo; omega
    · rw [(okNum_iff _).2 ⟨by omega, by have := h.n1; omega⟩] at h1; cases h1
  have e2 : stampV F n 0 = stampP F n 0 := by unfold stampV; rw [if_pos e]; simp
  have h24 : 24 ≤ F.length := by have := h.page.len; omega
  have hf : frontN (stampP F n 0) = 0 := (stamp_right h24 h.n1 (by omega)).2
  refine ⟨e, by rw [e2, stampP_length _ _ _ h24]; exact h.page.len, ?_⟩
  rw [e2]
  unfold pmE
  rw [if_pos]
  refine .inr ?_
  unfold checkV
  rw [hf]
  split
  · omega
  · split
    · omega
    · split <;> simp
theorem Bk.wrong (h : Bk F s n l c p) : pmE (((n + 1) % 16 : Nat) : Int) c = 40 := by
  unfold pmE
  rw [if_pos]
  refine .inl ?_
  rw [h.check_no (by have := h.n1; omega)]
  decide
theorem setAt_same (p : List UInt8) (k : Nat) (hk : k < p.length) : p.set k (p.getD k 0) = p := by
  refine List.ext_getElem (by simp) fun i h1 h2 => ?_
  rw [List.getElem_set]
  split
  · rename_i e
    subst e
    simp [List.getD, List.getElem?_eq_getElem hk]
  · rfl
theorem Bk.turned (h : Bk F s n l c p) {k : Nat} (hk : k < 12) {v : UInt8} (hv : v ≠ p.getD k 0) : ppE (p.set k v) 16 s = 130 := by
  have hl := h.plen
  obtain ⟨q1, q2, q3⟩ := pairL_parts l n c
  rw [← h.ep] at q1 q2 q3
  have hpg : pPage (p.set k v) = c := by
    unfold pPage
    rw [List.drop_set_of_lt (by omega)]
    exact q3
  by_cases h8 : k < 8
  · have hn : pNum (p.set k v) = n := by
      have := h.parts.2.1
      unfold pNum at this ⊢
      rw [if_neg (by omega)] at this
      rw [List.length_set, if_neg (by omega), List.drop_set_of_lt (by omega)]
      exact this
    refine ppE_no (.inr (.inr ?_))
    rw [hpg, hn, h.check.2]
    unfold pLsn
    rw [List.length_set, if_neg (by omega)]
    split
    · have := h.l0; omega
    · intro e
      have e1 : leN ((p.set k v).take 8) = l := by omega
      have e2 : leN (p.take 8) = l := by rw [q1, leN_leB]; exact Nat.mod_eq_of_lt (by have := h.l1; omega)
      have e3 := leN_inj (by rw [List.length_take, List.length_take, List.length_set]) (e1.trans e2.symm)
      have e4 := congrArg (fun x => x.getD k 0) e3
      simp only [List.getD, List.getElem?_take, if_pos h8, List.getElem?_set_self (show k < p.length by omega)] at e4
      exact hv (by simpa [List.getD] using e4)
  · refine ppE_no (.inl ?_)
    rw [hpg, h.check_no]
    · decide
    · intro e
      unfold pNum at e
      rw [List.length_set, if_neg (by omega)] at e
      have e1 : leN (((p.set k v).drop 8).take 4) = n := by omega
      have e2 : leN ((p.drop 8).take 4) = n := by rw [q2, leN_leB]; exact Nat.mod_eq_of_lt (by have := h.n1; omega)
      have e3 := leN_inj (by simp [List.length_take, List.length_drop, List.length_set]) (e1.trans e2.symm)
      have e4 := congrArg (fun x => x.getD (k - 8) 0) e3
      simp only [List.getD, List.getElem?_take, List.getElem?_drop, if_pos (show k - 8 < 4 by omega), show 8 + (k - 8) = k by omega, List.getElem?_set_self (show k < p.length by omega)] at e4
      exact hv (by simpa [List.getD] using e4)
theorem Bk.turnedE (h : Bk F s n l c p) {k : Nat} (hk : k < 12) (v : UInt8) : ppE (p.set k v) 16 s = if v = p.getD k 0 then 0 else 130 := by
  split
  · rename_i e
    subst e
    rw [setAt_same p k (by have := h.plen; omega)]
    exact (h.parse (by have := h.n1; omega)).1
  · rename_i e
    exact h.turned hk e
end
/-- Bytes of just the length of a page of so many slots. -/
def fitL (b : List UInt8) (s : Nat) : List UInt8 := b.take (24 + 16 * s) ++ zeroL (24 + 16 * s - b.length)
theorem fitL_length (b : List UInt8) (s : Nat) : (fitL b s).length = 24 + 16 * s := by
  unfold fitL
  rw [List.length_append, List.length_take, zeroL_length]
  omega
theorem fitL_page (b : List UInt8) {s : Nat} (h1 : 1 ≤ s) (h8 : s ≤ 8) : IsPage s (fitL b s) := ⟨h1, h8, fitL_length b s⟩
/-- The first k bytes of p, zeros behind, Z in all. -/
def fitK (p : List UInt8) (Z k : Nat) : List UInt8 := p.take k ++ zeroL (Z - k)
theorem fitK_zero (p : List UInt8) (Z : Nat) : fitK p Z 0 = zeroL Z := by simp [fitK]
theorem fitK_length (p : List UInt8) (Z k : Nat) (h : k ≤ Z) (hp : k ≤ p.length) : (fitK p Z k).length = Z := by
  unfold fitK
  rw [List.length_append, List.length_take, zeroL_length]
  omega
theorem fitK_step (p : List UInt8) (Z k : Nat) (X : UInt8) (hk : k < Z) (hp : k < p.length) (hX : p.getD k 0 = X) : (fitK p Z k).set k X = fitK p Z (k + 1) := by
  unfold fitK
  have h1 : Z - k = (Z - (k + 1)) + 1 := by omega
  have h2 : p.take (k + 1) = p.take k ++ [X] := by
    rw [List.take_add_one]
    congr 1
    rw [List.getElem?_eq_getElem (by omega)]
    rw [List.getD_eq_getElem?_getD, List.getElem?_eq_getElem (by omega)] at hX
    rw [← hX]
    rfl
  rw [h1, h2]
  show (p.take k ++ (0 : UInt8) :: zeroL (Z - (k + 1))).set k X = _
  rw [set_mid _ _ _ _ (by rw [List.length_take]; omega)]
  simp
theorem fitK_end (p : List UInt8) (s : Nat) {n : Nat} (hn : n = p.length) : fitL p s = fitK p (24 + 16 * s) (min (24 + 16 * s) n) := by
  subst hn
  unfold fitL fitK
  by_cases h : 24 + 16 * s ≤ p.length
  · rw [Nat.min_eq_left h, Nat.sub_eq_zero_of_le h, Nat.sub_self]
  · rw [Nat.min_eq_right (by omega), List.take_of_length_le (by omega), List.take_of_length_le (by omega)]
end Go.Tm
