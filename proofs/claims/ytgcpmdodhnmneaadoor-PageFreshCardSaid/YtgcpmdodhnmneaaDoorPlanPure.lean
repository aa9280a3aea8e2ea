import Derived.Test.YtgcpmdodhnmneaaDoorBuilt
import Derived.Test.YtgcpmdodhnmneaaDoorPageTear
import Derived.Test.YtgcpmdodhnmneaaDoorEnts
/- What a plan's page holds. -/
set_option linter.unusedVariables false
set_option linter.unusedSimpArgs false
namespace Go.Proofs.YtgcpmdodhnmneaaDoor
open Go.RowKit Go.Tm
set_option maxHeartbeats 400000
set_option maxRecDepth 100000

theorem stamp_get (b : List UInt8) (number lsn : Nat) (h : 24 ≤ b.length) {x : Nat} (hx : 16 ≤ x) (hy : x < b.length - 8) : (stampP b number lsn)[x]? = b[x]? := by
  rw [← stamped_ref b number lsn h]
  have l1 : (layL b 0 (leB 8 lsn)).length = b.length := layL_length _ _ _ (by rw [leB_length]; omega)
  obtain ⟨b1, hb1⟩ : ∃ b1, layL b 0 (leB 8 lsn) = b1 := ⟨_, rfl⟩
  have g1 : b1[x]? = b[x]? := by rw [← hb1, layL_get? _ _ _ (by rw [leB_length]; omega), leB_length, if_neg (by omega)]
  rw [hb1] at l1 ⊢
  have l2 : (layL b1 8 (leB 4 number)).length = b.length := (layL_length _ _ _ (by rw [leB_length]; omega)).trans l1
  obtain ⟨b2, hb2⟩ : ∃ b2, layL b1 8 (leB 4 number) = b2 := ⟨_, rfl⟩
  have g2 : b2[x]? = b[x]? := by rw [← hb2, layL_get? _ _ _ (by rw [leB_length]; omega), leB_length, if_neg (by omega), g1]
  rw [hb2] at l2 ⊢
  have l3 : (layL b2 (b.length - 8) (leB 8 lsn)).length = b.length := (layL_length _ _ _ (by rw [leB_length]; omega)).trans l2
  obtain ⟨b3, hb3⟩ : ∃ b3, layL b2 (b.length - 8) (leB 8 lsn) = b3 := ⟨_, rfl⟩
  have g3 : b3[x]? = b[x]? := by rw [← hb3, layL_get? _ _ _ (by rw [leB_length]; omega), leB_length, if_neg (by omega), g2]
  rw [hb3] at l3 ⊢
  rw [layL_get? _ _ _ (by rw [leB_length]; omega), leB_length, if_neg (by omega), g3]
theorem stamp_row (b : List UInt8) (number lsn : Nat) {j : Nat} (h : 40 + 16 * j ≤ b.length) : rowP (stampP b number lsn) j = rowP b j := by
  apply List.ext_getElem?
  intro x
  rw [rowP_get?, rowP_get?]
  split
  · exact stamp_get b number lsn (by omega) (by omega) (by omega)
  · rfl

/-- What slot j holds: by the plan, and by the page. -/
def RowIs (n : Nat) (s : List UInt8 × List (Int × Int) × List Bool) (j : Nat) : Prop :=
  (s.2.2[j]? = some true ∧ ∃ k v : Int, s.2.1[j]? = some (k, v) ∧ 0 ≤ k ∧ k < 4294967296 ∧ 0 ≤ v ∧ v < 18446744073709551616 ∧ rowP s.1 j = slotRow k.toNat v.toNat) ∨
    (s.2.2[j]? = some false ∧ s.2.1[j]? = some (0, 0) ∧ rowP s.1 j = zeroL 16)
theorem rowIs_step {n : Nat} {s : List UInt8 × List (Int × Int) × List Bool} (h : PlanOk n s) (hr : ∀ j, j < n → RowIs n s j) (x : Int × Bool × Int × Int) (h0 : 0 ≤ x.2.2.2) (h1 : x.2.2.2 < 18446744073709551616) : ∀ j, j < n → RowIs n (planStep n s x) j := by
  intro j hj
  have hn := h.page.lo
  have e1 := Int.emod_nonneg x.1 (b := (n : Int)) (by omega)
  have e2 := Int.emod_lt_of_pos x.1 (b := (n : Int)) (by omega)
  obtain ⟨k, hk⟩ : ∃ k, (x.1 % (n : Int)).toNat = k := ⟨_, rfl⟩
  have hkn : k < n := by omega
  have he := h.es
  have hu := h.us
  have hf := h.page.fits hkn
  unfold planStep
  rw [hk]
  by_cases hfr : x.2.1 = true
  · rw [if_pos hfr]
    by_cases hjk : k = j
    · subst hjk
      right
      refine ⟨?_, ?_, rowP_same _ _ _ (zeroL_length 16) hf⟩
      · show (s.2.2.set k false)[k]? = _
        rw [List.getElem?_set_self (by omega)]
      · show (s.2.1.set k (0, 0))[k]? = _
        rw [List.getElem?_set_self (by omega)]
    · have r := rowP_other s.1 (zeroL 16) k j (zeroL_length 16) hf hjk
      rcases hr j hj with ⟨a, ky, v, b, c1, c2, c3, c4, d⟩ | ⟨a, b, d⟩
      · exact .inl ⟨by show (s.2.2.set k false)[j]? = _; rw [List.getElem?_set_ne hjk, a], ky, v, by show (s.2.1.set k (0, 0))[j]? = _; rw [List.getElem?_set_ne hjk, b], c1, c2, c3, c4, r.trans d⟩
      · exact .inr ⟨by show (s.2.2.set k false)[j]? = _; rw [List.getElem?_set_ne hjk, a], by show (s.2.1.set k (0, 0))[j]? = _; rw [List.getElem?_set_ne hjk, b], r.trans d⟩
  · rw [if_neg hfr]
    by_cases hjk : k = j
    · subst hjk
      left
      refine ⟨?_, x.2.2.1 % 4294967296, x.2.2.2, ?_, by omega, by omega, h0, h1, rowP_same _ _ _ (slotRow_length _ _) hf⟩
      · show (s.2.2.set k true)[k]? = _
        rw [List.getElem?_set_self (by omega)]
      · show (s.2.1.set k _)[k]? = _
        rw [List.getElem?_set_self (by omega)]
    · have r := rowP_other s.1 (slotRow (x.2.2.1 % 4294967296).toNat x.2.2.2.toNat) k j (slotRow_length _ _) hf hjk
      rcases hr j hj with ⟨a, ky, v, b, c1, c2, c3, c4, d⟩ | ⟨a, b, d⟩
      · exact .inl ⟨by show (s.2.2.set k true)[j]? = _; rw [List.getElem?_set_ne hjk, a], ky, v, by show (s.2.1.set k _)[j]? = _; rw [List.getElem?_set_ne hjk, b], c1, c2, c3, c4, r.trans d⟩
      · exact .inr ⟨by show (s.2.2.set k true)[j]? = _; rw [List.getElem?_set_ne hjk, a], by show (s.2.1.set k _)[j]? = _; rw [List.getElem?_set_ne hjk, b], r.trans d⟩
theorem planS_rows {n : Nat} (h1 : 1 ≤ n) (h8 : n ≤ 8) {nu : Int} (u0 : 0 ≤ nu) (u1 : nu < 16) (l : List (Int × Bool × Int × Int)) (hv : ∀ x ∈ l, 0 ≤ x.2.2.2 ∧ x.2.2.2 < 18446744073709551616) :
    PlanOk n (planS nu n l) ∧ ∀ j, j < n → RowIs n (planS nu n l) j := by
  obtain ⟨mE, mP, mV⟩ := make_page u0 u1 h1 h8
  unfold planS
  have : ∀ (q : List (Int × Bool × Int × Int)) s, (∀ x ∈ q, 0 ≤ x.2.2.2 ∧ x.2.2.2 < 18446744073709551616) → PlanOk n s → (∀ j, j < n → RowIs n s j) → PlanOk n (q.foldl (planStep n) s) ∧ ∀ j, j < n → RowIs n (q.foldl (planStep n) s) j := by
    intro q
    induction q with
    | nil => exact fun s _ h hr => ⟨h, hr⟩
    | cons x r ih =>
      intro s hq h hr
      have hx := hq x (List.mem_cons_self)
      exact ih _ (fun y hy => hq y (List.mem_cons_of_mem _ hy)) (planStep_ok h x) (rowIs_step h hr x hx.1 hx.2)
  refine this l _ hv ⟨mP, by simp, by simp⟩ fun j hj => .inr ⟨by rw [List.getElem?_replicate, if_pos hj], by rw [List.getElem?_replicate, if_pos hj], ?_⟩
  show rowP (makeV nu n) j = _
  rw [mV, stamp_row _ _ _ (by rw [zeroL_length]; omega), rowP_zero _ _ (by omega)]

/-- Slot j of the page F is told so. -/
structure SlotIs (F : List UInt8) (es : List (Int × Int)) (us : List Bool) (j : Nat) (u : Bool) (k v : Int) : Prop where
  place : placeE F (j : Int) = 0
  used : usedB F (j : Int) = u
  key : slotK F (j : Int) = k
  val : slotV F (j : Int) = v
  ue : us[j]? = some u
  ee : es[j]? = some (k, v)
  kn : u = true → (keyN F j : Int) = k
  vn : u = true → (valN F j : Int) = v
theorem plan_slot {n : Nat} (h1 : 1 ≤ n) (h8 : n ≤ 8) {nu ls : Int} (u0 : 0 ≤ nu) (u1 : nu < 16) (l : List (Int × Bool × Int × Int)) (hv : ∀ x ∈ l, 0 ≤ x.2.2.2 ∧ x.2.2.2 < 18446744073709551616) {j : Nat} (hj : j < n) :
    ∃ u k v, SlotIs (stampP (planS nu n l).1 nu.toNat ls.toNat) (planS nu n l).2.1 (planS nu n l).2.2 j u k v := by
  obtain ⟨ho, hr⟩ := planS_rows h1 h8 u0 u1 l hv
  have hlen := ho.page.len
  have hFl : (stampP (planS nu n l).1 nu.toNat ls.toNat).length = 24 + 16 * n := by rw [stampP_length _ _ _ (by omega)]; exact hlen
  have hF : IsPage n (stampP (planS nu n l).1 nu.toNat ls.toNat) := ⟨h1, h8, hFl⟩
  have hrow := stamp_row (planS nu n l).1 nu.toNat ls.toNat (j := j) (by omega)
  have hpl : placeE (stampP (planS nu n l).1 nu.toNat ls.toNat) (j : Int) = 0 := by
    unfold placeE
    rw [hF.slots, if_neg (by omega), if_neg (by omega)]
  obtain ⟨F, hFF⟩ : ∃ F, stampP (planS nu n l).1 nu.toNat ls.toNat = F := ⟨_, rfl⟩
  rw [hFF] at hF hrow hpl ⊢
  have hub := usedB_row (b := F) (j := j) (by rw [hF.slots]; exact hj)
  rw [hrow] at hub
  have hkn := keyN_row F j
  have hvn := valN_row F j
  rw [hrow] at hkn hvn
  rcases hr j hj with ⟨a, k, v, b, c1, c2, c3, c4, d⟩ | ⟨a, b, d⟩
  · rw [d, usedR_slot] at hub
    rw [d, keyR_slot _ _ (by omega)] at hkn
    rw [d, valR_slot _ _ (by omega)] at hvn
    refine ⟨true, k, v, ⟨hpl, hub, ?_, ?_, a, b, fun _ => by omega, fun _ => by omega⟩⟩
    · unfold slotK; rw [if_pos hub, Int.toNat_natCast]; omega
    · unfold slotV; rw [if_pos hub, Int.toNat_natCast]; omega
  · rw [d, usedR_zero] at hub
    refine ⟨false, 0, 0, ⟨hpl, hub, ?_, ?_, a, b, fun h => (by cases h), fun h => (by cases h)⟩⟩
    · unfold slotK; rw [if_neg (by rw [hub]; decide)]
    · unfold slotV; rw [if_neg (by rw [hub]; decide)]

/-- The i-th used slot of a page is where it stands among them. -/
theorem ent_at {F : List UInt8} {n i : Nat} (hi : i < n) (hu : usedB F (i : Int) = true) : (entL F (List.range n))[(entL F (List.range i)).length]? = some (i, keyN F i, valN F i) := by
  obtain ⟨d, rfl⟩ : ∃ d, n = i + (d + 1) := ⟨n - i - 1, by omega⟩
  rw [List.range_add, List.range_succ_eq_map, List.map_cons, Nat.add_zero]
  unfold entL
  rw [List.filterMap_append, List.filterMap_cons_some (by rw [if_pos hu]), List.getElem?_append_right (Nat.le_refl _), Nat.sub_self, List.getElem?_cons_zero]
theorem ent_succ (F : List UInt8) (i : Nat) : (entL F (List.range (i + 1))).length = (entL F (List.range i)).length + (if usedB F (i : Int) = true then 1 else 0) := by
  rw [List.range_succ, entL_snoc, List.length_append]
  split <;> rfl

/-- Right as the page of its number and of its size alone. -/
theorem check_number {F : List UInt8} {n : Nat} {nu : Int} (hok : checkOk F nu n = true) (hr : rightB F nu = true) (h1 : 1 ≤ frontN F) (number : Int) : (checkE F number n == 0) = (number == nu) := by
  have hb : blankB F = false := by
    cases h : blankB F with
    | false => rfl
    | true => rw [blank_zero h, (zero_front _).1] at h1; omega
  by_cases hn : number = nu
  · subst hn
    unfold checkE
    rw [hok, hb, hr]
    simp
  · have hE : checkE F number n = 40 := by
      unfold checkE
      split
      · rfl
      · rw [hb, if_neg (by decide), if_neg]
        unfold rightB at hr ⊢
        simp only [Bool.and_eq_true, decide_eq_true_eq] at hr ⊢
        omega
    rw [hE, beq_eq_false_iff_ne.2 hn]
    rfl
theorem check_slots {F : List UInt8} {n : Nat} {nu : Int} (n1 : 1 ≤ n) (n8 : n ≤ 8) (hl : F.length = 24 + 16 * n) (hok : checkOk F nu n = true) (hr : rightB F nu = true) (slots : Int) : (checkE F nu slots == 0) = (slots == (n : Int)) := by
  by_cases hn : slots = (n : Int)
  · subst hn
    rw [right_check hok hr]
    simp
  · have hE : checkE F nu slots = 40 := by
      unfold checkE
      rw [if_pos]
      unfold checkOk
      by_cases hs : slots < 1 ∨ 8 < slots
      · rw [bytesP_no _ hs]
        rfl
      · rw [bytesP_ok _ (by omega) (by omega), decide_eq_false (p := (F.length : Int) = _) (by omega), Bool.and_false]
    rw [hE, beq_eq_false_iff_ne.2 hn]
    rfl
end Go.Proofs.YtgcpmdodhnmneaaDoor
