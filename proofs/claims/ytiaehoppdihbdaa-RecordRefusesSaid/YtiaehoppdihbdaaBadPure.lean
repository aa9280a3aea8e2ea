import Derived.Test.YtiaehoppdihbdaaRecPure
/- Changes that make a right record a wrong one. -/
set_option linter.unusedVariables false
set_option linter.unusedSimpArgs false
namespace Go.Tm
structure RightA (x : RecD) : Prop where
  kind : 1 ≤ x.kind ∧ x.kind ≤ 7
  birth : 0 ≤ x.birth ∧ x.birth ≤ 1152921504606846976
  prev : 0 ≤ x.prev ∧ x.prev ≤ 1152921504606846976
  next : 0 ≤ x.next ∧ x.next ≤ 1152921504606846976
  id : 0 ≤ x.id ∧ x.id ≤ 64
  page : 0 ≤ x.page ∧ x.page ≤ 15
  frm : 0 ≤ x.frm ∧ x.frm ≤ 144
  rng : x.kind = 2 ∨ x.kind = 3 → 16 ≤ x.frm ∧ x.frm ≤ 144 - (x.after.length : Int) ∧ 1 ≤ x.after.length
  aft : x.after.length ≤ 128
  bef : x.kind = 2 → x.before.length = x.after.length ∧ endsB x.before x.after = true
  nob : x.kind ≠ 2 → x.before.length = 0
  rows : x.rows.length ≤ 8 ∧ ∃ p, rowsB p x.rows = true
  dirt : x.dirty.length ≤ 16 ∧ ∃ p, dirtB p x.dirty = true
theorem right_all {x : RecD} (h : rgtB x = true) : RightA x := by
  rcases right_cases h with h | h | h | h | h
  · obtain ⟨h1, h2, h3, h4, h5, h6, h7, h8, h9, h10, h11⟩ := h
    exact ⟨by omega, by omega, by omega, by omega, by omega, by omega, by omega, fun g => by omega, by simp [h7], fun g => by omega, fun _ => by simp [h8], by simp [h10, rowsB], by simp [h11, dirtB]⟩
  · obtain ⟨h1, h2, h3, h4, h5, h6, h7, h8, h9, h10⟩ := h
    rw [lsnB_iff] at h2 h3
    obtain ⟨a, b, c, d⟩ := (rangB_iff _ _ _).1 h5
    exact ⟨by omega, by omega, by omega, by omega, by omega, by omega, by omega, fun g => by omega, by omega, fun g => ⟨h6, h7⟩, fun g => by omega, by simp [h9, rowsB], by simp [h10, dirtB]⟩
  · obtain ⟨h1, h2, h3, h4, h5, h6, h7, h8, h9⟩ := h
    rw [lsnB_iff] at h2 h3
    rw [nxtB_iff] at h7
    obtain ⟨a, b, c, d⟩ := (rangB_iff _ _ _).1 h5
    exact ⟨by omega, by omega, by omega, by omega, by omega, by omega, by omega, fun g => by omega, by omega, fun g => by omega, fun g => by simp [h6], by simp [h8, rowsB], by simp [h9, dirtB]⟩
  · obtain ⟨h1, h2, h3, h4, h5, h6, h7, h8, h9, h10, h11⟩ := h
    rw [lsnB_iff] at h2 h3
    exact ⟨by omega, by omega, by omega, by omega, by omega, by omega, by omega, fun g => by omega, by simp [h7], fun g => by omega, fun _ => by simp [h8], by simp [h10, rowsB], by simp [h11, dirtB]⟩
  · obtain ⟨h1, h2, h3, h4, h5, h6, h7, h8, h9, h10⟩ := h
    simp only [listsB, Bool.and_eq_true, decide_eq_true_eq] at h10
    exact ⟨by omega, by omega, by omega, by omega, by omega, by omega, by omega, fun g => by omega, by simp [h7], fun g => by omega, fun _ => by simp [h8], ⟨h10.1.1.1, _, h10.1.2⟩, ⟨h10.1.1.2, _, h10.2⟩⟩
theorem bef128 {x : RecD} (a : RightA x) : x.before.length ≤ 128 := by
  by_cases hk : x.kind = 2
  · have := (a.bef hk).1
    have := a.aft
    omega
  · have := a.nob hk
    omega
theorem rowsB_app : ∀ (l m : List Row9) (p : Int), rowsB p (l ++ m) = true → ∃ q, rowsB q m = true
  | [], m, p, h => ⟨p, h⟩
  | x :: l, m, p, h => by
    rw [List.cons_append, rowsB, Bool.and_eq_true] at h
    exact rowsB_app l m _ h.2
theorem dirtB_app : ∀ (l m : List (Int × Int)) (p : Int), dirtB p (l ++ m) = true → ∃ q, dirtB q m = true
  | [], m, p, h => ⟨p, h⟩
  | x :: l, m, p, h => by
    rw [List.cons_append, dirtB, Bool.and_eq_true] at h
    exact dirtB_app l m _ h.2
theorem bad_of {y : RecD} (h : RightA y → False) : rgtB y = false := by
  cases e : rgtB y with
  | false => rfl
  | true => exact (h (right_all e)).elim
section
variable {x : RecD}
theorem bad_kind {k : Int} (y : RecD) (hk : k < 1 ∨ 7 < k) (e : y.kind = k) : rgtB y = false := bad_of fun g => by have := g.kind; omega
theorem bad_birth {k : Int} (y : RecD) (hk : k < 0 ∨ 1152921504606846976 < k) (e : y.birth = k) : rgtB y = false := bad_of fun g => by have := g.birth; omega
theorem bad_prev {k : Int} (y : RecD) (hk : k < 0 ∨ 1152921504606846976 < k) (e : y.prev = k) : rgtB y = false := bad_of fun g => by have := g.prev; omega
theorem bad_next {k : Int} (y : RecD) (hk : k < 0 ∨ 1152921504606846976 < k) (e : y.next = k) : rgtB y = false := bad_of fun g => by have := g.next; omega
theorem bad_id {k : Int} (y : RecD) (hk : 64 < k) (e : y.id = k) : rgtB y = false := bad_of fun g => by have := g.id; omega
theorem bad_page {k : Int} (y : RecD) (hk : 15 < k) (e : y.page = k) : rgtB y = false := bad_of fun g => by have := g.page; omega
theorem bad_frm {k : Int} (y : RecD) (hk : 144 < k) (e : y.frm = k) : rgtB y = false := bad_of fun g => by have := g.frm; omega
theorem bad_before (h : rgtB x = true) (v : UInt8) : rgtB { x with before := x.before ++ [v] } = false := bad_of fun g => by
  have a := right_all h
  by_cases hk : x.kind = 2
  · have b1 := (a.bef hk).1
    have b2 := (g.bef hk).1
    dsimp only at b2
    rw [List.length_append, List.length_singleton] at b2
    omega
  · have b2 := g.nob hk
    dsimp only at b2
    rw [List.length_append, List.length_singleton] at b2
    omega
theorem bad_after (y : RecD) (hk : 128 < y.after.length) : rgtB y = false := bad_of fun g => by have := g.aft; omega
theorem bad_noafter (y : RecD) (hk : y.kind = 2 ∨ y.kind = 3) (h0 : y.after = []) : rgtB y = false := bad_of fun g => by have := (g.rng hk).2.2; rw [h0, List.length_nil] at this; omega
theorem bad_from1 (y : RecD) (hk : y.kind = 2 ∨ y.kind = 3) (h0 : y.frm < 16) : rgtB y = false := bad_of fun g => by have := g.rng hk; omega
theorem bad_from2 (y : RecD) (hk : y.kind = 2 ∨ y.kind = 3) (h0 : 144 - (y.after.length : Int) < y.frm) : rgtB y = false := bad_of fun g => by have := g.rng hk; omega
theorem bad_first (h : rgtB x = true) (hk : x.kind = 2) : rgtB { x with before := x.before.set 0 (x.after.getD 0 0) } = false := bad_of fun g => by
  have a := right_all h
  have b := (a.bef hk).1
  have c := (a.rng (.inl hk)).2.2
  have d := (g.bef hk).2
  simp only [endsB, Bool.and_eq_true, decide_eq_true_eq] at d
  apply d.1
  rw [List.getD, List.getElem?_set_self (by omega)]
  rfl
theorem bad_last (h : rgtB x = true) (hk : x.kind = 2) : rgtB { x with after := x.after.set (x.after.length - 1) (x.before.getD (x.after.length - 1) 0) } = false := bad_of fun g => by
  have a := right_all h
  have b := (a.bef hk).1
  have c := (a.rng (.inl hk)).2.2
  have d := (g.bef hk).2
  simp only [endsB, Bool.and_eq_true, decide_eq_true_eq, List.length_set] at d
  apply d.2
  conv => rhs; rw [List.getD, List.getElem?_set_self (by omega)]
  rfl
theorem bad_rows (y : RecD) (l m : List Row9) (e : y.rows = l ++ m) (hm : ∀ q, rowsB q m = false) : rgtB y = false := bad_of fun g => by
  obtain ⟨_, p, h⟩ := g.rows
  rw [e] at h
  obtain ⟨q, hq⟩ := rowsB_app l m p h
  rw [hm q] at hq
  cases hq
theorem bad_dirt (y : RecD) (l m : List (Int × Int)) (e : y.dirty = l ++ m) (hm : ∀ q, dirtB q m = false) : rgtB y = false := bad_of fun g => by
  obtain ⟨_, p, h⟩ := g.dirt
  rw [e] at h
  obtain ⟨q, hq⟩ := dirtB_app l m p h
  rw [hm q] at hq
  cases hq
theorem badm1 (q : Int) : rowsB q [(1152921504606846976, 1, 3, 1, 0)] = false := by simp [rowsB, rowB9]
theorem badm2 (q : Int) : rowsB q [(5, 1, 1, 5, 0), (5, 2, 1, 6, 0)] = false := by simp [rowsB, rowB9]
theorem badm3 (q : Int) : dirtB q [(16, 1)] = false := by simp [dirtB, dirtB1]
theorem badm4 (q : Int) : dirtB q [(15, 1), (15, 2)] = false := by simp [dirtB, dirtB1]
theorem badm5 (q : Int) : dirtB q [(15, 0)] = false := by simp [dirtB, dirtB1, lsnB]
end
end Go.Tm
