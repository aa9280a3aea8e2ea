import Derived.Test.YtiaehoppdihbdaaPagePure
/- A page's slots as rows of sixteen bytes. -/
set_option linter.unusedVariables false
set_option linter.unusedSimpArgs false
namespace Go.Tm
open Go.RowKit

theorem layL_get? (b : List UInt8) (k : Nat) (row : List UInt8) (h : k + row.length ≤ b.length) (x : Nat) :
    (layL b k row)[x]? = if k ≤ x ∧ x < k + row.length then row[x - k]? else b[x]? := by
  unfold layL
  have hk : (b.take k).length = k := by rw [List.length_take]; omega
  by_cases h1 : x < k
  · rw [if_neg (by omega), List.getElem?_append_left (by omega), List.getElem?_take, if_pos h1]
  · rw [List.getElem?_append_right (by omega), hk]
    by_cases h2 : x < k + row.length
    · rw [if_pos ⟨by omega, h2⟩, List.getElem?_append_left (by omega)]
    · rw [if_neg (by omega), List.getElem?_append_right (by omega), List.getElem?_drop]
      congr 1
      omega

/-- The sixteen bytes of a slot. -/
def rowP (b : List UInt8) (j : Nat) : List UInt8 := (b.drop (16 + 16 * j)).take 16
theorem rowP_get? (b : List UInt8) (j x : Nat) : (rowP b j)[x]? = if x < 16 then b[16 + 16 * j + x]? else none := by
  unfold rowP
  rw [List.getElem?_take]
  split
  · rw [List.getElem?_drop]
  · rfl
theorem rowP_length (b : List UInt8) (j : Nat) (h : 32 + 16 * j ≤ b.length) : (rowP b j).length = 16 := by
  unfold rowP
  rw [List.length_take, List.length_drop]
  omega
theorem rowP_same (b r : List UInt8) (i : Nat) (hr : r.length = 16) (h : 32 + 16 * i ≤ b.length) : rowP (layL b (16 + 16 * i) r) i = r := by
  apply List.ext_getElem?
  intro x
  rw [rowP_get?, layL_get? _ _ _ (by omega)]
  split
  · rw [if_pos (by omega)]
    congr 1
    omega
  · rw [List.getElem?_eq_none (by omega)]
theorem rowP_other (b r : List UInt8) (i j : Nat) (hr : r.length = 16) (h : 32 + 16 * i ≤ b.length) (hij : i ≠ j) : rowP (layL b (16 + 16 * i) r) j = rowP b j := by
  apply List.ext_getElem?
  intro x
  rw [rowP_get?, rowP_get?, layL_get? _ _ _ (by omega)]
  split
  · rw [if_neg (by omega)]
  · rfl
theorem layL_twice (b r s : List UInt8) (k : Nat) (hs : s.length = r.length) (h : k + r.length ≤ b.length) : layL (layL b k r) k s = layL b k s := by
  apply List.ext_getElem?
  intro x
  rw [layL_get? (layL b k r) k s (by rw [layL_length _ _ _ h]; omega), layL_get? b k r h, layL_get? b k s (by omega)]
  split
  · rfl
  · rw [if_neg (by omega)]
theorem layL_self (b : List UInt8) (i : Nat) (h : 32 + 16 * i ≤ b.length) : layL b (16 + 16 * i) (rowP b i) = b := by
  have hl := rowP_length b i h
  apply List.ext_getElem?
  intro x
  rw [layL_get? _ _ _ (by omega), rowP_get?, hl]
  split
  · rw [if_pos (by omega)]
    congr 1
    omega
  · rfl
theorem layL_outside (b r : List UInt8) (k x : Nat) (h : k + r.length ≤ b.length) (hx : x < k ∨ k + r.length ≤ x) : (layL b k r).getD x 0 = b.getD x 0 := by
  rw [List.getD_eq_getElem?_getD, layL_get? _ _ _ h, if_neg (by omega), List.getD_eq_getElem?_getD]

/-- What a row says. -/
def usedR (r : List UInt8) : Bool := r.getD 0 0 == 1
def keyR (r : List UInt8) : Nat := leN ((r.drop 4).take 4)
def valR (r : List UInt8) : Nat := leN ((r.drop 8).take 8)
theorem keyN_row (b : List UInt8) (j : Nat) : keyN b j = keyR (rowP b j) := by
  unfold keyN keyR rowP
  rw [List.drop_take, List.take_take, List.drop_drop]
  congr 2
  congr 1
  omega
theorem valN_row (b : List UInt8) (j : Nat) : valN b j = valR (rowP b j) := by
  unfold valN valR rowP
  rw [List.drop_take, List.take_take, List.drop_drop]
  congr 2
  congr 1
  omega
theorem usedB_row {b : List UInt8} {j : Nat} (h : j < slotsP b.length) : usedB b (j : Int) = usedR (rowP b j) := by
  unfold usedB usedR placeE
  rw [if_neg (by omega), if_neg (by omega), decide_eq_true rfl, Bool.true_and, Int.toNat_natCast]
  rw [List.getD_eq_getElem?_getD, List.getD_eq_getElem?_getD, rowP_get?, if_pos (by omega)]
  rfl
theorem usedB_out {b : List UInt8} {j : Nat} (h : ¬ j < slotsP b.length) : usedB b (j : Int) = false := by
  unfold usedB placeE
  split
  · rfl
  · rw [if_pos (by omega)]; rfl
theorem usedR_slot (k v : Nat) : usedR (slotRow k v) = true := by simp [usedR, slotRow]
theorem usedR_zero : usedR (zeroL 16) = false := by decide +kernel
theorem keyR_slot (k v : Nat) (hk : k < 4294967296) : keyR (slotRow k v) = k := by
  unfold keyR slotRow
  have e : ([1, 0, 0, 0] ++ leB 4 k ++ leB 8 v).drop 4 = leB 4 k ++ leB 8 v := by simp
  rw [e, List.take_left' (leB_length 4 k), leN_leB]
  exact Nat.mod_eq_of_lt hk
theorem valR_slot (k v : Nat) (hv : v < 18446744073709551616) : valR (slotRow k v) = v := by
  unfold valR slotRow
  have e : ([1, 0, 0, 0] ++ leB 4 k ++ leB 8 v).drop 8 = leB 8 v := List.drop_left' (by simp)
  rw [e, List.take_of_length_le (by simp), leN_leB]
  exact Nat.mod_eq_of_lt hv
theorem rowP_zero (n j : Nat) (h : 32 + 16 * j ≤ n) : rowP (zeroL n) j = zeroL 16 := by
  apply List.ext_getElem?
  intro x
  rw [rowP_get?]
  unfold zeroL
  rw [List.getElem?_replicate, List.getElem?_replicate]
  split
  · rw [if_pos (by omega)]
  · rfl
theorem zeroL_getD (n x : Nat) : (zeroL n).getD x 0 = 0 := by
  unfold zeroL
  rw [List.getD_eq_getElem?_getD, List.getElem?_replicate]
  split <;> rfl
/-- Another first byte of a key: another key. -/
theorem keyN_set {b : List UInt8} {v : UInt8} (h : 24 ≤ b.length) (hv : v ≠ b.getD 20 0) : keyN (b.set 20 v) 0 ≠ keyN b 0 := by
  unfold keyN
  intro he
  have h1 := leN_step (((b.set 20 v).drop (20 + 16 * 0)).take 4) 0 (by rw [List.length_take, List.length_drop, List.length_set]; omega)
  have h2 := leN_step ((b.drop (20 + 16 * 0)).take 4) 0 (by rw [List.length_take, List.length_drop]; omega)
  rw [List.drop_zero] at h1 h2
  have e1 : (((b.set 20 v).drop (20 + 16 * 0)).take 4).getD 0 0 = v := by
    rw [List.getD_eq_getElem?_getD, List.getElem?_take, if_pos (by omega), List.getElem?_drop, List.getElem?_set_self (by omega)]
    rfl
  have e2 : ((b.drop (20 + 16 * 0)).take 4).getD 0 0 = b.getD 20 0 := by
    rw [List.getD_eq_getElem?_getD, List.getElem?_take, if_pos (by omega), List.getElem?_drop, List.getD_eq_getElem?_getD]
  rw [e1] at h1
  rw [e2] at h2
  rw [h1, h2] at he
  refine hv (UInt8.toNat_inj.1 ?_)
  have := v.toNat_lt
  have := (b.getD 20 0).toNat_lt
  omega
/-- b is a page of n slots. -/
structure IsPage (n : Nat) (b : List UInt8) : Prop where
  lo : 1 ≤ n
  hi : n ≤ 8
  len : b.length = 24 + 16 * n
theorem IsPage.slots {n : Nat} {b : List UInt8} (h : IsPage n b) : slotsP b.length = n := by rw [h.len]; exact slotsP_of n h.lo h.hi
theorem IsPage.lay {n : Nat} {b r : List UInt8} (h : IsPage n b) {i : Nat} (hi : i < n) (hr : r.length = 16) : IsPage n (layL b (16 + 16 * i) r) :=
  ⟨h.lo, h.hi, by rw [layL_length _ _ _ (by rw [h.len]; omega)]; exact h.len⟩
theorem IsPage.fits {n : Nat} {b : List UInt8} (h : IsPage n b) {i : Nat} (hi : i < n) : 32 + 16 * i ≤ b.length := by rw [h.len]; omega
theorem zero_page {n : Nat} (h1 : 1 ≤ n) (h8 : n ≤ 8) : IsPage n (zeroL (24 + 16 * n)) := ⟨h1, h8, zeroL_length _⟩

/-- A block that is one row of these cells. -/
def RowC (w : World) (g : Nat) (T : TypeId) (cs : List Value) : Prop := w.heap[g]? = some (.cells cs.toArray T (0, 0))
theorem RowC.lt {w : World} {g : Nat} {T : TypeId} {cs : List Value} (h : RowC w g T cs) : g < w.heap.size := (Array.getElem?_eq_some_iff.1 h).1
theorem RowC.below {w w' : World} {g : Nat} {T : TypeId} {cs : List Value} (h : RowC w g T cs) (hb : Below w.heap.size w w') : RowC w' g T cs := (hb.block g h.lt).trans h
theorem RowC.grown {w w' : World} {g : Nat} {T : TypeId} {cs : List Value} (h : RowC w g T cs) {row : Option Nat} (hg : w.grownBy w' row) (hne : row ≠ some g) : RowC w' g T cs := (hg.block g h.lt (fun e => hne e.symm)).trans h
theorem RowC.cell {w : World} {g : Nat} {T : TypeId} {cs : List Value} (h : RowC w g T cs) {j : Nat} {v : Value} (hj : cs[j]? = some v) : w.cell? ⟨g, j, none⟩ = some v := by
  unfold RowC at h
  simp [World.cell?, h, hj]
theorem RowC.free {w : World} {g : Nat} {T : TypeId} {cs : List Value} (h : RowC w g T cs) (j : Nat) : w.frozen? ⟨g, j, none⟩ = false := by
  unfold RowC at h
  simp [World.frozen?, h]
theorem RowC.stored {w : World} {g : Nat} {T : TypeId} {cs : List Value} (h : RowC w g T cs) (j : Nat) (v : Value) : RowC (w.setCell ⟨g, j, none⟩ v) g T (cs.set j v) := by
  unfold RowC at h ⊢
  simp [World.setCell, Array.getElem?_modify, h]
/-- Entries as cells; bools as cells. -/
def entC (es : List (Int × Int)) : List Value := es.flatMap fun x => [.int .i64 x.1, .int .u64 x.2]
def boolC (us : List Bool) : List Value := us.map .bool
theorem entC_cons (x : Int × Int) (es : List (Int × Int)) : entC (x :: es) = .int .i64 x.1 :: .int .u64 x.2 :: entC es := rfl
theorem entC_length (es : List (Int × Int)) : (entC es).length = 2 * es.length := by
  induction es with
  | nil => rfl
  | cons x r ih => rw [entC_cons, List.length_cons, List.length_cons, ih, List.length_cons]; omega
theorem entC_get0 (es : List (Int × Int)) (k : Nat) : (entC es)[k * 2]? = es[k]?.map fun x => .int .i64 x.1 := by
  induction es generalizing k with
  | nil => simp [entC]
  | cons x r ih =>
    rw [entC_cons]
    cases k with
    | zero => rfl
    | succ k => rw [show (k + 1) * 2 = k * 2 + 1 + 1 by omega, List.getElem?_cons_succ, List.getElem?_cons_succ, ih, List.getElem?_cons_succ]
theorem entC_get1 (es : List (Int × Int)) (k : Nat) : (entC es)[k * 2 + 1]? = es[k]?.map fun x => .int .u64 x.2 := by
  induction es generalizing k with
  | nil => simp [entC]
  | cons x r ih =>
    rw [entC_cons]
    cases k with
    | zero => rfl
    | succ k => rw [show (k + 1) * 2 + 1 = k * 2 + 1 + 1 + 1 by omega, List.getElem?_cons_succ, List.getElem?_cons_succ, ih, List.getElem?_cons_succ]
theorem entC_set (es : List (Int × Int)) (k : Nat) (x : Int × Int) : ((entC es).set (k * 2) (.int .i64 x.1)).set (k * 2 + 1) (.int .u64 x.2) = entC (es.set k x) := by
  induction es generalizing k with
  | nil => simp [entC]
  | cons y r ih =>
    cases k with
    | zero => rfl
    | succ k =>
      rw [List.set_cons_succ, entC_cons, entC_cons, ← ih]
      rw [show (k + 1) * 2 = k * 2 + 1 + 1 by omega, List.set_cons_succ, List.set_cons_succ, List.set_cons_succ, List.set_cons_succ]
theorem boolC_get (us : List Bool) (k : Nat) : (boolC us)[k]? = us[k]?.map .bool := by simp [boolC]
theorem boolC_set (us : List Bool) (k : Nat) (b : Bool) : (boolC us).set k (.bool b) = boolC (us.set k b) := by simp [boolC, List.map_set]
end Go.Tm
