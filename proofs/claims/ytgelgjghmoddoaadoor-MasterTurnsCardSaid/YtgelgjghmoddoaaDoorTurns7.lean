import Derived.Test.YtgelgjghmoddoaaDoorWithin7
import Derived.Test.YtgelgjghmoddoaaDoorTurnsPure
import Derived.Test.YtgelgjghmoddoaaDoorDisk15
import Derived.Test.YtgelgjghmoddoaaDoorOpen
/- What goes on through MasterTurns. -/
set_option linter.unusedVariables false
set_option linter.unusedSimpArgs false
namespace Go.Proofs.YtgelgjghmoddoaaDoor
open Go.RowKit Go.Tm
set_option maxHeartbeats 400000
set_option maxRecDepth 100000

/-- A row of the statement's own: nobody else's colour. -/
structure K5 (w : World) (χ : Col) (g : Nat) (cs : List Value) : Prop where
  row : RowC w g 23 cs
  col : χ g = (5, 0)
theorem K5.touch {w w' : World} {χ χ' : Col} {g : Nat} {cs : List Value} {j : Nat} (h : K5 w χ g cs) (ht : Touch w w' χ χ' j) (hj : j ≠ 5) : K5 w' χ' g cs :=
  ⟨(ht.kept.block g h.row.lt (fun e => by have e' : (χ g).1 = j := e; rw [h.col] at e'; exact hj e'.symm)).trans h.row, (ht.ext g h.row.lt).trans h.col⟩
theorem K5.new {w w' : World} {χ χ' : Col} {g : Nat} {cs : List Value} (h : K5 w χ g cs) (hb : Below w.heap.size w w') (hx : Ext w.heap.size χ χ') : K5 w' χ' g cs := h.touch (j := 1) (Touch.of_below hx hb) (by decide)
/-- A row, made just now. -/
theorem K5.made (w : World) (χ : Col) (cs : List Value) : K5 (w.alloc (.cells cs.toArray 23)) (paint w.heap.size χ (5, 0)) w.heap.size cs :=
  ⟨heap_alloc_new _ _, paint_new (Nat.le_refl _)⟩
structure TS (wB w : World) (χ : Col) (p : Nat) (s : DSt) : Prop where
  fr : Fr wB w χ
  disk : IsDisk w χ 1 p s
theorem TS.touch {wB w w' : World} {χ χ' : Col} {p j : Nat} {s : DSt} (h : TS wB w χ p s) (ht : Touch w w' χ χ' j) (hj : 2 ≤ j) : TS wB w' χ' p s :=
  ⟨h.fr.touch ht (by omega), h.disk.touch ht (by omega) (by omega)⟩
theorem TS.new {wB w w' : World} {χ χ' : Col} {p : Nat} {s : DSt} (h : TS wB w χ p s) (hb : Below w.heap.size w w') (hx : Ext w.heap.size χ χ') : TS wB w' χ' p s := h.touch (j := 2) (Touch.of_below hx hb) (by decide)
theorem TS.act {wB w w' : World} {χ χ' : Col} {p : Nat} {s s' : DSt} (h : TS wB w χ p s) (ha : ActD w w' χ χ' 1 p s') : TS wB w' χ' p s' := ⟨h.fr.touch ha.touch (by decide), ha.disk⟩
theorem alloc_below (w : World) (o : Obj) : Below w.heap.size w (w.alloc o) := (Below.refl _ _).alloc (Nat.le_refl _) o
/-- A store into a row of the statement's own. -/
theorem K5.stored {w : World} {χ : Col} {g : Nat} {cs : List Value} (h : K5 w χ g cs) (w' : World) (hw : w.grownBy w' (some g)) : Touch w w' χ χ 5 :=
  ⟨kept_mono (kept_grown hw) fun k _ e => by rw [e, h.col], Ext.refl _ _⟩

/-- What the State that is newest is, is small. -/
theorem nvR_le {P : Nat} {rows : List (List UInt8)} {T B C : Nat} (h : nvR P rows = (T, B, C)) : T ≤ 1152921504606846976 ∧ B ≤ 1152921504606846976 ∧ C ≤ 1152921504606846976 := by
  obtain ⟨_, _, h3⟩ := selM_le h
  rcases h3 with h3 | h3
  · have := halfM_le 0 (rows.getD (P + 1) [])
    rw [← h3] at this
    exact this
  · have := halfM_le 1 (rows.getD (P + 2) [])
    rw [← h3] at this
    exact this
theorem nvR_zero {P : Nat} {rows : List (List UInt8)} {B C : Nat} (h : nvR P rows = (0, B, C)) : B = 0 ∧ C = 0 := by
  obtain ⟨h1, h2, h3⟩ := selM_le h
  dsimp only at h1 h2
  have e1 := halfM_zero (k := 0) (b := rows.getD (P + 1) []) (by omega)
  have e2 := halfM_zero (k := 1) (b := rows.getD (P + 2) []) (by omega)
  rw [e1, e2] at h3
  rcases h3 with h3 | h3 <;> (injection h3 with _ h3; injection h3 with a b; exact ⟨a, b⟩)
theorem newOk_is {s : DSt} (h : Tm.Clean s) {T B C : Nat} (hv : newV s = (T, B, C)) : newOk s = decide (0 < T) := by
  unfold newOk
  rw [hv]
  by_cases hT : 0 < T
  · have : ¬ ((T, B, C) : Nat × Nat × Nat) = (0, 0, 0) := fun e => by injection e with e; omega
    simp [this, hT]
  · have h0 : T = 0 := by omega
    subst h0
    have := (clean_newest h).2.1
    rw [hv] at this
    obtain ⟨a, b⟩ := nvR_zero this.symm
    subst a b
    simp
theorem mask1 (k : Nat) (h : (k : Int) ≤ 9223372036854775807) : bits .and .i64 (k : Int) 1 = ((k % 2 : Nat) : Int) := by
  have := bits_mask .i64 63 (by decide) (fun n a b => i64_id n (by omega) (by omega)) 1 (by decide) (k : Int) (by omega) (by omega)
  simpa using this
theorem rdI_of {w : World} {A : Option Addr} {c : Nat} {l : List Int} (h : RdS 1 rInt w A c l) : RdI w A c l ∧ ∀ k ∈ l, -9223372036854775808 ≤ k ∧ k ≤ 9223372036854775807 := by
  refine ⟨⟨h.cap, h.max, fun hp => ?_⟩, fun k hk => ?_⟩
  · obtain ⟨g, o, e, hc⟩ := h.cells hp
    refine ⟨g, o, e, fun j hj => ?_⟩
    obtain ⟨cs, _, h2, h3, _⟩ := hc j (l.getD j 0) (by simp [List.getD, hj])
    have := h2 0 (.int .i64 (l.getD j 0)) (by rw [h3]; rfl)
    simpa using this
  · obtain ⟨j, hj, rfl⟩ := List.mem_iff_getElem.1 hk
    obtain ⟨g, o, e, hc⟩ := h.cells (by omega)
    obtain ⟨cs, _, h2, h3, h4⟩ := hc j l[j] (by simp [hj])
    exact h4
theorem next_turn {s : DSt} (h : Tm.Clean s) {T B C b c : Nat} (hS : SaneR s.P T s.reads) (hv : nvR s.P s.reads = (T, B, C)) (ha : s.acts = 0) (hm : mayB ((T + 1 : Nat) : Int) b c = true) :
    nextE s T b c = 0 ∧ nextV s T b c = ((T : Int) + 1, (b : Int), (c : Int)) ∧ newE (nextS s T b c) = 0 ∧ newV (nextS s T b c) = (T + 1, b, c) ∧ newOk (nextS s T b c) = true ∧ (nextS s T b c).acts = 2 ∧ (newS (nextS s T b c)).loose.length = 0 ∧
    Tm.Clean (crashS (newS (nextS s T b c)) 0 []) ∧ (crashS (newS (nextS s T b c)) 0 []).acts = 0 ∧ SaneR (crashS (newS (nextS s T b c)) 0 []).P (T + 1) (crashS (newS (nextS s T b c)) 0 []).reads ∧ nvR (crashS (newS (nextS s T b c)) 0 []).P (crashS (newS (nextS s T b c)) 0 []).reads = (T + 1, b, c) := by
  obtain ⟨n1, n2, n3, n4⟩ := clean_next h hm
  obtain ⟨w1, w2, w3, w4⟩ := clean_newest n4
  have hT : T + 1 < 256 ^ 8 := by have := (mayB_iff _ _ _).1 hm; omega
  have e1 := nvR_put h.ok.reads.len hv hm
  have e2 := saneR_put (b := b) (c := c) hS hT
  have hr : (nextS s T b c).reads = putM s.P s.reads ((T + 1) % 2) (mastL (T + 1) b c) := by rw [n3]
  have hP : (nextS s T b c).P = s.P := by rw [n3]
  have hz : newV (nextS s T b c) = (T + 1, b, c) := by rw [w2, hr, hP]; exact e1
  obtain ⟨c1, c2, c3, c4⟩ := clean_crash w4.ok w4.loose 0 []
  have hl : (newS (nextS s T b c)).lasts = putM s.P s.reads ((T + 1) % 2) (mastL (T + 1) b c) := by rw [← w4.same, w3]; exact hr
  have hP2 : (newS (nextS s T b c)).P = s.P := by rw [w3]; exact hP
  refine ⟨n1, n2, w1, hz, ?_, by rw [n3]; show s.acts + 2 = 2; rw [ha], by rw [w4.loose]; rfl, c4, c3, ?_, ?_⟩
  · rw [newOk_is n4 hz]; simp
  · rw [c1, c2, hl, hP2]; exact e2
  · rw [c1, c2, hl, hP2]; exact e1
/-- A whole State stored. -/
theorem K5.over {w : World} {χ : Col} {g : Nat} {a b c : Value} (h : K5 w χ g [a, b, c]) (x y z : Value) :
    K5 (((w.setCell ⟨g, 0, none⟩ x).setCell ⟨g, 1, none⟩ y).setCell ⟨g, 2, none⟩ z) χ g [x, y, z] ∧ Touch w (((w.setCell ⟨g, 0, none⟩ x).setCell ⟨g, 1, none⟩ y).setCell ⟨g, 2, none⟩ z) χ χ 5 := by
  refine ⟨⟨((h.row.stored 0 x).stored 1 y).stored 2 z, h.col⟩, h.stored _ ?_⟩
  exact grown_trans (grown_trans (cell_grown w g 0 x) (cell_grown _ g 1 y)) (cell_grown _ g 2 z)
end Go.Proofs.YtgelgjghmoddoaaDoor
