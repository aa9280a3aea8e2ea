import Derived.Test.YtgcpmdodhnmneaaDoorIterT
import Derived.RangeFuncBox
import Derived.OwnWalkIn
/- A body that lengthens a row of its own whose slice lies in a box. -/
set_option linter.unusedVariables false
set_option linter.unusedSimpArgs false
namespace Go.Tm
open Go Go.RowKit

theorem boxed_append {R : TypeId → Prop} {K : Nat → Prop} {W w1 : World} {n0 n1 B b0 : Nat} {t e : TypeId} {size k m : Nat} {v v' : Value} {xs ys : List Value} {tmp : Obj}
    (hv : Boxed W B t v) (hte : t ≠ e) (hR : R e) (hrow : W.ownsRow n0 e size v k xs) (hK : ∀ j, K j → j < n0 ∧ j ≠ B) (hBn : B < n0) (h1 : n0 ≤ n1)
    (hown' : w1.ownsRow n0 e size v' m ys) (hgrow : (W.alloc tmp).grownBy w1 v.ownBlock) :
    Boxed w1 B t v ∧ Boxed (w1.setCell ⟨B, 0, none⟩ v') B t v' ∧ (w1.setCell ⟨B, 0, none⟩ v').ownsRow n0 e size v' m ys ∧ KeepsFrom b0 W (w1.setCell ⟨B, 0, none⟩ v') ∧ RKT R K n1 W (w1.setCell ⟨B, 0, none⟩ v') ∧
      (∀ j, j < n0 → j < W.heap.size → j ≠ B → (w1.setCell ⟨B, 0, none⟩ v').heap[j]? = W.heap[j]?) ∧ (∀ c, c ≤ B → Below c W (w1.setCell ⟨B, 0, none⟩ v')) := by
  have hv1 : Boxed w1 B t v := (hv.alloc tmp).kept hgrow (hv.not_row hte hrow)
  have hsz : W.heap.size ≤ (w1.setCell ⟨B, 0, none⟩ v').heap.size := by
    have := hgrow.size
    simp [World.setCell] at this ⊢
    omega
  have same : ∀ j, j < W.heap.size → j ≠ B → some j ≠ v.ownBlock → (w1.setCell ⟨B, 0, none⟩ v').heap[j]? = W.heap[j]? := fun j hj hne hno =>
    ((grownBy_setCell' w1 B v').block j (by have := hgrow.size; simp at this; omega) (by simpa using hne)).trans ((hgrow.block j (by simp; omega) hno).trans (Below.heap_alloc _ _ _ (by omega)))
  have row : ∀ j, some j = v.ownBlock → n0 ≤ j ∧ ∃ cur z, W.heap[j]? = some (.cells cur e z) := by
    intro j hj
    rcases hrow.2 with ⟨rfl, _⟩ | ⟨g, cap, cur, rfl, hb, hgb, _⟩
    · simp [Value.ownBlock] at hj
    · obtain rfl : j = g := by simpa [Value.ownBlock] using hj
      exact ⟨hb, _, _, hgb⟩
  refine ⟨hv1, hv1.set v', hown'.kept (grownBy_setCell' w1 B v') (.inr (hv1.not_row hte hown').symm), ⟨hsz, fun j o hb hj ho => ?_⟩, ⟨hsz, fun j hj hc => ?_⟩, fun j h0 hj hne => same j hj hne (fun hh => by have := (row j hh).1; omega), fun c hc => ?_⟩
  · refine (same j (Array.getElem?_eq_some_iff.1 hj).1 ?_ ?_).trans hj
    · rintro rfl
      rw [show W.heap[j]? = _ from hv] at hj
      cases hj
      cases ho
    · intro hh
      obtain ⟨_, cur, z, hg⟩ := row j hh
      rw [hg] at hj
      cases hj
      cases ho
  · refine same j hj ?_ ?_
    · rcases hc with hc | hc
      · exact (hK j hc).2
      · omega
    · intro hh
      obtain ⟨h0, cur, z, hg⟩ := row j hh
      rcases hc with hc | hc
      · have := (hK j hc).1; omega
      · exact hc.2 _ _ _ hg hR
  · refine (((Below.refl c W).alloc (by have := hv.lt; omega) tmp).grown hgrow (by simp; have := hv.lt; omega) fun j ej => ?_).setCell (p := ⟨B, 0, none⟩) hc v'
    have := (row j ej.symm).1
    omega

/-- append onto a row of one's own, of any elements, inside a fence. -/
theorem wpListIn_appC {F : Fence} {n : Nat} {P : Program} (w : World) {ops : Array Oper} {rest : List Oper} {o : Oper} {a : Act} {Q : Exit → Act → World → Prop}
    (hg : o.guard = none) (s x : Operand) (t : TypeId) (hop : o.op = Op.call { callee := Callee.builtin Builtin.append, args := #[s, x], argTypes := #[t, t] })
    (base : Nat) (e : TypeId) {z : Value} {size bytes : Nat} (h1 : P.underlying t = some (.slice e)) (hinfo : (P.info? e).map (fun i => (i.zero, i.size, i.bytes)) = some (some z, size, bytes)) (h6 : z.cells.size = size) (h7 : 0 < size)
    (v : Value) (k : Nat) (xs : List Value) (hs : a.eval s = v) (hown : w.ownsRow base e size v k xs) (ad : Addr) (m c : Nat) (news : List Value) (hx : a.eval x = .slice (some ad) m c) (hn : news.length = m * size)
    (hc : ∀ j u, news[j]? = some u → w.cell? (ad.add j) = some u) (h1c : ∀ u ∈ news, u.oneCell' = true) (b1 : k + m ≤ maxLen) (b2 : (k + m) * bytes ≤ 140737488355328) (b3 : base ≤ w.heap.size)
    (hK : ∀ v' w', w'.ownsRow base e size v' (k + m) (xs ++ news) → w.grownBy w' v.ownBlock → (v' = .slice none 0 0 ↔ v = .slice none 0 0 ∧ m = 0) → wpListIn F n P ops Q rest (a.put o.dst v') w') :
    wpListIn F n P ops Q (o :: rest) a w := by
  obtain ⟨i, hi, hz, hsz, hby⟩ := info_parts hinfo
  exact wpListIn_append_own w hg s x t hop base e i z size bytes h1 hi hz hsz hby h6 h7 v k xs hs hown ad m c news hx hn hc h1c b1 b2 b3 hK

/-- The same, outside. -/
theorem wpList_appC {P : Program} (w : World) {ops : Array Oper} {rest : List Oper} {o : Oper} {a : Act} {Q : Exit → Act → World → Prop}
    (hg : o.guard = none) (s x : Operand) (t : TypeId) (hop : o.op = Op.call { callee := Callee.builtin Builtin.append, args := #[s, x], argTypes := #[t, t] })
    (base : Nat) (e : TypeId) {z : Value} {size bytes : Nat} (h1 : P.underlying t = some (.slice e)) (hinfo : (P.info? e).map (fun i => (i.zero, i.size, i.bytes)) = some (some z, size, bytes)) (h6 : z.cells.size = size) (h7 : 0 < size)
    (v : Value) (k : Nat) (xs : List Value) (hs : a.eval s = v) (hown : w.ownsRow base e size v k xs) (ad : Addr) (m c : Nat) (news : List Value) (hx : a.eval x = .slice (some ad) m c) (hn : news.length = m * size)
    (hc : ∀ j u, news[j]? = some u → w.cell? (ad.add j) = some u) (h1c : ∀ u ∈ news, u.oneCell' = true) (b1 : k + m ≤ maxLen) (b2 : (k + m) * bytes ≤ 140737488355328) (b3 : base ≤ w.heap.size)
    (hK : ∀ v' w', w'.ownsRow base e size v' (k + m) (xs ++ news) → w.grownBy w' v.ownBlock → (v' = .slice none 0 0 ↔ v = .slice none 0 0 ∧ m = 0) → wpList P ops Q rest (a.put o.dst v') w') :
    wpList P ops Q (o :: rest) a w := by
  obtain ⟨i, hi, hz, hsz, hby⟩ := info_parts hinfo
  exact wpList_append_own w hg s x t hop base e i z size bytes h1 hi hz hsz hby h6 h7 v k xs hs hown ad m c news hx hn hc h1c b1 b2 b3 hK
end Go.Tm
