import Derived.Test.YtiaehoppdihbdaaRec8b
/- A slice of structs as the cells that an append takes. -/
set_option linter.unusedVariables false
set_option linter.unusedSimpArgs false
namespace Go.Proofs.Ytiaehoppdihbdaa
open Go.RowKit Go.Tm
theorem flat_at {α : Type} {f : α → List Value} {size : Nat} (hf : ∀ x, (f x).length = size) : ∀ (l : List α) (j : Nat) (u : Value), (l.flatMap f)[j]? = some u → ∃ k i x, l[k]? = some x ∧ (f x)[i]? = some u ∧ j = k * size + i
  | [], j, u, h => by simp at h
  | y :: l, j, u, h => by
    rw [List.flatMap_cons] at h
    by_cases hj : j < size
    · rw [List.getElem?_append_left (by rw [hf]; exact hj)] at h
      exact ⟨0, j, y, rfl, h, by simp⟩
    · rw [List.getElem?_append_right (by rw [hf]; omega), hf] at h
      obtain ⟨k, i, x, h1, h2, h3⟩ := flat_at hf l (j - size) u h
      exact ⟨k + 1, i, x, by simpa using h1, h2, by rw [Nat.succ_mul]; omega⟩
theorem rdS_news {α : Type} {R : Rdr α} {f : α → List Value} {size : Nat} {w : World} {g o c : Nat} {l : List α} (h : RdS size R w (some ⟨g, o, none⟩) c l) (hf : ∀ x, (f x).length = size) (hR : ∀ cs x, R w cs x → cs = f x) :
    ∀ j u, (l.flatMap f)[j]? = some u → w.cell? ((⟨g, o, none⟩ : Addr).add j) = some u := by
  intro j u hj
  obtain ⟨k, i, x, h1, h2, h3⟩ := flat_at hf l j u hj
  obtain ⟨g', o', e, hc⟩ := h.cells (Nat.lt_of_le_of_lt (Nat.zero_le _) (List.getElem?_eq_some_iff.1 h1).1)
  injection e with e
  injection e with e1 e2
  subst e1 e2
  obtain ⟨cs, h4, h5, h6⟩ := hc k x h1
  have h7 := hR cs x h6
  subst h7
  rw [h3, Addr.add_lit]
  have := h5 i u h2
  rwa [Nat.add_assoc] at this
end Go.Proofs.Ytiaehoppdihbdaa
