import Derived.Test.YtehmpdioofldaaaAppC
import Derived.Test.YtehmpdioofldaaaPool
import Derived.Test.YtehmpdioofldaaaRoom
import Derived.Deep.QuietTactic
/- Small words on memory for the laws on what is new. -/
set_option linter.unusedVariables false
set_option linter.unusedSimpArgs false
namespace Go.Tm
open Go Go.RowKit
theorem quiet_eq {P : Program} {f : FuncId} {args : Array Value} {w : World} {n : Nat} {v : Value} (h : Calls P f args (w.drewN n) fun e w' => e = .returned v ∧ w.drewN n = w') : Calls P f args (w.drewN n) fun e w'' => e = .returned v ∧ ∃ m, w'' = w.drewN m :=
  Calls.quiet_of_same (h.mono fun _ _ ⟨a, b⟩ => ⟨a, b.symm⟩)
theorem kept_rda2 {S : Nat → Prop} {w w1 : World} (h : KeptBut S w w1) {A : Option Addr} {c : Nat} {l : List UInt8} (hr : Rda w A c l) (hS : 0 < l.length → ∀ a, A = some a → ¬ S a.block) : Rda w1 A c l :=
  ⟨hr.cap, hr.max, hr.nil, fun h0 => by
    obtain ⟨g, o, e, hc⟩ := hr.cells h0
    exact ⟨g, o, e, fun j hj => h.cell (hc j hj) (hS h0 ⟨g, o, none⟩ e)⟩⟩
theorem rda_block2 {w : World} {A : Option Addr} {c : Nat} {l : List UInt8} (h : Rda w A c l) (hl : 0 < l.length) : ∀ a, A = some a → a.block < w.heap.size := by
  intro a ha
  obtain ⟨g, o, e, hc⟩ := h.cells hl
  rw [e] at ha
  injection ha with ha
  subst ha
  exact World.block_lt_of_cell? _ _ (hc 0 hl)
theorem own_ne {w : World} {base : Nat} {e T : TypeId} {size k g : Nat} {v : Value} {xs : List Value} {cur : Array Value} {z : Nat × Nat} (h : w.ownsRow base e size v k xs) (hg : w.heap[g]? = some (.cells cur T z)) (hT : T ≠ e) : v.ownBlock ≠ some g := by
  intro hv
  rcases h.2 with ⟨rfl, _⟩ | ⟨g', cap, cur', rfl, _, hh, _⟩
  · cases hv
  · have e1 : g' = g := by simpa [Value.ownBlock] using hv
    subst e1
    rw [hh] at hg
    injection hg with hg
    injection hg with _ hg _
    exact hT hg.symm
theorem ownsRow_but {w w' : World} {base : Nat} {e : TypeId} {size k : Nat} {v : Value} {xs : List Value} (h : w.ownsRow base e size v k xs) {S : Nat → Prop} (hk : KeptBut S w w') (hS : ∀ g, v.ownBlock = some g → ¬ S g) : w'.ownsRow base e size v k xs := by
  refine ⟨h.1, ?_⟩
  rcases h.2 with h0 | ⟨g, cap, cur, rfl, hbg, hg, rest⟩
  · exact .inl h0
  · exact .inr ⟨g, cap, cur, rfl, hbg, (hk.block g (Array.getElem?_eq_some_iff.1 hg).1 (hS g rfl)).trans hg, rest⟩
/-- The cells of an own row. -/
theorem own_cell {w : World} {base : Nat} {e : TypeId} {A : Option Addr} {k c : Nat} {xs : List Value} (h : w.ownsRow base e 1 (.slice A k c) k xs) {q : Nat} {x : Value} (hq : xs[q]? = some x) : ∃ g, A = some ⟨g, 0, none⟩ ∧ w.cell? ⟨g, q, none⟩ = some x ∧ k ≤ c := by
  rcases h.2 with ⟨e1, e2⟩ | ⟨g, cap, cur, e1, hg, hblk, hnc, _, hsz, htk⟩
  · have h1 := h.1
    have := (List.getElem?_eq_some_iff.1 hq).1
    omega
  · injection e1 with ea eb ec
    subst ea ec
    refine ⟨g, rfl, ?_, hnc⟩
    rw [← htk, List.getElem?_take] at hq
    split at hq
    · unfold World.cell?
      rw [hblk]
      simpa using hq
    · cases hq
theorem own_slice {w : World} {base : Nat} {e : TypeId} {size : Nat} {v : Value} {k : Nat} {xs : List Value} (h : w.ownsRow base e size v k xs) : ∃ A c, v = .slice A k c := by
  rcases h.2 with ⟨e1, e2⟩ | ⟨g, cap, cur, e1, _⟩
  · exact ⟨none, 0, by rw [e1, e2]⟩
  · exact ⟨some ⟨g, 0, none⟩, cap, e1⟩
end Go.Tm
