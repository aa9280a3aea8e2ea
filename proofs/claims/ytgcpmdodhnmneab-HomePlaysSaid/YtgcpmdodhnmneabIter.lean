import Derived.RangeFuncNested
import Derived.RangeFuncBound
import Derived.RangeFuncCalls
import Derived.RangeFuncLeaves
/- An iterator that goes over another iterator: the word that its caller is asked for (whatever is no cells may turn, from the call's heap on), and the law for a loop over such a one. -/
set_option linter.unusedVariables false
set_option linter.unusedSimpArgs false
namespace Go.Tm
open Go Go.RowKit

/-- What a round keeps of the world: the blocks of K (ahead of the caller), and those that the iterator has made since it was called (from n1 on). -/
structure RK (K : Nat → Prop) (n1 : Nat) (W W' : World) : Prop where
  size : W.heap.size ≤ W'.heap.size
  block : ∀ k, k < W.heap.size → (K k ∨ n1 ≤ k) → W'.heap[k]? = W.heap[k]?
theorem RK.refl (K : Nat → Prop) (n1 : Nat) (W : World) : RK K n1 W W := ⟨Nat.le_refl _, fun _ _ _ => rfl⟩
theorem RK.trans {K : Nat → Prop} {n1 : Nat} {A B C : World} (h : RK K n1 A B) (k : RK K n1 B C) : RK K n1 A C :=
  ⟨Nat.le_trans h.size k.size, fun i hi hc => (k.block i (Nat.lt_of_lt_of_le hi h.size) hc).trans (h.block i hi hc)⟩
theorem RK.putObj {K : Nat → Prop} {n1 : Nat} (W : World) (l : Nat) (o : Obj) (h0 : ¬ K l) (h1 : l < n1) : RK K n1 W (W.putObj l o) :=
  ⟨by simp, fun k _ hc => World.putObj_heap_other (by rintro rfl; rcases hc with hc | hc; exact h0 hc; omega)⟩
theorem RK.grown {K : Nat → Prop} {n1 : Nat} {W W' : World} {row : Option Nat} (hg : W.grownBy W' row) (hr : ∀ k, row = some k → (¬ K k ∧ k < n1)) : RK K n1 W W' :=
  ⟨hg.size, fun k hk hc => hg.block k hk (fun e => by have := hr k e.symm; rcases hc with hc | hc; exact this.1 hc; omega)⟩

/-- The contract of an iterator: at each round the caller's word J goes on, or the iterator ends with Jx. J abides new blocks and turns of blocks that are no cells, from the heap's end at the call on. -/
def SeqO {α : Type} (F : Fence) (n : Nat) (P : Program) (g : Nat) (lb : Array Value) (encs : α → Array Value) (K : Nat → Prop) (S Sp : List α → Prop) (N : Nat) (w : World) : Prop :=
  ∀ (l : Nat) (J Jx : List α → World → Prop) (W : World), Below w.heap.size w W → OwnFrom W.heap.size J → OwnFrom W.heap.size Jx →
    (∀ pre x W1, J pre W1 → pre.length < N → YieldAt F (n - 1) P l (encs x) W1 fun e W' =>
      (e = .returned (.bool true) ∧ J (pre ++ [x]) W' ∧ RK K W.heap.size W1 W') ∨ (e = .returned (.bool false) ∧ Jx (pre ++ [x]) W' ∧ RK K W.heap.size W1 W')) →
    J [] W →
    CallsIn F n P g (#[.func (.yield l) #[] #[]] ++ lb) W fun e W' => (∃ v, e = .returned v) ∧ ((∃ xs, S xs ∧ J xs W') ∨ (∃ pre, Sp pre ∧ Jx pre W'))

/-- How a round of the body may be left. -/
def postO {α : Type} (B : Nat) (K : Nat → Prop) (I : List α → World → Prop) (Ix : Code → List α → World → Prop) (xs : List α) (W : World) : Exit → Act → World → Prop
  | .normal, _, W' => KeepsFrom B W W' ∧ RK K (B + 2) W W' ∧ I xs W'
  | .ret, _, W' => KeepsFrom B W W' ∧ RK K (B + 2) W W' ∧ Ix .ret xs W'
  | .exit id, _, W' => KeepsFrom B W W' ∧ RK K (B + 2) W W' ∧ Ix (.exit id) xs W'
  | .goto t, _, W' => KeepsFrom B W W' ∧ RK K (B + 2) W W' ∧ Ix (.goto t) xs W'
  | .panic _, _, _ => False
  | .outgrown, _, _ => False
variable {F : Fence} {n : Nat} {P : Program}
/-- A loop over such an iterator, outside every other loop's round. -/
theorem rangeH {α : Type} {g : Operand} {ps : Array Tmp} {assign body : Code} {Q : Exit → Act → World → Prop} {a : Act} {w : World}
    (hro : F.round = none) (h1 : 1 ≤ n) {gf : Nat} {lb : Array Value} (hg : a.eval g = .func (.func gf) #[] lb) (hFg : F.fn gf) (eg : ∀ args w, (callFunc gf args).run P w = .ok (.enter gf args) w)
    {encs : α → Array Value} {K : Nat → Prop} {S Sp : List α → Prop} {N : Nat} {w0 : World} (hseq : SeqO F (n - 1) P gf lb encs K S Sp N w0)
    (hn0 : ∀ k, K k → k < w.heap.size) (hb0 : Below w0.heap.size w0 w) (hps : ∀ x, (encs x).size = ps.size)
    (I : List α → World → Prop) (Ix : Code → List α → World → Prop) (hI : OwnFrom w.heap.size I) (hIx : ∀ c, OwnFrom w.heap.size (Ix c)) (h0 : I [] w) (Ax : α → Act → World → Prop) (hAx : ∀ x a', OwnFrom w.heap.size (fun (_ : Unit) W => Ax x a' W))
    (hassign : ∀ (l : Nat) (pre : List α) (x : α) (W : World) (K' : Act → World → Prop), I pre W → (∀ a' W', KeepsFrom w.heap.size W W' → RK K (w.heap.size + 2) W W' → I pre W' → Ax x a' W' → K' a' W') →
      assign.wpIn (F.inRound l) (n - 1 - 1) P (Exit.then K' (fun _ _ _ => False)) { tmps := (ps.zip (encs x)).foldl (fun t (p, v) => t.setIfInBounds p v) a.tmps, defers := [] } W)
    (hbody : ∀ (l : Nat) (pre : List α) (x : α) (a' : Act) (W : World), I pre W → Ax x a' W → pre.length < N → body.wpIn (F.inRound l) (n - 1 - 1) P (postO w.heap.size K I Ix (pre ++ [x]) W) a' W)
    (hdone : ∀ (D : Nat) (xs : List α) (W : World), w.heap.size ≤ D → S xs → I xs W → W.heap[D]? = some (.deferred (some [])) → Q .normal { a with defers := { target := .collected D, args := #[] } :: a.defers } W)
    (hstop : ∀ (D : Nat) (c : Code) (pre : List α) (W : World), w.heap.size ≤ D → Sp pre → Ix c pre W → W.heap[D]? = some (.deferred (some [])) → c.wpIn F n P Q { a with defers := { target := .collected D, args := #[] } :: a.defers } W) :
    (Code.rangeFunc g ps assign body).wpIn F n P Q a w := by
  refine wpIn_rangeFunc ?_
  intro fn hfn
  rw [hro]
  -- the loop's record (its state, a jump that waits), the world in which the iterator is called
  let rec' : LoopState → Option Code → Loop := fun st pe => { state := st, pending := pe, fn, tmps := a.tmps, params := ps, assign, body, defers := w.heap.size }
  obtain ⟨rec, hrec⟩ : ∃ r, r = rec' := ⟨_, rfl⟩
  have hnK : ¬ K (w.heap.size + 1) := fun h => by have := hn0 _ h; omega
  have hW1 : ∃ W1, (w.alloc (.deferred (some []))).alloc (.loop (rec .ready none)) = W1 := ⟨_, rfl⟩
  obtain ⟨W1, hW1⟩ := hW1
  have hL1 : W1.heap[w.heap.size + 1]? = some (.loop (rec .ready none)) := by
    subst hW1
    simpa using World.alloc_heap_new (w.alloc (.deferred (some []))) (.loop (rec .ready none))
  have hK1 : W1.heap[w.heap.size]? = some (.deferred (some [])) := by
    subst hW1
    exact (Below.heap_alloc _ _ _ (by simp)).trans (World.alloc_heap_new w _)
  have hs1 : W1.heap.size = w.heap.size + 2 := by subst hW1; simp
  have hI1 : I [] W1 := by subst hW1; exact hI.alloc _ (hI.alloc _ h0)
  have hb1 : Below w0.heap.size w0 W1 := by
    subst hW1
    exact hb0.trans ((((Below.refl _ w).alloc (Nat.le_refl _) _).alloc (by simp) _).mono hb0.size)
  refine ⟨w.heap.size + 1, [{ target := .collected w.heap.size, args := #[] }], W1, { target := .fn (.func gf) lb, args := #[.func (.yield (w.heap.size + 1)) #[] #[]] }, W1, gf,
    #[.func (.yield (w.heap.size + 1)) #[] #[]] ++ lb, W1, ?_, ?_, ?_, ?_, fun _ => h1, ?_⟩
  · rw [← hW1, hrec]
    exact run_enterLoop_outer _ _ _ _ _
  · simp only [resolve, hg]
    simp [go_sem]
  · intro f' hf'
    simp [Target.leads] at hf'
    subst hf'
    exact hFg
  · simp [invoke, go_sem, eg]
  · -- a turn that the iterator may make: neither of the two blocks
    have apart : ∀ {A : World} {row : Option Nat} {j : Nat}, (∀ r, row = some r → W1.heap.size ≤ r ∧ ∃ o : Obj, A.heap[r]? = some o ∧ o.isCells = false) → j < W1.heap.size → some j ≠ row :=
      fun hr hj e => by have := (hr _ e.symm).1; omega
    have wide : ∀ {A : World} {row : Option Nat}, (∀ r, row = some r → W1.heap.size ≤ r ∧ ∃ o : Obj, A.heap[r]? = some o ∧ o.isCells = false) → (∀ r, row = some r → w.heap.size ≤ r ∧ ∃ o : Obj, A.heap[r]? = some o ∧ o.isCells = false) :=
      fun hr r e => ⟨by have := (hr r e).1; omega, (hr r e).2⟩
    refine (hseq (w.heap.size + 1)
      (fun pre W => I pre W ∧ W.heap[w.heap.size + 1]? = some (.loop (rec .ready none)) ∧ W.heap[w.heap.size]? = some (.deferred (some [])))
      (fun pre W => ∃ c, Ix c pre W ∧ W.heap[w.heap.size + 1]? = some (.loop (rec .done (some c))) ∧ W.heap[w.heap.size]? = some (.deferred (some [])))
      W1 hb1
      (fun s A B row hs hg' hr => ⟨hI s A B row hs.1 hg' (wide hr), (hg'.block _ (Array.getElem?_eq_some_iff.1 hs.2.1).1 (apart hr (by omega))).trans hs.2.1, (hg'.block _ (Array.getElem?_eq_some_iff.1 hs.2.2).1 (apart hr (by omega))).trans hs.2.2⟩)
      (fun s A B row hs hg' hr => by
        obtain ⟨c, hc, hl, hk⟩ := hs
        exact ⟨c, hIx c s A B row hc hg' (wide hr), (hg'.block _ (Array.getElem?_eq_some_iff.1 hl).1 (apart hr (by omega))).trans hl, (hg'.block _ (Array.getElem?_eq_some_iff.1 hk).1 (apart hr (by omega))).trans hk⟩)
      ?_ ⟨hI1, hL1, hK1⟩).mono ?_
    · -- one round
      rintro pre x W ⟨hi, hl, hk⟩ hlen
      have hy := run_yield (P := P) (args := encs x) hl (by rw [hrec]; exact hps x)
      rw [hrec] at hy
      refine ⟨fn, _, assign, body, hy, roundIn_of_wpIn hfn (hassign _ pre x W _ hi ?_)⟩
      intro a' Wa hka hra hia hax
      have hl' := hka.same _ _ (by omega) hl rfl
      have hk' := hka.same _ _ (Nat.le_refl _) hk rfl
      have hlt : w.heap.size + 1 < Wa.heap.size := (Array.getElem?_eq_some_iff.1 hl').1
      refine ⟨_, run_beginRound hl' (by rw [hrec]), ?_⟩
      have hl2 : (Wa.putObj (w.heap.size + 1) (.loop { rec .ready none with state := .busy })).heap[w.heap.size + 1]? = some (.loop { rec .ready none with state := .busy }) := World.putObj_heap_same hlt
      have hk2 : (Wa.putObj (w.heap.size + 1) (.loop { rec .ready none with state := .busy })).heap[w.heap.size]? = some (.deferred (some [])) := (World.putObj_heap_other (by omega)).trans hk'
      have hw2 : RK K (w.heap.size + 2) W (Wa.putObj (w.heap.size + 1) (.loop { rec .ready none with state := .busy })) := hra.trans (RK.putObj _ _ _ hnK (by omega))
      refine wpIn_mono (hbody _ pre x a' _ (hI.putObj _ hia (by omega) hl' rfl) ((hAx x a').putObj (s := ()) _ hax (by omega) hl' rfl) hlen) ?_
      have fin : ∀ (jump : Option Code) (W3 : World), KeepsFrom w.heap.size (Wa.putObj (w.heap.size + 1) (.loop { rec .ready none with state := .busy })) W3 →
          (Instr.endRound (w.heap.size + 1) jump).run P W3 = .ok (.bool jump.isNone) (W3.putObj (w.heap.size + 1) (.loop (rec (if jump.isNone then .ready else .done) jump))) ∧
          W3.heap[w.heap.size + 1]? = some (.loop { rec .ready none with state := .busy }) ∧
          (W3.putObj (w.heap.size + 1) (.loop (rec (if jump.isNone then .ready else .done) jump))).heap[w.heap.size + 1]? = some (.loop (rec (if jump.isNone then .ready else .done) jump)) ∧
          (W3.putObj (w.heap.size + 1) (.loop (rec (if jump.isNone then .ready else .done) jump))).heap[w.heap.size]? = some (.deferred (some [])) := fun jump W3 hk3 => by
        have hl3 := hk3.same _ _ (by omega) hl2 rfl
        have := run_endRound (P := P) jump hl3
        rw [hrec] at this ⊢
        exact ⟨this, by rw [hrec] at hl3; exact hl3, World.putObj_heap_same (Array.getElem?_eq_some_iff.1 hl3).1, (World.putObj_heap_other (by omega)).trans (hk3.same _ _ (Nat.le_refl _) hk2 rfl)⟩
      have leave : ∀ (c : Code) (W3 : World), KeepsFrom w.heap.size (Wa.putObj (w.heap.size + 1) (.loop { rec .ready none with state := .busy })) W3 → RK K (w.heap.size + 2) (Wa.putObj (w.heap.size + 1) (.loop { rec .ready none with state := .busy })) W3 → Ix c (pre ++ [x]) W3 →
          (∃ c', Ix c' (pre ++ [x]) (W3.putObj (w.heap.size + 1) (.loop (rec .done (some c)))) ∧ (W3.putObj (w.heap.size + 1) (.loop (rec .done (some c)))).heap[w.heap.size + 1]? = some (.loop (rec .done (some c'))) ∧
            (W3.putObj (w.heap.size + 1) (.loop (rec .done (some c)))).heap[w.heap.size]? = some (.deferred (some []))) ∧ RK K W1.heap.size W (W3.putObj (w.heap.size + 1) (.loop (rec .done (some c)))) := fun c W3 hk3 hkp3 hi3 => by
        obtain ⟨_, hl3, hl4, hk4⟩ := fin (some c) W3 hk3
        exact ⟨⟨c, (hIx c).putObj _ hi3 (by omega) hl3 rfl, hl4, hk4⟩, by rw [hs1]; exact (hw2.trans hkp3).trans (RK.putObj _ _ _ hnK (by omega))⟩
      rintro e a3 W3 hp
      cases e with
      | normal =>
        obtain ⟨hk3, hkp3, hi3⟩ := hp
        obtain ⟨hr, hl3, hl4, hk4⟩ := fin none W3 hk3
        exact ⟨_, _, hr, .inl ⟨rfl, ⟨hI.putObj _ hi3 (by omega) hl3 rfl, hl4, hk4⟩, by rw [hs1]; exact (hw2.trans hkp3).trans (RK.putObj _ _ _ hnK (by omega))⟩⟩
      | ret => exact ⟨_, _, (fin (some .ret) W3 hp.1).1, .inr ⟨rfl, leave _ W3 hp.1 hp.2.1 hp.2.2⟩⟩
      | exit id => exact ⟨_, _, (fin (some (.exit id)) W3 hp.1).1, .inr ⟨rfl, leave _ W3 hp.1 hp.2.1 hp.2.2⟩⟩
      | goto t => exact ⟨_, _, (fin (some (.goto t)) W3 hp.1).1, .inr ⟨rfl, leave _ W3 hp.1 hp.2.1 hp.2.2⟩⟩
      | panic ch => exact hp.elim
      | outgrown => exact hp.elim
    · -- behind the iterator
      rintro e W2 ⟨⟨v, rfl⟩, (⟨xs, hS, hi, hl, hk⟩ | ⟨pre, hSp, c, hi, hl, hk⟩)⟩
      · exact ⟨none, _, by have := run_endLoop (P := P) hl (by rw [hrec]; simp [rec']); rw [hrec] at this; exact this, hdone _ xs _ (Nat.le_refl _) hS (hI.putObj _ hi (by omega) hl rfl) ((World.putObj_heap_other (by omega)).trans hk)⟩
      · exact ⟨some c, _, by have := run_endLoop (P := P) hl (by rw [hrec]; simp [rec']); rw [hrec] at this; exact this, hstop _ c pre _ (Nat.le_refl _) hSp ((hIx c).putObj _ hi (by omega) hl rfl) ((World.putObj_heap_other (by omega)).trans hk)⟩

/-- The same, where the assignment of the loop's variables leaves the world as it is. -/
theorem rangeO {α : Type} {g : Operand} {ps : Array Tmp} {assign body : Code} {Q : Exit → Act → World → Prop} {a : Act} {w : World}
    (hro : F.round = none) (h1 : 1 ≤ n) {gf : Nat} {lb : Array Value} (hg : a.eval g = .func (.func gf) #[] lb) (hFg : F.fn gf) (eg : ∀ args w, (callFunc gf args).run P w = .ok (.enter gf args) w)
    {encs : α → Array Value} {K : Nat → Prop} {S Sp : List α → Prop} {N : Nat} {w0 : World} (hseq : SeqO F (n - 1) P gf lb encs K S Sp N w0)
    (hn0 : ∀ k, K k → k < w.heap.size) (hb0 : Below w0.heap.size w0 w) (hps : ∀ x, (encs x).size = ps.size)
    (I : List α → World → Prop) (Ix : Code → List α → World → Prop) (hI : OwnFrom w.heap.size I) (hIx : ∀ c, OwnFrom w.heap.size (Ix c)) (h0 : I [] w) (a₁ : α → Act)
    (hassign : ∀ (l : Nat) (x : α) (W : World) (K' : Act → World → Prop), K' (a₁ x) W →
      assign.wpIn (F.inRound l) (n - 1 - 1) P (Exit.then K' (fun _ _ _ => False)) { tmps := (ps.zip (encs x)).foldl (fun t (p, v) => t.setIfInBounds p v) a.tmps, defers := [] } W)
    (hbody : ∀ (l : Nat) (pre : List α) (x : α) (W : World), I pre W → pre.length < N → body.wpIn (F.inRound l) (n - 1 - 1) P (postO w.heap.size K I Ix (pre ++ [x]) W) (a₁ x) W)
    (hdone : ∀ (D : Nat) (xs : List α) (W : World), w.heap.size ≤ D → S xs → I xs W → W.heap[D]? = some (.deferred (some [])) → Q .normal { a with defers := { target := .collected D, args := #[] } :: a.defers } W)
    (hstop : ∀ (D : Nat) (c : Code) (pre : List α) (W : World), w.heap.size ≤ D → Sp pre → Ix c pre W → W.heap[D]? = some (.deferred (some [])) → c.wpIn F n P Q { a with defers := { target := .collected D, args := #[] } :: a.defers } W) :
    (Code.rangeFunc g ps assign body).wpIn F n P Q a w :=
  rangeH hro h1 hg hFg eg hseq hn0 hb0 hps I Ix hI hIx h0 (fun x a' _ => a' = a₁ x) (fun _ _ _ _ _ _ hs _ _ => hs)
    (fun l pre x W K' hi hK => hassign l x W K' (hK _ _ (KeepsFrom.refl _ _) (RK.refl _ _ _) hi rfl)) (fun l pre x a' W hi e hlen => by subst e; exact hbody l pre x W hi hlen) hdone hstop
end Go.Tm
