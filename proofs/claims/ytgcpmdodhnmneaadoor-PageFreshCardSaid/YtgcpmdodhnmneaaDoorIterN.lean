import Derived.Test.YtgcpmdodhnmneaaDoorIter
import Derived.Test.YtgcpmdodhnmneaaDoorMem
import Derived.OwnWalkIn
import Derived.RangeFuncBox
/- A loop over an iterator where the frame is not spelled out: the loop's variables are handed on as they come, or one of them is laid in a box. -/
set_option linter.unusedVariables false
set_option linter.unusedSimpArgs false
namespace Go.Tm
open Go Go.RowKit
variable {F : Fence} {n : Nat} {P : Program}
/-- The frame in which a round begins. -/
def inFrame {α : Type} (ps : Array Tmp) (encs : α → Array Value) (a : Act) (x : α) : Array Value := (ps.zip (encs x)).foldl (fun t (p, v) => t.setIfInBounds p v) a.tmps
theorem rangeN {α : Type} {g : Operand} {ps : Array Tmp} {assign body : Code} {Q : Exit → Act → World → Prop} {a : Act} {w : World}
    (hro : F.round = none) (h1 : 1 ≤ n) {gf : Nat} {lb : Array Value} (hg : a.eval g = .func (.func gf) #[] lb) (hFg : F.fn gf) (eg : ∀ args w, (callFunc gf args).run P w = .ok (.enter gf args) w)
    {encs : α → Array Value} {K : Nat → Prop} {S Sp : List α → Prop} {N : Nat} {w0 : World} (hseq : SeqO F (n - 1) P gf lb encs K S Sp N w0)
    (hn0 : ∀ k, K k → k < w.heap.size) (hb0 : Below w0.heap.size w0 w) (hps : ∀ x, (encs x).size = ps.size)
    (I : List α → World → Prop) (Ix : Code → List α → World → Prop) (hI : OwnFrom w.heap.size I) (hIx : ∀ c, OwnFrom w.heap.size (Ix c)) (h0 : I [] w)
    (hassign : ∀ (l : Nat) (x : α) (W : World) (K' : Act → World → Prop), K' { tmps := inFrame ps encs a x, defers := [] } W →
      assign.wpIn (F.inRound l) (n - 1 - 1) P (Exit.then K' (fun _ _ _ => False)) { tmps := inFrame ps encs a x, defers := [] } W)
    (hbody : ∀ (l : Nat) (pre : List α) (x : α) (W : World), I pre W → pre.length < N → body.wpIn (F.inRound l) (n - 1 - 1) P (postO w.heap.size K I Ix (pre ++ [x]) W) { tmps := inFrame ps encs a x, defers := [] } W)
    (hdone : ∀ (D : Nat) (xs : List α) (W : World), w.heap.size ≤ D → S xs → I xs W → W.heap[D]? = some (.deferred (some [])) → Q .normal { a with defers := { target := .collected D, args := #[] } :: a.defers } W)
    (hstop : ∀ (D : Nat) (c : Code) (pre : List α) (W : World), w.heap.size ≤ D → Sp pre → Ix c pre W → W.heap[D]? = some (.deferred (some [])) → c.wpIn F n P Q { a with defers := { target := .collected D, args := #[] } :: a.defers } W) :
    (Code.rangeFunc g ps assign body).wpIn F n P Q a w :=
  rangeO hro h1 hg hFg eg hseq hn0 hb0 hps I Ix hI hIx h0 (fun x => { tmps := inFrame ps encs a x, defers := [] }) hassign hbody hdone hstop

/-- One box for the loop's variable. -/
theorem rangeB {α : Type} {g : Operand} {ps : Array Tmp} {assign body : Code} {Q : Exit → Act → World → Prop} {a : Act} {w : World}
    (hro : F.round = none) (h1 : 1 ≤ n) {gf : Nat} {lb : Array Value} (hg : a.eval g = .func (.func gf) #[] lb) (hFg : F.fn gf) (eg : ∀ args w, (callFunc gf args).run P w = .ok (.enter gf args) w)
    {encs : α → Array Value} {K : Nat → Prop} {S Sp : List α → Prop} {N : Nat} {w0 : World} (hseq : SeqO F (n - 1) P gf lb encs K S Sp N w0)
    (hn0 : ∀ k, K k → k < w.heap.size) (hb0 : Below w0.heap.size w0 w) (hps : ∀ x, (encs x).size = ps.size)
    (I : List α → World → Prop) (Ix : Code → List α → World → Prop) (hI : OwnFrom w.heap.size I) (hIx : ∀ c, OwnFrom w.heap.size (Ix c)) (h0 : I [] w)
    (T : TypeId) (bx : α → List Value) (fr : α → Nat → Array Value → Array Value) (hIb : ∀ pre W, I pre W → w.heap.size ≤ W.heap.size ∧ ∀ o, I pre (W.alloc o))
    (hassign : ∀ (l : Nat) (x : α) (W : World) (K' : Act → World → Prop), K' { tmps := fr x W.heap.size (inFrame ps encs a x), defers := [] } (W.alloc (.cells (bx x).toArray T)) →
      assign.wpIn (F.inRound l) (n - 1 - 1) P (Exit.then K' (fun _ _ _ => False)) { tmps := inFrame ps encs a x, defers := [] } W)
    (hbody : ∀ (l : Nat) (pre : List α) (x : α) (B : Nat) (W : World), I pre W → w.heap.size ≤ B → W.heap[B]? = some (.cells (bx x).toArray T (0, 0)) → pre.length < N →
      body.wpIn (F.inRound l) (n - 1 - 1) P (postO w.heap.size K I Ix (pre ++ [x]) W) { tmps := fr x B (inFrame ps encs a x), defers := [] } W)
    (hdone : ∀ (D : Nat) (xs : List α) (W : World), w.heap.size ≤ D → S xs → I xs W → W.heap[D]? = some (.deferred (some [])) → Q .normal { a with defers := { target := .collected D, args := #[] } :: a.defers } W)
    (hstop : ∀ (D : Nat) (c : Code) (pre : List α) (W : World), w.heap.size ≤ D → Sp pre → Ix c pre W → W.heap[D]? = some (.deferred (some [])) → c.wpIn F n P Q { a with defers := { target := .collected D, args := #[] } :: a.defers } W) :
    (Code.rangeFunc g ps assign body).wpIn F n P Q a w :=
  rangeH hro h1 hg hFg eg hseq hn0 hb0 hps I Ix hI hIx h0 (fun x a' V => ∃ B, w.heap.size ≤ B ∧ V.heap[B]? = some (.cells (bx x).toArray T (0, 0)) ∧ a' = { tmps := fr x B (inFrame ps encs a x), defers := [] })
    (fun x a' s V V' row hs hg hr => by
      obtain ⟨Bx, h1, h2, h3⟩ := hs
      exact ⟨Bx, h1, (grownBy_keeps_cells hg (fun r e => (hr r e).2) h2 rfl).trans h2, h3⟩)
    (fun l pre x W K' hi hK => hassign l x W K' (by
      have hal := (Below.refl W.heap.size W).alloc (Nat.le_refl _) (.cells (bx x).toArray T)
      exact hK _ _ ⟨hal.size, fun k o hB hk _ => (hal.block k (Array.getElem?_eq_some_iff.1 hk).1).trans hk⟩ ⟨hal.size, fun k hk hc => hal.block k hk⟩ ((hIb pre W hi).2 _) ⟨W.heap.size, (hIb pre W hi).1, heap_alloc_new W _, rfl⟩))
    (fun l pre x a' W hi hx hlen => by
      obtain ⟨B, h1, h2, rfl⟩ := hx
      exact hbody l pre x B W hi h1 h2 hlen) hdone hstop

/-- A number's box is written anew. -/
theorem box_set {K : Nat → Prop} {W0 V : World} {B : Nat} {x : Value} {T : TypeId} (hB : B < W0.heap.size) (hK : ∀ k, K k → k ≠ B) (hv : V.heap[B]? = some (.cells #[x] T (0, 0))) (hk : KeptBut (fun g => g = B) W0 V) (y : Value) :
    KeepsFrom W0.heap.size V (V.setCell ⟨B, 0, none⟩ y) ∧ RK K (W0.heap.size + 2) V (V.setCell ⟨B, 0, none⟩ y) ∧ (V.setCell ⟨B, 0, none⟩ y).heap[B]? = some (.cells #[y] T (0, 0)) ∧ KeptBut (fun g => g = B) W0 (V.setCell ⟨B, 0, none⟩ y) := by
  have hg := grownBy_setCell' V B y
  refine ⟨⟨hg.size, fun k o hb hk' _ => (hg.block k (Array.getElem?_eq_some_iff.1 hk').1 (fun e => by injection e with e; omega)).trans hk'⟩, ⟨hg.size, fun k hk' hc => hg.block k hk' (fun e => by
    injection e with e
    rcases hc with hc | hc
    · exact hK k hc e
    · omega)⟩, Boxed.set y hv, hk.grown hg (fun k e => .inl (by injection e with e; exact e.symm))⟩
theorem kept_own {β : Type} {B : Nat} {W : World} (hB : B < W.heap.size) : OwnFrom W.heap.size (fun (_ : β) V => KeptBut (fun g => g = B) W V) :=
  fun s V V' row hs hg hr => hs.grown hg (fun k e => .inr (hr k e).1)

theorem ownsRow_below {w w' : World} {base : Nat} {e : TypeId} {size k : Nat} {v : Value} {xs : List Value} (h : w.ownsRow base e size v k xs) (hb : Below w.heap.size w w') : w'.ownsRow base e size v k xs := by
  refine ⟨h.1, ?_⟩
  rcases h.2 with h0 | ⟨g, cap, cur, rfl, hbg, hg, rest⟩
  · exact .inl h0
  · exact .inr ⟨g, cap, cur, rfl, hbg, (hb.block g (Array.getElem?_eq_some_iff.1 hg).1).trans hg, rest⟩

/-- append of bytes onto a row of one's own, inside a fence. -/
theorem wpListIn_app2 {w : World} {ops : Array Oper} {rest : List Oper} {o : Oper} {a : Act} {Q : Exit → Act → World → Prop} (hgd : o.guard = none) (s x : Operand) {t e : TypeId}
    (ho : o.op = .call { callee := .builtin .append, args := #[s, x], argTypes := #[t, t] }) (hU : U8 P t e)
    {base : Nat} {v : Value} {l m : List UInt8} (hs : a.eval s = v) (hown : Own8 w base e v l) {A : Option Addr} {k c : Nat} (hx : a.eval x = .slice A k c) (hn : k = m.length) (hm : Rda w A c m)
    (hb : l.length + m.length ≤ 140737488355328) (hbase : base ≤ w.heap.size)
    (h : ∀ v' w', Own8 w' base e v' (l ++ m) → AppTwo w w' v v' → wpListIn F n P ops Q rest (a.put o.dst v') w') : wpListIn F n P ops Q (o :: rest) a w := by
  subst hn
  refine wpListIn_plain hgd fun K hK => ?_
  obtain ⟨v', w', hrun, h2, h3⟩ := run_app2 (P := P) w (ty := o.type) hU hown hm hb hbase
  unfold Oper.wpIn
  refine ⟨?_, ?_⟩
  · simp [Oper.about, ho, resolve, Target.leads, Sem.run_pure]
  · rw [Oper.semAt_plain F _ _ (by rw [ho]; intro c hc'; cases hc')]
    simp [execOp, ho, resolve, invoke, builtin, hs, hx, hrun, Result.andThen]
    exact hK _ _ (h v' w' h2 h3)
end Go.Tm
