import Derived.Test.YtiaehoppdihbdaaFlat9
import Derived.Test.YtiaehoppdihbdaaOwnLe
/- append of a slice of structs onto nil. -/
set_option linter.unusedVariables false
set_option linter.unusedSimpArgs false
namespace Go.Proofs.Ytiaehoppdihbdaa
open Go.RowKit Go.Tm
theorem rdS_news' {α : Type} {R : Rdr α} {f : α → List Value} {size : Nat} {w : World} {ad : Addr} {c : Nat} {l : List α} (h : RdS size R w (some ad) c l) (hf : ∀ x, (f x).length = size) (hR : ∀ cs x, R w cs x → cs = f x) :
    ∀ j u, (l.flatMap f)[j]? = some u → w.cell? (ad.add j) = some u := by
  intro j u hj
  obtain ⟨k, i, x, h1, h2, h3⟩ := flat_at hf l j u hj
  obtain ⟨g', o', e, hc⟩ := h.cells (Nat.lt_of_le_of_lt (Nat.zero_le _) (List.getElem?_eq_some_iff.1 h1).1)
  injection e with e
  subst e
  exact rdS_news h hf hR j u hj
theorem wpList_appRdS {P : Program} {w : World} {ops : Array Oper} {rest : List Oper} {o : Oper} {a : Act} {Q : Exit → Act → World → Prop}
    (hg : o.guard = none) (s x : Operand) (t : TypeId) (hop : o.op = Op.call { callee := Callee.builtin Builtin.append, args := #[s, x], argTypes := #[t, t] })
    (e : TypeId) {z : Value} {size bytes : Nat} (h1 : P.underlying t = some (.slice e)) (hinfo : (P.info? e).map (fun i => (i.zero, i.size, i.bytes)) = some (some z, size, bytes)) (h6 : z.cells.size = size) (h7 : 0 < size)
    {α : Type} {R : Rdr α} {f : α → List Value} (hf : ∀ x, (f x).length = size) (hR : ∀ cs x, R w cs x → cs = f x) (hone : ∀ x, ∀ u ∈ f x, u.oneCell' = true) {l : List α}
    (hs : a.eval s = .slice none 0 0) {A : Option Addr} {m c : Nat} (hx : a.eval x = .slice A m c) (hm : m = l.length) (h : RdS size R w A c l) (b1 : m ≤ maxLen) (b2 : m * bytes ≤ 140737488355328)
    (hK : ∀ v' w', OwnLe w' w.heap.size e size v' m (l.flatMap f) → Below w.heap.size w w' → wpList P ops Q rest (a.put o.dst v') w') :
    wpList P ops Q (o :: rest) a w := by
  cases A with
  | some ad =>
    refine wpList_appLe hg s x t hop w.heap.size e h1 hinfo h6 h7 _ 0 [] hs (ownLe_nil _ _ _ _) ad m c (l.flatMap f) hx ?_ (rdS_news' h hf hR) ?_ (by omega) (by simpa using b2) (Nat.le_refl _) ?_
    · rw [hm]
      clear hK hs hx h b1 b2 hm
      induction l with
      | nil => simp
      | cons y l ih => rw [List.flatMap_cons, List.length_append, hf, ih, List.length_cons, Nat.succ_mul]; omega
    · intro u hu
      obtain ⟨y, _, hy⟩ := List.mem_flatMap.1 hu
      exact hone y u hy
    · intro v' w' hO hg' _
      rw [Nat.zero_add, List.nil_append] at hO
      exact hK v' w' hO (grown_below hg' (Nat.le_refl _) (fun k hk => by simp [Value.ownBlock] at hk))
  | none =>
    have hc := h.nil rfl
    have hcap := h.cap
    have hl : l = [] := List.eq_nil_of_length_eq_zero (by omega)
    subst hl
    simp only [List.length_nil] at hm
    subst hm hc
    refine wpList_plain hg fun K hK' => ?_
    unfold Oper.wp execOp
    simp [hop, resolve, invoke, builtin, Sem.run_bind, Sem.run_pure, Result.andThen_ok, hs, hx]
    obtain ⟨i, hi, _⟩ := Option.map_eq_some_iff.1 hinfo
    have hrun : (Builtin.append_ #[t, t] o.type #[Value.slice none 0 0, Value.slice none 0 0]).run P w = .ok (.slice none 0 0) w := by
      simp [Builtin.append_, run_underlying h1, sizeOf, typeInfo, hi, Builtin.lenOf, Builtin.firstCells, loadCells, loadCellsFrom]
    rw [hrun]
    exact hK' _ _ (hK _ _ (ownLe_nil _ _ _ _) (Below.refl _ _))
end Go.Proofs.Ytiaehoppdihbdaa
