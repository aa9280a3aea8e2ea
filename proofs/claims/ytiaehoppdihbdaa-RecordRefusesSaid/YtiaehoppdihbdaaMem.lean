import Derived.Test.YtiaehoppdihbdaaLib
import Derived.Maps.AppendAt
/- Memory: an append that says where the row lies behind it; worlds that are alike but for some blocks; sets of rows of one's own that lie apart. -/
set_option linter.unusedVariables false
set_option linter.unusedSimpArgs false
namespace Go.Tm
open Go.RowKit

/-- append onto a row of one's own: it stays in its block, or it lies in a new one and nothing has turned. -/
theorem run_app2 {P : Program} (w : World) {t e ty : TypeId} (hU : U8 P t e) {base : Nat} {v : Value} {l m : List UInt8} (hown : Own8 w base e v l) {A : Option Addr} {c : Nat} (hm : Rda w A c m)
    (hb : l.length + m.length ≤ 140737488355328) (hbase : base ≤ w.heap.size) :
    ∃ v' w', (Builtin.append_ #[t, t] ty #[v, .slice A m.length c]).run P w = .ok v' w' ∧ Own8 w' base e v' (l ++ m) ∧
      ((v'.ownBlock = v.ownBlock ∧ w.grownBy w' v.ownBlock) ∨ (v'.ownBlock = some w.heap.size ∧ Below w.heap.size w w')) := by
  obtain ⟨i, hi, hz, hs, hby⟩ := hU.info
  by_cases hm0 : m.length = 0
  · have hl : m = [] := List.eq_nil_of_length_eq_zero hm0
    subst hl
    cases A with
    | none =>
      have h0 := hm.nil rfl
      subst h0
      exact ⟨v, w, run_append_owned_none w base t ty e i 1 hU.slice hi v _ _ hown, by simpa using hown, .inl ⟨rfl, grown_refl _ _⟩⟩
    | some a =>
      rcases hown.2 with ⟨rfl, h0⟩ | ⟨g, cap, cur, rfl, hbg, hg, hnc, hcm, hcs, htake⟩
      · obtain ⟨v', w', h1, h2, h3, h4⟩ := run_append_own (P := P) w base t ty e i _ 1 1 hU.slice hi hz hs hby rfl (by omega) _ l.length (B8 l) hown a 0 c (B8 []) (by simp [B8_length]) hm.news (B8_one []) (by unfold maxLen; omega) (by omega) hbase
        have h5 := h4.2 ⟨rfl, rfl⟩
        subst h5
        refine ⟨_, w', h1, by unfold Own8; rw [List.length_append, B8_append]; exact h2, .inl ⟨rfl, h3⟩⟩
      · obtain ⟨w', h1, h2, h3⟩ := run_append_fits (P := P) w base t ty e i 1 hU.slice hi hs g l.length cap (B8 l) hown a 0 c (B8 []) (by simp [B8_length]) hm.news (B8_one []) (by omega)
        exact ⟨_, w', h1, by unfold Own8; rw [List.length_append, B8_append]; exact h2, .inl ⟨rfl, h3⟩⟩
  · obtain ⟨b, o, rfl, _⟩ := hm.cells (by omega)
    have grown : ∀ (old : Nat), old < l.length + m.length →
        Own8 (w.drew.alloc (.cells ((B8 l).toArray ++ (B8 m).toArray ++ Builtin.zeroCells (Value.int .u8 0).cells (grownCap w (l.length + m.length) old e - (l.length + m.length))) e)) base e
          (.slice (some ⟨w.heap.size, 0, none⟩) (l.length + m.length) (grownCap w (l.length + m.length) old e)) (l ++ m) := by
      intro old ho
      have hge := grownCap_ge w (l.length + m.length) old e
      unfold Own8
      rw [List.length_append, B8_append]
      refine ⟨by simp [B8_length], .inr ⟨w.heap.size, _, _, rfl, hbase, heap_alloc_new w.drew _, hge, grownCap_le_maxLen w _ old e (by unfold maxLen; omega), ?_, ?_⟩⟩
      · simp only [Array.size_append, List.size_toArray, size_zeroCells, B8_length, Value.cells]
        simp
        omega
      · simp only [Array.toList_append, List.append_assoc]
        rw [← List.append_assoc, show (l.length + m.length) * 1 = (B8 l ++ B8 m).length by simp [B8_length]]
        exact List.take_left
    rcases hown.2 with ⟨rfl, h0⟩ | ⟨g, cap, cur, rfl, hbg, hg, hnc, hcm, hcs, htake⟩
    · have hl0 : l = [] := List.eq_nil_of_length_eq_zero h0
      subst hl0
      have hr := run_append_nil (P := P) w t ty e i _ hU.slice hi hz ⟨b, o, none⟩ m.length c (B8 m) (by simp [B8_length, hs]) hm.news (by omega) (by omega) (by rw [hby]; simp at hb; omega)
      have hgr := grown 0 (by simp; omega)
      simp only [List.length_nil, Nat.zero_add, List.nil_append] at hgr
      refine ⟨_, _, hr, ?_, .inr ⟨rfl, ((Below.refl _ _).drew).alloc (Nat.le_refl _) _⟩⟩
      simpa [B8] using hgr
    · by_cases hroom : l.length + m.length ≤ cap
      · obtain ⟨w', h1, h2, h3⟩ := run_append_fits (P := P) w base t ty e i 1 hU.slice hi hs g l.length cap (B8 l) hown ⟨b, o, none⟩ m.length c (B8 m) (by simp [B8_length]) hm.news (B8_one m) hroom
        exact ⟨_, w', h1, by unfold Own8; rw [List.length_append, B8_append]; exact h2, .inl ⟨rfl, h3⟩⟩
      · have holds : ∀ j u, (B8 l)[j]? = some u → w.cell? ((⟨g, 0, none⟩ : Addr).add j) = some u := hown.cells (g := g) rfl
        have hr := run_append_grow (P := P) w t ty e i _ hU.slice hi hz ⟨g, 0, none⟩ l.length cap (B8 l) (by simp [B8_length, hs]) holds ⟨b, o, none⟩ m.length c (B8 m) (by simp [B8_length, hs]) hm.news (by omega) (by omega) (growslice_fits (by omega) (by rw [hby]; omega))
        exact ⟨_, _, hr, grown cap (by omega), .inr ⟨rfl, ((Below.refl _ _).drew).alloc (Nat.le_refl _) _⟩⟩

/-- What an append has done: it stayed in its block, or it lies in a new one and nothing has turned. -/
def AppTwo (w w' : World) (v v' : Value) : Prop := (v'.ownBlock = v.ownBlock ∧ w.grownBy w' v.ownBlock) ∨ (v'.ownBlock = some w.heap.size ∧ Below w.heap.size w w')
theorem AppTwo.grown {w w' : World} {v v' : Value} (h : AppTwo w w' v v') : w.grownBy w' v.ownBlock := by
  rcases h with h | h
  · exact h.2
  · exact below_grown h.2 _
theorem AppTwo.at_ {w w' : World} {v v' : Value} (h : AppTwo w w' v v') : v'.ownBlock = v.ownBlock ∨ v'.ownBlock = some w.heap.size := by
  rcases h with h | h
  · exact .inl h.1
  · exact .inr h.1

theorem wpList_app2 {P : Program} {w : World} {ops : Array Oper} {rest : List Oper} {o : Oper} {a : Act} {Q : Exit → Act → World → Prop} (hgd : o.guard = none) (s x : Operand) {t e : TypeId}
    (ho : o.op = .call { callee := .builtin .append, args := #[s, x], argTypes := #[t, t] }) (hU : U8 P t e)
    {base : Nat} {v : Value} {l m : List UInt8} (hs : a.eval s = v) (hown : Own8 w base e v l) {A : Option Addr} {n c : Nat} (hx : a.eval x = .slice A n c) (hn : n = m.length) (hm : Rda w A c m)
    (hb : l.length + m.length ≤ 140737488355328) (hbase : base ≤ w.heap.size)
    (h : ∀ v' w', Own8 w' base e v' (l ++ m) → AppTwo w w' v v' → wpList P ops Q rest (a.put o.dst v') w') : wpList P ops Q (o :: rest) a w := by
  subst hn
  refine wpList_plain hgd fun K hK => ?_
  obtain ⟨v', w', hrun, h2, h3⟩ := run_app2 (P := P) w (ty := o.type) hU hown hm hb hbase
  unfold Oper.wp execOp
  simp only [ho, resolve, invoke, builtin, Sem.run_bind, Sem.run_pure, Result.andThen_ok, List.map_toArray, List.map_cons, List.map_nil, hs, hx, hrun]
  exact hK _ _ (h v' w' h2 h3)

/-- w' is as w was, but for the blocks of S and what is new. -/
structure KeptBut (S : Nat → Prop) (w w' : World) : Prop where
  os : w'.os = w.os
  tape : w'.tape = w.tape
  output : w'.output = w.output
  size : w.heap.size ≤ w'.heap.size
  block : ∀ k, k < w.heap.size → ¬ S k → w'.heap[k]? = w.heap[k]?
section
variable {S : Nat → Prop} {w w1 w2 : World}
theorem KeptBut.refl (S : Nat → Prop) (w : World) : KeptBut S w w := ⟨rfl, rfl, rfl, Nat.le_refl _, fun _ _ _ => rfl⟩
theorem KeptBut.grown (h : KeptBut S w w1) {row : Option Nat} (hg : w1.grownBy w2 row) (hr : ∀ k, row = some k → S k ∨ w.heap.size ≤ k) : KeptBut S w w2 :=
  ⟨hg.os.trans h.os, hg.tape.trans h.tape, hg.output.trans h.output, Nat.le_trans h.size hg.size, fun k hk hS =>
    (hg.block k (Nat.lt_of_lt_of_le hk h.size) (fun e => by rcases hr k e.symm with h' | h' <;> first | exact hS h' | omega)).trans (h.block k hk hS)⟩
theorem KeptBut.below (h : KeptBut S w w1) (hb : Below w1.heap.size w1 w2) : KeptBut S w w2 := h.grown (below_grown hb none) (fun _ e => by cases e)
theorem KeptBut.toBelow {B : Nat} (h : KeptBut S w w1) (hS : ∀ k, S k → B ≤ k) (hB : B ≤ w.heap.size) : Below B w w1 :=
  ⟨h.os, h.tape, h.output, h.size, fun k hk => h.block k (by omega) (fun hs => by have := hS k hs; omega)⟩
theorem KeptBut.cell (h : KeptBut S w w1) {a : Addr} {v : Value} (hc : w.cell? a = some v) (hS : ¬ S a.block) : w1.cell? a = some v :=
  (World.cell?_of_block (h.block _ (World.block_lt_of_cell? w a hc) hS)).trans hc
theorem KeptBut.rda (h : KeptBut S w w1) {A : Option Addr} {c : Nat} {l : List UInt8} (hr : Rda w A c l) (hS : ∀ a, A = some a → ¬ S a.block) : Rda w1 A c l :=
  hr.kept fun b o e j v hj => h.cell hj (hS ⟨b, o, none⟩ e)
theorem KeptBut.own (h : KeptBut S w w1) {base : Nat} {e : TypeId} {v : Value} {l : List UInt8} (hr : Own8 w base e v l) (hS : ∀ k, v.ownBlock = some k → ¬ S k) : Own8 w1 base e v l := by
  refine ⟨hr.1, ?_⟩
  rcases hr.2 with h0 | ⟨g, cap, cur, rfl, hbg, hg, rest⟩
  · exact .inl h0
  · exact .inr ⟨g, cap, cur, rfl, hbg, (h.block g (Array.getElem?_eq_some_iff.1 hg).1 (hS g rfl)).trans hg, rest⟩
end
/-- Two slices' blocks differ (one that has none has nothing in common with any). -/
def Aprt (v u : Value) : Prop := ∀ k, v.ownBlock = some k → u.ownBlock ≠ some k
theorem Aprt.symm {v u : Value} (h : Aprt v u) : Aprt u v := fun k hk hv => h k hv hk
theorem own8_block_type {w : World} {base : Nat} {e : TypeId} {v : Value} {l : List UInt8} (h : Own8 w base e v l) {g : Nat} (hg : v.ownBlock = some g) : ∃ cur, w.heap[g]? = some (.cells cur e (0, 0)) := by
  rcases h.2 with ⟨rfl, _⟩ | ⟨g', cap, cur, rfl, _, hh, _⟩
  · simp [Value.ownBlock] at hg
  · have : g' = g := by simpa [Value.ownBlock] using hg
    subst this
    exact ⟨cur, hh⟩
end Go.Tm
