import Derived.Test.YtiaehoppdihbdaaRec8b
import Derived.Deep.CutRange
/- The contracts of package record: Parse. -/
set_option linter.unusedVariables false
set_option linter.unusedSimpArgs false
namespace Go.Proofs.Ytiaehoppdihbdaa
open Go.RowKit Go.Tm
set_option maxHeartbeats 400000
set_option maxRecDepth 100000
attribute [local go_sem ↓] Go.wp_at_zero Go.wp_at_succ

/-- The two results' variables. -/
structure Vars (w : World) (p1 p2 : Nat) (W : World) : Prop where
  low : Below w.heap.size w W
  r1 : RowC W p1 26 (recC recZ nilQ)
  r2 : RowC W p2 30 [.int .i64 0]
  ne : p1 ≠ p2
  n1 : w.heap.size ≤ p1
  n2 : w.heap.size ≤ p2
section
variable {w w0 W W' : World} {p1 p2 r bx : Nat} {l : List UInt8}
theorem Vars.below (h : Vars w p1 p2 W) (hb : Below W.heap.size W W') : Vars w p1 p2 W' := ⟨below_then h.low hb, h.r1.below hb, h.r2.below hb, h.ne, h.n1, h.n2⟩
theorem rowC_ne {g g' : Nat} {T T' : TypeId} {cs cs' : List Value} (h : RowC W g T cs) (k : RowC W g' T' cs') (hT : T ≠ T') : g ≠ g' := by
  rintro rfl
  unfold RowC at h k
  rw [h] at k
  injection k with k
  injection k with _ k
  exact hT k
theorem Vars.on (h : Vars w p1 p2 W) (hr : IsRs w0 W r 95 l) (hn : w.heap.size ≤ r) (hk : KeptBut (fun k => k = r) W W') : Vars w p1 p2 W' := by
  have e1 : p1 ≠ r := fun e => by have := h.r1; unfold RowC at this; rw [e] at this; exact reader_ty hr (by decide) this
  have e2 : p2 ≠ r := fun e => by have := h.r2; unfold RowC at this; rw [e] at this; exact reader_ty hr (by decide) this
  exact ⟨⟨hk.os.trans h.low.os, hk.tape.trans h.low.tape, hk.output.trans h.low.output, Nat.le_trans h.low.size hk.size, fun k hkk => (hk.block k (Nat.lt_of_lt_of_le hkk h.low.size) (fun e => by omega)).trans (h.low.block k hkk)⟩, (hk.block p1 h.r1.lt e1).trans h.r1, (hk.block p2 h.r2.lt e2).trans h.r2, h.ne, h.n1, h.n2⟩
/-- .. and a record's block. -/
theorem Vars.on2 (h : Vars w p1 p2 W) (hr : IsRs w0 W r 95 l) (hn : w.heap.size ≤ r) {rp : Nat} (hp : w.heap.size ≤ rp) (h1 : rp ≠ p1) (h2 : rp ≠ p2) (hk : KeptBut (fun k => k = r ∨ k = rp) W W') : Vars w p1 p2 W' := by
  have e1 : p1 ≠ r := fun e => by have := h.r1; unfold RowC at this; rw [e] at this; exact reader_ty hr (by decide) this
  have e2 : p2 ≠ r := fun e => by have := h.r2; unfold RowC at this; rw [e] at this; exact reader_ty hr (by decide) this
  exact ⟨⟨hk.os.trans h.low.os, hk.tape.trans h.low.tape, hk.output.trans h.low.output, Nat.le_trans h.low.size hk.size, fun k hkk => (hk.block k (Nat.lt_of_lt_of_le hkk h.low.size) (fun e => by omega)).trans (h.low.block k hkk)⟩, (hk.block p1 h.r1.lt (by rintro (e | e) <;> omega)).trans h.r1, (hk.block p2 h.r2.lt (by rintro (e | e) <;> omega)).trans h.r2, h.ne, h.n1, h.n2⟩
end
/-- The source, while kind, birth and prev are read. -/
structure Ps (w w0 : World) (p1 p2 r bx : Nat) (l : List UInt8) (W : World) : Prop where
  vars : Vars w p1 p2 W
  rd : IsRs w0 W r 95 l
  boxR : RowC W bx 75 [.pointer (some ⟨r, 0, none⟩)]
  nr : w.heap.size ≤ r
  nb : bx ≠ r
  w0n : w0.heap.size ≤ W.heap.size
  hl : l.length ≤ 140737488355328
section
variable {w w0 W W' : World} {p1 p2 r bx : Nat} {l : List UInt8}
theorem Ps.box (h : Ps w w0 p1 p2 r bx l W) : W.cell? ⟨bx, 0, none⟩ = some (.pointer (some ⟨r, 0, none⟩)) := h.boxR.cell rfl
theorem Ps.below (h : Ps w w0 p1 p2 r bx l W) (hb : Below W.heap.size W W') : Ps w w0 p1 p2 r bx l W' := ⟨h.vars.below hb, h.rd.below hb, h.boxR.below hb, h.nr, h.nb, Nat.le_trans h.w0n hb.size, h.hl⟩
theorem Ps.on {m : List UInt8} (h : Ps w w0 p1 p2 r bx l W) (hk : KeptBut (fun k => k = r) W W') (hr : IsRs w0 W' r 95 m) (hm : m.length ≤ l.length) : Ps w w0 p1 p2 r bx m W' :=
  ⟨h.vars.on h.rd h.nr hk, hr, (hk.block bx h.boxR.lt h.nb).trans h.boxR, h.nr, h.nb, Nat.le_trans h.w0n hk.size, Nat.le_trans hm h.hl⟩
theorem Ps.num (h : Ps w w0 p1 p2 r bx l W) : Calls Try.prog 37 #[srcV r, .int .i64 1] W fun e W' => (gN 1 l = none ∧ e = early ∧ Vars w p1 p2 W') ∨ ∃ v m, gN 1 l = some (v, m) ∧ e = .returned (.int .i64 v) ∧ Ps w w0 p1 p2 r bx m W' ∧ KeptBut (fun k => k = r) W W' := by
  refine (srcNumber_any h.rd 1 (.inl rfl) rfl h.hl).mono fun e W' hN => ?_
  cases hg : gN 1 l with
  | none => exact .inl ⟨rfl, hN.no hg, h.vars.on h.rd h.nr hN.kept⟩
  | some o =>
    obtain ⟨v, m⟩ := o
    obtain ⟨h1, h2⟩ := hN.yes v m hg
    exact .inr ⟨v, m, rfl, h1, h.on hN.kept h2 (gN_len hg), hN.kept⟩
theorem Ps.lsn (h : Ps w w0 p1 p2 r bx l W) : Calls Try.prog 38 #[srcV r] W fun e W' => (gL l = none ∧ e = early ∧ Vars w p1 p2 W') ∨ ∃ v m, gL l = some (v, m) ∧ e = .returned (.int .i64 v) ∧ Ps w w0 p1 p2 r bx m W' ∧ KeptBut (fun k => k = r) W W' := by
  refine (srcLsn_any h.rd).mono fun e W' hN => ?_
  cases hg : gL l with
  | none => exact .inl ⟨rfl, hN.no hg, h.vars.on h.rd h.nr hN.kept⟩
  | some o =>
    obtain ⟨v, m⟩ := o
    obtain ⟨h1, h2⟩ := hN.yes v m hg
    exact .inr ⟨v, m, rfl, h1, h.on hN.kept h2 (gL_len hg), hN.kept⟩
/-- .. with the record's block. -/
structure Pr (w w0 : World) (p1 p2 r bx rp : Nat) (l : List UInt8) (cs : List Value) (W : World) : Prop where
  ps : Ps w w0 p1 p2 r bx l W
  row : RowC W rp 26 cs
  n1 : rp ≠ p1
  n2 : rp ≠ p2
  n3 : w0.heap.size ≤ rp
  n4 : w.heap.size ≤ rp
variable {rp : Nat} {cs : List Value}
theorem Pr.box (h : Pr w w0 p1 p2 r bx rp l cs W) : W.cell? ⟨bx, 0, none⟩ = some (.pointer (some ⟨r, 0, none⟩)) := h.ps.box
theorem Ps.made (h : Ps w w0 p1 p2 r bx l W) (cs : List Value) : Pr w w0 p1 p2 r bx W.heap.size l cs (W.alloc (.cells cs.toArray 26)) :=
  ⟨h.below ((Below.refl _ _).alloc (Nat.le_refl _) _), heap_alloc_new W _, by have := h.vars.r1.lt; omega, by have := h.vars.r2.lt; omega, h.w0n, h.vars.low.size⟩
theorem Pr.on {m : List UInt8} (h : Pr w w0 p1 p2 r bx rp l cs W) (hs : Ps w w0 p1 p2 r bx m W') (hk : KeptBut (fun k => k = r) W W') : Pr w w0 p1 p2 r bx rp m cs W' :=
  ⟨hs, (hk.block rp h.row.lt (r_ne_rp h.ps.rd h.row)).trans h.row, h.n1, h.n2, h.n3, h.n4⟩
theorem Pr.below (h : Pr w w0 p1 p2 r bx rp l cs W) (hb : Below W.heap.size W W') : Pr w w0 p1 p2 r bx rp l cs W' := ⟨h.ps.below hb, h.row.below hb, h.n1, h.n2, h.n3, h.n4⟩
theorem Pr.num (h : Pr w w0 p1 p2 r bx rp l cs W) : Calls Try.prog 37 #[srcV r, .int .i64 1] W fun e W' => (gN 1 l = none ∧ e = early ∧ Vars w p1 p2 W') ∨ ∃ v m, gN 1 l = some (v, m) ∧ e = .returned (.int .i64 v) ∧ Pr w w0 p1 p2 r bx rp m cs W' ∧ KeptBut (fun k => k = r) W W' :=
  h.ps.num.mono fun e W' hp => hp.imp id fun ⟨v, m, h1, h2, h3, h4⟩ => ⟨v, m, h1, h2, h.on h3 h4, h4⟩
theorem Pr.lsn (h : Pr w w0 p1 p2 r bx rp l cs W) : Calls Try.prog 38 #[srcV r] W fun e W' => (gL l = none ∧ e = early ∧ Vars w p1 p2 W') ∨ ∃ v m, gL l = some (v, m) ∧ e = .returned (.int .i64 v) ∧ Pr w w0 p1 p2 r bx rp m cs W' ∧ KeptBut (fun k => k = r) W W' :=
  h.ps.lsn.mono fun e W' hp => hp.imp id fun ⟨v, m, h1, h2, h3, h4⟩ => ⟨v, m, h1, h2, h.on h3 h4, h4⟩
theorem Pr.put (h : Pr w w0 p1 p2 r bx rp l cs W) (k : Nat) (v : Value) : Pr w w0 p1 p2 r bx rp l (cs.set k v) (W.setCell ⟨rp, k, none⟩ v) := by
  have hg := cell_grown W rp k v
  have e1 := rowC_ne h.ps.boxR h.row (by decide)
  have e2 := r_ne_rp h.ps.rd h.row
  have hv := h.ps.vars
  have q1 := h.n1
  have q2 := h.n2
  have q3 := h.n3
  have q4 := h.n4
  exact ⟨⟨⟨hv.low.grown hg hv.low.size (fun g e => by injection e with e; omega), hv.r1.grown hg (fun e => by injection e with e; omega), hv.r2.grown hg (fun e => by injection e with e; omega), hv.ne, hv.n1, hv.n2⟩, h.ps.rd.grown hg (fun e => e2 (by injection e)) (fun g e => by injection e with e; omega), h.ps.boxR.grown hg (fun e => e1 (by injection e with e; exact e.symm)), h.ps.nr, h.ps.nb, by have := h.ps.w0n; have := hg.size; omega, h.ps.hl⟩, h.row.stored k v, q1, q2, q3, q4⟩
end
abbrev earlyC : List PanicEntry := [{ v := .iface 70 (.agg #[]), recovered := false }]
abbrev doorD (p1 p2 : Nat) : List Deferred := [{ target := Target.fn (Fn.func 35) #[.pointer (some ⟨p1, 0, none⟩), .pointer (some ⟨p2, 0, none⟩)], args := #[] }]
/-- The post, but at a panic what is known of the frame and the world. -/
def Fp (p1 p2 : Nat) (G : World → Prop) (Q : Exit → Act → World → Prop) : Exit → Act → World → Prop
  | .panic c, a, w => c = earlyC ∧ a.tmps[2]? = some (.pointer (some ⟨p1, 0, none⟩)) ∧ a.tmps[3]? = some (.pointer (some ⟨p2, 0, none⟩)) ∧ a.defers = doorD p1 p2 ∧ G w
  | e, a, w => Q e a w
theorem Fp.imp {p1 p2 : Nat} {G : World → Prop} {Q : Exit → Act → World → Prop} (h : ∀ T W, T[2]? = some (.pointer (some ⟨p1, 0, none⟩)) → T[3]? = some (.pointer (some ⟨p2, 0, none⟩)) → G W → Q (.panic earlyC) { tmps := T, defers := doorD p1 p2 } W) : ∀ (e : Exit) (a : Act) (w : World), Fp p1 p2 G Q e a w → Q e a w := fun e a w k => by
  cases e with
  | panic c =>
    obtain ⟨rfl, h2, h3, h4, h5⟩ := k
    obtain ⟨T, D⟩ := a
    dsimp only at h2 h3 h4
    subst h4
    exact h T w h2 h3 h5
  | _ => exact k
theorem Fp.put {p1 p2 : Nat} {G : World → Prop} {Q : Exit → Act → World → Prop} {c : List PanicEntry} {a : Act} {d : Option Tmp} {v : Value} {w : World} (h2 : d ≠ some 2) (h3 : d ≠ some 3) (h : Fp p1 p2 G Q (.panic c) (a.put d v) w) : Fp p1 p2 G Q (.panic c) a w := by
  obtain ⟨e, k2, k3, k4, k5⟩ := h
  cases d with
  | none => exact ⟨e, k2, k3, k4, k5⟩
  | some d =>
    have n2 : d ≠ 2 := fun e => h2 (by rw [e])
    have n3 : d ≠ 3 := fun e => h3 (by rw [e])
    refine ⟨e, ?_, ?_, k4, k5⟩
    · simpa [Act.put, Array.getElem?_setIfInBounds, n2] using k2
    · simpa [Act.put, Array.getElem?_setIfInBounds, n3] using k3
theorem Fp.normal {p1 p2 : Nat} {G : World → Prop} {Q : Exit → Act → World → Prop} {a : Act} {w : World} (h : Q .normal a w) : Fp p1 p2 G Q .normal a w := h
/-- What Parse says. -/
abbrev ParP (l : List UInt8) (w : World) (e : Ending) (w' : World) : Prop := ∃ q, e = .returned (.tuple #[.agg (recC (parV l) q).toArray, .int .i64 (parE l)]) ∧ Below w.heap.size w w' ∧ RecLs w' w.heap.size (parV l) q
theorem par_fail {w W : World} {p1 p2 : Nat} {l : List UInt8} (hp : pRec l = none) (h : Vars w p1 p2 W) {T : Array Value} (t2 : T[2]? = some (.pointer (some ⟨p1, 0, none⟩))) (t3 : T[3]? = some (.pointer (some ⟨p2, 0, none⟩))) :
    bodyPostD Try.prog Try.f18 (ParP l w) (Exit.panic earlyC) { tmps := T, defers := doorD p1 p2 } W := by
  obtain ⟨e1, e2⟩ := par_none hp
  refine parse_early h.r1 h.r2 h.ne t2 t3 fun W' hk => ⟨nilQ, by rw [e1, e2], ?_, by rw [e1]; exact recLs_nil W' _ rfl rfl rfl rfl⟩
  exact ⟨hk.os.trans h.low.os, hk.tape.trans h.low.tape, hk.output.trans h.low.output, Nat.le_trans h.low.size hk.size, fun k hkk => (hk.block k (Nat.lt_of_lt_of_le hkk h.low.size) (by have := h.n1; have := h.n2; rintro (e | e) <;> omega)).trans (h.low.block k hkk)⟩

theorem put11 {W : World} {p : Nat} {T : TypeId} {a0 a1 a2 a3 a4 a5 a6 a7 a8 a9 a10 : Value} (h : RowC W p T [a0, a1, a2, a3, a4, a5, a6, a7, a8, a9, a10]) (x0 x1 x2 x3 x4 x5 x6 x7 x8 x9 x10 : Value) :
    RowC (((((((((((W.setCell ⟨p, 0, none⟩ x0).setCell ⟨p, 1, none⟩ x1).setCell ⟨p, 2, none⟩ x2).setCell ⟨p, 3, none⟩ x3).setCell ⟨p, 4, none⟩ x4).setCell ⟨p, 5, none⟩ x5).setCell ⟨p, 6, none⟩ x6).setCell ⟨p, 7, none⟩ x7).setCell ⟨p, 8, none⟩ x8).setCell ⟨p, 9, none⟩ x9).setCell ⟨p, 10, none⟩ x10) p T [x0, x1, x2, x3, x4, x5, x6, x7, x8, x9, x10] ∧
    W.grownBy (((((((((((W.setCell ⟨p, 0, none⟩ x0).setCell ⟨p, 1, none⟩ x1).setCell ⟨p, 2, none⟩ x2).setCell ⟨p, 3, none⟩ x3).setCell ⟨p, 4, none⟩ x4).setCell ⟨p, 5, none⟩ x5).setCell ⟨p, 6, none⟩ x6).setCell ⟨p, 7, none⟩ x7).setCell ⟨p, 8, none⟩ x8).setCell ⟨p, 9, none⟩ x9).setCell ⟨p, 10, none⟩ x10) (some p) := by
  refine ⟨((((((((((h.stored 0 x0).stored 1 x1).stored 2 x2).stored 3 x3).stored 4 x4).stored 5 x5).stored 6 x6).stored 7 x7).stored 8 x8).stored 9 x9).stored 10 x10, ?_⟩
  exact grown_trans (grown_trans (grown_trans (grown_trans (grown_trans (grown_trans (grown_trans (grown_trans (grown_trans (grown_trans (cell_grown W p 0 x0) (cell_grown _ p 1 x1)) (cell_grown _ p 2 x2)) (cell_grown _ p 3 x3)) (cell_grown _ p 4 x4)) (cell_grown _ p 5 x5)) (cell_grown _ p 6 x6)) (cell_grown _ p 7 x7)) (cell_grown _ p 8 x8)) (cell_grown _ p 9 x9)) (cell_grown _ p 10 x10)
theorem pTail_kind {z x : RecD} {l m : List UInt8} (h : pTail z l = some (x, m)) : x.kind = z.kind := by
  unfold pTail at h
  split at h
  · unfold pBegin at h
    simp only [Option.map_eq_some_iff] at h
    obtain ⟨a, ha, hx⟩ := h
    injection hx with hx hm
    subst hx
    rfl
  · split at h
    · unfold pUpdate at h
      simp only [Option.bind_eq_some_iff, Option.map_eq_some_iff] at h
      obtain ⟨a, ha, b, hb, c, hc, d, hd', e, he, hx⟩ := h
      injection hx with hx hm
      subst hx
      rfl
    · split at h
      · unfold pUndo at h
        simp only [Option.bind_eq_some_iff, Option.map_eq_some_iff] at h
        obtain ⟨a, ha, b, hb, c, hc, d, hd', e, he, hx⟩ := h
        injection hx with hx hm
        subst hx
        rfl
      · split at h
        · unfold pCheck at h
          simp only [Option.bind_eq_some_iff, Option.map_eq_some_iff] at h
          obtain ⟨a, ha, b, hb, c, hc, d, hd', hx⟩ := h
          injection hx with hx hm
          subst hx
          rfl
        · injection h with h
          injection h with h _
          subst h
          rfl
theorem kind_fn {K : Nat} (hK : K < 7) : ∃ f, ([fnV 65, fnV 66, fnV 67, fnV 64, fnV 64, fnV 64, fnV 68] : List Value)[K]? = some (fnV f) ∧ ∀ (args : Array Value) (W : World), (callFunc f args).run Try.prog W = .ok (.enter f args) W := by
  have hcase : K = 0 ∨ K = 1 ∨ K = 2 ∨ K = 3 ∨ K = 4 ∨ K = 5 ∨ K = 6 := by omega
  rcases hcase with rfl | rfl | rfl | rfl | rfl | rfl | rfl <;> exact ⟨_, rfl, fun args W => by simp [go_sem]⟩
/-- Both results are laid, and Parse is at its door. -/
theorem par_laid {w W W1 W2 : World} {p1 p2 : Nat} (h : Vars w p1 p2 W) {cs : List Value} (h1 : RowC W1 p1 26 cs) (g1 : W.grownBy W1 (some p1)) {v2 : Value} (hW2 : W2 = W1.setCell ⟨p2, 0, none⟩ v2) : Below w.heap.size w W2 ∧ RowC W2 p1 26 cs ∧ RowC W2 p2 30 [v2] ∧ KeptBut (fun k => k = p1 ∨ k = p2) W W2 := by
  subst hW2
  have g2 := cell_grown W1 p2 0 v2
  have n1 := h.n1
  have n2 := h.n2
  have ne := h.ne
  have hb := (h.low.grown g1 h.low.size (fun g e => by injection e with e; omega)).grown g2 (by have := h.low.size; have := g1.size; omega) (fun g e => by injection e with e; omega)
  refine ⟨hb, h1.grown g2 (fun e => by injection e with e; omega), (h.r2.grown g1 (fun e => by injection e with e; omega)).stored 0 v2, ?_⟩
  exact ((KeptBut.refl _ W).grown g1 fun k e => .inl (.inl (by injection e with e; exact e.symm))).grown g2 fun k e => .inl (.inr (by injection e with e; exact e.symm))
theorem lists_kept {w W W' : World} {p1 p2 B : Nat} {x : RecD} {q : RPl} (h : Vars w p1 p2 W) (hl : RecLs W B x q) (hk : KeptBut (fun k => k = p1 ∨ k = p2) W W') : RecLs W' B x q :=
  hl.kept hk fun g hg => by
    rcases hg with rfl | rfl
    · have := h.r1
      exact ⟨fun cur => rec_ty this (by decide), fun cur => rec_ty this (by decide), fun cur => rec_ty this (by decide)⟩
    · have e : ∀ {T : TypeId} (cur : Array Value), T ≠ 30 → W.heap[g]? ≠ some (.cells cur T (0, 0)) := fun {T} cur hT => by
        have := h.r2
        unfold RowC at this
        rw [this]
        intro e
        injection e with e
        injection e with _ e
        exact hT e.symm
      exact ⟨fun cur => e cur (by decide), fun cur => e cur (by decide), fun cur => e cur (by decide)⟩
/-- Kind, birth and prev are read. -/
structure HeadAt (w w0 : World) (p1 p2 r bx rp : Nat) (l : List UInt8) (W : World) : Prop where
  ex : ∃ a b c m1 m2 m3, gN 1 l = some (a, m1) ∧ gL m1 = some (b, m2) ∧ gL m2 = some (c, m3) ∧ Pr w w0 p1 p2 r bx rp m3 (recC { recZ with kind := a, birth := b, prev := c } nilQ) W
def HeadOk (w w0 : World) (p1 p2 r bx : Nat) (l : List UInt8) (v : Value) (W : World) : Prop := ∃ rp, v = .pointer (some ⟨rp, 0, none⟩) ∧ HeadAt w w0 p1 p2 r bx rp l W

set_option maxHeartbeats 20000000 in
theorem parse_any {w : World} {A : Option Addr} {n c : Nat} {l : List UInt8} (h : Rda w A c l) (hn : n = l.length) (hl : l.length ≤ 140737488351232) :
    Calls Try.prog 18 #[.slice A n c] w (ParP l w) := by
  have hmf : ∀ (fn : Fn) (first cap : Array Value) (w : World), (Instr.makeFunc fn first cap).run Try.prog w = .ok (.func fn first cap) w := fun _ _ _ _ => rfl
  have HNR : Hid (∀ W, Below w.heap.size w W → Calls Try.prog 36 #[.slice A n c] W fun e w' => ∃ r, e = .returned (.pointer (some ⟨r, 0, none⟩)) ∧ W.heap.size ≤ r ∧ IsR w' r 95 l ∧ Below W.heap.size W w') := Lib.hid fun W hb => newReader_any (h.below hb) hn (by omega)
  have hb1 := (Below.refl w.heap.size w).alloc (Nat.le_refl _) (.cells (recC recZ nilQ).toArray 26)
  have hb2 := hb1.alloc hb1.size (.cells #[.int .i64 0] 30)
  have q1 : RowC (w.alloc (.cells (recC recZ nilQ).toArray 26)) w.heap.size 26 (recC recZ nilQ) := heap_alloc_new w _
  have q2 : RowC ((w.alloc (.cells (recC recZ nilQ).toArray 26)).alloc (.cells #[.int .i64 0] 30)) (w.heap.size + 1) 30 [.int .i64 0] := by
    have e : (w.alloc (.cells (recC recZ nilQ).toArray 26)).heap.size = w.heap.size + 1 := by simp
    unfold RowC
    rw [← e]
    exact heap_alloc_new _ _
  have HV2 : Hid (Vars w w.heap.size (w.heap.size + 1) ((w.alloc (.cells (recC recZ nilQ).toArray 26)).alloc (.cells #[.int .i64 0] 30))) := Lib.hid ⟨hb2, q1.below ((Below.refl _ _).alloc (Nat.le_refl _) _), q2, by omega, by omega, by omega⟩
  clear h hn hb1 hb2 q1 q2
  go_enter_defers Try.func18, Try.ntmps18
  go_wp2_with fail
  refine (HNR.out _ HV2.out.low).mono ?_
  rintro e w3 ⟨r, rfl, hr1, hR, hb3⟩
  have HV3 := Lib.hid (HV2.out.below hb3)
  obtain ⟨p2, hp2⟩ : ∃ p, w.heap.size + 1 = p := ⟨_, rfl⟩
  obtain ⟨p1, hp1⟩ : ∃ p, w.heap.size = p := ⟨_, rfl⟩
  rw [hp2, hp1] at HV3
  have hnr : w.heap.size ≤ r := Nat.le_trans HV2.out.low.size hr1
  have hb4 := (Below.refl w3.heap.size w3).alloc (Nat.le_refl _) (.cells #[.pointer (some ⟨r, 0, none⟩)] 75)
  have hrow4 : RowC (w3.alloc (.cells #[.pointer (some ⟨r, 0, none⟩)] 75)) w3.heap.size 75 [.pointer (some ⟨r, 0, none⟩)] := heap_alloc_new w3 _
  have HPS : Hid (Ps w w3 p1 p2 r w3.heap.size l (w3.alloc (.cells #[.pointer (some ⟨r, 0, none⟩)] 75))) := Lib.hid ⟨HV3.out.below hb4, (Go.Proofs.Ytiaehoppdihbdaa.IsR.toS hR).below hb4, hrow4, hnr, by have := hR.lt; omega, hb4.size, by omega⟩
  have HP1 := Lib.hid hp1
  have HP2 := Lib.hid hp2
  have HNRr := Lib.hid hnr
  rw [hp2, hp1]
  clear HV2 HNR hb3 hb4 hrow4 hR hnr hr1 HV3 hp1 hp2
  go_upto_region 3 with (fail)
  go_cut [5] from 10 to 16 (fun s5 wx => HeadOk w w3 p1 p2 r w3.heap.size l s5 wx)
  case first =>
    refine Code.wp_mono (Fp.imp (p1 := p1) (p2 := p2) (G := fun W => pRec l = none ∧ Vars w p1 p2 W) (fun T W t2 t3 g => par_fail g.1 g.2 t2 t3)) ?_
    have H4d := Lib.hid (HPS.out.below (Below.refl _ _).drew)
    refine wp_region_held_drew (S := (fun w' => w'.cell? ⟨w3.heap.size, 0, none⟩ = some (.pointer (some ⟨r, 0, none⟩)))) (by kernel_rfl) (H4d.out.box) (fun hHeld => ?_)
    refine wpAnyH_take (i := 0) (oi := { dst := some 10, op := Op.load 75 (Operand.tmp 4), type := 75, pos := "record.go:173", after := #[], guard := none }) (v := ?va0) rfl (by kernel_rfl) (by kernel_rfl) (by kernel_rfl) (fun c a w h => Fp.put (by decide) (by decide) h) (Or.inl ⟨by rfl, ?ha0⟩) hHeld ?ra0
    case ha0 => ((intro w hSw); (try dsimp only at hSw); go_simp; (try with_reducible rfl))
    (try simp only [Act.put, List.setIfInBounds_toArray, List.set_cons_zero, List.set_cons_succ])
    refine wpAnyH_take (i := 2) (oi := { dst := some 12, op := Op.load 75 (Operand.tmp 4), type := 75, pos := "record.go:173", after := #[], guard := none }) (v := ?va1) rfl (by kernel_rfl) (by kernel_rfl) (by kernel_rfl) (fun c a w h => Fp.put (by decide) (by decide) h) (Or.inl ⟨by rfl, ?ha1⟩) hHeld ?ra1
    case ha1 => ((intro w hSw); (try dsimp only at hSw); go_simp; (try with_reducible rfl))
    (try simp only [Act.put, List.setIfInBounds_toArray, List.set_cons_zero, List.set_cons_succ])
    refine wpAnyH_take (i := 4) (oi := { dst := some 14, op := Op.load 75 (Operand.tmp 4), type := 75, pos := "record.go:173", after := #[], guard := none }) (v := ?va2) rfl (by kernel_rfl) (by kernel_rfl) (by kernel_rfl) (fun c a w h => Fp.put (by decide) (by decide) h) (Or.inl ⟨by rfl, ?ha2⟩) hHeld ?ra2
    case ha2 => ((intro w hSw); (try dsimp only at hSw); go_simp; (try with_reducible rfl))
    (try simp only [Act.put, List.setIfInBounds_toArray, List.set_cons_zero, List.set_cons_succ])
    refine wpAnyH_ready (rs := [1, 7]) (by kernel_rfl) (by simp) ?_
    refine AllReadyH.cons (o := { dst := some 11, op := Op.call { callee := Callee.value (Operand.func 37), args := #[Operand.tmp 10, Operand.const (Value.int IntKind.i64 1)], argTypes := #[75, 3] }, type := 3, pos := "record.go:173", after := #[{ on := 0, ground := Ground.data }], guard := none }) rfl (fun K hK => ?sa3) ?ta3
    case sa3 =>
      go_simp
      go_at_call 37
      refine H4d.out.num.mono ?_
      rintro e w5 (⟨hg, rfl, hk⟩ | ⟨v5, m5, hg, rfl, hS, _⟩)
      · exact ⟨rfl, rfl, rfl, rfl, pRec_no1 hg, hk⟩
      have HG5 := Lib.hid hg
      have H5 := Lib.hid hS
      clear hg hS
      try go_wp2_with fail
      refine hK.out _ _ ?_ (fun hHeld => ?_)
      · exact H5.out.box
      clear hK K
      (try simp only [Act.put, List.setIfInBounds_toArray, List.set_cons_zero, List.set_cons_succ])
      refine wpAnyH_ready (rs := [3, 7]) (by kernel_rfl) (by simp) ?_
      refine AllReadyH.cons (o := { dst := some 13, op := Op.call { callee := Callee.value (Operand.func 38), args := #[Operand.tmp 12], argTypes := #[75] }, type := 3, pos := "record.go:173", after := #[{ on := 2, ground := Ground.data }, { on := 1, ground := Ground.chain }], guard := none }) rfl (fun K hK => ?sa4) ?ta4
      case sa4 =>
        go_simp
        go_at_call 38
        refine H5.out.lsn.mono ?_
        rintro e w6 (⟨hg, rfl, hk⟩ | ⟨v6, m6, hg, rfl, hS, _⟩)
        · exact ⟨rfl, rfl, rfl, rfl, pRec_no2 HG5.out hg, hk⟩
        have HG6 := Lib.hid hg
        have H6 := Lib.hid hS
        clear hg hS
        try go_wp2_with fail
        refine hK.out _ _ ?_ (fun hHeld => ?_)
        · exact H6.out.box
        clear hK K
        (try simp only [Act.put, List.setIfInBounds_toArray, List.set_cons_zero, List.set_cons_succ])
        refine wpAnyH_ready (rs := [5, 7]) (by kernel_rfl) (by simp) ?_
        refine AllReadyH.cons (o := { dst := some 15, op := Op.call { callee := Callee.value (Operand.func 38), args := #[Operand.tmp 14], argTypes := #[75] }, type := 3, pos := "record.go:173", after := #[{ on := 4, ground := Ground.data }, { on := 3, ground := Ground.chain }], guard := none }) rfl (fun K hK => ?sa5) ?ta5
        case sa5 =>
          go_simp
          go_at_call 38
          refine H6.out.lsn.mono ?_
          rintro e w7 (⟨hg, rfl, hk⟩ | ⟨v7, m7, hg, rfl, hS, _⟩)
          · exact ⟨rfl, rfl, rfl, rfl, pRec_no3 HG5.out HG6.out hg, hk⟩
          have HG7 := Lib.hid hg
          have H7 := Lib.hid hS
          clear hg hS
          try go_wp2_with fail
          refine hK.out _ _ ?_ (fun hHeld => ?_)
          · exact H7.out.box
          clear hK K
          (try simp only [Act.put, List.setIfInBounds_toArray, List.set_cons_zero, List.set_cons_succ])
          refine wpAnyH_take (i := 6) (oi := { dst := some 16, op := Op.build 26 #[(0, Operand.tmp 11), (1, Operand.tmp 13), (2, Operand.tmp 15)], type := 26, pos := "record.go:173", after := #[{ on := 1, ground := Ground.data }, { on := 3, ground := Ground.data }, { on := 5, ground := Ground.data }], guard := none }) (v := ?va6) rfl (by kernel_rfl) (by kernel_rfl) (by kernel_rfl) (fun c a w h => Fp.put (by decide) (by decide) h) (Or.inl ⟨by rfl, ?ha6⟩) hHeld ?ra6
          case ha6 => ((intro w hSw); (try dsimp only at hSw); go_simp; (try with_reducible rfl))
          (try simp only [Act.put, List.setIfInBounds_toArray, List.set_cons_zero, List.set_cons_succ])
          refine wpAnyH_ready (rs := [7]) (by kernel_rfl) (by simp) ?_
          refine AllReadyH.cons (o := { dst := some 5, op := Op.alloc 26, type := 0, pos := "record.go:173", after := #[], guard := none }) rfl (fun K hK => ?_) AllReadyH.nil
          go_simp
          have HA := Lib.hid (H7.out.made (recC recZ nilQ))
          refine hK.out _ _ ?_ (fun hHeld => ?_)
          · exact HA.out.box
          clear hK K
          (try simp only [Act.put, List.setIfInBounds_toArray, List.set_cons_zero, List.set_cons_succ])
          refine wpAnyH_ready (rs := [8]) (by kernel_rfl) (by simp) ?_
          refine AllReadyH.cons (o := { dst := none, op := Op.store 26 (Operand.tmp 5) (Operand.tmp 16), type := 0, pos := "record.go:173", after := #[{ on := 7, ground := Ground.data }, { on := 6, ground := Ground.data }, { on := 5, ground := Ground.chain }, { on := 0, ground := Ground.phase }, { on := 1, ground := Ground.phase }, { on := 2, ground := Ground.phase }, { on := 3, ground := Ground.phase }, { on := 4, ground := Ground.phase }, { on := 5, ground := Ground.phase }, { on := 6, ground := Ground.phase }, { on := 7, ground := Ground.phase }], guard := none }) rfl (fun K hK => ?_) AllReadyH.nil
          go_simp
          have H8 := Lib.hid (H7.out.made (recC { recZ with kind := v5, birth := v6, prev := v7 } nilQ))
          refine hK.out _ _ ?_ (fun hHeld => ?_)
          · exact H8.out.box
          clear hK K
          (try simp only [Act.put, List.setIfInBounds_toArray, List.set_cons_zero, List.set_cons_succ])
          refine wpAnyH_done (by kernel_rfl) ?_ _
          refine Fp.normal ?_
          go_wp2_with fail
          go_meet
          exact ⟨_, rfl, ⟨v5, v6, v7, m5, m6, m7, HG5.out, HG6.out, HG7.out, H8.out⟩⟩
        refine AllReadyH.cons (o := { dst := some 5, op := Op.alloc 26, type := 0, pos := "record.go:173", after := #[], guard := none }) rfl (fun K hK => ?_) AllReadyH.nil
        go_simp
        have HA := Lib.hid (H6.out.made (recC recZ nilQ))
        refine hK.out _ _ ?_ (fun hHeld => ?_)
        · exact HA.out.box
        clear hK K
        (try simp only [Act.put, List.setIfInBounds_toArray, List.set_cons_zero, List.set_cons_succ])
        refine wpAnyH_ready (rs := [5]) (by kernel_rfl) (by simp) ?_
        refine AllReadyH.cons (o := { dst := some 15, op := Op.call { callee := Callee.value (Operand.func 38), args := #[Operand.tmp 14], argTypes := #[75] }, type := 3, pos := "record.go:173", after := #[{ on := 4, ground := Ground.data }, { on := 3, ground := Ground.chain }], guard := none }) rfl (fun K hK => ?_) AllReadyH.nil
        go_simp
        go_at_call 38
        refine HA.out.lsn.mono ?_
        rintro e w7 (⟨hg, rfl, hk⟩ | ⟨v7, m7, hg, rfl, hS, _⟩)
        · exact ⟨rfl, rfl, rfl, rfl, pRec_no3 HG5.out HG6.out hg, hk⟩
        have HG7 := Lib.hid hg
        have H7 := Lib.hid hS
        clear hg hS
        try go_wp2_with fail
        refine hK.out _ _ ?_ (fun hHeld => ?_)
        · exact H7.out.box
        clear hK K
        (try simp only [Act.put, List.setIfInBounds_toArray, List.set_cons_zero, List.set_cons_succ])
        refine wpAnyH_take (i := 6) (oi := { dst := some 16, op := Op.build 26 #[(0, Operand.tmp 11), (1, Operand.tmp 13), (2, Operand.tmp 15)], type := 26, pos := "record.go:173", after := #[{ on := 1, ground := Ground.data }, { on := 3, ground := Ground.data }, { on := 5, ground := Ground.data }], guard := none }) (v := ?va7) rfl (by kernel_rfl) (by kernel_rfl) (by kernel_rfl) (fun c a w h => Fp.put (by decide) (by decide) h) (Or.inl ⟨by rfl, ?ha7⟩) hHeld ?ra7
        case ha7 => ((intro w hSw); (try dsimp only at hSw); go_simp; (try with_reducible rfl))
        (try simp only [Act.put, List.setIfInBounds_toArray, List.set_cons_zero, List.set_cons_succ])
        refine wpAnyH_ready (rs := [8]) (by kernel_rfl) (by simp) ?_
        refine AllReadyH.cons (o := { dst := none, op := Op.store 26 (Operand.tmp 5) (Operand.tmp 16), type := 0, pos := "record.go:173", after := #[{ on := 7, ground := Ground.data }, { on := 6, ground := Ground.data }, { on := 5, ground := Ground.chain }, { on := 0, ground := Ground.phase }, { on := 1, ground := Ground.phase }, { on := 2, ground := Ground.phase }, { on := 3, ground := Ground.phase }, { on := 4, ground := Ground.phase }, { on := 5, ground := Ground.phase }, { on := 6, ground := Ground.phase }, { on := 7, ground := Ground.phase }], guard := none }) rfl (fun K hK => ?_) AllReadyH.nil
        have R8 := H7.out.row
        have c0 := R8.cell (j := 0) rfl
        have f0 := R8.free 0
        have c1 := R8.cell (j := 1) rfl
        have f1 := R8.free 1
        have c2 := R8.cell (j := 2) rfl
        have f2 := R8.free 2
        have c3 := R8.cell (j := 3) rfl
        have f3 := R8.free 3
        have c4 := R8.cell (j := 4) rfl
        have f4 := R8.free 4
        have c5 := R8.cell (j := 5) rfl
        have f5 := R8.free 5
        have c6 := R8.cell (j := 6) rfl
        have f6 := R8.free 6
        have c7 := R8.cell (j := 7) rfl
        have f7 := R8.free 7
        have c8 := R8.cell (j := 8) rfl
        have f8 := R8.free 8
        have c9 := R8.cell (j := 9) rfl
        have f9 := R8.free 9
        have c10 := R8.cell (j := 10) rfl
        have f10 := R8.free 10
        go_simp
        clear R8 c0 f0 c1 f1 c2 f2 c3 f3 c4 f4 c5 f5 c6 f6 c7 f7 c8 f8 c9 f9 c10 f10
        have H8 := Lib.hid (((((((((((H7.out.put 0 (.int .i64 v5)).put 1 (.int .i64 v6)).put 2 (.int .i64 v7)).put 3 (.int .i64 0)).put 4 (.int .i64 0)).put 5 (.int .i64 0)).put 6 (.slice none 0 0)).put 7 (.slice none 0 0)).put 8 (.int .i64 0)).put 9 (.slice none 0 0)).put 10 (.slice none 0 0))
        refine hK.out _ _ ?_ (fun hHeld => ?_)
        · exact H8.out.box
        clear hK K
        (try simp only [Act.put, List.setIfInBounds_toArray, List.set_cons_zero, List.set_cons_succ])
        refine wpAnyH_done (by kernel_rfl) ?_ _
        refine Fp.normal ?_
        go_wp2_with fail
        go_meet
        exact ⟨_, rfl, ⟨v5, v6, v7, m5, m6, m7, HG5.out, HG6.out, HG7.out, H8.out⟩⟩
      refine AllReadyH.cons (o := { dst := some 5, op := Op.alloc 26, type := 0, pos := "record.go:173", after := #[], guard := none }) rfl (fun K hK => ?_) AllReadyH.nil
      go_simp
      have HA := Lib.hid (H5.out.made (recC recZ nilQ))
      refine hK.out _ _ ?_ (fun hHeld => ?_)
      · exact HA.out.box
      clear hK K
      (try simp only [Act.put, List.setIfInBounds_toArray, List.set_cons_zero, List.set_cons_succ])
      refine wpAnyH_ready (rs := [3]) (by kernel_rfl) (by simp) ?_
      refine AllReadyH.cons (o := { dst := some 13, op := Op.call { callee := Callee.value (Operand.func 38), args := #[Operand.tmp 12], argTypes := #[75] }, type := 3, pos := "record.go:173", after := #[{ on := 2, ground := Ground.data }, { on := 1, ground := Ground.chain }], guard := none }) rfl (fun K hK => ?_) AllReadyH.nil
      go_simp
      go_at_call 38
      refine HA.out.lsn.mono ?_
      rintro e w6 (⟨hg, rfl, hk⟩ | ⟨v6, m6, hg, rfl, hS, _⟩)
      · exact ⟨rfl, rfl, rfl, rfl, pRec_no2 HG5.out hg, hk⟩
      have HG6 := Lib.hid hg
      have H6 := Lib.hid hS
      clear hg hS
      try go_wp2_with fail
      refine hK.out _ _ ?_ (fun hHeld => ?_)
      · exact H6.out.box
      clear hK K
      (try simp only [Act.put, List.setIfInBounds_toArray, List.set_cons_zero, List.set_cons_succ])
      refine wpAnyH_ready (rs := [5]) (by kernel_rfl) (by simp) ?_
      refine AllReadyH.cons (o := { dst := some 15, op := Op.call { callee := Callee.value (Operand.func 38), args := #[Operand.tmp 14], argTypes := #[75] }, type := 3, pos := "record.go:173", after := #[{ on := 4, ground := Ground.data }, { on := 3, ground := Ground.chain }], guard := none }) rfl (fun K hK => ?_) AllReadyH.nil
      go_simp
      go_at_call 38
      refine H6.out.lsn.mono ?_
      rintro e w7 (⟨hg, rfl, hk⟩ | ⟨v7, m7, hg, rfl, hS, _⟩)
      · exact ⟨rfl, rfl, rfl, rfl, pRec_no3 HG5.out HG6.out hg, hk⟩
      have HG7 := Lib.hid hg
      have H7 := Lib.hid hS
      clear hg hS
      try go_wp2_with fail
      refine hK.out _ _ ?_ (fun hHeld => ?_)
      · exact H7.out.box
      clear hK K
      (try simp only [Act.put, List.setIfInBounds_toArray, List.set_cons_zero, List.set_cons_succ])
      refine wpAnyH_take (i := 6) (oi := { dst := some 16, op := Op.build 26 #[(0, Operand.tmp 11), (1, Operand.tmp 13), (2, Operand.tmp 15)], type := 26, pos := "record.go:173", after := #[{ on := 1, ground := Ground.data }, { on := 3, ground := Ground.data }, { on := 5, ground := Ground.data }], guard := none }) (v := ?va8) rfl (by kernel_rfl) (by kernel_rfl) (by kernel_rfl) (fun c a w h => Fp.put (by decide) (by decide) h) (Or.inl ⟨by rfl, ?ha8⟩) hHeld ?ra8
      case ha8 => ((intro w hSw); (try dsimp only at hSw); go_simp; (try with_reducible rfl))
      (try simp only [Act.put, List.setIfInBounds_toArray, List.set_cons_zero, List.set_cons_succ])
      refine wpAnyH_ready (rs := [8]) (by kernel_rfl) (by simp) ?_
      refine AllReadyH.cons (o := { dst := none, op := Op.store 26 (Operand.tmp 5) (Operand.tmp 16), type := 0, pos := "record.go:173", after := #[{ on := 7, ground := Ground.data }, { on := 6, ground := Ground.data }, { on := 5, ground := Ground.chain }, { on := 0, ground := Ground.phase }, { on := 1, ground := Ground.phase }, { on := 2, ground := Ground.phase }, { on := 3, ground := Ground.phase }, { on := 4, ground := Ground.phase }, { on := 5, ground := Ground.phase }, { on := 6, ground := Ground.phase }, { on := 7, ground := Ground.phase }], guard := none }) rfl (fun K hK => ?_) AllReadyH.nil
      have R8 := H7.out.row
      have c0 := R8.cell (j := 0) rfl
      have f0 := R8.free 0
      have c1 := R8.cell (j := 1) rfl
      have f1 := R8.free 1
      have c2 := R8.cell (j := 2) rfl
      have f2 := R8.free 2
      have c3 := R8.cell (j := 3) rfl
      have f3 := R8.free 3
      have c4 := R8.cell (j := 4) rfl
      have f4 := R8.free 4
      have c5 := R8.cell (j := 5) rfl
      have f5 := R8.free 5
      have c6 := R8.cell (j := 6) rfl
      have f6 := R8.free 6
      have c7 := R8.cell (j := 7) rfl
      have f7 := R8.free 7
      have c8 := R8.cell (j := 8) rfl
      have f8 := R8.free 8
      have c9 := R8.cell (j := 9) rfl
      have f9 := R8.free 9
      have c10 := R8.cell (j := 10) rfl
      have f10 := R8.free 10
      go_simp
      clear R8 c0 f0 c1 f1 c2 f2 c3 f3 c4 f4 c5 f5 c6 f6 c7 f7 c8 f8 c9 f9 c10 f10
      have H8 := Lib.hid (((((((((((H7.out.put 0 (.int .i64 v5)).put 1 (.int .i64 v6)).put 2 (.int .i64 v7)).put 3 (.int .i64 0)).put 4 (.int .i64 0)).put 5 (.int .i64 0)).put 6 (.slice none 0 0)).put 7 (.slice none 0 0)).put 8 (.int .i64 0)).put 9 (.slice none 0 0)).put 10 (.slice none 0 0))
      refine hK.out _ _ ?_ (fun hHeld => ?_)
      · exact H8.out.box
      clear hK K
      (try simp only [Act.put, List.setIfInBounds_toArray, List.set_cons_zero, List.set_cons_succ])
      refine wpAnyH_done (by kernel_rfl) ?_ _
      refine Fp.normal ?_
      go_wp2_with fail
      go_meet
      exact ⟨_, rfl, ⟨v5, v6, v7, m5, m6, m7, HG5.out, HG6.out, HG7.out, H8.out⟩⟩
    refine AllReadyH.cons (o := { dst := some 5, op := Op.alloc 26, type := 0, pos := "record.go:173", after := #[], guard := none }) rfl (fun K hK => ?_) AllReadyH.nil
    go_simp
    have ha := H4d.out.made (recC recZ nilQ)
    have e4 : ((w3.alloc (.cells #[.pointer (some ⟨r, 0, none⟩)] 75)).drew).heap.size = w3.heap.size + 1 := by simp
    rw [e4] at ha
    have HA := Lib.hid ha
    clear ha e4
    refine hK.out _ _ ?_ (fun hHeld => ?_)
    · exact HA.out.box
    clear hK K
    (try simp only [Act.put, List.setIfInBounds_toArray, List.set_cons_zero, List.set_cons_succ])
    refine wpAnyH_ready (rs := [1]) (by kernel_rfl) (by simp) ?_
    refine AllReadyH.cons (o := { dst := some 11, op := Op.call { callee := Callee.value (Operand.func 37), args := #[Operand.tmp 10, Operand.const (Value.int IntKind.i64 1)], argTypes := #[75, 3] }, type := 3, pos := "record.go:173", after := #[{ on := 0, ground := Ground.data }], guard := none }) rfl (fun K hK => ?_) AllReadyH.nil
    go_simp
    go_at_call 37
    refine HA.out.num.mono ?_
    rintro e w5 (⟨hg, rfl, hk⟩ | ⟨v5, m5, hg, rfl, hS, _⟩)
    · exact ⟨rfl, rfl, rfl, rfl, pRec_no1 hg, hk⟩
    have HG5 := Lib.hid hg
    have H5 := Lib.hid hS
    clear hg hS
    try go_wp2_with fail
    refine hK.out _ _ ?_ (fun hHeld => ?_)
    · exact H5.out.box
    clear hK K
    (try simp only [Act.put, List.setIfInBounds_toArray, List.set_cons_zero, List.set_cons_succ])
    refine wpAnyH_ready (rs := [3]) (by kernel_rfl) (by simp) ?_
    refine AllReadyH.cons (o := { dst := some 13, op := Op.call { callee := Callee.value (Operand.func 38), args := #[Operand.tmp 12], argTypes := #[75] }, type := 3, pos := "record.go:173", after := #[{ on := 2, ground := Ground.data }, { on := 1, ground := Ground.chain }], guard := none }) rfl (fun K hK => ?_) AllReadyH.nil
    go_simp
    go_at_call 38
    refine H5.out.lsn.mono ?_
    rintro e w6 (⟨hg, rfl, hk⟩ | ⟨v6, m6, hg, rfl, hS, _⟩)
    · exact ⟨rfl, rfl, rfl, rfl, pRec_no2 HG5.out hg, hk⟩
    have HG6 := Lib.hid hg
    have H6 := Lib.hid hS
    clear hg hS
    try go_wp2_with fail
    refine hK.out _ _ ?_ (fun hHeld => ?_)
    · exact H6.out.box
    clear hK K
    (try simp only [Act.put, List.setIfInBounds_toArray, List.set_cons_zero, List.set_cons_succ])
    refine wpAnyH_ready (rs := [5]) (by kernel_rfl) (by simp) ?_
    refine AllReadyH.cons (o := { dst := some 15, op := Op.call { callee := Callee.value (Operand.func 38), args := #[Operand.tmp 14], argTypes := #[75] }, type := 3, pos := "record.go:173", after := #[{ on := 4, ground := Ground.data }, { on := 3, ground := Ground.chain }], guard := none }) rfl (fun K hK => ?_) AllReadyH.nil
    go_simp
    go_at_call 38
    refine H6.out.lsn.mono ?_
    rintro e w7 (⟨hg, rfl, hk⟩ | ⟨v7, m7, hg, rfl, hS, _⟩)
    · exact ⟨rfl, rfl, rfl, rfl, pRec_no3 HG5.out HG6.out hg, hk⟩
    have HG7 := Lib.hid hg
    have H7 := Lib.hid hS
    clear hg hS
    try go_wp2_with fail
    refine hK.out _ _ ?_ (fun hHeld => ?_)
    · exact H7.out.box
    clear hK K
    (try simp only [Act.put, List.setIfInBounds_toArray, List.set_cons_zero, List.set_cons_succ])
    refine wpAnyH_take (i := 6) (oi := { dst := some 16, op := Op.build 26 #[(0, Operand.tmp 11), (1, Operand.tmp 13), (2, Operand.tmp 15)], type := 26, pos := "record.go:173", after := #[{ on := 1, ground := Ground.data }, { on := 3, ground := Ground.data }, { on := 5, ground := Ground.data }], guard := none }) (v := ?va9) rfl (by kernel_rfl) (by kernel_rfl) (by kernel_rfl) (fun c a w h => Fp.put (by decide) (by decide) h) (Or.inl ⟨by rfl, ?ha9⟩) hHeld ?ra9
    case ha9 => ((intro w hSw); (try dsimp only at hSw); go_simp; (try with_reducible rfl))
    (try simp only [Act.put, List.setIfInBounds_toArray, List.set_cons_zero, List.set_cons_succ])
    refine wpAnyH_ready (rs := [8]) (by kernel_rfl) (by simp) ?_
    refine AllReadyH.cons (o := { dst := none, op := Op.store 26 (Operand.tmp 5) (Operand.tmp 16), type := 0, pos := "record.go:173", after := #[{ on := 7, ground := Ground.data }, { on := 6, ground := Ground.data }, { on := 5, ground := Ground.chain }, { on := 0, ground := Ground.phase }, { on := 1, ground := Ground.phase }, { on := 2, ground := Ground.phase }, { on := 3, ground := Ground.phase }, { on := 4, ground := Ground.phase }, { on := 5, ground := Ground.phase }, { on := 6, ground := Ground.phase }, { on := 7, ground := Ground.phase }], guard := none }) rfl (fun K hK => ?_) AllReadyH.nil
    have R8 := H7.out.row
    have c0 := R8.cell (j := 0) rfl
    have f0 := R8.free 0
    have c1 := R8.cell (j := 1) rfl
    have f1 := R8.free 1
    have c2 := R8.cell (j := 2) rfl
    have f2 := R8.free 2
    have c3 := R8.cell (j := 3) rfl
    have f3 := R8.free 3
    have c4 := R8.cell (j := 4) rfl
    have f4 := R8.free 4
    have c5 := R8.cell (j := 5) rfl
    have f5 := R8.free 5
    have c6 := R8.cell (j := 6) rfl
    have f6 := R8.free 6
    have c7 := R8.cell (j := 7) rfl
    have f7 := R8.free 7
    have c8 := R8.cell (j := 8) rfl
    have f8 := R8.free 8
    have c9 := R8.cell (j := 9) rfl
    have f9 := R8.free 9
    have c10 := R8.cell (j := 10) rfl
    have f10 := R8.free 10
    go_simp
    clear R8 c0 f0 c1 f1 c2 f2 c3 f3 c4 f4 c5 f5 c6 f6 c7 f7 c8 f8 c9 f9 c10 f10
    have H8 := Lib.hid (((((((((((H7.out.put 0 (.int .i64 v5)).put 1 (.int .i64 v6)).put 2 (.int .i64 v7)).put 3 (.int .i64 0)).put 4 (.int .i64 0)).put 5 (.int .i64 0)).put 6 (.slice none 0 0)).put 7 (.slice none 0 0)).put 8 (.int .i64 0)).put 9 (.slice none 0 0)).put 10 (.slice none 0 0))
    refine hK.out _ _ ?_ (fun hHeld => ?_)
    · exact H8.out.box
    clear hK K
    (try simp only [Act.put, List.setIfInBounds_toArray, List.set_cons_zero, List.set_cons_succ])
    refine wpAnyH_done (by kernel_rfl) ?_ _
    refine Fp.normal ?_
    go_wp2_with fail
    go_meet
    exact ⟨_, rfl, ⟨v5, v6, v7, m5, m6, m7, HG5.out, HG6.out, HG7.out, H8.out⟩⟩
  case rest =>
    obtain ⟨rp, rfl, hh⟩ := hcut
    obtain ⟨a, b, c0, m1, m2, m3, hg1, hg2, hg3, hP⟩ := hh.ex
    have HPH := Lib.hid (pRec_head hg1 hg2 hg3)
    have HZI := Lib.hid (headZ_in hg1 hg2 hg3)
    have HP := Lib.hid hP
    obtain ⟨bx, hbx⟩ : ∃ b, w3.heap.size = b := ⟨_, rfl⟩
    rw [hbx] at HP
    rw [hbx]
    have ha0 := hP.row.cell (j := 0) (v := .int .i64 a) rfl
    have HA0 := Lib.hid ha0
    clear hg1 hg2 hg3 hP hh HPS
    by_cases hk : 1 ≤ a ∧ a ≤ 7
    · obtain ⟨k1, k7⟩ := hk
      have HN : Hid (pTail { recZ with kind := a, birth := b, prev := c0 } m3 = none → pRec l = none) := Lib.hid fun e => by rw [HPH.out, if_pos ⟨k1, k7⟩, e]; rfl
      have HY : Hid (∀ y m4, pTail { recZ with kind := a, birth := b, prev := c0 } m3 = some (y, m4) → pRec l = if m4.length = 0 ∧ rgtB y = true then some y else none) := Lib.hid fun y m4 e => by rw [HPH.out, if_pos ⟨k1, k7⟩, e]; rfl
      obtain ⟨KK, hK⟩ : ∃ K : Nat, a = (K : Int) + 1 := ⟨(a - 1).toNat, by omega⟩
      have hK7 : KK < 7 := by omega
      have i1 : IntKind.i64.wrap (a - 1) = (KK : Int) := by rw [IntWalk.i64_in _ (by omega)]; omega
      have i2 : (0 : Int) ≤ (KK : Int) := by omega
      have i3 : (KK : Int) < 7 := by omega
      have HKA := Lib.hid hK
      have hrn := HP.out.n3
      clear hK
      go_wp2_with fail
      go_upto_region 6 with (fail)
      go_cut [] from 26 to 33 (fun wx => ∃ y m4 q, pTail { recZ with kind := a, birth := b, prev := c0 } m3 = some (y, m4) ∧ Vars w p1 p2 wx ∧ IsRs w3 wx r 95 m4 ∧ RecB wx w.heap.size rp y q ∧ RowC wx bx 75 [.pointer (some ⟨r, 0, none⟩)])
      case first =>
        refine Code.wp_mono (Fp.imp (p1 := p1) (p2 := p2) (G := fun W => pRec l = none ∧ Vars w p1 p2 W) (fun T W t2 t3 g => par_fail g.1 g.2 t2 t3)) ?_
        have HPd := Lib.hid (HP.out.below (Below.refl _ _).drew)
        refine wp_region_held_drew (S := (fun w' => w'.cell? ⟨bx, 0, none⟩ = some (.pointer (some ⟨r, 0, none⟩)) ∧ w'.cell? ⟨rp, 0, none⟩ = some (.int .i64 a))) (by kernel_rfl) (⟨HPd.out.box, HPd.out.row.cell (j := 0) rfl⟩) (fun hHeld => ?_)
        refine wpAnyH_take (i := 1) (oi := { dst := some 27, op := Op.fieldAddr 26 (Operand.tmp 5) 0, type := 0, pos := "record.go:177", after := #[], guard := none }) (v := ?vb0) rfl (by kernel_rfl) (by kernel_rfl) (by kernel_rfl) (fun c a w h => Fp.put (by decide) (by decide) h) (Or.inl ⟨by rfl, ?hb0⟩) hHeld ?rb0
        case hb0 => ((intro w hSw); (try dsimp only at hSw); go_simp; (try with_reducible rfl))
        (try simp only [Act.put, List.setIfInBounds_toArray, List.set_cons_zero, List.set_cons_succ])
        refine wpAnyH_take (i := 2) (oi := { dst := some 28, op := Op.load 3 (Operand.tmp 27), type := 3, pos := "record.go:177", after := #[{ on := 1, ground := Ground.data }], guard := none }) (v := ?vb1) rfl (by kernel_rfl) (by kernel_rfl) (by kernel_rfl) (fun c a w h => Fp.put (by decide) (by decide) h) (Or.inl ⟨by rfl, ?hb1⟩) hHeld ?rb1
        case hb1 => ((intro w hSw); (try dsimp only at hSw); go_simp; (try with_reducible rfl))
        (try simp only [Act.put, List.setIfInBounds_toArray, List.set_cons_zero, List.set_cons_succ])
        refine wpAnyH_take (i := 3) (oi := { dst := some 29, op := Op.binOp BinOp.sub 3 (Operand.tmp 28) (Operand.const (Value.int IntKind.i64 1)) 3, type := 3, pos := "record.go:177", after := #[{ on := 2, ground := Ground.data }], guard := none }) (v := ?vb2) rfl (by kernel_rfl) (by kernel_rfl) (by kernel_rfl) (fun c a w h => Fp.put (by decide) (by decide) h) (Or.inl ⟨by rfl, ?hb2⟩) hHeld ?rb2
        case hb2 => ((intro w hSw); (try dsimp only at hSw); go_simp; (try with_reducible rfl))
        (try simp only [Act.put, List.setIfInBounds_toArray, List.set_cons_zero, List.set_cons_succ])
        refine wpAnyH_take (i := 6) (oi := { dst := some 32, op := Op.load 75 (Operand.tmp 4), type := 75, pos := "record.go:177", after := #[], guard := none }) (v := ?vb3) rfl (by kernel_rfl) (by kernel_rfl) (by kernel_rfl) (fun c a w h => Fp.put (by decide) (by decide) h) (Or.inl ⟨by rfl, ?hb3⟩) hHeld ?rb3
        case hb3 => ((intro w hSw); (try dsimp only at hSw); go_simp; (try with_reducible rfl))
        (try simp only [Act.put, List.setIfInBounds_toArray, List.set_cons_zero, List.set_cons_succ])
        refine wpAnyH_ready (rs := [0]) (by kernel_rfl) (by simp) ?_
        refine AllReadyH.cons (o := { dst := some 26, op := Op.call { callee := Callee.value (Operand.func 39), args := #[], argTypes := #[] }, type := 79, pos := "record.go:177", after := #[], guard := none }) rfl (fun K hK => ?_) AllReadyH.nil
        go_simp
        go_at_call 39
        refine readers_any.mono ?_
        rintro e w5 ⟨g, rfl, hb5, hg⟩
        have H5 := Lib.hid (HPd.out.below hb5)
        obtain ⟨fn, hfn, hcf⟩ := kind_fn hK7
        have cg := hg.cell (j := KK) hfn
        have HFN := Lib.hid hfn
        clear hb5 hg hfn
        try go_wp2_with fail
        refine hK.out _ _ ?_ (fun hHeld => ?_)
        · exact ⟨H5.out.box, H5.out.row.cell (j := 0) rfl⟩
        clear hK K
        (try simp only [Act.put, List.setIfInBounds_toArray, List.set_cons_zero, List.set_cons_succ])
        refine wpAnyH_take (i := 4) (oi := { dst := some 30, op := Op.indexAddr 79 (Operand.tmp 26) (Operand.tmp 29), type := 0, pos := "record.go:177", after := #[{ on := 0, ground := Ground.data }, { on := 3, ground := Ground.data }], guard := none }) (v := ?vb4) rfl (by kernel_rfl) (by kernel_rfl) (by kernel_rfl) (fun c a w h => Fp.put (by decide) (by decide) h) (Or.inl ⟨by rfl, ?hb4⟩) hHeld ?rb4
        case hb4 => ((intro w hSw); (try dsimp only at hSw); go_simp; (try with_reducible rfl))
        (try simp only [Act.put, List.setIfInBounds_toArray, List.set_cons_zero, List.set_cons_succ])
        refine wpAnyH_ready (rs := [5]) (by kernel_rfl) (by simp) ?_
        refine AllReadyH.cons (o := { dst := some 31, op := Op.load 78 (Operand.tmp 30), type := 78, pos := "record.go:177", after := #[{ on := 4, ground := Ground.data }], guard := none }) rfl (fun K hK => ?_) AllReadyH.nil
        go_simp
        refine hK.out _ _ ?_ (fun hHeld => ?_)
        · exact hHeld
        clear hK K
        (try simp only [Act.put, List.setIfInBounds_toArray, List.set_cons_zero, List.set_cons_succ])
        refine wpAnyH_ready (rs := [7]) (by kernel_rfl) (by simp) ?_
        refine AllReadyH.cons (o := { dst := some 33, op := Op.call { callee := Callee.value (Operand.tmp 31), args := #[Operand.tmp 32, Operand.tmp 5], argTypes := #[75, 81] }, type := 0, pos := "record.go:177", after := #[{ on := 5, ground := Ground.data }, { on := 6, ground := Ground.data }, { on := 0, ground := Ground.chain }], guard := none }) rfl (fun K hK => ?_) AllReadyH.nil
        go_simp
        refine (kind_any H5.out.ps.rd (B := w.heap.size) (rp := rp) (z := { recZ with kind := a, birth := b, prev := c0 }) ⟨H5.out.row, recLs_nil _ _ rfl rfl rfl rfl⟩ H5.out.ps.hl H5.out.ps.vars.low.size H5.out.n3 H5.out.ps.w0n rfl rfl hK7 HKA.out HFN.out).mono ?_
        rintro e w6 hR
        cases hpt : pTail { recZ with kind := a, birth := b, prev := c0 } m3 with
        | none =>
          have he := hR.no hpt
          subst he
          exact ⟨rfl, rfl, rfl, rfl, HN.out hpt, H5.out.ps.vars.on2 H5.out.ps.rd H5.out.ps.nr H5.out.n4 H5.out.n1 H5.out.n2 hR.kept⟩
        | some o6 =>
        obtain ⟨y, m4⟩ := o6
        obtain ⟨⟨v6, rfl⟩, hrd, q, hrc⟩ := hR.yes y m4 hpt
        have HPT := Lib.hid hpt
        have HV6 := Lib.hid (H5.out.ps.vars.on2 H5.out.ps.rd H5.out.ps.nr H5.out.n4 H5.out.n1 H5.out.n2 hR.kept)
        have HB6 : Hid (RowC w6 bx 75 [.pointer (some ⟨r, 0, none⟩)]) := Lib.hid ((hR.kept.block bx H5.out.ps.boxR.lt (by have e1 := H5.out.ps.nb; have e2 := rowC_ne H5.out.ps.boxR H5.out.row (by decide); rintro (e | e) <;> omega)).trans H5.out.ps.boxR)
        have HRD := Lib.hid hrd
        have HRC := Lib.hid hrc
        have HKY := Lib.hid (pTail_kind hpt)
        clear hpt hrd hrc hR
        try go_wp2_with fail
        refine hK.out _ _ ?_ (fun hHeld => ?_)
        · exact ⟨HB6.out.cell rfl, by rw [HRC.out.row.cell (j := 0) rfl, HKY.out]⟩
        clear hK K
        (try simp only [Act.put, List.setIfInBounds_toArray, List.set_cons_zero, List.set_cons_succ])
        refine wpAnyH_done (by kernel_rfl) ?_ _
        refine Fp.normal ?_
        go_wp2_with fail
        go_meet
        exact ⟨y, m4, q, HPT.out, HV6.out, HRD.out, HRC.out, HB6.out⟩
      case rest =>
        obtain ⟨y, m4, ⟨qb, qa, qr, qd⟩, hpt, hv6, hrd, hrc, hbx6⟩ := hcut
        obtain ⟨Ab, cb, eb, _⟩ := own_rda hrc.ls.vb
        obtain ⟨Aa, ca, ea, _⟩ := own_rda hrc.ls.va
        obtain ⟨Ar, cr, er⟩ := ownLe_slice hrc.ls.vr
        obtain ⟨Ad, cd, ed⟩ := ownLe_slice hrc.ls.vd
        dsimp only at eb ea er ed
        subst eb ea er ed
        have HY2 := Lib.hid (HY.out y m4 hpt)
        have HIN := Lib.hid (pTail_in HZI.out hpt)
        have HV6 := Lib.hid hv6
        have HRD := Lib.hid hrd
        have HRC := Lib.hid hrc
        have hb0 := hbx6.cell (j := 0) rfl
        clear hpt hv6 hrd hrc hbx6 HP ha0 HA0 i1
        go_wp2_with fail
        refine (end_any HRD.out.toR).mono ?_
        rintro e w7 ⟨rfl, rfl⟩
        by_cases hm : m4 = []
        · have he : endE m4 = 0 := if_pos hm
          rw [he]
          have HM := Lib.hid hm
          clear he hm
          have d0 := HRC.out.row.cell (j := 0) rfl
          have d1 := HRC.out.row.cell (j := 1) rfl
          have d2 := HRC.out.row.cell (j := 2) rfl
          have d3 := HRC.out.row.cell (j := 3) rfl
          have d4 := HRC.out.row.cell (j := 4) rfl
          have d5 := HRC.out.row.cell (j := 5) rfl
          have d6 := HRC.out.row.cell (j := 6) rfl
          have d7 := HRC.out.row.cell (j := 7) rfl
          have d8 := HRC.out.row.cell (j := 8) rfl
          have d9 := HRC.out.row.cell (j := 9) rfl
          have d10 := HRC.out.row.cell (j := 10) rfl
          go_wp2_with fail
          refine (right_any (HRC.out.ls.toR HIN.out) rfl).mono ?_
          rintro e w7 ⟨rfl, hb7⟩
          have HV7 := Lib.hid (HV6.out.below hb7)
          have HRC7 := Lib.hid (HRC.out.below hb7)
          obtain ⟨RB, hRB⟩ : ∃ b, rgtB y = b := ⟨_, rfl⟩
          have HRB := Lib.hid hRB
          rw [hRB]
          clear hb7 hRB d0 d1 d2 d3 d4 d5 d6 d7 d8 d9 d10 hb0
          cases RB with
          | false =>
            have a0 := HV7.out.r1.cell (j := 0) rfl
            have a1 := HV7.out.r1.cell (j := 1) rfl
            have a2 := HV7.out.r1.cell (j := 2) rfl
            have a3 := HV7.out.r1.cell (j := 3) rfl
            have a4 := HV7.out.r1.cell (j := 4) rfl
            have a5 := HV7.out.r1.cell (j := 5) rfl
            have a6 := HV7.out.r1.cell (j := 6) rfl
            have a7 := HV7.out.r1.cell (j := 7) rfl
            have a8 := HV7.out.r1.cell (j := 8) rfl
            have a9 := HV7.out.r1.cell (j := 9) rfl
            have a10 := HV7.out.r1.cell (j := 10) rfl
            have f0 := HV7.out.r1.free 0
            have f1 := HV7.out.r1.free 1
            have f2 := HV7.out.r1.free 2
            have f3 := HV7.out.r1.free 3
            have f4 := HV7.out.r1.free 4
            have f5 := HV7.out.r1.free 5
            have f6 := HV7.out.r1.free 6
            have f7 := HV7.out.r1.free 7
            have f8 := HV7.out.r1.free 8
            have f9 := HV7.out.r1.free 9
            have f10 := HV7.out.r1.free 10
            have b0 := HV7.out.r2.cell (j := 0) rfl
            have g0 := HV7.out.r2.free 0
            have hne := HV7.out.ne
            have hne2 := HV7.out.ne.symm
            go_wp2_with fail
            obtain ⟨z1, z2⟩ := put11 HV7.out.r1 (.int .i64 0) (.int .i64 0) (.int .i64 0) (.int .i64 0) (.int .i64 0) (.int .i64 0) (.slice none 0 0) (.slice none 0 0) (.int .i64 0) (.slice none 0 0) (.slice none 0 0)
            obtain ⟨y1, y2, y3, y4⟩ := par_laid HV7.out z1 z2 (v2 := .int .i64 90) rfl
            obtain ⟨e1, e2⟩ := par_none (l := l) (by rw [HY2.out, if_neg (fun h => by rw [HRB.out] at h; exact absurd h.2 (by decide))])
            exact parse_ret y2 y3 rfl rfl ⟨nilQ, by rw [e1, e2]; rfl, y1, by rw [e1]; exact recLs_nil _ _ rfl rfl rfl rfl⟩
          | true =>
            have d0 := HRC7.out.row.cell (j := 0) rfl
            have d1 := HRC7.out.row.cell (j := 1) rfl
            have d2 := HRC7.out.row.cell (j := 2) rfl
            have d3 := HRC7.out.row.cell (j := 3) rfl
            have d4 := HRC7.out.row.cell (j := 4) rfl
            have d5 := HRC7.out.row.cell (j := 5) rfl
            have d6 := HRC7.out.row.cell (j := 6) rfl
            have d7 := HRC7.out.row.cell (j := 7) rfl
            have d8 := HRC7.out.row.cell (j := 8) rfl
            have d9 := HRC7.out.row.cell (j := 9) rfl
            have d10 := HRC7.out.row.cell (j := 10) rfl
            have a0 := HV7.out.r1.cell (j := 0) rfl
            have a1 := HV7.out.r1.cell (j := 1) rfl
            have a2 := HV7.out.r1.cell (j := 2) rfl
            have a3 := HV7.out.r1.cell (j := 3) rfl
            have a4 := HV7.out.r1.cell (j := 4) rfl
            have a5 := HV7.out.r1.cell (j := 5) rfl
            have a6 := HV7.out.r1.cell (j := 6) rfl
            have a7 := HV7.out.r1.cell (j := 7) rfl
            have a8 := HV7.out.r1.cell (j := 8) rfl
            have a9 := HV7.out.r1.cell (j := 9) rfl
            have a10 := HV7.out.r1.cell (j := 10) rfl
            have f0 := HV7.out.r1.free 0
            have f1 := HV7.out.r1.free 1
            have f2 := HV7.out.r1.free 2
            have f3 := HV7.out.r1.free 3
            have f4 := HV7.out.r1.free 4
            have f5 := HV7.out.r1.free 5
            have f6 := HV7.out.r1.free 6
            have f7 := HV7.out.r1.free 7
            have f8 := HV7.out.r1.free 8
            have f9 := HV7.out.r1.free 9
            have f10 := HV7.out.r1.free 10
            have b0 := HV7.out.r2.cell (j := 0) rfl
            have g0 := HV7.out.r2.free 0
            have hne := HV7.out.ne
            have hne2 := HV7.out.ne.symm
            go_wp2_with fail
            obtain ⟨z1, z2⟩ := put11 HV7.out.r1 (.int .i64 y.kind) (.int .i64 y.birth) (.int .i64 y.prev) (.int .i64 y.id) (.int .i64 y.page) (.int .i64 y.frm) (.slice Ab y.before.length cb) (.slice Aa y.after.length ca) (.int .i64 y.next) (.slice Ar y.rows.length cr) (.slice Ad y.dirty.length cd)
            obtain ⟨y1, y2, y3, y4⟩ := par_laid HV7.out z1 z2 (v2 := .int .i64 0) rfl
            obtain ⟨e1, e2⟩ := par_some (l := l) (x := y) (by rw [HY2.out, if_pos ⟨by rw [HM.out]; rfl, HRB.out⟩])
            exact parse_ret y2 y3 rfl rfl ⟨⟨.slice Ab y.before.length cb, .slice Aa y.after.length ca, .slice Ar y.rows.length cr, .slice Ad y.dirty.length cd⟩, by rw [e1, e2]; rfl, y1, by rw [e1]; exact lists_kept HV7.out HRC7.out.ls y4⟩
        · have he : endE m4 = 11 := if_neg hm
          rw [he]
          have HM := Lib.hid hm
          clear he hm
          have a0 := HV6.out.r1.cell (j := 0) rfl
          have a1 := HV6.out.r1.cell (j := 1) rfl
          have a2 := HV6.out.r1.cell (j := 2) rfl
          have a3 := HV6.out.r1.cell (j := 3) rfl
          have a4 := HV6.out.r1.cell (j := 4) rfl
          have a5 := HV6.out.r1.cell (j := 5) rfl
          have a6 := HV6.out.r1.cell (j := 6) rfl
          have a7 := HV6.out.r1.cell (j := 7) rfl
          have a8 := HV6.out.r1.cell (j := 8) rfl
          have a9 := HV6.out.r1.cell (j := 9) rfl
          have a10 := HV6.out.r1.cell (j := 10) rfl
          have f0 := HV6.out.r1.free 0
          have f1 := HV6.out.r1.free 1
          have f2 := HV6.out.r1.free 2
          have f3 := HV6.out.r1.free 3
          have f4 := HV6.out.r1.free 4
          have f5 := HV6.out.r1.free 5
          have f6 := HV6.out.r1.free 6
          have f7 := HV6.out.r1.free 7
          have f8 := HV6.out.r1.free 8
          have f9 := HV6.out.r1.free 9
          have f10 := HV6.out.r1.free 10
          have b0 := HV6.out.r2.cell (j := 0) rfl
          have g0 := HV6.out.r2.free 0
          have hne := HV6.out.ne
          have hne2 := HV6.out.ne.symm
          go_wp2_with fail
          obtain ⟨z1, z2⟩ := put11 HV6.out.r1 (.int .i64 0) (.int .i64 0) (.int .i64 0) (.int .i64 0) (.int .i64 0) (.int .i64 0) (.slice none 0 0) (.slice none 0 0) (.int .i64 0) (.slice none 0 0) (.slice none 0 0)
          obtain ⟨y1, y2, y3, y4⟩ := par_laid HV6.out z1 z2 (v2 := .int .i64 90) rfl
          obtain ⟨e1, e2⟩ := par_none (l := l) (by rw [HY2.out, if_neg (fun h => HM.out (List.eq_nil_of_length_eq_zero h.1))])
          exact parse_ret y2 y3 rfl rfl ⟨nilQ, by rw [e1, e2]; rfl, y1, by rw [e1]; exact recLs_nil _ _ rfl rfl rfl rfl⟩

    · have hno : pRec l = none := by rw [HPH.out, if_neg hk]; rfl
      have HNO := Lib.hid hno
      have HV := Lib.hid HP.out.ps.vars
      have hor : a < 1 ∨ 7 < a := by omega
      clear hno hk
      rcases hor with hor | hor
      · have a0 := HV.out.r1.cell (j := 0) rfl
        have a1 := HV.out.r1.cell (j := 1) rfl
        have a2 := HV.out.r1.cell (j := 2) rfl
        have a3 := HV.out.r1.cell (j := 3) rfl
        have a4 := HV.out.r1.cell (j := 4) rfl
        have a5 := HV.out.r1.cell (j := 5) rfl
        have a6 := HV.out.r1.cell (j := 6) rfl
        have a7 := HV.out.r1.cell (j := 7) rfl
        have a8 := HV.out.r1.cell (j := 8) rfl
        have a9 := HV.out.r1.cell (j := 9) rfl
        have a10 := HV.out.r1.cell (j := 10) rfl
        have f0 := HV.out.r1.free 0
        have f1 := HV.out.r1.free 1
        have f2 := HV.out.r1.free 2
        have f3 := HV.out.r1.free 3
        have f4 := HV.out.r1.free 4
        have f5 := HV.out.r1.free 5
        have f6 := HV.out.r1.free 6
        have f7 := HV.out.r1.free 7
        have f8 := HV.out.r1.free 8
        have f9 := HV.out.r1.free 9
        have f10 := HV.out.r1.free 10
        have b0 := HV.out.r2.cell (j := 0) rfl
        have g0 := HV.out.r2.free 0
        have hne := HV.out.ne
        have hne2 := HV.out.ne.symm
        go_wp2_with fail
        obtain ⟨z1, z2⟩ := put11 HV.out.r1 (.int .i64 0) (.int .i64 0) (.int .i64 0) (.int .i64 0) (.int .i64 0) (.int .i64 0) (.slice none 0 0) (.slice none 0 0) (.int .i64 0) (.slice none 0 0) (.slice none 0 0)
        obtain ⟨y1, y2, y3, y4⟩ := par_laid HV.out z1 z2 (v2 := .int .i64 90) rfl
        obtain ⟨e1, e2⟩ := par_none (l := l) (HNO.out)
        exact parse_ret y2 y3 rfl rfl ⟨nilQ, by rw [e1, e2]; rfl, y1, by rw [e1]; exact recLs_nil _ _ rfl rfl rfl rfl⟩
      · have a0 := HV.out.r1.cell (j := 0) rfl
        have a1 := HV.out.r1.cell (j := 1) rfl
        have a2 := HV.out.r1.cell (j := 2) rfl
        have a3 := HV.out.r1.cell (j := 3) rfl
        have a4 := HV.out.r1.cell (j := 4) rfl
        have a5 := HV.out.r1.cell (j := 5) rfl
        have a6 := HV.out.r1.cell (j := 6) rfl
        have a7 := HV.out.r1.cell (j := 7) rfl
        have a8 := HV.out.r1.cell (j := 8) rfl
        have a9 := HV.out.r1.cell (j := 9) rfl
        have a10 := HV.out.r1.cell (j := 10) rfl
        have f0 := HV.out.r1.free 0
        have f1 := HV.out.r1.free 1
        have f2 := HV.out.r1.free 2
        have f3 := HV.out.r1.free 3
        have f4 := HV.out.r1.free 4
        have f5 := HV.out.r1.free 5
        have f6 := HV.out.r1.free 6
        have f7 := HV.out.r1.free 7
        have f8 := HV.out.r1.free 8
        have f9 := HV.out.r1.free 9
        have f10 := HV.out.r1.free 10
        have b0 := HV.out.r2.cell (j := 0) rfl
        have g0 := HV.out.r2.free 0
        have hne := HV.out.ne
        have hne2 := HV.out.ne.symm
        go_wp2_with fail
        obtain ⟨z1, z2⟩ := put11 HV.out.r1 (.int .i64 0) (.int .i64 0) (.int .i64 0) (.int .i64 0) (.int .i64 0) (.int .i64 0) (.slice none 0 0) (.slice none 0 0) (.int .i64 0) (.slice none 0 0) (.slice none 0 0)
        obtain ⟨y1, y2, y3, y4⟩ := par_laid HV.out z1 z2 (v2 := .int .i64 90) rfl
        obtain ⟨e1, e2⟩ := par_none (l := l) (HNO.out)
        exact parse_ret y2 y3 rfl rfl ⟨nilQ, by rw [e1, e2]; rfl, y1, by rw [e1]; exact recLs_nil _ _ rfl rfl rfl rfl⟩
end Go.Proofs.Ytiaehoppdihbdaa
