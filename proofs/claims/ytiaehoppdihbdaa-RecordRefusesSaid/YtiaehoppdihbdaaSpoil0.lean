import Derived.Test.YtiaehoppdihbdaaCopy9
import Derived.Test.YtiaehoppdihbdaaBadPure
/- RecordRefuses: the list of records that are not right, under way. -/
set_option linter.unusedVariables false
set_option linter.unusedSimpArgs false
namespace Go.Proofs.Ytiaehoppdihbdaa
open Go.RowKit Go.Tm
set_option maxHeartbeats 400000
set_option maxRecDepth 100000

theorem recC_length (x : RecD) (q : RPl) : (recC x q).length = 11 := rfl
theorem recC_one {w : World} {b : Nat} {x : RecD} {q : RPl} (h : RecLs w b x q) : ∀ u ∈ recC x q, u.oneCell' = true := by
  intro u hu
  obtain ⟨A1, c1, e1, _⟩ := own_rda h.vb
  obtain ⟨A2, c2, e2, _⟩ := own_rda h.va
  obtain ⟨A3, c3, e3⟩ := ownLe_slice h.vr
  obtain ⟨A4, c4, e4⟩ := ownLe_slice h.vd
  unfold recC at hu
  rw [e1, e2, e3, e4] at hu
  simp only [List.mem_cons, List.not_mem_nil, or_false] at hu
  rcases hu with rfl | rfl | rfl | rfl | rfl | rfl | rfl | rfl | rfl | rfl | rfl <;> rfl
abbrev recF (p : RecD × RPl) : List Value := recC p.1 p.2
/-- Numbers that fit, lists that are short. -/
structure RecI (x : RecD) : Prop where
  ii : In64 x.kind ∧ In64 x.birth ∧ In64 x.prev ∧ In64 x.id ∧ In64 x.page ∧ In64 x.frm ∧ In64 x.next
  rr : ∀ y ∈ x.rows, In64 y.1 ∧ In64 y.2.1 ∧ In64 y.2.2.1 ∧ In64 y.2.2.2.1 ∧ In64 y.2.2.2.2
  dd : ∀ y ∈ x.dirty, In64 y.1 ∧ In64 y.2
  nn : x.before.length ≤ 65535 ∧ x.after.length ≤ 65535 ∧ x.rows.length ≤ 65535 ∧ x.dirty.length ≤ 65535
theorem RecLs.toRI {w : World} {B : Nat} {x : RecD} {q : RPl} (h : RecLs w B x q) (hi : RecI x) : RecR w x q := by
  obtain ⟨A1, c1, e1, r1⟩ := own_rda h.vb
  obtain ⟨A2, c2, e2, r2⟩ := own_rda h.va
  obtain ⟨A3, c3, e3, r3⟩ := ownLe_rdS (R := rRow9) (f := row9C) (fun _ => rfl) h.vr (by omega) fun y hy => by
    obtain ⟨a, b, c, d, e⟩ := hi.rr y hy
    exact ⟨⟨rfl, a⟩, ⟨rfl, b⟩, ⟨rfl, c⟩, ⟨rfl, d⟩, rfl, e⟩
  obtain ⟨A4, c4, e4, r4⟩ := ownLe_rdS (R := rDirt) (f := dirtC) (fun _ => rfl) h.vd (by omega) fun y hy => by
    obtain ⟨a, b⟩ := hi.dd y hy
    exact ⟨⟨rfl, a⟩, rfl, b⟩
  obtain ⟨n1, n2, n3, n4⟩ := hi.nn
  exact ⟨⟨A1, c1, e1, r1⟩, ⟨A2, c2, e2, r2⟩, ⟨A3, c3, e3, r3⟩, ⟨A4, c4, e4, r4⟩, hi.ii, by omega, by omega, by omega, by omega⟩
theorem recLs_spell {w : World} {b : Nat} {x : RecD} {q : RPl} (h : RecLs w b x q) : ∃ A1 c1 A2 c2 A3 c3 A4 c4, q = ⟨.slice A1 x.before.length c1, .slice A2 x.after.length c2, .slice A3 x.rows.length c3, .slice A4 x.dirty.length c4⟩ := by
  obtain ⟨A1, c1, e1, _⟩ := own_rda h.vb
  obtain ⟨A2, c2, e2, _⟩ := own_rda h.va
  obtain ⟨A3, c3, e3⟩ := ownLe_slice h.vr
  obtain ⟨A4, c4, e4⟩ := ownLe_slice h.vd
  exact ⟨A1, c1, A2, c2, A3, c3, A4, c4, by rw [← e1, ← e2, ← e3, ← e4]⟩
theorem RecLs.mono {w : World} {b b' : Nat} {x : RecD} {q : RPl} (h : RecLs w b x q) (hb : b' ≤ b) : RecLs w b' x q :=
  ⟨h.vb.mono hb, h.va.mono hb, ownLe_base h.vr fun k hk => by have := (ownLe_block h.vr hk).1; omega, ownLe_base h.vd fun k hk => by have := (ownLe_block h.vd hk).1; omega, h.ap⟩

/-- The list under way: the record handed in (boxed), the one that is changed (boxed), the list. -/
structure SpL (B0 B n : Nat) (v : Value) (W : World) (ys : List (RecD × RPl)) : Prop where
  len : ys.length = n
  own : OwnLe W (B + 1) 26 11 v n (ys.flatMap recF)
  recs : ∀ r ∈ ys, RecLs W B0 r.1 r.2 ∧ rgtB r.1 = false ∧ RecI r.1
structure Sp (w : World) (C : List Value) (B n : Nat) (v : Value) (y : RecD) (p : RPl) (W : World) : Prop where
  low : Below w.heap.size w W
  hB : w.heap.size < B
  box : RowC W w.heap.size 26 C
  tmp : RowC W B 26 (recC y p)
  cur : RecLs W w.heap.size y p
  all : ∃ ys, SpL w.heap.size B n v W ys
/-- Since W1: the changed record alone was written, its lists are new. -/
structure Sg (W1 : World) (B : Nat) (y : RecD) (p : RPl) (W : World) : Prop where
  kept : KeptBut (fun k => k = B) W1 W
  hB : B < W1.heap.size
  tmp : RowC W B 26 (recC y p)
  cur : RecLs W W1.heap.size y p
section
variable {w W W' W1 : World} {C : List Value} {B n : Nat} {v : Value} {y : RecD} {p : RPl}
theorem Sp.below (h : Sp w C B n v y p W) (hb : Below W.heap.size W W') : Sp w C B n v y p W' := by
  obtain ⟨ys, h1, h2, h3⟩ := h.all
  exact ⟨below_then h.low hb, h.hB, h.box.below hb, h.tmp.below hb, h.cur.below hb, ys, h1, ownLe_below h2 hb, fun r hr => ⟨(h3 r hr).1.below hb, (h3 r hr).2⟩⟩
theorem Sp.put (h : Sp w C B n v y p W) (k : Nat) (u : Value) {y' : RecD} {p' : RPl} (hc : (recC y p).set k u = recC y' p') (hl : ∀ W b, RecLs W b y p → RecLs W b y' p') : Sp w C B n v y' p' (W.setCell ⟨B, k, none⟩ u) := by
  have hg := cell_grown W B k u
  have := h.hB
  obtain ⟨ys, h1, h2, h3⟩ := h.all
  refine ⟨h.low.grown hg h.low.size (fun k hk => by injection hk with hk; omega), h.hB, h.box.grown hg (by intro e; injection e with e; omega), ?_, ?_, ys, h1, ownLe_kept h2 hg (fun k hk e => by injection e with e; have := (ownLe_block h2 hk).1; omega), fun r hr => ⟨(h3 r hr).1.stored h.tmp hg, (h3 r hr).2⟩⟩
  · rw [← hc]; exact h.tmp.stored k u
  · exact hl _ _ (h.cur.stored h.tmp hg)
theorem Sg.start {W2 : World} {D : List Value} (hr : RowC W1 B 26 D) (hb : Below W1.heap.size W1 W2) {x : RecD} {q : RPl} (hl : RecLs W2 W1.heap.size x q) (hD : D.length = 11) {a0 a1 a2 a3 a4 a5 a6 a7 a8 a9 a10 : Value} (hc : [a0, a1, a2, a3, a4, a5, a6, a7, a8, a9, a10] = recC x q) :
    Sg W1 B x q (lay11 W2 B a0 a1 a2 a3 a4 a5 a6 a7 a8 a9 a10) := by
  have hr2 := hr.below hb
  have hlt := hr.lt
  have k0 : KeptBut (fun k => k = B) W1 W2 := (KeptBut.refl _ W1).below hb
  match D, hD with
  | [b0, b1, b2, b3, b4, b5, b6, b7, b8, b9, b10], _ =>
    have t11 := ((((((((((hr2.stored 0 a0).stored 1 a1).stored 2 a2).stored 3 a3).stored 4 a4).stored 5 a5).stored 6 a6).stored 7 a7).stored 8 a8).stored 9 a9).stored 10 a10
    simp only [List.set_cons_zero, List.set_cons_succ] at t11
    rw [hc] at t11
    have key : ∀ (W : World) (cs : List Value) (j : Nat) (u : Value), RowC W B 26 cs → KeptBut (fun k => k = B) W1 W ∧ RecLs W W1.heap.size x q → RowC (W.setCell ⟨B, j, none⟩ u) B 26 (cs.set j u) ∧ KeptBut (fun k => k = B) W1 (W.setCell ⟨B, j, none⟩ u) ∧ RecLs (W.setCell ⟨B, j, none⟩ u) W1.heap.size x q := fun W cs j u h1 h2 =>
      ⟨h1.stored j u, h2.1.grown (cell_grown W B j u) (fun k hk => by injection hk with hk; exact .inl hk.symm), h2.2.stored h1 (cell_grown W B j u)⟩
    have s0 := key _ _ 0 a0 hr2 ⟨k0, hl⟩
    have s1 := key _ _ 1 a1 s0.1 s0.2
    have s2 := key _ _ 2 a2 s1.1 s1.2
    have s3 := key _ _ 3 a3 s2.1 s2.2
    have s4 := key _ _ 4 a4 s3.1 s3.2
    have s5 := key _ _ 5 a5 s4.1 s4.2
    have s6 := key _ _ 6 a6 s5.1 s5.2
    have s7 := key _ _ 7 a7 s6.1 s6.2
    have s8 := key _ _ 8 a8 s7.1 s7.2
    have s9 := key _ _ 9 a9 s8.1 s8.2
    have s10 := key _ _ 10 a10 s9.1 s9.2
    exact ⟨s10.2.1, hlt, t11, s10.2.2⟩
theorem Sg.below (h : Sg W1 B y p W) (hb : Below W.heap.size W W') : Sg W1 B y p W' :=
  ⟨h.kept.below hb, h.hB, h.tmp.below hb, h.cur.below hb⟩
theorem Sg.put (h : Sg W1 B y p W) (k : Nat) (u : Value) {y' : RecD} {p' : RPl} (hc : (recC y p).set k u = recC y' p') (hl : ∀ W b, RecLs W b y p → RecLs W b y' p') : Sg W1 B y' p' (W.setCell ⟨B, k, none⟩ u) := by
  have hg := cell_grown W B k u
  exact ⟨h.kept.grown hg (fun k hk => by injection hk with hk; exact .inl hk.symm), h.hB, by rw [← hc]; exact h.tmp.stored k u, hl _ _ (h.cur.stored h.tmp hg)⟩
/-- One of its lists has grown, or was written into. -/
theorem Sg.list (h : Sg W1 B y p W) (k : Nat) (u : Value) {row : Option Nat} (hg : W.grownBy W' row) (hr : ∀ k, row = some k → W1.heap.size ≤ k) {y' : RecD} {p' : RPl} (hc : (recC y p).set k u = recC y' p') (hl : RecLs W' W1.heap.size y' p') : Sg W1 B y' p' (W'.setCell ⟨B, k, none⟩ u) := by
  have hB := h.hB
  have t : RowC W' B 26 (recC y p) := h.tmp.grown hg (fun e => by have := hr B e; omega)
  have hg2 := cell_grown W' B k u
  exact ⟨(h.kept.grown hg (fun k hk => .inr (hr k hk))).grown hg2 (fun k hk => by injection hk with hk; exact .inl hk.symm), h.hB, by rw [← hc]; exact t.stored k u, hl.stored t hg2⟩
theorem Sg.wrote (h : Sg W1 B y p W) {row : Option Nat} (hg : W.grownBy W' row) (hr : ∀ k, row = some k → W1.heap.size ≤ k) {y' : RecD} (hc : recC y p = recC y' p) (hl : RecLs W' W1.heap.size y' p) : Sg W1 B y' p W' := by
  have hB := h.hB
  exact ⟨h.kept.grown hg (fun k hk => .inr (hr k hk)), h.hB, by rw [← hc]; exact h.tmp.grown hg (fun e => by have := hr B e; omega), hl⟩
theorem own8_le {t : TypeId} {size k : Nat} {b b2 : Nat} {u : Value} {T : TypeId} {xs : List Value} {l : List UInt8} (h : OwnLe W b T size u k xs) (ho : Own8 W b2 t v l) (hne : T ≠ t) (hg : W.grownBy W' v.ownBlock) : OwnLe W' b T size u k xs :=
  ownLe_kept h hg fun q hq e => by
    obtain ⟨_, _, cur, hc⟩ := ownLe_block h hq
    obtain ⟨cur', hc'⟩ := own8_block_type ho e
    rw [hc] at hc'
    injection hc' with hc'
    injection hc' with _ hc'
    exact hne hc'
/-- before has grown. -/
theorem Sg.bef (h : Sg W1 B y p W) {v' : Value} {l : List UInt8} (ho : Own8 W' W1.heap.size 5 v' l) (ha : AppTwo W W' p.vb v') : Sg W1 B { y with before := l } { p with vb := v' } (W'.setCell ⟨B, 6, none⟩ v') := by
  have hg := ha.grown
  refine h.list 6 v' hg (fun k hk => (World.ownsRow.lt h.cur.vb k hk).1) rfl ⟨ho, h.cur.va.keptBy hg (fun k hk e => h.cur.ap k e hk), own8_le h.cur.vr h.cur.vb (by decide) hg, own8_le h.cur.vd h.cur.vb (by decide) hg, ?_⟩
  intro k h1 h2
  rcases ha.at_ with e | e
  · exact h.cur.ap k (by rw [← e]; exact h1) h2
  · rw [e] at h1
    injection h1 with h1
    have := (World.ownsRow.lt h.cur.va k h2).2
    omega
/-- after is another row, a new one. -/
theorem Sg.aft (h : Sg W1 B y p W) {v' : Value} {l : List UInt8} (ho : Own8 W' W.heap.size 5 v' l) (hb : Below W.heap.size W W') : Sg W1 B { y with after := l } { p with va := v' } (W'.setCell ⟨B, 7, none⟩ v') := by
  have hs := h.kept.size
  refine h.list 7 v' (below_grown hb none) (fun k hk => by cases hk) rfl ⟨h.cur.vb.below hb, ho.mono hs, ownLe_below h.cur.vr hb, ownLe_below h.cur.vd hb, ?_⟩
  intro k h1 h2
  have a := (World.ownsRow.lt h.cur.vb k h1).2
  have b := (World.ownsRow.lt ho k h2).1
  omega
theorem Sg.rows (h : Sg W1 B y p W) {v' : Value} {l : List Row9} (ho : OwnLe W' W1.heap.size 58 5 v' l.length (rowsC l)) (hg : W.grownBy W' p.vr.ownBlock) : Sg W1 B { y with rows := l } { p with vr := v' } (W'.setCell ⟨B, 9, none⟩ v') :=
  h.list 9 v' hg (fun k hk => (ownLe_block h.cur.vr hk).1) rfl ⟨own8_row h.cur.vb h.cur.vr (by decide) hg, own8_row h.cur.va h.cur.vr (by decide) hg, ho, ownLe_row h.cur.vd h.cur.vr (by decide) hg, h.cur.ap⟩
theorem Sg.dirt (h : Sg W1 B y p W) {v' : Value} {l : List (Int × Int)} (ho : OwnLe W' W1.heap.size 60 2 v' l.length (dirtsC l)) (hg : W.grownBy W' p.vd.ownBlock) : Sg W1 B { y with dirty := l } { p with vd := v' } (W'.setCell ⟨B, 10, none⟩ v') :=
  h.list 10 v' hg (fun k hk => (ownLe_block h.cur.vd hk).1) rfl ⟨own8_row h.cur.vb h.cur.vd (by decide) hg, own8_row h.cur.va h.cur.vd (by decide) hg, ownLe_row h.cur.vr h.cur.vd (by decide) hg, ho, h.cur.ap⟩
/-- A byte of before, of after, is written. -/
theorem Sg.setB {g k c : Nat} (h : Sg W1 B y p W) (hv : p.vb = .slice (some ⟨g, 0, none⟩) k c) (hk : k = y.before.length) (j : Nat) (b : UInt8) : Sg W1 B { y with before := y.before.set j b } p (W.setCell ⟨g, j, none⟩ (.int .u8 (b.toNat : Int))) := by
  have ho := h.cur.vb
  rw [hv] at ho
  obtain ⟨s1, s2⟩ := ho.stored hk j b
  have hg : W.grownBy (W.setCell ⟨g, j, none⟩ (.int .u8 (b.toNat : Int))) p.vb.ownBlock := by rw [hv]; exact s2
  exact h.wrote hg (fun k hk => (World.ownsRow.lt h.cur.vb k hk).1) rfl ⟨by rw [hv]; exact s1, h.cur.va.keptBy hg (fun k hk e => h.cur.ap k e hk), own8_le h.cur.vr h.cur.vb (by decide) hg, own8_le h.cur.vd h.cur.vb (by decide) hg, h.cur.ap⟩
theorem Sg.setA {g k c : Nat} (h : Sg W1 B y p W) (hv : p.va = .slice (some ⟨g, 0, none⟩) k c) (hk : k = y.after.length) (j : Nat) (b : UInt8) : Sg W1 B { y with after := y.after.set j b } p (W.setCell ⟨g, j, none⟩ (.int .u8 (b.toNat : Int))) := by
  have ho := h.cur.va
  rw [hv] at ho
  obtain ⟨s1, s2⟩ := ho.stored hk j b
  have hg : W.grownBy (W.setCell ⟨g, j, none⟩ (.int .u8 (b.toNat : Int))) p.va.ownBlock := by rw [hv]; exact s2
  exact h.wrote hg (fun k hk => (World.ownsRow.lt h.cur.va k hk).1) rfl ⟨h.cur.vb.keptBy hg (fun k hk e => h.cur.ap k hk e), by rw [hv]; exact s1, own8_le h.cur.vr h.cur.va (by decide) hg, own8_le h.cur.vd h.cur.va (by decide) hg, h.cur.ap⟩
theorem Sp.seg {y0 : RecD} {p0 : RPl} (h : Sp w C B n v y0 p0 W1) (g : Sg W1 B y p W) : Sp w C B n v y p W := by
  have hB := h.hB
  have hT : ListT W1 (fun k => k = B) := fun k e => by subst e; exact ⟨fun cur => rec_ty h.tmp (by decide), fun cur => rec_ty h.tmp (by decide), fun cur => rec_ty h.tmp (by decide)⟩
  have hbx : RowC W w.heap.size 26 C := (g.kept.block _ h.box.lt (by omega)).trans h.box
  obtain ⟨ys, h1, h2, h3⟩ := h.all
  refine ⟨⟨g.kept.os.trans h.low.os, g.kept.tape.trans h.low.tape, g.kept.output.trans h.low.output, Nat.le_trans h.low.size g.kept.size, fun k hk => (g.kept.block k (Nat.lt_of_lt_of_le hk h.low.size) (by omega)).trans (h.low.block k hk)⟩, h.hB, hbx, g.tmp, g.cur.mono h.low.size, ys, h1, ⟨h2.1, ?_⟩, fun r hr => ⟨(h3 r hr).1.kept g.kept hT, (h3 r hr).2⟩⟩
  rcases h2.2 with h0 | ⟨gb, cap, cur, e, hbg, hgg, rest⟩
  · exact .inl h0
  · exact .inr ⟨gb, cap, cur, e, hbg, (g.kept.block gb (Array.getElem?_eq_some_iff.1 hgg).1 (by omega)).trans hgg, rest⟩
theorem Sp.push {v' : Value} {ys : List (RecD × RPl)} (h : Sp w C B n v y p W) (hys : SpL w.heap.size B n v W ys) (ho : OwnLe W' (B + 1) 26 11 v' (n + 1) (ys.flatMap recF ++ recC y p)) (hg : W.grownBy W' v.ownBlock) (hy : rgtB y = false) (hi : RecI y) : Sp w C B (n + 1) v' y p W' := by
  have hB := h.hB
  obtain ⟨h1, h2, h3⟩ := hys
  have hlow : ∀ k, v.ownBlock = some k → B + 1 ≤ k := fun k hk => (ownLe_block h2 hk).1
  have hT : ∀ (b : Nat) (x : RecD) (q : RPl), RecLs W b x q → RecLs W' b x q := fun b x q hl => hl.kept (kept_grown0 hg) fun g e => by
    obtain ⟨_, _, cur, hc⟩ := ownLe_block h2 e
    have hne : ∀ (cur2 : Array Value) (T : TypeId), T ≠ 26 → W.heap[g]? ≠ some (.cells cur2 T (0, 0)) := fun cur2 T hT e2 => by
      rw [hc] at e2
      injection e2 with e2
      injection e2 with _ e2
      exact hT e2.symm
    exact ⟨fun cur2 => hne cur2 _ (by decide), fun cur2 => hne cur2 _ (by decide), fun cur2 => hne cur2 _ (by decide)⟩
  refine ⟨h.low.grown hg h.low.size (fun k hk => by have := hlow k hk; omega), h.hB, h.box.grown hg (fun e => by have := hlow _ e; omega), h.tmp.grown hg (fun e => by have := hlow _ e; omega), hT _ _ _ h.cur, ys ++ [(y, p)], by simp [h1], ?_, ?_⟩
  · rw [List.flatMap_append]
    simpa using ho
  · intro r hr
    rcases List.mem_append.1 hr with hr | hr
    · exact ⟨hT _ _ _ (h3 r hr).1, (h3 r hr).2⟩
    · rw [List.mem_singleton.1 hr]; exact ⟨hT _ _ _ h.cur, hy, hi⟩
where kept_grown0 {w w' : World} {o : Option Nat} (h : w.grownBy w' o) : KeptBut (fun k => o = some k) w w' := ⟨h.os, h.tape, h.output, h.size, fun k hk hn => h.block k hk (fun e => hn e.symm)⟩
theorem wpList_push {ops : Array Oper} {rest : List Oper} {o : Oper} {a : Act} {Q : Exit → Act → World → Prop} (hg : o.guard = none) (s x : Operand) (hop : o.op = Op.call { callee := Callee.builtin Builtin.append, args := #[s, x], argTypes := #[49, 49] })
    (hs : a.eval s = v) {gL : Nat} (hx : a.eval x = .slice (some ⟨gL, 0, none⟩) 1 1) (h : Sp w C B n v y p W) (hrow : RowC W gL 26 (recC y p)) (hn : n ≤ 100) (hy : rgtB y = false) (hi : RecI y) {m : Nat} (hm : m = n + 1)
    (hK : ∀ A c w', Sp w C B m (.slice A m c) y p w' → wpList Try.prog ops Q rest (a.put o.dst (.slice A m c)) w') : wpList Try.prog ops Q (o :: rest) a W := by
  subst hm
  obtain ⟨ys, hys⟩ := h.all
  refine wpList_appLe hg s x 49 hop (B + 1) 26 Try.underlying49 (z := .agg #[.int .i64 0, .int .i64 0, .int .i64 0, .int .i64 0, .int .i64 0, .int .i64 0, .slice none 0 0, .slice none 0 0, .int .i64 0, .slice none 0 0, .slice none 0 0]) (size := 11) (bytes := 152) (by kernel_rfl) rfl (by decide) v n _ hs hys.own ⟨gL, 0, none⟩ 1 1 (recC y p) hx rfl (fun j u hj => by rw [Addr.add_lit, Nat.zero_add]; exact hrow.cell hj) (recC_one h.cur) (by unfold maxLen; omega) (by omega) (by have := h.tmp.lt; omega) ?_
  intro v' w' hO hG _
  obtain ⟨A, c, rfl⟩ := ownLe_slice hO
  exact hK A c w' (h.push hys hO hG hy hi)
theorem Sp.first {w2 : World} {cs : List Value} {x : RecD} {q : RPl} {W0 : World} (hl : Below w.heap.size w W0) (hR : RowC W0 w.heap.size 26 C) (hb : Below W0.heap.size W0 w2) (hx : RecLs w2 w.heap.size x q) (hc : cs = recC y p) (hy : ∀ W b, RecLs W b x q → RecLs W b y p) :
    Sp w C w2.heap.size 0 (.slice none 0 0) y p (w2.alloc (.cells cs.toArray 26)) := by
  have h1 := (hR.below hb).lt
  have hb2 := (Below.refl w2.heap.size w2).alloc (Nat.le_refl _) (.cells cs.toArray 26)
  exact ⟨below_then (below_then hl hb) hb2, h1, (hR.below hb).below hb2, by rw [← hc]; exact rowC_new rfl, (hy _ _ hx).below hb2, [], rfl, ownLe_nil _ _ _ _, fun r hr => (by cases hr)⟩
end
abbrev CopP (x : RecD) (W : World) (e : Ending) (w' : World) : Prop := ∃ q', e = .returned (.agg (recC x q').toArray) ∧ Below W.heap.size W w' ∧ RecLs w' W.heap.size x q'
/-- What spoilt answers. -/
def SpoilP (w : World) (e : Ending) (w' : World) : Prop := ∃ (A : Option Addr) (n c : Nat) (ys : List (RecD × RPl)), e = .returned (.slice A n c) ∧ Below w.heap.size w w' ∧ (1 ≤ n ∧ n ≤ 24) ∧ ys.length = n ∧ OwnLe w' w.heap.size 26 11 (.slice A n c) n (ys.flatMap recF) ∧ ∀ r ∈ ys, RecR w' r.1 r.2 ∧ rgtB r.1 = false
theorem Sp.done {w W : World} {C : List Value} {B n c : Nat} {A : Option Addr} {y : RecD} {p : RPl} (h : Sp w C B n (.slice A n c) y p W) (hn : 1 ≤ n ∧ n ≤ 24) : SpoilP w (.returned (.slice A n c)) W := by
  obtain ⟨ys, h1, h2, h3⟩ := h.all
  have := h.hB
  exact ⟨A, n, c, ys, rfl, h.low, hn, h1, ownLe_base h2 fun k hk => by have := (ownLe_block h2 hk).1; omega, fun r hr => ⟨(h3 r hr).1.toRI (h3 r hr).2.2, (h3 r hr).2.1⟩⟩
theorem recI_of {w : World} {x : RecD} {q : RPl} (h : RecR w x q) (hr : rgtB x = true) : RecI x := by
  have a := right_all hr
  obtain ⟨_, _, ⟨A3, c3, _, r3⟩, ⟨A4, c4, _, r4⟩, hi, _⟩ := h
  refine ⟨hi, fun y hy => ?_, fun y hy => ?_, ?_, by have := a.aft; omega, by have := a.rows.1; omega, by have := a.dirt.1; omega⟩
  · obtain ⟨k, hk⟩ := List.mem_iff_getElem?.1 hy
    obtain ⟨g, o, _, hc⟩ := r3.cells (Nat.lt_of_le_of_lt (Nat.zero_le _) (List.getElem?_eq_some_iff.1 hk).1)
    obtain ⟨cs, _, _, h1⟩ := hc k y hk
    obtain ⟨⟨_, a1⟩, ⟨_, a2⟩, ⟨_, a3⟩, ⟨_, a4⟩, _, a5⟩ := h1
    exact ⟨a1, a2, a3, a4, a5⟩
  · obtain ⟨k, hk⟩ := List.mem_iff_getElem?.1 hy
    obtain ⟨g, o, _, hc⟩ := r4.cells (Nat.lt_of_le_of_lt (Nat.zero_le _) (List.getElem?_eq_some_iff.1 hk).1)
    obtain ⟨cs, _, _, h1⟩ := hc k y hk
    obtain ⟨⟨_, a1⟩, _, a2⟩ := h1
    exact ⟨a1, a2⟩
  · by_cases hk : x.kind = 2
    · have := (a.bef hk).1
      have := a.aft
      omega
    · have := a.nob hk
      omega
section
variable {x : RecD} {k : Int}
theorem recI_kind (h : RecI x) (hk : In64 k) : RecI { x with kind := k } := ⟨⟨hk, h.ii.2⟩, h.rr, h.dd, h.nn⟩
theorem recI_birth (h : RecI x) (hk : In64 k) : RecI { x with birth := k } := ⟨⟨h.ii.1, hk, h.ii.2.2⟩, h.rr, h.dd, h.nn⟩
theorem recI_prev (h : RecI x) (hk : In64 k) : RecI { x with prev := k } := ⟨⟨h.ii.1, h.ii.2.1, hk, h.ii.2.2.2⟩, h.rr, h.dd, h.nn⟩
theorem recI_id (h : RecI x) (hk : In64 k) : RecI { x with id := k } := ⟨⟨h.ii.1, h.ii.2.1, h.ii.2.2.1, hk, h.ii.2.2.2.2⟩, h.rr, h.dd, h.nn⟩
theorem recI_page (h : RecI x) (hk : In64 k) : RecI { x with page := k } := ⟨⟨h.ii.1, h.ii.2.1, h.ii.2.2.1, h.ii.2.2.2.1, hk, h.ii.2.2.2.2.2⟩, h.rr, h.dd, h.nn⟩
theorem recI_frm (h : RecI x) (hk : In64 k) : RecI { x with frm := k } := ⟨⟨h.ii.1, h.ii.2.1, h.ii.2.2.1, h.ii.2.2.2.1, h.ii.2.2.2.2.1, hk, h.ii.2.2.2.2.2.2⟩, h.rr, h.dd, h.nn⟩
theorem recI_next (h : RecI x) (hk : In64 k) : RecI { x with next := k } := ⟨⟨h.ii.1, h.ii.2.1, h.ii.2.2.1, h.ii.2.2.2.1, h.ii.2.2.2.2.1, h.ii.2.2.2.2.2.1, hk⟩, h.rr, h.dd, h.nn⟩
theorem recI_before {l : List UInt8} (h : RecI x) (hk : l.length ≤ 65535) : RecI { x with before := l } := ⟨h.ii, h.rr, h.dd, hk, h.nn.2⟩
theorem recI_after {l : List UInt8} (h : RecI x) (hk : l.length ≤ 65535) : RecI { x with after := l } := ⟨h.ii, h.rr, h.dd, h.nn.1, hk, h.nn.2.2⟩
theorem recI_rows {l : List Row9} (h : RecI x) (hr : ∀ y ∈ l, In64 y.1 ∧ In64 y.2.1 ∧ In64 y.2.2.1 ∧ In64 y.2.2.2.1 ∧ In64 y.2.2.2.2) (hk : (x.rows ++ l).length ≤ 65535) : RecI { x with rows := x.rows ++ l } :=
  ⟨h.ii, fun y hy => (List.mem_append.1 hy).elim (h.rr y) (hr y), h.dd, h.nn.1, h.nn.2.1, hk, h.nn.2.2.2⟩
theorem recI_dirt {l : List (Int × Int)} (h : RecI x) (hr : ∀ y ∈ l, In64 y.1 ∧ In64 y.2) (hk : (x.dirty ++ l).length ≤ 65535) : RecI { x with dirty := x.dirty ++ l } :=
  ⟨h.ii, h.rr, fun y hy => (List.mem_append.1 hy).elim (h.dd y) (hr y), h.nn.1, h.nn.2.1, h.nn.2.2.1, hk⟩
end
theorem inR1 : ∀ y ∈ ([(1152921504606846976, 1, 3, 1, 0)] : List Row9), In64 y.1 ∧ In64 y.2.1 ∧ In64 y.2.2.1 ∧ In64 y.2.2.2.1 ∧ In64 y.2.2.2.2 := by
  intro y hy
  simp only [List.mem_cons, List.not_mem_nil, or_false] at hy
  subst hy
  exact ⟨⟨by decide, by decide⟩, ⟨by decide, by decide⟩, ⟨by decide, by decide⟩, ⟨by decide, by decide⟩, ⟨by decide, by decide⟩⟩
theorem inR2 : ∀ y ∈ ([(5, 1, 1, 5, 0), (5, 2, 1, 6, 0)] : List Row9), In64 y.1 ∧ In64 y.2.1 ∧ In64 y.2.2.1 ∧ In64 y.2.2.2.1 ∧ In64 y.2.2.2.2 := by
  intro y hy
  simp only [List.mem_cons, List.not_mem_nil, or_false] at hy
  rcases hy with hy | hy <;> subst hy <;> exact ⟨⟨by decide, by decide⟩, ⟨by decide, by decide⟩, ⟨by decide, by decide⟩, ⟨by decide, by decide⟩, ⟨by decide, by decide⟩⟩
theorem inD1 : ∀ y ∈ ([(16, 1)] : List (Int × Int)), In64 y.1 ∧ In64 y.2 := by
  intro y hy
  simp only [List.mem_cons, List.not_mem_nil, or_false] at hy
  subst hy
  exact ⟨⟨by decide, by decide⟩, ⟨by decide, by decide⟩⟩
theorem inD2 : ∀ y ∈ ([(15, 1), (15, 2)] : List (Int × Int)), In64 y.1 ∧ In64 y.2 := by
  intro y hy
  simp only [List.mem_cons, List.not_mem_nil, or_false] at hy
  rcases hy with hy | hy <;> subst hy <;> exact ⟨⟨by decide, by decide⟩, ⟨by decide, by decide⟩⟩
theorem inD3 : ∀ y ∈ ([(15, 0)] : List (Int × Int)), In64 y.1 ∧ In64 y.2 := by
  intro y hy
  simp only [List.mem_cons, List.not_mem_nil, or_false] at hy
  subst hy
  exact ⟨⟨by decide, by decide⟩, ⟨by decide, by decide⟩⟩
section
variable {W W1 : World} {B : Nat} {y : RecD} {p : RPl}
theorem wpList_rows9 {ops : Array Oper} {rest : List Oper} {o : Oper} {a : Act} {Q : Exit → Act → World → Prop} (hg : o.guard = none) (s x : Operand) (hop : o.op = Op.call { callee := Callee.builtin Builtin.append, args := #[s, x], argTypes := #[23, 23] })
    (h : Sg W1 B y p W) (hs : a.eval s = p.vr) {gL m : Nat} (hx : a.eval x = .slice (some ⟨gL, 0, none⟩) m m) (zs : List Row9) (hrow : RowC W gL 58 (rowsC zs)) (hm : m = zs.length) (hl : y.rows.length ≤ 1000) (hl2 : m ≤ 100) {n : Nat} (hn : n = y.rows.length + m)
    (hK : ∀ A c w', OwnLe w' W1.heap.size 58 5 (.slice A n c) (y.rows ++ zs).length (rowsC (y.rows ++ zs)) → W.grownBy w' p.vr.ownBlock → wpList Try.prog ops Q rest (a.put o.dst (.slice A n c)) w') : wpList Try.prog ops Q (o :: rest) a W := by
  subst hn
  refine wpList_appLe hg s x 23 hop W1.heap.size 58 Try.underlying23 (z := .agg #[.int .i64 0, .int .i64 0, .int .i64 0, .int .i64 0, .int .i64 0]) (size := 5) (bytes := 40) (by kernel_rfl) rfl (by decide) _ _ _ hs h.cur.vr ⟨gL, 0, none⟩ m m (rowsC zs) hx ?_ (fun j u hj => by rw [Addr.add_lit, Nat.zero_add]; exact hrow.cell hj) ?_ (by unfold maxLen; omega) (by omega) h.kept.size ?_
  · rw [hm]
    clear hK hs hx hrow hm hl hl2 hop
    induction zs with
    | nil => rfl
    | cons z zs ih => unfold rowsC at ih ⊢; rw [List.flatMap_cons, List.length_append, ih, List.length_cons, Nat.succ_mul, Nat.add_comm]; rfl
  · intro u hu
    obtain ⟨z, _, hz⟩ := List.mem_flatMap.1 hu
    unfold row9C at hz
    simp at hz
    rcases hz with rfl | rfl | rfl | rfl | rfl <;> rfl
  · intro v' w' hO hG _
    obtain ⟨A, c, rfl⟩ := ownLe_slice hO
    exact hK A c w' (by rw [List.length_append, ← hm]; unfold rowsC at hO ⊢; rw [List.flatMap_append]; exact hO) hG
theorem wpList_dirt9 {ops : Array Oper} {rest : List Oper} {o : Oper} {a : Act} {Q : Exit → Act → World → Prop} (hg : o.guard = none) (s x : Operand) (hop : o.op = Op.call { callee := Callee.builtin Builtin.append, args := #[s, x], argTypes := #[24, 24] })
    (h : Sg W1 B y p W) (hs : a.eval s = p.vd) {gL m : Nat} (hx : a.eval x = .slice (some ⟨gL, 0, none⟩) m m) (zs : List (Int × Int)) (hrow : RowC W gL 60 (dirtsC zs)) (hm : m = zs.length) (hl : y.dirty.length ≤ 1000) (hl2 : m ≤ 100) {n : Nat} (hn : n = y.dirty.length + m)
    (hK : ∀ A c w', OwnLe w' W1.heap.size 60 2 (.slice A n c) (y.dirty ++ zs).length (dirtsC (y.dirty ++ zs)) → W.grownBy w' p.vd.ownBlock → wpList Try.prog ops Q rest (a.put o.dst (.slice A n c)) w') : wpList Try.prog ops Q (o :: rest) a W := by
  subst hn
  refine wpList_appLe hg s x 24 hop W1.heap.size 60 Try.underlying24 (z := .agg #[.int .i64 0, .int .i64 0]) (size := 2) (bytes := 16) (by kernel_rfl) rfl (by decide) _ _ _ hs h.cur.vd ⟨gL, 0, none⟩ m m (dirtsC zs) hx ?_ (fun j u hj => by rw [Addr.add_lit, Nat.zero_add]; exact hrow.cell hj) ?_ (by unfold maxLen; omega) (by omega) h.kept.size ?_
  · rw [hm]
    clear hK hs hx hrow hm hl hl2 hop
    induction zs with
    | nil => rfl
    | cons z zs ih => unfold dirtsC at ih ⊢; rw [List.flatMap_cons, List.length_append, ih, List.length_cons, Nat.succ_mul, Nat.add_comm]; rfl
  · intro u hu
    obtain ⟨z, _, hz⟩ := List.mem_flatMap.1 hu
    unfold dirtC at hz
    simp at hz
    rcases hz with rfl | rfl <;> rfl
  · intro v' w' hO hG _
    obtain ⟨A, c, rfl⟩ := ownLe_slice hO
    exact hK A c w' (by rw [List.length_append, ← hm]; unfold dirtsC at hO ⊢; rw [List.flatMap_append]; exact hO) hG
end
end Go.Proofs.Ytiaehoppdihbdaa
