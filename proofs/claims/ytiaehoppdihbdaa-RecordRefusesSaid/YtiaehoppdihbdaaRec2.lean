import Derived.Test.YtiaehoppdihbdaaRec1
import Derived.Deep.RegionHeld3
import Derived.Deep.DrawnRows
/- The contracts of package record: the kinds' readers. -/
set_option linter.unusedVariables false
set_option linter.unusedSimpArgs false
namespace Go.Proofs.Ytiaehoppdihbdaa
open Go.RowKit Go.Tm
set_option maxHeartbeats 400000
set_option maxRecDepth 100000
attribute [local go_sem ↓] Go.wp_at_zero Go.wp_at_succ

def row9C (x : Row9) : List Value := [.int .i64 x.1, .int .i64 x.2.1, .int .i64 x.2.2.1, .int .i64 x.2.2.2.1, .int .i64 x.2.2.2.2]
def dirtC (x : Int × Int) : List Value := [.int .i64 x.1, .int .i64 x.2]
def rowsC (l : List Row9) : List Value := l.flatMap row9C
def dirtsC (l : List (Int × Int)) : List Value := l.flatMap dirtC
/-- Where a record's lists lie. -/
structure RPl where
  vb : Value
  va : Value
  vr : Value
  vd : Value
def recC (x : RecD) (q : RPl) : List Value := [.int .i64 x.kind, .int .i64 x.birth, .int .i64 x.prev, .int .i64 x.id, .int .i64 x.page, .int .i64 x.frm, q.vb, q.va, .int .i64 x.next, q.vr, q.vd]
/-- The lists, in memory of one's own. -/
structure RecLs (w : World) (B : Nat) (x : RecD) (q : RPl) : Prop where
  vb : Own8 w B 5 q.vb x.before
  va : Own8 w B 5 q.va x.after
  vr : OwnLe w B 58 5 q.vr x.rows.length (rowsC x.rows)
  vd : OwnLe w B 60 2 q.vd x.dirty.length (dirtsC x.dirty)
  ap : Aprt q.vb q.va
structure RecB (w : World) (B rp : Nat) (x : RecD) (q : RPl) : Prop where
  row : RowC w rp 26 (recC x q)
  ls : RecLs w B x q
theorem own8_kept {w w' : World} {B : Nat} {e : TypeId} {v : Value} {l : List UInt8} (h : Own8 w B e v l) {S : Nat → Prop} (hk : KeptBut S w w') (hS : ∀ g cur, w.heap[g]? = some (.cells cur e (0, 0)) → ¬ S g) : Own8 w' B e v l :=
  hk.own h fun k hv hs => by
    obtain ⟨cur, hc⟩ := own8_block_type h hv
    exact hS k cur hc hs
theorem ownLe_but {w w' : World} {B : Nat} {e : TypeId} {size k : Nat} {v : Value} {xs : List Value} (h : OwnLe w B e size v k xs) {S : Nat → Prop} (hk : KeptBut S w w') (hS : ∀ g cur, w.heap[g]? = some (.cells cur e (0, 0)) → ¬ S g) : OwnLe w' B e size v k xs := by
  refine ⟨h.1, ?_⟩
  rcases h.2 with h0 | ⟨g, cap, cur, rfl, hbg, hgg, rest⟩
  · exact .inl h0
  · exact .inr ⟨g, cap, cur, rfl, hbg, (hk.block g (Array.getElem?_eq_some_iff.1 hgg).1 (hS g cur hgg)).trans hgg, rest⟩
/-- Lists lie in blocks of their own types. -/
def ListT (w : World) (S : Nat → Prop) : Prop := ∀ g, S g → (∀ cur, w.heap[g]? ≠ some (.cells cur 5 (0, 0))) ∧ (∀ cur, w.heap[g]? ≠ some (.cells cur 58 (0, 0))) ∧ (∀ cur, w.heap[g]? ≠ some (.cells cur 60 (0, 0)))
theorem RecLs.kept {w w' : World} {B : Nat} {x : RecD} {q : RPl} (h : RecLs w B x q) {S : Nat → Prop} (hk : KeptBut S w w') (hS : ListT w S) : RecLs w' B x q :=
  ⟨own8_kept h.vb hk fun g cur hg hs => (hS g hs).1 cur hg, own8_kept h.va hk fun g cur hg hs => (hS g hs).1 cur hg, ownLe_but h.vr hk fun g cur hg hs => (hS g hs).2.1 cur hg, ownLe_but h.vd hk fun g cur hg hs => (hS g hs).2.2 cur hg, h.ap⟩
theorem RecLs.below {w w' : World} {B : Nat} {x : RecD} {q : RPl} (h : RecLs w B x q) (hb : Below w.heap.size w w') : RecLs w' B x q := h.kept ((KeptBut.refl (fun _ => False) _).below hb) fun g hs => hs.elim
theorem RecB.below {w w' : World} {B rp : Nat} {x : RecD} {q : RPl} (h : RecB w B rp x q) (hb : Below w.heap.size w w') : RecB w' B rp x q := ⟨h.row.below hb, h.ls.below hb⟩
theorem reader_ty {w0 w : World} {r : Nat} {l : List UInt8} (h : IsRs w0 w r 95 l) {cur : Array Value} {T : TypeId} (hT : T ≠ 95) : w.heap[r]? ≠ some (.cells cur T (0, 0)) := by
  obtain ⟨A, c, h1, _, _⟩ := h.is
  rw [h1]
  intro e
  injection e with e
  injection e with _ e
  exact hT e.symm
theorem rec_ty {w : World} {rp : Nat} {cs : List Value} (h : RowC w rp 26 cs) {cur : Array Value} {T : TypeId} (hT : T ≠ 26) : w.heap[rp]? ≠ some (.cells cur T (0, 0)) := by
  unfold RowC at h
  rw [h]
  intro e
  injection e with e
  injection e with _ e
  exact hT e.symm
theorem r_ne_rp {w0 w : World} {r rp : Nat} {l : List UInt8} {cs : List Value} (h : IsRs w0 w r 95 l) (k : RowC w rp 26 cs) : rp ≠ r := by
  rintro rfl
  unfold RowC at k
  exact reader_ty h (by decide) k
/-- A reader has gone on. -/
theorem RecB.read {w0 w w' : World} {B rp r : Nat} {l : List UInt8} {x : RecD} {q : RPl} (h : RecB w B rp x q) (hr : IsRs w0 w r 95 l) (hk : KeptBut (fun g => g = r) w w') : RecB w' B rp x q :=
  ⟨(hk.block rp h.row.lt (r_ne_rp hr h.row)).trans h.row, h.ls.kept hk fun g e => by
    subst e
    exact ⟨fun cur => reader_ty hr (by decide), fun cur => reader_ty hr (by decide), fun cur => reader_ty hr (by decide)⟩⟩
theorem RecLs.stored {w w' : World} {B rp : Nat} {x : RecD} {q : RPl} {cs : List Value} (h : RecLs w B x q) (k : RowC w rp 26 cs) (hg : w.grownBy w' (some rp)) : RecLs w' B x q :=
  h.kept (kept_grown' hg) fun g e => by
    subst e
    exact ⟨fun cur => rec_ty k (by decide), fun cur => rec_ty k (by decide), fun cur => rec_ty k (by decide)⟩
where kept_grown' {w w' : World} {p : Nat} (h : w.grownBy w' (some p)) : KeptBut (fun k => k = p) w w' := ⟨h.os, h.tape, h.output, h.size, fun k hk hn => h.block k hk (fun e => hn (by injection e))⟩

/-- What a kind's reader does. -/
structure RdrP (w0 : World) (o : Option (RecD × List UInt8)) (r rp B : Nat) (w : World) (e : Ending) (w' : World) : Prop where
  kept : KeptBut (fun q => q = r ∨ q = rp) w w'
  no : o = none → e = early
  yes : ∀ x m, o = some (x, m) → (∃ v, e = .returned v) ∧ IsRs w0 w' r 95 m ∧ ∃ q, RecB w' B rp x q
def nilQ : RPl := ⟨.slice none 0 0, .slice none 0 0, .slice none 0 0, .slice none 0 0⟩
theorem kept_or {w w1 w2 : World} {r rp : Nat} (h : KeptBut (fun q => q = r) w w1) (hg : w1.grownBy w2 (some rp)) : KeptBut (fun q => q = r ∨ q = rp) w w2 :=
  ⟨hg.os.trans h.os, hg.tape.trans h.tape, hg.output.trans h.output, Nat.le_trans h.size hg.size, fun k hk hn => (hg.block k (Nat.lt_of_lt_of_le hk h.size) (fun e => hn (.inr (by injection e)))).trans (h.block k hk fun e => hn (.inl e))⟩

theorem KeptBut.from {w w0 w1 : World} {S : Nat → Prop} (h : KeptBut S w0 w1) (hb : Below w.heap.size w w0) : KeptBut S w w1 :=
  ⟨h.os.trans hb.os, h.tape.trans hb.tape, h.output.trans hb.output, Nat.le_trans hb.size h.size, fun k hk hn => (h.block k (Nat.lt_of_lt_of_le hk hb.size) hn).trans (hb.block k hk)⟩
theorem kept_one {w w1 : World} {r rp : Nat} (h : KeptBut (fun q => q = r) w w1) : KeptBut (fun q => q = r ∨ q = rp) w w1 :=
  ⟨h.os, h.tape, h.output, h.size, fun k hk hn => h.block k hk fun e => hn (.inl e)⟩


/-- The state of a kind's reader: the source's box, the reader, the record. -/
structure St (w0 w : World) (r rp B bx : Nat) (l : List UInt8) (z : RecD) (q : RPl) (W : World) : Prop where
  kept : KeptBut (fun k => k = r ∨ k = rp) w W
  rd : IsRs w0 W r 95 l
  rc : RecB W B rp z q
  boxR : RowC W bx 75 [.pointer (some ⟨r, 0, none⟩)]
  br : bx ≠ r
  bp : bx ≠ rp
  hB : B ≤ w.heap.size
  rn : w0.heap.size ≤ rp
  wn : w0.heap.size ≤ w.heap.size
  hl : l.length ≤ 140737488355328
section
variable {w0 w W W' : World} {r rp B bx : Nat} {l : List UInt8} {z : RecD} {q : RPl}
theorem St.box (h : St w0 w r rp B bx l z q W) : W.cell? ⟨bx, 0, none⟩ = some (.pointer (some ⟨r, 0, none⟩)) := h.boxR.cell rfl
theorem St.start (h : IsRs w0 w r 95 l) (hz : RecB w B rp z q) (hl : l.length ≤ 140737488355328) (hB : B ≤ w.heap.size) (hrn : w0.heap.size ≤ rp) (hwn : w0.heap.size ≤ w.heap.size) : St w0 w r rp B w.heap.size l z q (w.alloc (.cells #[.pointer (some ⟨r, 0, none⟩)] 75)) := by
  have hb := (Below.refl w.heap.size w).alloc (Nat.le_refl _) (.cells #[.pointer (some ⟨r, 0, none⟩)] 75)
  have h1 := h.lt
  have h2 := hz.row.lt
  have hR : RowC (w.alloc (.cells #[.pointer (some ⟨r, 0, none⟩)] 75)) w.heap.size 75 [.pointer (some ⟨r, 0, none⟩)] := heap_alloc_new w _
  exact ⟨(KeptBut.refl _ w).below hb, h.below hb, hz.below hb, hR, by omega, by omega, hB, hrn, hwn, hl⟩
theorem St.below (h : St w0 w r rp B bx l z q W) (hb : Below W.heap.size W W') : St w0 w r rp B bx l z q W' :=
  ⟨h.kept.below hb, h.rd.below hb, h.rc.below hb, h.boxR.below hb, h.br, h.bp, h.hB, h.rn, h.wn, h.hl⟩
theorem St.drew (h : St w0 w r rp B bx l z q W) : St w0 w r rp B bx l z q W.drew := h.below (Below.refl _ _).drew
theorem kept_two (h : KeptBut (fun k => k = r ∨ k = rp) w W) (k : KeptBut (fun k => k = r) W W') : KeptBut (fun k => k = r ∨ k = rp) w W' :=
  ⟨k.os.trans h.os, k.tape.trans h.tape, k.output.trans h.output, Nat.le_trans h.size k.size, fun g hg hn => (k.block g (Nat.lt_of_lt_of_le hg h.size) (fun e => hn (.inl e))).trans (h.block g hg hn)⟩
theorem kept_three (h : KeptBut (fun k => k = r ∨ k = rp) w W) (k : W.grownBy W' (some rp)) : KeptBut (fun k => k = r ∨ k = rp) w W' :=
  h.grown k fun g e => .inl (.inr (by injection e with e; exact e.symm))
theorem gN_len {k : Nat} {l m : List UInt8} {v : Int} (h : gN k l = some (v, m)) : m.length ≤ l.length := by
  have := (gN_is h).1
  rw [this, List.length_append]
  omega
theorem gL_len {l m : List UInt8} {v : Int} (h : gL l = some (v, m)) : m.length ≤ l.length := by
  have := (gL_is h).1
  rw [this, List.length_append]
  omega
theorem gR_len {n : Nat} {l m x : List UInt8} (h : gR n l = some (x, m)) : m.length ≤ l.length := by
  have := (gR_is h).1
  rw [this, List.length_append]
  omega
/-- The reader has gone on. -/
theorem St.on {m : List UInt8} (h : St w0 w r rp B bx l z q W) (hk : KeptBut (fun k => k = r) W W') (hr : IsRs w0 W' r 95 m) (hm : m.length ≤ l.length) : St w0 w r rp B bx m z q W' :=
  ⟨kept_two h.kept hk, hr, h.rc.read h.rd hk, (hk.block bx h.boxR.lt h.br).trans h.boxR, h.br, h.bp, h.hB, h.rn, h.wn, Nat.le_trans hm h.hl⟩
theorem St.num (h : St w0 w r rp B bx l z q W) (k : Nat) (hk : k = 1 ∨ k = 2) {kk : Int} (hkk : kk = (k : Int)) : Calls Try.prog 37 #[srcV r, .int .i64 kk] W fun e W' => (gN k l = none ∧ e = early ∧ KeptBut (fun k => k = r ∨ k = rp) w W') ∨ ∃ v m, gN k l = some (v, m) ∧ e = .returned (.int .i64 v) ∧ St w0 w r rp B bx m z q W' := by
  refine (srcNumber_any h.rd k hk hkk h.hl).mono fun e W' hN => ?_
  cases hg : gN k l with
  | none => exact .inl ⟨rfl, hN.no hg, kept_two h.kept hN.kept⟩
  | some o =>
    obtain ⟨v, m⟩ := o
    obtain ⟨h1, h2⟩ := hN.yes v m hg
    exact .inr ⟨v, m, rfl, h1, h.on hN.kept h2 (gN_len hg)⟩
theorem St.lsn (h : St w0 w r rp B bx l z q W) : Calls Try.prog 38 #[srcV r] W fun e W' => (gL l = none ∧ e = early ∧ KeptBut (fun k => k = r ∨ k = rp) w W') ∨ ∃ v m, gL l = some (v, m) ∧ e = .returned (.int .i64 v) ∧ St w0 w r rp B bx m z q W' := by
  refine (srcLsn_any h.rd).mono fun e W' hN => ?_
  cases hg : gL l with
  | none => exact .inl ⟨rfl, hN.no hg, kept_two h.kept hN.kept⟩
  | some o =>
    obtain ⟨v, m⟩ := o
    obtain ⟨h1, h2⟩ := hN.yes v m hg
    exact .inr ⟨v, m, rfl, h1, h.on hN.kept h2 (gL_len hg)⟩
theorem St.row (h : St w0 w r rp B bx l z q W) (n : Nat) (hn : n < 65536) {nn : Int} (hnn : nn = (n : Int)) : Calls Try.prog 74 #[srcV r, .int .i64 nn] W fun e W' => (gR n l = none ∧ e = early ∧ KeptBut (fun k => k = r ∨ k = rp) w W') ∨ ∃ x m A c, gR n l = some (x, m) ∧ e = .returned (.slice A x.length c) ∧ St w0 w r rp B bx m z q W' ∧ Own8 W' W.heap.size 5 (.slice A x.length c) x ∧ KeptBut (fun k => k = r) W W' := by
  refine (srcRow_any h.rd n hn hnn h.hl).mono fun e W' hN => ?_
  cases hg : gR n l with
  | none => exact .inl ⟨rfl, hN.no hg, kept_two h.kept hN.kept⟩
  | some o =>
    obtain ⟨x, m⟩ := o
    obtain ⟨A, c, h1, h2, h3⟩ := hN.yes x m hg
    exact .inr ⟨x, m, A, c, rfl, h1, h.on hN.kept h2 (gR_len hg), h3, hN.kept⟩
/-- A field is stored. -/
theorem St.store (h : St w0 w r rp B bx l z q W) (k : Nat) (v : Value) {z' : RecD} {q' : RPl} (hc : (recC z q).set k v = recC z' q') (hls : RecLs (W.setCell ⟨rp, k, none⟩ v) B z' q') : St w0 w r rp B bx l z' q' (W.setCell ⟨rp, k, none⟩ v) := by
  have hg := cell_grown W rp k v
  exact ⟨kept_three h.kept hg, h.rd.grown hg (fun e => r_ne_rp h.rd h.rc.row (by injection e)) (fun g e => by injection e with e; have := h.rn; omega), ⟨by rw [← hc]; exact h.rc.row.stored k v, hls⟩, h.boxR.grown hg (fun e => h.bp (by injection e with e; exact e.symm)), h.br, h.bp, h.hB, h.rn, h.wn, h.hl⟩
theorem St.lsn_ (h : St w0 w r rp B bx l z q W) (k : Nat) (v : Value) : RecLs (W.setCell ⟨rp, k, none⟩ v) B z q := h.rc.ls.stored h.rc.row (cell_grown W rp k v)
theorem St.field (h : St w0 w r rp B bx l z q W) {k : Nat} {v : Value} (hv : (recC z q)[k]? = some v) : W.cell? ⟨rp, k, none⟩ = some v ∧ W.frozen? ⟨rp, k, none⟩ = false := ⟨h.rc.row.cell hv, h.rc.row.free k⟩
/-- An owned row stays where only the record is written. -/
theorem St.own {b : Nat} {v : Value} {x : List UInt8} (h : St w0 w r rp B bx l z q W) (ho : Own8 W b 5 v x) (k : Nat) (u : Value) : Own8 (W.setCell ⟨rp, k, none⟩ u) b 5 v x :=
  Own8.keptBy ho (cell_grown W rp k u) fun g hg e => by
    injection e with e
    subst e
    obtain ⟨cur, hcur⟩ := own8_block_type ho hg
    exact rec_ty h.rc.row (by decide) hcur
theorem St.own2 {b : Nat} {v : Value} {x : List UInt8} (h : St w0 w r rp B bx l z q W) (ho : Own8 W b 5 v x) (hk : KeptBut (fun k => k = r) W W') : Own8 W' b 5 v x :=
  own8_kept ho hk fun g cur hg e => by subst e; exact reader_ty h.rd (by decide) hg
theorem box_ty (h : St w0 w r rp B bx l z q W) {cur : Array Value} {T : TypeId} (hT : T ≠ 75) : W.heap[bx]? ≠ some (.cells cur T (0, 0)) := by
  have k := h.boxR
  unfold RowC at k
  rw [k]
  intro e
  injection e with e
  injection e with _ e
  exact hT e.symm
theorem own8_row {b b2 : Nat} {e T : TypeId} {size n : Nat} {v u : Value} {x : List UInt8} {xs : List Value} (h : Own8 W b e v x) (ho : OwnLe W b2 T size u n xs) (hne : e ≠ T) (hg : W.grownBy W' u.ownBlock) : Own8 W' b e v x :=
  Own8.keptBy h hg fun k hk e' => by
    obtain ⟨cur, hc⟩ := own8_block_type h hk
    obtain ⟨_, _, cur', hc'⟩ := ownLe_block ho e'
    rw [hc] at hc'
    injection hc' with hc'
    injection hc' with _ hc'
    exact hne hc'
theorem ownLe_row {b b2 : Nat} {e T : TypeId} {size n size2 n2 : Nat} {v u : Value} {ys xs : List Value} (h : OwnLe W b e size2 v n2 ys) (ho : OwnLe W b2 T size u n xs) (hne : e ≠ T) (hg : W.grownBy W' u.ownBlock) : OwnLe W' b e size2 v n2 ys :=
  ownLe_kept h hg fun k hk e' => by
    obtain ⟨_, _, cur, hc⟩ := ownLe_block h hk
    obtain ⟨_, _, cur', hc'⟩ := ownLe_block ho e'
    rw [hc] at hc'
    injection hc' with hc'
    injection hc' with _ hc'
    exact hne hc'
theorem ownLe_monoB {b b2 : Nat} {e : TypeId} {size n : Nat} {v : Value} {xs : List Value} (h : OwnLe W b e size v n xs) (hb : b2 ≤ b) : OwnLe W b2 e size v n xs := by
  refine ⟨h.1, ?_⟩
  rcases h.2 with h0 | ⟨g, cap, cur, h1, h2, rest⟩
  · exact .inl h0
  · exact .inr ⟨g, cap, cur, h1, Nat.le_trans hb h2, rest⟩
theorem ownLe_cellput {b : Nat} {e : TypeId} {size n g k : Nat} {v u : Value} {xs : List Value} {cs : List Value} {T : TypeId} (h : OwnLe W b e size v n xs) (hR : RowC W g T cs) (hne : e ≠ T) : OwnLe (W.setCell ⟨g, k, none⟩ u) b e size v n xs :=
  ownLe_kept h (cell_grown W g k u) fun q hq e' => by
    injection e' with e'
    subst e'
    obtain ⟨_, _, cur, hc⟩ := ownLe_block h hq
    unfold RowC at hR
    rw [hR] at hc
    injection hc with hc
    injection hc with _ hc
    exact hne hc.symm
/-- A list of the record has grown. -/
theorem St.grown {size n : Nat} {T : TypeId} {u : Value} {xs : List Value} (h : St w0 w r rp B bx l z q W) (ho : OwnLe W w.heap.size T size u n xs) (hT : T ≠ 75 ∧ T ≠ 95 ∧ T ≠ 26 ∧ T ≠ 5) (hg : W.grownBy W' u.ownBlock) :
    KeptBut (fun k => k = r ∨ k = rp) w W' ∧ IsRs w0 W' r 95 l ∧ RowC W' rp 26 (recC z q) ∧ RowC W' bx 75 [.pointer (some ⟨r, 0, none⟩)] ∧ Own8 W' B 5 q.vb z.before ∧ Own8 W' B 5 q.va z.after := by
  have hb : ∀ k, u.ownBlock = some k → w.heap.size ≤ k ∧ ∃ cur, W.heap[k]? = some (.cells cur T (0, 0)) := fun k hk => by
    obtain ⟨h1, _, h2⟩ := ownLe_block ho hk
    exact ⟨h1, h2⟩
  refine ⟨h.kept.grown hg fun k hk => .inr (hb k hk).1, h.rd.grown hg (fun e => ?_) (fun g e => Nat.le_trans h.wn (hb g e).1), h.rc.row.grown hg fun e => ?_, h.boxR.grown hg fun e => ?_, own8_row h.rc.ls.vb ho (fun e => hT.2.2.2 e.symm) hg, own8_row h.rc.ls.va ho (fun e => hT.2.2.2 e.symm) hg⟩
  · obtain ⟨cur, hc⟩ := (hb r e).2
    exact reader_ty h.rd hT.2.1 hc
  · obtain ⟨cur, hc⟩ := (hb rp e).2
    exact rec_ty h.rc.row hT.2.2.1 hc
  · obtain ⟨cur, hc⟩ := (hb bx e).2
    exact box_ty h hT.1 hc
theorem aprt_new {W1 W2 : World} {b b2 : Nat} {e e2 : TypeId} {v u : Value} {x y : List UInt8} (h1 : Own8 W1 b e v x) (h2 : Own8 W2 b2 e2 u y) (hb : W2.heap.size ≤ b) : Aprt v u := fun k hk hu => by
  have a := (World.ownsRow.lt h1 k hk).1
  have c := (World.ownsRow.lt h2 k hu).2
  omega
theorem St.rows {v : Value} {xs : List Row9} (h : St w0 w r rp B bx l { z with rows := xs } q W) (ho : OwnLe W w.heap.size 58 5 q.vr xs.length (rowsC xs)) (hg : W.grownBy W' q.vr.ownBlock) {ys : List Row9} (ho' : OwnLe W' w.heap.size 58 5 v ys.length (rowsC ys)) :
    St w0 w r rp B bx l { z with rows := ys } { q with vr := v } (W'.setCell ⟨rp, 9, none⟩ v) ∧ OwnLe (W'.setCell ⟨rp, 9, none⟩ v) w.heap.size 58 5 v ys.length (rowsC ys) := by
  obtain ⟨h1, h2, h3, h4, h5, h6⟩ := h.grown ho ⟨by decide, by decide, by decide, by decide⟩ hg
  have h7 := ownLe_row h.rc.ls.vd ho (by decide) hg
  have hs := cell_grown W' rp 9 v
  have n1 : rp ≠ r := r_ne_rp h2 h3
  have hv := ownLe_cellput (k := 9) (u := v) ho' h3 (by decide)
  have b8 : ∀ {b : Nat} {u : Value} {x : List UInt8}, Own8 W' b 5 u x → Own8 (W'.setCell ⟨rp, 9, none⟩ v) b 5 u x := fun ho => Own8.keptBy ho hs fun g hg e => by
    injection e with e
    subst e
    obtain ⟨cur, hcur⟩ := own8_block_type ho hg
    exact rec_ty h3 (by decide) hcur
  refine ⟨⟨kept_three h1 hs, h2.grown hs (fun e => n1 (by injection e)) (fun g e => by injection e with e; have := h.rn; omega), ⟨h3.stored 9 v, ⟨b8 h5, b8 h6, ownLe_monoB hv h.hB, ownLe_cellput (k := 9) (u := v) h7 h3 (by decide), h.rc.ls.ap⟩⟩, h4.grown hs (fun e => h.bp (by injection e with e; exact e.symm)), h.br, h.bp, h.hB, h.rn, h.wn, h.hl⟩, hv⟩
theorem St.dirt {v : Value} {xs : List (Int × Int)} (h : St w0 w r rp B bx l { z with dirty := xs } q W) (ho : OwnLe W w.heap.size 60 2 q.vd xs.length (dirtsC xs)) (hg : W.grownBy W' q.vd.ownBlock) {ys : List (Int × Int)} (ho' : OwnLe W' w.heap.size 60 2 v ys.length (dirtsC ys)) :
    St w0 w r rp B bx l { z with dirty := ys } { q with vd := v } (W'.setCell ⟨rp, 10, none⟩ v) ∧ OwnLe (W'.setCell ⟨rp, 10, none⟩ v) w.heap.size 60 2 v ys.length (dirtsC ys) := by
  obtain ⟨h1, h2, h3, h4, h5, h6⟩ := h.grown ho ⟨by decide, by decide, by decide, by decide⟩ hg
  have h7 := ownLe_row h.rc.ls.vr ho (by decide) hg
  have hs := cell_grown W' rp 10 v
  have n1 : rp ≠ r := r_ne_rp h2 h3
  have hv := ownLe_cellput (k := 10) (u := v) ho' h3 (by decide)
  have b8 : ∀ {b : Nat} {u : Value} {x : List UInt8}, Own8 W' b 5 u x → Own8 (W'.setCell ⟨rp, 10, none⟩ v) b 5 u x := fun ho => Own8.keptBy ho hs fun g hg e => by
    injection e with e
    subst e
    obtain ⟨cur, hcur⟩ := own8_block_type ho hg
    exact rec_ty h3 (by decide) hcur
  refine ⟨⟨kept_three h1 hs, h2.grown hs (fun e => n1 (by injection e)) (fun g e => by injection e with e; have := h.rn; omega), ⟨h3.stored 10 v, ⟨b8 h5, b8 h6, ownLe_cellput (k := 10) (u := v) h7 h3 (by decide), ownLe_monoB hv h.hB, h.rc.ls.ap⟩⟩, h4.grown hs (fun e => h.bp (by injection e with e; exact e.symm)), h.br, h.bp, h.hB, h.rn, h.wn, h.hl⟩, hv⟩
theorem St.done {m : List UInt8} {x : RecD} (h : St w0 w r rp B bx m x q W) {o : Option (RecD × List UInt8)} (ho : o = some (x, m)) (v : Value) : RdrP w0 o r rp B w (.returned v) W :=
  ⟨h.kept, fun e => (by rw [ho] at e; cases e), fun x' m' e => by
    rw [ho] at e
    injection e with e
    injection e with e1 e2
    subst e1 e2
    exact ⟨⟨v, rfl⟩, h.rd, q, h.rc⟩⟩
theorem St.fail {o : Option (RecD × List UInt8)} (ho : o = none) (hk : KeptBut (fun k => k = r ∨ k = rp) w W) : RdrP w0 o r rp B w early W :=
  ⟨hk, fun _ => rfl, fun x m e => by rw [ho] at e; cases e⟩
end
end Go.Proofs.Ytiaehoppdihbdaa
