import Derived.Test.YtapoknpakleiiaaDoorOct
import Derived.Test.YtapoknpakleiiaaDoorOwnLe
import Derived.Test.YtapoknpakleiiaaDoorMem
import Derived.Test.YtapoknpakleiiaaDoorStore
import Derived.Test.YtapoknpakleiiaaDoorDiskPure
/- The disk in memory. Each block has a colour: whose it is, and what of it. -/
set_option linter.unusedVariables false
set_option linter.unusedSimpArgs false
namespace Go.Proofs.YtapoknpakleiiaaDoor
open Go.RowKit Go.Tm
set_option maxHeartbeats 400000
set_option maxRecDepth 100000

abbrev Col := Nat → Nat × Nat
def Ext (N : Nat) (χ χ' : Col) : Prop := ∀ k, k < N → χ' k = χ k
theorem Ext.refl (N : Nat) (χ : Col) : Ext N χ χ := fun _ _ => rfl
theorem Ext.trans {N M : Nat} {a b c : Col} (h : Ext N a b) (k : Ext M b c) (hN : N ≤ M) : Ext N a c := fun q hq => (k q (by omega)).trans (h q hq)
/-- New blocks get this colour. -/
def paint (N : Nat) (χ : Col) (x : Nat × Nat) : Col := fun k => if k < N then χ k else x
theorem paint_ext (N : Nat) (χ : Col) (x : Nat × Nat) : Ext N χ (paint N χ x) := fun k hk => if_pos hk
theorem paint_new {N : Nat} {χ : Col} {x : Nat × Nat} {k : Nat} (h : N ≤ k) : paint N χ x k = x := if_neg (by omega)

/-- The pages, pair and masters of a disk: the block g holds the slices vs, of which the first k are rows of bytes. -/
structure GroundK (w : World) (χ : Col) (j t g : Nat) (vs : List Value) (rows : List (List UInt8)) (k : Nat) : Prop where
  col : χ g = (j, t)
  row : RowC w g 22 vs
  len : vs.length = rows.length
  each : ∀ i, i < k → ∃ r b c, rows[i]? = some r ∧ vs[i]? = some (.slice (some ⟨b, 0, none⟩) r.length c) ∧ χ b = (j, t + 1 + i) ∧ Own8 w 0 5 (.slice (some ⟨b, 0, none⟩) r.length c) r
section
variable {w w' : World} {χ χ' : Col} {j t g k : Nat} {vs : List Value} {rows : List (List UInt8)}
theorem own8_same {w w' : World} {base : Nat} {e : TypeId} {v : Value} {l : List UInt8} (h : Own8 w base e v l) (hk : ∀ q, v.ownBlock = some q → w'.heap[q]? = w.heap[q]?) : Own8 w' base e v l := by
  refine ⟨h.1, ?_⟩
  rcases h.2 with h0 | ⟨g, cap, cur, rfl, hbg, hg, rest⟩
  · exact .inl h0
  · exact .inr ⟨g, cap, cur, rfl, hbg, (hk g rfl).trans hg, rest⟩
theorem own8_lt {w : World} {base : Nat} {e : TypeId} {b n c : Nat} {l : List UInt8} (h : Own8 w base e (.slice (some ⟨b, 0, none⟩) n c) l) : b < w.heap.size := (World.ownsRow.lt h b rfl).2
theorem GroundK.ext (h : GroundK w χ j t g vs rows k) (hx : Ext w.heap.size χ χ') (hk : ∀ q, q < w.heap.size → (χ q).1 = j → t ≤ (χ q).2 → (χ q).2 ≤ t + k → w'.heap[q]? = w.heap[q]?) : GroundK w' χ' j t g vs rows k := by
  have hg := h.row.lt
  refine ⟨(hx g hg).trans h.col, (hk g hg (by rw [h.col]) (by rw [h.col]; exact Nat.le_refl _) (by rw [h.col]; exact Nat.le_add_right _ _)).trans h.row, h.len, fun i hi => ?_⟩
  obtain ⟨r, b, c, h1, h2, h3, h4⟩ := h.each i hi
  have hb := own8_lt h4
  exact ⟨r, b, c, h1, h2, (hx b hb).trans h3, own8_same h4 fun q hq => by
    have e : b = q := by simpa [Value.ownBlock] using hq
    subst e
    exact hk b hb (by rw [h3]) (by rw [h3]; show t ≤ t + 1 + i; omega) (by rw [h3]; show t + 1 + i ≤ t + k; omega)⟩
theorem GroundK.below (h : GroundK w χ j t g vs rows k) (hx : Ext w.heap.size χ χ') (hb : Below w.heap.size w w') : GroundK w' χ' j t g vs rows k := h.ext hx fun q hq _ _ _ => hb.block q hq
/-- A row of the ground, as one reads it. -/
theorem GroundK.cell (h : GroundK w χ j t g vs rows k) {i : Nat} (hi : i < k) : ∃ b c, rows[i]? = some (rows.getD i []) ∧ vs[i]? = some (.slice (some ⟨b, 0, none⟩) (rows.getD i []).length c) ∧ χ b = (j, t + 1 + i) ∧ Own8 w 0 5 (.slice (some ⟨b, 0, none⟩) (rows.getD i []).length c) (rows.getD i []) := by
  obtain ⟨r, b, c, h1, h2, h3, h4⟩ := h.each i hi
  have : rows.getD i [] = r := by simp [List.getD, h1]
  rw [this]
  exact ⟨b, c, h1, h2, h3, h4⟩
theorem GroundK.rd (h : GroundK w χ j t g vs rows rows.length) (hl : rows.length ≤ 99) : RdRows w (some ⟨g, 0, none⟩) rows.length rows := by
  refine ⟨Nat.le_refl _, by unfold maxLen; omega, fun _ => ⟨g, 0, rfl, fun i hi => ?_⟩⟩
  obtain ⟨b, c, h1, h2, h3, h4⟩ := h.cell hi
  exact ⟨_, c, by rw [Nat.zero_add]; exact h.row.cell h2, (own_at h4).2⟩
/-- One row more: new memory, stored. -/
theorem GroundK.step (h : GroundK w χ j t g vs rows k) {w1 : World} (hb : Below w.heap.size w w1) {r : List UInt8} {b c : Nat} (hr : rows[k]? = some r) (ho : Own8 w1 w.heap.size 5 (.slice (some ⟨b, 0, none⟩) r.length c) r) :
    GroundK (w1.setCell ⟨g, k, none⟩ (.slice (some ⟨b, 0, none⟩) r.length c)) (paint w.heap.size χ (j, t + 1 + k)) j t g (vs.set k (.slice (some ⟨b, 0, none⟩) r.length c)) rows (k + 1) := by
  have hg := h.row.lt
  have h1 := h.below (paint_ext w.heap.size χ (j, t + 1 + k)) hb
  have hkl : k < vs.length := by rw [h.len]; exact (List.getElem?_eq_some_iff.1 hr).1
  have hbn : w.heap.size ≤ b := (World.ownsRow.lt ho b rfl).1
  have hsame : ∀ q, q ≠ g → (w1.setCell ⟨g, k, none⟩ (.slice (some ⟨b, 0, none⟩) r.length c)).heap[q]? = w1.heap[q]? := fun q hq => Below.heap_setCell _ _ _ _ hq
  have hty : ∀ {b' n c' : Nat} {l : List UInt8}, Own8 w1 0 5 (.slice (some ⟨b', 0, none⟩) n c') l → b' ≠ g := @fun b' n c' l ho' e => by
    obtain ⟨cur, hcur⟩ := own8_block_type ho' (g := b') rfl
    have := h1.row
    unfold RowC at this
    rw [e, this] at hcur
    injection hcur with hcur
    injection hcur with _ hcur _
    exact absurd hcur (by decide)
  refine ⟨h1.col, h1.row.stored k _, by rw [List.length_set]; exact h.len, fun i hi => ?_⟩
  by_cases hik : i = k
  · subst hik
    refine ⟨r, b, c, hr, by rw [List.getElem?_set_self hkl], paint_new hbn, own8_same (Own8.mono ho (Nat.zero_le _)) fun q hq => ?_⟩
    have e : b = q := by simpa [Value.ownBlock] using hq
    subst e
    exact hsame b (hty (Own8.mono ho (Nat.zero_le _)))
  · obtain ⟨r', b', c', g1, g2, g3, g4⟩ := h1.each i (by omega)
    refine ⟨r', b', c', g1, by rw [List.getElem?_set_ne (fun e => hik e.symm)]; exact g2, g3, own8_same g4 fun q hq => ?_⟩
    have e : b' = q := by simpa [Value.ownBlock] using hq
    subst e
    exact hsame b' (hty g4)
/-- A row is written over. -/
theorem GroundK.lay (h : GroundK w χ j t g vs rows k) {i b c : Nat} {r : List UInt8} (hi : i < k) (hv : vs[i]? = some (.slice (some ⟨b, 0, none⟩) (rows.getD i []).length c)) (ho : Own8 w' 0 5 (.slice (some ⟨b, 0, none⟩) (rows.getD i []).length c) r) (hg : w.grownBy w' (some b)) :
    GroundK w' χ j t g vs (rows.set i r) k := by
  obtain ⟨b', c', h1, h2, h3, h4⟩ := h.cell hi
  rw [hv] at h2
  injection h2 with h2
  injection h2 with h2 _ h2c
  injection h2 with h2
  injection h2 with h2
  subst h2
  subst h2c
  have hrl : r.length = (rows.getD i []).length := (own_at ho).1.symm
  have hil : i < rows.length := (List.getElem?_eq_some_iff.1 h1).1
  refine ⟨h.col, ?_, by rw [List.length_set]; exact h.len, fun q hq => ?_⟩
  · refine (hg.block g h.row.lt fun e => ?_).trans h.row
    injection e with e
    have := h.col
    rw [e, h3] at this
    injection this with _ this
    omega
  · by_cases hqi : q = i
    · subst hqi
      refine ⟨r, b, c, by rw [List.getElem?_set_self hil], by rw [hrl]; exact hv, h3, by rw [hrl]; exact ho⟩
    · obtain ⟨r2, b2, c2, g1, g2, g3, g4⟩ := h.each q hq
      refine ⟨r2, b2, c2, by rw [List.getElem?_set_ne (fun e => hqi e.symm)]; exact g1, g2, g3, own8_same g4 fun x hx => ?_⟩
      have e : b2 = x := by simpa [Value.ownBlock] using hx
      subst e
      refine hg.block b2 (own8_lt g4) fun e => ?_
      injection e with e
      rw [e, h3] at g3
      injection g3 with _ g3
      omega
end

/-- What lays a write: the closure, over boxes that nobody writes. -/
def ClosR (w : World) (χ : Col) (f : Value) (x : Wr) : Prop :=
  ∃ b1 b2 b3 c, f = .func (.func 101) #[] #[.pointer (some ⟨b1, 0, none⟩), .pointer (some ⟨b2, 0, none⟩)] ∧ (χ b1).1 = 0 ∧ (χ b2).1 = 0 ∧ (χ b3).1 = 0 ∧
    RowC w b1 3 [.int .i64 (x.pl : Int)] ∧ RowC w b2 22 [.slice (some ⟨b3, 0, none⟩) x.bs.length c] ∧ Own8 w 0 5 (.slice (some ⟨b3, 0, none⟩) x.bs.length c) x.bs
theorem ClosR.ext {w w' : World} {χ χ' : Col} {f : Value} {x : Wr} (h : ClosR w χ f x) (hx : Ext w.heap.size χ χ') (hk : ∀ q, q < w.heap.size → (χ q).1 = 0 → w'.heap[q]? = w.heap[q]?) : ClosR w' χ' f x := by
  obtain ⟨b1, b2, b3, c, rfl, c1, c2, c3, r1, r2, r3⟩ := h
  have l3 := own8_lt r3
  refine ⟨b1, b2, b3, c, rfl, by rw [hx b1 r1.lt]; exact c1, by rw [hx b2 r2.lt]; exact c2, by rw [hx b3 l3]; exact c3, (hk b1 r1.lt c1).trans r1, (hk b2 r2.lt c2).trans r2, own8_same r3 fun q hq => ?_⟩
  have e : b3 = q := by simpa [Value.ownBlock] using hq
  subst e
  exact hk b3 l3 c3
/-- Loose writes, as cells. -/
def wrC (L : List (Wr × Value)) : List Value := L.flatMap fun x => [.bool x.1.m, .int .i64 (x.1.bs.length : Int), x.2]
theorem wrC_cons (x : Wr × Value) (L : List (Wr × Value)) : wrC (x :: L) = .bool x.1.m :: .int .i64 (x.1.bs.length : Int) :: x.2 :: wrC L := rfl
theorem wrC_app (L M : List (Wr × Value)) : wrC (L ++ M) = wrC L ++ wrC M := by simp [wrC]
theorem wrC_length (L : List (Wr × Value)) : (wrC L).length = L.length * 3 := by
  induction L with
  | nil => rfl
  | cons x r ih => rw [wrC_cons]; simp [ih]; omega
theorem wrC_get (L : List (Wr × Value)) (k : Nat) (x : Wr × Value) (h : L[k]? = some x) : (wrC L)[k * 3]? = some (.bool x.1.m) ∧ (wrC L)[k * 3 + 1]? = some (.int .i64 (x.1.bs.length : Int)) ∧ (wrC L)[k * 3 + 2]? = some x.2 := by
  induction L generalizing k with
  | nil => simp at h
  | cons y r ih =>
    rw [wrC_cons]
    cases k with
    | zero => simp at h; subst h; exact ⟨rfl, rfl, rfl⟩
    | succ k =>
      have := ih k (by simpa using h)
      rw [show (k + 1) * 3 = k * 3 + 1 + 1 + 1 by omega]
      exact ⟨this.1, this.2.1, this.2.2⟩
structure LooseR (w : World) (χ : Col) (j : Nat) (v : Value) (L : List (Wr × Value)) : Prop where
  own : OwnLe w 0 118 3 v L.length (wrC L)
  col : ∀ q, v.ownBlock = some q → χ q = (j, 4)
  clos : ∀ x ∈ L, ClosR w χ x.2 x.1
theorem ownLe_same {w w' : World} {base : Nat} {e : TypeId} {size k : Nat} {v : Value} {xs : List Value} (h : OwnLe w base e size v k xs) (hk : ∀ q, v.ownBlock = some q → w'.heap[q]? = w.heap[q]?) : OwnLe w' base e size v k xs := by
  refine ⟨h.1, ?_⟩
  rcases h.2 with h0 | ⟨g, cap, cur, rfl, hbg, hgg, rest⟩
  · exact .inl h0
  · exact .inr ⟨g, cap, cur, rfl, hbg, (hk g rfl).trans hgg, rest⟩
theorem LooseR.ext {w w' : World} {χ χ' : Col} {j : Nat} {v : Value} {L : List (Wr × Value)} (h : LooseR w χ j v L) (hx : Ext w.heap.size χ χ') (hk : ∀ q, q < w.heap.size → (χ q).1 = 0 ∨ χ q = (j, 4) → w'.heap[q]? = w.heap[q]?) : LooseR w' χ' j v L :=
  ⟨ownLe_same h.own fun q hq => hk q (ownLe_block h.own hq).2.1 (.inr (h.col q hq)), fun q hq => (hx q (ownLe_block h.own hq).2.1).trans (h.col q hq), fun x hxm => (h.clos x hxm).ext hx fun q hq hq0 => hk q hq (.inl hq0)⟩
structure LogR (w : World) (χ : Col) (j : Nat) (v : Value) (l : List UInt8) : Prop where
  own : Own8 w 0 5 v l
  col : ∀ q, v.ownBlock = some q → χ q = (j, 5)
theorem LogR.ext {w w' : World} {χ χ' : Col} {j : Nat} {v : Value} {l : List UInt8} (h : LogR w χ j v l) (hx : Ext w.heap.size χ χ') (hk : ∀ q, q < w.heap.size → χ q = (j, 5) → w'.heap[q]? = w.heap[q]?) : LogR w' χ' j v l :=
  ⟨own8_same h.own fun q hq => hk q (World.ownsRow.lt h.own q hq).2 (h.col q hq), fun q hq => (hx q (World.ownsRow.lt h.own q hq).2).trans (h.col q hq)⟩

/-- Where a disk lies. -/
structure DPl where
  t1 : Nat
  t2 : Nat
  g1 : Nat
  g2 : Nat
  vs1 : List Value
  vs2 : List Value
  vo : Value
  vg : Value
  L : List (Wr × Value)
def diskC (s : DSt) (q : DPl) : List Value := [.int .i64 (s.P : Int), .int .i64 (s.K : Int), .int .i64 (s.M : Int), .slice (some ⟨q.g1, 0, none⟩) (s.P + 3) (s.P + 3), .slice (some ⟨q.g2, 0, none⟩) (s.P + 3) (s.P + 3), q.vo, q.vg, .int .i64 (s.lasted : Int), .int .i64 (s.acts : Int), .int .i64 (s.stop : Int), .bool s.dead]
structure DiskR (w : World) (χ : Col) (j p : Nat) (s : DSt) (q : DPl) : Prop where
  pos : 0 < j
  col : χ p = (j, 1)
  row : RowC w p 100 (diskC s q)
  tags : 100 ≤ q.t1 ∧ 100 ≤ q.t2 ∧ (q.t1 + 50 ≤ q.t2 ∨ q.t2 + 50 ≤ q.t1)
  lasts : GroundK w χ j q.t1 q.g1 q.vs1 s.lasts (s.P + 3)
  reads : GroundK w χ j q.t2 q.g2 q.vs2 s.reads (s.P + 3)
  loose : LooseR w χ j q.vo q.L
  look : s.loose = q.L.map Prod.fst
  log : LogR w χ j q.vg s.log
  ok : DOk s
theorem DiskR.ext {w w' : World} {χ χ' : Col} {j p : Nat} {s : DSt} {q : DPl} (h : DiskR w χ j p s q) (hx : Ext w.heap.size χ χ') (hk : ∀ x, x < w.heap.size → (χ x).1 = 0 ∨ (χ x).1 = j → w'.heap[x]? = w.heap[x]?) : DiskR w' χ' j p s q :=
  ⟨h.pos, (hx p h.row.lt).trans h.col, (hk p h.row.lt (.inr (by rw [h.col]))).trans h.row, h.tags, h.lasts.ext hx fun x a b _ _ => hk x a (.inr b), h.reads.ext hx fun x a b _ _ => hk x a (.inr b),
    h.loose.ext hx fun x a b => hk x a (by rcases b with b | b; exact .inl b; exact .inr (by rw [b])), h.look, h.log.ext hx fun x a b => hk x a (.inr (by rw [b])), h.ok⟩
theorem DiskR.below {w w' : World} {χ χ' : Col} {j p : Nat} {s : DSt} {q : DPl} (h : DiskR w χ j p s q) (hx : Ext w.heap.size χ χ') (hb : Below w.heap.size w w') : DiskR w' χ' j p s q := h.ext hx fun x a _ => hb.block x a
/-- Cells of the disk's own block are written; the rest lies as it lay. -/
theorem DiskR.restate {w w' : World} {χ : Col} {j p : Nat} {s s' : DSt} {q : DPl} (h : DiskR w χ j p s q) (hg : w.grownBy w' (some p)) (hrow : RowC w' p 100 (diskC s' q)) (e1 : s'.lasts = s.lasts) (e2 : s'.reads = s.reads) (e3 : s'.loose = s.loose) (e4 : s'.log = s.log) (e5 : s'.P = s.P) (ok : DOk s') : DiskR w' χ j p s' q := by
  have hk : ∀ x, x < w.heap.size → χ x ≠ (j, 1) → w'.heap[x]? = w.heap[x]? := fun x hx hc => hg.block x hx (fun e => hc (by injection e with e; rw [e]; exact h.col))
  refine ⟨h.pos, h.col, hrow, h.tags, ?_, ?_, ?_, by rw [e3]; exact h.look, ?_, ok⟩
  · rw [e1, e5]
    exact h.lasts.ext (Ext.refl _ _) fun x a _ b _ => hk x a (fun e => by rw [e] at b; have := h.tags.1; omega)
  · rw [e2, e5]
    exact h.reads.ext (Ext.refl _ _) fun x a _ b _ => hk x a (fun e => by rw [e] at b; have := h.tags.2.1; omega)
  · exact h.loose.ext (Ext.refl _ _) fun x a b => hk x a (fun e => by
      rw [e] at b
      rcases b with b | b
      · have hj : j = 0 := b
        have := h.pos
        omega
      · cases b)
  · rw [e4]
    exact h.log.ext (Ext.refl _ _) fun x a b => hk x a (fun e => by rw [e] at b; cases b)
theorem kept_grown {w w' : World} {p : Nat} (h : w.grownBy w' (some p)) : KeptBut (fun k => k = p) w w' := ⟨h.os, h.tape, h.output, h.size, fun k hk hn => h.block k hk (fun e => hn (by injection e))⟩
theorem kept_mono {S T : Nat → Prop} {w w' : World} (h : KeptBut S w w') (hT : ∀ k, k < w.heap.size → S k → T k) : KeptBut T w w' := ⟨h.os, h.tape, h.output, h.size, fun k hk hn => h.block k hk (fun hs => hn (hT k hk hs))⟩
/-- What an act on disk j leaves as it was: all but its own blocks. -/
structure Touch (w w' : World) (χ χ' : Col) (j : Nat) : Prop where
  kept : KeptBut (fun k => (χ k).1 = j) w w'
  ext : Ext w.heap.size χ χ'
theorem Touch.of_own {w w' : World} {χ χ' : Col} {j p : Nat} (hk : KeptBut (fun k => k = p) w w') (hp : (χ p).1 = j) (hx : Ext w.heap.size χ χ') : Touch w w' χ χ' j :=
  ⟨kept_mono hk fun k _ e => by rw [e]; exact hp, hx⟩
theorem Touch.trans {w w1 w2 : World} {χ χ1 χ2 : Col} {j : Nat} (h : Touch w w1 χ χ1 j) (k : Touch w1 w2 χ1 χ2 j) : Touch w w2 χ χ2 j :=
  ⟨⟨k.kept.os.trans h.kept.os, k.kept.tape.trans h.kept.tape, k.kept.output.trans h.kept.output, Nat.le_trans h.kept.size k.kept.size, fun q hq hn =>
    (k.kept.block q (Nat.lt_of_lt_of_le hq h.kept.size) (fun e => hn (by rw [h.ext q hq] at e; exact e))).trans (h.kept.block q hq hn)⟩, h.ext.trans k.ext h.kept.size⟩
theorem Touch.below {w w1 w2 : World} {χ χ1 χ2 : Col} {j : Nat} (h : Touch w w1 χ χ1 j) (hx : Ext w1.heap.size χ1 χ2) (hb : Below w1.heap.size w1 w2) : Touch w w2 χ χ2 j := h.trans ⟨(KeptBut.refl _ _).below hb, hx⟩
theorem Touch.of_below {w w2 : World} {χ χ2 : Col} {j : Nat} (hx : Ext w.heap.size χ χ2) (hb : Below w.heap.size w w2) : Touch w w2 χ χ2 j := ⟨(KeptBut.refl _ _).below hb, hx⟩
theorem paint0 {N : Nat} {χ : Col} {k : Nat} (h : N ≤ k) : ((paint N χ (0, 9)) k).1 = 0 := by rw [paint_new h]
def IsDisk (w : World) (χ : Col) (j p : Nat) (s : DSt) : Prop := ∃ q, DiskR w χ j p s q
end Go.Proofs.YtapoknpakleiiaaDoor
