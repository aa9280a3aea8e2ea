import Derived.Test.YtiaehoppdihbdaaMark
/- A pool: rows of one's own that lie apart from one another. -/
set_option linter.unusedVariables false
set_option linter.unusedSimpArgs false
namespace Go.Tm
open Go.RowKit

/-- So many of one byte. (A word of its own: the walk's simp writes a 'replicate' of a numeral out.) -/
def repB (n : Nat) (b : UInt8) : List UInt8 := List.replicate n b
theorem repB_length (n : Nat) (b : UInt8) : (repB n b).length = n := by simp [repB]
theorem repB_zero (b : UInt8) : repB 0 b = [] := rfl
theorem repB_succ (n : Nat) (b : UInt8) : repB (n + 1) b = repB n b ++ [b] := by simp [repB, List.replicate_succ']
theorem repB_get (n : Nat) (b : UInt8) (j : Nat) (hj : j < n) : (repB n b).getD j 0 = b := by rw [repB, List.getD_eq_getElem?_getD, List.getElem?_replicate, if_pos hj]; rfl
/-- A row: its address, its capacity, its bytes. -/
abbrev PRow := Option Addr × Nat × List UInt8
def pv (x : PRow) : Value := .slice x.1 x.2.2.length x.2.1
structure Pool (w : World) (base : Nat) (e : TypeId) (rs : List PRow) : Prop where
  own : ∀ x ∈ rs, Own8 w base e (pv x) x.2.2
  apart : rs.Pairwise fun x y => Aprt (pv x) (pv y)
def poolS (rs : List PRow) (g : Nat) : Prop := ∃ x ∈ rs, (pv x).ownBlock = some g
section
variable {w w' : World} {base : Nat} {e : TypeId} {rs : List PRow}
theorem Pool.nil (w : World) (base : Nat) (e : TypeId) : Pool w base e [] := ⟨fun x hx => by simp at hx, List.Pairwise.nil⟩
theorem Pool.below (h : Pool w base e rs) (hb : Below w.heap.size w w') : Pool w' base e rs := ⟨fun x hx => (h.own x hx).below hb, h.apart⟩
theorem Pool.mono (h : Pool w base e rs) {b' : Nat} (hb : b' ≤ base) : Pool w b' e rs := ⟨fun x hx => (h.own x hx).mono hb, h.apart⟩
theorem Pool.rda (h : Pool w base e rs) {x : PRow} (hx : x ∈ rs) : Rda w x.1 x.2.1 x.2.2 := (own_at (h.own x hx)).2
/-- One more row, of one's own from a block on that is beyond all the others. -/
theorem Pool.add (h : Pool w base e rs) {A : Option Addr} {c : Nat} {l : List UInt8} {B : Nat} (ho : Own8 w B e (.slice A l.length c) l) (hB : base ≤ B) (hlt : ∀ x ∈ rs, ∀ g, (pv x).ownBlock = some g → g < B) : Pool w base e (rs ++ [(A, c, l)]) := by
  refine ⟨fun x hx => ?_, ?_⟩
  · rcases List.mem_append.1 hx with hx | hx
    · exact h.own x hx
    · have : x = (A, c, l) := by simpa using hx
      subst this
      exact ho.mono hB
  · rw [List.pairwise_append]
    refine ⟨h.apart, List.pairwise_singleton _ _, fun x hx y hy => ?_⟩
    have : y = (A, c, l) := by simpa using hy
    subst this
    intro g hg hg2
    have h1 := hlt x hx g hg
    have h2 := (World.ownsRow.lt ho g hg2).1
    omega
theorem Pool.lt (h : Pool w base e rs) : ∀ x ∈ rs, ∀ g, (pv x).ownBlock = some g → g < w.heap.size := fun x hx g hg => own_lt (h.own x hx) hg
theorem Pool.push (h : Pool w base e rs) {A : Option Addr} {c : Nat} {l : List UInt8} (hN : New e w w' A c l) (hB : base ≤ w.heap.size) : Pool w' base e (rs ++ [(A, c, l)]) :=
  (h.below hN.below).add hN.own hB h.lt
theorem Pool.append (h : Pool w base e rs) {qs : List PRow} {B : Nat} (k : Pool w B e qs) (hB : base ≤ B) (hlt : ∀ x ∈ rs, ∀ g, (pv x).ownBlock = some g → g < B) : Pool w base e (rs ++ qs) := by
  refine ⟨fun x hx => ?_, ?_⟩
  · rcases List.mem_append.1 hx with hx | hx
    · exact h.own x hx
    · exact (k.own x hx).mono hB
  · rw [List.pairwise_append]
    refine ⟨h.apart, k.apart, fun x hx y hy => ?_⟩
    intro g hg hg2
    have h1 := hlt x hx g hg
    have h2 := (World.ownsRow.lt (k.own y hy) g hg2).1
    omega
/-- Only a block of another type (or a new one) turns. -/
theorem Pool.other (h : Pool w base e rs) {row : Option Nat} (hg : w.grownBy w' row) {T : TypeId} (hT : T ≠ e) (hr : ∀ g, row = some g → g < w.heap.size → ∃ cur, w.heap[g]? = some (.cells cur T (0, 0))) : Pool w' base e rs := by
  refine ⟨fun x hx => (h.own x hx).keptBy hg fun g hgb hrow => ?_, h.apart⟩
  obtain ⟨cu, h1⟩ := own8_block_type (h.own x hx) hgb
  obtain ⟨cur, h2⟩ := hr g hrow (own_lt (h.own x hx) hgb)
  rw [h1] at h2
  injection h2 with h2
  injection h2 with _ h2
  exact hT h2.symm
/-- A row that a reader has given: of what was there only the reader's block has turned. -/
theorem Pool.pushR (h : Pool w base e rs) {A : Option Addr} {c r : Nat} {l k : List UInt8} {T : TypeId} (hN : NewR e r w w' A c l) (hr : IsR w r T k) (hT : T ≠ e) (hB : base ≤ w.heap.size) : Pool w' base e (rs ++ [(A, c, l)]) :=
  (h.other hN.grown hT fun g hg _ => by
    injection hg with hg
    subst hg
    obtain ⟨A', c', h1, _⟩ := hr.is
    exact ⟨_, h1⟩).add hN.own hB h.lt
theorem Pool.grown (h : Pool w base e rs) {row : Option Nat} (hg : w.grownBy w' row) (hne : ∀ x ∈ rs, ∀ g, (pv x).ownBlock = some g → row ≠ some g) : Pool w' base e rs :=
  ⟨fun x hx => (h.own x hx).keptBy hg (hne x hx), h.apart⟩
theorem poolS_ge (h : Pool w base e rs) : ∀ g, poolS rs g → base ≤ g := by
  rintro g ⟨x, hx, hg⟩
  exact (World.ownsRow.lt (h.own x hx) g hg).1
theorem poolS_lt (h : Pool w base e rs) : ∀ g, poolS rs g → g < w.heap.size := by
  rintro g ⟨x, hx, hg⟩
  exact own_lt (h.own x hx) hg
/-- A row as a function of its number. -/
def rsA (rs : List PRow) (j : Nat) : Option Addr := (rs.getD j (none, 0, [])).1
def rsc (rs : List PRow) (j : Nat) : Nat := (rs.getD j (none, 0, [])).2.1
def rsl (rs : List PRow) (j : Nat) : List UInt8 := (rs.getD j (none, 0, [])).2.2
theorem rs_mrV (rs : List PRow) (j : Nat) (hj : j < rs.length) : mrV (rsA rs) (rsc rs) (rsl rs) j = pv rs[j] := by
  simp [mrV, rsA, rsc, rsl, pv, List.getD, hj]
theorem rs_S (rs : List PRow) (g : Nat) : mrS rs.length (rsA rs) (rsc rs) (rsl rs) g ↔ poolS rs g := by
  constructor
  · rintro ⟨j, hj, hg⟩
    rw [rs_mrV rs j hj] at hg
    exact ⟨_, List.getElem_mem hj, hg⟩
  · rintro ⟨x, hx, hg⟩
    obtain ⟨j, hj, rfl⟩ := List.mem_iff_getElem.1 hx
    exact ⟨j, hj, by rw [rs_mrV rs j hj]; exact hg⟩
theorem KeptBut.mono {S S' : Nat → Prop} {w w1 : World} (h : KeptBut S w w1) (hs : ∀ g, S g → S' g) : KeptBut S' w w1 :=
  ⟨h.os, h.tape, h.output, h.size, fun k hk hS => h.block k hk fun hh => hS (hs k hh)⟩
end
end Go.Tm
