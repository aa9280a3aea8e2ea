import Derived.Test.YtehmpdioofldaaaReads1
import Derived.Test.YtehmpdioofldaaaRow
import Derived.Test.YtehmpdioofldaaaStore
import Derived.Lib.SmallJoins
import Derived.Deep.Strs
/- New readers, their memory told; the steps that are handed in. -/
set_option linter.unusedVariables false
set_option linter.unusedSimpArgs false
namespace Go.Proofs.Ytehmpdioofldaaa
open Go.RowKit Go.Tm Go.ChangeShapes Go.WideShapes Go.ChangeAt Go.Deep Go.Joins
set_option maxHeartbeats 400000
set_option maxRecDepth 100000

/-- Two readers of the same bytes whose memory lies from a block on. -/
structure DuoB (w : World) (p r base : Nat) (l : List UInt8) : Prop where
  P : ∃ A c, w.heap[p]? = some (.cells #[.slice A l.length c] 57 (0, 0)) ∧ Rda w A c l ∧ ∀ a, A = some a → base ≤ a.block
  R : ∃ A c full k, w.heap[r]? = some (.cells #[.slice A full.length c, .int .i64 ((k : Nat) : Int)] 59 (0, 0)) ∧ Rda w A c full ∧ k ≤ full.length ∧ full.length ≤ 140737488355328 ∧ l = full.drop k ∧ ∀ a, A = some a → base ≤ a.block
  hp : base ≤ p
  hr : base ≤ r
theorem DuoB.duo {w : World} {p r base : Nat} {l : List UInt8} (h : DuoB w p r base l) : Duo w p r l := by
  obtain ⟨A, c, h1, h2, _⟩ := h.P
  obtain ⟨B, d, full, k, h3, h4, h5, h6, h7, _⟩ := h.R
  exact ⟨⟨A, c, h1, h2⟩, ⟨B, d, full, k, h3, h4, h5, h6, h7⟩⟩
theorem DuoB.but {w w' : World} {p r base : Nat} {l : List UInt8} (h : DuoB w p r base l) {S : Nat → Prop} (hk : KeptBut S w w') (hS : ∀ g, S g → g < base) : DuoB w' p r base l := by
  obtain ⟨A, c, h1, h2, h2'⟩ := h.P
  obtain ⟨B, d, full, k, h3, h4, h5, h6, h7, h8⟩ := h.R
  exact ⟨⟨A, c, (hk.block p (Array.getElem?_eq_some_iff.1 h1).1 (fun hs => by have := hS _ hs; have := h.hp; omega)).trans h1, hk.rda h2 (fun a ha hs => by have := hS _ hs; have := h2' a ha; omega), h2'⟩,
    ⟨B, d, full, k, (hk.block r (Array.getElem?_eq_some_iff.1 h3).1 (fun hs => by have := hS _ hs; have := h.hr; omega)).trans h3, hk.rda h4 (fun a ha hs => by have := hS _ hs; have := h8 a ha; omega), h5, h6, h7, h8⟩, h.hp, h.hr⟩
theorem DuoB.below {w w' : World} {p r base : Nat} {l : List UInt8} (h : DuoB w p r base l) (hb : Below w.heap.size w w') : DuoB w' p r base l :=
  h.but (S := fun _ => False) ((KeptBut.refl _ _).below hb) (fun _ h => h.elim)

theorem newReaderB_any {w : World} {A : Option Addr} {n c : Nat} {l : List UInt8} (h : Rda w A c l) (hn : n = l.length) (hl : l.length ≤ 140737488355328) :
    Calls Try.prog 9 #[.slice A n c] w fun e w' => ∃ r, e = .returned (.pointer (some ⟨r, 0, none⟩)) ∧ w.heap.size ≤ r ∧ r < w'.heap.size ∧ (∃ A' c', w'.heap[r]? = some (.cells #[.slice A' l.length c'] 57 (0, 0)) ∧ Rda w' A' c' l ∧ ∀ a, A' = some a → w.heap.size ≤ a.block) ∧ Below w.heap.size w w' := by
  subst hn
  go_enter Try.func9, Try.ntmps9
  go_wp2_with fail
  refine (clone_any h rfl (by omega)).mono ?_
  rintro e w1 ⟨A1, c1, rfl, hN⟩
  go_wp2_with fail
  go_ret
  exact ⟨w1.heap.size, rfl, hN.below.size, by simp, ⟨A1, c1, heap_alloc_new w1 _, hN.rda.alloc _, fun a ha => (World.ownsRow.lt hN.own a.block (by rw [ha]; rfl)).1⟩, hN.below.alloc hN.below.size _⟩
theorem refNewReaderB_any {w : World} {A : Option Addr} {n c : Nat} {l : List UInt8} (h : Rda w A c l) (hn : n = l.length) (hl : l.length ≤ 140737488355328) :
    Calls Try.prog 10 #[.slice A n c] w fun e w' => ∃ r, e = .returned (.pointer (some ⟨r, 0, none⟩)) ∧ w.heap.size ≤ r ∧ r < w'.heap.size ∧ (∃ A' c' full k, w'.heap[r]? = some (.cells #[.slice A' full.length c', .int .i64 ((k : Nat) : Int)] 59 (0, 0)) ∧ Rda w' A' c' full ∧ k ≤ full.length ∧ full.length ≤ 140737488355328 ∧ l = full.drop k ∧ ∀ a, A' = some a → w.heap.size ≤ a.block) ∧ Below w.heap.size w w' := by
  subst hn
  have hnil := Own8.nilRow w w.heap.size 5
  go_enter Try.func10, Try.ntmps10
  go_wp2_with (at_builtin; refine wpList_app (l := []) (m := l) _ rfl _ _ rfl tU8 rfl hnil rfl rfl h (by simp; omega) (by omega) ?_)
  intro v1 w1 hown1 hg1
  have hb1 : Below w.heap.size w w1 := hnil.grown hg1 (Below.refl _ _) (Nat.le_refl _) (Nat.le_refl _)
  obtain ⟨A1, c1, rfl, hr1⟩ := own_rda hown1
  have hlt := World.ownsRow.lt hown1
  clear hnil hown1
  go_wp2
  go_ret
  exact ⟨w1.heap.size, rfl, hb1.size, by simp, ⟨A1, c1, l, 0, heap_alloc_new w1 _, hr1.alloc _, by omega, by omega, by simp, fun a ha => (hlt a.block (by rw [ha]; rfl)).1⟩, hb1.alloc hb1.size _⟩

/-- Steps: whether the second, the kind, the number. -/
structure StepsR (w : World) (A : Option Addr) (c : Nat) (l : List (Bool × Int × Int)) : Prop where
  cap : l.length ≤ c
  max : c ≤ maxLen
  cells : 0 < l.length → ∃ g o, A = some ⟨g, o, none⟩ ∧ ∀ j x, l[j]? = some x → w.cell? ⟨g, o + j * 3, none⟩ = some (.bool x.1) ∧ w.cell? ⟨g, o + j * 3 + 1, none⟩ = some (.int .i64 x.2.1) ∧ w.cell? ⟨g, o + j * 3 + 2, none⟩ = some (.int .i64 x.2.2)
  vals : ∀ x ∈ l, x.2.2 ≤ 9223372036854775807
theorem StepsR.below {w w' : World} {A : Option Addr} {c : Nat} {l : List (Bool × Int × Int)} (h : StepsR w A c l) (hb : Below w.heap.size w w') : StepsR w' A c l :=
  ⟨h.cap, h.max, fun hp => by
    obtain ⟨g, o, e, hc⟩ := h.cells hp
    refine ⟨g, o, e, fun j x hj => ?_⟩
    obtain ⟨a, b, d⟩ := hc j x hj
    exact ⟨(hb.cell (p := ⟨g, _, none⟩) (World.block_lt_of_cell? _ _ a)).trans a, (hb.cell (p := ⟨g, _, none⟩) (World.block_lt_of_cell? _ _ b)).trans b, (hb.cell (p := ⟨g, _, none⟩) (World.block_lt_of_cell? _ _ d)).trans d⟩, h.vals⟩
section
variable {H : Type} {enc : TypeId × Value → H} {P : Program} {w : World} {base : Nat} {spare : Nat → Bool} {held : Bool}
theorem open_steps {T e : TypeId} {f0 f1 f2 : Field} (hT : P.underlying T = some (.slice e)) (he : P.underlying e = some (.struct #[f0, f1, f2])) (ce : P.cellsOf e = 3)
    (o0 : f0.offset = 0) (o1 : f1.offset = 1) (o2 : f2.offset = 2) (c0 : P.cellsOf f0.type = 1) (c1 : P.cellsOf f1.type = 1) (c2 : P.cellsOf f2.type = 1)
    (t0 : P.underlying f0.type = some .bool) (t1 : P.underlying f1.type = some (.int .i64)) (t2 : P.underlying f2.type = some (.int .i64))
    {fuel : Nat} {v : Value} {x : DataW H × List MemPlace} (h : DataW.trod enc P w base spare held fuel T [v] = some x) :
    ∃ A l c, v = .slice A l.length c ∧ StepsR w A c l := by
  rcases open_slice hT h with ⟨hcs, hx⟩ | ⟨a, len, cap, m, n, D, Pl, hcs, _, hl, hm, hmm, hx, hV⟩
  · obtain rfl : v = .slice none 0 0 := by simpa using hcs
    exact ⟨none, [], 0, rfl, ⟨Nat.le_refl _, by unfold maxLen; omega, fun h => by simp at h, fun x hx => by simp at hx⟩⟩
  · obtain rfl : v = .slice (some a) len cap := by simpa using hcs
    have hlm : len ≤ m := by rw [hmm]; split <;> omega
    have each : ∀ i, ∃ q : Bool × Int × Int, i < len → w.cell? (a.add (i * 3)) = some (.bool q.1) ∧ w.cell? (a.add (i * 3 + 1)) = some (.int .i64 q.2.1) ∧ w.cell? (a.add (i * 3 + 2)) = some (.int .i64 q.2.2) ∧ (Lit.int .i64 q.2.1).wf = true ∧ (Lit.int .i64 q.2.2).wf = true := by
      intro i
      by_cases hi : i < len
      · obtain ⟨cs, h1, h2⟩ := hV i (by omega)
        rw [ce] at h1
        obtain ⟨_, hlen, hcell⟩ := World.cells?_some h1
        obtain ⟨y0, y1, y2, k, _, _, g0, g1, g2⟩ := trod_struct3 he h2
        match cs, hlen with
        | [v0, v1, v2], _ =>
          simp [o0, o1, o2, c0, c1, c2] at g0 g1 g2
          have e0 := hcell 0 (by omega)
          have e1 := hcell 1 (by omega)
          have e2 := hcell 2 (by omega)
          rw [add_add] at e0 e1 e2
          obtain ⟨b, hb, _⟩ := DataW.trod_bool t0 g0
          obtain ⟨p, hp, _, wp⟩ := DataW.trod_int t1 g1
          obtain ⟨r, hr, _, wr⟩ := DataW.trod_int t2 g2
          obtain rfl : v0 = .bool b := by simpa using hb
          obtain rfl : v1 = .int .i64 p := by simpa using hp
          obtain rfl : v2 = .int .i64 r := by simpa using hr
          exact ⟨(b, p, r), fun _ => ⟨by simpa using e0, by simpa using e1, by simpa using e2, wp, wr⟩⟩
      · exact ⟨(false, 0, 0), fun h => absurd h hi⟩
    obtain ⟨L, hL⟩ := Classical.axiomOfChoice each
    have hlen : ((List.range len).map L).length = len := by simp
    refine ⟨some a, (List.range len).map L, cap, by rw [hlen], ⟨by rw [hlen]; exact hl, hm, fun hp => ?_, fun x hx => ?_⟩⟩
    · rw [hlen] at hp
      obtain ⟨g, o, spot⟩ := a
      have hc0 := (hL 0 hp).1
      have hspot : spot = none := by simpa [Addr.add] using World.cell?_spot hc0
      subst hspot
      refine ⟨g, o, rfl, fun j x hj => ?_⟩
      have hjl : j < len := by
        have := (List.getElem?_eq_some_iff.1 hj).1
        omega
      rw [List.getElem?_map, List.getElem?_range hjl] at hj
      obtain rfl : L j = x := by simpa using hj
      obtain ⟨a1, a2, a3, _⟩ := hL j hjl
      rw [Tm.add_plain] at a1 a2 a3
      exact ⟨a1, by rw [Nat.add_assoc]; exact a2, by rw [Nat.add_assoc]; exact a3⟩
    · rw [List.mem_map] at hx
      obtain ⟨i, hi, rfl⟩ := hx
      obtain ⟨_, _, _, w1, w2⟩ := hL i (by simpa using hi)
      have b1 := bounds_i64 w1
      have b2 := bounds_i64 w2
      omega
end
end Go.Proofs.Ytehmpdioofldaaa
