import Derived.Test.YtgcpmdodhnmneabRow
import Derived.Deep.Strs
/- A script of layer 5: a slice of structs of three fields: a bool, an int, a uint64. -/
set_option linter.unusedVariables false
set_option linter.unusedSimpArgs false
namespace Go.Tm
open Go.RowKit Go.ChangeShapes Go.WideShapes Go.ChangeAt Go.Deep
structure ActsR (w : World) (A : Option Addr) (c : Nat) (l : List (Bool × Int × Int)) : Prop where
  cap : l.length ≤ c
  max : c ≤ maxLen
  cells : 0 < l.length → ∃ g o, A = some ⟨g, o, none⟩ ∧ ∀ j x, l[j]? = some x → w.cell? ⟨g, o + j * 3, none⟩ = some (.bool x.1) ∧ w.cell? ⟨g, o + j * 3 + 1, none⟩ = some (.int .i64 x.2.1) ∧ w.cell? ⟨g, o + j * 3 + 2, none⟩ = some (.int .u64 x.2.2)
  vals : ∀ x ∈ l, 0 ≤ x.2.2 ∧ x.2.2 < 18446744073709551616 ∧ -9223372036854775808 ≤ x.2.1 ∧ x.2.1 ≤ 9223372036854775807
theorem ActsR.below {w w' : World} {A : Option Addr} {c : Nat} {l : List (Bool × Int × Int)} (h : ActsR w A c l) (hb : Below w.heap.size w w') : ActsR w' A c l :=
  ⟨h.cap, h.max, fun hp => by
    obtain ⟨g, o, e, hc⟩ := h.cells hp
    refine ⟨g, o, e, fun j x hj => ?_⟩
    obtain ⟨a, b, d⟩ := hc j x hj
    exact ⟨(hb.cell (p := ⟨g, _, none⟩) (World.block_lt_of_cell? _ _ a)).trans a, (hb.cell (p := ⟨g, _, none⟩) (World.block_lt_of_cell? _ _ b)).trans b, (hb.cell (p := ⟨g, _, none⟩) (World.block_lt_of_cell? _ _ d)).trans d⟩, h.vals⟩
section
variable {H : Type} {enc : TypeId × Value → H} {P : Program} {w : World} {base : Nat} {spare : Nat → Bool} {held : Bool}
theorem open_acts {T e : TypeId} {f0 f1 f2 : Field} (hT : P.underlying T = some (.slice e)) (he : P.underlying e = some (.struct #[f0, f1, f2])) (ce : P.cellsOf e = 3)
    (o0 : f0.offset = 0) (o1 : f1.offset = 1) (o2 : f2.offset = 2) (c0 : P.cellsOf f0.type = 1) (c1 : P.cellsOf f1.type = 1) (c2 : P.cellsOf f2.type = 1)
    (t0 : P.underlying f0.type = some .bool) (t1 : P.underlying f1.type = some (.int .i64)) (t2 : P.underlying f2.type = some (.int .u64))
    {fuel : Nat} {v : Value} {x : DataW H × List MemPlace} (h : DataW.trod enc P w base spare held fuel T [v] = some x) :
    ∃ A l c, v = .slice A l.length c ∧ ActsR w A c l := by
  rcases open_slice hT h with ⟨hcs, hx⟩ | ⟨a, len, cap, m, n, D, Pl, hcs, _, hl, hm, hmm, hx, hV⟩
  · obtain rfl : v = .slice none 0 0 := by simpa using hcs
    exact ⟨none, [], 0, rfl, ⟨Nat.le_refl _, by unfold maxLen; omega, fun h => by simp at h, fun x hx => by simp at hx⟩⟩
  · obtain rfl : v = .slice (some a) len cap := by simpa using hcs
    have hlm : len ≤ m := by rw [hmm]; split <;> omega
    have each : ∀ i, ∃ q : Bool × Int × Int, i < len → w.cell? (a.add (i * 3)) = some (.bool q.1) ∧ w.cell? (a.add (i * 3 + 1)) = some (.int .i64 q.2.1) ∧ w.cell? (a.add (i * 3 + 2)) = some (.int .u64 q.2.2) ∧ (Lit.int .i64 q.2.1).wf = true ∧ (Lit.int .u64 q.2.2).wf = true := by
      intro i
      by_cases hi : i < len
      · obtain ⟨cs, h1, h2⟩ := hV i (by omega)
        rw [ce] at h1
        obtain ⟨_, hlen, hcell⟩ := World.cells?_some h1
        obtain ⟨y0, y1, y2, k, _, _, g0, g1, g2⟩ := trod_struct3 he h2
        match cs, hlen with
        | [v0, v1, v2], _ =>
          simp [o0, o1, o2, c0, c1, c2] at g0 g1 g2
          have e0 := hcell 0 (by omega)
          have e1 := hcell 1 (by omega)
          have e2 := hcell 2 (by omega)
          rw [add_add] at e0 e1 e2
          obtain ⟨b, hb, _⟩ := DataW.trod_bool t0 g0
          obtain ⟨p, hp, _, wp⟩ := DataW.trod_int t1 g1
          obtain ⟨r, hr, _, wr⟩ := DataW.trod_int t2 g2
          obtain rfl : v0 = .bool b := by simpa using hb
          obtain rfl : v1 = .int .i64 p := by simpa using hp
          obtain rfl : v2 = .int .u64 r := by simpa using hr
          exact ⟨(b, p, r), fun _ => ⟨by simpa using e0, by simpa using e1, by simpa using e2, wp, wr⟩⟩
      · exact ⟨(false, 0, 0), fun h => absurd h hi⟩
    obtain ⟨L, hL⟩ := Classical.axiomOfChoice each
    have hlen : ((List.range len).map L).length = len := by simp
    refine ⟨some a, (List.range len).map L, cap, by rw [hlen], ⟨by rw [hlen]; exact hl, hm, fun hp => ?_, fun x hx => ?_⟩⟩
    · rw [hlen] at hp
      obtain ⟨g, o, spot⟩ := a
      have hc0 := (hL 0 hp).1
      have hspot : spot = none := by simpa [Addr.add] using World.cell?_spot hc0
      subst hspot
      refine ⟨g, o, rfl, fun j x hj => ?_⟩
      have hjl : j < len := by
        have := (List.getElem?_eq_some_iff.1 hj).1
        omega
      rw [List.getElem?_map, List.getElem?_range hjl] at hj
      obtain rfl : L j = x := by simpa using hj
      obtain ⟨a1, a2, a3, _⟩ := hL j hjl
      rw [add_plain] at a1 a2 a3
      exact ⟨a1, by rw [Nat.add_assoc]; exact a2, by rw [Nat.add_assoc]; exact a3⟩
    · rw [List.mem_map] at hx
      obtain ⟨i, hi, rfl⟩ := hx
      obtain ⟨_, _, _, w1, w2⟩ := hL i (by simpa using hi)
      have b1 := bounds_i64 w1
      have b2 := bounds_u64 w2
      omega
end
end Go.Tm
