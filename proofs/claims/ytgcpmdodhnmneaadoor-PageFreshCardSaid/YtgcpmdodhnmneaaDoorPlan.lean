import Derived.Test.YtgcpmdodhnmneaaDoorRow
import Derived.Lib.SmallJoins
import Derived.Deep.Strs
/- A plan of layer 4: a struct of three ints and a slice of structs: an int, a bool, and a struct of an int and a uint64. -/
set_option linter.unusedVariables false
set_option linter.unusedSimpArgs false
namespace Go.Tm
open Go.RowKit Go.ChangeShapes Go.WideShapes Go.ChangeAt Go.Deep Go.Joins
structure PlanR (w : World) (A : Option Addr) (c : Nat) (l : List (Int × Bool × Int × Int)) : Prop where
  cap : l.length ≤ c
  max : c ≤ maxLen
  cells : 0 < l.length → ∃ g o, A = some ⟨g, o, none⟩ ∧ ∀ j x, l[j]? = some x → w.cell? ⟨g, o + j * 4, none⟩ = some (.int .i64 x.1) ∧ w.cell? ⟨g, o + j * 4 + 1, none⟩ = some (.bool x.2.1) ∧
    w.cell? ⟨g, o + j * 4 + 2, none⟩ = some (.int .i64 x.2.2.1) ∧ w.cell? ⟨g, o + j * 4 + 3, none⟩ = some (.int .u64 x.2.2.2)
  vals : ∀ x ∈ l, 0 ≤ x.2.2.2 ∧ x.2.2.2 < 18446744073709551616
theorem PlanR.below {w w' : World} {A : Option Addr} {c : Nat} {l : List (Int × Bool × Int × Int)} (h : PlanR w A c l) (hb : Below w.heap.size w w') : PlanR w' A c l :=
  ⟨h.cap, h.max, fun hp => by
    obtain ⟨g, o, e, hc⟩ := h.cells hp
    refine ⟨g, o, e, fun j x hj => ?_⟩
    obtain ⟨a, b, d, f⟩ := hc j x hj
    exact ⟨(hb.cell (p := ⟨g, _, none⟩) (World.block_lt_of_cell? _ _ a)).trans a, (hb.cell (p := ⟨g, _, none⟩) (World.block_lt_of_cell? _ _ b)).trans b, (hb.cell (p := ⟨g, _, none⟩) (World.block_lt_of_cell? _ _ d)).trans d, (hb.cell (p := ⟨g, _, none⟩) (World.block_lt_of_cell? _ _ f)).trans f⟩, h.vals⟩
section
variable {H : Type} {enc : TypeId × Value → H} {P : Program} {w : World} {base : Nat} {spare : Nat → Bool} {held : Bool}
theorem open_planActs {T e : TypeId} {f0 f1 f2 p0 p1 : Field} (hT : P.underlying T = some (.slice e)) (he : P.underlying e = some (.struct #[f0, f1, f2])) (ce : P.cellsOf e = 4)
    (o0 : f0.offset = 0) (o1 : f1.offset = 1) (o2 : f2.offset = 2) (c0 : P.cellsOf f0.type = 1) (c1 : P.cellsOf f1.type = 1) (c2 : P.cellsOf f2.type = 2)
    (t0 : P.underlying f0.type = some (.int .i64)) (t1 : P.underlying f1.type = some .bool) (t2 : P.underlying f2.type = some (.struct #[p0, p1]))
    (q0 : p0.offset = 0) (q1 : p1.offset = 1) (d0 : P.cellsOf p0.type = 1) (d1 : P.cellsOf p1.type = 1) (s0 : P.underlying p0.type = some (.int .i64)) (s1 : P.underlying p1.type = some (.int .u64))
    {fuel : Nat} {v : Value} {x : DataW H × List MemPlace} (h : DataW.trod enc P w base spare held fuel T [v] = some x) :
    ∃ A l c, v = .slice A l.length c ∧ PlanR w A c l := by
  rcases open_slice hT h with ⟨hcs, hx⟩ | ⟨a, len, cap, m, n, D, Pl, hcs, _, hl, hm, hmm, hx, hV⟩
  · obtain rfl : v = .slice none 0 0 := by simpa using hcs
    exact ⟨none, [], 0, rfl, ⟨Nat.le_refl _, by unfold maxLen; omega, fun h => by simp at h, fun x hx => by simp at hx⟩⟩
  · obtain rfl : v = .slice (some a) len cap := by simpa using hcs
    have hlm : len ≤ m := by rw [hmm]; split <;> omega
    have each : ∀ i, ∃ q : Int × Bool × Int × Int, i < len → w.cell? (a.add (i * 4)) = some (.int .i64 q.1) ∧ w.cell? (a.add (i * 4 + 1)) = some (.bool q.2.1) ∧ w.cell? (a.add (i * 4 + 2)) = some (.int .i64 q.2.2.1) ∧ w.cell? (a.add (i * 4 + 3)) = some (.int .u64 q.2.2.2) ∧ (Lit.int .u64 q.2.2.2).wf = true := by
      intro i
      by_cases hi : i < len
      · obtain ⟨cs, h1, h2⟩ := hV i (by omega)
        rw [ce] at h1
        obtain ⟨_, hlen, hcell⟩ := World.cells?_some h1
        obtain ⟨y0, y1, y2, k, _, _, g0, g1, g2⟩ := trod_struct3 he h2
        match cs, hlen with
        | [v0, v1, v2, v3], _ =>
          simp [o0, o1, o2, c0, c1, c2] at g0 g1 g2
          obtain ⟨z0, z1, k2, _, _, r0, r1⟩ := trod_struct2 t2 g2
          simp [q0, q1, d0, d1] at r0 r1
          have e0 := hcell 0 (by omega)
          have e1 := hcell 1 (by omega)
          have e2 := hcell 2 (by omega)
          have e3 := hcell 3 (by omega)
          rw [add_add] at e0 e1 e2 e3
          obtain ⟨p, hp, _, wp⟩ := DataW.trod_int t0 g0
          obtain ⟨b, hb, _⟩ := DataW.trod_bool t1 g1
          obtain ⟨r, hr, _, wr⟩ := DataW.trod_int s0 r0
          obtain ⟨u, hu, _, wu⟩ := DataW.trod_int s1 r1
          obtain rfl : v0 = .int .i64 p := by simpa using hp
          obtain rfl : v1 = .bool b := by simpa using hb
          obtain rfl : v2 = .int .i64 r := by simpa using hr
          obtain rfl : v3 = .int .u64 u := by simpa using hu
          exact ⟨(p, b, r, u), fun _ => ⟨by simpa using e0, by simpa using e1, by simpa using e2, by simpa using e3, wu⟩⟩
      · exact ⟨(0, false, 0, 0), fun h => absurd h hi⟩
    obtain ⟨L, hL⟩ := Classical.axiomOfChoice each
    have hlen : ((List.range len).map L).length = len := by simp
    refine ⟨some a, (List.range len).map L, cap, by rw [hlen], ⟨by rw [hlen]; exact hl, hm, fun hp => ?_, fun x hx => ?_⟩⟩
    · rw [hlen] at hp
      obtain ⟨g, o, spot⟩ := a
      have hc0 := (hL 0 hp).1
      have hspot : spot = none := by simpa [Addr.add] using World.cell?_spot hc0
      subst hspot
      refine ⟨g, o, rfl, fun j x hj => ?_⟩
      have hjl : j < len := by
        have := (List.getElem?_eq_some_iff.1 hj).1
        omega
      rw [List.getElem?_map, List.getElem?_range hjl] at hj
      obtain rfl : L j = x := by simpa using hj
      obtain ⟨a1, a2, a3, a4, _⟩ := hL j hjl
      rw [add_plain] at a1 a2 a3 a4
      exact ⟨a1, by rw [Nat.add_assoc]; exact a2, by rw [Nat.add_assoc]; exact a3, by rw [Nat.add_assoc]; exact a4⟩
    · rw [List.mem_map] at hx
      obtain ⟨i, hi, rfl⟩ := hx
      obtain ⟨_, _, _, _, w2⟩ := hL i (by simpa using hi)
      have b2 := bounds_u64 w2
      omega
end
end Go.Tm

namespace Go.Proofs.YtgcpmdodhnmneaaDoor
open Go.RowKit Go.Tm Go.ChangeShapes Go.WideShapes Go.ChangeAt Go.Deep Go.Joins
set_option maxRecDepth 100000 in
theorem open_plan {H : Type} {enc : TypeId × Value → H} {w : World} {base : Nat} {spare : Nat → Bool} {held : Bool} {r : Reach} {b0 : Nat} {v : Value} {d : DataW H} {p : List MemPlace}
    (hv : Value.okWide Tryd.prog w r b0 43 v) (h : DataW.Trod enc Tryd.prog w base spare held 43 v d p) :
    ∃ num slots lsn A l c, v = .agg #[.int .i64 num, .int .i64 slots, .int .i64 lsn, .slice A l.length c] ∧ PlanR w A c l := by
  obtain ⟨v0, v1, v2, v3, y0, y1, y2, y3, n, rfl, _, _, g0, g1, g2, g3⟩ := open_agg4 Tryd.underlying43 (by kernel_rfl) (by kernel_rfl) hv h
  obtain ⟨a, ha, _, _⟩ := DataW.trod_int Tryd.underlying3 g0
  obtain ⟨b, hb, _, _⟩ := DataW.trod_int Tryd.underlying3 g1
  obtain ⟨e, he, _, _⟩ := DataW.trod_int Tryd.underlying3 g2
  obtain ⟨A, l, c, rfl, hr⟩ := open_planActs Tryd.underlying41 Tryd.underlying95 (by kernel_rfl) rfl rfl rfl (by kernel_rfl) (by kernel_rfl) (by kernel_rfl) Tryd.underlying3 Tryd.underlying4 Tryd.underlying53 rfl rfl (by kernel_rfl) (by kernel_rfl) Tryd.underlying3 Tryd.underlying51 g3
  obtain rfl : v0 = .int .i64 a := by simpa using ha
  obtain rfl : v1 = .int .i64 b := by simpa using hb
  obtain rfl : v2 = .int .i64 e := by simpa using he
  exact ⟨a, b, e, A, l, c, rfl, hr⟩
end Go.Proofs.YtgcpmdodhnmneaaDoor
