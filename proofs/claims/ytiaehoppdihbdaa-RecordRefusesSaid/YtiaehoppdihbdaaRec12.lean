import Derived.Test.YtiaehoppdihbdaaRec11
/- The contracts of package record: Size. -/
set_option linter.unusedVariables false
set_option linter.unusedSimpArgs false
namespace Go.Proofs.Ytiaehoppdihbdaa
open Go.RowKit Go.Tm
set_option maxHeartbeats 400000
set_option maxRecDepth 100000
attribute [local go_sem ↓] Go.wp_at_zero Go.wp_at_succ

/-- A record's cells, spelled out. -/
theorem recR_cells {w : World} {x : RecD} {q : RPl} (h : RecR w x q) : recC x q = [.int .i64 x.kind, .int .i64 x.birth, .int .i64 x.prev, .int .i64 x.id, .int .i64 x.page, .int .i64 x.frm, q.vb, q.va, .int .i64 x.next, q.vr, q.vd] := rfl

set_option maxHeartbeats 4000000 in
theorem size_any {w : World} {x : RecD} {q : RPl} (h : RecR w x q) {cs : Array Value} (hcs : cs = (recC x q).toArray) :
    Calls Try.prog 14 #[.agg cs] w fun e w' => e = .returned (.int .i64 ((recV x).length : Int)) ∧ Below w.heap.size w w' := by
  have PB := fun W (hb : Below w.heap.size w W) => bytes_any (h.below hb) hcs
  obtain ⟨⟨A1, c1, e1, r1⟩, ⟨A2, c2, e2, r2⟩, ⟨A3, c3, e3, r3⟩, ⟨A4, c4, e4, r4⟩, _, n1, n2, n3, n4⟩ := h
  obtain ⟨kind, birth, prev, id, page, frm, before, after, next, rows, dirty⟩ := x
  dsimp only at e1 e2 e3 e4 r1 r2 r3 r4 n1 n2 n3 n4
  obtain ⟨k1, hk1⟩ : ∃ k, before.length = k := ⟨_, rfl⟩
  obtain ⟨k2, hk2⟩ : ∃ k, after.length = k := ⟨_, rfl⟩
  obtain ⟨k3, hk3⟩ : ∃ k, rows.length = k := ⟨_, rfl⟩
  obtain ⟨k4, hk4⟩ : ∃ k, dirty.length = k := ⟨_, rfl⟩
  have hcs2 : cs = #[.int .i64 kind, .int .i64 birth, .int .i64 prev, .int .i64 id, .int .i64 page, .int .i64 frm, .slice A1 k1 c1, .slice A2 k2 c2, .int .i64 next, .slice A3 k3 c3, .slice A4 k4 c4] := by rw [hcs]; unfold recC; rw [e1, e2, e3, e4, hk1, hk2, hk3, hk4]
  subst hcs2
  have HPB := Lib.hid PB
  have HB0 := Lib.hid ((Below.refl w.heap.size w).alloc (Nat.le_refl _) (.cells #[.int .i64 kind, .int .i64 birth, .int .i64 prev, .int .i64 id, .int .i64 page, .int .i64 frm, .slice A1 k1 c1, .slice A2 k2 c2, .int .i64 next, .slice A3 k3 c3, .slice A4 k4 c4] 26))
  obtain ⟨V, hV⟩ : ∃ V, recV ⟨kind, birth, prev, id, page, frm, before, after, next, rows, dirty⟩ = V := ⟨_, rfl⟩
  obtain ⟨E, hE⟩ : ∃ V, recE ⟨kind, birth, prev, id, page, frm, before, after, next, rows, dirty⟩ = V := ⟨_, rfl⟩
  rw [hV]
  have HV := Lib.hid hV
  have HE := Lib.hid hE
  clear PB hcs e1 e2 e3 e4 r1 r2 r3 r4 n1 n2 n3 n4 hk1 hk2 hk3 hk4 hV hE
  go_enter Try.func14, Try.ntmps14
  go_wp2_with fail
  refine (HPB.out _ HB0.out).mono ?_
  rintro e w1 ⟨A, c, rfl, hN⟩
  rw [HV.out, HE.out]
  rw [HV.out] at hN
  have HN := Lib.hid (below_then HB0.out hN.below)
  clear hN
  go_wp2_with fail
  go_ret
  exact ⟨rfl, HN.out⟩
end Go.Proofs.Ytiaehoppdihbdaa
