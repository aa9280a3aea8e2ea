import Derived.Test.YtiaehoppdihbdaaAlive9
/- What the statements of layer 9 say of the program's functions, in the words of pRec. -/
set_option linter.unusedVariables false
set_option linter.unusedSimpArgs false
namespace Go.Proofs.Ytiaehoppdihbdaa
open Go.RowKit Go.Tm
set_option maxHeartbeats 400000
set_option maxRecDepth 100000
theorem pRec_in {l : List UInt8} {x : RecD} (h : pRec l = some x) : RecIn x := by
  cases h1 : gN 1 l with
  | none => rw [pRec_no1 h1] at h; cases h
  | some a =>
    obtain ⟨a, m1⟩ := a
    cases h2 : gL m1 with
    | none => rw [pRec_no2 h1 h2] at h; cases h
    | some b =>
      obtain ⟨b, m2⟩ := b
      cases h3 : gL m2 with
      | none => rw [pRec_no3 h1 h2 h3] at h; cases h
      | some c =>
        obtain ⟨c, m3⟩ := c
        rw [pRec_head h1 h2 h3, Option.bind_eq_some_iff] at h
        obtain ⟨⟨y, m⟩, g1, g2⟩ := h
        split at g1
        · have g3 := pTail_in (headZ_in h1 h2 h3) g1
          dsimp only at g2
          split at g2
          · injection g2 with g2
            rw [← g2]
            exact g3
          · cases g2
        · cases g1
theorem parV_in (l : List UInt8) : RecIn (parV l) := by
  cases h : pRec l with
  | none => rw [(par_none h).1]; exact recZ_in
  | some x => rw [(par_some h).1]; exact pRec_in h
/-- What Parse says. -/
theorem parse_says {w : World} {A : Option Addr} {n c : Nat} {l : List UInt8} (h : Rda w A c l) (hn : n = l.length) (hl : l.length ≤ 140737488351232) :
    Calls Try.prog 18 #[.slice A n c] w fun e w' => ∃ q, e = .returned (.tuple #[.agg (recC (parV l) q).toArray, .int .i64 (parE l)]) ∧ Below w.heap.size w w' ∧ RecR w' (parV l) q :=
  (parse_any h hn hl).mono fun e w' ⟨q, h1, h2, h3⟩ => ⟨q, h1, h2, h3.toR (parV_in l)⟩
theorem par_recL {x : RecD} (h : rgtB x = true) : parV (recL x) = x ∧ parE (recL x) = 0 := par_some ((pRec_iff _ _).2 ⟨h, rfl⟩)
theorem rec_yes {x : RecD} (h : rgtB x = true) : recV x = recL x ∧ recE x = 0 := ⟨by unfold recV; rw [if_pos h], by unfold recE; rw [if_pos h]⟩
theorem rec_no {x : RecD} (h : rgtB x = false) : recV x = [] ∧ recE x = 90 := ⟨by unfold recV; rw [h]; rfl, by unfold recE; rw [h]; rfl⟩
theorem recL_le {x : RecD} (h : rgtB x = true) : (recL x).length ≤ 1000 := by
  rw [recL_length h]
  obtain ⟨B1, B2⟩ := right_bounds h
  unfold sizeR
  split
  · omega
  · split
    · have := B1 (.inl (by assumption)); omega
    · split
      · have := B1 (.inr (by assumption)); omega
      · split
        · have := B2 (by assumption); omega
        · omega
/-- A record's cells, spelled out. -/
theorem recR_spell {w : World} {x : RecD} {q : RPl} (h : RecR w x q) : ∃ A1 k1 c1 A2 k2 c2 A3 k3 c3 A4 k4 c4, recC x q = [.int .i64 x.kind, .int .i64 x.birth, .int .i64 x.prev, .int .i64 x.id, .int .i64 x.page, .int .i64 x.frm, .slice A1 k1 c1, .slice A2 k2 c2, .int .i64 x.next, .slice A3 k3 c3, .slice A4 k4 c4] := by
  obtain ⟨⟨A1, c1, e1, r1⟩, ⟨A2, c2, e2, r2⟩, ⟨A3, c3, e3, r3⟩, ⟨A4, c4, e4, r4⟩, _, _⟩ := h
  exact ⟨A1, _, c1, A2, _, c2, A3, _, c3, A4, _, c4, by unfold recC; rw [e1, e2, e3, e4]⟩
end Go.Proofs.Ytiaehoppdihbdaa
