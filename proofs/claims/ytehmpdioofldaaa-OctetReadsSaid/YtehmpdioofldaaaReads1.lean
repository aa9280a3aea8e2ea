import Derived.Test.YtehmpdioofldaaaOctRd
import Derived.Test.YtehmpdioofldaaaLaw1
import Derived.Test.YtehmpdioofldaaaPool
import Derived.Deep.RegionHeld3
import Derived.Deep.DrawnRows
/- Two readers beside one another: the program's and the document's; one step of both. -/
set_option linter.unusedVariables false
set_option linter.unusedSimpArgs false
namespace Go.Proofs.Ytehmpdioofldaaa
open Go.RowKit Go.Tm
set_option maxHeartbeats 400000
set_option maxRecDepth 100000
attribute [local go_sem ↓] Go.wp_at_zero Go.wp_at_succ

/-- No byte lies in block g. -/
def NoB (w : World) (g : Nat) : Prop := ∀ (j : Nat) (n : Int), w.cell? ⟨g, j, none⟩ ≠ some (.int .u8 n)
theorem isR_noB {w : World} {r : Nat} {T : TypeId} {l : List UInt8} (h : IsR w r T l) : NoB w r := by
  obtain ⟨A, c, hb, _⟩ := h.is
  intro j n hc
  unfold World.cell? at hc
  rw [hb] at hc
  match j, hc with
  | 0, hc => simp at hc
  | j + 1, hc => simp at hc
theorem isRR_noB {w : World} {r : Nat} {T : TypeId} {l : List UInt8} (h : IsRR w r T l) : NoB w r := by
  obtain ⟨A, c, full, k, hb, _⟩ := h.is
  intro j n hc
  unfold World.cell? at hc
  rw [hb] at hc
  match j, hc with
  | 0, hc => simp at hc
  | 1, hc => simp at hc
  | j + 2, hc => simp at hc
theorem rda_but {w w' : World} {S : Nat → Prop} (hk : KeptBut S w w') {A : Option Addr} {c : Nat} {l : List UInt8} (h : Rda w A c l) (hS : ∀ g, S g → NoB w g) : Rda w' A c l :=
  ⟨h.cap, h.max, h.nil, fun h0 => by
    obtain ⟨g, o, e, hc⟩ := h.cells h0
    exact ⟨g, o, e, fun j hj => hk.cell (hc j hj) (fun hs => hS g hs _ _ (hc j hj))⟩⟩
theorem isR_but {w w' : World} {S : Nat → Prop} (hk : KeptBut S w w') {r : Nat} {T : TypeId} {l : List UInt8} (h : IsR w r T l) (hr : ¬ S r) (hS : ∀ g, S g → NoB w g) : IsR w' r T l := by
  obtain ⟨A, c, hb, hA⟩ := h.is
  exact ⟨A, c, (hk.block r (Array.getElem?_eq_some_iff.1 hb).1 hr).trans hb, rda_but hk hA hS⟩
theorem isRR_but {w w' : World} {S : Nat → Prop} (hk : KeptBut S w w') {r : Nat} {T : TypeId} {l : List UInt8} (h : IsRR w r T l) (hr : ¬ S r) (hS : ∀ g, S g → NoB w g) : IsRR w' r T l := by
  obtain ⟨A, c, full, k, hb, hA, h3⟩ := h.is
  exact ⟨A, c, full, k, (hk.block r (Array.getElem?_eq_some_iff.1 hb).1 hr).trans hb, rda_but hk hA hS, h3⟩
theorem one_grown {w w' : World} {p : Nat} (hg : w.grownBy w' (some p)) : KeptBut (fun g => g = p) w w' := (KeptBut.refl _ _).grown hg (fun k e => .inl (by injection e with e; exact e.symm))

/-- Both readers have the same bytes left. -/
structure Duo (w : World) (p r : Nat) (l : List UInt8) : Prop where
  P : IsR w p 57 l
  R : IsRR w r 59 l
theorem Duo.below {w w' : World} {p r : Nat} {l : List UInt8} (h : Duo w p r l) (hb : Below w.heap.size w w') : Duo w' p r l := ⟨h.P.below hb, h.R.below hb⟩
theorem Duo.but {w w' : World} {p r q s : Nat} {l k : List UInt8} (h : Duo w p r l) (h2 : Duo w q s k) (hk : KeptBut (fun g => g = q ∨ g = s) w w') (h1 : p ≠ q) (h3 : p ≠ s) (h4 : r ≠ q) (h5 : r ≠ s) : Duo w' p r l := by
  have hS : ∀ g, (g = q ∨ g = s) → NoB w g := by
    rintro g (rfl | rfl)
    · exact isR_noB h2.P
    · exact isRR_noB h2.R
  exact ⟨isR_but hk h.P (by simp [h1, h3]) hS, isRR_but hk h.R (by simp [h4, h5]) hS⟩
/-- One behind the other: the program's reader takes, then the document's. -/
theorem duo_both {w w1 w2 : World} {p r : Nat} {l l' : List UInt8} (h : Duo w p r l) (hne : p ≠ r) (h1 : IsR w1 p 57 l') (g1 : w.grownBy w1 (some p)) : IsRR w1 r 59 l :=
  isRR_but (one_grown g1) h.R (fun e => hne e.symm) (by rintro g rfl; exact isR_noB h.P)
theorem duo_end {w w1 w2 : World} {p r : Nat} {l l' : List UInt8} (h : Duo w p r l) (hne : p ≠ r) (h1 : IsR w1 p 57 l') (g1 : w.grownBy w1 (some p)) (h2 : IsRR w2 r 59 l') (g2 : w1.grownBy w2 (some r)) :
    Duo w2 p r l' ∧ KeptBut (fun g => g = p ∨ g = r) w w2 := by
  have hr1 := duo_both (w2 := w2) h hne h1 g1
  refine ⟨⟨isR_but (one_grown g2) h1 hne (by rintro g rfl; exact isRR_noB hr1), h2⟩, ?_⟩
  exact ((KeptBut.refl _ _).grown g1 (fun k e => .inl (.inl (by injection e with e; exact e.symm)))).grown g2 (fun k e => .inl (.inr (by injection e with e; exact e.symm)))
theorem numL_le (n : Int) (l : List UInt8) : (numL n l).length ≤ l.length := by unfold numL; split <;> simp
theorem intL_le (l : List UInt8) : (intL l).length ≤ l.length := by unfold intL; split <;> simp
theorem rowL_le (n : Int) (l : List UInt8) : (rowL n l).length ≤ l.length := by unfold rowL; split <;> simp

set_option maxHeartbeats 1600000 in
theorem step_any {w : World} {p r : Nat} {l : List UInt8} (h : Duo w p r l) (hne : p ≠ r) (hl : l.length ≤ 140737488355328) (sec : Bool) (kind n : Int) (hn : n ≤ 9223372036854775807) :
    Calls Try.prog 11 #[.agg #[.pointer (some ⟨p, 0, none⟩), .pointer (some ⟨r, 0, none⟩)], .agg #[.bool sec, .int .i64 kind, .int .i64 n]] w fun e w' => e = .returned (.bool true) ∧
      ∃ l', l'.length ≤ l.length ∧ Duo w' p r l' ∧ KeptBut (fun g => g = p ∨ g = r) w w' := by
  have hbW : Below w.heap.size w ((w.alloc (.cells #[.pointer (some ⟨p, 0, none⟩), .pointer (some ⟨r, 0, none⟩)] 37)).alloc (.cells #[.bool sec, .int .i64 kind, .int .i64 n] 39)) := ((Below.refl _ _).alloc (Nat.le_refl _) _).alloc (by simp) _
  have hp : (((w.alloc (.cells #[.pointer (some ⟨p, 0, none⟩), .pointer (some ⟨r, 0, none⟩)] 37)).alloc (.cells #[.bool sec, .int .i64 kind, .int .i64 n] 39))).heap[w.heap.size]? = some (.cells #[.pointer (some ⟨p, 0, none⟩), .pointer (some ⟨r, 0, none⟩)] 37 (0, 0)) := by
    rw [Below.heap_alloc _ _ _ (by simp), heap_alloc_new]
  have hs : (((w.alloc (.cells #[.pointer (some ⟨p, 0, none⟩), .pointer (some ⟨r, 0, none⟩)] 37)).alloc (.cells #[.bool sec, .int .i64 kind, .int .i64 n] 39))).heap[w.heap.size + 1]? = some (.cells #[.bool sec, .int .i64 kind, .int .i64 n] 39 (0, 0)) := by
    have := heap_alloc_new (w.alloc (.cells #[.pointer (some ⟨p, 0, none⟩), .pointer (some ⟨r, 0, none⟩)] 37)) (.cells #[.bool sec, .int .i64 kind, .int .i64 n] 39)
    simpa using this
  have cellOf : ∀ {V : World} {g : Nat} {cs : List Value} {T : TypeId}, V.heap[g]? = some (.cells cs.toArray T (0, 0)) → ∀ {j : Nat} {v : Value}, cs[j]? = some v → V.cell? ⟨g, j, none⟩ = some v := by
    intro V g cs T hb j v hj
    simp [World.cell?, hb, hj]
  have hD := h.below hbW
  have hplt := h.P.lt
  have hrlt := h.R.lt
  have hkW : KeptBut (fun g => g = p ∨ g = r) w ((w.alloc (.cells #[.pointer (some ⟨p, 0, none⟩), .pointer (some ⟨r, 0, none⟩)] 37)).alloc (.cells #[.bool sec, .int .i64 kind, .int .i64 n] 39)) := (KeptBut.refl _ _).below hbW
  have keepP : ∀ {V : World}, KeptBut (fun g => g = p ∨ g = r) ((w.alloc (.cells #[.pointer (some ⟨p, 0, none⟩), .pointer (some ⟨r, 0, none⟩)] 37)).alloc (.cells #[.bool sec, .int .i64 kind, .int .i64 n] 39)) V → V.heap[w.heap.size]? = some (.cells #[.pointer (some ⟨p, 0, none⟩), .pointer (some ⟨r, 0, none⟩)] 37 (0, 0)) ∧ V.heap[w.heap.size + 1]? = some (.cells #[.bool sec, .int .i64 kind, .int .i64 n] 39 (0, 0)) := fun hk =>
    ⟨(hk.block _ (Array.getElem?_eq_some_iff.1 hp).1 (by simp; omega)).trans hp, (hk.block _ (Array.getElem?_eq_some_iff.1 hs).1 (by simp; omega)).trans hs⟩
  have hkT : ∀ {V : World}, KeptBut (fun g => g = p ∨ g = r) ((w.alloc (.cells #[.pointer (some ⟨p, 0, none⟩), .pointer (some ⟨r, 0, none⟩)] 37)).alloc (.cells #[.bool sec, .int .i64 kind, .int .i64 n] 39)) V → KeptBut (fun g => g = p ∨ g = r) w V := fun hk =>
    ⟨hk.os.trans hkW.os, hk.tape.trans hkW.tape, hk.output.trans hkW.output, Nat.le_trans hkW.size hk.size, fun g hg hS => (hk.block g (Nat.lt_of_lt_of_le hg hkW.size) hS).trans (hkW.block g hg hS)⟩
  have z0 := cellOf (cs := [.pointer (some ⟨p, 0, none⟩), .pointer (some ⟨r, 0, none⟩)]) hp (j := 0) rfl
  have z1 := cellOf (cs := [.pointer (some ⟨p, 0, none⟩), .pointer (some ⟨r, 0, none⟩)]) hp (j := 1) rfl
  have y1 := cellOf (cs := [.bool sec, .int .i64 kind, .int .i64 n]) hs (j := 1) rfl
  have y2 := cellOf (cs := [.bool sec, .int .i64 kind, .int .i64 n]) hs (j := 2) rfl
  by_cases k0 : kind = 0
  · subst k0
    have HN := Lib.hid (number_any hD.P n hl)
    go_enter Try.func11, Try.ntmps11
    go_wp2_with fail
    refine HN.out.mono ?_
    rintro e w1 ⟨rfl, g1, h1⟩
    have hR1 := duo_both (w2 := w1) hD hne h1 g1
    obtain ⟨q1, q2⟩ := keepP ((one_grown g1).mono (fun g hg => .inl hg))
    have a1 := cellOf (cs := [.pointer (some ⟨p, 0, none⟩), .pointer (some ⟨r, 0, none⟩)]) q1 (j := 1) rfl
    have a2 := cellOf (cs := [.bool sec, .int .i64 0, .int .i64 n]) q2 (j := 2) rfl
    have HN2 := Lib.hid (refNumber_any hR1 n)
    clear z0 z1 y1 y2
    go_wp2_with fail
    refine HN2.out.mono ?_
    rintro e w2 ⟨rfl, g2, h2⟩
    obtain ⟨d1, d2⟩ := duo_end hD hne h1 g1 h2 g2
    have D1 := Lib.hid d1
    have D2 := Lib.hid (hkT d2)
    clear d1 d2 h1 h2 g1 g2 hR1 q1 q2 a1 a2 hp hs
    go_wp2_with fail
    go_ret
    exact ⟨by simp, _, numL_le n l, D1.out, D2.out⟩
  by_cases k1 : kind = 1
  · subst k1
    have HN := Lib.hid (int_any hD.P)
    go_enter Try.func11, Try.ntmps11
    go_wp2_with fail
    refine HN.out.mono ?_
    rintro e w1 ⟨rfl, g1, h1⟩
    have hR1 := duo_both (w2 := w1) hD hne h1 g1
    obtain ⟨q1, q2⟩ := keepP ((one_grown g1).mono (fun g hg => .inl hg))
    have a1 := cellOf (cs := [.pointer (some ⟨p, 0, none⟩), .pointer (some ⟨r, 0, none⟩)]) q1 (j := 1) rfl
    have HN2 := Lib.hid (refInt_any hR1)
    clear z0 z1 y1 y2
    go_wp2_with fail
    refine HN2.out.mono ?_
    rintro e w2 ⟨rfl, g2, h2⟩
    obtain ⟨d1, d2⟩ := duo_end hD hne h1 g1 h2 g2
    have D1 := Lib.hid d1
    have D2 := Lib.hid (hkT d2)
    clear d1 d2 h1 h2 g1 g2 hR1 q1 q2 a1 hp hs
    go_wp2_with fail
    go_ret
    exact ⟨by simp, _, intL_le l, D1.out, D2.out⟩
  by_cases k2 : kind = 2
  · subst k2
    have HN := Lib.hid (row_any hD.P n hl hn)
    go_enter Try.func11, Try.ntmps11
    go_wp2_with fail
    refine HN.out.mono ?_
    rintro e w1 ⟨A1, c1, rfl, hN1, h1⟩
    have g1 := hN1.grown
    have hR1 := duo_both (w2 := w1) hD hne h1 g1
    obtain ⟨q1, q2⟩ := keepP ((one_grown g1).mono (fun g hg => .inl hg))
    have a1 := cellOf (cs := [.pointer (some ⟨p, 0, none⟩), .pointer (some ⟨r, 0, none⟩)]) q1 (j := 1) rfl
    have a2 := cellOf (cs := [.bool sec, .int .i64 2, .int .i64 n]) q2 (j := 2) rfl
    have HN2 := Lib.hid (refRow_any hR1 n hn)
    clear z0 z1 y1 y2
    go_wp2_with fail
    refine HN2.out.mono ?_
    rintro e w2 ⟨A2, c2, rfl, hN2, h2⟩
    have g2 := hN2.grown
    have ra := rda_but (one_grown g2) hN1.rda (by rintro g rfl; exact isRR_noB hR1)
    have PS := same_yes ra hN2.rda rfl rfl rfl
    obtain ⟨d1, d2⟩ := duo_end hD hne h1 g1 h2 g2
    have D1 := Lib.hid d1
    have D2 := Lib.hid (hkT d2)
    have HPS := Lib.hid PS
    clear d1 d2 h1 h2 g1 g2 hR1 q1 q2 a1 a2 hp hs ra PS hN1 hN2
    go_wp2_with fail
    refine HPS.out.mono ?_
    rintro e w3 ⟨rfl, hb3⟩
    go_wp2_with fail
    go_ret
    exact ⟨by simp, _, rowL_le n l, D1.out.below hb3, D2.out.below hb3⟩
  by_cases k3 : kind = 3
  · subst k3
    have hbw := (Below.refl ((w.alloc (.cells #[.pointer (some ⟨p, 0, none⟩), .pointer (some ⟨r, 0, none⟩)] 37)).alloc (.cells #[.bool sec, .int .i64 3, .int .i64 n] 39)).heap.size ((w.alloc (.cells #[.pointer (some ⟨p, 0, none⟩), .pointer (some ⟨r, 0, none⟩)] 37)).alloc (.cells #[.bool sec, .int .i64 3, .int .i64 n] 39))).drew
    have hDd := hD.below hbw
    go_enter Try.func11, Try.ntmps11
    go_wp2_with fail
    go_region_held3 (fun w' => w'.cell? ⟨w.heap.size, 0, none⟩ = some (.pointer (some ⟨p, 0, none⟩)) ∧ w'.cell? ⟨w.heap.size, 1, none⟩ = some (.pointer (some ⟨r, 0, none⟩))) (first | go_keep | exact ⟨z0, z1⟩ | exact ⟨hs1, hs2⟩)
      (first
        | (go_at_call 12; refine (left_any (l := l) (by first | exact hDd.P | exact hD1.P)).mono ?_; rintro e wz ⟨rfl, rfl⟩)
        | (go_at_call 13; refine (refLeft_any hDd.R).mono ?_; rintro e w1 ⟨rfl, hb1⟩; have hb1' := below_then hbw hb1; have hD1 := hD.below hb1'; have hs1 := (hb1'.cell (p := ⟨w.heap.size, 0, none⟩) (World.block_lt_of_cell? _ _ z0)).trans z0; have hs2 := (hb1'.cell (p := ⟨w.heap.size, 1, none⟩) (World.block_lt_of_cell? _ _ z1)).trans z1))
    have D1 := Lib.hid hD1
    have D2 := Lib.hid (hkW.below hb1')
    clear hD1 hb1 hb1' hs1 hs2 hDd hbw hp hs z0 z1 y1 y2
    go_wp2_with fail
    go_ret
    exact ⟨rfl, l, Nat.le_refl _, D1.out, D2.out⟩
  by_cases k4 : kind = 4
  · subst k4
    have hbw := (Below.refl ((w.alloc (.cells #[.pointer (some ⟨p, 0, none⟩), .pointer (some ⟨r, 0, none⟩)] 37)).alloc (.cells #[.bool sec, .int .i64 4, .int .i64 n] 39)).heap.size ((w.alloc (.cells #[.pointer (some ⟨p, 0, none⟩), .pointer (some ⟨r, 0, none⟩)] 37)).alloc (.cells #[.bool sec, .int .i64 4, .int .i64 n] 39))).drew
    have hDd := hD.below hbw
    go_enter Try.func11, Try.ntmps11
    go_wp2_with fail
    go_region_held3 (fun w' => w'.cell? ⟨w.heap.size, 0, none⟩ = some (.pointer (some ⟨p, 0, none⟩)) ∧ w'.cell? ⟨w.heap.size, 1, none⟩ = some (.pointer (some ⟨r, 0, none⟩))) (first | go_keep | exact ⟨z0, z1⟩ | exact ⟨hs1, hs2⟩)
      (first
        | (go_at_call 26; refine (end_any (l := l) (by first | exact hDd.P | exact hD1.P)).mono ?_; rintro e wz ⟨rfl, rfl⟩)
        | (go_at_call 27; refine (refEnd_any hDd.R).mono ?_; rintro e w1 ⟨rfl, hb1⟩; have hb1' := below_then hbw hb1; have hD1 := hD.below hb1'; have hs1 := (hb1'.cell (p := ⟨w.heap.size, 0, none⟩) (World.block_lt_of_cell? _ _ z0)).trans z0; have hs2 := (hb1'.cell (p := ⟨w.heap.size, 1, none⟩) (World.block_lt_of_cell? _ _ z1)).trans z1))
    have D1 := Lib.hid hD1
    have D2 := Lib.hid (hkW.below hb1')
    clear hD1 hb1 hb1' hs1 hs2 hDd hbw hp hs z0 z1 y1 y2
    go_wp2_with fail
    go_ret
    exact ⟨rfl, l, Nat.le_refl _, D1.out, D2.out⟩
  · have b0 : (kind == 0) = false := beq_eq_false_iff_ne.2 k0
    have b1 : (kind == 1) = false := beq_eq_false_iff_ne.2 k1
    have b2 : (kind == 2) = false := beq_eq_false_iff_ne.2 k2
    have b3 : (kind == 3) = false := beq_eq_false_iff_ne.2 k3
    have b4 : (kind == 4) = false := beq_eq_false_iff_ne.2 k4
    have D1 := Lib.hid hD
    have D2 := Lib.hid hkW
    clear hD hkW hp hs
    go_enter Try.func11, Try.ntmps11
    go_wp2_with fail
    go_ret
    exact ⟨rfl, l, Nat.le_refl _, D1.out, D2.out⟩
end Go.Proofs.Ytehmpdioofldaaa
