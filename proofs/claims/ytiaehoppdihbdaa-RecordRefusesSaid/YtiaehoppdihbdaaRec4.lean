import Derived.Test.YtiaehoppdihbdaaRec3
/- The contracts of package record: a checkpoint's lists. -/
set_option linter.unusedVariables false
set_option linter.unusedSimpArgs false
namespace Go.Proofs.Ytiaehoppdihbdaa
open Go.RowKit Go.Tm
set_option maxHeartbeats 400000
set_option maxRecDepth 100000

abbrev rRow9 : Rdr Row9 := rThen 1 rInt (rThen 1 rInt (rThen 1 rInt (rThen 1 rInt rInt)))
abbrev rDirt : Rdr (Int × Int) := rThen 1 rInt rInt
theorem keeps_row9 : Keeps rRow9 := keeps_then keeps_int (keeps_then keeps_int (keeps_then keeps_int (keeps_then keeps_int keeps_int)))
theorem keeps_dirt : Keeps rDirt := keeps_then keeps_int keeps_int
theorem take1 {cs : List Value} {v : Value} (h : cs.take 1 = [v]) : cs = v :: cs.drop 1 := by rw [← List.take_append_drop 1 cs, h]; simp
def In64 (n : Int) : Prop := -9223372036854775808 ≤ n ∧ n ≤ 9223372036854775807
theorem rRow9_is {w : World} {cs : List Value} {x : Row9} (h : rRow9 w cs x) : cs = [.int .i64 x.1, .int .i64 x.2.1, .int .i64 x.2.2.1, .int .i64 x.2.2.2.1, .int .i64 x.2.2.2.2] ∧ In64 x.1 ∧ In64 x.2.1 ∧ In64 x.2.2.1 ∧ In64 x.2.2.2.1 ∧ In64 x.2.2.2.2 := by
  obtain ⟨⟨e1, b1⟩, ⟨e2, b2⟩, ⟨e3, b3⟩, ⟨e4, b4⟩, e5, b5⟩ := h
  refine ⟨?_, b1, b2, b3, b4, b5⟩
  rw [take1 e1, take1 e2, take1 e3, take1 e4, e5]
theorem rDirt_is {w : World} {cs : List Value} {x : Int × Int} (h : rDirt w cs x) : cs = [.int .i64 x.1, .int .i64 x.2] ∧ In64 x.1 ∧ In64 x.2 := by
  obtain ⟨⟨e1, b1⟩, e2, b2⟩ := h
  refine ⟨?_, b1, b2⟩
  rw [take1 e1, e2]
structure Row9At (w : World) (g p : Nat) (x : Row9) : Prop where
  c0 : w.cell? ⟨g, p, none⟩ = some (.int .i64 x.1)
  c1 : w.cell? ⟨g, p + 1, none⟩ = some (.int .i64 x.2.1)
  c2 : w.cell? ⟨g, p + 2, none⟩ = some (.int .i64 x.2.2.1)
  c3 : w.cell? ⟨g, p + 3, none⟩ = some (.int .i64 x.2.2.2.1)
  c4 : w.cell? ⟨g, p + 4, none⟩ = some (.int .i64 x.2.2.2.2)
  b : In64 x.1 ∧ In64 x.2.1 ∧ In64 x.2.2.1 ∧ In64 x.2.2.2.1 ∧ In64 x.2.2.2.2
theorem row9_at {w : World} {A : Option Addr} {c : Nat} {l : List Row9} (h : RdS 5 rRow9 w A c l) {k : Nat} {x : Row9} (hx : l[k]? = some x) : ∃ g o, A = some ⟨g, o, none⟩ ∧ Row9At w g (o + k * 5) x := by
  have hk := (List.getElem?_eq_some_iff.1 hx).1
  obtain ⟨g, o, e, hc⟩ := h.cells (by omega)
  obtain ⟨cs, h1, h2, h3⟩ := hc k x hx
  obtain ⟨hcs, hb⟩ := rRow9_is h3
  subst hcs
  exact ⟨g, o, e, by simpa using h2 0 _ rfl, h2 1 _ rfl, h2 2 _ rfl, h2 3 _ rfl, h2 4 _ rfl, hb⟩
structure DirtAt (w : World) (g p : Nat) (x : Int × Int) : Prop where
  c0 : w.cell? ⟨g, p, none⟩ = some (.int .i64 x.1)
  c1 : w.cell? ⟨g, p + 1, none⟩ = some (.int .i64 x.2)
  b : In64 x.1 ∧ In64 x.2
theorem dirt_at {w : World} {A : Option Addr} {c : Nat} {l : List (Int × Int)} (h : RdS 2 rDirt w A c l) {k : Nat} {x : Int × Int} (hx : l[k]? = some x) : ∃ g o, A = some ⟨g, o, none⟩ ∧ DirtAt w g (o + k * 2) x := by
  have hk := (List.getElem?_eq_some_iff.1 hx).1
  obtain ⟨g, o, e, hc⟩ := h.cells (by omega)
  obtain ⟨cs, h1, h2, h3⟩ := hc k x hx
  obtain ⟨hcs, hb⟩ := rDirt_is h3
  subst hcs
  exact ⟨g, o, e, by simpa using h2 0 _ rfl, h2 1 _ rfl, hb⟩
theorem drop_cons {α : Type} {l : List α} {k : Nat} {x : α} (h : l[k]? = some x) : l.drop k = x :: l.drop (k + 1) := by
  have hk := (List.getElem?_eq_some_iff.1 h)
  rw [List.drop_eq_getElem_cons hk.1, hk.2]
theorem retB {a b : Bool} (h : a = b) : Ending.returned (.bool a) = .returned (.bool b) := by rw [h]

set_option maxHeartbeats 4000000 in
theorem recRows_any {w : World} {A : Option Addr} {n c : Nat} {l : List Row9} (h : RdS 5 rRow9 w A c l) (hn : n = l.length) (hl : l.length ≤ 140737488351232) :
    Calls Try.prog 46 #[.slice A n c] w fun e w' => e = .returned (.bool (rowsB 0 l && decide (l.length ≤ 8))) ∧ Below w.heap.size w w' := by
  subst hn
  have HR := Lib.hid h
  have hcap := h.cap
  obtain ⟨N, hN⟩ : ∃ N, l.length = N := ⟨_, rfl⟩
  rw [hN] at hl hcap ⊢
  have HN := Lib.hid hN
  clear h hN
  go_enter Try.func46, Try.ntmps46
  go_wp2_with fail
  go_loopw [3, 8] (fun lv iv wr => ∃ (k : Nat) (p : Int), k ≤ N ∧ iv = .int .i64 k ∧ lv = .int .i64 p ∧ rowsB 0 l = rowsB p (l.drop k) ∧ Below w.heap.size w wr) (fun _ i _ => N - (intOf i).toNat)
  case atStart => exact ⟨0, 0, by omega, rfl, rfl, rfl, Below.refl _ _⟩
  case round =>
    obtain ⟨k, p, hk, rfl, rfl, hrel, hb⟩ := hrel
    have HRel := Lib.hid hrel
    clear hrel
    by_cases hlt : k < N
    · obtain ⟨x, hx⟩ : ∃ x, l[k]? = some x := ⟨l[k]'(by rw [HN.out]; exact hlt), by simp [HN.out, hlt]⟩
      obtain ⟨g, o, rfl, hat⟩ := row9_at (HR.out.below keeps_row9 hb) hx
      have HX : Hid (rowsB 0 l = (rowB9 x && decide (p < x.1) && rowsB x.1 (l.drop (k + 1)))) := Lib.hid (by rw [HRel.out, drop_cons hx]; rfl)
      obtain ⟨xa, xb, xc, xd, xe⟩ := x
      have c0 := hat.c0
      have c1 := hat.c1
      have c2 := hat.c2
      have c3 := hat.c3
      have c4 := hat.c4
      dsimp only at c0 c1 c2 c3 c4
      have q1 : (0 : Int) ≤ (k : Int) := by omega
      have q2 : (k : Int) < (N : Int) := by omega
      have HB := Lib.hid (hb.alloc hb.size (.cells #[.int .i64 xa, .int .i64 xb, .int .i64 xc, .int .i64 xd, .int .i64 xe] 58))
      have HXB : Hid (rowB9 (xa, xb, xc, xd, xe) = (lsnB xa && (decide (1 ≤ xb) && decide (xb ≤ 64)) && (decide (xc = 1) || decide (xc = 2)) && lsnB xd && nxtB xe)) := Lib.hid rfl
      have L1 := fun W => isLsn_any (w := W) xa
      have L2 := fun W => isLsn_any (w := W) xd
      have L3 := fun W => isNext_any (w := W) xe
      obtain ⟨b1, hb1⟩ : ∃ b, lsnB xa = b := ⟨_, rfl⟩
      obtain ⟨b2, hb2⟩ : ∃ b, lsnB xd = b := ⟨_, rfl⟩
      obtain ⟨b3, hb3⟩ : ∃ b, nxtB xe = b := ⟨_, rfl⟩
      rw [hb1, hb2, hb3] at HXB
      have H1 : Hid (∀ W, Calls Try.prog 48 #[.int .i64 xa] W fun e w' => e = .returned (.bool b1) ∧ W = w') := Lib.hid fun W => by rw [← hb1]; exact L1 W
      have H2 : Hid (∀ W, Calls Try.prog 48 #[.int .i64 xd] W fun e w' => e = .returned (.bool b2) ∧ W = w') := Lib.hid fun W => by rw [← hb2]; exact L2 W
      have H3 : Hid (∀ W, Calls Try.prog 51 #[.int .i64 xe] W fun e w' => e = .returned (.bool b3) ∧ W = w') := Lib.hid fun W => by rw [← hb3]; exact L3 W
      clear L1 L2 L3 hb1 hb2 hb3 hat hb hx
      have dec : ∀ {a : Prop} [Decidable a], ¬ a → decide a = false := fun h => decide_eq_false h
      cases b1 with
      | false =>
        go_wp2_with (first | (go_at_call 48; ((with_reducible refine (H1.out _).mono ?_); rintro e w' ⟨rfl, rfl⟩)) | (go_at_call 48; ((with_reducible refine (H2.out _).mono ?_); rintro e w' ⟨rfl, rfl⟩)) | (go_at_call 51; refine (H3.out _).mono ?_; rintro e w' ⟨rfl, rfl⟩))
        go_ret
        exact ⟨retB (by rw [HX.out, HXB.out]; simp []), HB.out⟩
      | true =>
        by_cases k2 : p < xa
        · skip
          by_cases k3 : 1 ≤ xb
          · skip
            by_cases k4 : xb ≤ 64
            · skip
              by_cases k5 : xc = 1 ∨ xc = 2
              · have k5' := k5
                rcases k5 with k5 | k5
                · subst k5
                  cases b2 with
                  | false =>
                    go_wp2_with (first | (go_at_call 48; ((with_reducible refine (H1.out _).mono ?_); rintro e w' ⟨rfl, rfl⟩)) | (go_at_call 48; ((with_reducible refine (H2.out _).mono ?_); rintro e w' ⟨rfl, rfl⟩)) | (go_at_call 51; refine (H3.out _).mono ?_; rintro e w' ⟨rfl, rfl⟩))
                    go_ret
                    exact ⟨retB (by rw [HX.out, HXB.out]; simp []), HB.out⟩
                  | true =>
                    cases b3 with
                    | false =>
                      go_wp2_with (first | (go_at_call 48; ((with_reducible refine (H1.out _).mono ?_); rintro e w' ⟨rfl, rfl⟩)) | (go_at_call 48; ((with_reducible refine (H2.out _).mono ?_); rintro e w' ⟨rfl, rfl⟩)) | (go_at_call 51; refine (H3.out _).mono ?_; rintro e w' ⟨rfl, rfl⟩))
                      go_ret
                      exact ⟨retB (by rw [HX.out, HXB.out]; simp []), HB.out⟩
                    | true =>
                      go_wp2_with (first | (go_at_call 48; ((with_reducible refine (H1.out _).mono ?_); rintro e w' ⟨rfl, rfl⟩)) | (go_at_call 48; ((with_reducible refine (H2.out _).mono ?_); rintro e w' ⟨rfl, rfl⟩)) | (go_at_call 51; refine (H3.out _).mono ?_; rintro e w' ⟨rfl, rfl⟩))
                      go_roundw
                      case rel => exact ⟨k + 1, xa, by omega, by go_num, rfl, (by rw [HX.out, HXB.out]; simp [*]), HB.out⟩
                      case measure => simp [intOf]; omega
                · subst k5
                  cases b2 with
                  | false =>
                    go_wp2_with (first | (go_at_call 48; ((with_reducible refine (H1.out _).mono ?_); rintro e w' ⟨rfl, rfl⟩)) | (go_at_call 48; ((with_reducible refine (H2.out _).mono ?_); rintro e w' ⟨rfl, rfl⟩)) | (go_at_call 51; refine (H3.out _).mono ?_; rintro e w' ⟨rfl, rfl⟩))
                    go_ret
                    exact ⟨retB (by rw [HX.out, HXB.out]; simp []), HB.out⟩
                  | true =>
                    cases b3 with
                    | false =>
                      go_wp2_with (first | (go_at_call 48; ((with_reducible refine (H1.out _).mono ?_); rintro e w' ⟨rfl, rfl⟩)) | (go_at_call 48; ((with_reducible refine (H2.out _).mono ?_); rintro e w' ⟨rfl, rfl⟩)) | (go_at_call 51; refine (H3.out _).mono ?_; rintro e w' ⟨rfl, rfl⟩))
                      go_ret
                      exact ⟨retB (by rw [HX.out, HXB.out]; simp []), HB.out⟩
                    | true =>
                      go_wp2_with (first | (go_at_call 48; ((with_reducible refine (H1.out _).mono ?_); rintro e w' ⟨rfl, rfl⟩)) | (go_at_call 48; ((with_reducible refine (H2.out _).mono ?_); rintro e w' ⟨rfl, rfl⟩)) | (go_at_call 51; refine (H3.out _).mono ?_; rintro e w' ⟨rfl, rfl⟩))
                      go_roundw
                      case rel => exact ⟨k + 1, xa, by omega, by go_num, rfl, (by rw [HX.out, HXB.out]; simp [*]), HB.out⟩
                      case measure => simp [intOf]; omega
              · have k51 : (xc != 1) = true := by simp; omega
                have k52 : (xc != 2) = true := by simp; omega
                have k53 : ¬ xc = 1 := by omega
                have k54 : ¬ xc = 2 := by omega
                go_wp2_with (first | (go_at_call 48; ((with_reducible refine (H1.out _).mono ?_); rintro e w' ⟨rfl, rfl⟩)) | (go_at_call 48; ((with_reducible refine (H2.out _).mono ?_); rintro e w' ⟨rfl, rfl⟩)) | (go_at_call 51; refine (H3.out _).mono ?_; rintro e w' ⟨rfl, rfl⟩))
                go_ret
                exact ⟨retB (by rw [HX.out, HXB.out]; simp [dec k53, dec k54]), HB.out⟩
            · have k4' : 64 < xb := by omega
              go_wp2_with (first | (go_at_call 48; ((with_reducible refine (H1.out _).mono ?_); rintro e w' ⟨rfl, rfl⟩)) | (go_at_call 48; ((with_reducible refine (H2.out _).mono ?_); rintro e w' ⟨rfl, rfl⟩)) | (go_at_call 51; refine (H3.out _).mono ?_; rintro e w' ⟨rfl, rfl⟩))
              go_ret
              exact ⟨retB (by rw [HX.out, HXB.out]; simp [dec (show ¬ xb ≤ 64 by omega)]), HB.out⟩
          · have k3' : xb < 1 := by omega
            go_wp2_with (first | (go_at_call 48; ((with_reducible refine (H1.out _).mono ?_); rintro e w' ⟨rfl, rfl⟩)) | (go_at_call 48; ((with_reducible refine (H2.out _).mono ?_); rintro e w' ⟨rfl, rfl⟩)) | (go_at_call 51; refine (H3.out _).mono ?_; rintro e w' ⟨rfl, rfl⟩))
            go_ret
            exact ⟨retB (by rw [HX.out, HXB.out]; simp [dec (show ¬ 1 ≤ xb by omega)]), HB.out⟩
        · have k2' : xa ≤ p := by omega
          go_wp2_with (first | (go_at_call 48; ((with_reducible refine (H1.out _).mono ?_); rintro e w' ⟨rfl, rfl⟩)) | (go_at_call 48; ((with_reducible refine (H2.out _).mono ?_); rintro e w' ⟨rfl, rfl⟩)) | (go_at_call 51; refine (H3.out _).mono ?_; rintro e w' ⟨rfl, rfl⟩))
          go_ret
          exact ⟨retB (by rw [HX.out, HXB.out]; simp [dec (show ¬ p < xa by omega)]), HB.out⟩
    · have he : k = N := by omega
      subst he
      have HE : Hid (rowsB 0 l = true) := Lib.hid (by rw [HRel.out, List.drop_of_length_le (by rw [HN.out]; exact Nat.le_refl _)]; rfl)
      have HB := Lib.hid hb
      clear hb
      go_wp2_with fail
      go_ret
      refine ⟨retB ?_, HB.out⟩
      rw [HE.out, Bool.true_and, decide_eq_decide]
      omega
end Go.Proofs.Ytiaehoppdihbdaa
