import Derived.Test.YtehmpdioofldaaaRef1b
/- The walks of the statements of layer 1: their helpers. -/
set_option linter.unusedVariables false
set_option linter.unusedSimpArgs false
namespace Go.Proofs.Ytehmpdioofldaaa
open Go.RowKit Go.Tm
set_option maxHeartbeats 400000
set_option maxRecDepth 100000
attribute [local go_sem] IntKind.wrap_u16

theorem same_any {w : World} {A B : Option Addr} {n m c d : Nat} {l k : List UInt8} (ha : Rda w A c l) (hb : Rda w B d k) (hn : n = l.length) (hm : m = k.length) :
    Calls Try.prog 8 #[.slice A n c, .slice B m d] w fun e w' => e = .returned (.bool (decide (l = k))) ∧ Below w.heap.size w w' := by
  subst hn hm
  have h1 := fun dst hd => run_conv_rd (P := Try.prog) w tU8 ha _ rfl dst hd
  have h2 := fun dst hd => run_conv_rd (P := Try.prog) w tU8 hb _ rfl dst hd
  go_enter Try.func8, Try.ntmps8
  go_wp2
  go_ret
  exact ⟨rfl, Below.refl _ _⟩

theorem same_yes {w : World} {A B : Option Addr} {n m c d : Nat} {l k : List UInt8} (ha : Rda w A c l) (hb : Rda w B d k) (hn : n = l.length) (hm : m = k.length) (he : l = k) :
    Calls Try.prog 8 #[.slice A n c, .slice B m d] w fun e w' => e = .returned (.bool true) ∧ Below w.heap.size w w' := by
  have := same_any ha hb hn hm
  rwa [decide_eq_true he] at this


theorem known_any (w : World) : Calls Try.prog 6 #[] w fun e w' => e = .returned (.bool true) ∧ Below w.heap.size w w' := by
  go_enter Try.func6, Try.ntmps6
  go_wp2_with fail
  have P1 := put2_any (l := [9]) (Rda_lit w 5 [9] 1 rfl (by simp) rfl) rfl (by simp) 258 (by omega) (by omega)
  rw [show leB 2 (Int.toNat 258) = [2, 1] from by decide] at P1
  refine P1.mono ?_
  clear P1
  rintro e w1 ⟨A1, c1, rfl, hN1⟩
  have B1 := below_then ((Below.refl _ _).alloc (Nat.le_refl _) _) hN1.below
  have R1 := hN1.rda
  clear hN1
  go_wp2_with fail
  have P2 := get2_any (l := [2, 1, 7]) (Rda_lit w1 5 [2, 1, 7] 3 rfl (by simp) rfl) rfl
  rw [show getV 2 [2, 1, 7] = 258 from by decide, show getE 2 [2, 1, 7] = 0 from by decide] at P2
  refine P2.mono ?_
  clear P2
  rintro e w2 ⟨rfl, rfl⟩
  go_wp2_with fail
  have P3 := newReader_any (l := [7]) (Rda_lit (w1.alloc (.cells (B8 [2, 1, 7]).toArray 5)) 5 [7] 1 rfl (by simp) (g := w1.heap.size + 1) (by simp)) (n := 1) rfl (by simp)
  refine P3.mono ?_
  clear P3
  rintro e w3 ⟨r, rfl, hr, hR3, hb3⟩
  have B3' : Below w1.heap.size w1 w3 := below_then (((Below.refl _ _).alloc (Nat.le_refl _) _).alloc (by simp) _) hb3
  have B3 := below_then B1 B3'
  clear hb3
  go_wp2_with fail
  have P4 := number_any hR3 1 (by simp)
  rw [show numV 1 [7] = 7 from by decide, show numE 1 [7] = 0 from by decide, show numL 1 [7] = [] from by decide] at P4
  refine P4.mono ?_
  clear P4
  rintro e w4 ⟨rfl, hg4, hR4⟩
  have hr1 : w1.heap.size ≤ r := by simp at hr; omega
  go_wp2_with fail
  have P5 := number_any hR4 1 (by simp)
  rw [show numV 1 [] = 0 from by decide, show numE 1 [] = 10 from by decide, show numL 1 [] = [] from by decide] at P5
  refine P5.mono ?_
  clear P5
  rintro e w5 ⟨rfl, hg5, hR5⟩
  have hg := grown_trans hg4 hg5
  have B5' : Below w1.heap.size w1 w5 := B3'.grown hg B3'.size (fun k hk => by simp at hk; omega)
  have B5 := below_then B1 B5'
  have R5 := R1.below B5'
  go_wp2_with fail
  refine (same_yes (R5.alloc _) (Rda_lit w5 5 [9, 2, 1] 3 rfl (by simp) rfl) rfl rfl rfl).mono ?_
  rintro e w6 ⟨rfl, hb6⟩
  have B6 := below_then (B5.alloc B5.size _) hb6
  clear R5 hb6 hR5 hg hg5 hg4 hR4 hR3 R1 B5 B5' B3 B3' hr hr1
  go_wp2_with fail
  have Q1 := (Rda_lit w6 5 [1] 1 rfl (by simp) rfl).alloc (.cells (B8 [2]).toArray 5)
  have Q2 := Rda_lit (w6.alloc (.cells (B8 [1]).toArray 5)) 5 [2] 1 rfl (by simp) (g := w6.heap.size + 1) (by simp)
  have QR := ((RowVals.nil _).cons Q2 rfl).cons Q1 rfl
  refine (join_any (QR.rows 22 2 rfl (by simp) (g := w6.heap.size + 2) (by simp)) (n := 2) rfl (by decide)).mono ?_
  rintro e w7 ⟨A7, c7, rfl, hN7⟩
  have B7 := below_then ((((B6.alloc B6.size _).alloc (by simp; have := B6.size; omega) _).alloc (by simp; have := B6.size; omega) _)) hN7.below
  go_wp2_with fail
  refine (same_yes (hN7.rda.alloc _) (Rda_lit w7 5 [1, 2] 2 rfl (by simp) rfl) rfl rfl rfl).mono ?_
  rintro e w8 ⟨rfl, hb8⟩
  have B8 := below_then (B7.alloc B7.size _) hb8
  go_wp2_with fail
  go_ret
  exact ⟨rfl, B8⟩

theorem row_of_append (R T : List UInt8) : rowE (R.length : Int) (R ++ T) = 0 ∧ rowV (R.length : Int) (R ++ T) = R ∧ rowL (R.length : Int) (R ++ T) = T := by
  have e : rowE (R.length : Int) (R ++ T) = 0 := by
    unfold rowE
    rw [if_neg (by omega), if_neg (by simp; omega)]
  refine ⟨e, ?_, ?_⟩
  · unfold rowV
    rw [if_pos e, Int.toNat_natCast, List.take_left']
    rfl
  · unfold rowL
    rw [if_pos e, Int.toNat_natCast, List.drop_left']
    rfl

end Go.Proofs.Ytehmpdioofldaaa
