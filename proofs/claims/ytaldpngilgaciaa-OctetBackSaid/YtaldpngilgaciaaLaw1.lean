import Derived.Test.YtaldpngilgaciaaRef1b
/- The walks of the statements of layer 1: their helpers. -/
set_option linter.unusedVariables false
set_option linter.unusedSimpArgs false
namespace Go.Proofs.Ytaldpngilgaciaa
open Go.RowKit Go.Tm
set_option maxHeartbeats 400000
set_option maxRecDepth 100000
attribute [local go_sem] IntKind.wrap_u16

theorem same_any {w : World} {A B : Option Addr} {n m c d : Nat} {l k : List UInt8} (ha : Rda w A c l) (hb : Rda w B d k) (hn : n = l.length) (hm : m = k.length) :
    Calls Try.prog 14 #[.slice A n c, .slice B m d] w fun e w' => e = .returned (.bool (decide (l = k))) ∧ Below w.heap.size w w' := by
  subst hn hm
  have h1 := fun dst hd => run_conv_rd (P := Try.prog) w tU8 ha _ rfl dst hd
  have h2 := fun dst hd => run_conv_rd (P := Try.prog) w tU8 hb _ rfl dst hd
  go_enter Try.func14, Try.ntmps14
  go_wp2
  go_ret
  exact ⟨rfl, Below.refl _ _⟩

theorem same_yes {w : World} {A B : Option Addr} {n m c d : Nat} {l k : List UInt8} (ha : Rda w A c l) (hb : Rda w B d k) (hn : n = l.length) (hm : m = k.length) (he : l = k) :
    Calls Try.prog 14 #[.slice A n c, .slice B m d] w fun e w' => e = .returned (.bool true) ∧ Below w.heap.size w w' := by
  have := same_any ha hb hn hm
  rwa [decide_eq_true he] at this

theorem puts_any {w : World} {A : Option Addr} {n c : Nat} {l : List UInt8} (h : Rda w A c l) (hn : n = l.length) (hl : l.length + 8 ≤ 140737488355328) (x : Int) (h0 : 0 ≤ x) (hx1 : x < 18446744073709551616) :
    Calls Try.prog 11 #[.slice A n c, .int .u64 x] w fun e w' => e = .returned (.bool true) ∧ Below w.heap.size w w' := by
  subst hn
  go_enter Try.func11, Try.ntmps11
  go_wp2_with fail
  refine (put1_any h rfl (by omega) _ (by omega) (by omega)).mono ?_
  rintro e v1a ⟨A1a, c1a, rfl, hN1a⟩
  have h1a := h.below hN1a.below
  go_wp2_with fail
  refine (refPut_any h1a rfl (by omega) _ (by omega) (by omega) 1 (by omega) (by rfl)).mono ?_
  rintro e v1b ⟨A1b, c1b, rfl, hN1b⟩
  have h1b := h1a.below hN1b.below
  have r1 := hN1a.rda.below hN1b.below
  go_wp2_with fail
  refine (same_yes r1 hN1b.rda (by simp) (by simp) rfl).mono ?_
  rintro e v1c ⟨rfl, hb1c⟩
  have h1c := h1b.below hb1c
  go_wp2_with fail
  refine (put2_any h1c rfl (by omega) _ (by omega) (by omega)).mono ?_
  rintro e v2a ⟨A2a, c2a, rfl, hN2a⟩
  have h2a := h1c.below hN2a.below
  go_wp2_with fail
  refine (refPut_any h2a rfl (by omega) _ (by omega) (by omega) 2 (by omega) (by rfl)).mono ?_
  rintro e v2b ⟨A2b, c2b, rfl, hN2b⟩
  have h2b := h2a.below hN2b.below
  have r2 := hN2a.rda.below hN2b.below
  go_wp2_with fail
  refine (same_yes r2 hN2b.rda (by simp) (by simp) rfl).mono ?_
  rintro e v2c ⟨rfl, hb2c⟩
  have h2c := h2b.below hb2c
  go_wp2_with fail
  refine (put4_any h2c rfl (by omega) _ (by omega) (by omega)).mono ?_
  rintro e v4a ⟨A4a, c4a, rfl, hN4a⟩
  have h4a := h2c.below hN4a.below
  go_wp2_with fail
  refine (refPut_any h4a rfl (by omega) _ (by omega) (by omega) 4 (by omega) (by rfl)).mono ?_
  rintro e v4b ⟨A4b, c4b, rfl, hN4b⟩
  have h4b := h4a.below hN4b.below
  have r4 := hN4a.rda.below hN4b.below
  go_wp2_with fail
  refine (same_yes r4 hN4b.rda (by simp) (by simp) rfl).mono ?_
  rintro e v4c ⟨rfl, hb4c⟩
  have h4c := h4b.below hb4c
  go_wp2_with fail
  refine (put8_any h4c rfl (by omega) _ (by omega) (by omega)).mono ?_
  rintro e v8a ⟨A8a, c8a, rfl, hN8a⟩
  have h8a := h4c.below hN8a.below
  go_wp2_with fail
  refine (refPut_any h8a rfl (by omega) _ (by omega) (by omega) 8 (by omega) (by rfl)).mono ?_
  rintro e v8b ⟨A8b, c8b, rfl, hN8b⟩
  have h8b := h8a.below hN8b.below
  have r8 := hN8a.rda.below hN8b.below
  go_wp2_with fail
  refine (same_yes r8 hN8b.rda (by simp) (by simp) rfl).mono ?_
  rintro e v8c ⟨rfl, hb8c⟩
  have h8c := h8b.below hb8c
  go_wp2_with fail
  go_ret
  exact ⟨rfl, (below_then (below_then (below_then (below_then (below_then (below_then (below_then (below_then (below_then (below_then (below_then hN1a.below hN1b.below) hb1c) hN2a.below) hN2b.below) hb2c) hN4a.below) hN4b.below) hb4c) hN8a.below) hN8b.below) hb8c)⟩

theorem gets_any {w : World} {A : Option Addr} {n c : Nat} {l : List UInt8} (h : Rda w A c l) (hn : n = l.length) :
    Calls Try.prog 12 #[.slice A n c] w fun e w' => e = .returned (.bool true) ∧ w = w' := by
  subst hn
  go_enter Try.func12, Try.ntmps12
  have B1 := getV_lt 1 l
  obtain ⟨V1, hV1⟩ : ∃ V, getV 1 l = V := ⟨_, rfl⟩
  obtain ⟨E1, hE1⟩ : ∃ V, getE 1 l = V := ⟨_, rfl⟩
  have P1 := Lib.hid (get1_any (n := l.length) h rfl)
  have R1 := Lib.hid (refGet_any (n := l.length) h rfl 1 (by omega) (kk := 1) (by rfl))
  rw [hV1, hE1] at P1 R1
  rw [hV1] at B1
  clear hV1 hE1
  have B2 := getV_lt 2 l
  obtain ⟨V2, hV2⟩ : ∃ V, getV 2 l = V := ⟨_, rfl⟩
  obtain ⟨E2, hE2⟩ : ∃ V, getE 2 l = V := ⟨_, rfl⟩
  have P2 := Lib.hid (get2_any (n := l.length) h rfl)
  have R2 := Lib.hid (refGet_any (n := l.length) h rfl 2 (by omega) (kk := 2) (by rfl))
  rw [hV2, hE2] at P2 R2
  rw [hV2] at B2
  clear hV2 hE2
  have B4 := getV_lt 4 l
  obtain ⟨V4, hV4⟩ : ∃ V, getV 4 l = V := ⟨_, rfl⟩
  obtain ⟨E4, hE4⟩ : ∃ V, getE 4 l = V := ⟨_, rfl⟩
  have P4 := Lib.hid (get4_any (n := l.length) h rfl)
  have R4 := Lib.hid (refGet_any (n := l.length) h rfl 4 (by omega) (kk := 4) (by rfl))
  rw [hV4, hE4] at P4 R4
  rw [hV4] at B4
  clear hV4 hE4
  have B8 := getV_lt 8 l
  obtain ⟨V8, hV8⟩ : ∃ V, getV 8 l = V := ⟨_, rfl⟩
  obtain ⟨E8, hE8⟩ : ∃ V, getE 8 l = V := ⟨_, rfl⟩
  have P8 := Lib.hid (get8_any (n := l.length) h rfl)
  have R8 := Lib.hid (refGet_any (n := l.length) h rfl 8 (by omega) (kk := 8) (by rfl))
  rw [hV8, hE8] at P8 R8
  rw [hV8] at B8
  clear hV8 hE8
  go_wp2_with fail
  refine P1.out.mono ?_
  rintro e v1a ⟨rfl, rfl⟩
  go_wp2_with fail
  refine R1.out.mono ?_
  rintro e v1b ⟨rfl, rfl⟩
  go_wp2_with fail
  refine P2.out.mono ?_
  rintro e v2a ⟨rfl, rfl⟩
  go_wp2_with fail
  refine R2.out.mono ?_
  rintro e v2b ⟨rfl, rfl⟩
  go_wp2_with fail
  refine P4.out.mono ?_
  rintro e v4a ⟨rfl, rfl⟩
  go_wp2_with fail
  refine R4.out.mono ?_
  rintro e v4b ⟨rfl, rfl⟩
  go_wp2_with fail
  refine P8.out.mono ?_
  rintro e v8a ⟨rfl, rfl⟩
  go_wp2_with fail
  refine R8.out.mono ?_
  rintro e v8b ⟨rfl, rfl⟩
  go_wp2_with fail
  go_ret
  exact ⟨rfl, rfl⟩


theorem known_any (w : World) : Calls Try.prog 10 #[] w fun e w' => e = .returned (.bool true) ∧ Below w.heap.size w w' := by
  go_enter Try.func10, Try.ntmps10
  go_wp2_with fail
  have P1 := put2_any (l := [9]) (Rda_lit w 5 [9] 1 rfl (by simp) rfl) rfl (by simp) 258 (by omega) (by omega)
  rw [show leB 2 (Int.toNat 258) = [2, 1] from by decide] at P1
  refine P1.mono ?_
  clear P1
  rintro e w1 ⟨A1, c1, rfl, hN1⟩
  have B1 := below_then ((Below.refl _ _).alloc (Nat.le_refl _) _) hN1.below
  have R1 := hN1.rda
  clear hN1
  go_wp2_with fail
  have P2 := get2_any (l := [2, 1, 7]) (Rda_lit w1 5 [2, 1, 7] 3 rfl (by simp) rfl) rfl
  rw [show getV 2 [2, 1, 7] = 258 from by decide, show getE 2 [2, 1, 7] = 0 from by decide] at P2
  refine P2.mono ?_
  clear P2
  rintro e w2 ⟨rfl, rfl⟩
  go_wp2_with fail
  have P3 := newReader_any (l := [7]) (Rda_lit (w1.alloc (.cells (B8 [2, 1, 7]).toArray 5)) 5 [7] 1 rfl (by simp) (g := w1.heap.size + 1) (by simp)) (n := 1) rfl (by simp)
  refine P3.mono ?_
  clear P3
  rintro e w3 ⟨r, rfl, hr, hR3, hb3⟩
  have B3' : Below w1.heap.size w1 w3 := below_then (((Below.refl _ _).alloc (Nat.le_refl _) _).alloc (by simp) _) hb3
  have B3 := below_then B1 B3'
  clear hb3
  go_wp2_with fail
  have P4 := number_any hR3 1 (by simp)
  rw [show numV 1 [7] = 7 from by decide, show numE 1 [7] = 0 from by decide, show numL 1 [7] = [] from by decide] at P4
  refine P4.mono ?_
  clear P4
  rintro e w4 ⟨rfl, hg4, hR4⟩
  have hr1 : w1.heap.size ≤ r := by simp at hr; omega
  go_wp2_with fail
  have P5 := number_any hR4 1 (by simp)
  rw [show numV 1 [] = 0 from by decide, show numE 1 [] = 10 from by decide, show numL 1 [] = [] from by decide] at P5
  refine P5.mono ?_
  clear P5
  rintro e w5 ⟨rfl, hg5, hR5⟩
  have hg := grown_trans hg4 hg5
  have B5' : Below w1.heap.size w1 w5 := B3'.grown hg B3'.size (fun k hk => by simp at hk; omega)
  have B5 := below_then B1 B5'
  have R5 := R1.below B5'
  go_wp2_with fail
  refine (same_yes (R5.alloc _) (Rda_lit w5 5 [9, 2, 1] 3 rfl (by simp) rfl) rfl rfl rfl).mono ?_
  rintro e w6 ⟨rfl, hb6⟩
  have B6 := below_then (B5.alloc B5.size _) hb6
  clear R5 hb6 hR5 hg hg5 hg4 hR4 hR3 R1 B5 B5' B3 B3' hr hr1
  go_wp2_with fail
  have Q1 := (Rda_lit w6 5 [1] 1 rfl (by simp) rfl).alloc (.cells (B8 [2]).toArray 5)
  have Q2 := Rda_lit (w6.alloc (.cells (B8 [1]).toArray 5)) 5 [2] 1 rfl (by simp) (g := w6.heap.size + 1) (by simp)
  have QR := ((RowVals.nil _).cons Q2 rfl).cons Q1 rfl
  refine (join_any (QR.rows 22 2 rfl (by simp) (g := w6.heap.size + 2) (by simp)) (n := 2) rfl (by decide)).mono ?_
  rintro e w7 ⟨A7, c7, rfl, hN7⟩
  have B7 := below_then ((((B6.alloc B6.size _).alloc (by simp; have := B6.size; omega) _).alloc (by simp; have := B6.size; omega) _)) hN7.below
  go_wp2_with fail
  refine (same_yes (hN7.rda.alloc _) (Rda_lit w7 5 [1, 2] 2 rfl (by simp) rfl) rfl rfl rfl).mono ?_
  rintro e w8 ⟨rfl, hb8⟩
  have B8 := below_then (B7.alloc B7.size _) hb8
  go_wp2_with fail
  go_ret
  exact ⟨rfl, B8⟩

theorem row_of_append (R T : List UInt8) : rowE (R.length : Int) (R ++ T) = 0 ∧ rowV (R.length : Int) (R ++ T) = R ∧ rowL (R.length : Int) (R ++ T) = T := by
  have e : rowE (R.length : Int) (R ++ T) = 0 := by
    unfold rowE
    rw [if_neg (by omega), if_neg (by simp; omega)]
  refine ⟨e, ?_, ?_⟩
  · unfold rowV
    rw [if_pos e, Int.toNat_natCast, List.take_left']
    rfl
  · unfold rowL
    rw [if_pos e, Int.toNat_natCast, List.drop_left']
    rfl

end Go.Proofs.Ytaldpngilgaciaa
