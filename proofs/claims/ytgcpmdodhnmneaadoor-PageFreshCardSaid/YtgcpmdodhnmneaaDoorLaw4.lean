import Derived.Test.YtgcpmdodhnmneaaDoorPage5
import Derived.Test.YtgcpmdodhnmneaaDoorRef4d
/- The small functions of the laws of layer 4. -/
set_option linter.unusedVariables false
set_option linter.unusedSimpArgs false
namespace Go.Proofs.YtgcpmdodhnmneaaDoor
open Go.RowKit Go.Tm
set_option maxHeartbeats 400000
set_option maxRecDepth 100000

theorem same_any {w : World} {A B : Option Addr} {n m c d : Nat} {l k : List UInt8} (ha : Rda w A c l) (hb : Rda w B d k) (hn : n = l.length) (hm : m = k.length) :
    Calls Tryd.prog 16 #[.slice A n c, .slice B m d] w fun e w' => e = .returned (.bool (decide (l = k))) ∧ w = w' := by
  subst hn hm
  have h1 := fun dst hd => run_conv_rd (P := Tryd.prog) w tU8 ha _ rfl dst hd
  have h2 := fun dst hd => run_conv_rd (P := Tryd.prog) w tU8 hb _ rfl dst hd
  go_enter Tryd.func16, Tryd.ntmps16
  go_wp2
  go_ret
  exact ⟨rfl, rfl⟩

theorem same_yes {w : World} {A B : Option Addr} {n m c d : Nat} {l k : List UInt8} (ha : Rda w A c l) (hb : Rda w B d k) (hn : n = l.length) (hm : m = k.length) (he : l = k) :
    Calls Tryd.prog 16 #[.slice A n c, .slice B m d] w fun e w' => e = .returned (.bool true) ∧ w = w' := by
  have := same_any ha hb hn hm
  rwa [decide_eq_true he] at this

theorem kn1 : makeE 2 1 = 0 ∧ (makeV 2 1).length = 40 := by decide +kernel
theorem kn2 : stampE (makeV 2 1) 2 258 = 0 ∧ (stampV (makeV 2 1) 2 258).length = 40 := by decide +kernel
theorem kn3 : fillE (stampV (makeV 2 1) 2 258) 0 258 = 0 ∧ (fillV (stampV (makeV 2 1) 2 258) 0 258 7).length = 40 := by decide +kernel
theorem kn4 : checkE (stampV (makeV 2 1) 2 258) 2 1 = 0 ∧ checkV (stampV (makeV 2 1) 2 258) 2 1 = 258 := by decide +kernel
theorem kn5 : checkE (fillV (stampV (makeV 2 1) 2 258) 0 258 7) 2 1 = 40 := by decide +kernel
theorem kn6 : placeE (fillV (stampV (makeV 2 1) 2 258) 0 258 7) 0 = 0 ∧ usedB (fillV (stampV (makeV 2 1) 2 258) 0 258 7) 0 = true ∧ slotK (fillV (stampV (makeV 2 1) 2 258) 0 258 7) 0 = 258 ∧ slotV (fillV (stampV (makeV 2 1) 2 258) 0 258 7) 0 = 7 := by decide +kernel

theorem known_any {w : World} (hT : Tb w) : Calls Tryd.prog 13 #[] w fun e w' => e = .returned (.bool true) ∧ Below w.heap.size w w' := by
  have P1 := make_any hT 2 1
  obtain ⟨e1, l1⟩ := kn1
  obtain ⟨e2, l2⟩ := kn2
  obtain ⟨e3, l3⟩ := kn3
  obtain ⟨e4, v4⟩ := kn4
  have e5 := kn5
  obtain ⟨e6, u6, k6, v6⟩ := kn6
  obtain ⟨b, hb⟩ : ∃ b, makeV 2 1 = b := ⟨_, rfl⟩
  rw [hb] at l1 e2 l2 e3 l3 e4 v4 e5 e6 u6 k6 v6 P1
  rw [l1, e1] at P1
  obtain ⟨c, hc⟩ : ∃ c, stampV b 2 258 = c := ⟨_, rfl⟩
  rw [hc] at l2 e3 l3 e4 v4 e5 e6 u6 k6 v6
  obtain ⟨d, hd⟩ : ∃ d, fillV c 0 258 7 = d := ⟨_, rfl⟩
  rw [hd] at l3 e5 e6 u6 k6 v6
  have P2 := fun (W : World) (T : Tb W) A x (h : Rda W A x b) => stamp_any T h (n := 40) l1.symm (by omega) 2 258
  rw [hc, l2, e2] at P2
  have P3 := fun (W : World) A x (h : Rda W A x c) => fill_any h (n := 40) l2.symm (by omega) 0 258 7 (by omega) (by omega)
  rw [hd, l3, e3] at P3
  have P4 := fun (W : World) (T : Tb W) A x (h : Rda W A x c) => check_any T h (n := 40) l2.symm (by omega) 2 1
  rw [v4, e4] at P4
  have P5 := fun (W : World) (T : Tb W) A x (h : Rda W A x d) => check_any T h (n := 40) l3.symm (by omega) 2 1
  rw [e5] at P5
  have P6 := fun (W : World) A x (h : Rda W A x d) => slot_any h (n := 40) l3.symm (by omega) 0
  rw [e6, u6, k6, v6] at P6
  obtain ⟨V, hV⟩ : ∃ V, checkV d 2 1 = V := ⟨_, rfl⟩
  rw [hV] at P5
  have H1 := Lib.hid P1
  have H2 := Lib.hid P2
  have H3 := Lib.hid P3
  have H4 := Lib.hid P4
  have H5 := Lib.hid P5
  have H6 := Lib.hid P6
  clear P1 P2 P3 P4 P5 P6 e1 l1 e2 l2 e3 l3 e4 v4 e5 e6 u6 k6 v6 hb hc hd hV
  go_enter Tryd.func13, Tryd.ntmps13
  go_wp2_with fail
  refine H1.out.mono ?_
  rintro e w1 ⟨A1, c1, rfl, hN⟩
  have b1 := hN.below
  have r1 := hN.rda
  clear hN
  go_wp2_with fail
  refine (H2.out _ (hT.below b1) _ _ r1).mono ?_
  rintro e w2 ⟨A2, c2, rfl, hN⟩
  have b2 := below_then b1 hN.below
  have r2 := hN.rda
  clear hN r1 b1
  go_wp2_with fail
  refine (H3.out _ _ _ r2).mono ?_
  rintro e w3 ⟨A3, c3, rfl, hN⟩
  have b3 := below_then b2 hN.below
  have r3 := hN.rda
  have s3 := r2.below hN.below
  clear hN r2 b2
  go_wp2_with fail
  refine (H4.out _ (hT.below b3) _ _ s3).mono ?_
  rintro e w4 ⟨rfl, hN⟩
  have b4 := below_then b3 hN
  have r4 := r3.below hN
  clear hN r3 b3 s3
  go_wp2_with fail
  refine (H5.out _ (hT.below b4) _ _ r4).mono ?_
  rintro e w5 ⟨rfl, hN⟩
  have b5 := below_then b4 hN
  have r5 := r4.below hN
  clear hN r4 b4
  go_wp2_with fail
  refine (H6.out _ _ _ r5).mono ?_
  rintro e w6 ⟨rfl, hN⟩
  have b6 := below_then b5 hN
  clear hN r5 b5
  go_wp2_with fail
  go_ret
  exact ⟨rfl, b6.alloc b6.size _⟩
end Go.Proofs.YtgcpmdodhnmneaaDoor
