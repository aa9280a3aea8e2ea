import Derived.Test.YtaldpngilgaciabDoorFrame
import Derived.Test.YtaldpngilgaciabDoorRef8
/- The small functions of the laws of layer 8. -/
set_option linter.unusedVariables false
set_option linter.unusedSimpArgs false
namespace Go.Proofs.YtaldpngilgaciabDoor
open Go.RowKit Go.Tm
set_option maxHeartbeats 400000
set_option maxRecDepth 100000

theorem same_any {w : World} {A B : Option Addr} {n m c d : Nat} {l k : List UInt8} (ha : Rda w A c l) (hb : Rda w B d k) (hn : n = l.length) (hm : m = k.length) :
    Calls Tryd.prog 14 #[.slice A n c, .slice B m d] w fun e w' => e = .returned (.bool (decide (l = k))) ∧ w = w' := by
  subst hn hm
  have h1 := fun dst hd => run_conv_rd (P := Tryd.prog) w tU8 ha _ rfl dst hd
  have h2 := fun dst hd => run_conv_rd (P := Tryd.prog) w tU8 hb _ rfl dst hd
  go_enter Tryd.func14, Tryd.ntmps14
  go_wp2
  go_ret
  exact ⟨rfl, rfl⟩

theorem same_yes {w : World} {A B : Option Addr} {n m c d : Nat} {l k : List UInt8} (ha : Rda w A c l) (hb : Rda w B d k) (hn : n = l.length) (hm : m = k.length) (he : l = k) :
    Calls Tryd.prog 14 #[.slice A n c, .slice B m d] w fun e w' => e = .returned (.bool true) ∧ w = w' := by
  have := same_any ha hb hn hm
  rwa [decide_eq_true he] at this

theorem known_any {w : World} (hT : Tb w) : Calls Tryd.prog 11 #[] w fun e w' => e = .returned (.bool true) ∧ Below w.heap.size w w' := by
  go_enter Tryd.func11, Tryd.ntmps11
  go_wp2_with fail
  have b0 : Below w.heap.size w (w.alloc (.cells (B8 [7]).toArray 5)) := (Below.refl _ _).alloc (Nat.le_refl _) _
  have P1 := wrap_any (l := [7]) (hT.below b0) (Rda_lit w 5 [7] 1 rfl (by simp) rfl) rfl (by simp) 258
  rw [show wrapE 258 [7] = 0 from by decide, show wrapV 258 [7] = frameL 258 [7] from by unfold wrapV; rw [if_pos (by decide)]; rfl] at P1
  have hfl : (frameL 258 [7]).length = 17 := frameL_length _ _
  have g0 : (frameL 258 [7]).getD 0 0 = 1 := by decide
  have g4 : (frameL 258 [7]).getD 4 0 = 2 := by decide
  have g5 : (frameL 258 [7]).getD 5 0 = 1 := by decide
  have ho : openB (frameL 258 [7]) 258 = some [7] := by
    have := openB_frame 258 [7] [] (by decide) (by decide)
    rwa [List.append_nil] at this
  have hn : openB (frameL 258 [7]) 259 = none := by have := openB_other 258 259 [7] [] (by decide) (by decide) (by decide); rwa [List.append_nil] at this
  obtain ⟨f, hf⟩ : ∃ f, frameL 258 [7] = f := ⟨_, rfl⟩
  rw [hf] at P1 hfl g0 g4 g5 ho hn
  obtain ⟨o1, o2, o3⟩ := open_some ho
  obtain ⟨n1, n2, n3⟩ := open_none hn
  rw [hfl] at P1
  refine P1.mono ?_
  clear P1 hf ho hn
  rintro e w1 ⟨A1, c1, rfl, hN1⟩
  have B1 := below_then b0 hN1.below
  have R1 := hN1.rda
  have T1 := hT.below B1
  have P2 := open_any (n := 17) T1 R1 hfl.symm (by omega) 258
  rw [o1, o2, o3] at P2
  go_wp2_with fail
  refine P2.mono ?_
  clear P2 o1 o2 o3 hN1 b0
  rintro e w2 ⟨A2, c2, rfl, hN2⟩
  have R2 := R1.below hN2.below
  have B2 := below_then B1 hN2.below
  have K2 := hN2.rda
  have T2 := hT.below B2
  have P3 := open_any (n := 17) T2 R2 hfl.symm (by omega) 259
  rw [n1, n2, n3] at P3
  go_wp2_with fail
  refine P3.mono ?_
  clear P3 n1 n2 n3 hN2 R1 B1 T1 T2
  rintro e w3 ⟨A3, c3, rfl, hN3⟩
  have R3 := R2.below hN3.below
  have B3 := below_then B2 hN3.below
  have K3 := K2.below hN3.below
  obtain ⟨b, o, rfl, hc⟩ := R3.cells (by omega)
  have h0 : w3.cell? ⟨b, o, none⟩ = some (.int .u8 1) := by have := hc 0 (by omega); rw [g0] at this; exact this
  have h4 : w3.cell? ⟨b, o + 4, none⟩ = some (.int .u8 2) := by have := hc 4 (by omega); rw [g4] at this; exact this
  have h5 : w3.cell? ⟨b, o + 5, none⟩ = some (.int .u8 1) := by have := hc 5 (by omega); rw [g5] at this; exact this
  clear hc g0 g4 g5 hN3 R2 B2 K2
  go_wp2_with fail
  refine (same_yes (K3.alloc _) (Rda_lit w3 5 [7] 1 rfl (by simp) rfl) rfl rfl rfl).mono ?_
  rintro e w4 ⟨rfl, rfl⟩
  go_wp2_with fail
  go_ret
  exact ⟨rfl, B3.alloc B3.size _⟩
end Go.Proofs.YtaldpngilgaciabDoor
