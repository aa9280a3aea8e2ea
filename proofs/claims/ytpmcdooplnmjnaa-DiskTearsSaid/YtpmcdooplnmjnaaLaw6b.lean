import Derived.Test.YtpmcdooplnmjnaaLaw6
/- Images, as the statements of layer 6 look at them. -/
set_option linter.unusedVariables false
set_option linter.unusedSimpArgs false
namespace Go.Proofs.Ytpmcdooplnmjnaa
open Go.RowKit Go.Tm
set_option maxHeartbeats 400000
set_option maxRecDepth 100000
attribute [local go_sem ↓] Go.wp_at_zero Go.wp_at_succ

structure Img where
  pages : List (List UInt8)
  pair : List UInt8
  log : List UInt8
  m0 : List UInt8
  m1 : List UInt8
def imgOf (P : Nat) (rows : List (List UInt8)) (log : List UInt8) : Img := ⟨rows.take P, rows.getD P [], log, rows.getD (P + 1) [], rows.getD (P + 2) []⟩
/-- An image that can be read. -/
structure RdImg (w : World) (I : Img) (A0 A1 A2 A3 A4 : Option Addr) (c0 c1 c2 c3 c4 : Nat) : Prop where
  pages : RdRows w A0 c0 I.pages
  pair : Rda w A1 c1 I.pair
  log : Rda w A2 c2 I.log
  m0 : Rda w A3 c3 I.m0
  m1 : Rda w A4 c4 I.m1
def imgC (I : Img) (A0 A1 A2 A3 A4 : Option Addr) (c0 c1 c2 c3 c4 : Nat) : List Value := [.slice A0 I.pages.length c0, .slice A1 I.pair.length c1, .slice A2 I.log.length c2, .slice A3 I.m0.length c3, .slice A4 I.m1.length c4]
def IsRdI (w : World) (v : Value) (I : Img) : Prop := ∃ A0 A1 A2 A3 A4 c0 c1 c2 c3 c4, v = imgV (.slice A0 I.pages.length c0) (.slice A1 I.pair.length c1) (.slice A2 I.log.length c2) (.slice A3 I.m0.length c3) (.slice A4 I.m1.length c4) ∧ RdImg w I A0 A1 A2 A3 A4 c0 c1 c2 c3 c4
theorem RdImg.below {w w' : World} {I : Img} {A0 A1 A2 A3 A4 : Option Addr} {c0 c1 c2 c3 c4 : Nat} (h : RdImg w I A0 A1 A2 A3 A4 c0 c1 c2 c3 c4) (hb : Below w.heap.size w w') : RdImg w' I A0 A1 A2 A3 A4 c0 c1 c2 c3 c4 :=
  ⟨h.pages.below hb, h.pair.below hb, h.log.below hb, h.m0.below hb, h.m1.below hb⟩
theorem IsRdI.below {w w' : World} {v : Value} {I : Img} (h : IsRdI w v I) (hb : Below w.heap.size w w') : IsRdI w' v I := by
  obtain ⟨A0, A1, A2, A3, A4, c0, c1, c2, c3, c4, e, h⟩ := h
  exact ⟨A0, A1, A2, A3, A4, c0, c1, c2, c3, c4, e, h.below hb⟩
theorem GroundK.rdPart {w : World} {χ : Col} {j t g k : Nat} {vs : List Value} {rows : List (List UInt8)} (h : GroundK w χ j t g vs rows k) {P : Nat} (hP : P ≤ k) (hP2 : P ≤ 99) (hl : P ≤ rows.length) : RdRows w (some ⟨g, 0, none⟩) P (rows.take P) := by
  have hlen : (rows.take P).length = P := by rw [List.length_take]; omega
  refine ⟨by omega, by unfold maxLen; omega, fun _ => ⟨g, 0, rfl, fun i hi => ?_⟩⟩
  rw [hlen] at hi
  obtain ⟨b, c, h1, h2, h3, h4⟩ := h.cell (i := i) (by omega)
  have e : (rows.take P).getD i [] = rows.getD i [] := by simp [List.getD, List.getElem?_take, hi]
  rw [e]
  exact ⟨_, c, by rw [Nat.zero_add]; exact h.row.cell h2, (own_at h4).2⟩
theorem ImgR.rdi {w : World} {χ : Col} {j P g : Nat} {v lv : Value} {rows : List (List UInt8)} {log : List UInt8} {vs : List Value} (h : ImgR w χ j v P rows log g vs lv) (hP : P ≤ 16) : IsRdI w v (imgOf P rows log) := by
  obtain ⟨b0, k0, _, v0, _, o0⟩ := h.ground.cell (i := P) (by omega)
  obtain ⟨b1, k1, _, v1, _, o1⟩ := h.ground.cell (i := P + 1) (by omega)
  obtain ⟨b2, k2, _, v2, _, o2⟩ := h.ground.cell (i := P + 2) (by omega)
  obtain ⟨A2, c2, hlv, o3⟩ := own_rda h.log.own
  have hl := h.len
  have hpl : (rows.take P).length = P := by rw [List.length_take]; omega
  refine ⟨_, _, _, _, _, P, k0, c2, k1, k2, ?_, h.ground.rdPart (by omega) (by omega) (by omega), (own_at o0).2, o3, (own_at o1).2, (own_at o2).2⟩
  rw [h.val, hlv]
  show imgV (.slice (some ⟨g, 0, none⟩) P P) (vs.getD P undef) (.slice A2 log.length c2) (vs.getD (P + 1) undef) (vs.getD (P + 2) undef) = imgV (.slice _ (rows.take P).length P) (.slice _ (rows.getD P []).length k0) (.slice _ log.length c2) (.slice _ (rows.getD (P + 1) []).length k1) (.slice _ (rows.getD (P + 2) []).length k2)
  rw [hpl]
  simp [List.getD, v0, v1, v2]

set_option maxHeartbeats 1600000 in
theorem sameImages_yes {w : World} {u v : Value} {I : Img} (hu : IsRdI w u I) (hv : IsRdI w v I) (hl : I.pages.length ≤ 16) :
    Calls Try.prog 20 #[u, v] w fun e w' => e = .returned (.bool true) ∧ Below w.heap.size w w' := by
  obtain ⟨A0, A1, A2, A3, A4, c0, c1, c2, c3, c4, rfl, ha⟩ := hu
  obtain ⟨B0, B1, B2, B3, B4, d0, d1, d2, d3, d4, rfl, hb⟩ := hv
  unfold imgV
  obtain ⟨L0, hL0⟩ : ∃ L, I.pages.length = L := ⟨_, rfl⟩
  obtain ⟨L1, hL1⟩ : ∃ L, I.pair.length = L := ⟨_, rfl⟩
  obtain ⟨L2, hL2⟩ : ∃ L, I.log.length = L := ⟨_, rfl⟩
  obtain ⟨L3, hL3⟩ : ∃ L, I.m0.length = L := ⟨_, rfl⟩
  obtain ⟨L4, hL4⟩ : ∃ L, I.m1.length = L := ⟨_, rfl⟩
  rw [hL0, hL1, hL2, hL3, hL4]
  have hbb : Below w.heap.size w ((w.alloc (.cells #[.slice A0 L0 c0, .slice A1 L1 c1, .slice A2 L2 c2, .slice A3 L3 c3, .slice A4 L4 c4] 43)).alloc (.cells #[.slice B0 L0 d0, .slice B1 L1 d1, .slice B2 L2 d2, .slice B3 L3 d3, .slice B4 L4 d4] 43)) := ((Below.refl _ _).alloc (Nat.le_refl _) _).alloc (by simp) _
  have r1 : RowC ((w.alloc (.cells #[.slice A0 L0 c0, .slice A1 L1 c1, .slice A2 L2 c2, .slice A3 L3 c3, .slice A4 L4 c4] 43)).alloc (.cells #[.slice B0 L0 d0, .slice B1 L1 d1, .slice B2 L2 d2, .slice B3 L3 d3, .slice B4 L4 d4] 43)) w.heap.size 43 [.slice A0 L0 c0, .slice A1 L1 c1, .slice A2 L2 c2, .slice A3 L3 c3, .slice A4 L4 c4] :=
    (show RowC (w.alloc (.cells #[.slice A0 L0 c0, .slice A1 L1 c1, .slice A2 L2 c2, .slice A3 L3 c3, .slice A4 L4 c4] 43)) w.heap.size 43 [.slice A0 L0 c0, .slice A1 L1 c1, .slice A2 L2 c2, .slice A3 L3 c3, .slice A4 L4 c4] from heap_alloc_new _ _).below ((Below.refl _ _).alloc (Nat.le_refl _) _)
  have r2 : RowC ((w.alloc (.cells #[.slice A0 L0 c0, .slice A1 L1 c1, .slice A2 L2 c2, .slice A3 L3 c3, .slice A4 L4 c4] 43)).alloc (.cells #[.slice B0 L0 d0, .slice B1 L1 d1, .slice B2 L2 d2, .slice B3 L3 d3, .slice B4 L4 d4] 43)) (w.heap.size + 1) 43 [.slice B0 L0 d0, .slice B1 L1 d1, .slice B2 L2 d2, .slice B3 L3 d3, .slice B4 L4 d4] := by
    have := heap_alloc_new (w.alloc (.cells #[.slice A0 L0 c0, .slice A1 L1 c1, .slice A2 L2 c2, .slice A3 L3 c3, .slice A4 L4 c4] 43)) (.cells #[.slice B0 L0 d0, .slice B1 L1 d1, .slice B2 L2 d2, .slice B3 L3 d3, .slice B4 L4 d4] 43)
    have hs : (w.alloc (.cells #[.slice A0 L0 c0, .slice A1 L1 c1, .slice A2 L2 c2, .slice A3 L3 c3, .slice A4 L4 c4] 43)).heap.size = w.heap.size + 1 := by simp
    rw [hs] at this
    exact this
  obtain ⟨wb, hwb⟩ : ∃ wb, ((w.alloc (.cells #[.slice A0 L0 c0, .slice A1 L1 c1, .slice A2 L2 c2, .slice A3 L3 c3, .slice A4 L4 c4] 43)).alloc (.cells #[.slice B0 L0 d0, .slice B1 L1 d1, .slice B2 L2 d2, .slice B3 L3 d3, .slice B4 L4 d4] 43)) = wb := ⟨_, rfl⟩
  rw [hwb] at hbb r1 r2
  have HA := Lib.hid (ha.below hbb)
  have HB := Lib.hid (hb.below hbb)
  have P1 := Lib.hid (same_yes HA.out.pair HB.out.pair hL1.symm hL1.symm rfl)
  have P2 := Lib.hid (same_yes HA.out.log HB.out.log hL2.symm hL2.symm rfl)
  have P3 := Lib.hid (same_yes HA.out.m0 HB.out.m0 hL3.symm hL3.symm rfl)
  have P4 := Lib.hid (same_yes HA.out.m1 HB.out.m1 hL4.symm hL4.symm rfl)
  have x0 := r1.cell (j := 0) (v := .slice A0 L0 c0) rfl
  have x1 := r1.cell (j := 1) (v := .slice A1 L1 c1) rfl
  have x2 := r1.cell (j := 2) (v := .slice A2 L2 c2) rfl
  have x3 := r1.cell (j := 3) (v := .slice A3 L3 c3) rfl
  have x4 := r1.cell (j := 4) (v := .slice A4 L4 c4) rfl
  have y0 := r2.cell (j := 0) (v := .slice B0 L0 d0) rfl
  have y1 := r2.cell (j := 1) (v := .slice B1 L1 d1) rfl
  have y2 := r2.cell (j := 2) (v := .slice B2 L2 d2) rfl
  have y3 := r2.cell (j := 3) (v := .slice B3 L3 d3) rfl
  have y4 := r2.cell (j := 4) (v := .slice B4 L4 d4) rfl
  obtain ⟨SZ, hSZ⟩ : ∃ SZ, w.heap.size = SZ := ⟨_, rfl⟩
  rw [hSZ] at r1 r2 x0 x1 x2 x3 x4 y0 y1 y2 y3 y4
  have R1 := Lib.hid r1
  have R2 := Lib.hid r2
  have HL0 := Lib.hid hL0
  rw [hL0] at hl
  clear r1 r2 ha hb hL0 hL1 hL2 hL3 hL4
  go_enter Try.func20, Try.ntmps20
  go_wp2_with fail
  refine P1.out.mono ?_
  rintro e w' ⟨rfl, rfl⟩
  go_wp2_with fail
  refine P2.out.mono ?_
  rintro e w' ⟨rfl, rfl⟩
  go_wp2_with fail
  refine P3.out.mono ?_
  rintro e w' ⟨rfl, rfl⟩
  go_wp2_with fail
  refine P4.out.mono ?_
  rintro e w' ⟨rfl, rfl⟩
  have HHB := Lib.hid hbb
  clear hbb x0 x1 x2 x3 x4 y0 y1 y2 y3 y4 hwb
  go_wp2_with fail
  go_loopw [5] (fun i wr => ∃ k : Nat, k ≤ L0 ∧ i = .int .i64 k ∧ Below wb.heap.size wb wr) (fun i _ => L0 - (intOf i).toNat)
  case atStart => exact ⟨0, by omega, rfl, Below.refl _ _⟩
  case round =>
    obtain ⟨k, hk, rfl, hb⟩ := hrel
    have q1 := R1.out.below hb
    have q2 := R2.out.below hb
    have x0 := q1.cell (j := 0) (v := .slice A0 L0 c0) rfl
    have y0 := q2.cell (j := 0) (v := .slice B0 L0 d0) rfl
    clear q1 q2
    have HBR := Lib.hid hb
    clear hb
    by_cases hkt : k < L0
    · have hkl : k < I.pages.length := by rw [HL0.out]; exact hkt
      obtain ⟨gA, oA, rfl, hcA⟩ := (HA.out.pages.below HBR.out).cells (by omega)
      obtain ⟨gB, oB, rfl, hcB⟩ := (HB.out.pages.below HBR.out).cells (by omega)
      obtain ⟨Ak, ak, a1, a2⟩ := hcA k hkl
      obtain ⟨Bk, bk, b1, b2⟩ := hcB k hkl
      obtain ⟨r, hr⟩ : ∃ r, I.pages.getD k [] = r := ⟨_, rfl⟩
      rw [hr] at a1 a2 b1 b2
      obtain ⟨RL, hRL⟩ : ∃ RL, r.length = RL := ⟨_, rfl⟩
      rw [hRL] at a1 b1
      have m0 : (0 : Int) ≤ (k : Int) := by omega
      have m1 : (k : Int) < (L0 : Int) := by omega
      have HP : Hid (∀ n, Calls Try.prog 19 #[.slice Ak RL ak, .slice Bk RL bk] (wr.drewN n) fun e w' => e = .returned (.bool true) ∧ w' = wr.drewN n) := Lib.hid fun n =>
        (same_yes (a2.below (drewN_below wr n)) (b2.below (drewN_below wr n)) hRL.symm hRL.symm rfl).mono fun _ _ h => ⟨h.1, h.2.symm⟩
      clear a2 b2 hr hRL hcA hcB hkl
      go_wp2_with fail
      go_quiet ((go_at_call 19; exact Calls.quiet_of_same (HP.out _)))
      have HB2 := Lib.hid (below_then HBR.out (drewN_below wr nq))
      clear a1 b1 HP
      go_wp2_with fail
      go_roundw
      case rel => exact ⟨k + 1, by omega, by go_num, HB2.out⟩
      case measure => simp [intOf]; omega
    · go_wp2_with fail
      go_ret
      exact ⟨rfl, below_then HHB.out HBR.out⟩

/-- The number of a place that the statements name. -/
def plN (P p : Nat) : Nat := P - 1 + p
theorem lies_any {w : World} {χ : Col} {j P g : Nat} {v lv : Value} {rows : List (List UInt8)} {log : List UInt8} {vs : List Value} (h : ImgR w χ j v P rows log g vs lv) (hP : 1 ≤ P) (hP2 : P ≤ 16) (p : Nat) (hp : p ≤ 3) :
    Calls Try.prog 17 #[v, .int .i64 p] w fun e w' => e = .returned (vs.getD (plN P p) undef) ∧ Below w.heap.size w w' := by
  have hl := h.len
  obtain ⟨b0, k0, _, v0, _, o0⟩ := h.ground.cell (i := P) (by omega)
  obtain ⟨b1, k1, _, v1, _, o1⟩ := h.ground.cell (i := P + 1) (by omega)
  obtain ⟨b2, k2, _, v2, _, o2⟩ := h.ground.cell (i := P + 2) (by omega)
  obtain ⟨b3, k3, _, v3, _, o3⟩ := h.ground.cell (i := P - 1) (by omega)
  obtain ⟨A2, c2, hlv, o4⟩ := own_rda h.log.own
  have hv := h.val
  have d3 := h.ground.row.cell v3
  have g0 : vs.getD P undef = .slice (some ⟨b0, 0, none⟩) (rows.getD P []).length k0 := by simp [List.getD, v0]
  have g1 : vs.getD (P + 1) undef = .slice (some ⟨b1, 0, none⟩) (rows.getD (P + 1) []).length k1 := by simp [List.getD, v1]
  have g2 : vs.getD (P + 2) undef = .slice (some ⟨b2, 0, none⟩) (rows.getD (P + 2) []).length k2 := by simp [List.getD, v2]
  have g3 : vs.getD (P - 1) undef = .slice (some ⟨b3, 0, none⟩) (rows.getD (P - 1) []).length k3 := by simp [List.getD, v3]
  rw [g0, g1, g2, hlv] at hv
  obtain ⟨L0, hL0⟩ : ∃ L, (rows.getD P []).length = L := ⟨_, rfl⟩
  obtain ⟨L1, hL1⟩ : ∃ L, (rows.getD (P + 1) []).length = L := ⟨_, rfl⟩
  obtain ⟨L2, hL2⟩ : ∃ L, (rows.getD (P + 2) []).length = L := ⟨_, rfl⟩
  obtain ⟨L3, hL3⟩ : ∃ L, (rows.getD (P - 1) []).length = L := ⟨_, rfl⟩
  obtain ⟨LL, hLL⟩ : ∃ L, log.length = L := ⟨_, rfl⟩
  rw [hL0] at g0
  rw [hL1] at g1
  rw [hL2] at g2
  rw [hL3] at g3 d3
  rw [hL0, hL1, hL2, hLL] at hv
  have hi : IntKind.i64.wrap ((P : Int) - 1) = (P : Int) - 1 := IntWalk.i64_in _ (by omega)
  have m0 : (0 : Int) ≤ (P : Int) - 1 := by omega
  have m0' : (1 : Int) ≤ (P : Int) := by omega
  have m1 : (P : Int) - 1 < (P : Int) := by omega
  have m2 : ((P : Int) - 1).toNat = P - 1 := by omega
  have hg : g < w.heap.size := h.ground.row.lt
  have HB := Lib.hid ((Below.refl w.heap.size w).alloc (Nat.le_refl _) (.cells #[.slice (some ⟨g, 0, none⟩) P P, .slice (some ⟨b0, 0, none⟩) L0 k0, .slice A2 LL c2, .slice (some ⟨b1, 0, none⟩) L1 k1, .slice (some ⟨b2, 0, none⟩) L2 k2] 43))
  subst hv
  clear h hl v0 v1 v2 v3 o0 o1 o2 o3 o4 hlv hL0 hL1 hL2 hL3 hLL
  unfold imgV
  have hcase : p = 0 ∨ p = 1 ∨ p = 2 ∨ p = 3 := by omega
  rcases hcase with rfl | rfl | rfl | rfl
  · have e : plN P 0 = P - 1 := rfl
    rw [e, g3]
    have HR := Lib.hid d3
    clear g0 g1 g2 g3 e
    go_enter Try.func17, Try.ntmps17
    go_wp2_with fail
    go_ret
    exact ⟨rfl, HB.out⟩
  · have e : plN P 1 = P := by unfold plN; omega
    rw [e, g0]
    clear g0 g1 g2 g3 e d3 m0 m1 m2 hi
    go_enter Try.func17, Try.ntmps17
    go_wp2_with fail
    go_ret
    exact ⟨rfl, HB.out⟩
  · have e : plN P 2 = P + 1 := by unfold plN; omega
    rw [e, g1]
    clear g0 g1 g2 g3 e d3 m0 m1 m2 hi
    go_enter Try.func17, Try.ntmps17
    go_wp2_with fail
    go_ret
    exact ⟨rfl, HB.out⟩
  · have e : plN P 3 = P + 2 := by unfold plN; omega
    rw [e, g2]
    clear g0 g1 g2 g3 e d3 m0 m1 m2 hi
    go_enter Try.func17, Try.ntmps17
    go_wp2_with fail
    go_ret
    exact ⟨rfl, HB.out⟩
end Go.Proofs.Ytpmcdooplnmjnaa
