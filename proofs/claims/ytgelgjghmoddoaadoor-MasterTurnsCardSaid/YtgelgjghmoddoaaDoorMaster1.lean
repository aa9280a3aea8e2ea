import Derived.Test.YtgelgjghmoddoaaDoorMasterPure
import Derived.Test.YtgelgjghmoddoaaDoorOctRd
import Derived.Test.YtgelgjghmoddoaaDoorCrc
import Derived.Test.YtgelgjghmoddoaaDoorSlotPure
import Derived.IntWalk
/- The contracts of package master: may, Bytes. -/
set_option linter.unusedVariables false
set_option linter.unusedSimpArgs false
namespace Go.Proofs.YtgelgjghmoddoaaDoor
open Go.RowKit Go.Tm
set_option maxHeartbeats 400000
set_option maxRecDepth 100000

set_option maxHeartbeats 1600000 in
theorem may_any {w : World} (t b c : Int) : Calls Tryd.prog 28 #[.agg #[.int .i64 t, .int .i64 b, .int .i64 c]] w fun e w' => e = .returned (.bool (mayB t b c)) ∧ Below w.heap.size w w' := by
  by_cases a1 : (1 : Int) ≤ t
  · by_cases a2 : t ≤ 1152921504606846976
    · by_cases a3 : (0 : Int) ≤ b
      · by_cases a4 : b ≤ 1152921504606846976
        · by_cases a5 : (0 : Int) ≤ c
          · by_cases a6 : c ≤ 1152921504606846976
            · go_enter Tryd.func28, Tryd.ntmps28
              go_wp2_with fail
              go_ret
              exact ⟨(by simp [mayB, a1, a2, a3, a4, a5, a6] <;> omega), (Below.refl _ _).alloc (Nat.le_refl _) _⟩
            · go_enter Tryd.func28, Tryd.ntmps28
              go_wp2_with fail
              go_ret
              exact ⟨(by simp [mayB, a1, a2, a3, a4, a5, a6] <;> omega), (Below.refl _ _).alloc (Nat.le_refl _) _⟩
          · go_enter Tryd.func28, Tryd.ntmps28
            go_wp2_with fail
            go_ret
            exact ⟨(by simp [mayB, a1, a2, a3, a4, a5] <;> omega), (Below.refl _ _).alloc (Nat.le_refl _) _⟩
        · go_enter Tryd.func28, Tryd.ntmps28
          go_wp2_with fail
          go_ret
          exact ⟨(by simp [mayB, a1, a2, a3, a4] <;> omega), (Below.refl _ _).alloc (Nat.le_refl _) _⟩
      · go_enter Tryd.func28, Tryd.ntmps28
        go_wp2_with fail
        go_ret
        exact ⟨(by simp [mayB, a1, a2, a3] <;> omega), (Below.refl _ _).alloc (Nat.le_refl _) _⟩
    · go_enter Tryd.func28, Tryd.ntmps28
      go_wp2_with fail
      go_ret
      exact ⟨(by simp [mayB, a1, a2] <;> omega), (Below.refl _ _).alloc (Nat.le_refl _) _⟩
  · go_enter Tryd.func28, Tryd.ntmps28
    go_wp2_with fail
    go_ret
    exact ⟨(by simp [mayB, a1] <;> omega), (Below.refl _ _).alloc (Nat.le_refl _) _⟩


def preM (t b c : Int) (k : Nat) : List UInt8 := match k with
  | 0 => []
  | 1 => leB 8 t.toNat
  | 2 => leB 8 t.toNat ++ leB 8 b.toNat
  | _ => leB 8 t.toNat ++ leB 8 b.toNat ++ leB 8 c.toNat
def fldM (t b c : Int) (k : Nat) : Int := match k with
  | 0 => t
  | 1 => b
  | _ => c
theorem preM_succ (t b c : Int) (k : Nat) (hk : k < 3) : preM t b c (k + 1) = preM t b c k ++ leB 8 (fldM t b c k).toNat := by
  have : k = 0 ∨ k = 1 ∨ k = 2 := by omega
  rcases this with rfl | rfl | rfl <;> simp [preM, fldM]
theorem preM_length (t b c : Int) (k : Nat) (hk : k ≤ 3) : (preM t b c k).length = 8 * k := by
  have : k = 0 ∨ k = 1 ∨ k = 2 ∨ k = 3 := by omega
  rcases this with rfl | rfl | rfl | rfl <;> simp [preM]
theorem index_three (w : World) (t b c : Int) (k : Nat) (hk : k < 3) : (Instr.index 77 (.agg #[.int .i64 t, .int .i64 b, .int .i64 c]) (.int .i64 (k : Int))).run Tryd.prog w = .ok (.int .i64 (fldM t b c k)) w := by
  have : k = 0 ∨ k = 1 ∨ k = 2 := by omega
  rcases this with rfl | rfl | rfl
  · show (Instr.index 77 (.agg #[.int .i64 t, .int .i64 b, .int .i64 c]) (.int .i64 0)).run Tryd.prog w = .ok (.int .i64 t) w
    kernel_rfl
  · show (Instr.index 77 (.agg #[.int .i64 t, .int .i64 b, .int .i64 c]) (.int .i64 1)).run Tryd.prog w = .ok (.int .i64 b) w
    kernel_rfl
  · show (Instr.index 77 (.agg #[.int .i64 t, .int .i64 b, .int .i64 c]) (.int .i64 2)).run Tryd.prog w = .ok (.int .i64 c) w
    kernel_rfl

set_option maxHeartbeats 1600000 in
theorem mbytes_any {w : World} (hT : Tb w) (t b c : Int) : Calls Tryd.prog 8 #[.agg #[.int .i64 t, .int .i64 b, .int .i64 c]] w fun e w' => ∃ A c', e = .returned (.tuple #[.slice A (mastV t b c).length c', .int .i64 (mastE t b c)]) ∧ New 5 w w' A c' (mastV t b c) := by
  have hb0 := (Below.refl w.heap.size w).alloc (Nat.le_refl _) (.cells #[.int .i64 t, .int .i64 b, .int .i64 c] 23)
  have hR0 : RowC (w.alloc (.cells #[.int .i64 t, .int .i64 b, .int .i64 c] 23)) w.heap.size 23 [.int .i64 t, .int .i64 b, .int .i64 c] := heap_alloc_new _ _
  have PM := may_any (w := w.alloc (.cells #[.int .i64 t, .int .i64 b, .int .i64 c] 23)) t b c
  obtain ⟨SZ, hSZ⟩ : ∃ SZ, w.heap.size = SZ := ⟨_, rfl⟩
  unfold mastV mastE
  cases hm : mayB t b c with
  | false =>
    rw [hm] at PM
    rw [if_neg (by decide), if_neg (by decide)]
    have HPM := Lib.hid PM
    clear PM hm
    go_enter Tryd.func8, Tryd.ntmps8
    go_wp2_with fail
    refine HPM.out.mono ?_
    rintro e w1 ⟨rfl, hb⟩
    have HB := Lib.hid (below_then hb0 hb)
    clear hb hb0 hR0 hSZ
    go_wp2_with fail
    go_ret2
    exact ⟨none, 0, rfl, ⟨Own8.nilRow _ _ _, HB.out⟩⟩
  | true =>
    rw [hm] at PM
    rw [if_pos rfl, if_pos rfl]
    obtain ⟨t1, t2, b1, b2, c1, c2⟩ := (mayB_iff t b c).1 hm
    have HPM := Lib.hid PM
    clear PM hm
    rw [hSZ] at hR0
    go_enter Tryd.func8, Tryd.ntmps8
    go_wp2_with fail
    refine HPM.out.mono ?_
    rintro e w1 ⟨rfl, hb⟩
    have hb1 := below_then hb0 hb
    have hR1 := hR0.below hb
    have HR1 := Lib.hid hR1
    have x0 := hR1.cell (j := 0) (v := .int .i64 t) rfl
    have x1 := hR1.cell (j := 1) (v := .int .i64 b) rfl
    have x2 := hR1.cell (j := 2) (v := .int .i64 c) rfl
    have HSZ := Lib.hid hSZ
    clear hb hb0 hR0 hR1 hSZ
    go_wp2_with fail
    go_loopw [4, 17] (fun v i wr => ∃ (k : Nat) (A : Option Addr) (cc : Nat), k ≤ 3 ∧ i = .int .i64 k ∧ v = .slice A (preM t b c k).length cc ∧ Rda wr A cc (preM t b c k) ∧ Below w1.heap.size w1 wr) (fun _ i _ => 3 - (intOf i).toNat)
    case atStart => exact ⟨0, none, 0, by omega, rfl, rfl, Rda.nilRow w1, Below.refl _ _⟩
    case round =>
      obtain ⟨k, A, cc, hk, rfl, rfl, hrd, hbr⟩ := hrel
      by_cases hkt : k < 3
      · have hix := fun W => index_three W t b c k hkt
        have hf1 : 0 ≤ fldM t b c k ∧ fldM t b c k ≤ 1152921504606846976 := by
          have : k = 0 ∨ k = 1 ∨ k = 2 := by omega
          rcases this with rfl | rfl | rfl
          · exact ⟨by show 0 ≤ t; omega, t2⟩
          · exact ⟨b1, b2⟩
          · exact ⟨c1, c2⟩
        have hps := preM_succ t b c k hkt
        have hpl := preM_length t b c k hk
        obtain ⟨F, hF⟩ : ∃ F, fldM t b c k = F := ⟨_, rfl⟩
        obtain ⟨PR, hPR⟩ : ∃ PR, preM t b c k = PR := ⟨_, rfl⟩
        rw [hF] at hix hf1 hps
        rw [hPR] at hrd hps hpl ⊢
        obtain ⟨f1, f2⟩ := hf1
        have P8 := fun W (hr : Rda W A cc PR) => put8_any hr (n := 8 * k) hpl.symm (by omega) F f1 (by omega)
        have HP8 := Lib.hid (P8 wr hrd)
        have HPS := Lib.hid hps
        have m0 : (0 : Int) ≤ (k : Int) := by omega
        have m1 : (k : Int) < 3 := by omega
        have HBR := Lib.hid hbr
        rw [hpl]
        clear P8 hps hpl hF hPR hrd hbr t1 t2 b1 b2 c1 c2
        go_wp2_with fail
        refine HP8.out.mono ?_
        rintro e w3 ⟨A3, c3, rfl, hN⟩
        have HRD := Lib.hid hN.rda
        have HB3 := Lib.hid (below_then HBR.out hN.below)
        clear hN
        go_wp2_with fail
        go_roundw
        case rel => exact ⟨k + 1, A3, c3, by omega, by go_num, by rw [HPS.out, List.length_append, leB_length], by rw [HPS.out]; exact HRD.out, HB3.out⟩
        case measure => simp [intOf]; omega
      · have he : k = 3 := by omega
        subst he
        have hpl := preM_length t b c 3 (by omega)
        have hp3 : preM t b c 3 = leB 8 t.toNat ++ leB 8 b.toNat ++ leB 8 c.toNat := rfl
        obtain ⟨PR, hPR⟩ : ∃ PR, preM t b c 3 = PR := ⟨_, rfl⟩
        rw [hPR] at hrd hpl hp3 ⊢
        have HP3 := Lib.hid hp3
        have P4 := put4_any hrd (n := 24) hpl.symm (by omega) 0 (by omega) (by omega)
        have hl28 : (PR ++ leB 4 (0 : Int).toNat).length = 28 := by rw [List.length_append, hpl, leB_length]
        rw [hl28] at P4
        have HP4 := Lib.hid P4
        have HL28 := Lib.hid hl28
        have hfr : PR ++ leB 4 (0 : Int).toNat = frontM t.toNat b.toNat c.toNat := by rw [HP3.out]; rfl
        have HFR := Lib.hid hfr
        have HBR := Lib.hid hbr
        have hR3 := HR1.out.below hbr
        have HT3 := Lib.hid (hT.below (below_then hb1 hbr))
        rw [hpl]
        clear hpl hp3 hPR hrd P4 hl28 hfr hbr x0 x1 x2
        go_wp2_with fail
        refine HP4.out.mono ?_
        rintro e w4 ⟨A4, c4, rfl, hN4⟩
        have HF4 := Lib.hid (show Rda w4 A4 c4 (frontM t.toNat b.toNat c.toNat) by have := hN4.rda; rw [HFR.out] at this; exact this)
        have HB4 := Lib.hid (below_then HBR.out hN4.below)
        have hba := (Below.refl w4.heap.size w4).alloc (Nat.le_refl _) (.cells #[.slice A4 28 c4] 24)
        have hrows : RdRows (w4.alloc (.cells #[.slice A4 28 c4] 24)) (some ⟨w4.heap.size, 0, none⟩) 1 [frontM t.toNat b.toNat c.toNat] :=
          (RowVals.cons (RowVals.nil w4) HF4.out (frontM_length _ _ _).symm).rows 24 1 rfl (by simp) rfl
        have PC := crcSum_any (HT3.out.below (below_then hN4.below hba)) hrows (n := 1) rfl
        have hcat : cat [frontM t.toNat b.toNat c.toNat] = frontM t.toNat b.toNat c.toNat := by rw [cat_cons, cat_nil, List.append_nil]
        rw [hcat] at PC
        have hlt := crcM_lt 0 (frontM t.toNat b.toNat c.toNat) (by omega)
        obtain ⟨S, hS⟩ : ∃ S, crcM 0 (frontM t.toNat b.toNat c.toNat) = S := ⟨_, rfl⟩
        rw [hS] at PC hlt
        have HPC := Lib.hid PC
        have HS := Lib.hid hS
        have HB5 := Lib.hid (below_then HB4.out hba)
        have P5 := put4_any (HF4.out.below hba) (n := 28) (frontM_length _ _ _).symm (by rw [frontM_length]; omega) (S : Int) (by omega) (by omega)
        rw [Int.toNat_natCast] at P5
        have hl32 : (frontM t.toNat b.toNat c.toNat ++ leB 4 S).length = 32 := by rw [List.length_append, frontM_length, leB_length]
        rw [hl32] at P5
        have HP5 := Lib.hid P5
        have HL32 := Lib.hid hl32
        have HR5 := Lib.hid ((hR3.below hN4.below).below hba)
        clear hba hrows PC hcat hlt hS P5 hl32 hR3 hN4 HP4
        go_wp2_with fail
        refine HPC.out.mono ?_
        rintro e w5 ⟨rfl, rfl⟩
        go_wp2_with fail
        refine HP5.out.mono ?_
        rintro e w6 ⟨A6, c6, rfl, hN6⟩
        have P6 := put8_any hN6.rda (n := 32) HL32.out.symm (by rw [HL32.out]; omega) t (by omega) (by omega)
        have hl40 : (frontM t.toNat b.toNat c.toNat ++ leB 4 S ++ leB 8 t.toNat).length = 40 := by rw [List.length_append, HL32.out, leB_length]
        rw [hl40] at P6
        have HP6 := Lib.hid P6
        have y0 := (HR5.out.below hN6.below).cell (j := 0) (v := .int .i64 t) rfl
        have HB6 := Lib.hid (below_then HB5.out hN6.below)
        have hm : mastL t.toNat b.toNat c.toNat = frontM t.toNat b.toNat c.toNat ++ leB 4 S ++ leB 8 t.toNat := by unfold mastL; rw [HS.out]
        have HM := Lib.hid hm
        have HL40 := Lib.hid hl40
        clear P6 hl40 hN6 hm HPC HP5
        go_wp2_with fail
        refine HP6.out.mono ?_
        rintro e w7 ⟨A7, c7, rfl, hN7⟩
        have HN := Lib.hid (show New 5 w w7 A7 c7 (mastL t.toNat b.toNat c.toNat) from ⟨by rw [HM.out]; exact Own8.mono hN7.own (Nat.le_trans hb1.size HB6.out.size), below_then (below_then hb1 HB6.out) hN7.below⟩)
        clear hN7 y0
        go_wp2_with fail
        go_ret2
        exact ⟨A7, c7, (by rw [mastL_length]; rfl), HN.out⟩
end Go.Proofs.YtgelgjghmoddoaaDoor
