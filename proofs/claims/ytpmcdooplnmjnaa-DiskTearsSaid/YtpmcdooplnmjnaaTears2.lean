import Derived.Test.YtpmcdooplnmjnaaTearsPure
/- DiskTears: the walk, place 2. -/
set_option linter.unusedVariables false
set_option linter.unusedSimpArgs false
namespace Go.Proofs.Ytpmcdooplnmjnaa
open Go.RowKit Go.Tm
set_option maxHeartbeats 400000
set_option maxRecDepth 100000
attribute [local go_sem ↓] Go.wp_at_zero Go.wp_at_succ

set_option maxHeartbeats 4000000 in
theorem tears2_walk {w : World} (P K M : Nat) (a b : UInt8) (place k : Int) (hs : shapeB P K M = true) (hpl : restI place 4 = 2) (p0 : -9223372036854775808 ≤ place) (p1 : place ≤ 9223372036854775807) (k0 : -9223372036854775808 ≤ k) (k1 : k ≤ 9223372036854775807) :
    Calls Try.prog 3 #[.agg #[.int .i64 P, .int .i64 K, .int .i64 M], .agg #[.int .u8 (a.toNat : Int), .int .u8 (b.toNat : Int), .int .i64 place, .int .i64 k]] w fun e w' => e = .returned (.bool true) ∧ Below w.heap.size w w' := by
  obtain ⟨q1, q2, q3, q4, q5, q6⟩ := shapeB_yes hs
  have hb0 : Below w.heap.size w ((w.alloc (.cells #[.int .i64 P, .int .i64 K, .int .i64 M] 23)).alloc (.cells #[.int .u8 (a.toNat : Int), .int .u8 (b.toNat : Int), .int .i64 place, .int .i64 k] 25)) := ((Below.refl _ _).alloc (Nat.le_refl _) _).alloc (by simp) _
  have rS : RowC ((w.alloc (.cells #[.int .i64 P, .int .i64 K, .int .i64 M] 23)).alloc (.cells #[.int .u8 (a.toNat : Int), .int .u8 (b.toNat : Int), .int .i64 place, .int .i64 k] 25)) w.heap.size 23 [.int .i64 P, .int .i64 K, .int .i64 M] := (show RowC (w.alloc (.cells #[.int .i64 P, .int .i64 K, .int .i64 M] 23)) w.heap.size 23 [.int .i64 P, .int .i64 K, .int .i64 M] from heap_alloc_new _ _).below ((Below.refl _ _).alloc (Nat.le_refl _) _)
  have rT : RowC ((w.alloc (.cells #[.int .i64 P, .int .i64 K, .int .i64 M] 23)).alloc (.cells #[.int .u8 (a.toNat : Int), .int .u8 (b.toNat : Int), .int .i64 place, .int .i64 k] 25)) (w.heap.size + 1) 25 [.int .u8 (a.toNat : Int), .int .u8 (b.toNat : Int), .int .i64 place, .int .i64 k] := by
    have := heap_alloc_new (w.alloc (.cells #[.int .i64 P, .int .i64 K, .int .i64 M] 23)) (.cells #[.int .u8 (a.toNat : Int), .int .u8 (b.toNat : Int), .int .i64 place, .int .i64 k] 25)
    have hz : (w.alloc (.cells #[.int .i64 P, .int .i64 K, .int .i64 M] 23)).heap.size = w.heap.size + 1 := by simp
    rw [hz] at this
    exact this
  obtain ⟨wB, hwB⟩ : ∃ wB, (w.alloc (.cells #[.int .i64 P, .int .i64 K, .int .i64 M] 23)).alloc (.cells #[.int .u8 (a.toNat : Int), .int .u8 (b.toNat : Int), .int .i64 place, .int .i64 k] 25) = wB := ⟨_, rfl⟩
  rw [hwB] at hb0 rS rT
  obtain ⟨SB, hSB⟩ : ∃ SB, w.heap.size = SB := ⟨_, rfl⟩
  have HB0 := Lib.hid hb0
  rw [hSB] at rS rT
  have RS := Lib.hid rS
  have RT := Lib.hid rT
  have hn : plN P 2 < P + 3 := by unfold plN; omega
  have hsz : (40 : Int) = ((sizeD P K (plN P 2) : Nat) : Int) := by
    unfold sizeD plN
    rw [if_neg (by omega), if_neg (by omega)]; rfl
  obtain ⟨s1, s2, s3, s4, HT⟩ := tears_pure P K M (plN P 2) a b hn
  obtain ⟨n, hnn⟩ : ∃ n, plN P 2 = n := ⟨_, rfl⟩
  rw [hnn] at hn hsz HT
  have hszlo := sizeD_lo P K n
  have hszhi := sizeD_hi P K n
  obtain ⟨SZ, hSZ⟩ : ∃ SZ, sizeD P K n = SZ := ⟨_, rfl⟩
  rw [hSZ] at hsz HT hszlo hszhi
  have hz200 : SZ ≤ 200 := by omega
  have HNN := Lib.hid hnn
  have HSZ := Lib.hid hSZ
  have HSE := Lib.hid hsz
  have HTS := Lib.hid HT
  have HHead := Lib.hid (head_any (w := wB))
  have HMOD : Hid (∀ W, Calls Try.prog 10 #[.int .i64 place, .int .i64 4] W fun e w' => e = .returned (.int .i64 2) ∧ W = w') := Lib.hid fun W => by
    have := mod_any (w := W) place 4 p0 p1 (by omega) (by omega) (mm := 4) rfl
    rw [hpl] at this
    exact this
  have HPQ : Hid (1 ≤ P ∧ P ≤ 16) := Lib.hid (by omega)
  have HPP := Lib.hid (And.intro q1 (And.intro q2 (And.intro q3 (And.intro q4 hs))))
  clear rS rT hb0 hnn hSZ hsz HT hpl p0 p1 hs
  go_enter Try.func3, Try.ntmps3
  go_wp2_with fail
  refine HHead.out.mono ?_
  rintro e w1 ⟨rfl, hb1⟩
  have HF1 := Lib.hid ((Fr.start wB).new hb1 (Ext.refl _ (fun _ => (0, 7))))
  have x0 := (RS.out.below hb1).cell (j := 0) (v := .int .i64 P) rfl
  have x1 := (RS.out.below hb1).cell (j := 1) (v := .int .i64 K) rfl
  have x2 := (RS.out.below hb1).cell (j := 2) (v := .int .i64 M) rfl
  have PN := diskNew_any (w := w1) P K M (fun _ => (0, 7)) 1 (by omega)
  have HPN : Hid (Calls Try.prog 9 #[.agg #[.int .i64 P, .int .i64 K, .int .i64 M]] w1 fun e w' => ∃ p χ', e = .returned (.tuple #[.pointer (some ⟨p, 0, none⟩), .int .i64 0]) ∧ NewD w1 w' (fun _ => (0, 7)) χ' 1 p (blankS P K M)) := Lib.hid (PN.mono fun e w' h => by
    rcases h with ⟨h, _⟩ | ⟨_, p, χ', h1, h2⟩
    · rw [HPP.out.2.2.2.2] at h; cases h
    · exact ⟨p, χ', h1, by simpa using h2⟩)
  clear PN hb1
  go_wp2_with fail
  refine HPN.out.mono ?_
  rintro e w2 ⟨p, χ2, rfl, N2⟩
  have HF2 := Lib.hid (HF1.out.new N2.below N2.ext)
  have HD2 := Lib.hid N2.disk
  have y1 := (RS.out.below HF2.out.below).cell (j := 1) (v := .int .i64 K) rfl
  have z2 := (RT.out.below HF2.out.below).cell (j := 2) (v := .int .i64 place) rfl
  have z0 := (RT.out.below HF2.out.below).cell (j := 0) (v := .int .u8 (a.toNat : Int)) rfl
  clear N2 x0 x1 x2 HPN
  have kb0 : (0 : Int) ≤ (K : Int) := by omega
  have kb1 : (K : Int) ≤ 8 := by omega
  go_wp2_with fail
  refine (HMOD.out _).mono ?_
  rintro e wx ⟨rfl, rfl⟩
  go_wp2_with fail
  rw [HSE.out]
  refine (row_any SZ (by omega) a rfl rfl).mono ?_
  rintro e w3 ⟨g3, rfl, N3⟩
  have HF3 := Lib.hid (HF2.out.new N3.below (paint_ext w2.heap.size _ (0, 8)))
  have PW := written_any (HD2.out.below (paint_ext w2.heap.size _ (0, 8)) N3.below) (show (0 : Nat) < _ by omega) (show (0 : Nat) < _ by omega) 2 (by omega) N3.rda (by rw [repB_length]; omega) (fun x hx => by
    injection hx with hx
    have := own8_ge N3.own (q := g3) rfl
    rw [← hx, paint_new this]
    decide) (repB_length SZ a).symm
  rw [show plN (blankS P K M).P 2 = n from HNN.out, HTS.out.e1, HTS.out.w1] at PW
  have HPW := Lib.hid PW
  clear PW N3 y1 z2 z0
  go_wp2_with fail
  refine HPW.out.mono ?_
  rintro e w4 ⟨χ4, rfl, D4⟩
  have HF4 := Lib.hid (HF3.out.touch D4.touch (by omega))
  have PS := sync_any D4.disk (by have := HTS.out.a1; omega) (by have := HTS.out.l1; omega)
  rw [HTS.out.e2, HTS.out.w2] at PS
  have HPS := Lib.hid PS
  clear D4 PS
  go_wp2_with fail
  refine HPS.out.mono ?_
  rintro e w5 ⟨χ5, rfl, D5⟩
  have HF5 := Lib.hid (HF4.out.touch D5.touch (by omega))
  have PM := syncMasters_any D5.disk (by have := HTS.out.a1; omega) (by have := HTS.out.l1; omega)
  rw [HTS.out.e3, HTS.out.w3] at PM
  have HPM := Lib.hid PM
  clear D5 PM
  go_wp2_with fail
  refine HPM.out.mono ?_
  rintro e w6 ⟨χ6, rfl, D6⟩
  have HF6 := Lib.hid (HF5.out.touch D6.touch (by omega))
  have HD6 := Lib.hid D6.disk
  have z1 := (RT.out.below HF6.out.below).cell (j := 1) (v := .int .u8 (b.toNat : Int)) rfl
  clear D6
  go_wp2_with fail
  refine (row_any SZ (by omega) b rfl rfl).mono ?_
  rintro e w7 ⟨g7, rfl, N7⟩
  have HF7 := Lib.hid (HF6.out.new N7.below (paint_ext w6.heap.size _ (0, 8)))
  have PW := written_any (HD6.out.below (paint_ext w6.heap.size _ (0, 8)) N7.below) (by have := HTS.out.a1; omega) (by have := HTS.out.l1; omega) 2 (by omega) N7.rda (by rw [repB_length]; omega) (fun x hx => by
    injection hx with hx
    have := own8_ge N7.own (q := g7) rfl
    rw [← hx, paint_new this]
    decide) (repB_length SZ b).symm
  rw [HTS.out.p1.2.2.1, HNN.out, HTS.out.e4, HTS.out.w4] at PW
  have HPW := Lib.hid PW
  clear PW N7 z1
  go_wp2_with fail
  refine HPW.out.mono ?_
  rintro e w8 ⟨χ8, rfl, D8⟩
  have HF8 := Lib.hid (HF7.out.touch D8.touch (by omega))
  have HD8 := Lib.hid D8.disk
  have z3 := (RT.out.below HF8.out.below).cell (j := 3) (v := .int .i64 k) rfl
  clear D8
  have hb9 := (Below.refl w8.heap.size w8).alloc (Nat.le_refl _) (.cells #[.int .i64 k] 3)
  have rd9 : RdI (w8.alloc (.cells #[.int .i64 k] 3)) (some ⟨w8.heap.size, 0, none⟩) 1 [k] := ⟨by simp, by unfold maxLen; omega, fun _ => ⟨w8.heap.size, 0, rfl, fun j hj => by
    have : j = 0 := by simpa using hj
    subst this
    have hr : RowC (w8.alloc (.cells #[.int .i64 k] 3)) w8.heap.size 3 [.int .i64 k] := heap_alloc_new _ _
    exact hr.cell rfl⟩⟩
  have HF9 := Lib.hid (HF8.out.new hb9 (paint_ext w8.heap.size _ (0, 8)))
  have HD9 := Lib.hid (HD8.out.below (paint_ext w8.heap.size _ (0, 8)) hb9)
  have HPC := Lib.hid (crash_any HD9.out (by have := HTS.out.l1; omega) rd9 (by intro x hx; rw [List.mem_singleton.1 hx]; exact k1) (by simp) 0 (by omega) (by omega) 2 (by omega) (KL := 1) rfl)
  clear hb9 rd9
  go_wp2_with fail
  refine HPC.out.mono ?_
  rintro e w10 ⟨p10, χ10, rfl, N10⟩
  have HF10 := Lib.hid (HF9.out.new N10.below N10.ext)
  have HD10 := Lib.hid (HD9.out.below N10.ext N10.below)
  have HC10 := Lib.hid N10.disk
  have z3 := (RT.out.below HF10.out.below).cell (j := 3) (v := .int .i64 k) rfl
  clear N10
  obtain ⟨NN, hNN⟩ : ∃ NN, keepN k SZ = NN := ⟨_, rfl⟩
  have hNle : NN ≤ SZ := by
    rw [← hNN]
    unfold keepN
    split
    · omega
    · split
      · omega
      · have : (k - 1).toNat % (SZ + 1) < SZ + 1 := Nat.mod_lt _ (by omega)
        omega
  obtain ⟨c1, c2, c3, c4, c5⟩ := tears_crash HTS.out hn k
  rw [hNN] at c1
  have PL1 := lasts_any HC10.out 3
  rw [c5, c1, c3, c4, List.take_nil] at PL1
  have PI3 := fun (W : World) (X : Col) (hx : Ext w10.heap.size χ10 X) (hb : Below w10.heap.size w10 W) => image_any (HC10.out.below hx hb) 6
  rw [c5, c2, c1, c3] at PI3
  have HPL1 := Lib.hid PL1
  have HPI3 := Lib.hid PI3
  obtain ⟨MM, hMM⟩ : ∃ MM, SZ - NN = MM := ⟨_, rfl⟩
  have HMM := Lib.hid hMM
  have hcase : (k = 1 ∧ NN = SZ) ∨ (1 < k ∧ (k - 1) % ((SZ : Int) + 1) = (NN : Int)) ∨ (k < 1 ∧ NN = 0) := by
    rw [← hNN]
    unfold keepN
    by_cases h1 : k < 1
    · rw [if_pos h1]; exact .inr (.inr ⟨h1, rfl⟩)
    · rw [if_neg h1]
      by_cases h2 : k = 1
      · rw [if_pos h2]; exact .inl ⟨h2, rfl⟩
      · rw [if_neg h2]
        refine .inr (.inl ⟨by omega, ?_⟩)
        rw [Int.natCast_emod, Int.toNat_of_nonneg (by omega)]
        rfl
  have HNK := Lib.hid hNN
  have HCR := Lib.hid (tears_crash HTS.out hn k)
  have HSL := Lib.hid (And.intro hszlo hszhi)
  clear PL1 PI3 c1 c2 c3 c4 c5 hNN HPC HPW HPS HPM hszlo hszhi
  rcases hcase with ⟨rfl, hN⟩ | ⟨hk1, hN⟩ | ⟨hk1, hN⟩
  · have HNI : Hid ((SZ : Int) = (NN : Int)) := Lib.hid (by omega)
    have hsub2 : IntKind.i64.wrap 0 = (MM : Int) := by rw [show (MM : Int) = 0 by omega]; exact IntWalk.i64_in _ (by omega)
    have hsub : IntKind.i64.wrap ((SZ : Int) - (SZ : Int)) = (MM : Int) := by rw [show (SZ : Int) - (SZ : Int) = (MM : Int) by omega]; exact IntWalk.i64_in _ (by omega)
    clear hN hMM
    go_wp2_with fail
    refine HPL1.out.mono ?_
    rintro e w11 ⟨v1, χ11, rfl, N11⟩
    obtain ⟨gA, bA0, kA0, AA2, cA2, bA1, kA1, bA2, kA2, VA0, LA, VA1, VA2, rfl⟩ := N11.lit
    have hb12 := (Below.refl w11.heap.size w11).alloc (Nat.le_refl _) (.cells #[.slice (some ⟨gA, 0, none⟩) P P, .slice (some ⟨bA0, 0, none⟩) VA0 kA0, .slice AA2 LA cA2, .slice (some ⟨bA1, 0, none⟩) VA1 kA1, .slice (some ⟨bA2, 0, none⟩) VA2 kA2] 43)
    have hRA : RowC (w11.alloc (.cells #[.slice (some ⟨gA, 0, none⟩) P P, .slice (some ⟨bA0, 0, none⟩) VA0 kA0, .slice AA2 LA cA2, .slice (some ⟨bA1, 0, none⟩) VA1 kA1, .slice (some ⟨bA2, 0, none⟩) VA2 kA2] 43)) w11.heap.size 43 [.slice (some ⟨gA, 0, none⟩) P P, .slice (some ⟨bA0, 0, none⟩) VA0 kA0, .slice AA2 LA cA2, .slice (some ⟨bA1, 0, none⟩) VA1 kA1, .slice (some ⟨bA2, 0, none⟩) VA2 kA2] := heap_alloc_new _ _
    obtain ⟨gI1, vs1, lv1, hI1⟩ := N11.img
    have hx12 := paint_ext w11.heap.size χ11 (0, 8)
    have hbx12 := below_then N11.below hb12
    have hex12 : Ext w10.heap.size χ10 (paint w11.heap.size χ11 (0, 8)) := N11.ext.trans hx12 N11.below.size
    have HF12 := Lib.hid (HF10.out.new hbx12 hex12)
    have HI12 := Lib.hid (hI1.below hx12 hb12)
    have PL2 := lasts_any (HD10.out.below hex12 hbx12) 4
    rw [HTS.out.p1.2.2.2, HTS.out.lasts, HTS.out.log.1, List.take_nil] at PL2
    have HPL2 := Lib.hid PL2
    have HB12 := Lib.hid hbx12
    have HX12 := Lib.hid hex12
    have HRA := Lib.hid hRA
    obtain ⟨wC, hwC⟩ : ∃ wC, w11.alloc (.cells #[.slice (some ⟨gA, 0, none⟩) P P, .slice (some ⟨bA0, 0, none⟩) VA0 kA0, .slice AA2 LA cA2, .slice (some ⟨bA1, 0, none⟩) VA1 kA1, .slice (some ⟨bA2, 0, none⟩) VA2 kA2] 43) = wC := ⟨_, rfl⟩
    obtain ⟨χ12, hχ12⟩ : ∃ χ12, paint w11.heap.size χ11 (0, 8) = χ12 := ⟨_, rfl⟩
    rw [hwC] at HF12 HI12 HPL2 HB12 HRA
    rw [hχ12] at HF12 HI12 HPL2 HX12
    obtain ⟨S1, hS1⟩ : ∃ S1, w11.heap.size = S1 := ⟨_, rfl⟩
    rw [hS1] at HRA
    clear PL2 hRA hb12 hbx12 hex12 hx12 hI1 N11 hχ12
    unfold imgV
    go_wp2_with fail
    clear hwC hS1
    refine HPL2.out.mono ?_
    rintro e w13 ⟨v2, χ13, rfl, N13⟩
    obtain ⟨gB, bB0, kB0, AB2, cB2, bB1, kB1, bB2, kB2, VB0, LB, VB1, VB2, rfl⟩ := N13.lit
    have hb14 := (Below.refl w13.heap.size w13).alloc (Nat.le_refl _) (.cells #[.slice (some ⟨gB, 0, none⟩) P P, .slice (some ⟨bB0, 0, none⟩) VB0 kB0, .slice AB2 LB cB2, .slice (some ⟨bB1, 0, none⟩) VB1 kB1, .slice (some ⟨bB2, 0, none⟩) VB2 kB2] 43)
    have hRB : RowC (w13.alloc (.cells #[.slice (some ⟨gB, 0, none⟩) P P, .slice (some ⟨bB0, 0, none⟩) VB0 kB0, .slice AB2 LB cB2, .slice (some ⟨bB1, 0, none⟩) VB1 kB1, .slice (some ⟨bB2, 0, none⟩) VB2 kB2] 43)) w13.heap.size 43 [.slice (some ⟨gB, 0, none⟩) P P, .slice (some ⟨bB0, 0, none⟩) VB0 kB0, .slice AB2 LB cB2, .slice (some ⟨bB1, 0, none⟩) VB1 kB1, .slice (some ⟨bB2, 0, none⟩) VB2 kB2] := heap_alloc_new _ _
    obtain ⟨gI2, vs2, lv2, hI2⟩ := N13.img
    have hx14 := paint_ext w13.heap.size χ13 (0, 8)
    have hbx14 := below_then N13.below hb14
    have hex14 : Ext wC.heap.size χ12 (paint w13.heap.size χ13 (0, 8)) := N13.ext.trans hx14 N13.below.size
    have HF14 := Lib.hid (HF12.out.new hbx14 hex14)
    have HI1 := Lib.hid (HI12.out.below hex14 hbx14)
    have HI2 := Lib.hid (hI2.below hx14 hb14)
    have HB14 := Lib.hid (below_then HB12.out hbx14)
    have HX14 := Lib.hid (HX12.out.trans hex14 HB12.out.size)
    have HRA := Lib.hid (HRA.out.below hbx14)
    have HRB := Lib.hid hRB
    obtain ⟨wD, hwD⟩ : ∃ wD, w13.alloc (.cells #[.slice (some ⟨gB, 0, none⟩) P P, .slice (some ⟨bB0, 0, none⟩) VB0 kB0, .slice AB2 LB cB2, .slice (some ⟨bB1, 0, none⟩) VB1 kB1, .slice (some ⟨bB2, 0, none⟩) VB2 kB2] 43) = wD := ⟨_, rfl⟩
    obtain ⟨χ14, hχ14⟩ : ∃ χ14, paint w13.heap.size χ13 (0, 8) = χ14 := ⟨_, rfl⟩
    rw [hwD] at HF14 HI1 HI2 HB14 HRA HRB
    rw [hχ14] at HF14 HI1 HI2 HX14
    obtain ⟨S2, hS2⟩ : ∃ S2, w13.heap.size = S2 := ⟨_, rfl⟩
    rw [hS2] at HRB
    have x0 := (HRA.out).cell (j := 0) (v := .slice (some ⟨gA, 0, none⟩) P P) rfl
    have x1 := (HRA.out).cell (j := 1) (v := .slice (some ⟨bA0, 0, none⟩) VA0 kA0) rfl
    have x2 := (HRA.out).cell (j := 2) (v := .slice AA2 LA cA2) rfl
    have x3 := (HRA.out).cell (j := 3) (v := .slice (some ⟨bA1, 0, none⟩) VA1 kA1) rfl
    have x4 := (HRA.out).cell (j := 4) (v := .slice (some ⟨bA2, 0, none⟩) VA2 kA2) rfl
    have y0 := (HRB.out).cell (j := 0) (v := .slice (some ⟨gB, 0, none⟩) P P) rfl
    have y1 := (HRB.out).cell (j := 1) (v := .slice (some ⟨bB0, 0, none⟩) VB0 kB0) rfl
    have y2 := (HRB.out).cell (j := 2) (v := .slice AB2 LB cB2) rfl
    have y3 := (HRB.out).cell (j := 3) (v := .slice (some ⟨bB1, 0, none⟩) VB1 kB1) rfl
    have y4 := (HRB.out).cell (j := 4) (v := .slice (some ⟨bB2, 0, none⟩) VB2 kB2) rfl
    have z0 := (RS.out.below HF14.out.below).cell (j := 0) (v := .int .i64 P) rfl
    have hLM : (repB NN b ++ repB (SZ - NN) a).length = SZ := by rw [List.length_append, repB_length, repB_length]; omega
    obtain ⟨r1, kr1, hg1, hv1, hc1, ho1⟩ := HI1.out.rowAt hn hLM
    obtain ⟨r2, kr2, hg2, hv2, hc2, ho2⟩ := HI2.out.rowAt hn (repB_length SZ a)
    have PLA := lies_any HI1.out HPQ.out.1 HPQ.out.2 2 (by omega)
    rw [HNN.out, hg1] at PLA
    have HPLA := Lib.hid PLA
    have HG1 := Lib.hid (And.intro hv1 (And.intro hc1 ho1))
    have HG2 := Lib.hid (And.intro hv2 (And.intro hc2 ho2))
    have HPLB : Hid (∀ W, Below wD.heap.size wD W → Calls Try.prog 17 #[imgV (.slice (some ⟨gB, 0, none⟩) P P) (.slice (some ⟨bB0, 0, none⟩) VB0 kB0) (.slice AB2 LB cB2) (.slice (some ⟨bB1, 0, none⟩) VB1 kB1) (.slice (some ⟨bB2, 0, none⟩) VB2 kB2), .int .i64 2] W fun e w' => e = .returned (.slice (some ⟨r2, 0, none⟩) SZ kr2) ∧ Below W.heap.size W w') := Lib.hid fun W hb => by
      have := lies_any (HI2.out.below (Ext.refl _ _) hb) HPQ.out.1 HPQ.out.2 2 (by omega)
      rw [HNN.out, hg2] at this
      exact this
    have HPI5 : Hid (∀ W, Below wD.heap.size wD W → Calls Try.prog 18 #[.pointer (some ⟨p, 0, none⟩)] W fun e w' => ∃ v χ', e = .returned v ∧ NewI W w' χ14 χ' 5 v P ((blankR P K).set n (repB SZ b)) []) := Lib.hid fun W hb => by
      have := image_any (HD10.out.below HX14.out (below_then HB14.out hb)) 5
      rw [HTS.out.p1.2.2.2, HTS.out.reads, HTS.out.log.1] at this
      exact this
    clear PLA hRB hb14 hbx14 hex14 hx14 hI2 N13 hχ14 hg1 hg2 hv1 hv2 hc1 hc2 ho1 ho2 hLM
    unfold imgV at HPLA HPLB
    unfold imgV
    go_wp2_with fail
    clear hwD hS2
    refine HPLA.out.mono ?_
    rintro e w15 ⟨rfl, hb15⟩
    have HB15 := Lib.hid hb15
    clear x0 x1 x2 x3 x4 y0 y1 y2 y3 y4 z0
    have y0 := (HRB.out.below hb15).cell (j := 0) (v := .slice (some ⟨gB, 0, none⟩) P P) rfl
    have y1 := (HRB.out.below hb15).cell (j := 1) (v := .slice (some ⟨bB0, 0, none⟩) VB0 kB0) rfl
    have y2 := (HRB.out.below hb15).cell (j := 2) (v := .slice AB2 LB cB2) rfl
    have y3 := (HRB.out.below hb15).cell (j := 3) (v := .slice (some ⟨bB1, 0, none⟩) VB1 kB1) rfl
    have y4 := (HRB.out.below hb15).cell (j := 4) (v := .slice (some ⟨bB2, 0, none⟩) VB2 kB2) rfl
    clear hb15
    go_wp2_with fail
    refine (HPLB.out _ HB15.out).mono ?_
    rintro e w16 ⟨rfl, hb16⟩
    have HB16 := Lib.hid (below_then HB15.out hb16)
    clear hb16 y0 y1 y2 y3 y4
    go_wp2_with fail
    refine (HPI5.out _ HB16.out).mono ?_
    rintro e w17 ⟨v3, χ17, rfl, N17⟩
    obtain ⟨gI3, vs3, lv3, hI3⟩ := N17.img
    obtain ⟨r3, kr3, hg3, hv3, hc3, ho3⟩ := hI3.rowAt hn (repB_length SZ b)
    have PLC := lies_any hI3 HPQ.out.1 HPQ.out.2 2 (by omega)
    rw [HNN.out, hg3] at PLC
    have HPLC := Lib.hid PLC
    have HG3 := Lib.hid (own_at ho3).2
    have HB17 := Lib.hid (below_then HB16.out N17.below)
    clear PLC hg3 hv3 hc3 ho3 hI3 N17
    go_wp2_with fail
    refine HPLC.out.mono ?_
    rintro e w18 ⟨rfl, hb18⟩
    have HG3 := Lib.hid (HG3.out.below hb18)
    have HB18 := Lib.hid (below_then HB17.out hb18)
    clear hb18
    have HRT := Lib.hid (RT.out.below HF14.out.below)
    have hbw : Below wD.heap.size wD w18.drew := below_drew1 HB18.out
    have HG1R := Lib.hid (own_at HG1.out.2.2).2
    have HG2R := Lib.hid (own_at HG2.out.2.2).2
    have hLM : (repB NN b ++ repB MM a).length = SZ := by rw [List.length_append, repB_length, repB_length]; have := HMM.out; omega
    have HLM := Lib.hid hLM
    have HMM2 : Hid (SZ - NN = MM) := HMM
    have hG1R : Hid (Rda wD (some ⟨r1, 0, none⟩) kr1 (repB NN b ++ repB MM a)) := Lib.hid (by have := HG1R.out; rw [HMM.out] at this; exact this)
    have hG3D : Hid (Rda w18 (some ⟨r3, 0, none⟩) kr3 (repB SZ b)) := HG3
    clear hLM
    go_wp2_with fail
    go_region_held3 (fun w' => w'.cell? ⟨SB + 1, 0, none⟩ = some (.int .u8 (a.toNat : Int)) ∧ w'.cell? ⟨SB + 1, 1, none⟩ = some (.int .u8 (b.toNat : Int))) (first | exact ⟨(HRT.out.below (by assumption)).cell (j := 0) (v := .int .u8 (a.toNat : Int)) rfl, (HRT.out.below (by assumption)).cell (j := 1) (v := .int .u8 (b.toNat : Int)) rfl⟩ | go_keep)
      (first
        | (go_at_call 19; have tk := tok7; refine (same_yes (hG3D.out.below h1827) N27.rda (repB_length SZ b).symm (repB_length SZ b).symm rfl).mono ?_; rintro e wx ⟨rfl, rfl⟩; have tok8 : True := trivial)
        | (go_at_call 12; have tk := tok6; refine (row_any SZ (by omega) b rfl rfl).mono ?_; rintro e w27 ⟨g27, rfl, N27⟩; have hb27 := below_then hb25 N27.below; have h1827 := below_then h1825 N27.below; have tok7 : True := trivial)
        | (go_at_call 19; have tk := tok5; refine (same_yes (HG2R.out.below hb25) N25.rda (repB_length SZ a).symm (repB_length SZ a).symm rfl).mono ?_; rintro e wx ⟨rfl, rfl⟩; have tok6 : True := trivial)
        | (go_at_call 12; have tk := tok4; refine (row_any SZ (by omega) a rfl rfl).mono ?_; rintro e w25 ⟨g25, rfl, N25⟩; have hb25 := below_then hb23 N25.below; have h1825 := below_then h1823 N25.below; have tok5 : True := trivial)
        | (go_at_call 19; have tk := tok3; refine (same_yes (hG1R.out.below hb23) hr23 HLM.out.symm HLM.out.symm rfl).mono ?_; rintro e wx ⟨rfl, rfl⟩; have tok4 : True := trivial)
        | (have tk := tok2; refine step_app8 rfl _ _ rfl tU8 rfl ho21 rfl (repB_length MM a).symm hr22 (by rw [repB_length, repB_length]; have := HMM.out; omega) hsz22 ?_; intro v23 w23 hO23 hg23; obtain ⟨A23, c23, hv23, hr23⟩ := own_rda hO23; rw [HLM.out] at hv23; subst hv23; have hb23 : Below wD.heap.size wD w23 := hb22.grown hg23 hb22.size (fun q hq => Nat.le_trans hbw.size (own8_ge ho21 hq)); have h1823 : Below w18.heap.size w18 w23 := h1822.grown hg23 h1822.size (fun q hq => own8_ge ho21 hq); have tok3 : True := trivial)
        | (go_at_call 12; have tk := tok1; refine (row_any MM (by have := HMM.out; omega) a (by have h1 := HMM.out; have h2 := HNI.out; omega) rfl).mono ?_; rintro e w22 ⟨g22, rfl, N22⟩; have hb22 := below_then hb21 N22.below; have h1822 := below_then h1821 N22.below; have ho21 := N21.own.below N22.below; rw [repB_length] at ho21; have hr22 := N22.rda; have hsz22 : w18.drew.heap.size ≤ w22.heap.size := h1822.size; have tok2 : True := trivial)
        | (go_at_call 12; refine (row_any NN (by omega) b (by have h2 := HNI.out; omega) rfl).mono ?_; rintro e w21 ⟨g21, rfl, N21⟩; have hb21 := below_then hbw N21.below; have h1821 : Below w18.heap.size w18 w21 := below_then (below_drew1 (Below.refl _ _)) N21.below; have tok1 : True := trivial))
    have HB27 := Lib.hid hb27
    have HF27 := Lib.hid (HF14.out.new hb27 (Ext.refl _ _))
    clear hsub h1827 h1825 h1823 h1822 h1821 hb27 hb25 hb23 hb22 hb21 hbw N21 N22 N25 N27 ho21 hO23 hg23 hr22 hr23 hsz22 tk tok1 tok2 tok3 tok4 tok5 tok6 tok7 tok8
    obtain ⟨BN, hBN⟩ : ∃ BN, repB NN b ++ repB MM a = BN := ⟨_, rfl⟩
    obtain ⟨OD, hOD⟩ : ∃ OD, repB SZ a = OD := ⟨_, rfl⟩
    have hOl : OD.length = SZ := by rw [← hOD]; exact repB_length _ _
    have hBl : BN.length = SZ := by rw [← hBN]; exact HLM.out
    have hg1 : Rda w27 (some ⟨r1, 0, none⟩) kr1 BN := by rw [← hBN]; exact hG1R.out.below HB27.out
    have ho2 : Own8 w27 0 5 (.slice (some ⟨r2, 0, none⟩) SZ kr2) OD := by rw [← hOD]; exact HG2.out.2.2.below HB27.out
    have hr12 : r1 ≠ r2 := fun e => by have h1 := HG1.out.2.1; have h2 := HG2.out.2.1; rw [e, h2] at h1; injection h1 with h1; omega
    have hlt2 : r2 < w27.heap.size := own8_lt ho2
    have HBN := Lib.hid hBN
    have HOD := Lib.hid hOD
    have HOL := Lib.hid hOl
    have HBL := Lib.hid hBl
    have HG1W := Lib.hid hg1
    have ho20 : Own8 w27 0 5 (.slice (some ⟨r2, 0, none⟩) SZ kr2) (BN.take 0 ++ OD.drop 0) := by simpa using ho2
    clear hBN hOD hOl hBl hg1 ho2
    go_wp2_with fail
    go_loopw [20] (fun i wr => ∃ q : Nat, q ≤ SZ ∧ i = .int .i64 q ∧ Own8 wr 0 5 (.slice (some ⟨r2, 0, none⟩) SZ kr2) (BN.take q ++ OD.drop q) ∧ w27.grownBy wr (some r2)) (fun i _ => SZ - (intOf i).toNat)
    case atStart => exact ⟨0, by omega, rfl, ho20, grown_refl _ _⟩
    case round =>
      obtain ⟨q, hq, rfl, hO, hgr⟩ := hrel
      by_cases hqt : q < SZ
      · have hml : (BN.take q ++ OD.drop q).length = SZ := by rw [List.length_append, List.length_take, List.length_drop, HBL.out, HOL.out]; omega
        have m0 : (0 : Int) ≤ (q : Int) := by omega
        have m1 : (q : Int) < (SZ : Int) := by omega
        have hr1 := HG1W.out.grown hgr (fun a ha e => by injection ha with ha; injection e with e; rw [← ha] at e; exact hr12 e)
        obtain ⟨b', o', hA, hcc⟩ := hr1.cells (by rw [HBL.out]; omega)
        injection hA with hA
        injection hA with hA1 hA2
        subst hA1
        have hA2' : o' = 0 := hA2.symm
        subst hA2'
        have d1 := hcc q (by rw [HBL.out]; exact hqt)
        rw [Nat.zero_add] at d1
        have d2 := hO.cellAt hml.symm q (by omega)
        have f2 := hO.unfrozen hml.symm q
        obtain ⟨bt, hbt⟩ : ∃ bt, BN.getD q 0 = bt := ⟨_, rfl⟩
        rw [hbt] at d1
        have hst := hO.stored hml.symm q bt
        have hset : (BN.take q ++ OD.drop q).set q bt = BN.take (q + 1) ++ OD.drop (q + 1) := by
          rw [← hbt]; exact mix_set (by rw [HBL.out]; exact hqt) (by rw [HOL.out]; exact hqt)
        rw [hset] at hst
        have HST := Lib.hid hst
        have HGR := Lib.hid (grown_trans hgr (cell_grown wr r2 q (.int .u8 (bt.toNat : Int))))
        clear hst hset hbt hO hgr hml hcc hr1
        go_wp2_with fail
        go_roundw
        case rel => exact ⟨q + 1, by omega, by go_num, HST.out.1, HGR.out⟩
        case measure => simp [intOf]; omega
      · have he : SZ = q := by omega
        subst he
        have hfull : BN.take SZ ++ OD.drop SZ = BN := by rw [List.take_of_length_le (by rw [HBL.out]; exact Nat.le_refl _), List.drop_eq_nil_of_le (by rw [HOL.out]; exact Nat.le_refl _), List.append_nil]
        rw [hfull] at hO
        have hc2 := HG2.out.2.1
        have htch : Touch w27 wr χ14 χ14 4 := touch_row hgr (by rw [hc2])
        have hM1 := (HI1.out.below (Ext.refl _ _) HB27.out).touch htch (by omega)
        have hM2 := (HI2.out.below (Ext.refl _ _) HB27.out).lay hn (repB_length SZ a) HG2.out.1 hc2 hO hgr
        rw [HMM.out, HBN.out] at hM1
        have hCW := (((HC10.out.below HX14.out HB14.out).below (Ext.refl _ _) HB27.out).touch htch (by omega) (by omega))
        have PI6 := fun (W : World) (hb : Below wr.heap.size wr W) => image_any (hCW.below (Ext.refl _ _) hb) 6
        rw [HCR.out.2.2.2.2, HCR.out.2.1, HCR.out.1, HCR.out.2.2.1, HNK.out, HMM.out, HBN.out] at PI6
        have HPI6 := Lib.hid PI6
        have ho27 := HG2.out.2.2.below HB27.out
        have HRAW := Lib.hid (row_type ho27 (HRA.out.below HB27.out) (by decide) hgr)
        have HRBW := Lib.hid (row_type ho27 (HRB.out.below HB27.out) (by decide) hgr)
        have HM1 := Lib.hid (hM1.rdi HPQ.out.2)
        have HM2 := Lib.hid (hM2.rdi HPQ.out.2)
        have HFW := Lib.hid (HF27.out.touch htch (by omega))
        have hpl16 : (imgOf P ((blankR P K).set n BN) []).pages.length ≤ 16 := by
          show (List.take P _).length ≤ 16
          rw [List.length_take]
          have := HPQ.out.2
          omega
        have HPL16 := Lib.hid hpl16
        have hbw2 : Below wr.heap.size wr wr.drew := below_drew1 (Below.refl _ _)
        unfold imgV at HM1 HM2
        clear hfull hO hc2 htch hM1 hM2 hCW PI6 ho27 hpl16 hgr
        go_wp2_with fail
        go_region_held3 (fun w' => w'.cell? ⟨S1, 0, none⟩ = some (.slice (some ⟨gA, 0, none⟩) P P) ∧ w'.cell? ⟨S1, 1, none⟩ = some (.slice (some ⟨bA0, 0, none⟩) VA0 kA0) ∧ w'.cell? ⟨S1, 2, none⟩ = some (.slice AA2 LA cA2) ∧ w'.cell? ⟨S1, 3, none⟩ = some (.slice (some ⟨bA1, 0, none⟩) VA1 kA1) ∧ w'.cell? ⟨S1, 4, none⟩ = some (.slice (some ⟨bA2, 0, none⟩) VA2 kA2) ∧ w'.cell? ⟨S2, 0, none⟩ = some (.slice (some ⟨gB, 0, none⟩) P P) ∧ w'.cell? ⟨S2, 1, none⟩ = some (.slice (some ⟨bB0, 0, none⟩) VB0 kB0) ∧ w'.cell? ⟨S2, 2, none⟩ = some (.slice AB2 LB cB2) ∧ w'.cell? ⟨S2, 3, none⟩ = some (.slice (some ⟨bB1, 0, none⟩) VB1 kB1) ∧ w'.cell? ⟨S2, 4, none⟩ = some (.slice (some ⟨bB2, 0, none⟩) VB2 kB2)) (first | exact ⟨(HRAW.out.below (by assumption)).cell (j := 0) (v := .slice (some ⟨gA, 0, none⟩) P P) rfl, (HRAW.out.below (by assumption)).cell (j := 1) (v := .slice (some ⟨bA0, 0, none⟩) VA0 kA0) rfl, (HRAW.out.below (by assumption)).cell (j := 2) (v := .slice AA2 LA cA2) rfl, (HRAW.out.below (by assumption)).cell (j := 3) (v := .slice (some ⟨bA1, 0, none⟩) VA1 kA1) rfl, (HRAW.out.below (by assumption)).cell (j := 4) (v := .slice (some ⟨bA2, 0, none⟩) VA2 kA2) rfl, (HRBW.out.below (by assumption)).cell (j := 0) (v := .slice (some ⟨gB, 0, none⟩) P P) rfl, (HRBW.out.below (by assumption)).cell (j := 1) (v := .slice (some ⟨bB0, 0, none⟩) VB0 kB0) rfl, (HRBW.out.below (by assumption)).cell (j := 2) (v := .slice AB2 LB cB2) rfl, (HRBW.out.below (by assumption)).cell (j := 3) (v := .slice (some ⟨bB1, 0, none⟩) VB1 kB1) rfl, (HRBW.out.below (by assumption)).cell (j := 4) (v := .slice (some ⟨bB2, 0, none⟩) VB2 kB2) rfl⟩ | go_keep)
          (first
            | (go_at_call 20; have tk := tok2; refine (sameImages_yes hv4 (HM1.out.below hb31) HPL16.out).mono ?_; rintro e w32 ⟨rfl, hb32'⟩; have hb32 := below_then hb31 hb32'; have tok3 : True := trivial)
            | (go_at_call 18; have tk := tok1; refine (HPI6.out _ hb30).mono ?_; rintro e w31 ⟨v4, χ31, rfl, N31⟩; have hb31 := below_then hb30 N31.below; have hv4 := (fun (hI : ∃ g vs lv, ImgR w31 χ31 6 v4 P ((blankR P K).set n BN) [] g vs lv) => (show IsRdI w31 v4 (imgOf P ((blankR P K).set n BN) []) from hI.elim fun _ h => h.elim fun _ h => h.elim fun _ h => h.rdi HPQ.out.2)) N31.img; have tok2 : True := trivial)
            | (go_at_call 20; refine (sameImages_yes (HM1.out.below hbw2) (HM2.out.below hbw2) HPL16.out).mono ?_; rintro e w30 ⟨rfl, hb30'⟩; have hb30 := below_then hbw2 hb30'; have tok1 : True := trivial))
        have HEND := Lib.hid (below_then HB0.out (below_then HFW.out.below hb32))
        clear hb32 hb31 hb30 hb32' hb30' hv4 N31 hbw2 tk tok1 tok2 tok3
        go_wp2_with fail
        go_ret
        exact ⟨rfl, HEND.out⟩
  · have e1 : (k == 1) = false := beq_eq_false_iff_ne.2 (by omega)
    have d1 : IntKind.i64.wrap (k - 1) = k - 1 := IntWalk.i64_in _ (by omega)
    have d2 : IntKind.i64.wrap ((SZ : Int) + 1) = (SZ : Int) + 1 := IntWalk.i64_in _ (by omega)
    have d3 : ¬ ((SZ : Int) + 1 = 0) := by omega
    have d4 : (k - 1).tmod ((SZ : Int) + 1) = (NN : Int) := (Int.tmod_eq_emod_of_nonneg (by omega)).trans hN
    have d5 : IntKind.i64.wrap ((k - 1).tmod ((SZ : Int) + 1)) = (NN : Int) := by rw [d4]; exact IntWalk.i64_in _ (by omega)
    have HNI : Hid ((NN : Int) = (NN : Int)) := Lib.hid rfl
    have hsub : IntKind.i64.wrap ((SZ : Int) - (NN : Int)) = (MM : Int) := by rw [show (SZ : Int) - (NN : Int) = (MM : Int) by omega]; exact IntWalk.i64_in _ (by omega)
    clear hMM
    go_wp2_with fail
    refine HPL1.out.mono ?_
    rintro e w11 ⟨v1, χ11, rfl, N11⟩
    obtain ⟨gA, bA0, kA0, AA2, cA2, bA1, kA1, bA2, kA2, VA0, LA, VA1, VA2, rfl⟩ := N11.lit
    have hb12 := (Below.refl w11.heap.size w11).alloc (Nat.le_refl _) (.cells #[.slice (some ⟨gA, 0, none⟩) P P, .slice (some ⟨bA0, 0, none⟩) VA0 kA0, .slice AA2 LA cA2, .slice (some ⟨bA1, 0, none⟩) VA1 kA1, .slice (some ⟨bA2, 0, none⟩) VA2 kA2] 43)
    have hRA : RowC (w11.alloc (.cells #[.slice (some ⟨gA, 0, none⟩) P P, .slice (some ⟨bA0, 0, none⟩) VA0 kA0, .slice AA2 LA cA2, .slice (some ⟨bA1, 0, none⟩) VA1 kA1, .slice (some ⟨bA2, 0, none⟩) VA2 kA2] 43)) w11.heap.size 43 [.slice (some ⟨gA, 0, none⟩) P P, .slice (some ⟨bA0, 0, none⟩) VA0 kA0, .slice AA2 LA cA2, .slice (some ⟨bA1, 0, none⟩) VA1 kA1, .slice (some ⟨bA2, 0, none⟩) VA2 kA2] := heap_alloc_new _ _
    obtain ⟨gI1, vs1, lv1, hI1⟩ := N11.img
    have hx12 := paint_ext w11.heap.size χ11 (0, 8)
    have hbx12 := below_then N11.below hb12
    have hex12 : Ext w10.heap.size χ10 (paint w11.heap.size χ11 (0, 8)) := N11.ext.trans hx12 N11.below.size
    have HF12 := Lib.hid (HF10.out.new hbx12 hex12)
    have HI12 := Lib.hid (hI1.below hx12 hb12)
    have PL2 := lasts_any (HD10.out.below hex12 hbx12) 4
    rw [HTS.out.p1.2.2.2, HTS.out.lasts, HTS.out.log.1, List.take_nil] at PL2
    have HPL2 := Lib.hid PL2
    have HB12 := Lib.hid hbx12
    have HX12 := Lib.hid hex12
    have HRA := Lib.hid hRA
    obtain ⟨wC, hwC⟩ : ∃ wC, w11.alloc (.cells #[.slice (some ⟨gA, 0, none⟩) P P, .slice (some ⟨bA0, 0, none⟩) VA0 kA0, .slice AA2 LA cA2, .slice (some ⟨bA1, 0, none⟩) VA1 kA1, .slice (some ⟨bA2, 0, none⟩) VA2 kA2] 43) = wC := ⟨_, rfl⟩
    obtain ⟨χ12, hχ12⟩ : ∃ χ12, paint w11.heap.size χ11 (0, 8) = χ12 := ⟨_, rfl⟩
    rw [hwC] at HF12 HI12 HPL2 HB12 HRA
    rw [hχ12] at HF12 HI12 HPL2 HX12
    obtain ⟨S1, hS1⟩ : ∃ S1, w11.heap.size = S1 := ⟨_, rfl⟩
    rw [hS1] at HRA
    clear PL2 hRA hb12 hbx12 hex12 hx12 hI1 N11 hχ12
    unfold imgV
    go_wp2_with fail
    clear hwC hS1
    refine HPL2.out.mono ?_
    rintro e w13 ⟨v2, χ13, rfl, N13⟩
    obtain ⟨gB, bB0, kB0, AB2, cB2, bB1, kB1, bB2, kB2, VB0, LB, VB1, VB2, rfl⟩ := N13.lit
    have hb14 := (Below.refl w13.heap.size w13).alloc (Nat.le_refl _) (.cells #[.slice (some ⟨gB, 0, none⟩) P P, .slice (some ⟨bB0, 0, none⟩) VB0 kB0, .slice AB2 LB cB2, .slice (some ⟨bB1, 0, none⟩) VB1 kB1, .slice (some ⟨bB2, 0, none⟩) VB2 kB2] 43)
    have hRB : RowC (w13.alloc (.cells #[.slice (some ⟨gB, 0, none⟩) P P, .slice (some ⟨bB0, 0, none⟩) VB0 kB0, .slice AB2 LB cB2, .slice (some ⟨bB1, 0, none⟩) VB1 kB1, .slice (some ⟨bB2, 0, none⟩) VB2 kB2] 43)) w13.heap.size 43 [.slice (some ⟨gB, 0, none⟩) P P, .slice (some ⟨bB0, 0, none⟩) VB0 kB0, .slice AB2 LB cB2, .slice (some ⟨bB1, 0, none⟩) VB1 kB1, .slice (some ⟨bB2, 0, none⟩) VB2 kB2] := heap_alloc_new _ _
    obtain ⟨gI2, vs2, lv2, hI2⟩ := N13.img
    have hx14 := paint_ext w13.heap.size χ13 (0, 8)
    have hbx14 := below_then N13.below hb14
    have hex14 : Ext wC.heap.size χ12 (paint w13.heap.size χ13 (0, 8)) := N13.ext.trans hx14 N13.below.size
    have HF14 := Lib.hid (HF12.out.new hbx14 hex14)
    have HI1 := Lib.hid (HI12.out.below hex14 hbx14)
    have HI2 := Lib.hid (hI2.below hx14 hb14)
    have HB14 := Lib.hid (below_then HB12.out hbx14)
    have HX14 := Lib.hid (HX12.out.trans hex14 HB12.out.size)
    have HRA := Lib.hid (HRA.out.below hbx14)
    have HRB := Lib.hid hRB
    obtain ⟨wD, hwD⟩ : ∃ wD, w13.alloc (.cells #[.slice (some ⟨gB, 0, none⟩) P P, .slice (some ⟨bB0, 0, none⟩) VB0 kB0, .slice AB2 LB cB2, .slice (some ⟨bB1, 0, none⟩) VB1 kB1, .slice (some ⟨bB2, 0, none⟩) VB2 kB2] 43) = wD := ⟨_, rfl⟩
    obtain ⟨χ14, hχ14⟩ : ∃ χ14, paint w13.heap.size χ13 (0, 8) = χ14 := ⟨_, rfl⟩
    rw [hwD] at HF14 HI1 HI2 HB14 HRA HRB
    rw [hχ14] at HF14 HI1 HI2 HX14
    obtain ⟨S2, hS2⟩ : ∃ S2, w13.heap.size = S2 := ⟨_, rfl⟩
    rw [hS2] at HRB
    have x0 := (HRA.out).cell (j := 0) (v := .slice (some ⟨gA, 0, none⟩) P P) rfl
    have x1 := (HRA.out).cell (j := 1) (v := .slice (some ⟨bA0, 0, none⟩) VA0 kA0) rfl
    have x2 := (HRA.out).cell (j := 2) (v := .slice AA2 LA cA2) rfl
    have x3 := (HRA.out).cell (j := 3) (v := .slice (some ⟨bA1, 0, none⟩) VA1 kA1) rfl
    have x4 := (HRA.out).cell (j := 4) (v := .slice (some ⟨bA2, 0, none⟩) VA2 kA2) rfl
    have y0 := (HRB.out).cell (j := 0) (v := .slice (some ⟨gB, 0, none⟩) P P) rfl
    have y1 := (HRB.out).cell (j := 1) (v := .slice (some ⟨bB0, 0, none⟩) VB0 kB0) rfl
    have y2 := (HRB.out).cell (j := 2) (v := .slice AB2 LB cB2) rfl
    have y3 := (HRB.out).cell (j := 3) (v := .slice (some ⟨bB1, 0, none⟩) VB1 kB1) rfl
    have y4 := (HRB.out).cell (j := 4) (v := .slice (some ⟨bB2, 0, none⟩) VB2 kB2) rfl
    have z0 := (RS.out.below HF14.out.below).cell (j := 0) (v := .int .i64 P) rfl
    have hLM : (repB NN b ++ repB (SZ - NN) a).length = SZ := by rw [List.length_append, repB_length, repB_length]; omega
    obtain ⟨r1, kr1, hg1, hv1, hc1, ho1⟩ := HI1.out.rowAt hn hLM
    obtain ⟨r2, kr2, hg2, hv2, hc2, ho2⟩ := HI2.out.rowAt hn (repB_length SZ a)
    have PLA := lies_any HI1.out HPQ.out.1 HPQ.out.2 2 (by omega)
    rw [HNN.out, hg1] at PLA
    have HPLA := Lib.hid PLA
    have HG1 := Lib.hid (And.intro hv1 (And.intro hc1 ho1))
    have HG2 := Lib.hid (And.intro hv2 (And.intro hc2 ho2))
    have HPLB : Hid (∀ W, Below wD.heap.size wD W → Calls Try.prog 17 #[imgV (.slice (some ⟨gB, 0, none⟩) P P) (.slice (some ⟨bB0, 0, none⟩) VB0 kB0) (.slice AB2 LB cB2) (.slice (some ⟨bB1, 0, none⟩) VB1 kB1) (.slice (some ⟨bB2, 0, none⟩) VB2 kB2), .int .i64 2] W fun e w' => e = .returned (.slice (some ⟨r2, 0, none⟩) SZ kr2) ∧ Below W.heap.size W w') := Lib.hid fun W hb => by
      have := lies_any (HI2.out.below (Ext.refl _ _) hb) HPQ.out.1 HPQ.out.2 2 (by omega)
      rw [HNN.out, hg2] at this
      exact this
    have HPI5 : Hid (∀ W, Below wD.heap.size wD W → Calls Try.prog 18 #[.pointer (some ⟨p, 0, none⟩)] W fun e w' => ∃ v χ', e = .returned v ∧ NewI W w' χ14 χ' 5 v P ((blankR P K).set n (repB SZ b)) []) := Lib.hid fun W hb => by
      have := image_any (HD10.out.below HX14.out (below_then HB14.out hb)) 5
      rw [HTS.out.p1.2.2.2, HTS.out.reads, HTS.out.log.1] at this
      exact this
    clear PLA hRB hb14 hbx14 hex14 hx14 hI2 N13 hχ14 hg1 hg2 hv1 hv2 hc1 hc2 ho1 ho2 hLM
    unfold imgV at HPLA HPLB
    unfold imgV
    go_wp2_with fail
    clear hwD hS2
    refine HPLA.out.mono ?_
    rintro e w15 ⟨rfl, hb15⟩
    have HB15 := Lib.hid hb15
    clear x0 x1 x2 x3 x4 y0 y1 y2 y3 y4 z0
    have y0 := (HRB.out.below hb15).cell (j := 0) (v := .slice (some ⟨gB, 0, none⟩) P P) rfl
    have y1 := (HRB.out.below hb15).cell (j := 1) (v := .slice (some ⟨bB0, 0, none⟩) VB0 kB0) rfl
    have y2 := (HRB.out.below hb15).cell (j := 2) (v := .slice AB2 LB cB2) rfl
    have y3 := (HRB.out.below hb15).cell (j := 3) (v := .slice (some ⟨bB1, 0, none⟩) VB1 kB1) rfl
    have y4 := (HRB.out.below hb15).cell (j := 4) (v := .slice (some ⟨bB2, 0, none⟩) VB2 kB2) rfl
    clear hb15
    go_wp2_with fail
    refine (HPLB.out _ HB15.out).mono ?_
    rintro e w16 ⟨rfl, hb16⟩
    have HB16 := Lib.hid (below_then HB15.out hb16)
    clear hb16 y0 y1 y2 y3 y4
    go_wp2_with fail
    refine (HPI5.out _ HB16.out).mono ?_
    rintro e w17 ⟨v3, χ17, rfl, N17⟩
    obtain ⟨gI3, vs3, lv3, hI3⟩ := N17.img
    obtain ⟨r3, kr3, hg3, hv3, hc3, ho3⟩ := hI3.rowAt hn (repB_length SZ b)
    have PLC := lies_any hI3 HPQ.out.1 HPQ.out.2 2 (by omega)
    rw [HNN.out, hg3] at PLC
    have HPLC := Lib.hid PLC
    have HG3 := Lib.hid (own_at ho3).2
    have HB17 := Lib.hid (below_then HB16.out N17.below)
    clear PLC hg3 hv3 hc3 ho3 hI3 N17
    go_wp2_with fail
    refine HPLC.out.mono ?_
    rintro e w18 ⟨rfl, hb18⟩
    have HG3 := Lib.hid (HG3.out.below hb18)
    have HB18 := Lib.hid (below_then HB17.out hb18)
    clear hb18
    have HRT := Lib.hid (RT.out.below HF14.out.below)
    have hbw : Below wD.heap.size wD w18.drew := below_drew1 HB18.out
    have HG1R := Lib.hid (own_at HG1.out.2.2).2
    have HG2R := Lib.hid (own_at HG2.out.2.2).2
    have hLM : (repB NN b ++ repB MM a).length = SZ := by rw [List.length_append, repB_length, repB_length]; have := HMM.out; omega
    have HLM := Lib.hid hLM
    have HMM2 : Hid (SZ - NN = MM) := HMM
    have hG1R : Hid (Rda wD (some ⟨r1, 0, none⟩) kr1 (repB NN b ++ repB MM a)) := Lib.hid (by have := HG1R.out; rw [HMM.out] at this; exact this)
    have hG3D : Hid (Rda w18 (some ⟨r3, 0, none⟩) kr3 (repB SZ b)) := HG3
    clear hLM
    go_wp2_with fail
    go_region_held3 (fun w' => w'.cell? ⟨SB + 1, 0, none⟩ = some (.int .u8 (a.toNat : Int)) ∧ w'.cell? ⟨SB + 1, 1, none⟩ = some (.int .u8 (b.toNat : Int))) (first | exact ⟨(HRT.out.below (by assumption)).cell (j := 0) (v := .int .u8 (a.toNat : Int)) rfl, (HRT.out.below (by assumption)).cell (j := 1) (v := .int .u8 (b.toNat : Int)) rfl⟩ | go_keep)
      (first
        | (go_at_call 19; have tk := tok7; refine (same_yes (hG3D.out.below h1827) N27.rda (repB_length SZ b).symm (repB_length SZ b).symm rfl).mono ?_; rintro e wx ⟨rfl, rfl⟩; have tok8 : True := trivial)
        | (go_at_call 12; have tk := tok6; refine (row_any SZ (by omega) b rfl rfl).mono ?_; rintro e w27 ⟨g27, rfl, N27⟩; have hb27 := below_then hb25 N27.below; have h1827 := below_then h1825 N27.below; have tok7 : True := trivial)
        | (go_at_call 19; have tk := tok5; refine (same_yes (HG2R.out.below hb25) N25.rda (repB_length SZ a).symm (repB_length SZ a).symm rfl).mono ?_; rintro e wx ⟨rfl, rfl⟩; have tok6 : True := trivial)
        | (go_at_call 12; have tk := tok4; refine (row_any SZ (by omega) a rfl rfl).mono ?_; rintro e w25 ⟨g25, rfl, N25⟩; have hb25 := below_then hb23 N25.below; have h1825 := below_then h1823 N25.below; have tok5 : True := trivial)
        | (go_at_call 19; have tk := tok3; refine (same_yes (hG1R.out.below hb23) hr23 HLM.out.symm HLM.out.symm rfl).mono ?_; rintro e wx ⟨rfl, rfl⟩; have tok4 : True := trivial)
        | (have tk := tok2; refine step_app8 rfl _ _ rfl tU8 rfl ho21 rfl (repB_length MM a).symm hr22 (by rw [repB_length, repB_length]; have := HMM.out; omega) hsz22 ?_; intro v23 w23 hO23 hg23; obtain ⟨A23, c23, hv23, hr23⟩ := own_rda hO23; rw [HLM.out] at hv23; subst hv23; have hb23 : Below wD.heap.size wD w23 := hb22.grown hg23 hb22.size (fun q hq => Nat.le_trans hbw.size (own8_ge ho21 hq)); have h1823 : Below w18.heap.size w18 w23 := h1822.grown hg23 h1822.size (fun q hq => own8_ge ho21 hq); have tok3 : True := trivial)
        | (go_at_call 12; have tk := tok1; refine (row_any MM (by have := HMM.out; omega) a (by have h1 := HMM.out; have h2 := HNI.out; omega) rfl).mono ?_; rintro e w22 ⟨g22, rfl, N22⟩; have hb22 := below_then hb21 N22.below; have h1822 := below_then h1821 N22.below; have ho21 := N21.own.below N22.below; rw [repB_length] at ho21; have hr22 := N22.rda; have hsz22 : w18.drew.heap.size ≤ w22.heap.size := h1822.size; have tok2 : True := trivial)
        | (go_at_call 12; refine (row_any NN (by omega) b (by have h2 := HNI.out; omega) rfl).mono ?_; rintro e w21 ⟨g21, rfl, N21⟩; have hb21 := below_then hbw N21.below; have h1821 : Below w18.heap.size w18 w21 := below_then (below_drew1 (Below.refl _ _)) N21.below; have tok1 : True := trivial))
    have HB27 := Lib.hid hb27
    have HF27 := Lib.hid (HF14.out.new hb27 (Ext.refl _ _))
    clear hsub h1827 h1825 h1823 h1822 h1821 hb27 hb25 hb23 hb22 hb21 hbw N21 N22 N25 N27 ho21 hO23 hg23 hr22 hr23 hsz22 tk tok1 tok2 tok3 tok4 tok5 tok6 tok7 tok8
    obtain ⟨BN, hBN⟩ : ∃ BN, repB NN b ++ repB MM a = BN := ⟨_, rfl⟩
    obtain ⟨OD, hOD⟩ : ∃ OD, repB SZ a = OD := ⟨_, rfl⟩
    have hOl : OD.length = SZ := by rw [← hOD]; exact repB_length _ _
    have hBl : BN.length = SZ := by rw [← hBN]; exact HLM.out
    have hg1 : Rda w27 (some ⟨r1, 0, none⟩) kr1 BN := by rw [← hBN]; exact hG1R.out.below HB27.out
    have ho2 : Own8 w27 0 5 (.slice (some ⟨r2, 0, none⟩) SZ kr2) OD := by rw [← hOD]; exact HG2.out.2.2.below HB27.out
    have hr12 : r1 ≠ r2 := fun e => by have h1 := HG1.out.2.1; have h2 := HG2.out.2.1; rw [e, h2] at h1; injection h1 with h1; omega
    have hlt2 : r2 < w27.heap.size := own8_lt ho2
    have HBN := Lib.hid hBN
    have HOD := Lib.hid hOD
    have HOL := Lib.hid hOl
    have HBL := Lib.hid hBl
    have HG1W := Lib.hid hg1
    have ho20 : Own8 w27 0 5 (.slice (some ⟨r2, 0, none⟩) SZ kr2) (BN.take 0 ++ OD.drop 0) := by simpa using ho2
    clear hBN hOD hOl hBl hg1 ho2
    go_wp2_with fail
    go_loopw [20] (fun i wr => ∃ q : Nat, q ≤ SZ ∧ i = .int .i64 q ∧ Own8 wr 0 5 (.slice (some ⟨r2, 0, none⟩) SZ kr2) (BN.take q ++ OD.drop q) ∧ w27.grownBy wr (some r2)) (fun i _ => SZ - (intOf i).toNat)
    case atStart => exact ⟨0, by omega, rfl, ho20, grown_refl _ _⟩
    case round =>
      obtain ⟨q, hq, rfl, hO, hgr⟩ := hrel
      by_cases hqt : q < SZ
      · have hml : (BN.take q ++ OD.drop q).length = SZ := by rw [List.length_append, List.length_take, List.length_drop, HBL.out, HOL.out]; omega
        have m0 : (0 : Int) ≤ (q : Int) := by omega
        have m1 : (q : Int) < (SZ : Int) := by omega
        have hr1 := HG1W.out.grown hgr (fun a ha e => by injection ha with ha; injection e with e; rw [← ha] at e; exact hr12 e)
        obtain ⟨b', o', hA, hcc⟩ := hr1.cells (by rw [HBL.out]; omega)
        injection hA with hA
        injection hA with hA1 hA2
        subst hA1
        have hA2' : o' = 0 := hA2.symm
        subst hA2'
        have d1 := hcc q (by rw [HBL.out]; exact hqt)
        rw [Nat.zero_add] at d1
        have d2 := hO.cellAt hml.symm q (by omega)
        have f2 := hO.unfrozen hml.symm q
        obtain ⟨bt, hbt⟩ : ∃ bt, BN.getD q 0 = bt := ⟨_, rfl⟩
        rw [hbt] at d1
        have hst := hO.stored hml.symm q bt
        have hset : (BN.take q ++ OD.drop q).set q bt = BN.take (q + 1) ++ OD.drop (q + 1) := by
          rw [← hbt]; exact mix_set (by rw [HBL.out]; exact hqt) (by rw [HOL.out]; exact hqt)
        rw [hset] at hst
        have HST := Lib.hid hst
        have HGR := Lib.hid (grown_trans hgr (cell_grown wr r2 q (.int .u8 (bt.toNat : Int))))
        clear hst hset hbt hO hgr hml hcc hr1
        go_wp2_with fail
        go_roundw
        case rel => exact ⟨q + 1, by omega, by go_num, HST.out.1, HGR.out⟩
        case measure => simp [intOf]; omega
      · have he : SZ = q := by omega
        subst he
        have hfull : BN.take SZ ++ OD.drop SZ = BN := by rw [List.take_of_length_le (by rw [HBL.out]; exact Nat.le_refl _), List.drop_eq_nil_of_le (by rw [HOL.out]; exact Nat.le_refl _), List.append_nil]
        rw [hfull] at hO
        have hc2 := HG2.out.2.1
        have htch : Touch w27 wr χ14 χ14 4 := touch_row hgr (by rw [hc2])
        have hM1 := (HI1.out.below (Ext.refl _ _) HB27.out).touch htch (by omega)
        have hM2 := (HI2.out.below (Ext.refl _ _) HB27.out).lay hn (repB_length SZ a) HG2.out.1 hc2 hO hgr
        rw [HMM.out, HBN.out] at hM1
        have hCW := (((HC10.out.below HX14.out HB14.out).below (Ext.refl _ _) HB27.out).touch htch (by omega) (by omega))
        have PI6 := fun (W : World) (hb : Below wr.heap.size wr W) => image_any (hCW.below (Ext.refl _ _) hb) 6
        rw [HCR.out.2.2.2.2, HCR.out.2.1, HCR.out.1, HCR.out.2.2.1, HNK.out, HMM.out, HBN.out] at PI6
        have HPI6 := Lib.hid PI6
        have ho27 := HG2.out.2.2.below HB27.out
        have HRAW := Lib.hid (row_type ho27 (HRA.out.below HB27.out) (by decide) hgr)
        have HRBW := Lib.hid (row_type ho27 (HRB.out.below HB27.out) (by decide) hgr)
        have HM1 := Lib.hid (hM1.rdi HPQ.out.2)
        have HM2 := Lib.hid (hM2.rdi HPQ.out.2)
        have HFW := Lib.hid (HF27.out.touch htch (by omega))
        have hpl16 : (imgOf P ((blankR P K).set n BN) []).pages.length ≤ 16 := by
          show (List.take P _).length ≤ 16
          rw [List.length_take]
          have := HPQ.out.2
          omega
        have HPL16 := Lib.hid hpl16
        have hbw2 : Below wr.heap.size wr wr.drew := below_drew1 (Below.refl _ _)
        unfold imgV at HM1 HM2
        clear hfull hO hc2 htch hM1 hM2 hCW PI6 ho27 hpl16 hgr
        go_wp2_with fail
        go_region_held3 (fun w' => w'.cell? ⟨S1, 0, none⟩ = some (.slice (some ⟨gA, 0, none⟩) P P) ∧ w'.cell? ⟨S1, 1, none⟩ = some (.slice (some ⟨bA0, 0, none⟩) VA0 kA0) ∧ w'.cell? ⟨S1, 2, none⟩ = some (.slice AA2 LA cA2) ∧ w'.cell? ⟨S1, 3, none⟩ = some (.slice (some ⟨bA1, 0, none⟩) VA1 kA1) ∧ w'.cell? ⟨S1, 4, none⟩ = some (.slice (some ⟨bA2, 0, none⟩) VA2 kA2) ∧ w'.cell? ⟨S2, 0, none⟩ = some (.slice (some ⟨gB, 0, none⟩) P P) ∧ w'.cell? ⟨S2, 1, none⟩ = some (.slice (some ⟨bB0, 0, none⟩) VB0 kB0) ∧ w'.cell? ⟨S2, 2, none⟩ = some (.slice AB2 LB cB2) ∧ w'.cell? ⟨S2, 3, none⟩ = some (.slice (some ⟨bB1, 0, none⟩) VB1 kB1) ∧ w'.cell? ⟨S2, 4, none⟩ = some (.slice (some ⟨bB2, 0, none⟩) VB2 kB2)) (first | exact ⟨(HRAW.out.below (by assumption)).cell (j := 0) (v := .slice (some ⟨gA, 0, none⟩) P P) rfl, (HRAW.out.below (by assumption)).cell (j := 1) (v := .slice (some ⟨bA0, 0, none⟩) VA0 kA0) rfl, (HRAW.out.below (by assumption)).cell (j := 2) (v := .slice AA2 LA cA2) rfl, (HRAW.out.below (by assumption)).cell (j := 3) (v := .slice (some ⟨bA1, 0, none⟩) VA1 kA1) rfl, (HRAW.out.below (by assumption)).cell (j := 4) (v := .slice (some ⟨bA2, 0, none⟩) VA2 kA2) rfl, (HRBW.out.below (by assumption)).cell (j := 0) (v := .slice (some ⟨gB, 0, none⟩) P P) rfl, (HRBW.out.below (by assumption)).cell (j := 1) (v := .slice (some ⟨bB0, 0, none⟩) VB0 kB0) rfl, (HRBW.out.below (by assumption)).cell (j := 2) (v := .slice AB2 LB cB2) rfl, (HRBW.out.below (by assumption)).cell (j := 3) (v := .slice (some ⟨bB1, 0, none⟩) VB1 kB1) rfl, (HRBW.out.below (by assumption)).cell (j := 4) (v := .slice (some ⟨bB2, 0, none⟩) VB2 kB2) rfl⟩ | go_keep)
          (first
            | (go_at_call 20; have tk := tok2; refine (sameImages_yes hv4 (HM1.out.below hb31) HPL16.out).mono ?_; rintro e w32 ⟨rfl, hb32'⟩; have hb32 := below_then hb31 hb32'; have tok3 : True := trivial)
            | (go_at_call 18; have tk := tok1; refine (HPI6.out _ hb30).mono ?_; rintro e w31 ⟨v4, χ31, rfl, N31⟩; have hb31 := below_then hb30 N31.below; have hv4 := (fun (hI : ∃ g vs lv, ImgR w31 χ31 6 v4 P ((blankR P K).set n BN) [] g vs lv) => (show IsRdI w31 v4 (imgOf P ((blankR P K).set n BN) []) from hI.elim fun _ h => h.elim fun _ h => h.elim fun _ h => h.rdi HPQ.out.2)) N31.img; have tok2 : True := trivial)
            | (go_at_call 20; refine (sameImages_yes (HM1.out.below hbw2) (HM2.out.below hbw2) HPL16.out).mono ?_; rintro e w30 ⟨rfl, hb30'⟩; have hb30 := below_then hbw2 hb30'; have tok1 : True := trivial))
        have HEND := Lib.hid (below_then HB0.out (below_then HFW.out.below hb32))
        clear hb32 hb31 hb30 hb32' hb30' hv4 N31 hbw2 tk tok1 tok2 tok3
        go_wp2_with fail
        go_ret
        exact ⟨rfl, HEND.out⟩
  · have e1 : (k == 1) = false := beq_eq_false_iff_ne.2 (by omega)
    have HNI : Hid ((0 : Int) = (NN : Int)) := Lib.hid (by omega)
    have hsub2 : IntKind.i64.wrap (SZ : Int) = (MM : Int) := by rw [show (SZ : Int) = (MM : Int) by omega]; exact IntWalk.i64_in _ (by omega)
    have hsub : IntKind.i64.wrap ((SZ : Int) - 0) = (MM : Int) := by rw [show (SZ : Int) - 0 = (MM : Int) by omega]; exact IntWalk.i64_in _ (by omega)
    clear hN hMM
    go_wp2_with fail
    refine HPL1.out.mono ?_
    rintro e w11 ⟨v1, χ11, rfl, N11⟩
    obtain ⟨gA, bA0, kA0, AA2, cA2, bA1, kA1, bA2, kA2, VA0, LA, VA1, VA2, rfl⟩ := N11.lit
    have hb12 := (Below.refl w11.heap.size w11).alloc (Nat.le_refl _) (.cells #[.slice (some ⟨gA, 0, none⟩) P P, .slice (some ⟨bA0, 0, none⟩) VA0 kA0, .slice AA2 LA cA2, .slice (some ⟨bA1, 0, none⟩) VA1 kA1, .slice (some ⟨bA2, 0, none⟩) VA2 kA2] 43)
    have hRA : RowC (w11.alloc (.cells #[.slice (some ⟨gA, 0, none⟩) P P, .slice (some ⟨bA0, 0, none⟩) VA0 kA0, .slice AA2 LA cA2, .slice (some ⟨bA1, 0, none⟩) VA1 kA1, .slice (some ⟨bA2, 0, none⟩) VA2 kA2] 43)) w11.heap.size 43 [.slice (some ⟨gA, 0, none⟩) P P, .slice (some ⟨bA0, 0, none⟩) VA0 kA0, .slice AA2 LA cA2, .slice (some ⟨bA1, 0, none⟩) VA1 kA1, .slice (some ⟨bA2, 0, none⟩) VA2 kA2] := heap_alloc_new _ _
    obtain ⟨gI1, vs1, lv1, hI1⟩ := N11.img
    have hx12 := paint_ext w11.heap.size χ11 (0, 8)
    have hbx12 := below_then N11.below hb12
    have hex12 : Ext w10.heap.size χ10 (paint w11.heap.size χ11 (0, 8)) := N11.ext.trans hx12 N11.below.size
    have HF12 := Lib.hid (HF10.out.new hbx12 hex12)
    have HI12 := Lib.hid (hI1.below hx12 hb12)
    have PL2 := lasts_any (HD10.out.below hex12 hbx12) 4
    rw [HTS.out.p1.2.2.2, HTS.out.lasts, HTS.out.log.1, List.take_nil] at PL2
    have HPL2 := Lib.hid PL2
    have HB12 := Lib.hid hbx12
    have HX12 := Lib.hid hex12
    have HRA := Lib.hid hRA
    obtain ⟨wC, hwC⟩ : ∃ wC, w11.alloc (.cells #[.slice (some ⟨gA, 0, none⟩) P P, .slice (some ⟨bA0, 0, none⟩) VA0 kA0, .slice AA2 LA cA2, .slice (some ⟨bA1, 0, none⟩) VA1 kA1, .slice (some ⟨bA2, 0, none⟩) VA2 kA2] 43) = wC := ⟨_, rfl⟩
    obtain ⟨χ12, hχ12⟩ : ∃ χ12, paint w11.heap.size χ11 (0, 8) = χ12 := ⟨_, rfl⟩
    rw [hwC] at HF12 HI12 HPL2 HB12 HRA
    rw [hχ12] at HF12 HI12 HPL2 HX12
    obtain ⟨S1, hS1⟩ : ∃ S1, w11.heap.size = S1 := ⟨_, rfl⟩
    rw [hS1] at HRA
    clear PL2 hRA hb12 hbx12 hex12 hx12 hI1 N11 hχ12
    unfold imgV
    go_wp2_with fail
    clear hwC hS1
    refine HPL2.out.mono ?_
    rintro e w13 ⟨v2, χ13, rfl, N13⟩
    obtain ⟨gB, bB0, kB0, AB2, cB2, bB1, kB1, bB2, kB2, VB0, LB, VB1, VB2, rfl⟩ := N13.lit
    have hb14 := (Below.refl w13.heap.size w13).alloc (Nat.le_refl _) (.cells #[.slice (some ⟨gB, 0, none⟩) P P, .slice (some ⟨bB0, 0, none⟩) VB0 kB0, .slice AB2 LB cB2, .slice (some ⟨bB1, 0, none⟩) VB1 kB1, .slice (some ⟨bB2, 0, none⟩) VB2 kB2] 43)
    have hRB : RowC (w13.alloc (.cells #[.slice (some ⟨gB, 0, none⟩) P P, .slice (some ⟨bB0, 0, none⟩) VB0 kB0, .slice AB2 LB cB2, .slice (some ⟨bB1, 0, none⟩) VB1 kB1, .slice (some ⟨bB2, 0, none⟩) VB2 kB2] 43)) w13.heap.size 43 [.slice (some ⟨gB, 0, none⟩) P P, .slice (some ⟨bB0, 0, none⟩) VB0 kB0, .slice AB2 LB cB2, .slice (some ⟨bB1, 0, none⟩) VB1 kB1, .slice (some ⟨bB2, 0, none⟩) VB2 kB2] := heap_alloc_new _ _
    obtain ⟨gI2, vs2, lv2, hI2⟩ := N13.img
    have hx14 := paint_ext w13.heap.size χ13 (0, 8)
    have hbx14 := below_then N13.below hb14
    have hex14 : Ext wC.heap.size χ12 (paint w13.heap.size χ13 (0, 8)) := N13.ext.trans hx14 N13.below.size
    have HF14 := Lib.hid (HF12.out.new hbx14 hex14)
    have HI1 := Lib.hid (HI12.out.below hex14 hbx14)
    have HI2 := Lib.hid (hI2.below hx14 hb14)
    have HB14 := Lib.hid (below_then HB12.out hbx14)
    have HX14 := Lib.hid (HX12.out.trans hex14 HB12.out.size)
    have HRA := Lib.hid (HRA.out.below hbx14)
    have HRB := Lib.hid hRB
    obtain ⟨wD, hwD⟩ : ∃ wD, w13.alloc (.cells #[.slice (some ⟨gB, 0, none⟩) P P, .slice (some ⟨bB0, 0, none⟩) VB0 kB0, .slice AB2 LB cB2, .slice (some ⟨bB1, 0, none⟩) VB1 kB1, .slice (some ⟨bB2, 0, none⟩) VB2 kB2] 43) = wD := ⟨_, rfl⟩
    obtain ⟨χ14, hχ14⟩ : ∃ χ14, paint w13.heap.size χ13 (0, 8) = χ14 := ⟨_, rfl⟩
    rw [hwD] at HF14 HI1 HI2 HB14 HRA HRB
    rw [hχ14] at HF14 HI1 HI2 HX14
    obtain ⟨S2, hS2⟩ : ∃ S2, w13.heap.size = S2 := ⟨_, rfl⟩
    rw [hS2] at HRB
    have x0 := (HRA.out).cell (j := 0) (v := .slice (some ⟨gA, 0, none⟩) P P) rfl
    have x1 := (HRA.out).cell (j := 1) (v := .slice (some ⟨bA0, 0, none⟩) VA0 kA0) rfl
    have x2 := (HRA.out).cell (j := 2) (v := .slice AA2 LA cA2) rfl
    have x3 := (HRA.out).cell (j := 3) (v := .slice (some ⟨bA1, 0, none⟩) VA1 kA1) rfl
    have x4 := (HRA.out).cell (j := 4) (v := .slice (some ⟨bA2, 0, none⟩) VA2 kA2) rfl
    have y0 := (HRB.out).cell (j := 0) (v := .slice (some ⟨gB, 0, none⟩) P P) rfl
    have y1 := (HRB.out).cell (j := 1) (v := .slice (some ⟨bB0, 0, none⟩) VB0 kB0) rfl
    have y2 := (HRB.out).cell (j := 2) (v := .slice AB2 LB cB2) rfl
    have y3 := (HRB.out).cell (j := 3) (v := .slice (some ⟨bB1, 0, none⟩) VB1 kB1) rfl
    have y4 := (HRB.out).cell (j := 4) (v := .slice (some ⟨bB2, 0, none⟩) VB2 kB2) rfl
    have z0 := (RS.out.below HF14.out.below).cell (j := 0) (v := .int .i64 P) rfl
    have hLM : (repB NN b ++ repB (SZ - NN) a).length = SZ := by rw [List.length_append, repB_length, repB_length]; omega
    obtain ⟨r1, kr1, hg1, hv1, hc1, ho1⟩ := HI1.out.rowAt hn hLM
    obtain ⟨r2, kr2, hg2, hv2, hc2, ho2⟩ := HI2.out.rowAt hn (repB_length SZ a)
    have PLA := lies_any HI1.out HPQ.out.1 HPQ.out.2 2 (by omega)
    rw [HNN.out, hg1] at PLA
    have HPLA := Lib.hid PLA
    have HG1 := Lib.hid (And.intro hv1 (And.intro hc1 ho1))
    have HG2 := Lib.hid (And.intro hv2 (And.intro hc2 ho2))
    have HPLB : Hid (∀ W, Below wD.heap.size wD W → Calls Try.prog 17 #[imgV (.slice (some ⟨gB, 0, none⟩) P P) (.slice (some ⟨bB0, 0, none⟩) VB0 kB0) (.slice AB2 LB cB2) (.slice (some ⟨bB1, 0, none⟩) VB1 kB1) (.slice (some ⟨bB2, 0, none⟩) VB2 kB2), .int .i64 2] W fun e w' => e = .returned (.slice (some ⟨r2, 0, none⟩) SZ kr2) ∧ Below W.heap.size W w') := Lib.hid fun W hb => by
      have := lies_any (HI2.out.below (Ext.refl _ _) hb) HPQ.out.1 HPQ.out.2 2 (by omega)
      rw [HNN.out, hg2] at this
      exact this
    have HPI5 : Hid (∀ W, Below wD.heap.size wD W → Calls Try.prog 18 #[.pointer (some ⟨p, 0, none⟩)] W fun e w' => ∃ v χ', e = .returned v ∧ NewI W w' χ14 χ' 5 v P ((blankR P K).set n (repB SZ b)) []) := Lib.hid fun W hb => by
      have := image_any (HD10.out.below HX14.out (below_then HB14.out hb)) 5
      rw [HTS.out.p1.2.2.2, HTS.out.reads, HTS.out.log.1] at this
      exact this
    clear PLA hRB hb14 hbx14 hex14 hx14 hI2 N13 hχ14 hg1 hg2 hv1 hv2 hc1 hc2 ho1 ho2 hLM
    unfold imgV at HPLA HPLB
    unfold imgV
    go_wp2_with fail
    clear hwD hS2
    refine HPLA.out.mono ?_
    rintro e w15 ⟨rfl, hb15⟩
    have HB15 := Lib.hid hb15
    clear x0 x1 x2 x3 x4 y0 y1 y2 y3 y4 z0
    have y0 := (HRB.out.below hb15).cell (j := 0) (v := .slice (some ⟨gB, 0, none⟩) P P) rfl
    have y1 := (HRB.out.below hb15).cell (j := 1) (v := .slice (some ⟨bB0, 0, none⟩) VB0 kB0) rfl
    have y2 := (HRB.out.below hb15).cell (j := 2) (v := .slice AB2 LB cB2) rfl
    have y3 := (HRB.out.below hb15).cell (j := 3) (v := .slice (some ⟨bB1, 0, none⟩) VB1 kB1) rfl
    have y4 := (HRB.out.below hb15).cell (j := 4) (v := .slice (some ⟨bB2, 0, none⟩) VB2 kB2) rfl
    clear hb15
    go_wp2_with fail
    refine (HPLB.out _ HB15.out).mono ?_
    rintro e w16 ⟨rfl, hb16⟩
    have HB16 := Lib.hid (below_then HB15.out hb16)
    clear hb16 y0 y1 y2 y3 y4
    go_wp2_with fail
    refine (HPI5.out _ HB16.out).mono ?_
    rintro e w17 ⟨v3, χ17, rfl, N17⟩
    obtain ⟨gI3, vs3, lv3, hI3⟩ := N17.img
    obtain ⟨r3, kr3, hg3, hv3, hc3, ho3⟩ := hI3.rowAt hn (repB_length SZ b)
    have PLC := lies_any hI3 HPQ.out.1 HPQ.out.2 2 (by omega)
    rw [HNN.out, hg3] at PLC
    have HPLC := Lib.hid PLC
    have HG3 := Lib.hid (own_at ho3).2
    have HB17 := Lib.hid (below_then HB16.out N17.below)
    clear PLC hg3 hv3 hc3 ho3 hI3 N17
    go_wp2_with fail
    refine HPLC.out.mono ?_
    rintro e w18 ⟨rfl, hb18⟩
    have HG3 := Lib.hid (HG3.out.below hb18)
    have HB18 := Lib.hid (below_then HB17.out hb18)
    clear hb18
    have HRT := Lib.hid (RT.out.below HF14.out.below)
    have hbw : Below wD.heap.size wD w18.drew := below_drew1 HB18.out
    have HG1R := Lib.hid (own_at HG1.out.2.2).2
    have HG2R := Lib.hid (own_at HG2.out.2.2).2
    have hLM : (repB NN b ++ repB MM a).length = SZ := by rw [List.length_append, repB_length, repB_length]; have := HMM.out; omega
    have HLM := Lib.hid hLM
    have HMM2 : Hid (SZ - NN = MM) := HMM
    have hG1R : Hid (Rda wD (some ⟨r1, 0, none⟩) kr1 (repB NN b ++ repB MM a)) := Lib.hid (by have := HG1R.out; rw [HMM.out] at this; exact this)
    have hG3D : Hid (Rda w18 (some ⟨r3, 0, none⟩) kr3 (repB SZ b)) := HG3
    clear hLM
    go_wp2_with fail
    go_region_held3 (fun w' => w'.cell? ⟨SB + 1, 0, none⟩ = some (.int .u8 (a.toNat : Int)) ∧ w'.cell? ⟨SB + 1, 1, none⟩ = some (.int .u8 (b.toNat : Int))) (first | exact ⟨(HRT.out.below (by assumption)).cell (j := 0) (v := .int .u8 (a.toNat : Int)) rfl, (HRT.out.below (by assumption)).cell (j := 1) (v := .int .u8 (b.toNat : Int)) rfl⟩ | go_keep)
      (first
        | (go_at_call 19; have tk := tok7; refine (same_yes (hG3D.out.below h1827) N27.rda (repB_length SZ b).symm (repB_length SZ b).symm rfl).mono ?_; rintro e wx ⟨rfl, rfl⟩; have tok8 : True := trivial)
        | (go_at_call 12; have tk := tok6; refine (row_any SZ (by omega) b rfl rfl).mono ?_; rintro e w27 ⟨g27, rfl, N27⟩; have hb27 := below_then hb25 N27.below; have h1827 := below_then h1825 N27.below; have tok7 : True := trivial)
        | (go_at_call 19; have tk := tok5; refine (same_yes (HG2R.out.below hb25) N25.rda (repB_length SZ a).symm (repB_length SZ a).symm rfl).mono ?_; rintro e wx ⟨rfl, rfl⟩; have tok6 : True := trivial)
        | (go_at_call 12; have tk := tok4; refine (row_any SZ (by omega) a rfl rfl).mono ?_; rintro e w25 ⟨g25, rfl, N25⟩; have hb25 := below_then hb23 N25.below; have h1825 := below_then h1823 N25.below; have tok5 : True := trivial)
        | (go_at_call 19; have tk := tok3; refine (same_yes (hG1R.out.below hb23) hr23 HLM.out.symm HLM.out.symm rfl).mono ?_; rintro e wx ⟨rfl, rfl⟩; have tok4 : True := trivial)
        | (have tk := tok2; refine step_app8 rfl _ _ rfl tU8 rfl ho21 rfl (repB_length MM a).symm hr22 (by rw [repB_length, repB_length]; have := HMM.out; omega) hsz22 ?_; intro v23 w23 hO23 hg23; obtain ⟨A23, c23, hv23, hr23⟩ := own_rda hO23; rw [HLM.out] at hv23; subst hv23; have hb23 : Below wD.heap.size wD w23 := hb22.grown hg23 hb22.size (fun q hq => Nat.le_trans hbw.size (own8_ge ho21 hq)); have h1823 : Below w18.heap.size w18 w23 := h1822.grown hg23 h1822.size (fun q hq => own8_ge ho21 hq); have tok3 : True := trivial)
        | (go_at_call 12; have tk := tok1; refine (row_any MM (by have := HMM.out; omega) a (by have h1 := HMM.out; have h2 := HNI.out; omega) rfl).mono ?_; rintro e w22 ⟨g22, rfl, N22⟩; have hb22 := below_then hb21 N22.below; have h1822 := below_then h1821 N22.below; have ho21 := N21.own.below N22.below; rw [repB_length] at ho21; have hr22 := N22.rda; have hsz22 : w18.drew.heap.size ≤ w22.heap.size := h1822.size; have tok2 : True := trivial)
        | (go_at_call 12; refine (row_any NN (by omega) b (by have h2 := HNI.out; omega) rfl).mono ?_; rintro e w21 ⟨g21, rfl, N21⟩; have hb21 := below_then hbw N21.below; have h1821 : Below w18.heap.size w18 w21 := below_then (below_drew1 (Below.refl _ _)) N21.below; have tok1 : True := trivial))
    have HB27 := Lib.hid hb27
    have HF27 := Lib.hid (HF14.out.new hb27 (Ext.refl _ _))
    clear hsub h1827 h1825 h1823 h1822 h1821 hb27 hb25 hb23 hb22 hb21 hbw N21 N22 N25 N27 ho21 hO23 hg23 hr22 hr23 hsz22 tk tok1 tok2 tok3 tok4 tok5 tok6 tok7 tok8
    obtain ⟨BN, hBN⟩ : ∃ BN, repB NN b ++ repB MM a = BN := ⟨_, rfl⟩
    obtain ⟨OD, hOD⟩ : ∃ OD, repB SZ a = OD := ⟨_, rfl⟩
    have hOl : OD.length = SZ := by rw [← hOD]; exact repB_length _ _
    have hBl : BN.length = SZ := by rw [← hBN]; exact HLM.out
    have hg1 : Rda w27 (some ⟨r1, 0, none⟩) kr1 BN := by rw [← hBN]; exact hG1R.out.below HB27.out
    have ho2 : Own8 w27 0 5 (.slice (some ⟨r2, 0, none⟩) SZ kr2) OD := by rw [← hOD]; exact HG2.out.2.2.below HB27.out
    have hr12 : r1 ≠ r2 := fun e => by have h1 := HG1.out.2.1; have h2 := HG2.out.2.1; rw [e, h2] at h1; injection h1 with h1; omega
    have hlt2 : r2 < w27.heap.size := own8_lt ho2
    have HBN := Lib.hid hBN
    have HOD := Lib.hid hOD
    have HOL := Lib.hid hOl
    have HBL := Lib.hid hBl
    have HG1W := Lib.hid hg1
    have ho20 : Own8 w27 0 5 (.slice (some ⟨r2, 0, none⟩) SZ kr2) (BN.take 0 ++ OD.drop 0) := by simpa using ho2
    clear hBN hOD hOl hBl hg1 ho2
    go_wp2_with fail
    go_loopw [20] (fun i wr => ∃ q : Nat, q ≤ SZ ∧ i = .int .i64 q ∧ Own8 wr 0 5 (.slice (some ⟨r2, 0, none⟩) SZ kr2) (BN.take q ++ OD.drop q) ∧ w27.grownBy wr (some r2)) (fun i _ => SZ - (intOf i).toNat)
    case atStart => exact ⟨0, by omega, rfl, ho20, grown_refl _ _⟩
    case round =>
      obtain ⟨q, hq, rfl, hO, hgr⟩ := hrel
      by_cases hqt : q < SZ
      · have hml : (BN.take q ++ OD.drop q).length = SZ := by rw [List.length_append, List.length_take, List.length_drop, HBL.out, HOL.out]; omega
        have m0 : (0 : Int) ≤ (q : Int) := by omega
        have m1 : (q : Int) < (SZ : Int) := by omega
        have hr1 := HG1W.out.grown hgr (fun a ha e => by injection ha with ha; injection e with e; rw [← ha] at e; exact hr12 e)
        obtain ⟨b', o', hA, hcc⟩ := hr1.cells (by rw [HBL.out]; omega)
        injection hA with hA
        injection hA with hA1 hA2
        subst hA1
        have hA2' : o' = 0 := hA2.symm
        subst hA2'
        have d1 := hcc q (by rw [HBL.out]; exact hqt)
        rw [Nat.zero_add] at d1
        have d2 := hO.cellAt hml.symm q (by omega)
        have f2 := hO.unfrozen hml.symm q
        obtain ⟨bt, hbt⟩ : ∃ bt, BN.getD q 0 = bt := ⟨_, rfl⟩
        rw [hbt] at d1
        have hst := hO.stored hml.symm q bt
        have hset : (BN.take q ++ OD.drop q).set q bt = BN.take (q + 1) ++ OD.drop (q + 1) := by
          rw [← hbt]; exact mix_set (by rw [HBL.out]; exact hqt) (by rw [HOL.out]; exact hqt)
        rw [hset] at hst
        have HST := Lib.hid hst
        have HGR := Lib.hid (grown_trans hgr (cell_grown wr r2 q (.int .u8 (bt.toNat : Int))))
        clear hst hset hbt hO hgr hml hcc hr1
        go_wp2_with fail
        go_roundw
        case rel => exact ⟨q + 1, by omega, by go_num, HST.out.1, HGR.out⟩
        case measure => simp [intOf]; omega
      · have he : SZ = q := by omega
        subst he
        have hfull : BN.take SZ ++ OD.drop SZ = BN := by rw [List.take_of_length_le (by rw [HBL.out]; exact Nat.le_refl _), List.drop_eq_nil_of_le (by rw [HOL.out]; exact Nat.le_refl _), List.append_nil]
        rw [hfull] at hO
        have hc2 := HG2.out.2.1
        have htch : Touch w27 wr χ14 χ14 4 := touch_row hgr (by rw [hc2])
        have hM1 := (HI1.out.below (Ext.refl _ _) HB27.out).touch htch (by omega)
        have hM2 := (HI2.out.below (Ext.refl _ _) HB27.out).lay hn (repB_length SZ a) HG2.out.1 hc2 hO hgr
        rw [HMM.out, HBN.out] at hM1
        have hCW := (((HC10.out.below HX14.out HB14.out).below (Ext.refl _ _) HB27.out).touch htch (by omega) (by omega))
        have PI6 := fun (W : World) (hb : Below wr.heap.size wr W) => image_any (hCW.below (Ext.refl _ _) hb) 6
        rw [HCR.out.2.2.2.2, HCR.out.2.1, HCR.out.1, HCR.out.2.2.1, HNK.out, HMM.out, HBN.out] at PI6
        have HPI6 := Lib.hid PI6
        have ho27 := HG2.out.2.2.below HB27.out
        have HRAW := Lib.hid (row_type ho27 (HRA.out.below HB27.out) (by decide) hgr)
        have HRBW := Lib.hid (row_type ho27 (HRB.out.below HB27.out) (by decide) hgr)
        have HM1 := Lib.hid (hM1.rdi HPQ.out.2)
        have HM2 := Lib.hid (hM2.rdi HPQ.out.2)
        have HFW := Lib.hid (HF27.out.touch htch (by omega))
        have hpl16 : (imgOf P ((blankR P K).set n BN) []).pages.length ≤ 16 := by
          show (List.take P _).length ≤ 16
          rw [List.length_take]
          have := HPQ.out.2
          omega
        have HPL16 := Lib.hid hpl16
        have hbw2 : Below wr.heap.size wr wr.drew := below_drew1 (Below.refl _ _)
        unfold imgV at HM1 HM2
        clear hfull hO hc2 htch hM1 hM2 hCW PI6 ho27 hpl16 hgr
        go_wp2_with fail
        go_region_held3 (fun w' => w'.cell? ⟨S1, 0, none⟩ = some (.slice (some ⟨gA, 0, none⟩) P P) ∧ w'.cell? ⟨S1, 1, none⟩ = some (.slice (some ⟨bA0, 0, none⟩) VA0 kA0) ∧ w'.cell? ⟨S1, 2, none⟩ = some (.slice AA2 LA cA2) ∧ w'.cell? ⟨S1, 3, none⟩ = some (.slice (some ⟨bA1, 0, none⟩) VA1 kA1) ∧ w'.cell? ⟨S1, 4, none⟩ = some (.slice (some ⟨bA2, 0, none⟩) VA2 kA2) ∧ w'.cell? ⟨S2, 0, none⟩ = some (.slice (some ⟨gB, 0, none⟩) P P) ∧ w'.cell? ⟨S2, 1, none⟩ = some (.slice (some ⟨bB0, 0, none⟩) VB0 kB0) ∧ w'.cell? ⟨S2, 2, none⟩ = some (.slice AB2 LB cB2) ∧ w'.cell? ⟨S2, 3, none⟩ = some (.slice (some ⟨bB1, 0, none⟩) VB1 kB1) ∧ w'.cell? ⟨S2, 4, none⟩ = some (.slice (some ⟨bB2, 0, none⟩) VB2 kB2)) (first | exact ⟨(HRAW.out.below (by assumption)).cell (j := 0) (v := .slice (some ⟨gA, 0, none⟩) P P) rfl, (HRAW.out.below (by assumption)).cell (j := 1) (v := .slice (some ⟨bA0, 0, none⟩) VA0 kA0) rfl, (HRAW.out.below (by assumption)).cell (j := 2) (v := .slice AA2 LA cA2) rfl, (HRAW.out.below (by assumption)).cell (j := 3) (v := .slice (some ⟨bA1, 0, none⟩) VA1 kA1) rfl, (HRAW.out.below (by assumption)).cell (j := 4) (v := .slice (some ⟨bA2, 0, none⟩) VA2 kA2) rfl, (HRBW.out.below (by assumption)).cell (j := 0) (v := .slice (some ⟨gB, 0, none⟩) P P) rfl, (HRBW.out.below (by assumption)).cell (j := 1) (v := .slice (some ⟨bB0, 0, none⟩) VB0 kB0) rfl, (HRBW.out.below (by assumption)).cell (j := 2) (v := .slice AB2 LB cB2) rfl, (HRBW.out.below (by assumption)).cell (j := 3) (v := .slice (some ⟨bB1, 0, none⟩) VB1 kB1) rfl, (HRBW.out.below (by assumption)).cell (j := 4) (v := .slice (some ⟨bB2, 0, none⟩) VB2 kB2) rfl⟩ | go_keep)
          (first
            | (go_at_call 20; have tk := tok2; refine (sameImages_yes hv4 (HM1.out.below hb31) HPL16.out).mono ?_; rintro e w32 ⟨rfl, hb32'⟩; have hb32 := below_then hb31 hb32'; have tok3 : True := trivial)
            | (go_at_call 18; have tk := tok1; refine (HPI6.out _ hb30).mono ?_; rintro e w31 ⟨v4, χ31, rfl, N31⟩; have hb31 := below_then hb30 N31.below; have hv4 := (fun (hI : ∃ g vs lv, ImgR w31 χ31 6 v4 P ((blankR P K).set n BN) [] g vs lv) => (show IsRdI w31 v4 (imgOf P ((blankR P K).set n BN) []) from hI.elim fun _ h => h.elim fun _ h => h.elim fun _ h => h.rdi HPQ.out.2)) N31.img; have tok2 : True := trivial)
            | (go_at_call 20; refine (sameImages_yes (HM1.out.below hbw2) (HM2.out.below hbw2) HPL16.out).mono ?_; rintro e w30 ⟨rfl, hb30'⟩; have hb30 := below_then hbw2 hb30'; have tok1 : True := trivial))
        have HEND := Lib.hid (below_then HB0.out (below_then HFW.out.below hb32))
        clear hb32 hb31 hb30 hb32' hb30' hv4 N31 hbw2 tk tok1 tok2 tok3
        go_wp2_with fail
        go_ret
        exact ⟨rfl, HEND.out⟩
end Go.Proofs.Ytpmcdooplnmjnaa
