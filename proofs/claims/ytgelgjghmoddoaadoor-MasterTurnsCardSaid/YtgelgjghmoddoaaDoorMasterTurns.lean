/-
  Proved: for every input that its row lets in the statement MasterTurns answers true; what was handed in stays as it was.
  Conditions: none beyond the row's own.
-/
import Derived.Test.YtgelgjghmoddoaaDoorTurns7
import Derived.Test.YtgelgjghmoddoaaDoorDoor
import Derived.Test.YtgelgjghmoddoaaDoorOpen7
import Derived.Deep.RegionHeld3
import Derived.Deep.DrawnRows
import Derived.Deep.CutRange
import Derived.Laws.EntriesVeiled
/- MasterTurns: the walk. -/
set_option linter.unusedVariables false
set_option linter.unusedSimpArgs false
namespace Go.Proofs.YtgelgjghmoddoaaDoor
open Go.RowKit Go.Tm Go.ChangeShapes Go.WideShapes Go.ChangeAt
set_option maxHeartbeats 400000
set_option maxRecDepth 100000
attribute [local go_sem ↓] Go.wp_at_zero Go.wp_at_succ

abbrev rSays : Rdr (Int × Int) := rThen 1 rInt rInt
abbrev rChoice : Rdr (Int × List Int) := rThen 1 rInt (rSlice 1 8 rInt)
theorem keeps_says : Keeps rSays := keeps_then keeps_int keeps_int
theorem keeps_choice : Keeps rChoice := keeps_then keeps_int (keeps_slice keeps_int)

set_option maxHeartbeats 8000000 in
theorem masterTurns_any {w : World} (hT : Tb w) {A A2 : Option Addr} {n n2 c c2 : Nat} {l : List (Int × Int)} {cs : List (Int × List Int)} (hl : RdS 2 rSays w A c l) (hn : n = l.length) (hll : l.length ≤ 140737488351232) (hc : RdS 2 rChoice w A2 c2 cs) (hn2 : n2 = cs.length) (hcl : cs.length ≤ 140737488351232) :
    Calls Tryd.prog 6 #[.slice A n c, .slice A2 n2 c2] w fun e w' => e = .returned (.bool true) ∧ Below w.heap.size w w' := by
  subst hn hn2
  have hlc := hl.cap
  have hcc := hc.cap
  have HL := Lib.hid hl
  have HC := Lib.hid hc
  have HT := Lib.hid hT
  have HG := Lib.hid hT.lt
  obtain ⟨N, hN⟩ : ∃ N, l.length = N := ⟨_, rfl⟩
  obtain ⟨M, hM⟩ : ∃ M, cs.length = M := ⟨_, rfl⟩
  rw [hN] at hlc hll ⊢
  rw [hM] at hcc hcl ⊢
  have HN := Lib.hid hN
  have HM := Lib.hid hM
  clear hl hc hT hN hM
  go_enter Tryd.func6, Tryd.ntmps6
  go_wp2_with fail
  refine (blank7_any).mono ?_
  rintro e w1 ⟨p, χ1, rfl, N1⟩
  have HTS1 := Lib.hid (show TS w w1 χ1 p (blankS 1 1 1024) from ⟨(Fr.start w).new N1.below N1.ext, N1.disk⟩)
  have HH := Lib.hid (head7_any (HT.out.below N1.below))
  clear N1
  go_wp2_with fail
  refine HH.out.mono ?_
  rintro e w2 ⟨rfl, hb2⟩
  have h2 := HTS1.out.new hb2 (Ext.refl _ _)
  have h3 := h2.new (alloc_below w2 (.cells #[.int .i64 0, .int .i64 0, .int .i64 0] 23)) (paint_ext w2.heap.size χ1 (5, 0))
  have k3 := K5.made w2 χ1 [.int .i64 0, .int .i64 0, .int .i64 0]
  obtain ⟨W3, hW3⟩ : ∃ W, W = w2.alloc (.cells #[.int .i64 0, .int .i64 0, .int .i64 0] 23) := ⟨_, rfl⟩
  obtain ⟨NB, hNB⟩ : ∃ S, S = w2.heap.size := ⟨_, rfl⟩
  have k3' : K5 W3 (paint w2.heap.size χ1 (5, 0)) NB [.int .i64 ((0 : Nat) : Int), .int .i64 ((0 : Nat) : Int), .int .i64 ((0 : Nat) : Int)] := by rw [hW3, hNB]; exact k3
  rw [← hW3] at h3
  obtain ⟨cb1, cb2, cb3⟩ := clean_blank (P := 1) (K := 1) (M := 1024) hs7
  go_wp2_with fail
  rw [← hW3, ← hNB]
  have HTS3 := Lib.hid h3
  have HK3 := Lib.hid k3'
  have HCB := Lib.hid (And.intro cb1 (And.intro cb2 cb3))
  clear h2 h3 k3 k3' cb1 cb2 cb3 hW3 hNB HH hb2
  go_wp2_with fail
  go_loopw [5, 7] (fun dv iv wr => ∃ (i : Nat) (χ : Col) (p : Nat) (s : DSt) (B C : Nat), i ≤ N ∧ iv = .int .i64 i ∧ dv = .pointer (some ⟨p, 0, none⟩) ∧ TS w wr χ p s ∧ Tm.Clean s ∧ s.acts = 0 ∧ SaneR s.P i s.reads ∧ nvR s.P s.reads = (i, B, C) ∧ K5 wr χ NB [.int .i64 (i : Int), .int .i64 (B : Int), .int .i64 (C : Int)]) (fun _ i _ => N - (intOf i).toNat)
  case atStart => exact ⟨0, _, p, _, 0, 0, by omega, rfl, rfl, HTS3.out, HCB.out.1, rfl, HCB.out.2.1, HCB.out.2.2, HK3.out⟩
  case round =>
    obtain ⟨i, χ, p, s, B, C, hi, rfl, rfl, hTS, hCl, hAc, hSa, hnv, hK⟩ := hrel
    obtain ⟨wo, rfl⟩ : ∃ wo : World, wo = wr := ⟨_, rfl⟩
    have HTS := Lib.hid hTS
    have HCL := Lib.hid (And.intro hCl (And.intro hAc (And.intro hSa hnv)))
    have HK := Lib.hid hK
    have HI := Lib.hid hi
    clear hTS hCl hAc hSa hnv hK
    by_cases hlt : i < N
    · have hrl := HL.out.below keeps_says HTS.out.fr.below
      obtain ⟨g, o, rfl, hcell⟩ := hrl.cells (by rw [HN.out]; omega)
      obtain ⟨⟨x, y⟩, hxy⟩ : ∃ q, l[i]? = some q := ⟨l[i]'(by rw [HN.out]; exact hlt), by simp [HN.out, hlt]⟩
      obtain ⟨cc, e1, e2, ⟨e3, x0, x1⟩, e4, y0, y1⟩ := hcell i _ hxy
      have hcc' : cc = [.int .i64 x, .int .i64 y] := by
        have := List.take_append_drop 1 cc
        rw [← this]
        dsimp only at e3 e4
        rw [e3, e4]
        rfl
      have z0 : wo.cell? ⟨g, o + i * 2, none⟩ = some (.int .i64 x) := e2 0 _ (by rw [hcc']; rfl)
      have z1 : wo.cell? ⟨g, o + i * 2 + 1, none⟩ = some (.int .i64 y) := e2 1 _ (by rw [hcc']; rfl)
      have n0 := HK.out.row.cell (j := 0) (v := .int .i64 (i : Int)) rfl
      have q1 : (0 : Int) ≤ (i : Int) := by omega
      have q2 : (i : Int) < (N : Int) := by omega
      have W1 : Hid (∀ W, Calls Tryd.prog 17 #[.int .i64 x] W fun e w' => e = .returned (.int .i64 (withinN x : Int)) ∧ w' = W) := Lib.hid fun W => within_det x x0 x1
      have W2 : Hid (∀ W, Calls Tryd.prog 17 #[.int .i64 y] W fun e w' => e = .returned (.int .i64 (withinN y : Int)) ∧ w' = W) := Lib.hid fun W => within_det y y0 y1
      obtain ⟨r2, hr2⟩ : ∃ r, withinN x = r := ⟨_, rfl⟩
      obtain ⟨r3, hr3⟩ : ∃ r, withinN y = r := ⟨_, rfl⟩
      have b2 := withinN_lt x
      have b3 := withinN_lt y
      rw [hr2] at W1 b2
      rw [hr3] at W2 b3
      have HB23 := Lib.hid (And.intro b2 b3)
      have u1 : IntKind.i64.wrap ((i : Int) + 1) = (i : Int) + 1 := IntWalk.i64_in _ (by omega)
      have v0 := World.new_ne wo _ z0
      have v1 := World.new_ne wo _ z1
      have v2 := World.new_ne wo _ n0
      clear hrl hcell e1 e2 e3 e4 hcc' hxy x0 x1 y0 y1 hr2 hr3 b2 b3
      go_upto_region 8 with (fail)
      go_cut [8] from 37 to 208 (fun s8 wx => s8 = .pointer (some ⟨wo.heap.size, 0, none⟩) ∧ wx = (wo.alloc (.cells #[.int .i64 ((i : Int) + 1), .int .i64 (r2 : Int), .int .i64 (r3 : Int)] 23)).drew)
      case first =>
        go_region_held3 (fun w' => w'.cell? ⟨NB, 0, none⟩ = some (.int .i64 (i : Int)) ∧ w'.cell? ⟨g, o + i * 2, none⟩ = some (.int .i64 x) ∧ w'.cell? ⟨g, o + i * 2 + 1, none⟩ = some (.int .i64 y)) (go_keep)
          (first | (go_at_call 17; ((with_reducible refine (W1.out _).mono ?_); rintro e w' ⟨rfl, rfl⟩)) | (go_at_call 17; ((with_reducible refine (W2.out _).mono ?_); rintro e w' ⟨rfl, rfl⟩)))
        all_goals
          go_wp2_with fail
          go_meet
          exact ⟨rfl, rfl⟩
      case rest =>
      obtain ⟨rfl, rfl⟩ := hcut
      clear v0 v1 v2
      have HTSd := HTS.out.new ((Below.refl wo.heap.size wo).drew) (Ext.refl _ _)
      have HKd := HK.out.new ((Below.refl wo.heap.size wo).drew) (Ext.refl _ _)
      have h4 := HTSd.new (alloc_below wo.drew (.cells #[.int .i64 ((i : Int) + 1), .int .i64 (r2 : Int), .int .i64 (r3 : Int)] 23)) (paint_ext wo.drew.heap.size χ (5, 0))
      have k4 := HKd.new (alloc_below wo.drew (.cells #[.int .i64 ((i : Int) + 1), .int .i64 (r2 : Int), .int .i64 (r3 : Int)] 23)) (paint_ext wo.drew.heap.size χ (5, 0))
      have m4 := K5.made wo.drew χ [.int .i64 ((i : Int) + 1), .int .i64 (r2 : Int), .int .i64 (r3 : Int)]
      obtain ⟨W4, hW4⟩ : ∃ W, W = (wo.alloc (.cells #[.int .i64 ((i : Int) + 1), .int .i64 (r2 : Int), .int .i64 (r3 : Int)] 23)).drew := ⟨_, rfl⟩
      obtain ⟨WB, hWB⟩ : ∃ S, S = wo.heap.size := ⟨_, rfl⟩
      obtain ⟨χ4, hχ4⟩ : ∃ X, X = paint wo.drew.heap.size χ (5, 0) := ⟨_, rfl⟩
      have hWW : W4 = wo.drew.alloc (.cells #[.int .i64 ((i : Int) + 1), .int .i64 (r2 : Int), .int .i64 (r3 : Int)] 23) := hW4
      rw [← hWW, ← hχ4] at h4 k4
      have m4' : K5 W4 χ4 WB [.int .i64 ((i : Int) + 1), .int .i64 (r2 : Int), .int .i64 (r3 : Int)] := by rw [hWW, hχ4, hWB]; exact m4
      first | rw [← hW4] | rw [← hWW]
      rw [← hWB]
      have HTS4 := Lib.hid h4
      have HK4 := Lib.hid k4
      have HM4 := Lib.hid m4'
      clear HTSd HKd h4 k4 m4 m4' hW4 hWB hχ4 hWW z0 z1 n0 q1 q2 u1 W1 W2 HTS HK
      go_wp2_with fail
      go_loopw [9] (fun kv wr => ∃ (k : Nat) (χ : Col), k ≤ M ∧ kv = .int .i64 k ∧ TS w wr χ p s ∧ K5 wr χ NB [.int .i64 (i : Int), .int .i64 (B : Int), .int .i64 (C : Int)] ∧ K5 wr χ WB [.int .i64 ((i : Int) + 1), .int .i64 (r2 : Int), .int .i64 (r3 : Int)]) (fun i _ => M - (intOf i).toNat)
      case atStart => exact ⟨0, χ4, by omega, rfl, HTS4.out, HK4.out, HM4.out⟩
      case round =>
        obtain ⟨k, χ, hk, rfl, hTS, hK, hKW⟩ := hrel
        obtain ⟨wi, rfl⟩ : ∃ wi : World, wi = wr := ⟨_, rfl⟩
        have HTS := Lib.hid hTS
        have HK := Lib.hid hK
        have HKW := Lib.hid hKW
        have HKK := Lib.hid hk
        clear hTS hK hKW
        by_cases hkt : k < M
        · have hf := HC.out
          obtain ⟨g2, o2, rfl, hcell⟩ := hf.cells (by rw [HM.out]; omega)
          obtain ⟨⟨CL, ks⟩, hxy⟩ : ∃ q, cs[k]? = some q := ⟨cs[k]'(by rw [HM.out]; exact hkt), by simp [HM.out, hkt]⟩
          obtain ⟨cc, e1, e2, ⟨e3, x0, x1⟩, ⟨AK, cK, e4, hks, hkl⟩⟩ := hcell k _ hxy
          have hcc' : cc = [.int .i64 CL, .slice AK ks.length cK] := by
            have := List.take_append_drop 1 cc
            rw [← this]
            dsimp only at e3 e4
            rw [e3, e4]
            rfl
          have z0 : w.cell? ⟨g2, o2 + k * 2, none⟩ = some (.int .i64 CL) := e2 0 _ (by rw [hcc']; rfl)
          have z1 : w.cell? ⟨g2, o2 + k * 2 + 1, none⟩ = some (.slice AK ks.length cK) := e2 1 _ (by rw [hcc']; rfl)
          have HZ := Lib.hid (And.intro z0 z1)
          obtain ⟨hri, hrb⟩ := rdI_of hks
          have HRI := Lib.hid (And.intro hri (And.intro hrb (And.intro hkl (And.intro x0 x1))))
          have q1 : (0 : Int) ≤ (k : Int) := by omega
          have q2 : (k : Int) < (M : Int) := by omega
          clear hf hcell hxy e1 e2 e3 e4 hks hkl hcc' z0 z1 hri hrb x0 x1
          have PC := copy_any HTS.out.disk (by rw [HCL.out.1.loose]; decide) 2 (by decide)
          have HPC := Lib.hid PC
          clear PC
          go_wp2_with fail
          refine HPC.out.mono ?_
          rintro e w5 ⟨p2, χ5, rfl, N5⟩
          have HTS5 := Lib.hid (HTS.out.new N5.below N5.ext)
          have HK5 := Lib.hid (HK.out.new N5.below N5.ext)
          have HKW5 := Lib.hid (HKW.out.new N5.below N5.ext)
          have HD5 := Lib.hid N5.disk
          clear N5 HPC HTS HK HKW
          have hm1 := mask1 k (by omega)
          obtain ⟨m2, hm2⟩ : ∃ m, k % 2 = m := ⟨_, rfl⟩
          rw [hm2] at hm1
          have hm3 : m2 ≤ 1 := by omega
          clear hm2
          have hst : 1 + m2 = 1 ∨ 1 + m2 = 2 := by omega
          have u1 : IntKind.i64.wrap (1 + (m2 : Int)) = 1 + (m2 : Int) := IntWalk.i64_in _ (by omega)
          have hmw : mayB ((i + 1 : Nat) : Int) r2 r3 = true := (mayB_iff _ _ _).2 (by have := HB23.out; omega)
          obtain ⟨t1, t2, t3, t4, t5⟩ := cut_turn HCL.out.1 HCL.out.2.2.1 HCL.out.2.2.2 hmw (1 + m2) hst CL ks
          have tv : nextV (stopS (copyS s) ((1 + m2 : Nat) : Int)) i r2 r3 = (0, 0, 0) := by unfold nextV; rw [if_neg (by rw [t1]; decide)]
          have PS := stop_any HD5.out (by show 0 < _; omega) (1 + (m2 : Int)) (by omega)
          rw [show (1 + (m2 : Int)) = ((1 + m2 : Nat) : Int) by omega] at PS
          have ta : (stopS (copyS s) ((1 + m2 : Nat) : Int)).acts = 0 := by unfold stopS; rw [if_neg (by show ¬ false = true; decide)]; rfl
          have tl : (stopS (copyS s) ((1 + m2 : Nat) : Int)).loose.length = 0 := by unfold stopS; rw [if_neg (by show ¬ false = true; decide)]; show s.loose.length = 0; rw [HCL.out.1.loose]; rfl
          obtain ⟨c6, hc6⟩ : ∃ c6, stopS (copyS s) ((1 + m2 : Nat) : Int) = c6 := ⟨_, rfl⟩
          rw [hc6] at t1 t2 t3 t4 t5 tv PS ta tl
          rw [show ((1 + m2 : Nat) : Int) = 1 + (m2 : Int) by omega] at PS
          have HPS := Lib.hid PS
          have HTL := Lib.hid (And.intro ta tl)
          clear PS hmw hst hc6 ta tl
          go_wp2_with fail
          refine HPS.out.mono ?_
          rintro e w6 ⟨⟨v6, rfl⟩, D6, T6⟩
          have HTS6 := Lib.hid (HTS5.out.touch T6 (by decide))
          have HK6 := Lib.hid (HK5.out.touch T6 (by decide))
          have HKW6 := Lib.hid (HKW5.out.touch T6 (by decide))
          have HD6 := Lib.hid D6
          have d0 := HK6.out.row.cell (j := 0) (v := .int .i64 (i : Int)) rfl
          have f1 := HKW6.out.row.cell (j := 1) (v := .int .i64 (r2 : Int)) rfl
          have f2 := HKW6.out.row.cell (j := 2) (v := .int .i64 (r3 : Int)) rfl
          have PX := next_any (HT.out.below HTS6.out.fr.below) (by rw [HTS6.out.fr.zero _ HG.out]; decide) HD6.out (by rw [HTL.out.1]; decide) (by rw [HTL.out.2]; decide) (i : Int) (r2 : Int) (r3 : Int)
          rw [t1, tv] at PX
          have HPX := Lib.hid PX
          have HTT := Lib.hid (And.intro t2 (And.intro t3 (And.intro t4 t5)))
          clear PX D6 T6 HTS5 HK5 HKW5 HD5 HPS t1 t2 t3 t4 t5 tv hm1 u1
          go_wp2_with fail
          refine HPX.out.mono ?_
          rintro e w7 ⟨χ7, rfl, D7⟩
          have HTS7 := Lib.hid (HTS6.out.touch D7.touch (by decide))
          have HK7 := Lib.hid (HK6.out.touch D7.touch (by decide))
          have HKW7 := Lib.hid (HKW6.out.touch D7.touch (by decide))
          have HD7 := Lib.hid D7.disk
          clear D7 HPX HTS6 HK6 HKW6 HD6 d0 f1 f2
          have abwz := alloc_below w7 (.cells #[.int .i64 (0), .int .i64 (0), .int .i64 (0)] 23)
          have axwz := paint_ext w7.heap.size χ7 (5, 0)
          have HMwz : Hid (K5 (w7.alloc (.cells #[.int .i64 (0), .int .i64 (0), .int .i64 (0)] 23)) (paint w7.heap.size χ7 (5, 0)) w7.heap.size [.int .i64 (0), .int .i64 (0), .int .i64 (0)]) := Lib.hid (K5.made w7 χ7 [.int .i64 (0), .int .i64 (0), .int .i64 (0)])
          have HTSz := Lib.hid (HTS7.out.new abwz axwz)
          have HKz := Lib.hid (HK7.out.new abwz axwz)
          have HKWz := Lib.hid (HKW7.out.new abwz axwz)
          have HDz := Lib.hid (IsDisk.below HD7.out axwz abwz)
          clear abwz axwz HTS7 HK7 HKW7 HD7
          have z0 := (HTSz.out.fr.below.cell (p := ⟨g2, o2 + k * 2, none⟩) (World.block_lt_of_cell? _ _ HZ.out.1)).trans HZ.out.1
          have z1 := (HTSz.out.fr.below.cell (p := ⟨g2, o2 + k * 2 + 1, none⟩) (World.block_lt_of_cell? _ _ HZ.out.2)).trans HZ.out.2
          obtain ⟨KL, hKL⟩ : ∃ KL, ks.length = KL := ⟨_, rfl⟩
          have HKL := Lib.hid hKL
          rw [hKL] at z1
          have PCr := crash_any HDz.out (by have := HTT.out.2.2.2; omega) (HRI.out.1.below HTSz.out.fr.below) (fun k hk => (HRI.out.2.1 k hk).2) (by have := HRI.out.2.2.1; omega) CL HRI.out.2.2.2.1 HRI.out.2.2.2.2 3 (by decide) (KL := KL) HKL.out.symm
          have HPCr := Lib.hid PCr
          clear PCr HMwz hKL
          go_wp2_with fail
          refine HPCr.out.mono ?_
          rintro e w8 ⟨p3, χ8, rfl, N8⟩
          have HTS8 := Lib.hid (HTSz.out.new N8.below N8.ext)
          have HK8 := Lib.hid (HKz.out.new N8.below N8.ext)
          have HKW8 := Lib.hid (HKWz.out.new N8.below N8.ext)
          have HD8' := N8.disk
          obtain ⟨XS, hXS⟩ : ∃ XS, crashS (nextS c6 i r2 r3) CL ks = XS := ⟨_, rfl⟩
          have hX := HTT.out
          rw [hXS] at hX HD8'
          have HX := Lib.hid (And.intro hX.1 hX.2.1)
          have HD8 := Lib.hid HD8'
          have hor := hX.2.2.1
          have HLE := Lib.hid (nvR_le HCL.out.2.2.2)
          clear N8 HPCr HTSz HKz HKWz HDz z0 z1 hXS hX HD8' HTT
          rcases hor with hv | hv
          · have hb8 : i ≤ 140737488351233 ∧ B ≤ 1152921504606846976 ∧ C ≤ 1152921504606846976 := by have := HLE.out; omega
            have hmx : mayB ((i + 1 : Nat) : Int) B C = true := (mayB_iff _ _ _).2 (by omega)
            obtain ⟨w1e, w1v, w1s, w1c⟩ := clean_newest HX.out.1
            have w1v' : newV XS = (i, B, C) := hv
            have okx := newOk_is HX.out.1 w1v'
            have PN := newest_any (HT.out.below HTS8.out.fr.below) (by rw [HTS8.out.fr.zero _ HG.out]; decide) HD8.out (by rw [HX.out.2]; omega)
            rw [w1v', w1e, okx] at PN
            have PN2 : Calls Tryd.prog 23 #[.pointer (some ⟨p3, 0, none⟩)] w8 fun e w' => ∃ χ', e = .returned (.tuple #[.agg #[.int .i64 ((i : Int)), .int .i64 ((B : Int)), .int .i64 ((C : Int))], .bool (decide ((0 : Int) < (i : Int))), .int .i64 0]) ∧ ActD w8 w' χ8 χ' 3 p3 (newS XS) := by
              have e : decide ((0 : Int) < (i : Int)) = decide (0 < i) := by rw [decide_eq_decide]; omega
              rw [e]
              exact PN
            have HPN := Lib.hid PN2
            have hvy : newV (newS XS) = (i, B, C) := by
              rw [(clean_newest w1c).2.1, w1s]
              rw [w1v] at w1v'
              exact w1v'
            obtain ⟨n1, n2, n3, n4⟩ := clean_next w1c (T := i) (b := B) (c := C) hmx
            have hnz : nvR (newS XS).P (newS XS).reads = (i, B, C) := by rw [← (clean_newest w1c).2.1]; exact hvy
            have hvz : newV (nextS (newS XS) i B C) = (i + 1, B, C) := by
              rw [(clean_newest n4).2.1, n3]
              exact nvR_put w1c.ok.reads.len hnz hmx
            have okz := newOk_is n4 hvz
            have hez := (clean_newest n4).1
            have hay : (newS XS).acts < 100 := by rw [w1s]; show XS.acts + 2 < 100; rw [HX.out.2]; omega
            have haz : (nextS (newS XS) i B C).acts < 100 := by rw [n3]; show (newS XS).acts + 2 < 100; rw [w1s]; show XS.acts + 2 + 2 < 100; rw [HX.out.2]; omega
            have hly : (newS XS).loose.length < 100 := by rw [w1c.loose]; simp
            have HY := Lib.hid (And.intro n1 (And.intro n2 (And.intro hvz (And.intro okz (And.intro hez (And.intro hay (And.intro haz hly)))))))
            clear PN PN2 w1e w1v w1v' w1s w1c okx hvy n1 n2 n3 n4 hnz hvz okz hez hay haz hly hv
            go_wp2_with fail
            refine HPN.out.mono ?_
            rintro e w9 ⟨χ9, rfl, D9⟩
            have HTS9 := Lib.hid (HTS8.out.touch D9.touch (by decide))
            have HK9 := Lib.hid (HK8.out.touch D9.touch (by decide))
            have HKW9 := Lib.hid (HKW8.out.touch D9.touch (by decide))
            have HD9 := Lib.hid D9.disk
            clear D9 HPN HTS8 HK8 HKW8 HD8
            have abwa := alloc_below w9 (.cells #[.int .i64 ((i : Int)), .int .i64 ((B : Int)), .int .i64 ((C : Int))] 23)
            have axwa := paint_ext w9.heap.size χ9 (5, 0)
            have HMwa : Hid (K5 (w9.alloc (.cells #[.int .i64 ((i : Int)), .int .i64 ((B : Int)), .int .i64 ((C : Int))] 23)) (paint w9.heap.size χ9 (5, 0)) w9.heap.size [.int .i64 ((i : Int)), .int .i64 ((B : Int)), .int .i64 ((C : Int))]) := Lib.hid (K5.made w9 χ9 [.int .i64 ((i : Int)), .int .i64 ((B : Int)), .int .i64 ((C : Int))])
            have HTSa := Lib.hid (HTS9.out.new abwa axwa)
            have HKa := Lib.hid (HK9.out.new abwa axwa)
            have HKWa := Lib.hid (HKW9.out.new abwa axwa)
            have HDa := Lib.hid (IsDisk.below HD9.out axwa abwa)
            clear abwa axwa HTS9 HK9 HKW9 HD9
            have c0 := HMwa.out.row.cell (j := 0) (v := .int .i64 ((i : Int))) rfl
            have c1 := HMwa.out.row.cell (j := 1) (v := .int .i64 (B : Int)) rfl
            have c2' := HMwa.out.row.cell (j := 2) (v := .int .i64 (C : Int)) rfl
            have d0 := HKa.out.row.cell (j := 0) (v := .int .i64 (i : Int)) rfl
            have d1 := HKa.out.row.cell (j := 1) (v := .int .i64 (B : Int)) rfl
            have d2 := HKa.out.row.cell (j := 2) (v := .int .i64 (C : Int)) rfl
            have f0 := HKWa.out.row.cell (j := 0) (v := .int .i64 ((i : Int) + 1)) rfl
            have f1 := HKWa.out.row.cell (j := 1) (v := .int .i64 (r2 : Int)) rfl
            have f2 := HKWa.out.row.cell (j := 2) (v := .int .i64 (r3 : Int)) rfl
            have PX := next_any (HT.out.below HTSa.out.fr.below) (by rw [HTSa.out.fr.zero _ HG.out]; decide) HDa.out (by have := HY.out.2.2.2.2.2.1; omega) (by have := HY.out.2.2.2.2.2.2.2; omega) ((i : Int)) (B : Int) (C : Int)
            rw [HY.out.1, HY.out.2.1] at PX
            have HPX := Lib.hid PX
            clear PX
            have hnn : ((i : Int) == (i : Int) + 1) = false := beq_eq_false_iff_ne.2 (by omega)
            have hpos := hb8.1
            go_wp2_with fail
            refine HPX.out.mono ?_
            rintro e wb ⟨χb, rfl, Db⟩
            have HTSb := Lib.hid (HTSa.out.touch Db.touch (by decide))
            have HKb := Lib.hid (HKa.out.touch Db.touch (by decide))
            have HKWb := Lib.hid (HKWa.out.touch Db.touch (by decide))
            have HSb := Lib.hid (HMwa.out.touch Db.touch (by decide))
            have HDb := Lib.hid Db.disk
            clear Db HPX HTSa HKa HKWa HDa HMwa c0 c1 c2' d0 d1 d2 f0 f1 f2 hnn
            have abwc := alloc_below wb (.cells #[.int .i64 ((i : Int) + 1), .int .i64 ((B : Int)), .int .i64 ((C : Int))] 23)
            have axwc := paint_ext wb.heap.size χb (5, 0)
            have HMwc : Hid (K5 (wb.alloc (.cells #[.int .i64 ((i : Int) + 1), .int .i64 ((B : Int)), .int .i64 ((C : Int))] 23)) (paint wb.heap.size χb (5, 0)) wb.heap.size [.int .i64 ((i : Int) + 1), .int .i64 ((B : Int)), .int .i64 ((C : Int))]) := Lib.hid (K5.made wb χb [.int .i64 ((i : Int) + 1), .int .i64 ((B : Int)), .int .i64 ((C : Int))])
            have HTSc := Lib.hid (HTSb.out.new abwc axwc)
            have HKc := Lib.hid (HKb.out.new abwc axwc)
            have HKWc := Lib.hid (HKWb.out.new abwc axwc)
            have HSc := Lib.hid (HSb.out.new abwc axwc)
            have HDc := Lib.hid (IsDisk.below HDb.out axwc abwc)
            clear abwc axwc HTSb HKb HKWb HSb HDb
            have PN := newest_any (HT.out.below HTSc.out.fr.below) (by rw [HTSc.out.fr.zero _ HG.out]; decide) HDc.out (by have := HY.out.2.2.2.2.2.2.1; first | exact Nat.lt_trans this (by decide) | (simp only [Int.natCast_add] at this ⊢; exact Nat.lt_trans this (by decide)))
            rw [HY.out.2.2.1, HY.out.2.2.2.1, HY.out.2.2.2.2.1] at PN
            rw [show ((i + 1 : Nat) : Int) = (i : Int) + 1 by simp, show decide (0 < i + 1) = true from decide_eq_true (by omega)] at PN
            have HPN := Lib.hid PN
            clear PN
            go_wp2_with fail
            refine HPN.out.mono ?_
            rintro e wd ⟨χd, rfl, Dd⟩
            have HTSd := Lib.hid (HTSc.out.touch Dd.touch (by decide))
            have HKd := Lib.hid (HKc.out.touch Dd.touch (by decide))
            have HKWd := Lib.hid (HKWc.out.touch Dd.touch (by decide))
            have HSd := Lib.hid (HSc.out.touch Dd.touch (by decide))
            have HNd := Lib.hid (HMwc.out.touch Dd.touch (by decide))
            clear Dd HPN HTSc HKc HKWc HDc HMwc HSc
            have abwe := alloc_below wd (.cells #[.int .i64 ((i : Int) + 1), .int .i64 ((B : Int)), .int .i64 ((C : Int))] 23)
            have axwe := paint_ext wd.heap.size χd (5, 0)
            have HMwe : Hid (K5 (wd.alloc (.cells #[.int .i64 ((i : Int) + 1), .int .i64 ((B : Int)), .int .i64 ((C : Int))] 23)) (paint wd.heap.size χd (5, 0)) wd.heap.size [.int .i64 ((i : Int) + 1), .int .i64 ((B : Int)), .int .i64 ((C : Int))]) := Lib.hid (K5.made wd χd [.int .i64 ((i : Int) + 1), .int .i64 ((B : Int)), .int .i64 ((C : Int))])
            have HTSe := Lib.hid (HTSd.out.new abwe axwe)
            have HKe := Lib.hid (HKd.out.new abwe axwe)
            have HKWe := Lib.hid (HKWd.out.new abwe axwe)
            have HSe := Lib.hid (HSd.out.new abwe axwe)
            have HNe := Lib.hid (HNd.out.new abwe axwe)
            clear abwe axwe HTSd HKd HKWd HSd HNd 
            have c0 := HMwe.out.row.cell (j := 0) (v := .int .i64 ((i : Int) + 1)) rfl
            have c1 := HMwe.out.row.cell (j := 1) (v := .int .i64 (B : Int)) rfl
            have c2' := HMwe.out.row.cell (j := 2) (v := .int .i64 (C : Int)) rfl
            have d0 := HNe.out.row.cell (j := 0) (v := .int .i64 ((i : Int) + 1)) rfl
            have d1 := HNe.out.row.cell (j := 1) (v := .int .i64 (B : Int)) rfl
            have d2 := HNe.out.row.cell (j := 2) (v := .int .i64 (C : Int)) rfl
            have f0 := HSe.out.row.cell (j := 0) (v := .int .i64 ((i : Int))) rfl
            have f1 := HSe.out.row.cell (j := 1) (v := .int .i64 (B : Int)) rfl
            have f2 := HSe.out.row.cell (j := 2) (v := .int .i64 (C : Int)) rfl
            clear HMwe HSe HNe
            go_wp2_with fail
            go_roundw
            case rel => exact ⟨k + 1, _, by omega, by go_num, HTSe.out, HKe.out, HKWe.out⟩
            case measure => simp [intOf]; omega
          · obtain ⟨i1, hi1⟩ : ∃ i1, i1 = i + 1 := ⟨_, rfl⟩
            rw [← hi1] at hv
            have hi1' : ((i : Int) + 1) = (i1 : Int) := by omega
            rw [hi1'] at HKW8
            have HI1 := Lib.hid hi1'
            clear hi1 hi1'
            have hb8 : i1 ≤ 140737488351233 ∧ r2 ≤ 1152921504606846976 ∧ r3 ≤ 1152921504606846976 := by have := HB23.out; have := HI1.out; omega
            have hmx : mayB ((i1 + 1 : Nat) : Int) r2 r3 = true := (mayB_iff _ _ _).2 (by omega)
            obtain ⟨w1e, w1v, w1s, w1c⟩ := clean_newest HX.out.1
            have w1v' : newV XS = (i1, r2, r3) := hv
            have okx := newOk_is HX.out.1 w1v'
            have PN := newest_any (HT.out.below HTS8.out.fr.below) (by rw [HTS8.out.fr.zero _ HG.out]; decide) HD8.out (by rw [HX.out.2]; omega)
            rw [w1v', w1e, okx] at PN
            have PN2 : Calls Tryd.prog 23 #[.pointer (some ⟨p3, 0, none⟩)] w8 fun e w' => ∃ χ', e = .returned (.tuple #[.agg #[.int .i64 ((i1 : Int)), .int .i64 ((r2 : Int)), .int .i64 ((r3 : Int))], .bool (decide ((0 : Int) < (i1 : Int))), .int .i64 0]) ∧ ActD w8 w' χ8 χ' 3 p3 (newS XS) := by
              have e : decide ((0 : Int) < (i1 : Int)) = decide (0 < i1) := by rw [decide_eq_decide]; omega
              rw [e]
              exact PN
            have HPN := Lib.hid PN2
            have hvy : newV (newS XS) = (i1, r2, r3) := by
              rw [(clean_newest w1c).2.1, w1s]
              rw [w1v] at w1v'
              exact w1v'
            obtain ⟨n1, n2, n3, n4⟩ := clean_next w1c (T := i1) (b := r2) (c := r3) hmx
            have hnz : nvR (newS XS).P (newS XS).reads = (i1, r2, r3) := by rw [← (clean_newest w1c).2.1]; exact hvy
            have hvz : newV (nextS (newS XS) i1 r2 r3) = (i1 + 1, r2, r3) := by
              rw [(clean_newest n4).2.1, n3]
              exact nvR_put w1c.ok.reads.len hnz hmx
            have okz := newOk_is n4 hvz
            have hez := (clean_newest n4).1
            have hay : (newS XS).acts < 100 := by rw [w1s]; show XS.acts + 2 < 100; rw [HX.out.2]; omega
            have haz : (nextS (newS XS) i1 r2 r3).acts < 100 := by rw [n3]; show (newS XS).acts + 2 < 100; rw [w1s]; show XS.acts + 2 + 2 < 100; rw [HX.out.2]; omega
            have hly : (newS XS).loose.length < 100 := by rw [w1c.loose]; simp
            have HY := Lib.hid (And.intro n1 (And.intro n2 (And.intro hvz (And.intro okz (And.intro hez (And.intro hay (And.intro haz hly)))))))
            clear PN PN2 w1e w1v w1v' w1s w1c okx hvy n1 n2 n3 n4 hnz hvz okz hez hay haz hly hv
            go_wp2_with fail
            refine HPN.out.mono ?_
            rintro e w9 ⟨χ9, rfl, D9⟩
            have HTS9 := Lib.hid (HTS8.out.touch D9.touch (by decide))
            have HK9 := Lib.hid (HK8.out.touch D9.touch (by decide))
            have HKW9 := Lib.hid (HKW8.out.touch D9.touch (by decide))
            have HD9 := Lib.hid D9.disk
            clear D9 HPN HTS8 HK8 HKW8 HD8
            have abwa := alloc_below w9 (.cells #[.int .i64 ((i1 : Int)), .int .i64 ((r2 : Int)), .int .i64 ((r3 : Int))] 23)
            have axwa := paint_ext w9.heap.size χ9 (5, 0)
            have HMwa : Hid (K5 (w9.alloc (.cells #[.int .i64 ((i1 : Int)), .int .i64 ((r2 : Int)), .int .i64 ((r3 : Int))] 23)) (paint w9.heap.size χ9 (5, 0)) w9.heap.size [.int .i64 ((i1 : Int)), .int .i64 ((r2 : Int)), .int .i64 ((r3 : Int))]) := Lib.hid (K5.made w9 χ9 [.int .i64 ((i1 : Int)), .int .i64 ((r2 : Int)), .int .i64 ((r3 : Int))])
            have HTSa := Lib.hid (HTS9.out.new abwa axwa)
            have HKa := Lib.hid (HK9.out.new abwa axwa)
            have HKWa := Lib.hid (HKW9.out.new abwa axwa)
            have HDa := Lib.hid (IsDisk.below HD9.out axwa abwa)
            clear abwa axwa HTS9 HK9 HKW9 HD9
            have c0 := HMwa.out.row.cell (j := 0) (v := .int .i64 ((i1 : Int))) rfl
            have c1 := HMwa.out.row.cell (j := 1) (v := .int .i64 (r2 : Int)) rfl
            have c2' := HMwa.out.row.cell (j := 2) (v := .int .i64 (r3 : Int)) rfl
            have d0 := HKa.out.row.cell (j := 0) (v := .int .i64 (i : Int)) rfl
            have d1 := HKa.out.row.cell (j := 1) (v := .int .i64 (B : Int)) rfl
            have d2 := HKa.out.row.cell (j := 2) (v := .int .i64 (C : Int)) rfl
            have f0 := HKWa.out.row.cell (j := 0) (v := .int .i64 ((i1 : Int))) rfl
            have f1 := HKWa.out.row.cell (j := 1) (v := .int .i64 (r2 : Int)) rfl
            have f2 := HKWa.out.row.cell (j := 2) (v := .int .i64 (r3 : Int)) rfl
            have PX := next_any (HT.out.below HTSa.out.fr.below) (by rw [HTSa.out.fr.zero _ HG.out]; decide) HDa.out (by have := HY.out.2.2.2.2.2.1; omega) (by have := HY.out.2.2.2.2.2.2.2; omega) ((i1 : Int)) (r2 : Int) (r3 : Int)
            rw [HY.out.1, HY.out.2.1] at PX
            have HPX := Lib.hid PX
            clear PX
            have hnn : ((i1 : Int) == (i : Int)) = false := beq_eq_false_iff_ne.2 (by have := HI1.out; omega)
            have hpos := hb8.1
            go_wp2_with fail
            refine HPX.out.mono ?_
            rintro e wb ⟨χb, rfl, Db⟩
            have HTSb := Lib.hid (HTSa.out.touch Db.touch (by decide))
            have HKb := Lib.hid (HKa.out.touch Db.touch (by decide))
            have HKWb := Lib.hid (HKWa.out.touch Db.touch (by decide))
            have HSb := Lib.hid (HMwa.out.touch Db.touch (by decide))
            have HDb := Lib.hid Db.disk
            clear Db HPX HTSa HKa HKWa HDa HMwa c0 c1 c2' d0 d1 d2 f0 f1 f2 hnn
            have abwc := alloc_below wb (.cells #[.int .i64 ((i1 : Int) + 1), .int .i64 ((r2 : Int)), .int .i64 ((r3 : Int))] 23)
            have axwc := paint_ext wb.heap.size χb (5, 0)
            have HMwc : Hid (K5 (wb.alloc (.cells #[.int .i64 ((i1 : Int) + 1), .int .i64 ((r2 : Int)), .int .i64 ((r3 : Int))] 23)) (paint wb.heap.size χb (5, 0)) wb.heap.size [.int .i64 ((i1 : Int) + 1), .int .i64 ((r2 : Int)), .int .i64 ((r3 : Int))]) := Lib.hid (K5.made wb χb [.int .i64 ((i1 : Int) + 1), .int .i64 ((r2 : Int)), .int .i64 ((r3 : Int))])
            have HTSc := Lib.hid (HTSb.out.new abwc axwc)
            have HKc := Lib.hid (HKb.out.new abwc axwc)
            have HKWc := Lib.hid (HKWb.out.new abwc axwc)
            have HSc := Lib.hid (HSb.out.new abwc axwc)
            have HDc := Lib.hid (IsDisk.below HDb.out axwc abwc)
            clear abwc axwc HTSb HKb HKWb HSb HDb
            have PN := newest_any (HT.out.below HTSc.out.fr.below) (by rw [HTSc.out.fr.zero _ HG.out]; decide) HDc.out (by have := HY.out.2.2.2.2.2.2.1; first | exact Nat.lt_trans this (by decide) | (simp only [Int.natCast_add] at this ⊢; exact Nat.lt_trans this (by decide)))
            rw [HY.out.2.2.1, HY.out.2.2.2.1, HY.out.2.2.2.2.1] at PN
            rw [show ((i1 + 1 : Nat) : Int) = (i1 : Int) + 1 by simp, show decide (0 < i1 + 1) = true from decide_eq_true (by omega)] at PN
            have HPN := Lib.hid PN
            clear PN
            go_wp2_with fail
            refine HPN.out.mono ?_
            rintro e wd ⟨χd, rfl, Dd⟩
            have HTSd := Lib.hid (HTSc.out.touch Dd.touch (by decide))
            have HKd := Lib.hid (HKc.out.touch Dd.touch (by decide))
            have HKWd := Lib.hid (HKWc.out.touch Dd.touch (by decide))
            have HSd := Lib.hid (HSc.out.touch Dd.touch (by decide))
            have HNd := Lib.hid (HMwc.out.touch Dd.touch (by decide))
            clear Dd HPN HTSc HKc HKWc HDc HMwc HSc
            have abwe := alloc_below wd (.cells #[.int .i64 ((i1 : Int) + 1), .int .i64 ((r2 : Int)), .int .i64 ((r3 : Int))] 23)
            have axwe := paint_ext wd.heap.size χd (5, 0)
            have HMwe : Hid (K5 (wd.alloc (.cells #[.int .i64 ((i1 : Int) + 1), .int .i64 ((r2 : Int)), .int .i64 ((r3 : Int))] 23)) (paint wd.heap.size χd (5, 0)) wd.heap.size [.int .i64 ((i1 : Int) + 1), .int .i64 ((r2 : Int)), .int .i64 ((r3 : Int))]) := Lib.hid (K5.made wd χd [.int .i64 ((i1 : Int) + 1), .int .i64 ((r2 : Int)), .int .i64 ((r3 : Int))])
            have HTSe := Lib.hid (HTSd.out.new abwe axwe)
            have HKe := Lib.hid (HKd.out.new abwe axwe)
            have HKWe := Lib.hid (HKWd.out.new abwe axwe)
            have HSe := Lib.hid (HSd.out.new abwe axwe)
            have HNe := Lib.hid (HNd.out.new abwe axwe)
            clear abwe axwe HTSd HKd HKWd HSd HNd 
            have c0 := HMwe.out.row.cell (j := 0) (v := .int .i64 ((i1 : Int) + 1)) rfl
            have c1 := HMwe.out.row.cell (j := 1) (v := .int .i64 (r2 : Int)) rfl
            have c2' := HMwe.out.row.cell (j := 2) (v := .int .i64 (r3 : Int)) rfl
            have d0 := HNe.out.row.cell (j := 0) (v := .int .i64 ((i1 : Int) + 1)) rfl
            have d1 := HNe.out.row.cell (j := 1) (v := .int .i64 (r2 : Int)) rfl
            have d2 := HNe.out.row.cell (j := 2) (v := .int .i64 (r3 : Int)) rfl
            have f0 := HSe.out.row.cell (j := 0) (v := .int .i64 ((i1 : Int))) rfl
            have f1 := HSe.out.row.cell (j := 1) (v := .int .i64 (r2 : Int)) rfl
            have f2 := HSe.out.row.cell (j := 2) (v := .int .i64 (r3 : Int)) rfl
            clear HMwe HSe HNe
            go_wp2_with fail
            go_roundw
            case rel => exact ⟨k + 1, _, by omega, by go_num, HTSe.out, HKe.out, (by rw [HI1.out]; exact HKWe.out)⟩
            case measure => simp [intOf]; omega
        · have hmw : mayB ((i + 1 : Nat) : Int) r2 r3 = true := (mayB_iff _ _ _).2 (by have := HB23.out; omega)
          obtain ⟨t1, t2, t3, t4, t5, t6, t7, t8, t9, t10, t11⟩ := next_turn HCL.out.1 HCL.out.2.2.1 HCL.out.2.2.2 HCL.out.2.1 hmw
          have n0 := HK.out.row.cell (j := 0) (v := .int .i64 (i : Int)) rfl
          have n1 := HKW.out.row.cell (j := 1) (v := .int .i64 (r2 : Int)) rfl
          have n2 := HKW.out.row.cell (j := 2) (v := .int .i64 (r3 : Int)) rfl
          have PX := next_any (HT.out.below HTS.out.fr.below) (by rw [HTS.out.fr.zero _ HG.out]; decide) HTS.out.disk (by rw [HCL.out.2.1]; decide) (by rw [HCL.out.1.loose]; decide) (i : Int) (r2 : Int) (r3 : Int)
          rw [t1, t2] at PX
          obtain ⟨z, hz⟩ : ∃ z, nextS s i r2 r3 = z := ⟨_, rfl⟩
          rw [hz] at PX t3 t4 t5 t6 t7 t8 t9 t10 t11
          have HPX := Lib.hid PX
          have HT1 := Lib.hid (And.intro t3 (And.intro t4 (And.intro t5 (And.intro t6 t7))))
          have HT2 := Lib.hid (And.intro t8 (And.intro t9 (And.intro t10 t11)))
          clear PX hmw t1 t2 t3 t4 t5 t6 t7 t8 t9 t10 t11 hz
          go_wp2_with fail
          refine HPX.out.mono ?_
          rintro e w5 ⟨χ5, rfl, D5⟩
          have HTS5 := Lib.hid (HTS.out.act D5)
          have HK5 := Lib.hid (HK.out.touch D5.touch (by decide))
          have HKW5 := Lib.hid (HKW.out.touch D5.touch (by decide))
          clear D5 HPX HTS HK HKW n0 n1 n2
          have abw6 := alloc_below w5 (.cells #[.int .i64 ((i : Int) + 1), .int .i64 ((r2 : Int)), .int .i64 ((r3 : Int))] 23)
          have axw6 := paint_ext w5.heap.size χ5 (5, 0)
          have HMw6 : Hid (K5 (w5.alloc (.cells #[.int .i64 ((i : Int) + 1), .int .i64 ((r2 : Int)), .int .i64 ((r3 : Int))] 23)) (paint w5.heap.size χ5 (5, 0)) w5.heap.size [.int .i64 ((i : Int) + 1), .int .i64 ((r2 : Int)), .int .i64 ((r3 : Int))]) := Lib.hid (K5.made w5 χ5 [.int .i64 ((i : Int) + 1), .int .i64 ((r2 : Int)), .int .i64 ((r3 : Int))])
          have HTS6 := Lib.hid (HTS5.out.new abw6 axw6)
          have HK6 := Lib.hid (HK5.out.new abw6 axw6)
          have HKW6 := Lib.hid (HKW5.out.new abw6 axw6)
          clear abw6 axw6 HTS5 HK5 HKW5 
          have PN := newest_any (HT.out.below HTS6.out.fr.below) (by rw [HTS6.out.fr.zero _ HG.out]; decide) HTS6.out.disk (by rw [HT1.out.2.2.2.1]; decide)
          rw [HT1.out.1, HT1.out.2.1, HT1.out.2.2.1] at PN
          rw [show ((i + 1 : Nat) : Int) = (i : Int) + 1 by simp] at PN
          have HPN := Lib.hid PN
          clear PN
          go_wp2_with fail
          refine HPN.out.mono ?_
          rintro e w7 ⟨χ7, rfl, D7⟩
          have HTS7 := Lib.hid (HTS6.out.act D7)
          have HK7 := Lib.hid (HK6.out.touch D7.touch (by decide))
          have HKW7 := Lib.hid (HKW6.out.touch D7.touch (by decide))
          have HN7 := Lib.hid (HMw6.out.touch D7.touch (by decide))
          clear D7 HPN HTS6 HK6 HKW6 HMw6
          have abw8 := alloc_below w7 (.cells #[.int .i64 ((i : Int) + 1), .int .i64 ((r2 : Int)), .int .i64 ((r3 : Int))] 23)
          have axw8 := paint_ext w7.heap.size χ7 (5, 0)
          have HMw8 : Hid (K5 (w7.alloc (.cells #[.int .i64 ((i : Int) + 1), .int .i64 ((r2 : Int)), .int .i64 ((r3 : Int))] 23)) (paint w7.heap.size χ7 (5, 0)) w7.heap.size [.int .i64 ((i : Int) + 1), .int .i64 ((r2 : Int)), .int .i64 ((r3 : Int))]) := Lib.hid (K5.made w7 χ7 [.int .i64 ((i : Int) + 1), .int .i64 ((r2 : Int)), .int .i64 ((r3 : Int))])
          have HTS8 := Lib.hid (HTS7.out.new abw8 axw8)
          have HK8 := Lib.hid (HK7.out.new abw8 axw8)
          have HKW8 := Lib.hid (HKW7.out.new abw8 axw8)
          have HN8 := Lib.hid (HN7.out.new abw8 axw8)
          clear abw8 axw8 HTS7 HK7 HKW7 HN7 
          have PCr := crash_any (A := none) (c := 0) (ks := []) (KL := 0) HTS8.out.disk (by rw [HT1.out.2.2.2.2]; decide) ⟨Nat.le_refl _, by unfold maxLen; omega, fun h => by simp at h⟩ (fun k hk => by cases hk) (by simp) 0 (by decide) (by decide) 1 (by decide) rfl
          have HPCr := Lib.hid PCr
          clear PCr
          go_wp2_with fail
          refine HPCr.out.mono ?_
          rintro e w9 ⟨p9, χ9, rfl, N9⟩
          have HTS9 := Lib.hid (show TS w w9 χ9 p9 _ from ⟨HTS8.out.fr.new N9.below N9.ext, N9.disk⟩)
          have HK9 := Lib.hid (HK8.out.new N9.below N9.ext)
          have HKW9 := Lib.hid (HKW8.out.new N9.below N9.ext)
          have HN9 := Lib.hid (HN8.out.new N9.below N9.ext)
          have HM9 := Lib.hid (HMw8.out.new N9.below N9.ext)
          have a0 := HN9.out.row.cell (j := 0) (v := .int .i64 ((i : Int) + 1)) rfl
          have a1 := HN9.out.row.cell (j := 1) (v := .int .i64 (r2 : Int)) rfl
          have a2 := HN9.out.row.cell (j := 2) (v := .int .i64 (r3 : Int)) rfl
          have b0 := HM9.out.row.cell (j := 0) (v := .int .i64 ((i : Int) + 1)) rfl
          have b1 := HM9.out.row.cell (j := 1) (v := .int .i64 (r2 : Int)) rfl
          have b2 := HM9.out.row.cell (j := 2) (v := .int .i64 (r3 : Int)) rfl
          have d0 := HKW9.out.row.cell (j := 0) (v := .int .i64 ((i : Int) + 1)) rfl
          have d1 := HKW9.out.row.cell (j := 1) (v := .int .i64 (r2 : Int)) rfl
          have d2 := HKW9.out.row.cell (j := 2) (v := .int .i64 (r3 : Int)) rfl
          have e0 := HK9.out.row.cell (j := 0) (v := .int .i64 (i : Int)) rfl
          have e1 := HK9.out.row.cell (j := 1) (v := .int .i64 (B : Int)) rfl
          have e2 := HK9.out.row.cell (j := 2) (v := .int .i64 (C : Int)) rfl
          have f0 := HK9.out.row.free 0
          have f1 := HK9.out.row.free 1
          have f2 := HK9.out.row.free 2
          obtain ⟨k10, t10⟩ := HK9.out.over (.int .i64 ((i : Int) + 1)) (.int .i64 (r2 : Int)) (.int .i64 (r3 : Int))
          have HK10 := Lib.hid k10
          have HTS10 := Lib.hid (HTS9.out.touch t10 (by decide))
          clear N9 HPCr k10 t10 HTS8 HK8 HKW8 HN8 HMw8
          go_wp2_with fail
          go_roundw
          case rel => exact ⟨i + 1, χ9, p9, _, r2, r3, by omega, by go_num, rfl, HTS10.out, HT2.out.1, HT2.out.2.1, HT2.out.2.2.1, HT2.out.2.2.2, (by have := HK10.out; rw [show (((i + 1 : Nat) : Int)) = (i : Int) + 1 by simp]; exact this)⟩
          case measure => simp [intOf]; omega
    · have he : i = N := by omega
      subst he
      obtain ⟨n1, n2, n3, n4⟩ := clean_newest HCL.out.1
      have hv := HCL.out.2.2.2
      rw [← n2] at hv
      have okv := newOk_is HCL.out.1 hv
      have PN := newest_any (HT.out.below HTS.out.fr.below) (by rw [HTS.out.fr.zero _ HG.out]; decide) HTS.out.disk (by rw [HCL.out.2.1]; decide)
      rw [n1, hv, okv] at PN
      have PN2 : Calls Tryd.prog 23 #[.pointer (some ⟨p, 0, none⟩)] wo fun e w' => ∃ χ', e = .returned (.tuple #[.agg #[.int .i64 (i : Int), .int .i64 (B : Int), .int .i64 (C : Int)], .bool (decide ((0 : Int) < (i : Int))), .int .i64 0]) ∧ ActD wo w' χ χ' 1 p (newS s) := by
        have e : decide ((0 : Int) < (i : Int)) = decide (0 < i) := by rw [decide_eq_decide]; omega
        rw [e]
        exact PN
      have HPN := Lib.hid PN2
      clear n1 n2 n3 n4 hv okv PN PN2
      go_wp2_with fail
      refine HPN.out.mono ?_
      rintro e w5 ⟨χ5, rfl, D5⟩
      have HTS5 := Lib.hid (HTS.out.act D5)
      have HK5 := Lib.hid (HK.out.touch D5.touch (by decide))
      clear D5 HPN HTS HK
      have abw6 := alloc_below w5 (.cells #[.int .i64 ((i : Int)), .int .i64 ((B : Int)), .int .i64 ((C : Int))] 23)
      have axw6 := paint_ext w5.heap.size χ5 (5, 0)
      have HMw6 : Hid (K5 (w5.alloc (.cells #[.int .i64 ((i : Int)), .int .i64 ((B : Int)), .int .i64 ((C : Int))] 23)) (paint w5.heap.size χ5 (5, 0)) w5.heap.size [.int .i64 ((i : Int)), .int .i64 ((B : Int)), .int .i64 ((C : Int))]) := Lib.hid (K5.made w5 χ5 [.int .i64 ((i : Int)), .int .i64 ((B : Int)), .int .i64 ((C : Int))])
      have HTS6 := Lib.hid (HTS5.out.new abw6 axw6)
      have HK6 := Lib.hid (HK5.out.new abw6 axw6)
      clear abw6 axw6 HTS5 HK5 
      have a0 := HMw6.out.row.cell (j := 0) (v := .int .i64 (i : Int)) rfl
      have a1 := HMw6.out.row.cell (j := 1) (v := .int .i64 (B : Int)) rfl
      have a2 := HMw6.out.row.cell (j := 2) (v := .int .i64 (C : Int)) rfl
      have e0 := HK6.out.row.cell (j := 0) (v := .int .i64 (i : Int)) rfl
      have e1 := HK6.out.row.cell (j := 1) (v := .int .i64 (B : Int)) rfl
      have e2 := HK6.out.row.cell (j := 2) (v := .int .i64 (C : Int)) rfl
      clear HK6 HMw6
      go_wp2_with fail
      go_ret
      exact ⟨rfl, HTS6.out.fr.below⟩

theorem masterTurns_contract (H : Type) (enc : TypeId × Value → H) (W : World) (base : Nat) (args : Array Value) (ds gs : List (DataW H)) (before : List MemPlace)
    (hval0 : ∀ (j : Nat) t v, Tryd.f6.params[j]? = some t → args[j]? = some v → Value.okWide Tryd.prog W .any base t v)
    (hW : DataW.Whole enc Tryd.prog Tryd.f6.params.toList Rows.masterTurnsSpec.vars false W args.toList ds gs before) (hsz : (DataW.weightsEach Tryd.checked.prog (Tryd.f6.params.toList ++ Rows.masterTurnsSpec.plain.varTypes Tryd.checked.prog) (ds ++ gs)).all (· ≤ reachBytes) = true) (hL : laidMetH Tryd.prog Rows.masterTurnsRow.laid W) :
    Calls Tryd.prog 6 args W fun e W' => ∃ v, e = .returned v ∧ Rows.masterTurnsSpec.post enc Tryd.prog Tryd.f6 false true false false W args v W' := by
  have hval : ∀ (j : Nat) t v, Tryd.f6.params[j]? = some t → args[j]? = some v → Value.okWide Tryd.prog W .any base t v := hval0
  have hW' := hW
  obtain ⟨p, q, hA0, hV, rfl, hfz, hnd⟩ := hW
  have hA : DataW.TrodAll enc Tryd.prog W 0 (fun _ => true) true Tryd.f6.params.toList args.toList ds p := hA0
  rw [Tryd.params6] at hA hval
  obtain ⟨v0, vs0, d0, ds0, p0, q0, hargs, rfl, rfl, h0, rr0⟩ := trodAll_cons hA
  obtain ⟨v1, vs1, d1, ds1, p1, q1, rfl, rfl, rfl, h1, rr1⟩ := trodAll_cons rr0
  obtain ⟨rfl, rfl, rfl⟩ := trodAll_nil rr1
  obtain rfl : args = #[v0, v1] := by cases args; simp_all
  obtain ⟨rfl, rfl⟩ := trodVars_none hV
  have k0 := h0
  have lt0 : ∀ x ∈ p0, x.block < W.heap.size := by obtain ⟨m, hm⟩ := k0; exact DataW.trod_lt m _ _ _ hm
  obtain ⟨a0, cap0, l0, rfl, r0, sz0, s0⟩ := open_says7 (hval 0 46 v0 rfl rfl) h0 (arg_sized (j := 0) hsz rfl rfl)
  have k1 := h1
  have lt1 : ∀ x ∈ p1, x.block < W.heap.size := by obtain ⟨m, hm⟩ := k1; exact DataW.trod_lt m _ _ _ hm
  obtain ⟨a1, cap1, l1, rfl, r1, sz1, s1⟩ := open_choices (hval 1 47 v1 rfl rfl) h1 (arg_sized (j := 1) hsz rfl rfl)
  clear hA0 hval0
  refine (masterTurns_any (tb_of hL) r0 rfl s0 r1 rfl s1).mono fun e W' ⟨he, bel⟩ => ?_
  subst he
  exact ⟨_, rfl, _, _, _, [], _, [], hW', trodAll_mk1 (shut_bool Tryd.underlying4 _), (trodAll_cons_mk (Below.trod laid_out (by kernel_rfl) (of_decide_eq_true (by kernel_rfl)) k0 bel lt0) (trodAll_cons_mk (Below.trod laid_out (by kernel_rfl) (of_decide_eq_true (by kernel_rfl)) k1 bel lt1) trodAll_mk0)), rfl, bel.frame _, fun h => by cases h⟩

theorem masterTurns_met (os : Os) : laidMet Tryd.prog Rows.masterTurnsRow.laid ((laidWorld os).forCall (fun _ _ => 0) ⟨#[], #[.slice none 0 0, .slice none 0 0], []⟩).memory :=
  laidMet_of_run' 8 (by kernel_rfl) (by kernel_rfl)
theorem masterTurns_reads (os : Os) {H : Type} (enc : TypeId × Value → H) : ∃ places, DataW.whole enc Tryd.prog ((laidWorld os).forCall (fun _ _ => 0) ⟨#[], #[.slice none 0 0, .slice none 0 0], []⟩).memory Tryd.f6.params.toList Rows.masterTurnsSpec.vars false (#[.slice none 0 0, .slice none 0 0] : Array Value).toList 8 = some ([.nil, .nil], [], places) :=
  ⟨[], by kernel_rfl⟩

set_option maxRecDepth 100000 in
theorem masterTurns_lifted (os : Os) (started : os.Started) (H : Type) (enc : TypeId × Value → H) (F : Stop.Interp) :
    ReturnsInHanded {} Tryd.checked os 6 .any ((OpenSpec.ofChange Rows.masterTurnsSpec).preRow enc Tryd.prog Tryd.f6 Rows.masterTurnsRow.domain false Rows.masterTurnsRow.laid) (((OpenSpec.ofChange Rows.masterTurnsSpec).at F).post enc Tryd.prog Tryd.f6 false true false false) := by
  obtain ⟨places, hx⟩ := masterTurns_reads os enc
  refine returnsInHanded_of_row (C := Tryd.checked) (s := OpenSpec.ofChange Rows.masterTurnsSpec) own_knob started (by kernel_rfl) Tryd.func6
    (witness_row_at (enc := enc) (C := Tryd.checked) false (laidWorld os) #[.slice none 0 0, .slice none 0 0] rfl (by kernel_rfl) (by kernel_rfl) (by kernel_rfl)
      (OpenSpec.preRow_of_cond 8 hx (by kernel_rfl) (fun k hk => by cases hk) (by kernel_rfl) (masterTurns_met os))) ?_
  intro W base args ds gs before hval hW _ hcond hsz hL _ _
  exact masterTurns_contract H enc W base args ds gs before hval hW hsz hL

theorem masterTurns_said : Rows.MasterTurnsSaid :=
  OpenClaim.holds_of_cond 6 Tryd.f6 rfl rfl rfl rfl rfl rfl rfl ⟨rfl, rfl, rfl, rfl, rfl⟩ rfl rfl rfl rfl rfl (by kernel_rfl) Tryd.func6 (by kernel_rfl)
    (of_decide_eq_true (by kernel_rfl)) (by unfold Func.isWrapper; first | (rw [if_pos (by decide +kernel)]; kernel_rfl) | (rw [if_neg (by decide +kernel)]; exact ⟨rfl, rfl⟩))
    (fun os started H enc _ F => by rw [OpenClaim.pre_eq_preRow]; exact masterTurns_lifted os started H enc F)

theorem masterTurns_plain (f : FuncId) (fn : Func) (hf : Tryd.pinned.checked.prog.funcNamed "tidemark/tidemarklaw07.MasterTurns" = some f) (hfn : Tryd.pinned.checked.prog.funcs[f]? = some fn) :
    false = Tryd.pinned.checked.prog.looks [] ∧ ∀ (j : Nat) t, fn.params[j]? = some t → Tryd.pinned.checked.prog.wantsStandIn t = false := by
  obtain rfl : f = 6 := Option.some.inj ((show Tryd.prog.funcNamed "tidemark/tidemarklaw07.MasterTurns" = some 6 by kernel_rfl).symm.trans hf) |>.symm
  obtain rfl : fn = Tryd.f6 := (Option.some.inj (Tryd.func6.symm.trans hfn)).symm
  refine ⟨by kernel_rfl, fun j t ht => ?_⟩
  rw [Tryd.params6] at ht
  have hm := Array.mem_of_getElem? ht
  have : t = 47∨t = 46 := by simp at hm; first | exact hm | (rcases hm with hh | hh <;> simp [hh]) | (rcases hm with hh | hh | hh <;> simp [hh]) | (rcases hm with hh | hh | hh | hh <;> simp [hh]) | (rcases hm with hh | hh | hh | hh | hh <;> simp [hh]) | (rcases hm with hh | hh | hh | hh | hh | hh <;> simp [hh]) | (rcases hm with hh | hh | hh | hh | hh | hh | hh <;> simp [hh]) | (rcases hm with hh | hh | hh | hh | hh | hh | hh | hh <;> simp [hh])
  rcases this with rfl|rfl
  · exact (show Tryd.prog.wantsStandIn 47 = false by kernel_rfl)
  · exact (show Tryd.prog.wantsStandIn 46 = false by kernel_rfl)

theorem masterTurns_holds : Rows.MasterTurnsCardSaid :=
  Claim7.holds_tied_plain_at .later [] _ _ _ _ masterTurns_said (fun _ h => by cases h) (by kernel_rfl) (fun _ h => by cases h) masterTurns_row_tie rfl ⟨rfl, rfl⟩ (by kernel_rfl) rfl masterTurns_plain (by kernel_rfl)
#print axioms masterTurns_holds
end Go.Proofs.YtgelgjghmoddoaaDoor
