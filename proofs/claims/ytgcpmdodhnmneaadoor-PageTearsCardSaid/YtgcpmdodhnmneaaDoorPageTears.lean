import Derived.Test.YtgcpmdodhnmneaaDoorLaw4
import Derived.Test.YtgcpmdodhnmneaaDoorDoor
import Derived.Test.YtgcpmdodhnmneaaDoorBuilt
import Derived.Test.YtgcpmdodhnmneaaDoorPageTear
import Derived.Test.YtgcpmdodhnmneaaDoorStore
import Derived.Deep.RegionHeld3
import Derived.Deep.DrawnRows
import Derived.Deep.QuietTactic
import Derived.BigQuiet
import Derived.IntWalk
/- PageTears: the walk. -/
set_option linter.unusedVariables false
set_option linter.unusedSimpArgs false
namespace Go.Proofs.YtgcpmdodhnmneaaDoor
open Go.RowKit Go.Tm Go.ChangeShapes Go.WideShapes Go.ChangeAt
set_option maxHeartbeats 400000
set_option maxRecDepth 100000
attribute [local go_sem ↓] Go.wp_at_zero Go.wp_at_succ

theorem two_rows (w : World) (T : TypeId) (a b : List Value) : RowC ((w.alloc (.cells a.toArray T)).alloc (.cells b.toArray T)) w.heap.size T a ∧ RowC ((w.alloc (.cells a.toArray T)).alloc (.cells b.toArray T)) (w.heap.size + 1) T b := by
  constructor
  · exact (Below.heap_alloc _ _ _ (by simp)).trans (heap_alloc_new w _)
  · have := heap_alloc_new (w.alloc (.cells a.toArray T)) (.cells b.toArray T)
    simpa [RowC] using this
theorem two_below (w : World) (T : TypeId) (a b : List Value) : Below w.heap.size w ((w.alloc (.cells a.toArray T)).alloc (.cells b.toArray T)) := ((Below.refl _ _).alloc (Nat.le_refl _) _).alloc (by simp) _

theorem rda_lt {w : World} {A : Option Addr} {c : Nat} {l : List UInt8} (h : Rda w A c l) (hl : 0 < l.length) : ∀ a, A = some a → a.block < w.heap.size := by
  intro a ha
  obtain ⟨g, o, e, hc⟩ := h.cells hl
  rw [e] at ha
  injection ha with ha
  subst ha
  exact World.block_lt_of_cell? _ _ (hc 0 hl)
/-- The page that a plan makes. -/
theorem plan_page {n : Nat} (h1 : 1 ≤ n) (h8 : n ≤ 8) {nu ls : Int} (u0 : 0 ≤ nu) (u1 : nu < 16) (s0 : 0 ≤ ls) (s1 : ls < 1152921504606846976) (l : List (Int × Bool × Int × Int)) :
    ∃ F, stampP (planS nu n l).1 nu.toNat (1 + ls).toNat = F ∧ F.length = 24 + 16 * n ∧ checkE F nu n = 0 ∧ checkOk F nu n = true ∧ frontN F = (1 + ls).toNat := by
  obtain ⟨mE, mP, mV⟩ := make_page u0 u1 h1 h8
  have hpage : IsPage n (planS nu n l).1 := by
    unfold planS
    have : ∀ (q : List (Int × Bool × Int × Int)) s, PlanOk n s → PlanOk n (q.foldl (planStep n) s) := by
      intro q
      induction q with
      | nil => exact fun s h => h
      | cons x r ih => exact fun s h => ih _ (planStep_ok h x)
    exact (this l _ ⟨mP, by simp, by simp⟩).page
  obtain ⟨c1, c2, c3, c4⟩ := stamped_page hpage (number := nu) (lsn := 1 + ls) u0 u1 (by omega) (by omega)
  exact ⟨_, rfl, c4, right_check c1 c2, c1, c3⟩

set_option maxHeartbeats 1600000 in
theorem pageTears_any {w : World} (hT : Tb w) {A B : Option Addr} {c d : Nat} {l m : List (Int × Bool × Int × Int)} (hp : PlanR w A c l) (hq : PlanR w B d m) (num slots lsn num2 slots2 lsn2 cut0 : Int) (empty : Bool) :
    Calls Tryd.prog 6 #[.agg #[.int .i64 num, .int .i64 slots, .int .i64 lsn, .slice A l.length c], .agg #[.int .i64 num2, .int .i64 slots2, .int .i64 lsn2, .slice B m.length d], .int .i64 cut0, .bool empty] w fun e w' => e = .returned (.bool true) ∧ Below w.heap.size w w' := by
  obtain ⟨n, hn⟩ : ∃ n : Nat, (n : Int) = 1 + slots % 8 := ⟨(1 + slots % 8).toNat, by have := Int.emod_nonneg slots (b := 8) (by decide); omega⟩
  obtain ⟨N, hN⟩ : ∃ N, N = 24 + 16 * n := ⟨_, rfl⟩
  have HI1 := Lib.hid (fun W => into4_any slots 8 (by decide) (by decide) W)
  have HI2 := Lib.hid (fun W => into4_any num 16 (by decide) (by decide) W)
  have HI3 := Lib.hid (fun W => into4_any lsn 1152921504606846976 (by decide) (by decide) W)
  have HI4 := Lib.hid (fun W => into4_any lsn2 1152921504606846976 (by decide) (by decide) W)
  have HB1 := Lib.hid (fun (W : World) (T : Tb W) (hp : PlanR W A c l) => built_any T hp num slots lsn n hn N hN)
  have HB2 := Lib.hid (fun (W : World) (T : Tb W) (hp : PlanR W B d m) => built_any T hp num slots lsn2 n hn N hN)
  have n1 : 1 ≤ n := by have := Int.emod_nonneg slots (b := 8) (by decide); omega
  have n8 : n ≤ 8 := by have := Int.emod_lt_of_pos slots (b := 8) (by decide); omega
  obtain ⟨n0, hn0⟩ : ∃ n0, slots % 8 = n0 := ⟨_, rfl⟩
  obtain ⟨nu, hnu⟩ : ∃ nu, num % 16 = nu := ⟨_, rfl⟩
  obtain ⟨ls, hls⟩ : ∃ ls, lsn % 1152921504606846976 = ls := ⟨_, rfl⟩
  obtain ⟨lt, hlt⟩ : ∃ lt, lsn2 % 1152921504606846976 = lt := ⟨_, rfl⟩
  have l0 : 0 ≤ n0 := by omega
  have l1 : n0 < 8 := by omega
  have u0 : 0 ≤ nu := by omega
  have u1 : nu < 16 := by omega
  have s0 : 0 ≤ ls := by omega
  have s1 : ls < 1152921504606846976 := by omega
  have r0 : 0 ≤ lt := by omega
  have r1 : lt < 1152921504606846976 := by omega
  have HSL := Lib.hid hn0
  have HNU := Lib.hid hnu
  have HLS := Lib.hid hls
  have HLT := Lib.hid hlt
  rw [hn0] at HI1 hn
  rw [hnu] at HI2 HB1 HB2
  rw [hls] at HI3 HB1
  rw [hlt] at HI4 HB2
  clear hn0 hnu hls hlt
  obtain ⟨F, hF, F1, F2, F3, F4⟩ := plan_page n1 n8 u0 u1 s0 s1 l
  obtain ⟨G, hG, G1, G2, G3, G4⟩ := plan_page n1 n8 u0 u1 r0 r1 m
  rw [hF] at HB1
  rw [hG] at HB2
  rw [← hN] at F1 G1
  have HN := Lib.hid hn
  have hN152 : N ≤ 152 := by omega
  have hN24 : 24 ≤ N := by omega
  have HF1 := Lib.hid F1
  have HG1 := Lib.hid G1
  have HF4 := Lib.hid F4
  have HG4 := Lib.hid G4
  have HF2 := Lib.hid F2
  have HG2 := Lib.hid G2
  have HF3 := Lib.hid F3
  have HZL := Lib.hid (zeroL_length N)
  clear hn hN hF hG F1 F2 F3 F4 G1 G2 G3 G4
  have t1 := two_rows w 43 [.int .i64 num, .int .i64 slots, .int .i64 lsn, .slice A l.length c] [.int .i64 num2, .int .i64 slots2, .int .i64 lsn2, .slice B m.length d]
  have t2 := two_rows w 43 [.int .i64 num, .int .i64 slots, .int .i64 lsn, .slice A l.length c] [.int .i64 num, .int .i64 slots2, .int .i64 lsn2, .slice B m.length d]
  have t3 := two_rows w 43 [.int .i64 num, .int .i64 slots, .int .i64 lsn, .slice A l.length c] [.int .i64 num, .int .i64 slots, .int .i64 lsn2, .slice B m.length d]
  have b3 := two_below w 43 [.int .i64 num, .int .i64 slots, .int .i64 lsn, .slice A l.length c] [.int .i64 num, .int .i64 slots, .int .i64 lsn2, .slice B m.length d]
  have p10 := t1.1.cell (j := 0) rfl
  have p11 := t1.1.cell (j := 1) rfl
  have q10 := t1.2.cell (j := 0) rfl
  have f10 := t1.2.free 0
  have p20 := t2.1.cell (j := 0) rfl
  have p21 := t2.1.cell (j := 1) rfl
  have q21 := t2.2.cell (j := 1) rfl
  have f21 := t2.2.free 1
  have p30 := t3.1.cell (j := 0) rfl
  have p31 := t3.1.cell (j := 1) rfl
  have p32 := t3.1.cell (j := 2) rfl
  have p33 := t3.1.cell (j := 3) rfl
  go_enter Tryd.func6, Tryd.ntmps6
  go_wp2_with fail
  refine (HB1.out _ (hT.below b3) (hp.below b3)).mono ?_
  rintro e w2 ⟨A2, c2, gL, gU, rfl, hN2, _, _, _, _⟩
  have hP2 := t3.1.below hN2.below
  have hQ2 := t3.2.below hN2.below
  have bb2 := below_then b3 hN2.below
  have rF2 := hN2.rda
  clear p10 p11 q10 f10 p20 p21 q21 f21 p30 p31 p32 p33 t1 t2 t3 hN2 HB1
  have q0 := hQ2.cell (j := 0) rfl
  have q1 := hQ2.cell (j := 1) rfl
  have q2 := hQ2.cell (j := 2) rfl
  have q3 := hQ2.cell (j := 3) rfl
  go_wp2_with fail
  refine (HB2.out _ (hT.below bb2) (hq.below bb2)).mono ?_
  rintro e w3 ⟨A3, c3, gL3, gU3, rfl, hN3, _, _, _, _⟩
  have hP3 := hP2.below hN3.below
  have hQ3 := hQ2.below hN3.below
  have bb3 := below_then bb2 hN3.below
  have rF3 := rF2.below hN3.below
  have rG3 := hN3.rda
  clear hP2 hQ2 bb2 rF2 hN3 HB2 q0 q1 q2 q3 b3
  go_wp2_with fail
  refine (known_any (hT.below bb3)).mono ?_
  rintro e w4 ⟨rfl, hb4⟩
  have hP4 := hP3.below hb4
  have hQ4 := hQ3.below hb4
  have bb4 := below_then bb3 hb4
  have rF4 := rF3.below hb4
  have rG4 := rG3.below hb4
  clear hP3 hQ3 bb3 rF3 rG3 hb4
  cases empty with
  | true =>
    go_wp2_with (with_reducible refine wpList_make8 rfl _ _ rfl tU8 N rfl rfl rfl rfl (by omega) ?_)
    intro w5 hW hb5
    have rC5 := hW.rda (by rw [HZL.out]; omega)
    obtain ⟨C, hC⟩ : ∃ C, zeroL N = C := ⟨_, rfl⟩
    have hCL : C.length = N := by rw [← hC]; exact HZL.out
    have hC2 : checkE C nu n = 0 := by
      refine zero_check ?_ (by rw [← hC]; exact zero_blank N)
      have := HF3.out
      unfold checkOk at this ⊢
      rw [HF1.out] at this
      rw [hCL]
      exact this
    have hNE : frontN F ≠ frontN C := by rw [HF4.out, ← hC, (zero_front N).1]; omega
    rw [hC] at rC5
    rw [hCL] at rC5
    have HCL := Lib.hid hCL
    have HC2 := Lib.hid hC2
    have HNE := Lib.hid hNE
    have hP5 := hP4.below hb5
    have bb5 := below_then bb4 hb5
    have rF5 := rF4.below hb5
    clear hW hb5 hC hCL hC2 hNE hP4 bb4 rF4 rG4 hQ4
    go_wp2_with fail
    obtain ⟨K, hK⟩ : ∃ K : Nat, cut0 % ((N : Int) + 1) = (K : Int) := Int.eq_ofNat_of_zero_le (Int.emod_nonneg _ (by omega))
    have hKl : K ≤ N := by have := Int.emod_lt_of_pos cut0 (b := (N : Int) + 1) (by omega); omega
    have P4 := into4_any cut0 ((N : Int) + 1) (by omega) (by omega) w5
    rw [hK] at P4
    clear hK
    have HTC := Lib.hid (torn_check (HCL.out.trans HF1.out.symm) (by rw [HF1.out]; omega) HF2.out HC2.out HNE.out (k := K) (by rw [HF1.out]; exact hKl))
    have hTl : (F.take K ++ C.drop K).length = N := by rw [List.length_append, List.length_take, List.length_drop, HF1.out, HCL.out]; omega
    have hcF := rF5.cap
    have hcC := rC5.cap
    rw [HF1.out] at hcF
    rw [HCL.out] at hcC
    have rK5 := rF5.take K (by rw [HF1.out]; exact hKl)
    have rD5 := rC5.drop K (by rw [HCL.out]; exact hKl)
    have hnil := Own8.nilRow w5 w5.heap.size 5
    have hKlen : (F.take K).length = K := by rw [List.length_take, HF1.out]; omega
    have hDlen : (C.drop K).length = N - K := by rw [List.length_drop, HCL.out]
    refine P4.mono ?_
    clear P4
    rintro e wx ⟨rfl, rfl⟩
    go_wp2_with (at_builtin; refine wpList_app2 (l := []) (m := F.take K) rfl _ _ rfl tU8 rfl hnil rfl hKlen.symm rK5 (by rw [hKlen]; simp; omega) (Nat.le_refl _) ?_)
    intro v6 w6 o6 hw6
    try rw [List.nil_append] at o6
    have hb6 : Below w5.heap.size w5 w6 := grown_below hw6.grown (Nat.le_refl _) (fun k hk => by simp [Value.ownBlock] at hk)
    have bb6 := below_then bb5 hb6
    have rF6 := rF5.below hb6
    have rC6 := rC5.below hb6
    have rD6 := rD5.below hb6
    have hP6 := hP5.below hb6
    have hz6 := hb6.size
    go_wp2_with (first
      | ((with_reducible refine at_slice ?_); refine wpList_sliceAny (L := K) (H := N) (M := N) rfl _ _ _ _ rfl tU8 rfl rfl rfl rfl (.at _ _ _ _ rfl) (.no _) (.no _) (.inl rfl) (by omega) (by omega) (by omega) ?_)
      | (at_builtin; refine wpList_app2 (l := F.take K) (m := C.drop K) rfl _ _ rfl tU8 rfl o6 rfl hDlen.symm rD6 (by rw [hKlen, hDlen]; omega) hz6 ?_))
    intro v7 w7 o7 hw7
    have hne7 : ∀ q, v6.ownBlock = some q → w5.heap.size ≤ q := fun q hq => (World.ownsRow.lt o6 q hq).1
    have bb7 := bb6.grown hw7.grown bb6.size (fun k hk => by have := hne7 k hk; have := bb5.size; omega)
    have hFlt := rda_lt rF5 (by rw [HF1.out]; omega)
    have hClt := rda_lt rC5 (by rw [HCL.out]; omega)
    have rF7 := rF6.grown hw7.grown (fun a ha hc => by have := hne7 _ hc.symm; have := hFlt a ha; omega)
    have rC7 := rC6.grown hw7.grown (fun a ha hc => by have := hne7 _ hc.symm; have := hClt a ha; omega)
    have hP7 := hP6.grown hw7.grown (fun hc => by have := hne7 _ hc; have := hP5.lt; omega)
    obtain ⟨A7, c7, rfl, rT7⟩ := own_rda o7
    rw [hTl]
    obtain ⟨T, hT0⟩ : ∃ T, F.take K ++ C.drop K = T := ⟨_, rfl⟩
    rw [hT0] at HTC rT7 hTl
    have PC := fun (W : World) (Tw : Tb W) (hb : Below w7.heap.size w7 W) => check_any Tw (rT7.below hb) (n := N) hTl.symm (by omega) nu n
    rw [HN.out, ← HNU.out, ← HSL.out] at PC
    obtain ⟨E, hE⟩ : ∃ E, checkE T (num % 16) (1 + slots % 8) = E := ⟨_, rfl⟩
    obtain ⟨V, hV⟩ : ∃ V, checkV T (num % 16) (1 + slots % 8) = V := ⟨_, rfl⟩
    rw [hE, hV] at PC
    rw [HN.out, ← HNU.out, ← HSL.out, hE] at HTC
    have HPC := Lib.hid PC
    clear PC hE hV hT0 hw7 o6 rK5 rD5 rD6 hnil
    have x0 := hP7.cell (j := 0) rfl
    have x1 := hP7.cell (j := 1) rfl
    have hbw := (Below.refl w7.heap.size w7).drew
    go_wp2_with fail
    have g0 : 0 ≤ slots % 8 := Int.emod_nonneg _ (by decide)
    have g1 : slots % 8 < 8 := Int.emod_lt_of_pos _ (by decide)
    have g2 : IntKind.i64.wrap (1 + slots % 8) = 1 + slots % 8 := IntWalk.i64_in _ (by omega)
    go_region_held3 (fun w' => w'.cell? ⟨w.heap.size, 0, none⟩ = some (.int .i64 num) ∧ w'.cell? ⟨w.heap.size, 1, none⟩ = some (.int .i64 slots)) (first | go_keep | exact ⟨x0, x1⟩ | exact ⟨hs1, hs2⟩)
      (first
        | (go_at_call 24; refine (into4_any _ _ (by decide) (by decide) _).mono ?_; rintro e wz ⟨rfl, rfl⟩)
        | (go_at_call 17; refine (HPC.out _ (hT.below (below_then bb7 hbw)) hbw).mono ?_; rintro e w8 ⟨rfl, hN8⟩; have hb8 := below_then hbw hN8; have hs1 := (hb8.cell (p := ⟨w.heap.size, 0, none⟩) (World.block_lt_of_cell? _ _ x0)).trans x0; have hs2 := (hb8.cell (p := ⟨w.heap.size, 1, none⟩) (World.block_lt_of_cell? _ _ x1)).trans x1))
    clear g2
    have rT8 := rT7.below hb8
    have rF8 := rF7.below hb8
    have rC8 := rC7.below hb8
    have bb8 := below_then bb7 hb8
    have HE0 := HTC.out
    have HBB := Lib.hid bb8
    have HS1 := same_any rT8 rF8 hTl.symm HF1.out.symm
    have HS2 := same_any rT8 rC8 hTl.symm HCL.out.symm
    clear bb8 rT8 rF8 rC8 hb8 hN8 hs1 hs2 rT7 rF7 rC7 hFlt hClt
    by_cases hTF : T = F
    · rw [decide_eq_true hTF] at HE0 HS1
      rw [Bool.true_or] at HE0
      have K1 := Lib.hid HS1
      clear HS1 HS2 hTF
      go_wp2_with fail
      refine K1.out.mono ?_
      rintro e wx ⟨rfl, rfl⟩
      go_wp2_with fail
      go_ret
      exact ⟨rfl, HBB.out⟩
    · rw [decide_eq_false hTF] at HE0 HS1
      rw [Bool.false_or] at HE0
      obtain ⟨tc, htc⟩ : ∃ tc, decide (T = C) = tc := ⟨_, rfl⟩
      rw [htc] at HE0 HS2
      have K1 := Lib.hid HS1
      have K2 := Lib.hid HS2
      clear HS1 HS2 hTF htc
      go_wp2_with fail
      refine K1.out.mono ?_
      rintro e wx ⟨rfl, rfl⟩
      go_wp2_with fail
      refine K2.out.mono ?_
      rintro e wx ⟨rfl, rfl⟩
      go_wp2_with fail
      go_ret
      exact ⟨by simp, HBB.out⟩
  | false =>
    have x2 := hP4.cell (j := 2) rfl
    have y2 := hQ4.cell (j := 2) rfl
    have zb := (Below.refl w4.heap.size w4).drew
    have hHe : (w4.heap.size : Nat) = w4.heap.size := rfl
    clear hHe
    by_cases hll : lsn % 1152921504606846976 = lsn2 % 1152921504606846976
    · have hlb : (lsn % 1152921504606846976 == lsn2 % 1152921504606846976) = true := by simpa using hll
      have HBB := Lib.hid bb4
      clear hll rF4 rG4 hP4 hQ4 bb4
      go_wp2_with fail
      go_region_held3 (fun w' => w'.cell? ⟨w.heap.size, 2, none⟩ = some (.int .i64 lsn) ∧ w'.cell? ⟨w.heap.size + 1, 2, none⟩ = some (.int .i64 lsn2)) (first | go_keep | exact ⟨x2, y2⟩) ((go_at_call 24; refine (into4_any _ _ (by decide) (by decide) _).mono ?_; rintro e wz ⟨rfl, rfl⟩))
      go_wp2_with fail
      go_ret
      exact ⟨rfl, below_then HBB.out zb⟩
    · have hlb : (lsn % 1152921504606846976 == lsn2 % 1152921504606846976) = false := by rw [beq_eq_false_iff_ne]; exact hll
      have hNE : frontN F ≠ frontN G := by
        rw [HF4.out, HG4.out]
        intro hc
        rw [HLS.out, HLT.out] at hll
        omega
      have HNE := Lib.hid hNE
      have HRF := Lib.hid rF4
      have HRG := Lib.hid rG4
      have HHP := Lib.hid hP4
      have HBB := Lib.hid bb4
      clear hll hNE rF4 rG4 hP4 hQ4 bb4
      go_wp2_with fail
      go_region_held3 (fun w' => w'.cell? ⟨w.heap.size, 2, none⟩ = some (.int .i64 lsn) ∧ w'.cell? ⟨w.heap.size + 1, 2, none⟩ = some (.int .i64 lsn2)) (first | go_keep | exact ⟨x2, y2⟩) ((go_at_call 24; refine (into4_any _ _ (by decide) (by decide) _).mono ?_; rintro e wz ⟨rfl, rfl⟩))
      have rF5' := HRF.out.below zb
      have rC5' := HRG.out.below zb
      have hP5' := HHP.out.below zb
      have bb5' := below_then HBB.out zb
      obtain ⟨w5, hw5⟩ : ∃ w5, w4.drew = w5 := ⟨_, rfl⟩
      rw [hw5] at rF5' rC5' hP5' bb5'
      have rF5 := rF5'
      have rC5 := rC5'
      have hP5 := hP5'
      have bb5 := bb5'
      have HCL := HG1
      have HC2 := HG2
      clear rF5' rC5' hP5' bb5' HRF HRG HHP HBB zb x2 y2
      rw [hw5]
      clear hw5 hlb
      obtain ⟨C, hC⟩ : ∃ C, G = C := ⟨_, rfl⟩
      rw [hC] at rC5 HCL HC2 HNE
      go_wp2_with fail
      obtain ⟨K, hK⟩ : ∃ K : Nat, cut0 % ((N : Int) + 1) = (K : Int) := Int.eq_ofNat_of_zero_le (Int.emod_nonneg _ (by omega))
      have hKl : K ≤ N := by have := Int.emod_lt_of_pos cut0 (b := (N : Int) + 1) (by omega); omega
      have P4 := into4_any cut0 ((N : Int) + 1) (by omega) (by omega) w5
      rw [hK] at P4
      clear hK
      have HTC := Lib.hid (torn_check (HCL.out.trans HF1.out.symm) (by rw [HF1.out]; omega) HF2.out HC2.out HNE.out (k := K) (by rw [HF1.out]; exact hKl))
      have hTl : (F.take K ++ C.drop K).length = N := by rw [List.length_append, List.length_take, List.length_drop, HF1.out, HCL.out]; omega
      have hcF := rF5.cap
      have hcC := rC5.cap
      rw [HF1.out] at hcF
      rw [HCL.out] at hcC
      have rK5 := rF5.take K (by rw [HF1.out]; exact hKl)
      have rD5 := rC5.drop K (by rw [HCL.out]; exact hKl)
      have hnil := Own8.nilRow w5 w5.heap.size 5
      have hKlen : (F.take K).length = K := by rw [List.length_take, HF1.out]; omega
      have hDlen : (C.drop K).length = N - K := by rw [List.length_drop, HCL.out]
      refine P4.mono ?_
      clear P4
      rintro e wx ⟨rfl, rfl⟩
      go_wp2_with (at_builtin; refine wpList_app2 (l := []) (m := F.take K) rfl _ _ rfl tU8 rfl hnil rfl hKlen.symm rK5 (by rw [hKlen]; simp; omega) (Nat.le_refl _) ?_)
      intro v6 w6 o6 hw6
      try rw [List.nil_append] at o6
      have hb6 : Below w5.heap.size w5 w6 := grown_below hw6.grown (Nat.le_refl _) (fun k hk => by simp [Value.ownBlock] at hk)
      have bb6 := below_then bb5 hb6
      have rF6 := rF5.below hb6
      have rC6 := rC5.below hb6
      have rD6 := rD5.below hb6
      have hP6 := hP5.below hb6
      have hz6 := hb6.size
      go_wp2_with (first
        | ((with_reducible refine at_slice ?_); refine wpList_sliceAny (L := K) (H := N) (M := N) rfl _ _ _ _ rfl tU8 rfl rfl rfl rfl (.at _ _ _ _ rfl) (.no _) (.no _) (.inl rfl) (by omega) (by omega) (by omega) ?_)
        | (at_builtin; refine wpList_app2 (l := F.take K) (m := C.drop K) rfl _ _ rfl tU8 rfl o6 rfl hDlen.symm rD6 (by rw [hKlen, hDlen]; omega) hz6 ?_))
      intro v7 w7 o7 hw7
      have hne7 : ∀ q, v6.ownBlock = some q → w5.heap.size ≤ q := fun q hq => (World.ownsRow.lt o6 q hq).1
      have bb7 := bb6.grown hw7.grown bb6.size (fun k hk => by have := hne7 k hk; have := bb5.size; omega)
      have hFlt := rda_lt rF5 (by rw [HF1.out]; omega)
      have hClt := rda_lt rC5 (by rw [HCL.out]; omega)
      have rF7 := rF6.grown hw7.grown (fun a ha hc => by have := hne7 _ hc.symm; have := hFlt a ha; omega)
      have rC7 := rC6.grown hw7.grown (fun a ha hc => by have := hne7 _ hc.symm; have := hClt a ha; omega)
      have hP7 := hP6.grown hw7.grown (fun hc => by have := hne7 _ hc; have := hP5.lt; omega)
      obtain ⟨A7, c7, rfl, rT7⟩ := own_rda o7
      rw [hTl]
      obtain ⟨T, hT0⟩ : ∃ T, F.take K ++ C.drop K = T := ⟨_, rfl⟩
      rw [hT0] at HTC rT7 hTl
      have PC := fun (W : World) (Tw : Tb W) (hb : Below w7.heap.size w7 W) => check_any Tw (rT7.below hb) (n := N) hTl.symm (by omega) nu n
      rw [HN.out, ← HNU.out, ← HSL.out] at PC
      obtain ⟨E, hE⟩ : ∃ E, checkE T (num % 16) (1 + slots % 8) = E := ⟨_, rfl⟩
      obtain ⟨V, hV⟩ : ∃ V, checkV T (num % 16) (1 + slots % 8) = V := ⟨_, rfl⟩
      rw [hE, hV] at PC
      rw [HN.out, ← HNU.out, ← HSL.out, hE] at HTC
      have HPC := Lib.hid PC
      clear PC hE hV hT0 hw7 o6 rK5 rD5 rD6 hnil
      have x0 := hP7.cell (j := 0) rfl
      have x1 := hP7.cell (j := 1) rfl
      have hbw := (Below.refl w7.heap.size w7).drew
      go_wp2_with fail
      have g0 : 0 ≤ slots % 8 := Int.emod_nonneg _ (by decide)
      have g1 : slots % 8 < 8 := Int.emod_lt_of_pos _ (by decide)
      have g2 : IntKind.i64.wrap (1 + slots % 8) = 1 + slots % 8 := IntWalk.i64_in _ (by omega)
      go_region_held3 (fun w' => w'.cell? ⟨w.heap.size, 0, none⟩ = some (.int .i64 num) ∧ w'.cell? ⟨w.heap.size, 1, none⟩ = some (.int .i64 slots)) (first | go_keep | exact ⟨x0, x1⟩ | exact ⟨hs1, hs2⟩)
        (first
          | (go_at_call 24; refine (into4_any _ _ (by decide) (by decide) _).mono ?_; rintro e wz ⟨rfl, rfl⟩)
          | (go_at_call 17; refine (HPC.out _ (hT.below (below_then bb7 hbw)) hbw).mono ?_; rintro e w8 ⟨rfl, hN8⟩; have hb8 := below_then hbw hN8; have hs1 := (hb8.cell (p := ⟨w.heap.size, 0, none⟩) (World.block_lt_of_cell? _ _ x0)).trans x0; have hs2 := (hb8.cell (p := ⟨w.heap.size, 1, none⟩) (World.block_lt_of_cell? _ _ x1)).trans x1))
      clear g2
      have rT8 := rT7.below hb8
      have rF8 := rF7.below hb8
      have rC8 := rC7.below hb8
      have bb8 := below_then bb7 hb8
      have HE0 := HTC.out
      have HBB := Lib.hid bb8
      have HS1 := same_any rT8 rF8 hTl.symm HF1.out.symm
      have HS2 := same_any rT8 rC8 hTl.symm HCL.out.symm
      clear bb8 rT8 rF8 rC8 hb8 hN8 hs1 hs2 rT7 rF7 rC7 hFlt hClt
      by_cases hTF : T = F
      · rw [decide_eq_true hTF] at HE0 HS1
        rw [Bool.true_or] at HE0
        have K1 := Lib.hid HS1
        clear HS1 HS2 hTF
        go_wp2_with fail
        refine K1.out.mono ?_
        rintro e wx ⟨rfl, rfl⟩
        go_wp2_with fail
        go_ret
        exact ⟨rfl, HBB.out⟩
      · rw [decide_eq_false hTF] at HE0 HS1
        rw [Bool.false_or] at HE0
        obtain ⟨tc, htc⟩ : ∃ tc, decide (T = C) = tc := ⟨_, rfl⟩
        rw [htc] at HE0 HS2
        have K1 := Lib.hid HS1
        have K2 := Lib.hid HS2
        clear HS1 HS2 hTF htc
        go_wp2_with fail
        refine K1.out.mono ?_
        rintro e wx ⟨rfl, rfl⟩
        go_wp2_with fail
        refine K2.out.mono ?_
        rintro e wx ⟨rfl, rfl⟩
        go_wp2_with fail
        go_ret
        exact ⟨by simp, HBB.out⟩

theorem pageTears_contract (H : Type) (enc : TypeId × Value → H) (W : World) (base : Nat) (args : Array Value) (ds gs : List (DataW H)) (before : List MemPlace)
    (hval0 : ∀ (j : Nat) t v, Tryd.f6.params[j]? = some t → args[j]? = some v → Value.okWide Tryd.prog W .any base t v)
    (hW : DataW.Whole enc Tryd.prog Tryd.f6.params.toList Rows.pageTearsSpec.vars false W args.toList ds gs before) (hsz : (DataW.weightsEach Tryd.checked.prog (Tryd.f6.params.toList ++ Rows.pageTearsSpec.plain.varTypes Tryd.checked.prog) (ds ++ gs)).all (· ≤ reachBytes) = true) (hL : laidMetH Tryd.prog Rows.pageTearsRow.laid W) :
    Calls Tryd.prog 6 args W fun e W' => ∃ v, e = .returned v ∧ Rows.pageTearsSpec.post enc Tryd.prog Tryd.f6 false true false false W args v W' := by
  have hval : ∀ (j : Nat) t v, Tryd.f6.params[j]? = some t → args[j]? = some v → Value.okWide Tryd.prog W .any base t v := hval0
  have hW' := hW
  obtain ⟨p, q, hA0, hV, rfl, hfz, hnd⟩ := hW
  have hA : DataW.TrodAll enc Tryd.prog W 0 (fun _ => true) true Tryd.f6.params.toList args.toList ds p := hA0
  rw [Tryd.params6] at hA hval
  obtain ⟨v0, vs0, d0, ds0, p0, q0, hargs, rfl, rfl, h0, rr0⟩ := trodAll_cons hA
  obtain ⟨v1, vs1, d1, ds1, p1, q1, rfl, rfl, rfl, h1, rr1⟩ := trodAll_cons rr0
  obtain ⟨v2, vs2, d2, ds2, p2, q2, rfl, rfl, rfl, h2, rr2⟩ := trodAll_cons rr1
  obtain ⟨v3, vs3, d3, ds3, p3, q3, rfl, rfl, rfl, h3, rr3⟩ := trodAll_cons rr2
  obtain ⟨rfl, rfl, rfl⟩ := trodAll_nil rr3
  obtain rfl : args = #[v0, v1, v2, v3] := by cases args; simp_all
  obtain ⟨rfl, rfl⟩ := trodVars_none hV
  have k0 := h0
  have lt0 : ∀ x ∈ p0, x.block < W.heap.size := by obtain ⟨m, hm⟩ := k0; exact DataW.trod_lt m _ _ _ hm
  obtain ⟨num0, slots0, lsn0, a0, l0, cap0, rfl, r0⟩ := open_plan (hval 0 43 v0 rfl rfl) h0
  have k1 := h1
  have lt1 : ∀ x ∈ p1, x.block < W.heap.size := by obtain ⟨m, hm⟩ := k1; exact DataW.trod_lt m _ _ _ hm
  obtain ⟨num1, slots1, lsn1, a1, l1, cap1, rfl, r1⟩ := open_plan (hval 1 43 v1 rfl rfl) h1
  obtain ⟨x2, rfl, rfl, rfl, w2⟩ := open_int Tryd.underlying3 (hval 2 3 v2 rfl rfl) h2
  have b2 := bounds_i64 w2
  obtain ⟨x3, rfl, rfl, rfl⟩ := open_bool Tryd.underlying4 (hval 3 4 v3 rfl rfl) h3
  clear hA0 hval0
  refine (pageTears_any (tb_of hL) r0 r1 num0 slots0 lsn0 num1 slots1 lsn1 x2 x3).mono fun e W' ⟨he, bel⟩ => ?_
  subst he
  exact ⟨_, rfl, _, _, _, [], _, [], hW', trodAll_mk1 (shut_bool Tryd.underlying4 _), (trodAll_cons_mk (Below.trod laid_out (by kernel_rfl) (of_decide_eq_true (by kernel_rfl)) k0 bel lt0) (trodAll_cons_mk (Below.trod laid_out (by kernel_rfl) (of_decide_eq_true (by kernel_rfl)) k1 bel lt1) (trodAll_cons_mk (shut_int Tryd.underlying3 w2) (trodAll_cons_mk (shut_bool Tryd.underlying4 _) trodAll_mk0)))), rfl, bel.frame _, fun h => by cases h⟩

theorem pageTears_met (os : Os) : laidMet Tryd.prog Rows.pageTearsRow.laid ((laidWorld os).forCall (fun _ _ => 0) ⟨#[], #[.agg #[.int .i64 0, .int .i64 0, .int .i64 0, .slice none 0 0], .agg #[.int .i64 0, .int .i64 0, .int .i64 0, .slice none 0 0], .int .i64 0, .bool false], []⟩).memory :=
  laidMet_of_run' 8 (by kernel_rfl) (by kernel_rfl)
theorem pageTears_reads (os : Os) {H : Type} (enc : TypeId × Value → H) : ∃ places, DataW.whole enc Tryd.prog ((laidWorld os).forCall (fun _ _ => 0) ⟨#[], #[.agg #[.int .i64 0, .int .i64 0, .int .i64 0, .slice none 0 0], .agg #[.int .i64 0, .int .i64 0, .int .i64 0, .slice none 0 0], .int .i64 0, .bool false], []⟩).memory Tryd.f6.params.toList Rows.pageTearsSpec.vars false (#[.agg #[.int .i64 0, .int .i64 0, .int .i64 0, .slice none 0 0], .agg #[.int .i64 0, .int .i64 0, .int .i64 0, .slice none 0 0], .int .i64 0, .bool false] : Array Value).toList 8 = some ([.agg [.lit (.int .i64 0), .lit (.int .i64 0), .lit (.int .i64 0), .nil], .agg [.lit (.int .i64 0), .lit (.int .i64 0), .lit (.int .i64 0), .nil], .lit (.int .i64 0), .lit (.bool false)], [], places) :=
  ⟨[], by kernel_rfl⟩

set_option maxRecDepth 100000 in
theorem pageTears_lifted (os : Os) (started : os.Started) (H : Type) (enc : TypeId × Value → H) (F : Stop.Interp) :
    ReturnsInHanded {} Tryd.checked os 6 .any ((OpenSpec.ofChange Rows.pageTearsSpec).preRow enc Tryd.prog Tryd.f6 Rows.pageTearsRow.domain false Rows.pageTearsRow.laid) (((OpenSpec.ofChange Rows.pageTearsSpec).at F).post enc Tryd.prog Tryd.f6 false true false false) := by
  obtain ⟨places, hx⟩ := pageTears_reads os enc
  refine returnsInHanded_of_row (C := Tryd.checked) (s := OpenSpec.ofChange Rows.pageTearsSpec) own_knob started (by kernel_rfl) Tryd.func6
    (witness_row_at (enc := enc) (C := Tryd.checked) false (laidWorld os) #[.agg #[.int .i64 0, .int .i64 0, .int .i64 0, .slice none 0 0], .agg #[.int .i64 0, .int .i64 0, .int .i64 0, .slice none 0 0], .int .i64 0, .bool false] rfl (by kernel_rfl) (by kernel_rfl) (by kernel_rfl)
      (OpenSpec.preRow_of_cond 8 hx (by kernel_rfl) (fun k hk => by cases hk) (by kernel_rfl) (pageTears_met os))) ?_
  intro W base args ds gs before hval hW _ hcond hsz hL _ _
  exact pageTears_contract H enc W base args ds gs before hval hW hsz hL

theorem pageTears_said : Rows.PageTearsSaid :=
  OpenClaim.holds_of_cond 6 Tryd.f6 rfl rfl rfl rfl rfl rfl rfl ⟨rfl, rfl, rfl, rfl, rfl⟩ rfl rfl rfl rfl rfl (by kernel_rfl) Tryd.func6 (by kernel_rfl)
    (of_decide_eq_true (by kernel_rfl)) (by unfold Func.isWrapper; first | (rw [if_pos (by decide +kernel)]; kernel_rfl) | (rw [if_neg (by decide +kernel)]; exact ⟨rfl, rfl⟩))
    (fun os started H enc _ F => by rw [OpenClaim.pre_eq_preRow]; exact pageTears_lifted os started H enc F)

theorem pageTears_plain (f : FuncId) (fn : Func) (hf : Tryd.pinned.checked.prog.funcNamed "tidemark/tidemarklaw04.PageTears" = some f) (hfn : Tryd.pinned.checked.prog.funcs[f]? = some fn) :
    false = Tryd.pinned.checked.prog.looks [] ∧ ∀ (j : Nat) t, fn.params[j]? = some t → Tryd.pinned.checked.prog.wantsStandIn t = false := by
  obtain rfl : f = 6 := Option.some.inj ((show Tryd.prog.funcNamed "tidemark/tidemarklaw04.PageTears" = some 6 by kernel_rfl).symm.trans hf) |>.symm
  obtain rfl : fn = Tryd.f6 := (Option.some.inj (Tryd.func6.symm.trans hfn)).symm
  refine ⟨by kernel_rfl, fun j t ht => ?_⟩
  rw [Tryd.params6] at ht
  have hm := Array.mem_of_getElem? ht
  have : t = 4∨t = 3∨t = 43 := by simp at hm; first | exact hm | (rcases hm with hh | hh <;> simp [hh]) | (rcases hm with hh | hh | hh <;> simp [hh]) | (rcases hm with hh | hh | hh | hh <;> simp [hh]) | (rcases hm with hh | hh | hh | hh | hh <;> simp [hh]) | (rcases hm with hh | hh | hh | hh | hh | hh <;> simp [hh]) | (rcases hm with hh | hh | hh | hh | hh | hh | hh <;> simp [hh]) | (rcases hm with hh | hh | hh | hh | hh | hh | hh | hh <;> simp [hh])
  rcases this with rfl|rfl|rfl
  · exact (show Tryd.prog.wantsStandIn 4 = false by kernel_rfl)
  · exact (show Tryd.prog.wantsStandIn 3 = false by kernel_rfl)
  · exact (show Tryd.prog.wantsStandIn 43 = false by kernel_rfl)

theorem pageTears_holds : Rows.PageTearsCardSaid :=
  Claim7.holds_tied_plain_at .later [] _ _ _ _ pageTears_said (fun _ h => by cases h) (by kernel_rfl) (fun _ h => by cases h) pageTears_row_tie rfl ⟨rfl, rfl⟩ (by kernel_rfl) rfl pageTears_plain (by kernel_rfl)
#print axioms pageTears_holds
end Go.Proofs.YtgcpmdodhnmneaaDoor
