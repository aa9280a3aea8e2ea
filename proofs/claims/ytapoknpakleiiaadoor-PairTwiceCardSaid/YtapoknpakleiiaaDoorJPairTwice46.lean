import Derived.Test.YtapoknpakleiiaaDoorJPairTwice45
/- The contracts of package disk: Crash. -/
set_option linter.unusedVariables false
set_option linter.unusedSimpArgs false
namespace Go.Proofs.YtapoknpakleiiaaDoor
open Go.RowKit Go.Tm
set_option maxHeartbeats 400000
set_option maxRecDepth 100000
attribute [local go_sem ↓] Go.wp_at_zero Go.wp_at_succ

theorem below_row {B : Nat} {w w1 w2 : World} {χ : Col} {i t : Nat} (hb : Below B w w1) (hB : B ≤ w1.heap.size) (hB2 : w.heap.size ≤ w1.heap.size) (h : KeptBut (fun q => χ q = (i, t)) w1 w2) (hc : ∀ q, q < B → χ q ≠ (i, t)) : Below B w w2 :=
  ⟨h.os.trans hb.os, h.tape.trans hb.tape, h.output.trans hb.output, Nat.le_trans hB2 h.size, fun q hq => (h.block q (by omega) (hc q hq)).trans (hb.block q hq)⟩
theorem RowsOk.take_crash {P K : Nat} {rows : List (List UInt8)} (h : RowsOk P K rows) (ws : List Wr) (hw : ∀ x ∈ ws, WrOk P K x) (ks : List Int) (k : Nat) : RowsOk P K (crashR rows (ws.take k) ks 0) :=
  h.crash ks _ _ fun x hx => hw x (List.mem_of_mem_take hx)
theorem crashR_step {rows : List (List UInt8)} {ws : List Wr} {x : Wr} {k : Nat} (hx : ws[k]? = some x) (ks : List Int) : crashR rows (ws.take (k + 1)) ks 0 = layR (crashR rows (ws.take k) ks 0) x (keepN (keepI ks k) x.bs.length) := by
  have hk := (List.getElem?_eq_some_iff.1 hx).1
  rw [List.take_add_one, hx, Option.toList_some, crashR_snoc, List.length_take, Nat.min_eq_left (by omega), Nat.zero_add]
theorem layR_zero {P K : Nat} {rows : List (List UInt8)} (h : RowsOk P K rows) {x : Wr} (hx : WrOk P K x) : layR rows x 0 = rows := by
  have hg := (h.getD hx.pl).1
  unfold layR
  rw [List.take_zero]
  have : layL (rows.getD x.pl []) 0 [] = rows.getD x.pl [] := by simp [layL]
  rw [this]
  apply List.ext_getElem?
  intro i
  rw [List.getElem?_set]
  split
  · rename_i e
    subst e
    split
    · exact hg.symm
    · rw [List.getElem?_eq_none (by omega)]
  · rfl

/-- What goes on round by round. -/
structure CrR (wa wr : World) (χ1 : Col) (i' g : Nat) (vs : List Value) (rows : List (List UInt8)) (P : Nat) : Prop where
  ground : GroundK wr χ1 i' 100 g vs rows (P + 3)
  below : Below wa.heap.size wa wr

set_option maxHeartbeats 4000000 in
theorem crash_any {w : World} {χ : Col} {j p : Nat} {s : DSt} (hd : IsDisk w χ j p s) (hlo : s.loose.length < 5000000000000) {A : Option Addr} {c : Nat} {ks : List Int} (hk : RdI w A c ks) (hkb : ∀ k ∈ ks, k ≤ 9223372036854775807) (hkl : ks.length ≤ 140737488351232) (CL : Int) (hc0 : -9223372036854775808 ≤ CL) (hc1 : CL ≤ 9223372036854775807) (i' : Nat) (hi : 0 < i') {KL : Nat} (hKL : KL = ks.length) :
    Calls Tryd.prog 33 #[.pointer (some ⟨p, 0, none⟩), .agg #[.int .i64 CL, .slice A KL c]] w fun e w' => ∃ p' χ', e = .returned (.pointer (some ⟨p', 0, none⟩)) ∧ NewD w w' χ χ' i' p' (crashS s CL ks) := by
  subst hKL
  obtain ⟨q, h⟩ := hd
  have hb0 := (Below.refl w.heap.size w).alloc (Nat.le_refl _) (.cells #[.int .i64 CL, .slice A ks.length c] 68)
  have hRc : RowC (w.alloc (.cells #[.int .i64 CL, .slice A ks.length c] 68)) w.heap.size 68 [.int .i64 CL, .slice A ks.length c] := heap_alloc_new _ _
  obtain ⟨wa, hwa⟩ : ∃ wa, w.alloc (.cells #[.int .i64 CL, .slice A ks.length c] 68) = wa := ⟨_, rfl⟩
  have hsz : wa.heap.size = w.heap.size + 1 := by rw [← hwa]; simp
  rw [hwa] at hb0 hRc
  have hD := h.below (Ext.refl _ _) hb0
  have hKa := hk.below hb0
  have hRow := hD.row
  have c3 := hRow.cell (j := 3) (v := .slice (some ⟨q.g1, 0, none⟩) (s.P + 3) (s.P + 3)) rfl
  have c5 := hRow.cell (j := 5) (v := q.vo) rfl
  have hp1 := h.ok.p1
  have hlen := h.ok.lasts.len
  have hG0 := hD.lasts
  rw [← hlen] at hG0
  have hRR := hG0.rd (by omega)
  rw [hlen] at hRR
  have HG := Lib.hid (gcopy_any hRR hlen.symm (by omega) (rows_pos h.ok.lasts h.ok.k1) (fun _ => (0, 9)) i' 100)
  have HD := Lib.hid hD
  have HSZ := Lib.hid hsz
  have HB0 := Lib.hid hb0
  have HRC := Lib.hid hRc
  have HLK := Lib.hid h.look
  have HKA := Lib.hid hKa
  have hll : q.L.length < 5000000000000 := by have := h.look; rw [this, List.length_map] at hlo; exact hlo
  clear hG0 hRR h hlen hsz hb0 hRc hlo hk hD hRow hKa
  go_enter Tryd.func33, Tryd.ntmps33
  go_wp2_with fail
  have HWA := Lib.hid hwa
  clear hwa
  refine HG.out.mono ?_
  rintro e w1 ⟨g, vs, χ1, rfl, N1⟩
  have HN1 := Lib.hid N1
  obtain ⟨SZ, hSZ⟩ : ∃ SZ, w.heap.size = SZ := ⟨_, rfl⟩
  rw [hSZ] at HSZ HRC ⊢
  have HSW := Lib.hid hSZ
  clear hSZ
  obtain ⟨vA, vc, hv⟩ := ownLe_slice HD.out.loose.own
  have HC : Hid (∀ k x, q.L[k]? = some x → ∃ g, vA = some ⟨g, 0, none⟩ ∧ wa.cell? ⟨g, k * 3, none⟩ = some (.bool x.1.m) ∧ wa.cell? ⟨g, k * 3 + 1, none⟩ = some (.int .i64 (x.1.bs.length : Int)) ∧ wa.cell? ⟨g, k * 3 + 2, none⟩ = some x.2 ∧ g < wa.heap.size) := Lib.hid fun k x hx => by
    have hO := HD.out.loose.own
    rw [hv] at hO
    obtain ⟨y1, y2, y3⟩ := wrC_get q.L k x hx
    obtain ⟨g, rfl, z1, _, z4⟩ := ownLe_cell hO y1
    obtain ⟨g2, e2', z2, _⟩ := ownLe_cell hO y2
    obtain ⟨g3, e3', z3, _⟩ := ownLe_cell hO y3
    injection e2' with e2'
    injection e2' with e2'
    injection e3' with e3'
    injection e3' with e3'
    subst e2' e3'
    have hg : q.vo.ownBlock = some g := by rw [hv]; rfl
    exact ⟨g, rfl, z1, z2, z3, (ownLe_block HD.out.loose.own hg).2.1⟩
  have hcap : q.L.length ≤ vc := by
    have hO := HD.out.loose.own
    rw [hv] at hO
    rcases hO.2 with ⟨a1, a2⟩ | ⟨g, cap, cur, a1, a2, a3, a4, a5⟩
    · omega
    · injection a1 with a1 a1' a1''
      omega
  rw [hv] at c5
  have c5' := (N1.below.cell (p := ⟨p, 5, none⟩) (World.block_lt_of_cell? _ _ c5)).trans c5
  have R1 : CrR wa w1 χ1 i' g vs (crashR s.lasts (s.loose.take 0) ks 0) s.P := ⟨by have := N1.ground; rw [HD.out.ok.lasts.len] at this; exact this, N1.below⟩
  obtain ⟨N, hN⟩ : ∃ N, q.L.length = N := ⟨_, rfl⟩
  have HN := Lib.hid hN
  rw [hN] at c5 c5' hcap hll
  have KLN : Hid (ks.length = ks.length) := Lib.hid rfl
  have HKB := Lib.hid hkb
  have w1s : wa.heap.size ≤ w1.heap.size := N1.below.size
  clear N1 hN hv hkb c3 c5
  go_wp2_with fail
  go_loopw [20] (fun i wr => ∃ k : Nat, k ≤ N ∧ i = .int .i64 k ∧ CrR wa wr χ1 i' g vs (crashR s.lasts (s.loose.take k) ks 0) s.P) (fun i _ => N - (intOf i).toNat)
  case atStart => exact ⟨0, by omega, rfl, R1⟩
  case round =>
    obtain ⟨k, hk, rfl, hR⟩ := hrel
    obtain ⟨wo, rfl⟩ : ∃ wo : World, wo = wr := ⟨_, rfl⟩
    have HR := Lib.hid hR
    have hbo := hR.below
    clear hR
    by_cases hkt : k < N
    · have hkL : k < q.L.length := by rw [HN.out]; exact hkt
      obtain ⟨x, hx⟩ : ∃ x, q.L[k]? = some x := ⟨_, List.getElem?_eq_getElem hkL⟩
      obtain ⟨gL, rfl, y0, y1, y2, yl⟩ := HC.out k x hx
      have z0 := (hbo.cell (p := ⟨gL, k * 3, none⟩) yl).trans y0
      have z1 := (hbo.cell (p := ⟨gL, k * 3 + 1, none⟩) yl).trans y1
      have z2 := (hbo.cell (p := ⟨gL, k * 3 + 2, none⟩) yl).trans y2
      have hxm : x ∈ q.L := List.mem_of_getElem? hx
      obtain ⟨b1, b2, b3, c3, hf, _, _, _, r1, r2, r3⟩ := HD.out.loose.clos x hxm
      have hwx : WrOk s.P s.K x.1 := HD.out.ok.loose _ (by rw [HLK.out]; exact List.mem_map.2 ⟨x, hxm, rfl⟩)
      have hRO : RowsOk s.P s.K (crashR s.lasts (s.loose.take k) ks 0) := RowsOk.take_crash HD.out.ok.lasts _ HD.out.ok.loose _ _
      have hx200 : x.1.bs.length ≤ 200 := by
        have := sizeD_hi s.P s.K x.1.pl
        have := HD.out.ok.k1
        rw [hwx.len]
        omega
      have hsx : s.loose[k]? = some x.1 := by rw [HLK.out, List.getElem?_map, hx]; rfl
      have hst := crashR_step hsx (rows := s.lasts) ks
      have HL0 : Hid (keepN (keepI ks k) x.1.bs.length = 0 → ∀ w7, Below wo.heap.size wo w7 → CrR wa w7 χ1 i' g vs (crashR s.lasts (s.loose.take (k + 1)) ks 0) s.P) := Lib.hid fun h0 w7 hb7 => by
        rw [hst, h0, layR_zero hRO hwx]
        exact ⟨HR.out.ground.below (Ext.refl _ _) hb7, below_of hbo hbo.size hb7⟩
      have HLY : Hid (∀ n W w7, keepN (keepI ks k) x.1.bs.length = n → Below wo.heap.size wo W → GroundK w7 χ1 i' 100 g vs (layR (crashR s.lasts (s.loose.take k) ks 0) x.1 n) (s.P + 3) → KeptBut (fun q' => χ1 q' = (i', 100 + 1 + x.1.pl)) W w7 → CrR wa w7 χ1 i' g vs (crashR s.lasts (s.loose.take (k + 1)) ks 0) s.P) := Lib.hid fun n W w7 h0 hb hG hK => by
        rw [hst, h0]
        refine ⟨hG, below_row (below_of hbo hbo.size hb) (Nat.le_trans hbo.size hb.size) (Nat.le_trans hbo.size hb.size) hK fun q' hq' e => ?_⟩
        rw [HN1.out.ext q' hq'] at e
        injection e with e
        omega
      have HPL : Hid (∀ W n, Below wo.heap.size wo W → n ≤ x.1.bs.length → Calls Tryd.prog 101 #[.slice (some ⟨g, 0, none⟩) (s.P + 3) (s.P + 3), .int .i64 n, .pointer (some ⟨b1, 0, none⟩), .pointer (some ⟨b2, 0, none⟩)] W fun e w' => (∃ v, e = .returned v) ∧ GroundK w' χ1 i' 100 g vs (layR (crashR s.lasts (s.loose.take k) ks 0) x.1 n) (s.P + 3) ∧ KeptBut (fun q => χ1 q = (i', 100 + 1 + x.1.pl)) W w') := Lib.hid fun W n hb hn =>
        dlay_any (HR.out.ground.below (Ext.refl _ _) hb) hRO.len (by omega) x.1 hwx.pl (by rw [(hRO.getD hwx.pl).2]; exact hwx.len) ((r1.below hbo).below hb) ((r2.below hbo).below hb) ((r3.below hbo).below hb) n hn hx200
      obtain ⟨MB, hMB⟩ : ∃ MB, x.1.m = MB := ⟨_, rfl⟩
      obtain ⟨BL, hBL⟩ : ∃ BL, x.1.bs.length = BL := ⟨_, rfl⟩
      rw [hMB] at z0
      rw [hBL] at z1 HL0 HLY HPL hx200
      rw [hf] at z2
      have hRw := HRC.out.below hbo
      have t1 := hRw.cell (j := 1) (v := .slice A ks.length c) rfl
      have m0 : (0 : Int) ≤ (k : Int) := by omega
      have m1 : (k : Int) < (N : Int) := by omega
      have HWX := Lib.hid hwx
      have HRI := Lib.hid (HKA.out.below hbo)
      have hba : Below wo.heap.size wo (wo.alloc (.cells #[.bool MB, .int .i64 BL, .func (.func 101) #[] #[.pointer (some ⟨b1, 0, none⟩), .pointer (some ⟨b2, 0, none⟩)]] 118)) := (Below.refl _ _).alloc (Nat.le_refl _) _
      have hRa : RowC (wo.alloc (.cells #[.bool MB, .int .i64 BL, .func (.func 101) #[] #[.pointer (some ⟨b1, 0, none⟩), .pointer (some ⟨b2, 0, none⟩)]] 118)) wo.heap.size 118 [.bool MB, .int .i64 BL, (.func (.func 101) #[] #[.pointer (some ⟨b1, 0, none⟩), .pointer (some ⟨b2, 0, none⟩)])] := heap_alloc_new _ _
      have t2 := (hRw.below hba).cell (j := 1) (v := .slice A ks.length c) rfl
      have hKW : Hid (ks.length ≠ 0 → ∃ bk ok, A = some ⟨bk, ok, none⟩ ∧ (wo.alloc (.cells #[.bool MB, .int .i64 BL, .func (.func 101) #[] #[.pointer (some ⟨b1, 0, none⟩), .pointer (some ⟨b2, 0, none⟩)]] 118)).cell? ⟨bk, ok + k % ks.length, none⟩ = some (.int .i64 (keepI ks k))) := Lib.hid fun hne => by
        obtain ⟨bk, ok, e1, e2⟩ := (HRI.out.below hba).cells (by omega)
        refine ⟨bk, ok, e1, ?_⟩
        have := e2 (k % ks.length) (Nat.mod_lt _ (by omega))
        unfold keepI
        rw [if_neg hne]
        exact this
      have hKI : Hid (keepI ks k ≤ 9223372036854775807) := Lib.hid (by
        unfold keepI
        split
        · omega
        · rename_i hne
          have hl : k % ks.length < ks.length := Nat.mod_lt _ (by omega)
          exact HKB.out _ (by simp [List.getD, hl]))
      have hKE : Hid (ks.length = 0 → keepI ks k = 0) := Lib.hid fun h0 => by unfold keepI; rw [if_pos h0]
      obtain ⟨kk, hkk⟩ : ∃ kk, keepI ks k = kk := ⟨_, rfl⟩
      rw [hkk] at HL0 HLY hKW hKI hKE
      have HO := Lib.hid hbo
      obtain ⟨KN, hKN⟩ : ∃ KN, ks.length = KN := ⟨_, rfl⟩
      rw [hKN] at t1 t2 hKW hKE hkl
      clear hst hRO hsx hf hMB hBL hx hwx r1 r2 r3 y0 y1 y2 yl hkk hbo hRw hxm hKN c5'
      by_cases h0 : KN = 0
      · have hq0 := hKE.out h0
        subst h0 hq0
        have HF := Lib.hid (HL0.out rfl _ hba)
        clear HL0 HLY HPL hKW hKI hKE hRa hba
        go_wp2_with fail
        go_roundw
        case rel => exact ⟨k + 1, by omega, by go_num, HF.out⟩
        case measure => simp [intOf]; omega
      · obtain ⟨bk, ok, rfl, hkc⟩ := hKW.out h0
        obtain ⟨r, hr⟩ : ∃ r, k % KN = r := ⟨_, rfl⟩
        have hrl : r < KN := by rw [← hr]; exact Nat.mod_lt _ (by omega)
        have g0 : decide (0 < KN) = true := decide_eq_true (by omega)
        have g1 : (0 : Int) < (KN : Int) := by omega
        have g2 : ((KN : Int) == 0) = false := beq_eq_false_iff_ne.2 (by omega)
        have g3 : (k : Int).tmod (KN : Int) = (r : Int) := by rw [Int.tmod_eq_emod_of_nonneg (by omega), ← hr]; omega
        have g4 : IntKind.i64.wrap ((k : Int).tmod (KN : Int)) = (r : Int) := by rw [g3]; exact IntWalk.i64_in _ (by omega)
        have g5 : (0 : Int) ≤ (r : Int) := by omega
        have g6 : (r : Int) < (KN : Int) := by omega
        have g7 : (k : Int) % (KN : Int) = (r : Int) := by rw [← hr]; omega
        rw [hr] at hkc
        clear hr
        have HRA := Lib.hid hRa
        have HBA := Lib.hid hba
        clear hKW hKE hRa hba t1
        have hSZo : wo.heap.size < (wo.alloc (.cells #[.bool MB, .int .i64 BL, .func (.func 101) #[] #[.pointer (some ⟨b1, 0, none⟩), .pointer (some ⟨b2, 0, none⟩)]] 118)).heap.size := by simp
        go_wp2_with fail
        obtain ⟨wb, hwb⟩ : ∃ wb, wo.alloc (.cells #[.bool MB, .int .i64 BL, .func (.func 101) #[] #[.pointer (some ⟨b1, 0, none⟩), .pointer (some ⟨b2, 0, none⟩)]] 118) = wb := ⟨_, rfl⟩
        rw [hwb] at HBA HRA hkc t2 hSZo ⊢
        clear hwb z0 z1 z2
        obtain ⟨Sb, hSb⟩ : ∃ Sb, wo.heap.size = Sb := ⟨_, rfl⟩
        have HSB := Lib.hid hSb
        rw [hSb] at HRA hSZo ⊢
        clear hSb
        have a1 := HRA.out.cell (j := 1) (v := .int .i64 BL) rfl
        have a2 := HRA.out.cell (j := 2) (v := (.func (.func 101) #[] #[.pointer (some ⟨b1, 0, none⟩), .pointer (some ⟨b2, 0, none⟩)])) rfl
        by_cases hk1 : kk = 1
        · subst hk1
          go_quiet (fail)
          have hbn : Below wo.heap.size wo (wb.drewN nq) := below_then HBA.out (drewN_below wb nq)
          have HP := Lib.hid (HPL.out _ BL hbn (Nat.le_refl _))
          have HS := Lib.hid (fun w7 => HLY.out BL (wb.drewN nq) w7 rfl hbn)
          clear HPL HLY HL0 hbn g0 g1 g2 g3 g4 g5 g6 g7
          go_wp2_with fail
          refine HP.out.mono ?_
          rintro e w7 ⟨⟨v7, rfl⟩, G7, K7⟩
          have HF := Lib.hid (HS.out w7 G7 K7)
          clear HS G7 K7 t2 hkc a1 a2
          go_wp2_with fail
          go_roundw
          case rel => exact ⟨k + 1, by omega, by go_num, HF.out⟩
          case measure => simp [intOf]; omega
        · have e1 : (kk == 1) = false := beq_eq_false_iff_ne.2 hk1
          by_cases hk2 : 1 < kk
          · have hkh := hKI.out
            have d1 : IntKind.i64.wrap (kk - 1) = kk - 1 := IntWalk.i64_in _ (by omega)
            have d2 : IntKind.i64.wrap ((BL : Int) + 1) = (BL : Int) + 1 := IntWalk.i64_in _ (by omega)
            have d3 : (((BL : Int) + 1) == 0) = false := beq_eq_false_iff_ne.2 (by omega)
            obtain ⟨t, ht⟩ : ∃ t, (kk - 1).toNat % (BL + 1) = t := ⟨_, rfl⟩
            have htl : t ≤ BL := by have : (kk - 1).toNat % (BL + 1) < BL + 1 := Nat.mod_lt _ (by omega); omega
            have d6 : (kk - 1) % ((BL : Int) + 1) = (t : Int) := by
              rw [← ht, Int.natCast_emod, Int.toNat_of_nonneg (by omega)]
              rfl
            have d4 : (kk - 1).tmod ((BL : Int) + 1) = (t : Int) := (Int.tmod_eq_emod_of_nonneg (by omega)).trans d6
            have d5 : IntKind.i64.wrap ((kk - 1).tmod ((BL : Int) + 1)) = (t : Int) := by rw [d4]; exact IntWalk.i64_in _ (by omega)
            have hkn : keepN kk BL = t := by unfold keepN; rw [if_neg (by omega), if_neg hk1]; exact ht
            have HKN := Lib.hid hkn
            have d7 : (0 : Int) ≤ (t : Int) := by omega
            have d8 : ¬ ((BL : Int) + 1 = 0) := by omega
            clear hkn ht
            go_quiet (fail)
            have hbn : Below wo.heap.size wo (wb.drewN nq).drew := below_drew1 (below_then HBA.out (drewN_below wb nq))
            have HP := Lib.hid (HPL.out _ t hbn htl)
            have HS := Lib.hid (fun w7 => HLY.out t (wb.drewN nq).drew w7 HKN.out hbn)
            have hRq := HRA.out.below (drewN_below wb nq)
            clear HPL HLY HL0 hbn g0 g1 g2 g3 g4 g5 g6 g7 hkc t2 a1 a2
            go_wp2_with fail
            obtain ⟨wq, hwq⟩ : ∃ wq, wb.drewN nq = wq := ⟨_, rfl⟩
            rw [hwq] at HP HS hRq ⊢
            clear hwq
            have a1 := hRq.cell (j := 1) (v := .int .i64 BL) rfl
            have a2 := hRq.cell (j := 2) (v := (.func (.func 101) #[] #[.pointer (some ⟨b1, 0, none⟩), .pointer (some ⟨b2, 0, none⟩)])) rfl
            clear hRq
            go_still_tail 9, (by kernel_rfl)
            change wpList _ _ _ _ _ wq.drew
            go_wp2_with fail
            refine HP.out.mono ?_
            rintro e w7 ⟨⟨v7, rfl⟩, G7, K7⟩
            have HF := Lib.hid (HS.out w7 G7 K7)
            clear HS G7 K7 a1 a2 d1 d2 d3 d4 d5 d6 d7 d8
            go_wp2_with fail
            go_roundw
            case rel => exact ⟨k + 1, by omega, by go_num, HF.out⟩
            case measure => simp [intOf]; omega
          · have hkn : keepN kk BL = 0 := by unfold keepN; rw [if_pos (by omega)]
            have HF0 := Lib.hid (HL0.out hkn)
            clear hkn HL0
            go_quiet (fail)
            have HF := Lib.hid (HF0.out _ (below_then HBA.out (drewN_below wb nq)))
            clear HPL HLY HF0 g0 g1 g2 g3 g4 g5 g6 g7 t2 hkc a1 a2
            go_wp2_with fail
            go_roundw
            case rel => exact ⟨k + 1, by omega, by go_num, HF.out⟩
            case measure => simp [intOf]; omega
    · have he : k = N := by omega
      subst he
      have hNl : s.loose.take k = s.loose := by
        have h1 := HN.out
        have h2 := HLK.out
        exact List.take_of_length_le (by rw [h2, List.length_map]; omega)
      have hR := HR.out
      rw [hNl] at hR
      obtain ⟨RW, hRW⟩ : ∃ RW, crashR s.lasts s.loose ks 0 = RW := ⟨_, rfl⟩
      rw [hRW] at hR
      have HRW := Lib.hid hRW
      have hok : RowsOk s.P s.K RW := by rw [← hRW]; exact HD.out.ok.lasts.crash ks _ _ HD.out.ok.loose
      clear hRW hNl
      have hDo := HD.out.below (Ext.refl _ _) hbo
      obtain ⟨A6, k6, hv6, hrd⟩ := own_rda hDo.log.own
      have c6 := hDo.row.cell (j := 6) (v := q.vg) rfl
      have c7 := hDo.row.cell (j := 7) (v := .int .i64 s.lasted) rfl
      have t0 := (HRC.out.below hbo).cell (j := 0) (v := .int .i64 CL) rfl
      rw [hv6] at c6
      have hle := crashN_le HD.out.ok CL
      have hlg := HD.out.ok.log
      have hm1 := HD.out.ok.m1
      have hls := HD.out.ok.lasted
      have hcap6 := hrd.cap
      have HROW := Lib.hid hDo.row
      have HRD := Lib.hid hrd
      obtain ⟨LL, hLL⟩ : ∃ LL, s.log.length = LL := ⟨_, rfl⟩
      obtain ⟨LA, hLA⟩ : ∃ LA, s.lasted = LA := ⟨_, rfl⟩
      obtain ⟨CN, hCN⟩ : ∃ CN, crashN s CL = CN := ⟨_, rfl⟩
      obtain ⟨RI, hRI⟩ : ∃ RI, restI CL (LL - LA + 1) = RI := ⟨_, rfl⟩
      have hcn : LA + RI = CN := by rw [← hRI, ← hCN, ← hLL, ← hLA]; rfl
      rw [hLL] at c6 hlg hls hle hcap6
      rw [hLL] at hv6
      have HV6 := Lib.hid hv6
      rw [hLA] at c7 hls hle
      rw [hCN] at hle
      have HLL := Lib.hid hLL
      have HLA := Lib.hid hLA
      have HCN := Lib.hid hCN
      have HREST : Hid (∀ n, Calls Tryd.prog 69 #[.int .i64 CL, .int .i64 ((LL : Int) - (LA : Int) + 1)] (wo.drewN n) fun e w' => e = .returned (.int .i64 (RI : Int)) ∧ w' = wo.drewN n) := Lib.hid fun n => by
        have := rest_any (w := wo.drewN n) CL (LL - LA + 1) hc0 hc1 (by omega) (by omega)
        rw [hRI, show ((LL - LA + 1 : Nat) : Int) = (LL : Int) - (LA : Int) + 1 by omega] at this
        exact this.mono fun _ _ h => ⟨h.1, h.2.symm⟩
      have u1 : IntKind.i64.wrap ((LL : Int) - (LA : Int)) = (LL : Int) - (LA : Int) := IntWalk.i64_in _ (by omega)
      have u2 : IntKind.i64.wrap ((LL : Int) - (LA : Int) + 1) = (LL : Int) - (LA : Int) + 1 := IntWalk.i64_in _ (by omega)
      have u3' : IntKind.i64.wrap ((LA : Int) + (RI : Int)) = (CN : Int) := by rw [← hcn]; exact IntWalk.i64_in _ (by omega)
      have HR2 := Lib.hid hR
      have HOK := Lib.hid hok
      have HBO := Lib.hid hbo
      have HSG := Lib.hid hlg
      clear hDo hrd hLL hLA hCN hRI hR hok HC R1 hv6 hbo c5'
      go_wp2_with fail
      go_quiet ((go_at_call 69; exact Calls.quiet_of_same (HREST.out _)))
      have hRq := HROW.out.below (drewN_below wo nq)
      have hbq0 := drewN_below wo nq
      obtain ⟨wq, hwq⟩ : ∃ wq, wo.drewN nq = wq := ⟨_, rfl⟩
      rw [hwq] at hRq hbq0 ⊢
      clear hwq c6 c7 t0 u1 u2 u3' HREST
      have x0 := hRq.cell (j := 0) (v := .int .i64 s.P) rfl
      have x1 := hRq.cell (j := 1) (v := .int .i64 s.K) rfl
      have x2 := hRq.cell (j := 2) (v := .int .i64 s.M) rfl
      have x6 : wq.cell? ⟨p, 6, none⟩ = some (.slice A6 LL k6) := by
        have h1 := hRq.cell (j := 6) (v := q.vg) rfl
        rw [HV6.out] at h1
        exact h1
      have HBQ := Lib.hid hbq0
      have HG2 : Hid (∀ (W : World) (X : Col), Below wq.heap.size wq W → Calls Tryd.prog 68 #[.slice (some ⟨g, 0, none⟩) (s.P + 3) (s.P + 3)] W fun e w' => ∃ g vs χ', e = .returned (.slice (some ⟨g, 0, none⟩) (s.P + 3) (s.P + 3)) ∧ NewG W w' X χ' i' 200 g vs RW) := Lib.hid fun W X hb => by
        have h1 := HR2.out.ground.below (Ext.refl _ _) (below_then HBQ.out hb)
        have hl := HOK.out.len
        rw [← hl] at h1
        have h2 := h1.rd (by omega)
        rw [hl] at h2
        exact gcopy_any h2 hl.symm (by omega) (rows_pos HOK.out HD.out.ok.k1) X i' 200
      have HPC : Hid (∀ (W : World), Below wq.heap.size wq W → Calls Tryd.prog 70 #[.slice A6 CN k6] W fun e w' => ∃ A' c', e = .returned (.slice A' CN c') ∧ New 5 W w' A' c' (s.log.take CN)) := Lib.hid fun W hb => by
        have hl : (s.log.take CN).length = CN := by rw [List.length_take, HLL.out]; omega
        have := bclone_any ((HRD.out.take CN (by rw [HLL.out]; exact hle.2)).below (below_then HBQ.out hb)) hl.symm (by rw [hl]; omega)
        rwa [hl] at this
      have hbq := (Below.refl wq.heap.size wq).drew
      have v1 : (0 : Int) ≤ (CN : Int) := by omega
      have v2 : (CN : Int) ≤ (k6 : Int) := by omega
      have v3 : (CN : Int).toNat = CN := by omega
      clear hRq hbq0 hcn
      go_wp2_with fail
      go_region_held3 (fun w' => w'.cell? ⟨p, 0, none⟩ = some (.int .i64 s.P) ∧ w'.cell? ⟨p, 1, none⟩ = some (.int .i64 s.K) ∧ w'.cell? ⟨p, 2, none⟩ = some (.int .i64 s.M) ∧ w'.cell? ⟨p, 6, none⟩ = some (.slice A6 LL k6)) (first | (with_reducible exact ⟨x0, x1, x2, x6⟩) | (with_reducible exact ⟨y0, y1, y2, y6⟩) | (with_reducible exact ⟨z0, z1, z2, z6⟩) | go_keep)
        (first
          | (go_at_call 68; refine (HG2.out _ χ1 hbq).mono ?_; rintro e w3 ⟨g3, vs3, χ3, rfl, N3⟩; have hb3 := below_then hbq N3.below; have y0 := (hb3.cell (p := ⟨p, 0, none⟩) (World.block_lt_of_cell? _ _ x0)).trans x0; have y1 := (hb3.cell (p := ⟨p, 1, none⟩) (World.block_lt_of_cell? _ _ x1)).trans x1; have y2 := (hb3.cell (p := ⟨p, 2, none⟩) (World.block_lt_of_cell? _ _ x2)).trans x2; have y6 := (hb3.cell (p := ⟨p, 6, none⟩) (World.block_lt_of_cell? _ _ x6)).trans x6)
          | (go_at_call 70; refine (HPC.out _ hb3).mono ?_; rintro e w4 ⟨A4, c4, rfl, N4⟩; have hb4 := below_then hb3 N4.below; have z0 := (hb4.cell (p := ⟨p, 0, none⟩) (World.block_lt_of_cell? _ _ x0)).trans x0; have z1 := (hb4.cell (p := ⟨p, 1, none⟩) (World.block_lt_of_cell? _ _ x1)).trans x1; have z2 := (hb4.cell (p := ⟨p, 2, none⟩) (World.block_lt_of_cell? _ _ x2)).trans x2; have z6 := (hb4.cell (p := ⟨p, 6, none⟩) (World.block_lt_of_cell? _ _ x6)).trans x6))
      have hb5 := (Below.refl w4.heap.size w4).alloc (Nat.le_refl _) (.cells #[.int .i64 s.P, .int .i64 s.K, .int .i64 s.M, .slice (some ⟨g, 0, none⟩) (s.P + 3) (s.P + 3), .slice (some ⟨g3, 0, none⟩) (s.P + 3) (s.P + 3), .slice none 0 0, .slice A4 CN c4, .int .i64 CN, .int .i64 0, .int .i64 0, .bool false] 100)
      have hrow : RowC (w4.alloc (.cells #[.int .i64 s.P, .int .i64 s.K, .int .i64 s.M, .slice (some ⟨g, 0, none⟩) (s.P + 3) (s.P + 3), .slice (some ⟨g3, 0, none⟩) (s.P + 3) (s.P + 3), .slice none 0 0, .slice A4 CN c4, .int .i64 CN, .int .i64 0, .int .i64 0, .bool false] 100)) w4.heap.size 100 (diskC (crashS s CL ks) ⟨100, 200, g, g3, vs, vs3, .slice none 0 0, .slice A4 CN c4, []⟩) := by
        have := heap_alloc_new w4 (.cells #[.int .i64 s.P, .int .i64 s.K, .int .i64 s.M, .slice (some ⟨g, 0, none⟩) (s.P + 3) (s.P + 3), .slice (some ⟨g3, 0, none⟩) (s.P + 3) (s.P + 3), .slice none 0 0, .slice A4 CN c4, .int .i64 CN, .int .i64 0, .int .i64 0, .bool false] 100)
        unfold RowC diskC crashS
        simp only [HCN.out]
        exact this
      have HN3 := Lib.hid N3
      have HN4 := Lib.hid N4
      have HB5 := Lib.hid hb5
      have HROW5 := Lib.hid hrow
      clear N3 N4 hb5 hrow x0 x1 x2 x6 y0 y1 y2 y6 z0 z1 z2 z6 hb3 hb4 hbq
      have HF : Hid (NewD w (w4.alloc (.cells #[.int .i64 s.P, .int .i64 s.K, .int .i64 s.M, .slice (some ⟨g, 0, none⟩) (s.P + 3) (s.P + 3), .slice (some ⟨g3, 0, none⟩) (s.P + 3) (s.P + 3), .slice none 0 0, .slice A4 CN c4, .int .i64 CN, .int .i64 0, .int .i64 0, .bool false] 100)) χ (fun q => if q < w.heap.size then χ q else paint w4.heap.size (paint w3.heap.size χ3 (i', 5)) (i', 1) q) i' w4.heap.size (crashS s CL ks)) := Lib.hid (by
        have e5 := paint_ext w3.heap.size χ3 (i', 5)
        have e6 := paint_ext w4.heap.size (paint w3.heap.size χ3 (i', 5)) (i', 1)
        have s1 : wo.heap.size ≤ wq.heap.size := HBQ.out.size
        have s2 : wq.heap.size ≤ w3.heap.size := HN3.out.below.size
        have s3 : w3.heap.size ≤ w4.heap.size := HN4.out.below.size
        have hsz : wa.heap.size ≤ w1.heap.size := HN1.out.below.size
        have hwo : wa.heap.size ≤ wo.heap.size := HBO.out.size
        have hwa1 : wa.heap.size = w.heap.size + 1 := by rw [HSZ.out, HSW.out]
        have b35 : Below w3.heap.size w3 (w4.alloc (.cells #[.int .i64 s.P, .int .i64 s.K, .int .i64 s.M, .slice (some ⟨g, 0, none⟩) (s.P + 3) (s.P + 3), .slice (some ⟨g3, 0, none⟩) (s.P + 3) (s.P + 3), .slice none 0 0, .slice A4 CN c4, .int .i64 CN, .int .i64 0, .int .i64 0, .bool false] 100)) := below_then HN4.out.below HB5.out
        have bq5 : Below wq.heap.size wq (w4.alloc (.cells #[.int .i64 s.P, .int .i64 s.K, .int .i64 s.M, .slice (some ⟨g, 0, none⟩) (s.P + 3) (s.P + 3), .slice (some ⟨g3, 0, none⟩) (s.P + 3) (s.P + 3), .slice none 0 0, .slice A4 CN c4, .int .i64 CN, .int .i64 0, .int .i64 0, .bool false] 100)) := below_then (below_drew1 (Below.refl _ _)) (below_then HN3.out.below b35)
        have bo5 : Below wo.heap.size wo (w4.alloc (.cells #[.int .i64 s.P, .int .i64 s.K, .int .i64 s.M, .slice (some ⟨g, 0, none⟩) (s.P + 3) (s.P + 3), .slice (some ⟨g3, 0, none⟩) (s.P + 3) (s.P + 3), .slice none 0 0, .slice A4 CN c4, .int .i64 CN, .int .i64 0, .int .i64 0, .bool false] 100)) := below_then HBQ.out bq5
        have ba5 : Below wa.heap.size wa (w4.alloc (.cells #[.int .i64 s.P, .int .i64 s.K, .int .i64 s.M, .slice (some ⟨g, 0, none⟩) (s.P + 3) (s.P + 3), .slice (some ⟨g3, 0, none⟩) (s.P + 3) (s.P + 3), .slice none 0 0, .slice A4 CN c4, .int .i64 CN, .int .i64 0, .int .i64 0, .bool false] 100)) := below_then HBO.out bo5
        have x35 : Ext w3.heap.size χ3 (paint w4.heap.size (paint w3.heap.size χ3 (i', 5)) (i', 1)) := e5.trans e6 s3
        have xo5 : Ext wo.heap.size χ1 (paint w4.heap.size (paint w3.heap.size χ3 (i', 5)) (i', 1)) := fun k hk => (x35 k (by omega)).trans (HN3.out.ext k (Nat.lt_of_lt_of_le hk s1))
        obtain ⟨χ5, hχ5⟩ : ∃ χ5, paint w4.heap.size (paint w3.heap.size χ3 (i', 5)) (i', 1) = χ5 := ⟨_, rfl⟩
        have hp5 : χ5 w4.heap.size = (i', 1) := by rw [← hχ5]; exact paint_new (Nat.le_refl _)
        have hl5 : ∀ k, w3.heap.size ≤ k → k < w4.heap.size → χ5 k = (i', 5) := fun k h1 h2 => by rw [← hχ5, e6 k h2]; exact paint_new h1
        have hn5 : ∀ k, w4.heap.size ≤ k → χ5 k = (i', 1) := fun k h1 => by rw [← hχ5]; exact paint_new h1
        rw [hχ5] at x35 xo5 ⊢
        have hold : ∀ k, k < wa.heap.size → χ5 k = (0, 9) := fun k hk => (xo5 k (by omega)).trans (HN1.out.ext k hk)
        have hnew : ∀ k, w.heap.size ≤ k → (χ5 k).1 = i' ∨ (χ5 k).1 = 0 := fun k hk => by
          by_cases c1 : k < wa.heap.size
          · exact .inr (by rw [hold k c1])
          · by_cases c2 : k < wo.heap.size
            · rw [xo5 k c2]; exact .inl (HN1.out.new k (by omega))
            · by_cases c3 : k < w3.heap.size
              · rw [x35 k c3]
                by_cases c4 : k < wq.heap.size
                · rw [HN3.out.ext k c4]; exact .inl (HN1.out.new k (by omega))
                · exact .inl (HN3.out.new k (by show wq.heap.size ≤ k; omega))
              · by_cases c4 : k < w4.heap.size
                · rw [hl5 k (by omega) c4]; exact .inl rfl
                · rw [hn5 k (by omega)]; exact .inl rfl
        have G2 : GroundK (w4.alloc (.cells #[.int .i64 s.P, .int .i64 s.K, .int .i64 s.M, .slice (some ⟨g, 0, none⟩) (s.P + 3) (s.P + 3), .slice (some ⟨g3, 0, none⟩) (s.P + 3) (s.P + 3), .slice none 0 0, .slice A4 CN c4, .int .i64 CN, .int .i64 0, .int .i64 0, .bool false] 100)) χ5 i' 100 g vs RW (s.P + 3) := HR2.out.ground.below xo5 bo5
        have hl3 := HN3.out.ground
        rw [HOK.out.len] at hl3
        have G3 : GroundK (w4.alloc (.cells #[.int .i64 s.P, .int .i64 s.K, .int .i64 s.M, .slice (some ⟨g, 0, none⟩) (s.P + 3) (s.P + 3), .slice (some ⟨g3, 0, none⟩) (s.P + 3) (s.P + 3), .slice none 0 0, .slice A4 CN c4, .int .i64 CN, .int .i64 0, .int .i64 0, .bool false] 100)) χ5 i' 200 g3 vs3 RW (s.P + 3) := hl3.below x35 b35
        have hol := HN4.out.own
        have htl : (s.log.take CN).length = CN := by rw [List.length_take, HLL.out]; omega
        rw [htl] at hol
        have hrecol : ∀ k, (χ5 k).1 = i' → (fun q => if q < w.heap.size then χ q else χ5 q) k = χ5 k := fun k hk => by
          show (if k < w.heap.size then χ k else χ5 k) = χ5 k
          by_cases c1 : k < w.heap.size
          · rw [hold k (by omega)] at hk
            have : (0 : Nat) = i' := hk
            omega
          · rw [if_neg c1]
        have hLG : LogR (w4.alloc (.cells #[.int .i64 s.P, .int .i64 s.K, .int .i64 s.M, .slice (some ⟨g, 0, none⟩) (s.P + 3) (s.P + 3), .slice (some ⟨g3, 0, none⟩) (s.P + 3) (s.P + 3), .slice none 0 0, .slice A4 CN c4, .int .i64 CN, .int .i64 0, .int .i64 0, .bool false] 100)) (fun q => if q < w.heap.size then χ q else χ5 q) i' (.slice A4 CN c4) (s.log.take CN) := ⟨(Own8.mono hol (Nat.zero_le _)).below HB5.out, fun k hk => by
          obtain ⟨h1, h2⟩ := World.ownsRow.lt hol k hk
          have := hl5 k h1 h2
          exact (hrecol k (by rw [this])).trans this⟩
        refine ⟨⟨⟨100, 200, g, g3, vs, vs3, .slice none 0 0, .slice A4 CN c4, []⟩, ⟨hi, (hrecol _ (by rw [hp5])).trans hp5, HROW5.out, ⟨by simp, by simp, .inl (by simp)⟩, ?_, ?_, ⟨ownLe_nil _ _ _ _, fun q hq => (by cases hq), fun x hx => (by cases hx)⟩, rfl, ?_, crashS_ok HD.out.ok CL ks⟩⟩, below_then HB0.out ba5, fun k hk => if_pos hk, fun k hk => ?_⟩
        · show GroundK _ _ i' 100 g vs (crashR s.lasts s.loose ks 0) (s.P + 3)
          rw [HRW.out]
          exact G2.recol hrecol
        · show GroundK _ _ i' 200 g3 vs3 (crashR s.lasts s.loose ks 0) (s.P + 3)
          rw [HRW.out]
          exact G3.recol hrecol
        · show LogR _ _ i' (.slice A4 CN c4) (s.log.take (crashN s CL))
          rw [HCN.out]
          exact hLG
        · show (if k < w.heap.size then χ k else χ5 k).1 = i' ∨ (if k < w.heap.size then χ k else χ5 k).1 = 0
          rw [if_neg (by omega)]
          exact hnew k hk)
      go_wp2_with fail
      go_ret
      exact ⟨_, _, rfl, HF.out⟩
end Go.Proofs.YtapoknpakleiiaaDoor
