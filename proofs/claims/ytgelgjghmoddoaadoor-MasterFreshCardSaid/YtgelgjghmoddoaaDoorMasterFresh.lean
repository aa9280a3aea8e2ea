/-
  Proved: for every input that its row lets in the statement MasterFresh answers true; what was handed in stays as it was.
  Conditions: none beyond the row's own.
-/
import Derived.Test.YtgelgjghmoddoaaDoorWithin7
import Derived.Test.YtgelgjghmoddoaaDoorDoor
import Derived.Test.YtgelgjghmoddoaaDoorPool
import Derived.Test.YtgelgjghmoddoaaDoorMarkG
/- MasterFresh: the walk. -/
set_option linter.unusedVariables false
set_option linter.unusedSimpArgs false
namespace Go.Proofs.YtgelgjghmoddoaaDoor
open Go.RowKit Go.Tm Go.ChangeShapes Go.WideShapes Go.ChangeAt
set_option maxHeartbeats 400000
set_option maxRecDepth 100000

/-- The block of a row of one's own. -/
theorem ownsRow_type {w : World} {base : Nat} {T : TypeId} {v : Value} {n : Nat} {xs : List Value} (ho : w.ownsRow base T 1 v n xs) {g : Nat} (hg : v.ownBlock = some g) : base ≤ g ∧ ∃ cur, w.heap[g]? = some (.cells cur T (0, 0)) := by
  rcases ho.2 with ⟨rfl, _⟩ | ⟨g', cap, cur, rfl, hb, hh, _⟩
  · simp [Value.ownBlock] at hg
  · have : g' = g := by simpa [Value.ownBlock] using hg
    subst this
    exact ⟨hb, cur, hh⟩

set_option maxHeartbeats 4000000 in
theorem masterFresh_any {w : World} (hT : Tb w) (t b c : Int) (t0 : -9223372036854775808 ≤ t) (t1 : t ≤ 9223372036854775807) (b0 : -9223372036854775808 ≤ b) (b1 : b ≤ 9223372036854775807) (c0 : -9223372036854775808 ≤ c) (c1 : c ≤ 9223372036854775807) :
    Calls Tryd.prog 5 #[.int .i64 t, .int .i64 b, .int .i64 c] w fun e w' => e = .returned (.bool true) ∧ Below w.heap.size w w' := by
  have HT := Lib.hid hT
  have P1 := Lib.hid (within_any (w := w) t t0 t1)
  have P2 := Lib.hid (within_any (w := w) b b0 b1)
  have P3 := Lib.hid (within_any (w := w) c c0 c1)
  obtain ⟨i0, hi, hz0, hz1, hz2⟩ := info_parts (P := Tryd.prog) (e := 24) (z := .slice none 0 0) (size := 1) (bytes := 24) (by kernel_rfl)
  have Hi := Lib.hid hi
  have Hz0 := Lib.hid hz0
  have Hz1 := Lib.hid hz1
  have Hz2 := Lib.hid hz2
  clear hT t0 t1 b0 b1 c0 c1 hi hz0 hz1 hz2
  go_enter Tryd.func5, Tryd.ntmps5
  go_wp2_with fail
  refine P1.out.mono ?_
  rintro e w' ⟨r1, rfl, hr1, rfl⟩
  go_wp2_with fail
  refine P2.out.mono ?_
  rintro e w' ⟨r2, rfl, hr2, rfl⟩
  go_wp2_with fail
  refine P3.out.mono ?_
  rintro e w' ⟨r3, rfl, hr3, rfl⟩
  go_wp2_with fail
  obtain ⟨T, hTT⟩ : ∃ T : Int, T = 1 + (r1 : Int) / 2 := ⟨_, rfl⟩
  have hm : mayB T r2 r3 = true := (mayB_iff _ _ _).2 (by omega)
  rw [← hTT]
  clear hTT P1 P2 P3
  have hb0 := (Below.refl w.heap.size w).alloc (Nat.le_refl _) (.cells #[.int .i64 T, .int .i64 r2, .int .i64 r3] 23)
  have hR0 : RowC (w.alloc (.cells #[.int .i64 T, .int .i64 r2, .int .i64 r3] 23)) w.heap.size 23 [.int .i64 T, .int .i64 r2, .int .i64 r3] := heap_alloc_new _ _
  obtain ⟨WA, hWA⟩ : ∃ W, W = w.alloc (.cells #[.int .i64 T, .int .i64 r2, .int .i64 r3] 23) := ⟨_, rfl⟩
  obtain ⟨SA, hSA⟩ : ∃ S, S = w.heap.size := ⟨_, rfl⟩
  rw [← hWA] at hb0 hR0
  rw [← hSA] at hR0
  rw [← hWA, ← hSA]
  have HB0 := Lib.hid hb0
  have HR0 := Lib.hid hR0
  have HH := Lib.hid (head7_any (HT.out.below HB0.out))
  have hml : (mastV T r2 r3).length = 40 := by unfold mastV; rw [if_pos hm]; exact mastL_length _ _ _
  have hme : mastE T r2 r3 = 0 := if_pos hm
  obtain ⟨V, hV⟩ : ∃ V, mastV T r2 r3 = V := ⟨_, rfl⟩
  rw [hV] at hml
  have HPB : Hid (∀ W, Below WA.heap.size WA W → Calls Tryd.prog 8 #[.agg #[.int .i64 T, .int .i64 r2, .int .i64 r3]] W fun e w' => ∃ A c', e = .returned (.tuple #[.slice A 40 c', .int .i64 0]) ∧ New 5 W w' A c' V) := Lib.hid fun W hb => by
    have := mbytes_any (HT.out.below (below_then HB0.out hb)) T r2 r3
    rw [hV, hme, hml] at this
    exact this
  have HPR : Hid (∀ W, Calls Tryd.prog 9 #[.agg #[.int .i64 T, .int .i64 r2, .int .i64 r3]] W fun e w' => ∃ A c', e = .returned (.tuple #[.slice A 40 c', .int .i64 0]) ∧ New 5 W w' A c' V) := Lib.hid fun W => by
    have := refBytes7_any (w := W) T r2 r3
    rw [hV, hme, hml] at this
    exact this
  have HML := Lib.hid hml
  clear hml hme hV hm hb0 hR0 hWA hSA
  go_wp2_with fail
  refine HH.out.mono ?_
  rintro e w1 ⟨rfl, hb1⟩
  have hr1' := HR0.out.below hb1
  have x0 := hr1'.cell (j := 0) (v := .int .i64 T) rfl
  have x1 := hr1'.cell (j := 1) (v := .int .i64 r2) rfl
  have x2 := hr1'.cell (j := 2) (v := .int .i64 r3) rfl
  have HB1 := Lib.hid hb1
  clear hb1 HH hr1'
  go_wp2_with fail
  refine (ours_any _ _ _).mono ?_
  rintro e w2 ⟨rfl, hb2⟩
  have HB2 := Lib.hid (below_then HB1.out hb2)
  clear hb2 x0 x1 x2
  go_wp2_with fail
  refine (HPR.out _).mono ?_
  rintro e w3 ⟨A3, c3, rfl, N3⟩
  have HB3 := Lib.hid (below_then HB2.out N3.below)
  have HQ3 := Lib.hid N3.rda
  clear N3 HPR
  go_wp2_with fail
  go_loopw [8, 12] (fun v i wr => ∃ (k : Nat) (rs : List PRow), k ≤ 3 ∧ i = .int .i64 k ∧ rs.length = k ∧ (∀ x ∈ rs, x.2.2 = V) ∧ Pool wr w3.heap.size 5 rs ∧ wr.ownsRow w3.heap.size 24 1 v k (rs.map pv) ∧ Below w3.heap.size w3 wr) (fun _ i _ => 3 - (intOf i).toNat)
  case atStart => exact ⟨0, [], by omega, rfl, rfl, fun x hx => by simp at hx, Pool.nil _ _ _, World.ownsRow_nil _ _ _ _, Below.refl _ _⟩
  case round =>
    obtain ⟨k, rs, hk, rfl, hrl, hrV, hP, hO, hb⟩ := hrel
    by_cases hk3 : k < 3
    · have hb' := below_then HB3.out hb
      have hr := HR0.out.below hb'
      have x0 := hr.cell (j := 0) (v := .int .i64 T) rfl
      have x1 := hr.cell (j := 1) (v := .int .i64 r2) rfl
      have x2 := hr.cell (j := 2) (v := .int .i64 r3) rfl
      have HPw := Lib.hid (HPB.out wr hb')
      have HBr := Lib.hid hb
      have HP := Lib.hid hP
      have HO := Lib.hid hO
      have HRV := Lib.hid hrV
      have HRL := Lib.hid hrl
      clear hb' hr hb hP hO hrV hrl
      obtain ⟨wo, rfl⟩ : ∃ wo : World, wo = wr := ⟨_, rfl⟩
      go_wp2_with fail
      refine HPw.out.mono ?_
      rintro e w4 ⟨A4, c4, rfl, N4⟩
      have hsz : w3.heap.size ≤ wo.heap.size := HBr.out.size
      have P4 := HP.out.push N4 hsz
      have HS := Lib.hid (same_yes N4.rda (HQ3.out.below (below_then HBr.out N4.below)) HML.out.symm HML.out.symm rfl)
      have O4 := own_below HO.out N4.below
      have B4 := below_then HBr.out N4.below
      have HP4 := Lib.hid P4
      have HO4 := Lib.hid O4
      have HB4 := Lib.hid B4
      clear N4 P4 O4 B4 x0 x1 x2
      go_wp2_with fail
      refine HS.out.mono ?_
      rintro e wx ⟨rfl, rfl⟩
      have O5 := HO4.out.alloc (.cells #[.slice A4 40 c4] 24)
      have HP5 := Lib.hid (HP4.out.below ((Below.refl _ w4).alloc (Nat.le_refl _) (.cells #[.slice A4 40 c4] 24)))
      have HB5 := Lib.hid (HB4.out.alloc HB4.out.size (.cells #[.slice A4 40 c4] 24))
      have hs5 : w3.heap.size ≤ (w4.alloc (.cells #[.slice A4 40 c4] 24)).heap.size := by have := HB4.out.size; simp; omega
      go_wp2_with (at_builtin; refine wpList_append_own _ rfl _ _ 45 rfl w3.heap.size 24 i0 (.slice none 0 0) 1 24 Tryd.underlying45 Hi.out Hz0.out Hz1.out Hz2.out rfl (by decide) _ _ _ rfl O5 ⟨w4.heap.size, 0, none⟩ 1 1 [.slice A4 40 c4] rfl rfl ?c1 ?c2 ?c3 ?c4 ?c5 ?_)
      case c1 => exact cell_one_new _ _ _
      case c2 => simp [Value.oneCell']
      case c3 => unfold maxLen; omega
      case c4 => omega
      case c5 => exact hs5
      intro v' w' hrow' hgr hnil
      have HR' : Hid (w'.ownsRow w3.heap.size 24 1 v' (k + 1) ((rs ++ [((A4, c4, V) : PRow)]).map pv)) := Lib.hid (by
        rw [List.map_append]
        have : pv ((A4, c4, V) : PRow) = .slice A4 40 c4 := by unfold pv; rw [HML.out]
        rw [List.map_cons, this]
        exact hrow')
      have HP6 := Lib.hid (HP5.out.other hgr (T := 24) (by decide) fun g hg _ => (ownsRow_type O5 hg).2)
      have HB6 := Lib.hid (HB5.out.grown hgr hs5 fun g hg => (ownsRow_type O5 hg).1)
      clear hrow' hgr hnil O5 hs5
      go_wp2_with fail
      go_roundw
      case rel => exact ⟨k + 1, _, by omega, by go_num, by rw [List.length_append, HRL.out]; rfl, fun x hx => by
        rcases List.mem_append.1 hx with hx | hx
        · exact HRV.out x hx
        · rw [List.mem_singleton.1 hx], HP6.out, HR'.out, HB6.out⟩
      case measure => simp [intOf]; omega
    · have hk9 : k = 3 := by omega
      subst hk9
      obtain ⟨w, rfl⟩ : ∃ wA : World, wA = wr := ⟨_, rfl⟩
      rcases hO.2 with ⟨_, h0⟩ | ⟨b, cap, cur, rfl, hgb, hgg, hcap1, hcap2, hcs, htk⟩
      · omega
      have hown : ∀ j, j < 3 → Own8 w w3.heap.size 5 (mrV (rsA rs) (rsc rs) (rsl rs) j) (rsl rs j) := fun j hj => by
        rw [rs_mrV rs j (by omega)]
        have := hP.own _ (List.getElem_mem (show j < rs.length by omega))
        simpa [rsl, List.getD, hrl, hj] using this
      have hap : ∀ i j, i < 3 → j < 3 → i ≠ j → Aprt (mrV (rsA rs) (rsc rs) (rsl rs) i) (mrV (rsA rs) (rsc rs) (rsl rs) j) := fun i j hi hj hij => by
        rw [rs_mrV rs i (by omega), rs_mrV rs j (by omega)]
        rcases Nat.lt_or_gt_of_ne hij with h | h
        · exact List.pairwise_iff_getElem.1 hP.apart i j (by omega) (by omega) h
        · exact (List.pairwise_iff_getElem.1 hP.apart j i (by omega) (by omega) h).symm
      have hlen : ∀ j, j < 3 → (rsl rs j).length = 40 := fun j hj => by
        have := hrV _ (List.getElem_mem (show j < rs.length by omega))
        have h2 : rsl rs j = V := by rw [← this]; simp [rsl, List.getD, hrl, hj]
        rw [h2, HML.out]
      have hcell : ∀ wr, KeptBut (mrS 3 (rsA rs) (rsc rs) (rsl rs)) w wr → ∀ j, j < 3 → wr.cell? ⟨b, j, none⟩ = some (mrV (rsA rs) (rsc rs) (rsl rs) j) := by
        intro wr hk j hj
        refine hk.cell ?_ ?_
        · rw [hO.cellAt j (by omega), rs_mrV rs j (by omega)]
          simp [hrl, hj]
        · rintro ⟨j, hj, hg⟩
          obtain ⟨cu, hh⟩ := own8_block_type (hown j hj) hg
          rw [hgg] at hh
          injection hh with hh
          injection hh with _ hh
          exact absurd hh (by decide)
      obtain ⟨A, hA0⟩ : ∃ A, rsA rs = A := ⟨_, rfl⟩
      obtain ⟨c, hc0'⟩ : ∃ c, rsc rs = c := ⟨_, rfl⟩
      obtain ⟨l, hl0⟩ : ∃ l, rsl rs = l := ⟨_, rfl⟩
      rw [hA0, hc0', hl0] at hown hap hcell
      rw [hl0] at hlen
      have hge : ∀ g, mrS 3 A c l g → w3.heap.size ≤ g := by
        rintro g ⟨j, hj, hg⟩
        exact (World.ownsRow.lt (hown j hj) g hg).1
      have hbase : w3.heap.size ≤ w.heap.size := hb.size
      have HC := Lib.hid hcell
      have HO := Lib.hid hown
      have HA := Lib.hid hap
      have HL := Lib.hid hlen
      have HGE := Lib.hid hge
      have HBW := Lib.hid hb
      clear hcell hown hap hlen hge hb hO hP hgg hcs htk hrl hrV hA0 hc0' hl0 hgb hcap2
      go_wp2_with fail
      go_loopw [15] (fun i wr => ∃ k : Nat, k ≤ 3 ∧ i = .int .i64 k ∧ MarksA Tm.mark w3.heap.size 5 3 A c l w wr k 0) (fun i _ => 3 - (intOf i).toNat)
      case atStart => exact ⟨0, by omega, rfl, MarksA.start HO.out⟩
      case round =>
        obtain ⟨k, hk, rfl, hM⟩ := hrel
        obtain ⟨wo, rfl⟩ : ∃ wo : World, wo = wr := ⟨_, rfl⟩
        by_cases hlt : k < 3
        · have hl := HL.out k hlt
          have hc00 := HC.out _ hM.kept k hlt
          unfold mrV at hc00
          rw [hl] at hc00
          go_wp2_with fail
          clear hc00
          go_loopw [16] (fun i wr => ∃ j : Nat, j ≤ 40 ∧ i = .int .i64 j ∧ MarksA Tm.mark w3.heap.size 5 3 A c l w wr k j) (fun i _ => 40 - (intOf i).toNat)
          case atStart => exact ⟨0, by omega, rfl, hM⟩
          case round =>
            obtain ⟨j, hj, rfl, hI⟩ := hrel
            have hc0 := HC.out _ hI.kept k hlt
            by_cases hjt : j < 40
            · obtain ⟨g, x, hA, hx, hfz, hnx⟩ := hI.step HA.out hlt (by omega)
              unfold mrV at hc0
              rw [hA, hl] at hc0
              have hm := mark_nat k (by omega)
              have HM := Lib.hid hnx
              have HE := Lib.hid hm
              have HLK := Lib.hid hl
              clear hnx hA hm hI hM hl
              go_wp2_with fail
              go_roundw
              case rel => exact ⟨j + 1, by omega, by go_num, HM.out _ HE.out.symm⟩
              case measure => simp [intOf]; omega
            · have he : j = 40 := by omega
              subst he
              have hI' : MarksA Tm.mark w3.heap.size 5 3 A c l w wr (k + 1) 0 := MarksA.next (by rw [hl]; exact hI)
              unfold mrV at hc0
              rw [hl] at hc0
              have HLK := Lib.hid hl
              clear hI hM hl
              go_wp2_with fail
              go_roundw
              case rel => exact ⟨k + 1, by omega, by go_num, hI'⟩
              case measure => simp [intOf]; omega
        · have he : k = 3 := by omega
          subst he
          rw [show ((3 : Nat) : Int) = 3 from rfl]
          have hF := Lib.hid hM.full
          have hK1 := Lib.hid hM.kept
          have hM2 := MarksB.start (M := 1) hM HA.out
          have hbase1 : w3.heap.size ≤ wo.heap.size := Nat.le_trans hbase hM.kept.size
          have hz := World.ownsRow_nil wo wo.heap.size 24 1
          clear hM
          go_wp2_with fail
          go_loopw [9, 17] (fun lv i wr => ∃ (q : Nat) (V : Nat → Value), q ≤ 3 ∧ i = .int .i64 q ∧ MarksB Tm.mark 1 w3.heap.size 5 3 A c l wo wr V q 0 ∧ wr.ownsRow wo.heap.size 24 1 lv q ((List.range q).map V) ∧ (∀ j, q ≤ j → V j = mrV A c l j)) (fun _ i _ => 3 - (intOf i).toNat)
          case atStart => exact ⟨0, _, by omega, rfl, hM2, hz, fun _ _ => rfl⟩
          case round =>
            obtain ⟨q, V, hq, rfl, hM, hrow, hV⟩ := hrel
            by_cases hqt : q < 3
            · have hc0 := HC.out _ (hK1.out.trans hM.kept) q hqt
              unfold mrV at hc0
              have hl := HL.out q hqt
              rw [hl] at hc0
              have hV2 := Lib.hid hV
              have hm := mark_nat q (by omega)
              have HE := Lib.hid hm
              have hMb := hM.below (((Below.refl _ wr).alloc (Nat.le_refl _)) (.cells #[.int .u8 ((q : Int) + 1)] 5))
              have ho := hMb.own q hqt
              rw [if_neg (by omega), if_pos rfl, hV2.out q (Nat.le_refl _)] at ho
              unfold mrV at ho
              rw [hl] at ho
              have hrowb := hrow.alloc (.cells #[.int .u8 ((q : Int) + 1)] 5)
              have hbb : w3.heap.size ≤ (wr.alloc (.cells #[.int .u8 ((q : Int) + 1)] 5)).heap.size := by have := hM.kept.size; simp; omega
              have HLK := Lib.hid hl
              have hfl : (fullG Tm.mark l 0 q).length = 40 := by rw [fullG_length, hl]
              have HFL := Lib.hid hfl
              obtain ⟨FL, hFL⟩ : ∃ FL, fullG Tm.mark l 0 q = FL := ⟨_, rfl⟩
              rw [hFL] at ho HFL
              have HFE := Lib.hid hFL
              clear hV hM hrow hm hl hfl hFL
              go_wp2_with (at_builtin; refine wpList_app2 (l := FL) (m := [Tm.mark q]) rfl _ _ rfl tU8 rfl ho rfl rfl (Rda.box wr 5 _ (Tm.mark q) HE.out.symm) (by rw [HFL.out]; simp) hbb ?_)
              intro v' w' ho' hw
              have HO' : Hid (Own8 w' w3.heap.size 5 v' (fullG Tm.mark l 0 q ++ [Tm.mark q])) := Lib.hid (by rw [HFE.out]; exact ho')
              have hVq : V q = .slice (A q) 40 (c q) := by rw [hV2.out q (Nat.le_refl _)]; unfold mrV; rw [HLK.out]
              have hw2 : AppTwo (wr.alloc (.cells #[.int .u8 ((q : Int) + 1)] 5)) w' (V q) v' := by rw [hVq]; exact hw
              have hM3 := hMb.step hF.out HA.out hqt HO'.out hw2
              have hrow3 := long_keptG hMb hqt (by decide) hrowb (w' := w') hw2.grown
              have hvq : v' = (fun j => if j = q then v' else V j) q := by simp
              have hVV : ∀ j, q < j → (fun j => if j = q then v' else V j) j = mrV A c l j := fun j hj => by
                have : ¬ j = q := by omega
                simp only [if_neg this]
                exact hV2.out j (by omega)
              rw [← range_map_upd q v'] at hrow3
              have HV3 := Lib.hid hVV
              have HVQ := Lib.hid hvq
              obtain ⟨V3, hV3⟩ : ∃ V3, (fun j => if j = q then v' else V j) = V3 := ⟨_, rfl⟩
              rw [hV3] at hM3 hrow3 HV3 HVQ
              obtain ⟨Aq, cq, heq, hrq⟩ := own_rda ho'
              have hln : (FL ++ [Tm.mark q]).length = 41 := by rw [List.length_append, HFL.out]; rfl
              rw [hln] at heq
              have hM4 := (hM3.next).below (((Below.refl _ w').alloc (Nat.le_refl _)) (.cells #[.slice Aq 41 cq] 24))
              have hrowb4 := hrow3.alloc (.cells #[.slice Aq 41 cq] 24)
              have hsz : wo.heap.size ≤ w'.heap.size := hM3.kept.size
              have HEQ := Lib.hid heq
              have HM4 := Lib.hid hM4
              clear ho hMb hrowb ho' hw HE hw2 hM3 hrow3 hvq hVV hV3 hrq hln hM4 hVq
              rw [heq]
              clear heq
              go_wp2_with (at_builtin; refine wpList_append_own _ rfl _ _ 45 rfl wo.heap.size 24 i0 (.slice none 0 0) 1 24 Tryd.underlying45 Hi.out Hz0.out Hz1.out Hz2.out rfl (by decide) _ _ _ rfl hrowb4 ⟨w'.heap.size, 0, none⟩ 1 1 [.slice Aq 41 cq] rfl rfl ?c1 ?c2 ?c3 ?c4 ?c5 ?_)
              case c1 => exact cell_one_new _ _ _
              case c2 => simp [Value.oneCell']
              case c3 => unfold maxLen; omega
              case c4 => omega
              case c5 => simp; omega
              intro v5 w5 hrow' hgr hnil
              have hM5 := HM4.out.other hF.out (by decide) hrowb4 hgr
              have hcat : (List.range q).map V3 ++ [.slice Aq 41 cq] = (List.range (q + 1)).map V3 := by rw [List.range_succ, List.map_append, ← HEQ.out, HVQ.out]; rfl
              rw [hcat] at hrow'
              have HM5 := Lib.hid hM5
              have HR5 := Lib.hid hrow'
              clear hM5 hrow' hgr hnil hcat hrowb4
              go_wp2_with fail
              go_roundw
              case rel => exact ⟨q + 1, V3, by omega, by go_num, HM5.out, HR5.out, fun j hj => HV3.out j (by omega)⟩
              case measure => simp [intOf]; omega
            · have he : q = 3 := by omega
              subst he
              rw [show ((3 : Nat) : Int) = 3 from rfl]
              obtain ⟨wh, rfl⟩ : ∃ wh : World, wh = wr := ⟨_, rfl⟩
              have hKK := Lib.hid (hK1.out.trans hM.kept)
              have hcA : ∀ j, j < 3 → wh.cell? ⟨b, j, none⟩ = some (mrV A c l j) := HC.out _ (hK1.out.trans hM.kept)
              have hvs : ∀ j, j < 3 → ∃ A' c', V j = .slice A' 41 c' ∧ Rda wh A' c' (fullG Tm.mark l 1 j) := by
                intro j hj
                have := hM.own j hj
                rw [if_pos hj] at this
                obtain ⟨A', c', he, hr⟩ := own_rda this
                exact ⟨A', c', by rw [he, fullG_length, HL.out j hj], hr⟩
              have hlg : ∃ g c', u9 = .slice (some ⟨g, 0, none⟩) 3 c' ∧ ∀ j, j < 3 → wh.cell? ⟨g, j, none⟩ = some (V j) := by
                rcases hrow.2 with ⟨rfl, h0⟩ | ⟨g, cap', cu, rfl, _⟩
                · omega
                · refine ⟨g, _, rfl, fun j hj => ?_⟩
                  rw [hrow.cellAt j (by omega)]
                  simp [hj]
              have hra := Lib.hid hM.rda
              obtain ⟨g, cl, rfl, hal⟩ := hlg
              have HA1 := Lib.hid hcA
              have HA2 := Lib.hid hvs
              have HA3 := Lib.hid hal
              clear hM hrow hV hcA hvs hal hK1 hF hM2 hz
              go_wp2_with fail
              go_loopw [18] (fun i wz => ∃ m : Nat, m ≤ 3 ∧ i = .int .i64 m ∧ Below wh.heap.size wh wz) (fun i _ => 3 - (intOf i).toNat)
              case atStart => exact ⟨0, by omega, rfl, Below.refl _ _⟩
              case round =>
                obtain ⟨m, hm, rfl, hB⟩ := hrel
                obtain ⟨wz, rfl⟩ : ∃ wz : World, wz = wr := ⟨_, rfl⟩
                by_cases hmt : m < 3
                · obtain ⟨A', c', hVm, hr'⟩ := HA2.out m hmt
                  have l1 := HA3.out m hmt
                  rw [hVm] at l1
                  have l2 := HA1.out m hmt
                  unfold mrV at l2
                  rw [HL.out m hmt] at l2
                  have hra2 := hra.out m hmt
                  have hmk := mark_nat m (by omega)
                  have q1 : ∀ j, j < 41 → ∃ b' o', A' = some ⟨b', o', none⟩ ∧ wh.cell? ⟨b', o' + j, none⟩ = some (.int .u8 ((m : Int) + 1)) := by
                    intro j hj
                    have h40 := HL.out m hmt
                    obtain ⟨b', o', he, hc⟩ := hr'.cells (by rw [fullG_length]; omega)
                    refine ⟨b', o', he, ?_⟩
                    rw [hc j (by rw [fullG_length]; omega), fullG_get _ _ _ _ (by omega), hmk]
                  have q2 : ∀ j, j < 40 → ∃ b' o', A m = some ⟨b', o', none⟩ ∧ wh.cell? ⟨b', o' + j, none⟩ = some (.int .u8 ((m : Int) + 1)) := by
                    intro j hj
                    have h40 := HL.out m hmt
                    obtain ⟨b', o', he, hc⟩ := hra2.cells (by rw [fullG_length]; omega)
                    refine ⟨b', o', he, ?_⟩
                    rw [hc j (by rw [fullG_length]; omega), fullG_get _ _ _ _ (by omega), hmk]
                  obtain ⟨Am, hAm⟩ : ∃ Am, A m = Am := ⟨_, rfl⟩
                  rw [hAm] at l2 q2
                  have Q1 := Lib.hid q1
                  have Q2 := Lib.hid q2
                  have L1 := Lib.hid l1
                  have L2 := Lib.hid l2
                  clear q1 q2 hAm hVm hr' hra2 hmk l1 l2
                  have l1 : wz.cell? ⟨g, m, none⟩ = some (.slice A' 41 c') := (hB.cell (p := ⟨g, m, none⟩) (World.block_lt_of_cell? _ _ L1.out)).trans L1.out
                  have hmd : decide ((m : Int) < 3) = true := decide_eq_true (by omega)
                  go_wp2_with fail
                  clear l1
                  go_loopw [19] (fun i wz => ∃ j : Nat, j ≤ 41 ∧ i = .int .i64 j ∧ Below wh.heap.size wh wz) (fun i _ => 41 - (intOf i).toNat)
                  case atStart => exact ⟨0, by omega, rfl, hB⟩
                  case round =>
                    obtain ⟨j, hj, rfl, hB⟩ := hrel
                    obtain ⟨wy, rfl⟩ : ∃ wy : World, wy = wr := ⟨_, rfl⟩
                    have l1 : wy.cell? ⟨g, m, none⟩ = some (.slice A' 41 c') := (hB.cell (p := ⟨g, m, none⟩) (World.block_lt_of_cell? _ _ L1.out)).trans L1.out
                    have l2 : wy.cell? ⟨b, m, none⟩ = some (.slice Am 40 (c m)) := (hB.cell (p := ⟨b, m, none⟩) (World.block_lt_of_cell? _ _ L2.out)).trans L2.out
                    by_cases hjt : j < 41
                    · obtain ⟨b1, o1, rfl, e1⟩ := Q1.out j hjt
                      have k1 : wy.cell? ⟨b1, o1 + j, none⟩ = some (.int .u8 ((m : Int) + 1)) := (hB.cell (p := ⟨b1, o1 + j, none⟩) (World.block_lt_of_cell? _ _ e1)).trans e1
                      clear e1
                      by_cases hjn : j < 40
                      · obtain ⟨b2, o2, rfl, e2⟩ := Q2.out j hjn
                        have k2 : wy.cell? ⟨b2, o2 + j, none⟩ = some (.int .u8 ((m : Int) + 1)) := (hB.cell (p := ⟨b2, o2 + j, none⟩) (World.block_lt_of_cell? _ _ e2)).trans e2
                        clear e2
                        go_wp2_with fail
                        go_roundw
                        case rel => exact ⟨j + 1, by omega, by go_num, hB⟩
                        case measure => simp [intOf]; omega
                      · go_wp2_with fail
                        go_roundw
                        case rel => exact ⟨j + 1, by omega, by go_num, hB⟩
                        case measure => simp [intOf]; omega
                    · go_wp2_with fail
                      go_roundw
                      case rel => exact ⟨m + 1, by omega, by go_num, hB⟩
                      case measure => simp [intOf]; omega
                · have he : m = 3 := by omega
                  subst he
                  rw [show ((3 : Nat) : Int) = 3 from rfl]
                  have hle : w3.heap.size ≤ wh.heap.size := Nat.le_trans hbase hKK.out.size
                  have HZ := Lib.hid (Below.trans HBW.out (Below.trans (hKK.out.toBelow HGE.out hbase) (hB.mono hle)))
                  have hr := HR0.out.below (below_then HB3.out HZ.out)
                  have x0 := hr.cell (j := 0) (v := .int .i64 T) rfl
                  have x1 := hr.cell (j := 1) (v := .int .i64 r2) rfl
                  have x2 := hr.cell (j := 2) (v := .int .i64 r3) rfl
                  have HPw := Lib.hid (HPB.out wz (below_then HB3.out HZ.out))
                  clear hr hB hle
                  go_wp2_with fail
                  refine HPw.out.mono ?_
                  rintro e w4 ⟨A4, c4, rfl, N4⟩
                  have HS := Lib.hid (same_yes N4.rda (HQ3.out.below (below_then HZ.out N4.below)) HML.out.symm HML.out.symm rfl)
                  have HEND := Lib.hid (below_then HB0.out (below_then HB3.out (below_then HZ.out N4.below)))
                  clear N4 x0 x1 x2
                  go_wp2_with fail
                  refine HS.out.mono ?_
                  rintro e wx ⟨rfl, rfl⟩
                  go_wp2_with fail
                  go_ret
                  exact ⟨rfl, HEND.out⟩

theorem masterFresh_contract (H : Type) (enc : TypeId × Value → H) (W : World) (base : Nat) (args : Array Value) (ds gs : List (DataW H)) (before : List MemPlace)
    (hval0 : ∀ (j : Nat) t v, Tryd.f5.params[j]? = some t → args[j]? = some v → Value.okWide Tryd.prog W .any base t v)
    (hW : DataW.Whole enc Tryd.prog Tryd.f5.params.toList Rows.masterFreshSpec.vars false W args.toList ds gs before) (hsz : (DataW.weightsEach Tryd.checked.prog (Tryd.f5.params.toList ++ Rows.masterFreshSpec.plain.varTypes Tryd.checked.prog) (ds ++ gs)).all (· ≤ reachBytes) = true) (hL : laidMetH Tryd.prog Rows.masterFreshRow.laid W) :
    Calls Tryd.prog 5 args W fun e W' => ∃ v, e = .returned v ∧ Rows.masterFreshSpec.post enc Tryd.prog Tryd.f5 false true false false W args v W' := by
  have hval : ∀ (j : Nat) t v, Tryd.f5.params[j]? = some t → args[j]? = some v → Value.okWide Tryd.prog W .any base t v := hval0
  have hW' := hW
  obtain ⟨p, q, hA0, hV, rfl, hfz, hnd⟩ := hW
  have hA : DataW.TrodAll enc Tryd.prog W 0 (fun _ => true) true Tryd.f5.params.toList args.toList ds p := hA0
  rw [Tryd.params5] at hA hval
  obtain ⟨v0, vs0, d0, ds0, p0, q0, hargs, rfl, rfl, h0, rr0⟩ := trodAll_cons hA
  obtain ⟨v1, vs1, d1, ds1, p1, q1, rfl, rfl, rfl, h1, rr1⟩ := trodAll_cons rr0
  obtain ⟨v2, vs2, d2, ds2, p2, q2, rfl, rfl, rfl, h2, rr2⟩ := trodAll_cons rr1
  obtain ⟨rfl, rfl, rfl⟩ := trodAll_nil rr2
  obtain rfl : args = #[v0, v1, v2] := by cases args; simp_all
  obtain ⟨rfl, rfl⟩ := trodVars_none hV
  obtain ⟨x0, rfl, rfl, rfl, w0⟩ := open_int Tryd.underlying3 (hval 0 3 v0 rfl rfl) h0
  have b0 := bounds_i64 w0
  obtain ⟨x1, rfl, rfl, rfl, w1⟩ := open_int Tryd.underlying3 (hval 1 3 v1 rfl rfl) h1
  have b1 := bounds_i64 w1
  obtain ⟨x2, rfl, rfl, rfl, w2⟩ := open_int Tryd.underlying3 (hval 2 3 v2 rfl rfl) h2
  have b2 := bounds_i64 w2
  clear hA0 hval0
  refine (masterFresh_any (tb_of hL) x0 x1 x2 b0.1 b0.2 b1.1 b1.2 b2.1 b2.2).mono fun e W' ⟨he, bel⟩ => ?_
  subst he
  exact ⟨_, rfl, _, _, _, [], _, [], hW', trodAll_mk1 (shut_bool Tryd.underlying4 _), (trodAll_cons_mk (shut_int Tryd.underlying3 w0) (trodAll_cons_mk (shut_int Tryd.underlying3 w1) (trodAll_cons_mk (shut_int Tryd.underlying3 w2) trodAll_mk0))), rfl, bel.frame _, fun h => by cases h⟩

theorem masterFresh_met (os : Os) : laidMet Tryd.prog Rows.masterFreshRow.laid ((laidWorld os).forCall (fun _ _ => 0) ⟨#[], #[.int .i64 0, .int .i64 0, .int .i64 0], []⟩).memory :=
  laidMet_of_run' 8 (by kernel_rfl) (by kernel_rfl)
theorem masterFresh_reads (os : Os) {H : Type} (enc : TypeId × Value → H) : ∃ places, DataW.whole enc Tryd.prog ((laidWorld os).forCall (fun _ _ => 0) ⟨#[], #[.int .i64 0, .int .i64 0, .int .i64 0], []⟩).memory Tryd.f5.params.toList Rows.masterFreshSpec.vars false (#[.int .i64 0, .int .i64 0, .int .i64 0] : Array Value).toList 8 = some ([.lit (.int .i64 0), .lit (.int .i64 0), .lit (.int .i64 0)], [], places) :=
  ⟨[], by kernel_rfl⟩

set_option maxRecDepth 100000 in
theorem masterFresh_lifted (os : Os) (started : os.Started) (H : Type) (enc : TypeId × Value → H) (F : Stop.Interp) :
    ReturnsInHanded {} Tryd.checked os 5 .any ((OpenSpec.ofChange Rows.masterFreshSpec).preRow enc Tryd.prog Tryd.f5 Rows.masterFreshRow.domain false Rows.masterFreshRow.laid) (((OpenSpec.ofChange Rows.masterFreshSpec).at F).post enc Tryd.prog Tryd.f5 false true false false) := by
  obtain ⟨places, hx⟩ := masterFresh_reads os enc
  refine returnsInHanded_of_row (C := Tryd.checked) (s := OpenSpec.ofChange Rows.masterFreshSpec) own_knob started (by kernel_rfl) Tryd.func5
    (witness_row_at (enc := enc) (C := Tryd.checked) false (laidWorld os) #[.int .i64 0, .int .i64 0, .int .i64 0] rfl (by kernel_rfl) (by kernel_rfl) (by kernel_rfl)
      (OpenSpec.preRow_of_cond 8 hx (by kernel_rfl) (fun k hk => by cases hk) (by kernel_rfl) (masterFresh_met os))) ?_
  intro W base args ds gs before hval hW _ hcond hsz hL _ _
  exact masterFresh_contract H enc W base args ds gs before hval hW hsz hL

theorem masterFresh_said : Rows.MasterFreshSaid :=
  OpenClaim.holds_of_cond 5 Tryd.f5 rfl rfl rfl rfl rfl rfl rfl ⟨rfl, rfl, rfl, rfl, rfl⟩ rfl rfl rfl rfl rfl (by kernel_rfl) Tryd.func5 (by kernel_rfl)
    (of_decide_eq_true (by kernel_rfl)) (by unfold Func.isWrapper; first | (rw [if_pos (by decide +kernel)]; kernel_rfl) | (rw [if_neg (by decide +kernel)]; exact ⟨rfl, rfl⟩))
    (fun os started H enc _ F => by rw [OpenClaim.pre_eq_preRow]; exact masterFresh_lifted os started H enc F)

theorem masterFresh_plain (f : FuncId) (fn : Func) (hf : Tryd.pinned.checked.prog.funcNamed "tidemark/tidemarklaw07.MasterFresh" = some f) (hfn : Tryd.pinned.checked.prog.funcs[f]? = some fn) :
    false = Tryd.pinned.checked.prog.looks [] ∧ ∀ (j : Nat) t, fn.params[j]? = some t → Tryd.pinned.checked.prog.wantsStandIn t = false := by
  obtain rfl : f = 5 := Option.some.inj ((show Tryd.prog.funcNamed "tidemark/tidemarklaw07.MasterFresh" = some 5 by kernel_rfl).symm.trans hf) |>.symm
  obtain rfl : fn = Tryd.f5 := (Option.some.inj (Tryd.func5.symm.trans hfn)).symm
  refine ⟨by kernel_rfl, fun j t ht => ?_⟩
  rw [Tryd.params5] at ht
  have hm := Array.mem_of_getElem? ht
  have : t = 3 := by simp at hm; first | exact hm | (rcases hm with hh | hh <;> simp [hh]) | (rcases hm with hh | hh | hh <;> simp [hh]) | (rcases hm with hh | hh | hh | hh <;> simp [hh]) | (rcases hm with hh | hh | hh | hh | hh <;> simp [hh]) | (rcases hm with hh | hh | hh | hh | hh | hh <;> simp [hh]) | (rcases hm with hh | hh | hh | hh | hh | hh | hh <;> simp [hh]) | (rcases hm with hh | hh | hh | hh | hh | hh | hh | hh <;> simp [hh])
  rcases this with rfl
  · exact (show Tryd.prog.wantsStandIn 3 = false by kernel_rfl)

theorem masterFresh_holds : Rows.MasterFreshCardSaid :=
  Claim7.holds_tied_plain_at .later [] _ _ _ _ masterFresh_said (fun _ h => by cases h) (by kernel_rfl) (fun _ h => by cases h) masterFresh_row_tie rfl ⟨rfl, rfl⟩ (by kernel_rfl) rfl masterFresh_plain (by kernel_rfl)
#print axioms masterFresh_holds
end Go.Proofs.YtgelgjghmoddoaaDoor
