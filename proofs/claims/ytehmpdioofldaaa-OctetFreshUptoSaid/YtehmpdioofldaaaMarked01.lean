import Derived.Test.YtehmpdioofldaaaPool
import Derived.Test.YtehmpdioofldaaaOct
/- 'marked': the walk. -/
set_option linter.unusedVariables false
set_option linter.unusedSimpArgs false
namespace Go.Proofs.Ytehmpdioofldaaa
open Go.RowKit Go.Tm
set_option maxHeartbeats 400000
set_option maxRecDepth 100000

set_option maxHeartbeats 1600000 in
theorem marked_any {w : World} {base N : Nat} {A : Nat → Option Addr} {c : Nat → Nat} {l : Nat → List UInt8} (hN : N ≤ 200)
    (hown : ∀ j, j < N → Own8 w base 5 (mrV A c l j) (l j)) (hap : ∀ i j, i < N → j < N → i ≠ j → Aprt (mrV A c l i) (mrV A c l j))
    (hbase : base ≤ w.heap.size) (hlen : ∀ j, j < N → (l j).length ≤ 140737488355000) {b cap : Nat} {cur : Array Value} (hall : w.heap[b]? = some (.cells cur 22 (0, 0))) (hcur : ∀ j, j < N → cur[j]? = some (mrV A c l j)) (hcap : N ≤ cap) :
    Calls Try.prog 7 #[.slice (some ⟨b, 0, none⟩) N cap] w fun e w' => e = .returned (.bool true) ∧ KeptBut (mrS N A c l) w w' := by
  have hbS : ¬ mrS N A c l b := by
    rintro ⟨j, hj, hg⟩
    obtain ⟨cu, hh⟩ := own8_block_type (hown j hj) hg
    rw [hall] at hh
    injection hh with hh
    injection hh with _ hh
    exact absurd hh (by decide)
  have hcell : ∀ wr, KeptBut (mrS N A c l) w wr → ∀ j, j < N → wr.cell? ⟨b, j, none⟩ = some (mrV A c l j) := by
    intro wr hk j hj
    refine hk.cell ?_ hbS
    rw [← hcur j hj]
    simp [World.cell?, hall]
  have HC := Lib.hid hcell
  have HO := Lib.hid hown
  have HA := Lib.hid hap
  have HL := Lib.hid hlen
  clear hcell hown hap hall hcur hlen
  go_enter Try.func7, Try.ntmps7
  go_wp2_with fail
  go_loopw [3] (fun i wr => ∃ k : Nat, k ≤ N ∧ i = .int .i64 k ∧ Marks1 base 5 N A c l w wr k 0) (fun i _ => N - (intOf i).toNat)
  case atStart => exact ⟨0, by omega, rfl, Marks1.start HO.out⟩
  case round =>
    obtain ⟨k, hk, rfl, hM⟩ := hrel
    obtain ⟨wo, rfl⟩ : ∃ wo : World, wo = wr := ⟨_, rfl⟩
    by_cases hlt : k < N
    · have hl := HL.out k hlt
      go_wp2_with fail
      go_loopw [4] (fun i wr => ∃ j : Nat, j ≤ (l k).length ∧ i = .int .i64 j ∧ Marks1 base 5 N A c l w wr k j) (fun i _ => (l k).length - (intOf i).toNat)
      case atStart => exact ⟨0, by omega, rfl, hM⟩
      case round =>
        obtain ⟨j, hj, rfl, hI⟩ := hrel
        have hc0 := HC.out _ hI.kept k hlt
        by_cases hjt : j < (l k).length
        · obtain ⟨g, x, hA, hx, hfz, hnx⟩ := hI.step HA.out hlt hjt
          unfold mrV at hc0
          rw [hA] at hc0
          have hm := mark_nat k (by omega)
          have HM := Lib.hid hnx
          have HE := Lib.hid hm
          clear hnx hA hm hI hM
          generalize hn : (l k).length = n at hc0 hjt hj hl
          have HNN := Lib.hid hn
          clear hn
          go_wp2_with fail
          go_roundw
          case rel => exact ⟨j + 1, by omega, by go_num, HM.out _ HE.out.symm⟩
          case measure => simp [intOf]; omega
        · have he : j = (l k).length := by omega
          subst he
          have hI' := hI.next
          unfold mrV at hc0
          clear hI hM
          go_wp2_with fail
          go_roundw
          case rel => exact ⟨k + 1, by omega, by go_num, hI'⟩
          case measure => simp [intOf]; omega
    · have he : k = N := by omega
      subst he
      have hF := Lib.hid hM.full
      have hK1 := Lib.hid hM.kept
      have hM2 := Marks2.start hM HA.out
      have hbase1 : base ≤ wo.heap.size := Nat.le_trans hbase hM.kept.size
      have hz := World.ownsRow_nil wo wo.heap.size 22 1
      obtain ⟨i0, hi, hz0, hz1, hz2⟩ := info_parts (P := Try.prog) (e := 22) (z := .slice none 0 0) (size := 1) (bytes := 24) (by kernel_rfl)
      have Hi := Lib.hid hi
      have Hz0 := Lib.hid hz0
      have Hz1 := Lib.hid hz1
      have Hz2 := Lib.hid hz2
      clear hM hi hz0 hz1 hz2
      go_wp2_with fail
      go_loopw [5, 6] (fun lv i wr => ∃ (q : Nat) (V : Nat → Value), q ≤ k ∧ i = .int .i64 q ∧ Marks2 base 5 k A c l wo wr V q 0 ∧ wr.ownsRow wo.heap.size 22 1 lv q ((List.range q).map V) ∧ (∀ j, q ≤ j → V j = mrV A c l j)) (fun _ i _ => k - (intOf i).toNat)
      case atStart => exact ⟨0, _, by omega, rfl, hM2, hz, fun _ _ => rfl⟩
      case round =>
        obtain ⟨q, V, hq, rfl, hM, hrow, hV⟩ := hrel
        by_cases hqt : q < k
        · have hc0 := HC.out _ (hK1.out.trans hM.kept) q hqt
          unfold mrV at hc0
          have hl := HL.out q hqt
          have hV' := Lib.hid hV
          clear hV
          go_wp2_with fail
          go_loopw [7, 8] (fun x i wr => ∃ (j : Nat) (V : Nat → Value), j ≤ 40 ∧ i = .int .i64 j ∧ x = V q ∧ Marks2 base 5 k A c l wo wr V q j ∧ wr.ownsRow wo.heap.size 22 1 u5 q ((List.range q).map V) ∧ (∀ j, q < j → V j = mrV A c l j)) (fun _ i _ => 40 - (intOf i).toNat)
          case atStart => exact ⟨0, V, by omega, rfl, (hV'.out q (Nat.le_refl _)).symm, hM, hrow, fun j hj => hV'.out j (by omega)⟩
          case round =>
            obtain ⟨j, V, hj, rfl, rfl, hM, hrow, hV⟩ := hrel
            by_cases hjt : j < 40
            · have hV2 := Lib.hid hV
              have hm := mark_nat q (by omega)
              have HE := Lib.hid hm
              have hMb := hM.below (((Below.refl _ wr).alloc (Nat.le_refl _)) (.cells #[.int .u8 ((q : Int) + 1)] 5))
              have ho := hMb.own q hqt
              rw [if_neg (by omega), if_pos rfl] at ho
              have hrowb := hrow.alloc (.cells #[.int .u8 ((q : Int) + 1)] 5)
              have hbb : base ≤ (wr.alloc (.cells #[.int .u8 ((q : Int) + 1)] 5)).heap.size := by have := hM.kept.size; simp; omega
              clear hV hM hrow hm
              go_wp2_with (at_builtin; refine wpList_app2 (l := fullL l j q) (m := [Tm.mark q]) rfl _ _ rfl tU8 rfl ho rfl rfl (Rda.box wr 5 _ (Tm.mark q) HE.out.symm) (by rw [fullL_length]; simp; omega) hbb ?_)
              intro v' w' ho' hw
              have hM3 := hMb.step hF.out HA.out hqt ho' hw
              have hrow3 := long_kept hMb hqt (by decide) hrowb (w' := w') hw.grown
              have hvq : v' = (fun j => if j = q then v' else V j) q := by simp
              have hVV : ∀ j, q < j → (fun j => if j = q then v' else V j) j = mrV A c l j := fun j hj => by
                have : ¬ j = q := by omega
                simp only [if_neg this]
                exact hV2.out j hj
              rw [← range_map_upd q v'] at hrow3
              clear ho hMb hrowb ho' hw HE
              go_wp2_with fail
              go_roundw
              case rel => exact ⟨j + 1, _, by omega, by go_num, hvq, hM3, hrow3, hVV⟩
              case measure => simp [intOf]; omega
            · have he : j = 40 := by omega
              subst he
              have hM4 := hM.next
              have hown4 := hM.own q hqt
              rw [if_neg (by omega), if_pos rfl] at hown4
              obtain ⟨Aq, cq, heq, hrq⟩ := own_rda hown4
              have hMb := hM4.below (((Below.refl _ wr).alloc (Nat.le_refl _)) (.cells #[.slice Aq (fullL l 40 q).length cq] 22))
              have hrowb := hrow.alloc (.cells #[.slice Aq (fullL l 40 q).length cq] 22)
              have hsz : wo.heap.size ≤ wr.heap.size := hM.kept.size
              have hVV := Lib.hid hV
              have HEQ := Lib.hid heq
              clear hM hM4 hrow hown4 hrq hV
              rw [heq]
              clear heq
              go_wp2_with (at_builtin; refine wpList_append_own _ rfl _ _ 24 rfl wo.heap.size 22 i0 (.slice none 0 0) 1 24 Try.underlying24 Hi.out Hz0.out Hz1.out Hz2.out rfl (by decide) _ _ _ rfl hrowb ⟨wr.heap.size, 0, none⟩ 1 1 [.slice Aq (fullL l 40 q).length cq] rfl rfl ?c1 ?c2 ?c3 ?c4 ?c5 ?_)
              case c1 => exact cell_one_new _ _ _
              case c2 => simp [Value.oneCell']
              case c3 => unfold maxLen; omega
              case c4 => omega
              case c5 => simp; omega
              intro v' w' hrow' hgr hnil
              have hM5 := hMb.other hF.out (by decide) hrowb hgr
              have hcat : (List.range q).map V ++ [.slice Aq (fullL l 40 q).length cq] = (List.range (q + 1)).map V := by rw [List.range_succ, List.map_append, ← HEQ.out]; rfl
              rw [hcat] at hrow'
              clear hMb hrowb hgr hnil hcat
              go_wp2_with fail
              go_roundw
              case rel => exact ⟨q + 1, V, by omega, by go_num, hM5, hrow', fun j hj => hVV.out j (by omega)⟩
              case measure => simp [intOf]; omega
        · have he : q = k := by omega
          subst he
          obtain ⟨wh, rfl⟩ : ∃ wh : World, wh = wr := ⟨_, rfl⟩
          have hKK := Lib.hid (hK1.out.trans hM.kept)
          have hcA : ∀ j, j < q → wh.cell? ⟨b, j, none⟩ = some (mrV A c l j) := HC.out _ (hK1.out.trans hM.kept)
          have hvs : ∀ j, j < q → ∃ A' c', V j = .slice A' ((l j).length + 40) c' ∧ Rda wh A' c' (fullL l 40 j) := by
            intro j hj
            have := hM.own j hj
            rw [if_pos hj] at this
            obtain ⟨A', c', he, hr⟩ := own_rda this
            exact ⟨A', c', by rw [he, fullL_length], hr⟩
          have hlg : ∃ A' c', u5 = .slice A' q c' ∧ (0 < q → ∃ g, A' = some ⟨g, 0, none⟩ ∧ ∀ j, j < q → wh.cell? ⟨g, j, none⟩ = some (V j)) := by
            rcases hrow.2 with ⟨rfl, h0⟩ | ⟨g, cap', cu, rfl, _⟩
            · exact ⟨none, 0, by rw [h0], fun h => by omega⟩
            · refine ⟨_, _, rfl, fun _ => ⟨g, rfl, fun j hj => ?_⟩⟩
              rw [hrow.cellAt j (by omega)]
              simp [hj]
          have hra := Lib.hid hM.rda
          obtain ⟨Al, cl, rfl, hal⟩ := hlg
          have HA1 := Lib.hid hcA
          have HA2 := Lib.hid hvs
          have HA3 := Lib.hid hal
          clear hM hrow hV hcA hvs hal hK1 hF hM2 hz
          have hn40 : ∀ j, j < q → (l j).length ≤ 140737488355000 := HL.out
          have HL2 := Lib.hid hn40
          clear hn40
          go_wp2_with fail
          go_loopw [9] (fun i wz => ∃ m : Nat, m ≤ q ∧ i = .int .i64 m ∧ Below wh.heap.size wh wz) (fun i _ => q - (intOf i).toNat)
          case atStart => exact ⟨0, by omega, rfl, Below.refl _ _⟩
          case round =>
            obtain ⟨m, hm, rfl, hB⟩ := hrel
            obtain ⟨wz, rfl⟩ : ∃ wz : World, wz = wr := ⟨_, rfl⟩
            by_cases hmt : m < q
            · obtain ⟨g, rfl, hgc⟩ := HA3.out (by omega)
              obtain ⟨A', c', hVm, hr'⟩ := HA2.out m hmt
              have l1 := hgc m hmt
              rw [hVm] at l1
              have l2 := HA1.out m hmt
              unfold mrV at l2
              have hra2 := hra.out m hmt
              have hlm := HL2.out m hmt
              have hmk := mark_nat m (by omega)
              have q1 : ∀ j, j < (l m).length + 40 → ∃ b' o', A' = some ⟨b', o', none⟩ ∧ wh.cell? ⟨b', o' + j, none⟩ = some (.int .u8 ((m : Int) + 1)) := by
                intro j hj
                obtain ⟨b', o', he, hc⟩ := hr'.cells (by rw [fullL_length]; omega)
                refine ⟨b', o', he, ?_⟩
                rw [hc j (by rw [fullL_length]; omega), fullL_get _ _ _ _ hj, hmk]
              have q2 : ∀ j, j < (l m).length → ∃ b' o', A m = some ⟨b', o', none⟩ ∧ wh.cell? ⟨b', o' + j, none⟩ = some (.int .u8 ((m : Int) + 1)) := by
                intro j hj
                obtain ⟨b', o', he, hc⟩ := hra2.cells (by rw [fullL_length]; omega)
                refine ⟨b', o', he, ?_⟩
                rw [hc j (by rw [fullL_length]; omega), fullL_get _ _ _ _ (by omega), hmk]
              obtain ⟨n, hn⟩ : ∃ n, (l m).length = n := ⟨_, rfl⟩
              obtain ⟨Am, hAm⟩ : ∃ Am, A m = Am := ⟨_, rfl⟩
              rw [hn] at l1 l2 q1 q2 hlm
              rw [hAm] at l2 q2
              have Q1 := Lib.hid q1
              have Q2 := Lib.hid q2
              have L1 := Lib.hid l1
              have L2 := Lib.hid l2
              clear q1 q2 hn hAm hVm hr' hra2 hmk hgc l1 l2
              have l1 : wz.cell? ⟨g, m, none⟩ = some (.slice A' (n + 40) c') := (hB.cell (p := ⟨g, m, none⟩) (World.block_lt_of_cell? _ _ L1.out)).trans L1.out
              go_wp2_with fail
              clear l1
              go_loopw [10] (fun i wz => ∃ j : Nat, j ≤ n + 40 ∧ i = .int .i64 j ∧ Below wh.heap.size wh wz) (fun i _ => n + 40 - (intOf i).toNat)
              case atStart => exact ⟨0, by omega, rfl, hB⟩
              case round =>
                obtain ⟨j, hj, rfl, hB⟩ := hrel
                obtain ⟨wy, rfl⟩ : ∃ wy : World, wy = wr := ⟨_, rfl⟩
                have l1 : wy.cell? ⟨g, m, none⟩ = some (.slice A' (n + 40) c') := (hB.cell (p := ⟨g, m, none⟩) (World.block_lt_of_cell? _ _ L1.out)).trans L1.out
                have l2 : wy.cell? ⟨b, m, none⟩ = some (.slice Am n (c m)) := (hB.cell (p := ⟨b, m, none⟩) (World.block_lt_of_cell? _ _ L2.out)).trans L2.out
                by_cases hjt : j < n + 40
                · obtain ⟨b1, o1, rfl, e1⟩ := Q1.out j hjt
                  have k1 : wy.cell? ⟨b1, o1 + j, none⟩ = some (.int .u8 ((m : Int) + 1)) := (hB.cell (p := ⟨b1, o1 + j, none⟩) (World.block_lt_of_cell? _ _ e1)).trans e1
                  clear e1
                  have hb40 : m < 254 := by omega
                  by_cases hjn : j < n
                  · obtain ⟨b2, o2, rfl, e2⟩ := Q2.out j hjn
                    have k2 : wy.cell? ⟨b2, o2 + j, none⟩ = some (.int .u8 ((m : Int) + 1)) := (hB.cell (p := ⟨b2, o2 + j, none⟩) (World.block_lt_of_cell? _ _ e2)).trans e2
                    clear e2
                    go_wp2_with fail
                    go_roundw
                    case rel => exact ⟨j + 1, by omega, by go_num, hB⟩
                    case measure => simp [intOf]; omega
                  · go_wp2_with fail
                    go_roundw
                    case rel => exact ⟨j + 1, by omega, by go_num, hB⟩
                    case measure => simp [intOf]; omega
                · go_wp2_with fail
                  go_roundw
                  case rel => exact ⟨m + 1, by omega, by go_num, hB⟩
                  case measure => simp [intOf]; omega
            · have he : m = q := by omega
              subst he
              go_wp2_with fail
              go_ret
              exact ⟨rfl, hKK.out.trans (KeptBut.below (KeptBut.refl _ _) hB)⟩

theorem marked_pool {w : World} {base : Nat} {rs : List PRow} (hN : rs.length ≤ 200) (hP : Pool w base 5 rs) (hbase : base ≤ w.heap.size) (hlen : ∀ x ∈ rs, x.2.2.length ≤ 140737488355000) {b n cap : Nat} {cur : Array Value}
    (hall : w.heap[b]? = some (.cells cur 22 (0, 0))) (hcur : ∀ j (h : j < rs.length), cur[j]? = some (pv rs[j])) (hn : n = rs.length) (hcap : rs.length ≤ cap) :
    Calls Try.prog 7 #[.slice (some ⟨b, 0, none⟩) n cap] w fun e w' => e = .returned (.bool true) ∧ KeptBut (poolS rs) w w' := by
  subst hn
  refine (marked_any (A := rsA rs) (c := rsc rs) (l := rsl rs) hN (base := base) ?_ ?_ hbase ?_ hall ?_ hcap).mono fun e w' h => ⟨h.1, h.2.mono fun g hg => (rs_S rs g).1 hg⟩
  · intro j hj
    rw [rs_mrV rs j hj]
    have := hP.own _ (List.getElem_mem hj)
    simpa [rsl, List.getD, hj] using this
  · intro i j hi hj hij
    rw [rs_mrV rs i hi, rs_mrV rs j hj]
    rcases Nat.lt_or_gt_of_ne hij with h | h
    · exact List.pairwise_iff_getElem.1 hP.apart i j hi hj h
    · exact (List.pairwise_iff_getElem.1 hP.apart j i hj hi h).symm
  · intro j hj
    have := hlen _ (List.getElem_mem hj)
    simpa [rsl, List.getD, hj] using this
  · intro j hj
    rw [rs_mrV rs j hj]
    exact hcur j hj
end Go.Proofs.Ytehmpdioofldaaa
