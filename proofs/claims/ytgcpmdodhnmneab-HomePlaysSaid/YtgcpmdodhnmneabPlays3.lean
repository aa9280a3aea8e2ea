import Derived.Test.YtgcpmdodhnmneabPlays2
import Derived.Test.YtgcpmdodhnmneabLaw5
import Derived.Test.YtgcpmdodhnmneabActs5
import Derived.Deep.RegionHeld3
import Derived.Deep.DrawnRows
import Derived.StillTailTactics
/- HomePlays: the walk. -/
set_option linter.unusedVariables false
set_option linter.unusedSimpArgs false
namespace Go.Proofs.Ytgcpmdodhnmneab
open Go.RowKit Go.Tm
set_option maxHeartbeats 400000
set_option maxRecDepth 100000
attribute [local go_sem ↓] Go.wp_at_zero Go.wp_at_succ

theorem ledger_start {n N : Nat} {b : List UInt8} (h1 : 1 ≤ n) (h8 : n ≤ 8) (hN : 24 + 16 * n = N) (hl : b.length = N) (hz : ∀ j, 16 ≤ j → j + 1 < N → b.getD j 0 = 0) : Ledger n b [] := by
  refine ⟨⟨h1, h8, by omega⟩, fun e he => (by cases he), List.Pairwise.nil, List.Pairwise.nil, fun j hj _ => List.ext_getElem? fun x => ?_⟩
  rw [rowP_get?]
  split
  · rename_i hx
    have := hz (16 + 16 * j + x) (by omega) (by omega)
    rw [List.getElem?_eq_getElem (by omega)]
    rw [List.getD, List.getElem?_eq_getElem (by omega)] at this
    rw [show b[16 + 16 * j + x] = 0 from this]
    rw [List.getElem?_eq_getElem (by rw [zeroL_length]; exact hx)]
    simp only [zeroL, List.getElem_replicate]
  · rename_i hx
    rw [List.getElem?_eq_none (by rw [zeroL_length]; omega)]

/-- A cell of it written. -/
theorem ownLe_stored {w : World} {base : Nat} {e : TypeId} {size k c g : Nat} {xs : List Value} (h : OwnLe w base e size (.slice (some ⟨g, 0, none⟩) k c) k xs) (j : Nat) (u : Value) : OwnLe (w.setCell ⟨g, j, none⟩ u) base e size (.slice (some ⟨g, 0, none⟩) k c) k (xs.set j u) := by
  refine ⟨by rw [List.length_set]; exact h.1, ?_⟩
  rcases h.2 with ⟨e1, e2⟩ | ⟨g', cap, cur, e1, hg, hblk, hnc, hcm, hsz, htk⟩
  · cases e1
  · injection e1 with ea eb ec
    injection ea with ea
    injection ea with ea
    subst ea ec
    refine .inr ⟨g, c, cur.setIfInBounds j u, rfl, hg, by simp [World.setCell, Array.getElem?_modify, hblk], hnc, hcm, by simpa using hsz, ?_⟩
    rw [← htk]
    simp [List.take_set]
/-- New memory stays as it is when an older block is written. -/
theorem new_kept {e : TypeId} {w w5 w6 w7 : World} {A : Option Addr} {c : Nat} {l : List UInt8} (hN : New e w w5 A c l) (hb : Below w5.heap.size w5 w6) {row : Option Nat} (hg : w6.grownBy w7 row) (hr : ∀ k, row = some k → k < w.heap.size) : Rda w7 A c l :=
  (own_at ((hN.own.below hb).keptBy hg (fun k hk hq => by
    have h1 := (World.ownsRow.lt hN.own k hk).1
    have h2 := hr k hq
    omega))).2

set_option maxHeartbeats 4000000 in
theorem homePlays_any {w : World} {SA : Option Addr} {sn sc : Nat} {l : List (Bool × Int × Int)} (hS : ActsR w SA sc l) (hsn : sn = l.length) (slots head : Int) (hh0 : 0 ≤ head) (hh1 : head ≤ 255) :
    Calls Try.prog 5 #[.int .i64 slots, .int .u8 head, .slice SA sn sc] w fun e w' => e = .returned (.bool true) ∧ Below w.heap.size w w' := by
  subst hsn
  have HI1 := Lib.hid (fun W => into5_any slots 8 (by decide) (by decide) W)
  obtain ⟨n0, hn0⟩ : ∃ n0, slots % 8 = n0 := ⟨_, rfl⟩
  have l0 : 0 ≤ n0 := by omega
  have l1 : n0 < 8 := by omega
  rw [hn0] at HI1
  clear hn0
  obtain ⟨m, hm⟩ : ∃ m : Nat, (m : Int) = 1 + n0 := ⟨(1 + n0).toNat, by omega⟩
  have m1 : 1 ≤ m := by omega
  have m8 : m ≤ 8 := by omega
  obtain ⟨N, hNm⟩ : ∃ N : Nat, 24 + 16 * m = N := ⟨_, rfl⟩
  have hZl := zeroL_length N
  have hz0 : ∀ j, 16 ≤ j → (zeroL N).getD j 0 = 0 := fun j _ => by
    unfold zeroL
    by_cases h : j < N
    · simp [List.getD, h]
    · simp [List.getD, h]
  obtain ⟨Z, hZ⟩ : ∃ Z, zeroL N = Z := ⟨_, rfl⟩
  rw [hZ] at hZl hz0
  obtain ⟨hd, hhd⟩ : ∃ hd : UInt8, (hd.toNat : Int) = head := ⟨UInt8.ofNat head.toNat, by rw [UInt8.toNat_ofNat', Nat.mod_eq_of_lt (by omega)]; omega⟩
  subst hhd
  have hN152 : N ≤ 152 := by omega
  have hN40 : 40 ≤ N := by omega
  have hNN : (N : Int) = 24 + 16 * (1 + n0) := by omega
  have HZL := Lib.hid hZl
  have HZ := Lib.hid hZ
  have HZ0 := Lib.hid hz0
  have HM := Lib.hid (show (1 + n0 : Int) = (m : Int) from hm.symm)
  have HLS := Lib.hid (fun (b : List UInt8) => @ledger_start m N b m1 m8 hNm)
  have hmax := hS.max
  have hcap := hS.cap
  unfold maxLen at hmax
  clear hNm hZ hm m1 m8 hZl hz0
  go_enter Try.func5, Try.ntmps5
  go_wp2_with fail
  refine (HI1.out _).mono ?_
  rintro e wx ⟨rfl, rfl⟩
  go_wp2_with (with_reducible refine wpList_make8 rfl _ _ rfl tU8 N rfl rfl (by omega) (by omega) (by omega) ?_)
  intro w1 hW hb1
  rw [HZ.out] at hW
  clear hNN
  have m0 : (0 : Int) ≤ (N : Int) := by omega
  have mN : (40 : Int) ≤ (N : Int) := by omega
  go_wp2_with fail
  go_loopw [9] (fun i wr => ∃ (k : Nat) (bb : List UInt8), k ≤ 16 ∧ i = .int .i64 k ∧ Whole8 wr w.heap.size 5 bb ∧ bb.length = N ∧ (∀ j, 16 ≤ j → bb.getD j 0 = 0) ∧ Below w.heap.size w wr) (fun i _ => 16 - (intOf i).toNat)
  case atStart => exact ⟨0, Z, by omega, rfl, hW, HZL.out, HZ0.out, hb1⟩
  case round =>
    obtain ⟨k, bb, hk, rfl, hw, hbl, hbz, hb⟩ := hrel
    obtain ⟨wo, rfl⟩ : ∃ wo : World, wo = wr := ⟨_, rfl⟩
    by_cases hkt : k < 16
    · have q0 : (0 : Int) ≤ (k : Int) := by omega
      have q1 : (k : Int) < 16 := by omega
      have q2 : (k : Int) < (N : Int) := by omega
      have hfz := hw.free k
      have hcell := hw.cell k (by omega)
      have hst := hw.stored k hd
      have hsb := hb.grown (cell_grown wo w.heap.size k (.int .u8 (hd.toNat : Int))) hb.size (fun q hq => by injection hq with hq; omega)
      have HB := Lib.hid hbz
      have HL := Lib.hid hbl
      clear hbz hbl
      go_wp2_with fail
      go_roundw
      case rel => exact ⟨k + 1, _, by omega, by go_num, hst, by rw [List.length_set]; exact HL.out, fun j hj => by rw [List.getD, List.getElem?_set_ne (by omega)]; exact HB.out j hj, hsb⟩
      case measure => simp [intOf]; omega
    · have he : k = 16 := by omega
      subst he
      obtain ⟨K, hK⟩ : ∃ K : Nat, K + 1 = N := ⟨N - 1, by omega⟩
      have hKi : (N : Int) = (K : Int) + 1 := by omega
      have hK0 : (39 : Int) ≤ (K : Int) := by omega
      have hfz := hw.free K
      have hcell := hw.cell K (by omega)
      have hst := hw.stored K hd
      have hsb := hb.grown (cell_grown wo w.heap.size K (.int .u8 (hd.toNat : Int))) hb.size (fun q hq => by injection hq with hq; omega)
      have hL0 := HLS.out (bb.set K hd) (by rw [List.length_set]; exact hbl) (fun j h1 h2 => by rw [List.getD, List.getElem?_set_ne (by omega)]; exact hbz j h1)
      have hrb : Rda (wo.setCell ⟨w.heap.size, K, none⟩ (.int .u8 (hd.toNat : Int))) (some ⟨w.heap.size, 0, none⟩) N (bb.set K hd) := by
        have := hst.rda (by rw [List.length_set]; omega)
        rwa [List.length_set, hbl] at this
      obtain ⟨b0, hb0⟩ : ∃ b0, bb.set K hd = b0 := ⟨_, rfl⟩
      have hb0l : (bb.set K hd).length = N := by rw [List.length_set]; exact hbl
      rw [hb0] at hL0 hrb hb0l
      obtain ⟨w2, hw2⟩ : ∃ w2, wo.setCell ⟨w.heap.size, K, none⟩ (.int .u8 (hd.toNat : Int)) = w2 := ⟨_, rfl⟩
      rw [hw2] at hrb hsb
      clear hst hb0 hb hw hbz hbl
      have HK := Lib.hid hK
      clear hK
      go_wp2_with fail
      refine known5_any.mono ?_
      rintro e w3 ⟨rfl, hN3⟩
      have r3 := hrb.below hN3
      have b3 := below_then hsb hN3
      clear hrb hsb hN3 hw2 hcell hfz
      have hH0 : OwnLe w3 w.heap.size 51 3 (.slice none 0 0) ([] : List Hd).length (hldC []) := ownLe_nil _ _ _ _
      go_wp2_with fail
      go_loopw [8, 10, 11] (fun x y i wr => ∃ (k : Nat) (A : Option Addr) (c : Nat) (bb : List UInt8) (B : Option Addr) (d : Nat) (L : List Hd), k ≤ l.length ∧ x = .slice A N c ∧ y = .slice B L.length d ∧ i = .int .i64 k ∧ Rda wr A c bb ∧ bb.length = N ∧ Ledger m bb L ∧ OwnLe wr w.heap.size 51 3 (.slice B L.length d) L.length (hldC L) ∧ Below w.heap.size w wr) (fun _ _ i _ => l.length - (intOf i).toNat)
      case atStart => exact ⟨0, _, _, b0, _, _, [], by omega, rfl, rfl, rfl, r3, hb0l, hL0, hH0, b3⟩
      case round =>
        obtain ⟨k, A, c, bb, B, d, L, hk, rfl, rfl, rfl, hr, hbN, hL, hH, hb⟩ := hrel
        obtain ⟨wo, rfl⟩ : ∃ wo : World, wo = wr := ⟨_, rfl⟩
        by_cases hkt : k < l.length
        · obtain ⟨g, o, rfl, hc⟩ := (hS.below hb).cells (by omega)
          obtain ⟨z1, z2, z3⟩ := hc k l[k] (List.getElem?_eq_getElem hkt)
          obtain ⟨y1, y2, y3, y4⟩ := hS.vals l[k] (List.getElem_mem hkt)
          obtain ⟨⟨D, K0, V⟩, hx⟩ : ∃ x, l[k] = x := ⟨_, rfl⟩
          rw [hx] at z1 z2 z3 y1 y2 y3 y4
          clear hc hx
          have HI3 := fun W => into5_any K0 4294967296 (by decide) (by decide) W
          obtain ⟨key, hkey⟩ : ∃ key, K0 % 4294967296 = key := ⟨_, rfl⟩
          have k0 : 0 ≤ key := by omega
          have k1 : key < 4294967296 := by omega
          have HY := Lib.hid (And.intro y1 y2)
          rw [hkey] at HI3
          have HI := Lib.hid HI3
          clear hkey HI3 y1 y2 y3 y4
          go_wp2_with fail
          refine (HI.out _).mono ?_
          rintro e wx ⟨rfl, rfl⟩
          have hbx := (Below.refl wo.heap.size wo).alloc (Nat.le_refl _) (.cells #[.bool D, .int .i64 key, .int .u64 V] 47)
          have hRx : RowC (wo.alloc (.cells #[.bool D, .int .i64 key, .int .u64 V] 47)) wo.heap.size 47 [.bool D, .int .i64 key, .int .u64 V] := heap_alloc_new _ _
          have hHx := ownLe_below hH hbx
          have rx := hr.below hbx
          have bx := below_then hb hbx
          have hgx : wo.heap.size < (wo.alloc (.cells #[.bool D, .int .i64 key, .int .u64 V] 47)).heap.size := hRx.lt
          have hgw : w.heap.size ≤ wo.heap.size := hb.size
          obtain ⟨gb, hgb⟩ : ∃ gb, wo.heap.size = gb := ⟨_, rfl⟩
          have hHg : ∀ q, (Value.slice B L.length d).ownBlock = some q → q < gb := fun q hq => by rw [← hgb]; exact (ownLe_block hH hq).2.1
          have HHG := Lib.hid hHg
          rw [hgb] at hRx hgx hgw
          obtain ⟨w4, hw4⟩ : ∃ w4, wo.alloc (.cells #[.bool D, .int .i64 key, .int .u64 V] 47) = w4 := ⟨_, rfl⟩
          rw [hw4] at hRx hHx rx bx hgx
          have x0 := hRx.cell (j := 0) (v := .bool D) rfl
          have x1 := hRx.cell (j := 1) (v := .int .i64 key) rfl
          have x2 := hRx.cell (j := 2) (v := .int .u64 V) rfl
          have hL8 : L.length ≤ 8 := Nat.le_trans hL.small hL.page.hi
          have HSP := Lib.hid (spot_any (HoldR.of_own hHx) hL8 key)
          clear hbx z1 z2 z3 hHg hH hr hb
          go_wp2_with fail
          refine HSP.out.mono ?_
          rintro e wx ⟨rfl, rfl⟩
          cases hso : spotO L key with
          | some i =>
            obtain ⟨x, hie, hek⟩ := spot_some hso
            have hsp : spotI L key = (i : Int) := by unfold spotI; rw [hso]
            have hil : i < L.length := (List.getElem?_eq_some_iff.1 hie).1
            obtain ⟨p1, p2, p3, p4, p5, p6⟩ := hL.mem x (List.mem_of_getElem? hie)
            obtain ⟨gB, rfl, _⟩ := (HoldR.of_own hHx).cells i x hie
            rw [hsp]
            clear hsp
            cases D with
            | true =>
              obtain ⟨d1, d2, hL2⟩ := hL.del hie
              rw [hek] at d1 d2
              have hll : (layL bb (16 + 16 * x.2.2) (zeroL 16)).length = N := by rw [hL2.page.len, ← hL.page.len]; exact hbN
              have PD := delete_any rx (n := N) hbN.symm (by omega) key
              rw [d1, d2, hll] at PD
              have hout := outside_lay hL.page p1 (zeroL_length 16)
              obtain ⟨b2, hb2⟩ : ∃ b2, layL bb (16 + 16 * x.2.2) (zeroL 16) = b2 := ⟨_, rfl⟩
              rw [hb2] at PD hll hL2 hout
              have HPD := Lib.hid PD
              have HL2 := Lib.hid hL2
              have i0 : (0 : Int) ≤ (i : Int) := by omega
              have i1 : (i : Int) < (L.length : Int) := by omega
              have ig : (i : Int) ≥ 0 := i0
              have hs8 : x.2.2 < 8 := Nat.lt_of_lt_of_le p1 hL.page.hi
              clear PD d1 d2 hb2 hL2 p6 hek
              go_wp2_with fail
              refine HPD.out.mono ?_
              rintro e w5 ⟨A5, c5, rfl, hN5⟩
              have b5 := below_then bx hN5.below
              have H5 := ownLe_below hHx hN5.below
              have r5 := rx.below hN5.below
              have s5 := hN5.rda
              have R5 := hRx.below hN5.below
              obtain ⟨gB', hBe, c0, c1, c2, _⟩ := (HoldR.of_own H5).cells i x hie
              injection hBe with hBe
              injection hBe with hBe
              subst hBe
              have PO := outside_any r5 s5 hbN hll hN152 hs8 (fun j hj => hout j (by omega))
              have HPO := Lib.hid PO
              clear PO hout
              go_wp2_with fail
              refine HPO.out.mono ?_
              rintro e w6 ⟨rfl, hN6⟩
              have b6 := below_then b5 hN6
              have H6 := ownLe_below H5 hN6
              have s6 := s5.below hN6
              have R6 := R5.below hN6
              have hcd : L.length ≤ d := (HoldR.of_own H6).cap
              have hc0 : (L.length : Int) ≤ (d : Int) := by omega
              have hc1 : (i : Int) ≤ (d : Int) := by omega
              have hc2 : (i : Int) + 1 ≤ (L.length : Int) := by omega
              have wi : IntKind.i64.wrap ((i : Int) + 1) = (i : Int) + 1 := IntWalk.i64_in _ (by omega)
              clear c0 c1 c2
              have hc3 : (0 : Int) ≤ (i : Int) + 1 := by omega
              have b6d := (Below.refl w6.heap.size w6).drew
              have H6d := ownLe_below H6 b6d
              have R6d := R6.below b6d
              have s6d := s6.below b6d
              have hown := ownLe_take H6d hil
              rw [← hldC_take] at hown
              obtain ⟨a2, ha2, hnews⟩ : ∃ a2 : Addr, (if d = i + 1 then (some ⟨gB, 0, none⟩ : Option Addr) else some ⟨gB, (i + 1) * 3, none⟩) = some a2 ∧ ∀ j u, (hldC (L.drop (i + 1)))[j]? = some u → w6.drew.cell? (a2.add j) = some u := by
                by_cases hdi : d = i + 1
                · refine ⟨_, if_pos hdi, fun j u hj => ?_⟩
                  rw [List.drop_eq_nil_of_le (by omega)] at hj
                  simp [hldC] at hj
                · refine ⟨_, if_neg hdi, fun j u hj => ?_⟩
                  rw [hldC_drop, List.getElem?_drop] at hj
                  obtain ⟨g', e1, e2, _⟩ := ownLe_cell H6d hj
                  injection e1 with e1
                  injection e1 with e1
                  subst e1
                  rw [Addr.add_lit]
                  exact e2
              have hnl : (hldC (L.drop (i + 1))).length = (L.length - (i + 1)) * 3 := by rw [hldC_length, List.length_drop]
              have hlen2 := Lib.hid (show i + (L.length - (i + 1)) = (L.take i ++ L.drop (i + 1)).length by simp; omega)
              have hL2 := HL2.out
              go_wp2_with fail
              go_still_tail 8, (by kernel_rfl)
              change wpList _ _ _ _ _ w6.drew
              go_wp2_with (at_builtin; go_loud (skip; refine wpList_appLe rfl _ _ _ rfl w.heap.size 51 Try.underlying45 (z := .agg #[.int .i64 0, .int .u64 0, .int .i64 0]) (size := 3) (bytes := 24) (by kernel_rfl) rfl (by decide) _ i _ rfl hown a2 _ _ (hldC (L.drop (i + 1))) rfl hnl hnews (hldC_one _) (by unfold maxLen; omega) (by omega) (Nat.le_trans b6.size b6d.size) ?_))
              intro v7 w7 hO7 hg7
              rw [← hldC_app, hlen2.out] at hO7
              have hL2 := HL2.out
              have R7 := R6d.grown hg7 (fun hq => by have := HHG.out gb (by simpa [Value.ownBlock] using hq); omega)
              have s7 := new_kept hN5 (below_then hN6 b6d) hg7 (fun q hq => by have := HHG.out q (by simpa [Value.ownBlock] using hq); omega)
              have b7 : Below w.heap.size w w7 := (below_then b6 b6d).grown hg7 (Nat.le_trans b6.size b6d.size) (fun q hq => (ownLe_block hown hq).1)
              obtain ⟨L2, hLL⟩ : ∃ L2, L.take i ++ L.drop (i + 1) = L2 := ⟨_, rfl⟩
              rw [hLL] at hO7 hL2
              obtain ⟨A7, c7, rfl⟩ := ownLe_slice hO7
              have PT := Lib.hid (tells_any s7 hll hL2 (HoldR.of_own hO7) key)
              have x1' := R7.cell (j := 1) (v := .int .i64 key) rfl
              have HO7 := Lib.hid hO7
              have HL7 := Lib.hid hL2
              clear hO7 hL2 hg7 hlen2 hLL hown hnews hnl ha2 HL2 H5 H6 H6d hN5 s6d R6d R6 R5 s5 s6 r5
              go_wp2_with fail
              refine PT.out.mono ?_
              rintro e w8 ⟨rfl, hN8⟩
              go_wp2_with fail
              go_roundw
              case rel => exact ⟨k + 1, _, _, b2, _, _, L2, by omega, rfl, rfl, by go_num, s7.below hN8, hll, HL7.out, ownLe_below HO7.out hN8, below_then b7 hN8⟩
              case measure => simp [intOf]; omega
            | false =>
              obtain ⟨q1, q2, hL2⟩ := hL.over hie HY.out.1 HY.out.2
              have q1' : putE bb key = 0 := by rw [← hek]; exact q1
              have q2' : putV bb key V = layL bb (16 + 16 * x.2.2) (slotRow x.1.toNat V.toNat) := by rw [← hek]; exact q2
              have hll : (layL bb (16 + 16 * x.2.2) (slotRow x.1.toNat V.toNat)).length = N := by rw [hL2.page.len, ← hL.page.len]; exact hbN
              have PP := put_any rx (n := N) hbN.symm (by omega) key V HY.out.1 HY.out.2
              rw [q1', q2', hll] at PP
              have hout := outside_lay hL.page p1 (slotRow_length x.1.toNat V.toNat)
              obtain ⟨b2, hb2⟩ : ∃ b2, layL bb (16 + 16 * x.2.2) (slotRow x.1.toNat V.toNat) = b2 := ⟨_, rfl⟩
              rw [hb2] at PP hll hL2 hout
              have HPP := Lib.hid PP
              have HL2 := Lib.hid hL2
              have i0 : (0 : Int) ≤ (i : Int) := by omega
              have i1 : (i : Int) < (L.length : Int) := by omega
              have ig : (i : Int) ≥ 0 := i0
              have hs8 : x.2.2 < 8 := Nat.lt_of_lt_of_le p1 hL.page.hi
              have g1 : ((x.2.2 : Nat) : Int) < 1 + n0 := by rw [HM.out]; omega
              have g2 : (((x.2.2 : Nat) : Int) == 1 + n0) = false := beq_eq_false_iff_ne.2 (by omega)
              clear PP q1 q2 q1' q2' hb2 hL2 p6
              go_wp2_with fail
              refine HPP.out.mono ?_
              rintro e w5 ⟨A5, c5, rfl, hN5⟩
              have b5 := below_then bx hN5.below
              have H5 := ownLe_below hHx hN5.below
              have r5 := rx.below hN5.below
              have s5 := hN5.rda
              have R5 := hRx.below hN5.below
              obtain ⟨gB', hBe, c0, c1, c2, _⟩ := (HoldR.of_own H5).cells i x hie
              injection hBe with hBe
              injection hBe with hBe
              subst hBe
              have PO := outside_any r5 s5 hbN hll hN152 hs8 (fun j hj => hout j (by omega))
              have HPO := Lib.hid PO
              have HTK := Lib.hid (fun (s : Int) => taken_any (HoldR.of_own H5) hL8 s)
              clear PO hout
              go_wp2_with fail
              go_loop [18] (fun s => ∃ j : Nat, j ≤ m ∧ s = .int .i64 j ∧ ∀ q : Nat, q < j → takenB L (q : Int) = true) (fun s => m - (intOf s).toNat)
              case atStart => exact ⟨0, by omega, rfl, fun q hq => by omega⟩
              case round =>
                obtain ⟨j, hj, rfl, hjt⟩ := hrel
                by_cases hjm : j < m
                · have j0 : (0 : Int) ≤ (j : Int) := by omega
                  have j1 : (j : Int) < 1 + n0 := by rw [HM.out]; omega
                  have j2 : ((j : Int) == 1 + n0) = false := beq_eq_false_iff_ne.2 (by omega)
                  cases htk : takenB L (j : Int) with
                  | true =>
                    have PT := HTK.out (j : Int)
                    rw [htk] at PT
                    have hjt2 : ∀ q : Nat, q < j + 1 → takenB L (q : Int) = true := fun q hq => by
                      by_cases hqj : q = j
                      · rw [hqj]; exact htk
                      · exact hjt q (by omega)
                    have HJ := Lib.hid hjt2
                    have HPT := Lib.hid PT
                    clear PT htk hjt hjt2
                    go_wp2_with fail
                    refine HPT.out.mono ?_
                    rintro e wx ⟨rfl, rfl⟩
                    go_wp2_with fail
                    go_round
                    case rel => exact ⟨j + 1, by omega, by go_num, HJ.out⟩
                    case measure => simp [intOf]; omega
                  | false =>
                    have PT := HTK.out (j : Int)
                    rw [htk] at PT
                    have HPT := Lib.hid PT
                    clear PT
                    go_wp2_with fail
                    refine HPT.out.mono ?_
                    rintro e wx ⟨rfl, rfl⟩
                    go_wp2_with fail
                    refine HPO.out.mono ?_
                    rintro e w6 ⟨rfl, hN6⟩
                    have b6 := below_then b5 hN6
                    have H6 := ownLe_below H5 hN6
                    have s6 := s5.below hN6
                    have R6 := R5.below hN6
                    obtain ⟨gB6, hBe6, _, d1, _, d3⟩ := (HoldR.of_own H6).cells i x hie
                    injection hBe6 with hBe6
                    injection hBe6 with hBe6
                    subst hBe6
                    have x2' := R6.cell (j := 2) (v := .int .u64 V) rfl
                    have hst := ownLe_stored H6 (i * 3 + 1) (.int .u64 V)
                    rw [← hldC_set L i x V hie] at hst
                    have hg7 := cell_grown w6 gB (i * 3 + 1) (.int .u64 V)
                    have hgq : gB < gb := HHG.out gB rfl
                    have hgw2 : w.heap.size ≤ gB := (ownLe_block H6 rfl).1
                    have s7 := new_kept hN5 hN6 hg7 (fun q hq => by injection hq with hq; omega)
                    have R7 := R6.grown hg7 (fun hq => by injection hq with hq; omega)
                    have b7 : Below w.heap.size w (w6.setCell ⟨gB, i * 3 + 1, none⟩ (.int .u64 V)) := b6.grown hg7 b6.size (fun q hq => by injection hq with hq; omega)
                    have hsl : (L.set i (x.1, V, x.2.2)).length = L.length := List.length_set
                    obtain ⟨L2, hLL⟩ : ∃ L2, L.set i (x.1, V, x.2.2) = L2 := ⟨_, rfl⟩
                    have hL2 := HL2.out
                    rw [hLL] at hst hL2 hsl
                    obtain ⟨w7, hw7⟩ : ∃ w7, w6.setCell ⟨gB, i * 3 + 1, none⟩ (.int .u64 V) = w7 := ⟨_, rfl⟩
                    rw [hw7] at hst s7 R7 b7
                    have hst2 : OwnLe w7 w.heap.size 51 3 (.slice (some ⟨gB, 0, none⟩) L2.length d) L2.length (hldC L2) := by rw [hsl]; exact hst
                    have PT0 := tells_any s7 hll hL2 (HoldR.of_own hst2) key
                    have hc6 : L.length ≤ d := (HoldR.of_own H6).cap
                    rw [hsl] at PT0
                    have PT := Lib.hid PT0
                    have HO7 := Lib.hid hst2
                    have HL7 := Lib.hid hL2
                    have HSL := Lib.hid hsl
                    have x1' := R7.cell (j := 1) (v := .int .i64 key) rfl
                    clear hst hst2 hL2 hsl PT0 hLL hg7 HL2 H5 H6 hN5 R6 R5 s5 s6 r5 c0 c1 c2 hie
                    go_wp2_with fail
                    refine PT.out.mono ?_
                    rintro e w8 ⟨rfl, hN8⟩
                    go_wp2_with fail
                    go_roundw
                    case rel => exact ⟨k + 1, _, _, b2, _, _, L2, by omega, rfl, by rw [HSL.out], by go_num, s7.below hN8, hll, HL7.out, ownLe_below HO7.out hN8, below_then b7 hN8⟩
                    case measure => simp [intOf]; omega
                · have hje : j = m := by omega
                  have j0 : (0 : Int) ≤ (j : Int) := by omega
                  have j1 : ¬ (j : Int) < 1 + n0 := by rw [HM.out]; omega
                  have j2 : ((j : Int) == 1 + n0) = true := beq_iff_eq.2 (by rw [HM.out]; omega)
                  go_wp2_with fail
                  refine HPO.out.mono ?_
                  rintro e w6 ⟨rfl, hN6⟩
                  have b6 := below_then b5 hN6
                  have H6 := ownLe_below H5 hN6
                  have s6 := s5.below hN6
                  have R6 := R5.below hN6
                  obtain ⟨gB6, hBe6, _, d1, _, d3⟩ := (HoldR.of_own H6).cells i x hie
                  injection hBe6 with hBe6
                  injection hBe6 with hBe6
                  subst hBe6
                  have x2' := R6.cell (j := 2) (v := .int .u64 V) rfl
                  have hst := ownLe_stored H6 (i * 3 + 1) (.int .u64 V)
                  rw [← hldC_set L i x V hie] at hst
                  have hg7 := cell_grown w6 gB (i * 3 + 1) (.int .u64 V)
                  have hgq : gB < gb := HHG.out gB rfl
                  have hgw2 : w.heap.size ≤ gB := (ownLe_block H6 rfl).1
                  have s7 := new_kept hN5 hN6 hg7 (fun q hq => by injection hq with hq; omega)
                  have R7 := R6.grown hg7 (fun hq => by injection hq with hq; omega)
                  have b7 : Below w.heap.size w (w6.setCell ⟨gB, i * 3 + 1, none⟩ (.int .u64 V)) := b6.grown hg7 b6.size (fun q hq => by injection hq with hq; omega)
                  have hsl : (L.set i (x.1, V, x.2.2)).length = L.length := List.length_set
                  obtain ⟨L2, hLL⟩ : ∃ L2, L.set i (x.1, V, x.2.2) = L2 := ⟨_, rfl⟩
                  have hL2 := HL2.out
                  rw [hLL] at hst hL2 hsl
                  obtain ⟨w7, hw7⟩ : ∃ w7, w6.setCell ⟨gB, i * 3 + 1, none⟩ (.int .u64 V) = w7 := ⟨_, rfl⟩
                  rw [hw7] at hst s7 R7 b7
                  have hst2 : OwnLe w7 w.heap.size 51 3 (.slice (some ⟨gB, 0, none⟩) L2.length d) L2.length (hldC L2) := by rw [hsl]; exact hst
                  have PT0 := tells_any s7 hll hL2 (HoldR.of_own hst2) key
                  have hc6 : L.length ≤ d := (HoldR.of_own H6).cap
                  rw [hsl] at PT0
                  have PT := Lib.hid PT0
                  have HO7 := Lib.hid hst2
                  have HL7 := Lib.hid hL2
                  have HSL := Lib.hid hsl
                  have x1' := R7.cell (j := 1) (v := .int .i64 key) rfl
                  clear hst hst2 hL2 hsl PT0 hLL hg7 HL2 H5 H6 hN5 R6 R5 s5 s6 r5 c0 c1 c2 hie
                  go_wp2_with fail
                  refine PT.out.mono ?_
                  rintro e w8 ⟨rfl, hN8⟩
                  go_wp2_with fail
                  go_roundw
                  case rel => exact ⟨k + 1, _, _, b2, _, _, L2, by omega, rfl, by rw [HSL.out], by go_num, s7.below hN8, hll, HL7.out, ownLe_below HO7.out hN8, below_then b7 hN8⟩
                  case measure => simp [intOf]; omega
          | none =>
            have hsn := spot_none hso
            have hsp : spotI L key = -1 := by unfold spotI; rw [hso]
            rw [hsp]
            clear hsp hso
            cases D with
            | true =>
              obtain ⟨d1, d2⟩ := hL.nodel hsn
              have PD := delete_any rx (n := N) hbN.symm (by omega) key
              rw [d1, d2] at PD
              have HPD := Lib.hid PD
              clear PD d1 d2
              go_wp2_with fail
              refine HPD.out.mono ?_
              rintro e w5 ⟨A5, c5, rfl, hN5⟩
              have b5 := below_then bx hN5.below
              have H5 := ownLe_below hHx hN5.below
              have r5 := rx.below hN5.below
              have R5 := hRx.below hN5.below
              have x1' := R5.cell (j := 1) (v := .int .i64 key) rfl
              have PT := Lib.hid (tells_any r5 hbN hL (HoldR.of_own H5) key)
              clear hN5
              go_wp2_with fail
              refine PT.out.mono ?_
              rintro e w8 ⟨rfl, hN8⟩
              go_wp2_with fail
              go_roundw
              case rel => exact ⟨k + 1, _, _, bb, _, _, L, by omega, rfl, rfl, by go_num, r5.below hN8, hbN, hL, ownLe_below H5 hN8, below_then b5 hN8⟩
              case measure => simp [intOf]; omega
            | false =>
              have hadd := fun (s : Nat) (hs : s < m) (hlt : ∀ j : Nat, j < s → takenB L (j : Int) = true) (hf : takenB L (s : Int) = false) => hL.add k0 k1 HY.out.1 HY.out.2 hsn hs hlt hf
              have hful := fun (hlt : ∀ j : Nat, j < m → takenB L (j : Int) = true) => And.intro (hL.no k0 k1 hsn hlt).1 ((hL.no k0 k1 hsn hlt).2 V)
              have PP := put_any rx (n := N) hbN.symm (by omega) key V HY.out.1 HY.out.2
              obtain ⟨E, hE⟩ : ∃ E, putE bb key = E := ⟨_, rfl⟩
              obtain ⟨bV, hbV⟩ : ∃ bV, putV bb key V = bV := ⟨_, rfl⟩
              have hadd2 : ∀ (s : Nat) (hs : s < m) (hlt : ∀ j : Nat, j < s → takenB L (j : Int) = true) (hf : takenB L (s : Int) = false), E = 0 ∧ bV = layL bb (16 + 16 * s) (slotRow key.toNat V.toNat) ∧ Ledger m (layL bb (16 + 16 * s) (slotRow key.toNat V.toNat)) (L ++ [(key, V, s)]) := fun s hs hlt hf => by
                rw [← hE, ← hbV]
                exact hadd s hs hlt hf
              have hful2 : (∀ j : Nat, j < m → takenB L (j : Int) = true) → E = 42 ∧ bV = [] := fun hlt => by
                rw [← hE, ← hbV]
                exact hful hlt
              rw [hE, hbV] at PP
              obtain ⟨NV, hNV⟩ : ∃ NV, bV.length = NV := ⟨_, rfl⟩
              rw [hNV] at PP
              have HADD := Lib.hid hadd2
              have HFUL := Lib.hid hful2
              have HPP := Lib.hid PP
              have HNV := Lib.hid hNV
              clear PP hadd hadd2 hful hful2 hE hbV hNV
              go_wp2_with fail
              refine HPP.out.mono ?_
              rintro e w5 ⟨A5, c5, rfl, hN5⟩
              have b5 := below_then bx hN5.below
              have H5 := ownLe_below hHx hN5.below
              have r5 := rx.below hN5.below
              have s5 := hN5.rda
              have R5 := hRx.below hN5.below
              have HTK := Lib.hid (fun (s : Int) => taken_any (HoldR.of_own H5) hL8 s)
              go_wp2_with fail
              go_loop [18] (fun s => ∃ j : Nat, j ≤ m ∧ s = .int .i64 j ∧ ∀ q : Nat, q < j → takenB L (q : Int) = true) (fun s => m - (intOf s).toNat)
              case atStart => exact ⟨0, by omega, rfl, fun q hq => by omega⟩
              case round =>
                obtain ⟨j, hj, rfl, hjt⟩ := hrel
                by_cases hjm : j < m
                · have j0 : (0 : Int) ≤ (j : Int) := by omega
                  have j1 : (j : Int) < 1 + n0 := by rw [HM.out]; omega
                  have j2 : ((j : Int) == 1 + n0) = false := beq_eq_false_iff_ne.2 (by omega)
                  cases htk : takenB L (j : Int) with
                  | true =>
                    have PT := HTK.out (j : Int)
                    rw [htk] at PT
                    have hjt2 : ∀ q : Nat, q < j + 1 → takenB L (q : Int) = true := fun q hq => by
                      by_cases hqj : q = j
                      · rw [hqj]; exact htk
                      · exact hjt q (by omega)
                    have HJ := Lib.hid hjt2
                    have HPT := Lib.hid PT
                    clear PT htk hjt hjt2
                    go_wp2_with fail
                    refine HPT.out.mono ?_
                    rintro e wx ⟨rfl, rfl⟩
                    go_wp2_with fail
                    go_round
                    case rel => exact ⟨j + 1, by omega, by go_num, HJ.out⟩
                    case measure => simp [intOf]; omega
                  | false =>
                    have PT := HTK.out (j : Int)
                    rw [htk] at PT
                    have HPT := Lib.hid PT
                    clear PT
                    have hNV := HNV.out
                    obtain ⟨e1, e2, hL2⟩ := HADD.out j hjm hjt htk
                    have hll : (layL bb (16 + 16 * j) (slotRow key.toNat V.toNat)).length = N := by rw [hL2.page.len, ← hL.page.len]; exact hbN
                    have hout := outside_lay hL.page hjm (slotRow_length key.toNat V.toNat)
                    rw [← e2] at hll hL2 hout
                    rw [hll] at hNV
                    have hs8 : j < 8 := Nat.lt_of_lt_of_le hjm hL.page.hi
                    have PO := outside_any r5 s5 hbN hll hN152 hs8 (fun j hj => hout j (by omega))
                    have HPO := Lib.hid PO
                    have HL2 := Lib.hid hL2
                    subst e1
                    subst hNV
                    clear PO hout hL2 e2 HADD HFUL htk hjt
                    go_wp2_with fail
                    refine HPT.out.mono ?_
                    rintro e wx ⟨rfl, rfl⟩
                    go_wp2_with fail
                    refine HPO.out.mono ?_
                    rintro e w6 ⟨rfl, hN6⟩
                    have b6 := below_then b5 hN6
                    have H6 := ownLe_below H5 hN6
                    have s6 := s5.below hN6
                    have R6 := R5.below hN6
                    have y1 := R6.cell (j := 1) (v := .int .i64 key) rfl
                    have y2 := R6.cell (j := 2) (v := .int .u64 V) rfl
                    have hba := (Below.refl w6.heap.size w6).alloc (Nat.le_refl _) (.cells #[.int .i64 key, .int .u64 V, .int .i64 j] 51)
                    have hna : ∀ j' u, (hldC [(key, V, j)])[j']? = some u → (w6.alloc (.cells #[.int .i64 key, .int .u64 V, .int .i64 j] 51)).cell? ((⟨w6.heap.size, 0, none⟩ : Addr).add j') = some u := fun j' u hj' => by
                      rw [Addr.add_lit, Nat.zero_add]
                      have hr0 : RowC (w6.alloc (.cells #[.int .i64 key, .int .u64 V, .int .i64 j] 51)) w6.heap.size 51 [.int .i64 key, .int .u64 V, .int .i64 j] := heap_alloc_new _ _
                      exact hr0.cell hj'
                    have Ha := ownLe_below H6 hba
                    have Ra := R6.below hba
                    have sa := s6.below hba
                    have hbs : w.heap.size ≤ (w6.alloc (.cells #[.int .i64 key, .int .u64 V, .int .i64 j] 51)).heap.size := Nat.le_trans b6.size hba.size
                    go_wp2_with (at_builtin; refine wpList_appLe rfl _ _ _ rfl w.heap.size 51 Try.underlying45 (z := .agg #[.int .i64 0, .int .u64 0, .int .i64 0]) (size := 3) (bytes := 24) (by kernel_rfl) rfl (by decide) _ L.length _ rfl Ha _ 1 1 (hldC [(key, V, j)]) rfl rfl hna (hldC_one _) (by unfold maxLen; omega) (by omega) hbs ?_)
                    intro v7 w7 hO7 hg7
                    rw [← hldC_app] at hO7
                    have hlen2 : L.length + 1 = (L ++ [(key, V, j)]).length := by simp
                    rw [hlen2] at hO7
                    have hL2 := HL2.out
                    have R7 := Ra.grown hg7 (fun hq => by have := HHG.out gb hq; omega)
                    have s7 := new_kept hN5 (below_then hN6 hba) hg7 (fun q hq => by have := HHG.out q hq; omega)
                    have b7 : Below w.heap.size w w7 := (below_then b6 hba).grown hg7 hbs (fun q hq => (ownLe_block Ha hq).1)
                    obtain ⟨L2, hLL⟩ : ∃ L2, L ++ [(key, V, j)] = L2 := ⟨_, rfl⟩
                    rw [hLL] at hO7 hL2
                    obtain ⟨A7, c7, rfl⟩ := ownLe_slice hO7
                    have PT := Lib.hid (tells_any s7 hll hL2 (HoldR.of_own hO7) key)
                    have x1' := R7.cell (j := 1) (v := .int .i64 key) rfl
                    have HO7 := Lib.hid hO7
                    have HL7 := Lib.hid hL2
                    clear hO7 hL2 hg7 hlen2 hLL hna HL2 H5 H6 Ha hN5 sa Ra R6 R5 s5 s6 r5 hbs
                    go_wp2_with fail
                    refine PT.out.mono ?_
                    rintro e w8 ⟨rfl, hN8⟩
                    go_wp2_with fail
                    go_roundw
                    case rel => exact ⟨k + 1, _, _, bV, _, _, L2, by omega, rfl, rfl, by go_num, s7.below hN8, hll, HL7.out, ownLe_below HO7.out hN8, below_then b7 hN8⟩
                    case measure => simp [intOf]; omega
                · have hje : j = m := by omega
                  have j0 : (0 : Int) ≤ (j : Int) := by omega
                  have j1 : ¬ (j : Int) < 1 + n0 := by rw [HM.out]; omega
                  have j2 : ((j : Int) == 1 + n0) = true := beq_iff_eq.2 (by rw [HM.out]; omega)
                  have hNV := HNV.out
                  subst hje
                  obtain ⟨e1, e2⟩ := HFUL.out hjt
                  rw [e2] at hNV
                  have hNV : 0 = NV := hNV
                  subst e1
                  subst hNV
                  have x1' := R5.cell (j := 1) (v := .int .i64 key) rfl
                  have PT := Lib.hid (tells_any r5 hbN hL (HoldR.of_own H5) key)
                  clear e2 HADD HFUL hjt
                  go_wp2_with fail
                  refine PT.out.mono ?_
                  rintro e w8 ⟨rfl, hN8⟩
                  go_wp2_with fail
                  go_roundw
                  case rel => exact ⟨k + 1, _, _, bb, _, _, L, by omega, rfl, rfl, by go_num, r5.below hN8, hbN, hL, ownLe_below H5 hN8, below_then b5 hN8⟩
                  case measure => simp [intOf]; omega
        · have he : k = l.length := by omega
          subst he
          go_wp2_with fail
          go_ret
          exact ⟨rfl, hb⟩
end Go.Proofs.Ytgcpmdodhnmneab
