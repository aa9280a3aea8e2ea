import Derived.Test.YtgcpmdodhnmneaaDoorLaw4
import Derived.Test.YtgcpmdodhnmneaaDoorDoor
import Derived.Test.YtgcpmdodhnmneaaDoorEntry
import Derived.Test.YtgcpmdodhnmneaaDoorRefEnts
import Derived.Test.YtgcpmdodhnmneaaDoorStore
import Derived.Test.YtgcpmdodhnmneaaDoorQuietR
/- PageSlots: the walk. -/
set_option linter.unusedVariables false
set_option linter.unusedSimpArgs false
namespace Go.Proofs.YtgcpmdodhnmneaaDoor
open Go.RowKit Go.Tm Go.ChangeShapes Go.WideShapes Go.ChangeAt Go.Shelf
set_option maxHeartbeats 400000
set_option maxRecDepth 100000
attribute [local go_sem] Oper.semAt_some seq_nil

theorem kept_rda {S : Nat → Prop} {w w1 : World} (h : KeptBut S w w1) {A : Option Addr} {c : Nat} {l : List UInt8} (hr : Rda w A c l) (hS : 0 < l.length → ∀ a, A = some a → ¬ S a.block) : Rda w1 A c l :=
  ⟨hr.cap, hr.max, hr.nil, fun h0 => by
    obtain ⟨g, o, e, hc⟩ := hr.cells h0
    exact ⟨g, o, e, fun j hj => h.cell (hc j hj) (hS h0 ⟨g, o, none⟩ e)⟩⟩
theorem rda_block {w : World} {A : Option Addr} {c : Nat} {l : List UInt8} (h : Rda w A c l) (hl : 0 < l.length) : ∀ a, A = some a → a.block < w.heap.size := by
  intro a ha
  obtain ⟨g, o, e, hc⟩ := h.cells hl
  rw [e] at ha
  injection ha with ha
  subst ha
  exact World.block_lt_of_cell? _ _ (hc 0 hl)

set_option maxHeartbeats 4000000 in
theorem pageSlots_any {w : World} (hT : Tb w) {A : Option Addr} {n c : Nat} {b : List UInt8} (h : Rda w A c b) (hn : n = b.length) (hl : b.length ≤ 140737488351232) (i key val : Int) (hv0 : 0 ≤ val) (hv1 : val < 18446744073709551616) :
    Calls Tryd.prog 8 #[.slice A n c, .int .i64 i, .agg #[.int .i64 key, .int .u64 val]] w fun e w' => e = .returned (.bool true) ∧ Below w.heap.size w w' := by
  subst hn
  refine (callsIn_wide (n := 20)).1 ?_
  have H1 := Lib.hid (fun (W : World) (hr : Rda W A c b) => slot_any hr rfl hl i)
  have H2 := Lib.hid (fun (W : World) (hr : Rda W A c b) => refSlot_any hr rfl hl i)
  have H3 := Lib.hid (fun (W : World) (hr : Rda W A c b) => fill_any hr rfl hl i key val hv0 hv1)
  have H4 := Lib.hid (fun (W : World) (hr : Rda W A c b) => refFill_any hr rfl hl i key val hv0 hv1)
  have H5 := Lib.hid (fun (W : World) (hr : Rda W A c b) => free_any hr rfl hl i)
  have H6 := Lib.hid (fun (W : World) (hr : Rda W A c b) => refFree_any hr rfl hl i)
  have H7 := Lib.hid (fun (W : World) (hr : Rda W A c b) => refEntries_any hr rfl hl)
  obtain ⟨sk, hsk⟩ : ∃ sk, slotK b i = sk := ⟨_, rfl⟩
  obtain ⟨sv, hsv⟩ : ∃ sv, slotV b i = sv := ⟨_, rfl⟩
  obtain ⟨us, hus⟩ : ∃ us, usedB b i = us := ⟨_, rfl⟩
  obtain ⟨pe, hpe⟩ : ∃ pe, placeE b i = pe := ⟨_, rfl⟩
  obtain ⟨FE, hFE⟩ : ∃ FE, fillE b i key = FE := ⟨_, rfl⟩
  obtain ⟨FV, hFV⟩ : ∃ FV, fillV b i key val = FV := ⟨_, rfl⟩
  obtain ⟨RV, hRV⟩ : ∃ RV, freeV b i = RV := ⟨_, rfl⟩
  rw [hsk, hsv, hus, hpe] at H1 H2
  rw [hFE, hFV] at H3 H4
  rw [hpe, hRV] at H5 H6
  clear hsk hsv hus hpe hFE hFV hRV
  have b1 := (Below.refl w.heap.size w).alloc (Nat.le_refl _) (.cells #[.int .i64 key, .int .u64 val] 53)
  have b2 := b1.alloc (by simp) (.cells #[.bool false] 4)
  have r2 := h.below b2
  have x2 : RowC ((w.alloc (.cells #[.int .i64 key, .int .u64 val] 53)).alloc (.cells #[.bool false] 4)) w.heap.size 53 [.int .i64 key, .int .u64 val] := (Below.heap_alloc _ _ _ (by simp)).trans (heap_alloc_new w _)
  have R2 : RowC ((w.alloc (.cells #[.int .i64 key, .int .u64 val] 53)).alloc (.cells #[.bool false] 4)) (w.heap.size + 1) 4 [.bool false] := by
    have := heap_alloc_new (w.alloc (.cells #[.int .i64 key, .int .u64 val] 53)) (.cells #[.bool false] 4)
    simpa [RowC] using this
  refine callsIn_of_wp_marks Tryd.func8 rfl trivial ?_ rfl
  simp only [Tryd.ntmps8, List.size_toArray, List.length_cons, List.length_nil, Nat.reduceAdd, Nat.reduceSub, Array.replicate_succ, Array.replicate_zero, List.push_toArray, List.append_toArray, List.nil_append, List.cons_append]
  gi_wp2
  refine ⟨trivial, (callsIn_wide.2 (H1.out _ r2)).mono ?_⟩
  rintro e w3 ⟨rfl, hb3⟩
  have hal3 := (Below.refl w3.heap.size w3).alloc (Nat.le_refl _) (.cells #[.int .i64 sk, .int .u64 sv] 53)
  have r4 := (r2.below hb3).below hal3
  have x4 := (x2.below hb3).below hal3
  have R4 := (R2.below hb3).below hal3
  have b4 := below_then (below_then b2 hb3) hal3
  have y4 : RowC (w3.alloc (.cells #[.int .i64 sk, .int .u64 sv] 53)) w3.heap.size 53 [.int .i64 sk, .int .u64 sv] := heap_alloc_new w3 _
  clear hb3 r2 x2 R2 b1 b2 hal3
  gi_wp2
  obtain ⟨w4, hw4⟩ : ∃ w4, w3.alloc (.cells #[.int .i64 sk, .int .u64 sv] 53) = w4 := ⟨_, rfl⟩
  rw [hw4] at r4 x4 R4 b4 y4 ⊢
  clear hw4
  refine ⟨trivial, (callsIn_wide.2 (H2.out _ r4)).mono ?_⟩
  rintro e w5 ⟨rfl, hb5⟩
  have hal5 := (Below.refl w5.heap.size w5).alloc (Nat.le_refl _) (.cells #[.int .i64 sk, .int .u64 sv] 53)
  have r6 := (r4.below hb5).below hal5
  have x6 := (x4.below hb5).below hal5
  have R6 := (R4.below hb5).below hal5
  have y6 := (y4.below hb5).below hal5
  have b6 := below_then (below_then b4 hb5) hal5
  have z6 : RowC (w5.alloc (.cells #[.int .i64 sk, .int .u64 sv] 53)) w5.heap.size 53 [.int .i64 sk, .int .u64 sv] := heap_alloc_new w5 _
  clear hb5 r4 x4 R4 y4 b4 hal5
  have p0 := x6.cell (j := 0) rfl
  have p1 := x6.cell (j := 1) rfl
  gi_wp2
  obtain ⟨w6, hw6⟩ : ∃ w6, w5.alloc (.cells #[.int .i64 sk, .int .u64 sv] 53) = w6 := ⟨_, rfl⟩
  rw [hw6] at r6 x6 R6 y6 b6 z6 ⊢
  clear hw6 p0 p1
  refine ⟨trivial, (callsIn_wide.2 (H3.out _ r6)).mono ?_⟩
  rintro e w7 ⟨A7, c7, rfl, hN7⟩
  have r7 := r6.below hN7.below
  have x7 := x6.below hN7.below
  have R7 := R6.below hN7.below
  have y7 := y6.below hN7.below
  have z7 := z6.below hN7.below
  have b7 := below_then b6 hN7.below
  have f7 := hN7.rda
  clear r6 x6 R6 y6 z6 b6 hN7
  have p0 := x7.cell (j := 0) rfl
  have p1 := x7.cell (j := 1) rfl
  gi_wp2
  refine ⟨trivial, (callsIn_wide.2 (H4.out _ r7)).mono ?_⟩
  rintro e w8 ⟨A8, c8, rfl, hN8⟩
  have r8 := r7.below hN8.below
  have R8 := R7.below hN8.below
  have y8 := y7.below hN8.below
  have z8 := z7.below hN8.below
  have b8 := below_then b7 hN8.below
  have f8 := f7.below hN8.below
  have g8 := hN8.rda
  clear r7 x7 R7 y7 z7 b7 f7 hN8 p0 p1
  gi_wp2
  refine ⟨trivial, (callsIn_wide.2 (known_any (hT.below b8))).mono ?_⟩
  rintro e w9 ⟨rfl, hb9⟩
  have r9 := r8.below hb9
  have R9 := R8.below hb9
  have y9 := y8.below hb9
  have z9 := z8.below hb9
  have b9 := below_then b8 hb9
  have PS := same_yes (f8.below hb9) (g8.below hb9) rfl rfl rfl
  clear r8 R8 y8 z8 b8 f8 g8 hb9
  have p0 := y9.cell (j := 0) rfl
  have p1 := y9.cell (j := 1) rfl
  have q0 := z9.cell (j := 0) rfl
  have q1 := z9.cell (j := 1) rfl
  gi_wp2
  refine ⟨trivial, (callsIn_wide.2 PS).mono ?_⟩
  rintro e wx ⟨rfl, rfl⟩
  clear PS p0 p1 q0 q1 y9 z9
  gi_wp2
  refine ⟨trivial, (callsIn_wide.2 (H5.out _ r9)).mono ?_⟩
  rintro e w10 ⟨A10, c10, rfl, hN10⟩
  have r10 := r9.below hN10.below
  have R10 := R9.below hN10.below
  have b10 := below_then b9 hN10.below
  have f10 := hN10.rda
  clear r9 R9 b9 hN10
  gi_wp2
  refine ⟨trivial, (callsIn_wide.2 (H6.out _ r10)).mono ?_⟩
  rintro e w11 ⟨A11, c11, rfl, hN11⟩
  have r11 := r10.below hN11.below
  have R11 := R10.below hN11.below
  have b11 := below_then b10 hN11.below
  have PS := same_yes (f10.below hN11.below) hN11.rda rfl rfl rfl
  clear r10 R10 b10 f10 hN11
  gi_wp2
  refine ⟨trivial, (callsIn_wide.2 PS).mono ?_⟩
  rintro e wx ⟨rfl, rfl⟩
  clear PS H1 H2 H3 H4 H5 H6
  gi_wp2_with (gi_at_builtin; refine wpListIn_app2 (l := []) (m := b) (base := w11.heap.size) rfl _ _ rfl tU8 rfl (Own8.nilRow _ _ _) rfl rfl r11 (by simp; omega) (Nat.le_refl _) ?_)
  intro v12 w12 o12 ha12
  try rw [List.nil_append] at o12
  have hb12 : Below w11.heap.size w11 w12 := grown_below ha12.grown (Nat.le_refl _) (fun k hk => by simp [Value.ownBlock] at hk)
  have r12 := r11.below hb12
  have R12 := R11.below hb12
  have b12 := below_then b11 hb12
  have hz12 := hb12.size
  obtain ⟨A12, c12, rfl, f12⟩ := own_rda o12
  have hR11 := R11.lt
  have hw11 := b11.size
  have hlt12 := World.ownsRow.lt o12
  clear r11 R11 b11 ha12 hb12
  have PE := pageEntries_any f12 rfl hl
  have HPE := Lib.hid PE
  clear PE
  gi_wp2
  refine ⟨trivial, (callsIn_wide.2 HPE.out).mono ?_⟩
  rintro e w13 ⟨A13, c13, rfl, hE13⟩
  have r13 := r12.below hE13.below
  have R13 := R12.below hE13.below
  have b13 := below_then b12 hE13.below
  have o13 := o12.below hE13.below
  have hx13 := hE13.box
  have f13 := hE13.rda
  have hl13 := hE13.lt
  have hz13 := hE13.below.size
  have hxl : w12.heap.size < w13.heap.size := World.block_lt_of_cell? _ _ hx13
  clear r12 R12 b12 o12 f12 HPE hE13
  have hcapA := r13.cap
  gi_wp2
  gi_loopw [19] (fun k wr => ∃ (j : Nat) (l' : List UInt8), j ≤ b.length ∧ k = .int .i64 j ∧ l'.length = b.length ∧ Own8 wr w11.heap.size 5 (.slice A12 b.length c12) l' ∧ KeptBut (fun g => (Value.slice A12 b.length c12).ownBlock = some g) w13 wr) (fun k _ => b.length - (intOf k).toNat)
  case atStart => exact ⟨0, b, by omega, rfl, rfl, o13, KeptBut.refl _ _⟩
  case round =>
    obtain ⟨j, l', hj, rfl, hl', ho, hk⟩ := hrel
    obtain ⟨wo, rfl⟩ : ∃ wo : World, wo = wr := ⟨_, rfl⟩
    by_cases hjl : j < b.length
    · obtain ⟨g, rfl, hg⟩ := ho.block (by omega)
      have hfz := ho.unfrozen hl'.symm j
      have hcell := ho.cellAt hl'.symm j (by omega)
      obtain ⟨v, hv⟩ : ∃ v : UInt8, IntKind.u8.wrap (((l'.getD j 0).toNat : Int) + 1) = (v.toNat : Int) := ⟨l'.getD j 0 + 1, by
        rw [IntKind.wrap_u8, UInt8.toNat_add]
        have := (l'.getD j 0).toNat_lt
        simp only [UInt8.toNat_one]
        omega⟩
      have HV := Lib.hid hv
      obtain ⟨X, hX⟩ : ∃ X, (l'.getD j 0).toNat = X := ⟨_, rfl⟩
      rw [hX] at hcell hv
      have hj0 : (0 : Int) ≤ (j : Int) := by omega
      have hj1 : (j : Int) < (b.length : Int) := by omega
      have hst := ho.stored hl'.symm j v
      have HS := Lib.hid hst.1
      have HK := Lib.hid (hk.grown hst.2 (fun k e => .inl e))
      have hcap := ho
      clear hst hk ho hcap hX
      gi_wp2
      exact ⟨⟨j + 1, l'.set j v, by omega, by go_num, by rw [List.length_set]; exact hl', HS.out, HK.out⟩, by simp [intOf]; omega⟩
    · have he : j = b.length := by omega
      subst he
      have r14 := kept_rda hk r13 (fun h0 a ha hs => by
        have := rda_block h h0 a ha
        have := (hlt12 _ hs).1
        omega)
      have f14 := kept_rda hk f13 (fun h0 a ha hs => by
        have := (hl13 a ha).1
        have := (hlt12 _ hs).2
        omega)
      have R14 : RowC wo (w.heap.size + 1) 4 [.bool false] := (hk.block _ (by omega) (fun hs => by have := (hlt12 _ hs).1; omega)).trans R13
      have hx14 := hk.cell (a := ⟨w12.heap.size, 0, none⟩) hx13 (fun hs => by have := (hlt12 _ hs).2; simp at this)
      have b14 := b13.trans (hk.toBelow (B := w.heap.size) (fun g hs => by have := (hlt12 _ hs).1; omega) b13.size)
      have hz14 := hk.size
      have hl14 : ∀ a, A13 = some a → w12.heap.size < a.block ∧ a.block < wo.heap.size := fun a ha => ⟨(hl13 a ha).1, Nat.lt_of_lt_of_le (hl13 a ha).2 hz14⟩
      have hR14 : w.heap.size + 1 < w12.heap.size := by omega
      clear r13 f13 R13 hx13 b13 hl13 hk ho o13 hl' hlt12
      have P7 := H7.out wo r14
      obtain ⟨L, hL⟩ : ∃ L, entL b (List.range (slotsP b.length)) = L := ⟨_, rfl⟩
      have hL8 : L.length ≤ 8 := by
        rw [← hL]
        refine Nat.le_trans (entL_len _ _) ?_
        rw [List.length_range]
        exact slotsP_le _
      rw [hL] at P7
      have HP7 := Lib.hid P7
      have HL := Lib.hid hL
      clear P7 hL H7
      gi_wp2
      refine ⟨trivial, (callsIn_wide.2 HP7.out).mono ?_⟩
      rintro e w15 ⟨v, rfl, hO15, hb15⟩
      obtain ⟨Av, cv, rfl⟩ := own_slice hO15
      have hz15 := hb15.size
      have HUC : Hid (∀ (q : Nat) (x : Nat × Nat × Nat), L[q]? = some x → q < L.length ∧ ∃ g, Av = some ⟨g, 0, none⟩ ∧ L.length ≤ cv ∧ g < w15.heap.size ∧ w15.cell? ⟨g, q * 3, none⟩ = some (.int .i64 (x.1 : Int)) ∧ w15.cell? ⟨g, q * 3 + 1, none⟩ = some (.int .i64 (x.2.1 : Int)) ∧ w15.cell? ⟨g, q * 3 + 2, none⟩ = some (.int .u64 (x.2.2 : Int))) := by
        refine Lib.hid fun q x hq => ?_
        have hlt := (List.getElem?_eq_some_iff.1 hq).1
        refine ⟨hlt, ?_⟩
        rcases hO15.2 with ⟨e1, e2⟩ | ⟨g, cap, cur, e1, hg, hblk, hnc, _, hsz, htk⟩
        · omega
        · injection e1 with ea eb ec
          subst ea ec
          have hu := useC_get _ _ _ hq
          have hcell : ∀ (j : Nat) (y : Value), (useC L)[j]? = some y → w15.cell? ⟨g, j, none⟩ = some y := fun j y hj => by
            rw [← htk, List.getElem?_take] at hj
            split at hj
            · unfold World.cell?
              rw [hblk]
              simpa using hj
            · cases hj
          exact ⟨g, rfl, hnc, (Array.getElem?_eq_some_iff.1 hblk).1, hcell _ _ hu.1, hcell _ _ hu.2.1, hcell _ _ hu.2.2⟩
      have f15 := f14.below hb15
      have R15 := R14.below hb15
      have hx15 := (hb15.cell (p := ⟨w12.heap.size, 0, none⟩) (World.block_lt_of_cell? _ _ hx14)).trans hx14
      have b15 := below_then b14 hb15
      have a1 := (Below.refl w15.heap.size w15).alloc (Nat.le_refl _) (.cells #[.slice Av L.length cv] 65)
      have a2 := a1.alloc (by simp) (.cells #[.int .i64 0] 3)
      have a3 := a2.alloc (by simp; omega) (.cells #[.int .i64 0] 3)
      have B20 : (((w15.alloc (.cells #[.slice Av L.length cv] 65)).alloc (.cells #[.int .i64 0] 3)).alloc (.cells #[.int .i64 0] 3)).heap[w15.heap.size]? = some (.cells #[.slice Av L.length cv] 65 (0, 0)) := by
        rw [Below.heap_alloc _ _ _ (by simp; omega), Below.heap_alloc _ _ _ (by simp), heap_alloc_new]
      have B21 : (((w15.alloc (.cells #[.slice Av L.length cv] 65)).alloc (.cells #[.int .i64 0] 3)).alloc (.cells #[.int .i64 0] 3)).heap[w15.heap.size + 1]? = some (.cells #[.int .i64 0] 3 (0, 0)) := by
        rw [Below.heap_alloc _ _ _ (by simp)]
        have := heap_alloc_new (w15.alloc (.cells #[.slice Av L.length cv] 65)) (.cells #[.int .i64 0] 3)
        simpa using this
      have B22 : (((w15.alloc (.cells #[.slice Av L.length cv] 65)).alloc (.cells #[.int .i64 0] 3)).alloc (.cells #[.int .i64 0] 3)).heap[w15.heap.size + 1 + 1]? = some (.cells #[.int .i64 0] 3 (0, 0)) := by
        have := heap_alloc_new ((w15.alloc (.cells #[.slice Av L.length cv] 65)).alloc (.cells #[.int .i64 0] 3)) (.cells #[.int .i64 0] 3)
        simpa using this
      have hz18 : (((w15.alloc (.cells #[.slice Av L.length cv] 65)).alloc (.cells #[.int .i64 0] 3)).alloc (.cells #[.int .i64 0] 3)).heap.size = w15.heap.size + 3 := by simp
      obtain ⟨w18, hw18⟩ : ∃ w18, (((w15.alloc (.cells #[.slice Av L.length cv] 65)).alloc (.cells #[.int .i64 0] 3)).alloc (.cells #[.int .i64 0] 3)) = w18 := ⟨_, rfl⟩
      have HW18 := Lib.hid hw18
      rw [hw18] at a3 B20 B21 B22 hz18
      have f18 := f15.below a3
      have R18 := R15.below a3
      have hx18 := (a3.cell (p := ⟨w12.heap.size, 0, none⟩) (World.block_lt_of_cell? _ _ hx15)).trans hx15
      have b18 := below_then b15 a3
      have hxl15 := World.block_lt_of_cell? _ _ hx15
      have hzz : w15.heap.size + 3 ≤ w18.heap.size := by omega
      have hl18 : ∀ a, A13 = some a → w12.heap.size < a.block ∧ a.block < w15.heap.size := fun a ha => ⟨(hl14 a ha).1, by have := (hl14 a ha).2; omega⟩
      have HA3 := Lib.hid a3
      clear hw18 f15 R15 hx15 b15 a1 a2 a3 f14 R14 hx14 b14 hO15 hb15 HP7 hz18 r14
      have hxl15' : w12.heap.size < w15.heap.size := hxl15
      obtain ⟨M, hM⟩ : ∃ M, L.length = M := ⟨_, rfl⟩
      rw [hM] at HUC B20 HW18 hL8
      have HM := Lib.hid hM
      clear hM hxl15
      gi_wp2
      rw [HM.out, HW18.out]
      refine rangeN (F := Fence.wide) rfl (by omega) (gf := 59) (lb := #[.pointer (some ⟨w12.heap.size, 0, none⟩)]) rfl trivial (enters_of Tryd.func59 (by kernel_rfl) rfl)
        (entries1_seq 19 w12.heap.size (fun k => k = w12.heap.size ∨ ∃ a, A13 = some a ∧ a.block = k) (by omega) A13 c13 b hl w18 hx18 f18 (.inl rfl) (fun a ha => .inr ⟨a, ha, rfl⟩) (fun k hk => by
          rcases hk with rfl | ⟨a, ha, rfl⟩
          · omega
          · have := (hl18 a ha).2; omega))
        (fun k hk => by
          rcases hk with rfl | ⟨a, ha, rfl⟩
          · omega
          · have := (hl18 a ha).2; omega) (Below.refl _ _) (fun _ => rfl)
        (fun pre V => V.heap[w15.heap.size + 1]? = some (.cells #[.int .i64 (pre.length : Nat)] 3 (0, 0)) ∧ pre.length ≤ 1 ∧ KeptBut (fun g => g = w15.heap.size + 1) w18 V)
        (fun k pre V => k = .exit 2 ∧ pre.length = 2 ∧ V.heap[w15.heap.size + 1]? = some (.cells #[.int .i64 2] 3 (0, 0)) ∧ KeptBut (fun g => g = w15.heap.size + 1) w18 V)
        (fun s V V' row hs hg hr => ⟨(grownBy_keeps_cells hg (fun r e => (hr r e).2) hs.1 rfl).trans hs.1, hs.2.1, hs.2.2.grown hg (fun k e => .inr (hr k e).1)⟩)
        (fun k s V V' row hs hg hr => ⟨hs.1, hs.2.1, (grownBy_keeps_cells hg (fun r e => (hr r e).2) hs.2.2.1 rfl).trans hs.2.2.1, hs.2.2.2.grown hg (fun k e => .inr (hr k e).1)⟩)
        ⟨B21, by simp, KeptBut.refl _ _⟩ ?assign ?body ?done ?stop
      case assign =>
        intro l' x V K' hK
        gi_wp2
        exact hK
      case body =>
        rintro l' pre x V ⟨h1, h2, h3⟩ hlen
        have c1 := box_cell h1
        have f1 := box_free h1
        have hst := fun y => box_set (K := fun k => k = w12.heap.size ∨ ∃ a, A13 = some a ∧ a.block = k) (W0 := w18) (by omega) (fun k hk => by
          rcases hk with rfl | ⟨a, ha, rfl⟩
          · omega
          · have := (hl18 a ha).2; omega) h1 h3 y
        have hp2 : (pre ++ [x]).length = pre.length + 1 := by simp
        obtain ⟨q, hq⟩ : ∃ q, pre.length = q := ⟨_, rfl⟩
        rw [hq] at h2 c1 hp2
        have HP2 := Lib.hid hp2
        clear hp2 hq h1 h3
        simp only [inFrame, encE]
        have : q = 0 ∨ q = 1 := by omega
        rcases this with rfl | rfl
        · obtain ⟨s1, s2, s3, s4⟩ := hst (.int .i64 1)
          have c2 := box_cell s3
          have S1 := Lib.hid s1
          have S2 := Lib.hid s2
          have S3 := Lib.hid s3
          have S4 := Lib.hid s4
          clear s1 s2 s3 s4 hst
          gi_wp2
          exact ⟨S1.out, S2.out, by rw [HP2.out]; exact S3.out, by rw [HP2.out]; omega, S4.out⟩
        · obtain ⟨s1, s2, s3, s4⟩ := hst (.int .i64 2)
          have c2 := box_cell s3
          have S1 := Lib.hid s1
          have S2 := Lib.hid s2
          have S3 := Lib.hid s3
          have S4 := Lib.hid s4
          clear s1 s2 s3 s4 hst
          gi_wp2
          exact ⟨S1.out, S2.out, rfl, HP2.out, S3.out, S4.out⟩
      case done =>
        rintro D xs V hD hS ⟨h1, h2, h3⟩ hK
        obtain ⟨E, hE⟩ : ∃ E, xs.length = E := ⟨_, rfl⟩
        have hEM : E = min M 2 := by
          rw [HL.out] at hS
          rw [hE] at h2
          have := HM.out
          rw [hS] at hE
          omega
        rw [hE] at h1
        have HEM := Lib.hid hEM
        clear h2 hS hE hEM
        have hz19 := h3.size
        have f19 := kept_rda h3 f18 (fun h0 a ha hs => by have := (hl18 a ha).2; omega)
        have R19 : V.heap[w.heap.size + 1]? = some (.cells #[.bool false] 4 (0, 0)) := (h3.block _ (by omega) (by omega)).trans R18
        have hx19 := h3.cell (a := ⟨w12.heap.size, 0, none⟩) hx18 (by simp; omega)
        have B20' := (h3.block _ (by omega) (by omega)).trans B20
        have B22' := (h3.block _ (by omega) (by omega)).trans B22
        have b19 : Below w.heap.size w V := b18.trans (h3.toBelow (B := w.heap.size) (fun g hs => by omega) b18.size)
        have HR := Lib.hid (fun (q : Nat) (x : Nat × Nat × Nat) (hq : L[q]? = some x) => show q < M ∧ ∃ g, Av = some ⟨g, 0, none⟩ ∧ M ≤ cv ∧ g < w15.heap.size ∧ V.cell? ⟨g, q * 3, none⟩ = some (.int .i64 (x.1 : Int)) ∧ V.cell? ⟨g, q * 3 + 1, none⟩ = some (.int .i64 (x.2.1 : Int)) ∧ V.cell? ⟨g, q * 3 + 2, none⟩ = some (.int .u64 (x.2.2 : Int)) by
          obtain ⟨hqM, g, e, hMc, hgl, z0, z1, z2⟩ := HUC.out q x hq
          exact ⟨hqM, g, e, hMc, hgl, h3.cell ((HA3.out.cell (p := ⟨g, _, none⟩) hgl).trans z0) (by simp; omega), h3.cell ((HA3.out.cell (p := ⟨g, _, none⟩) hgl).trans z1) (by simp; omega), h3.cell ((HA3.out.cell (p := ⟨g, _, none⟩) hgl).trans z2) (by simp; omega)⟩)
        have hzV : w15.heap.size + 3 ≤ V.heap.size := by omega
        have b18z := b18.size
        clear h3 f18 R18 hx18 B20 B21 B22 b18 HUC HA3 hz19
        gi_wp2
        refine rangeB (F := Fence.wide) rfl (by omega) (gf := 59) (lb := #[.pointer (some ⟨w12.heap.size, 0, none⟩)]) rfl trivial (enters_of Tryd.func59 (by kernel_rfl) rfl)
          (entries1_seq 19 w12.heap.size (fun k => k = w12.heap.size ∨ ∃ a, A13 = some a ∧ a.block = k) (by omega) A13 c13 b hl V hx19 f19 (.inl rfl) (fun a ha => .inr ⟨a, ha, rfl⟩) (fun k hk => by
            rcases hk with rfl | ⟨a, ha, rfl⟩
            · omega
            · have := (hl18 a ha).2; omega))
          (fun k hk => by
            rcases hk with rfl | ⟨a, ha, rfl⟩
            · omega
            · have := (hl18 a ha).2; omega) (Below.refl _ _) (fun _ => rfl)
          (fun pre V2 => V2.heap[w15.heap.size + 1 + 1]? = some (.cells #[.int .i64 (pre.length : Nat)] 3 (0, 0)) ∧ KeptBut (fun g => g = w15.heap.size + 1 + 1) V V2)
          (fun k pre V2 => k = .ret ∧ ∃ (pre0 : List (Nat × Nat × Nat)) (x : Nat × Nat × Nat), pre = pre0 ++ [x] ∧ L[pre0.length]? ≠ some x)
          (fun s V1 V' row hs hg hr => ⟨(grownBy_keeps_cells hg (fun r e => (hr r e).2) hs.1 rfl).trans hs.1, hs.2.grown hg (fun k e => .inr (hr k e).1)⟩)
          (fun k s V1 V' row hs hg hr => ⟨hs.1, hs.2⟩)
          ⟨B22', KeptBut.refl _ _⟩ 53 (fun x => [.int .i64 (x.2.1 : Int), .int .u64 (x.2.2 : Int)]) (fun x Bx t => (t.setIfInBounds 23 (.int .i64 (x.1 : Int))).setIfInBounds 24 (.pointer (some ⟨Bx, 0, none⟩)))
          (fun pre V2 hs => ⟨hs.2.size, fun o => ⟨(Below.heap_alloc _ _ _ (Array.getElem?_eq_some_iff.1 hs.1).1).trans hs.1, hs.2.below ((Below.refl _ _).alloc (Nat.le_refl _) _)⟩⟩) ?assign2 ?body2 ?done2 ?stop2
        case assign2 =>
          intro l' x V2 K' hK'
          simp only [inFrame, encE, List.zip_toArray, List.zip_cons_cons, List.zip_nil_right, List.size_toArray, List.length_cons, List.length_nil, Nat.zero_add, Nat.reduceAdd, List.foldl_toArray', List.foldl_cons, List.setIfInBounds_toArray, List.set_cons_succ, List.set_cons_zero, List.foldl_nil] at hK'
          have HK' := Lib.hid hK'
          clear hK'
          simp only [inFrame, encE]
          gi_wp2
          exact HK'.out
        case body2 =>
          rintro l' pre x Bx V2 ⟨h4, h5⟩ hBx hX hlen
          have c22 := box_cell h4
          have f22 := box_free h4
          have c20 := box_cell ((h5.block _ (by omega) (by omega)).trans B20')
          have cX0 := pair_cell0 hX
          have cX1 := pair_cell1 hX
          have RV := (h5.block _ (by omega) (by omega)).trans R19
          have R0 := box_cell RV
          have R1 := box_free RV
          obtain ⟨q, hq⟩ : ∃ q, pre.length = q := ⟨_, rfl⟩
          have hq9 : q < 9 := by have := slotsP_le b.length; omega
          have hst := fun (nq : Nat) => box_set (K := fun k => k = w12.heap.size ∨ ∃ a, A13 = some a ∧ a.block = k) (W0 := V) (V := V2.drewN nq) (by omega) (fun k hk => by
            rcases hk with rfl | ⟨a, ha, rfl⟩
            · omega
            · have := (hl18 a ha).2; omega) h4 ⟨h5.os, h5.tape, h5.output, h5.size, h5.block⟩ (.int .i64 ((q + 1 : Nat) : Int))
          have hsR : ∀ nq, KeepsFrom V.heap.size V2 ((V2.drewN nq).setCell ⟨w.heap.size + 1, 0, none⟩ (.bool false)) ∧ RK (fun k => k = w12.heap.size ∨ ∃ a, A13 = some a ∧ a.block = k) (V.heap.size + 2) V2 ((V2.drewN nq).setCell ⟨w.heap.size + 1, 0, none⟩ (.bool false)) := fun nq => by
            have hgR := grownBy_setCell' (V2.drewN nq) (w.heap.size + 1) (.bool false)
            exact ⟨⟨hgR.size, fun k o hb hk' _ => (hgR.block k (Array.getElem?_eq_some_iff.1 hk').1 (fun e => by injection e with e; omega)).trans hk'⟩, ⟨hgR.size, fun k hk' hc => hgR.block k hk' (fun e => by
              injection e with e
              rcases hc with (rfl | ⟨a, ha, rfl⟩) | hc
              · omega
              · have := (hl18 a ha).1; omega
              · omega)⟩⟩
          have hp2 : (pre ++ [x]).length = q + 1 := by simp [hq]
          have HST := Lib.hid hst
          have HSR := Lib.hid hsR
          have HP2 := Lib.hid hp2
          have HQ := Lib.hid hq
          rw [hq] at c22
          clear hst hsR hp2 RV
          simp only [inFrame, encE, List.zip_toArray, List.zip_cons_cons, List.zip_nil_right, List.size_toArray, List.length_cons, List.length_nil, Nat.zero_add, Nat.reduceAdd, List.foldl_toArray', List.foldl_cons, List.setIfInBounds_toArray, List.set_cons_succ, List.set_cons_zero, List.foldl_nil]
          by_cases hm : L[q]? = some x
          · obtain ⟨hqM, g, rfl, hMc, hgl, z0, z1, z2⟩ := HR.out q x hm
            have y0 := h5.cell (a := ⟨g, q * 3, none⟩) z0 (by simp; omega)
            have y1 := h5.cell (a := ⟨g, q * 3 + 1, none⟩) z1 (by simp; omega)
            have y2 := h5.cell (a := ⟨g, q * 3 + 2, none⟩) z2 (by simp; omega)
            have m1 : (q : Int) < (M : Int) := by omega
            have m0 : (0 : Int) ≤ (q : Int) := by omega
            have hd : decide ((M : Int) ≤ (q : Int)) = false := decide_eq_false (by omega)
            have hd2 : decide (M ≤ q) = false := decide_eq_false (by omega)
            clear z0 z1 z2 hm h4 h5 hX hq
            gi_wp2
            refine wpIn_region_quietR (by kernel_rfl) (by kernel_rfl) (by kernel_rfl) ?_
            repeat (gi_big_quiet_step (fail))
            refine wpQuietIn_nil ?_
            intro _ hw'
            obtain ⟨nq, hw''⟩ := hw'
            subst hw''
            gi_wp2
            exact ⟨⟨(HST.out nq).1.size, (HST.out nq).1.same⟩, ⟨(HST.out nq).2.1.size, (HST.out nq).2.1.block⟩, by rw [HP2.out]; exact (HST.out nq).2.2.1, (HST.out nq).2.2.2⟩
          · have HMM := Lib.hid hm
            clear hm
            by_cases hqM : q < M
            · obtain ⟨⟨ya, yk, yv⟩, hy⟩ : ∃ y, L[q]? = some y := ⟨_, List.getElem?_eq_getElem (by rw [HM.out]; exact hqM)⟩
              obtain ⟨_, g, rfl, hMc, hgl, z0, z1, z2⟩ := HR.out q _ hy
              have y0 := h5.cell (a := ⟨g, q * 3, none⟩) z0 (by simp; omega)
              have y1 := h5.cell (a := ⟨g, q * 3 + 1, none⟩) z1 (by simp; omega)
              have y2 := h5.cell (a := ⟨g, q * 3 + 2, none⟩) z2 (by simp; omega)
              have m1 : (q : Int) < (M : Int) := by omega
              have m0 : (0 : Int) ≤ (q : Int) := by omega
              have hd : decide ((M : Int) ≤ (q : Int)) = false := decide_eq_false (by omega)
              have hd2 : decide (M ≤ q) = false := decide_eq_false (by omega)
              clear z0 z1 z2 h4 h5 hX hq
              by_cases e0 : ya = x.1
              · rw [e0] at y0
                by_cases e1 : yk = x.2.1
                · rw [e1] at y1
                  have e2 : yv ≠ x.2.2 := fun e2 => HMM.out (by rw [hy, e0, e1, e2])
                  have t2 : (((yv : Nat) : Int) == ((x.2.2 : Nat) : Int)) = false := beq_eq_false_iff_ne.2 (by omega)
                  have t2' : (yv == x.2.2) = false := beq_eq_false_iff_ne.2 e2
                  clear hy e0 e1 e2
                  gi_wp2
                  refine wpIn_region_quietR (by kernel_rfl) (by kernel_rfl) (by kernel_rfl) ?_
                  repeat (gi_big_quiet_step (fail))
                  refine wpQuietIn_nil ?_
                  intro _ hw'
                  obtain ⟨nq, hw''⟩ := hw'
                  subst hw''
                  gi_wp2
                  exact ⟨(HSR.out nq).1, (HSR.out nq).2, rfl, pre, x, rfl, by rw [HQ.out]; exact HMM.out⟩
                · have t1 : (((yk : Nat) : Int) == ((x.2.1 : Nat) : Int)) = false := beq_eq_false_iff_ne.2 (by omega)
                  have t1' : (yk == x.2.1) = false := beq_eq_false_iff_ne.2 e1
                  clear hy e0 e1
                  gi_wp2
                  refine wpIn_region_quietR (by kernel_rfl) (by kernel_rfl) (by kernel_rfl) ?_
                  repeat (gi_big_quiet_step (fail))
                  refine wpQuietIn_nil ?_
                  intro _ hw'
                  obtain ⟨nq, hw''⟩ := hw'
                  subst hw''
                  gi_wp2
                  exact ⟨(HSR.out nq).1, (HSR.out nq).2, rfl, pre, x, rfl, by rw [HQ.out]; exact HMM.out⟩
              · have t0 : (((ya : Nat) : Int) == ((x.1 : Nat) : Int)) = false := beq_eq_false_iff_ne.2 (by omega)
                have t0' : (ya == x.1) = false := beq_eq_false_iff_ne.2 e0
                clear hy e0
                gi_wp2
                refine wpIn_region_quietR (by kernel_rfl) (by kernel_rfl) (by kernel_rfl) ?_
                repeat (gi_big_quiet_step (fail))
                refine wpQuietIn_nil ?_
                intro _ hw'
                obtain ⟨nq, hw''⟩ := hw'
                subst hw''
                gi_wp2
                exact ⟨(HSR.out nq).1, (HSR.out nq).2, rfl, pre, x, rfl, by rw [HQ.out]; exact HMM.out⟩
            · have m1 : (M : Int) ≤ (q : Int) := by omega
              have hd : decide ((M : Int) ≤ (q : Int)) = true := decide_eq_true (by omega)
              have hd2 : decide (M ≤ q) = true := decide_eq_true (by omega)
              clear h4 h5 hX hq
              gi_wp2
              refine wpIn_region_quietR (by kernel_rfl) (by kernel_rfl) (by kernel_rfl) ?_
              repeat (gi_big_quiet_step (fail))
              refine wpQuietIn_nil ?_
              intro _ hw'
              obtain ⟨nq, hw''⟩ := hw'
              subst hw''
              gi_wp2
              exact ⟨(HSR.out nq).1, (HSR.out nq).2, rfl, pre, x, rfl, by rw [HQ.out]; exact HMM.out⟩
        case done2 =>
          rintro D2 xs2 V2 hD2 hS2 ⟨h4, h5⟩ hK2
          have hxM : xs2.length = M := by rw [hS2, HL.out]; exact HM.out
          rw [hxM] at h4
          have c22 := box_cell h4
          have c20 := box_cell ((h5.block _ (by omega) (by omega)).trans B20')
          have c21 := box_cell ((h5.block _ (by omega) (by omega)).trans h1)
          have RV := (h5.block _ (by omega) (by omega)).trans R19
          have R0 := box_cell RV
          have R1 := box_free RV
          have hg3 := grownBy_setCell' V2 (w.heap.size + 1) (.bool true)
          have hD2l := (Array.getElem?_eq_some_iff.1 hK2).1
          have hDl := (Array.getElem?_eq_some_iff.1 hK).1
          have k2 := (hg3.block D2 hD2l (fun e => by injection e with e; omega)).trans hK2
          have go2 := grownBy_putObj' (V2.setCell ⟨w.heap.size + 1, 0, none⟩ (.bool true)) D2 (.deferred none)
          have j1 := (h5.block D hDl (by omega)).trans hK
          have j2 := (hg3.block D (Array.getElem?_eq_some_iff.1 j1).1 (fun e => by injection e with e; omega)).trans j1
          have k1 := (go2.block D (Array.getElem?_eq_some_iff.1 j2).1 (fun e => by injection e with e; omega)).trans j2
          have go1 := grownBy_putObj' ((V2.setCell ⟨w.heap.size + 1, 0, none⟩ (.bool true)).putObj D2 (.deferred none)) D (.deferred none)
          have s3 : (V2.setCell ⟨w.heap.size + 1, 0, none⟩ (.bool true)).heap[w.heap.size + 1]? = some (.cells #[.bool true] 4 (0, 0)) := Boxed.set (.bool true) RV
          have s4 := (go2.block _ (Array.getElem?_eq_some_iff.1 s3).1 (fun e => by injection e with e; omega)).trans s3
          have s5 := (go1.block _ (Array.getElem?_eq_some_iff.1 s4).1 (fun e => by injection e with e; omega)).trans s4
          have qc := box_cell s5
          have bb2 := b19.trans (h5.toBelow (B := w.heap.size) (fun g hs => by omega) b19.size)
          have bb3 := bb2.grown hg3 bb2.size (fun k e => by injection e with e; omega)
          have bb4 := bb3.grown go2 bb3.size (fun k e => by injection e with e; have := b19.size; omega)
          have bb5 := bb4.grown go1 bb4.size (fun k e => by injection e with e; have := b18z; omega)
          have HK2 := Lib.hid k2
          have HK1 := Lib.hid k1
          have HQC := Lib.hid qc
          have HB5 := Lib.hid bb5
          clear hxM hS2 hg3 k2 go2 j1 j2 k1 go1 s3 s4 s5 qc bb2 bb3 bb4 bb5
          gi_wp2
          all_goals
            have hEo := HEM.out
            first
              | (have hv : (((E : Nat) : Int) == ((M : Nat) : Int)) = true := by rw [beq_iff_eq]; omega
                 rw [hv])
              | (have hv : (((E : Nat) : Int) == 2) = true := by rw [beq_iff_eq]; omega
                 rw [hv])
            refine ⟨by simp, .inl ⟨_, _, rfl, run_takeDeferred HK2.out, ?_⟩⟩
            refine ⟨by simp, .inl ⟨_, _, rfl, run_takeDeferred HK1.out, ?_⟩⟩
            have qc := HQC.out
            exact ⟨.bool true, by simp [results, Tryd.results8, go_sem, qc], rfl, HB5.out⟩
        case stop2 =>
          rintro D2 k2 pre2 V2 hD2 hp2 ⟨rfl, pre0, x, rfl, hne⟩ hK2
          rw [HL.out] at hp2
          obtain ⟨t, ht⟩ := hp2
          exact absurd (by rw [← ht, List.append_assoc, List.getElem?_append_right (Nat.le_refl _), Nat.sub_self]; rfl) hne
      case stop =>
        rintro D k pre V hD hp ⟨rfl, h2, h1, h3⟩ hK
        obtain ⟨E, hE⟩ : ∃ E : Nat, 2 = E := ⟨_, rfl⟩
        have hEM : E = min M 2 := by
          rw [HL.out] at hp
          have := hp.length_le
          have := HM.out
          omega
        rw [show (2 : Int) = ((E : Nat) : Int) by omega] at h1
        have HEM := Lib.hid hEM
        clear h2 hp hE hEM
        have hz19 := h3.size
        have f19 := kept_rda h3 f18 (fun h0 a ha hs => by have := (hl18 a ha).2; omega)
        have R19 : V.heap[w.heap.size + 1]? = some (.cells #[.bool false] 4 (0, 0)) := (h3.block _ (by omega) (by omega)).trans R18
        have hx19 := h3.cell (a := ⟨w12.heap.size, 0, none⟩) hx18 (by simp; omega)
        have B20' := (h3.block _ (by omega) (by omega)).trans B20
        have B22' := (h3.block _ (by omega) (by omega)).trans B22
        have b19 : Below w.heap.size w V := b18.trans (h3.toBelow (B := w.heap.size) (fun g hs => by omega) b18.size)
        have HR := Lib.hid (fun (q : Nat) (x : Nat × Nat × Nat) (hq : L[q]? = some x) => show q < M ∧ ∃ g, Av = some ⟨g, 0, none⟩ ∧ M ≤ cv ∧ g < w15.heap.size ∧ V.cell? ⟨g, q * 3, none⟩ = some (.int .i64 (x.1 : Int)) ∧ V.cell? ⟨g, q * 3 + 1, none⟩ = some (.int .i64 (x.2.1 : Int)) ∧ V.cell? ⟨g, q * 3 + 2, none⟩ = some (.int .u64 (x.2.2 : Int)) by
          obtain ⟨hqM, g, e, hMc, hgl, z0, z1, z2⟩ := HUC.out q x hq
          exact ⟨hqM, g, e, hMc, hgl, h3.cell ((HA3.out.cell (p := ⟨g, _, none⟩) hgl).trans z0) (by simp; omega), h3.cell ((HA3.out.cell (p := ⟨g, _, none⟩) hgl).trans z1) (by simp; omega), h3.cell ((HA3.out.cell (p := ⟨g, _, none⟩) hgl).trans z2) (by simp; omega)⟩)
        have hzV : w15.heap.size + 3 ≤ V.heap.size := by omega
        have b18z := b18.size
        clear h3 f18 R18 hx18 B20 B21 B22 b18 HUC HA3 hz19
        gi_wp2
        refine rangeB (F := Fence.wide) rfl (by omega) (gf := 59) (lb := #[.pointer (some ⟨w12.heap.size, 0, none⟩)]) rfl trivial (enters_of Tryd.func59 (by kernel_rfl) rfl)
          (entries1_seq 19 w12.heap.size (fun k => k = w12.heap.size ∨ ∃ a, A13 = some a ∧ a.block = k) (by omega) A13 c13 b hl V hx19 f19 (.inl rfl) (fun a ha => .inr ⟨a, ha, rfl⟩) (fun k hk => by
            rcases hk with rfl | ⟨a, ha, rfl⟩
            · omega
            · have := (hl18 a ha).2; omega))
          (fun k hk => by
            rcases hk with rfl | ⟨a, ha, rfl⟩
            · omega
            · have := (hl18 a ha).2; omega) (Below.refl _ _) (fun _ => rfl)
          (fun pre V2 => V2.heap[w15.heap.size + 1 + 1]? = some (.cells #[.int .i64 (pre.length : Nat)] 3 (0, 0)) ∧ KeptBut (fun g => g = w15.heap.size + 1 + 1) V V2)
          (fun k pre V2 => k = .ret ∧ ∃ (pre0 : List (Nat × Nat × Nat)) (x : Nat × Nat × Nat), pre = pre0 ++ [x] ∧ L[pre0.length]? ≠ some x)
          (fun s V1 V' row hs hg hr => ⟨(grownBy_keeps_cells hg (fun r e => (hr r e).2) hs.1 rfl).trans hs.1, hs.2.grown hg (fun k e => .inr (hr k e).1)⟩)
          (fun k s V1 V' row hs hg hr => ⟨hs.1, hs.2⟩)
          ⟨B22', KeptBut.refl _ _⟩ 53 (fun x => [.int .i64 (x.2.1 : Int), .int .u64 (x.2.2 : Int)]) (fun x Bx t => (t.setIfInBounds 23 (.int .i64 (x.1 : Int))).setIfInBounds 24 (.pointer (some ⟨Bx, 0, none⟩)))
          (fun pre V2 hs => ⟨hs.2.size, fun o => ⟨(Below.heap_alloc _ _ _ (Array.getElem?_eq_some_iff.1 hs.1).1).trans hs.1, hs.2.below ((Below.refl _ _).alloc (Nat.le_refl _) _)⟩⟩) ?assign2 ?body2 ?done2 ?stop2
        case assign2 =>
          intro l' x V2 K' hK'
          simp only [inFrame, encE, List.zip_toArray, List.zip_cons_cons, List.zip_nil_right, List.size_toArray, List.length_cons, List.length_nil, Nat.zero_add, Nat.reduceAdd, List.foldl_toArray', List.foldl_cons, List.setIfInBounds_toArray, List.set_cons_succ, List.set_cons_zero, List.foldl_nil] at hK'
          have HK' := Lib.hid hK'
          clear hK'
          simp only [inFrame, encE]
          gi_wp2
          exact HK'.out
        case body2 =>
          rintro l' pre x Bx V2 ⟨h4, h5⟩ hBx hX hlen
          have c22 := box_cell h4
          have f22 := box_free h4
          have c20 := box_cell ((h5.block _ (by omega) (by omega)).trans B20')
          have cX0 := pair_cell0 hX
          have cX1 := pair_cell1 hX
          have RV := (h5.block _ (by omega) (by omega)).trans R19
          have R0 := box_cell RV
          have R1 := box_free RV
          obtain ⟨q, hq⟩ : ∃ q, pre.length = q := ⟨_, rfl⟩
          have hq9 : q < 9 := by have := slotsP_le b.length; omega
          have hst := fun (nq : Nat) => box_set (K := fun k => k = w12.heap.size ∨ ∃ a, A13 = some a ∧ a.block = k) (W0 := V) (V := V2.drewN nq) (by omega) (fun k hk => by
            rcases hk with rfl | ⟨a, ha, rfl⟩
            · omega
            · have := (hl18 a ha).2; omega) h4 ⟨h5.os, h5.tape, h5.output, h5.size, h5.block⟩ (.int .i64 ((q + 1 : Nat) : Int))
          have hsR : ∀ nq, KeepsFrom V.heap.size V2 ((V2.drewN nq).setCell ⟨w.heap.size + 1, 0, none⟩ (.bool false)) ∧ RK (fun k => k = w12.heap.size ∨ ∃ a, A13 = some a ∧ a.block = k) (V.heap.size + 2) V2 ((V2.drewN nq).setCell ⟨w.heap.size + 1, 0, none⟩ (.bool false)) := fun nq => by
            have hgR := grownBy_setCell' (V2.drewN nq) (w.heap.size + 1) (.bool false)
            exact ⟨⟨hgR.size, fun k o hb hk' _ => (hgR.block k (Array.getElem?_eq_some_iff.1 hk').1 (fun e => by injection e with e; omega)).trans hk'⟩, ⟨hgR.size, fun k hk' hc => hgR.block k hk' (fun e => by
              injection e with e
              rcases hc with (rfl | ⟨a, ha, rfl⟩) | hc
              · omega
              · have := (hl18 a ha).1; omega
              · omega)⟩⟩
          have hp2 : (pre ++ [x]).length = q + 1 := by simp [hq]
          have HST := Lib.hid hst
          have HSR := Lib.hid hsR
          have HP2 := Lib.hid hp2
          have HQ := Lib.hid hq
          rw [hq] at c22
          clear hst hsR hp2 RV
          simp only [inFrame, encE, List.zip_toArray, List.zip_cons_cons, List.zip_nil_right, List.size_toArray, List.length_cons, List.length_nil, Nat.zero_add, Nat.reduceAdd, List.foldl_toArray', List.foldl_cons, List.setIfInBounds_toArray, List.set_cons_succ, List.set_cons_zero, List.foldl_nil]
          by_cases hm : L[q]? = some x
          · obtain ⟨hqM, g, rfl, hMc, hgl, z0, z1, z2⟩ := HR.out q x hm
            have y0 := h5.cell (a := ⟨g, q * 3, none⟩) z0 (by simp; omega)
            have y1 := h5.cell (a := ⟨g, q * 3 + 1, none⟩) z1 (by simp; omega)
            have y2 := h5.cell (a := ⟨g, q * 3 + 2, none⟩) z2 (by simp; omega)
            have m1 : (q : Int) < (M : Int) := by omega
            have m0 : (0 : Int) ≤ (q : Int) := by omega
            have hd : decide ((M : Int) ≤ (q : Int)) = false := decide_eq_false (by omega)
            have hd2 : decide (M ≤ q) = false := decide_eq_false (by omega)
            clear z0 z1 z2 hm h4 h5 hX hq
            gi_wp2
            refine wpIn_region_quietR (by kernel_rfl) (by kernel_rfl) (by kernel_rfl) ?_
            repeat (gi_big_quiet_step (fail))
            refine wpQuietIn_nil ?_
            intro _ hw'
            obtain ⟨nq, hw''⟩ := hw'
            subst hw''
            gi_wp2
            exact ⟨⟨(HST.out nq).1.size, (HST.out nq).1.same⟩, ⟨(HST.out nq).2.1.size, (HST.out nq).2.1.block⟩, by rw [HP2.out]; exact (HST.out nq).2.2.1, (HST.out nq).2.2.2⟩
          · have HMM := Lib.hid hm
            clear hm
            by_cases hqM : q < M
            · obtain ⟨⟨ya, yk, yv⟩, hy⟩ : ∃ y, L[q]? = some y := ⟨_, List.getElem?_eq_getElem (by rw [HM.out]; exact hqM)⟩
              obtain ⟨_, g, rfl, hMc, hgl, z0, z1, z2⟩ := HR.out q _ hy
              have y0 := h5.cell (a := ⟨g, q * 3, none⟩) z0 (by simp; omega)
              have y1 := h5.cell (a := ⟨g, q * 3 + 1, none⟩) z1 (by simp; omega)
              have y2 := h5.cell (a := ⟨g, q * 3 + 2, none⟩) z2 (by simp; omega)
              have m1 : (q : Int) < (M : Int) := by omega
              have m0 : (0 : Int) ≤ (q : Int) := by omega
              have hd : decide ((M : Int) ≤ (q : Int)) = false := decide_eq_false (by omega)
              have hd2 : decide (M ≤ q) = false := decide_eq_false (by omega)
              clear z0 z1 z2 h4 h5 hX hq
              by_cases e0 : ya = x.1
              · rw [e0] at y0
                by_cases e1 : yk = x.2.1
                · rw [e1] at y1
                  have e2 : yv ≠ x.2.2 := fun e2 => HMM.out (by rw [hy, e0, e1, e2])
                  have t2 : (((yv : Nat) : Int) == ((x.2.2 : Nat) : Int)) = false := beq_eq_false_iff_ne.2 (by omega)
                  have t2' : (yv == x.2.2) = false := beq_eq_false_iff_ne.2 e2
                  clear hy e0 e1 e2
                  gi_wp2
                  refine wpIn_region_quietR (by kernel_rfl) (by kernel_rfl) (by kernel_rfl) ?_
                  repeat (gi_big_quiet_step (fail))
                  refine wpQuietIn_nil ?_
                  intro _ hw'
                  obtain ⟨nq, hw''⟩ := hw'
                  subst hw''
                  gi_wp2
                  exact ⟨(HSR.out nq).1, (HSR.out nq).2, rfl, pre, x, rfl, by rw [HQ.out]; exact HMM.out⟩
                · have t1 : (((yk : Nat) : Int) == ((x.2.1 : Nat) : Int)) = false := beq_eq_false_iff_ne.2 (by omega)
                  have t1' : (yk == x.2.1) = false := beq_eq_false_iff_ne.2 e1
                  clear hy e0 e1
                  gi_wp2
                  refine wpIn_region_quietR (by kernel_rfl) (by kernel_rfl) (by kernel_rfl) ?_
                  repeat (gi_big_quiet_step (fail))
                  refine wpQuietIn_nil ?_
                  intro _ hw'
                  obtain ⟨nq, hw''⟩ := hw'
                  subst hw''
                  gi_wp2
                  exact ⟨(HSR.out nq).1, (HSR.out nq).2, rfl, pre, x, rfl, by rw [HQ.out]; exact HMM.out⟩
              · have t0 : (((ya : Nat) : Int) == ((x.1 : Nat) : Int)) = false := beq_eq_false_iff_ne.2 (by omega)
                have t0' : (ya == x.1) = false := beq_eq_false_iff_ne.2 e0
                clear hy e0
                gi_wp2
                refine wpIn_region_quietR (by kernel_rfl) (by kernel_rfl) (by kernel_rfl) ?_
                repeat (gi_big_quiet_step (fail))
                refine wpQuietIn_nil ?_
                intro _ hw'
                obtain ⟨nq, hw''⟩ := hw'
                subst hw''
                gi_wp2
                exact ⟨(HSR.out nq).1, (HSR.out nq).2, rfl, pre, x, rfl, by rw [HQ.out]; exact HMM.out⟩
            · have m1 : (M : Int) ≤ (q : Int) := by omega
              have hd : decide ((M : Int) ≤ (q : Int)) = true := decide_eq_true (by omega)
              have hd2 : decide (M ≤ q) = true := decide_eq_true (by omega)
              clear h4 h5 hX hq
              gi_wp2
              refine wpIn_region_quietR (by kernel_rfl) (by kernel_rfl) (by kernel_rfl) ?_
              repeat (gi_big_quiet_step (fail))
              refine wpQuietIn_nil ?_
              intro _ hw'
              obtain ⟨nq, hw''⟩ := hw'
              subst hw''
              gi_wp2
              exact ⟨(HSR.out nq).1, (HSR.out nq).2, rfl, pre, x, rfl, by rw [HQ.out]; exact HMM.out⟩
        case done2 =>
          rintro D2 xs2 V2 hD2 hS2 ⟨h4, h5⟩ hK2
          have hxM : xs2.length = M := by rw [hS2, HL.out]; exact HM.out
          rw [hxM] at h4
          have c22 := box_cell h4
          have c20 := box_cell ((h5.block _ (by omega) (by omega)).trans B20')
          have c21 := box_cell ((h5.block _ (by omega) (by omega)).trans h1)
          have RV := (h5.block _ (by omega) (by omega)).trans R19
          have R0 := box_cell RV
          have R1 := box_free RV
          have hg3 := grownBy_setCell' V2 (w.heap.size + 1) (.bool true)
          have hD2l := (Array.getElem?_eq_some_iff.1 hK2).1
          have hDl := (Array.getElem?_eq_some_iff.1 hK).1
          have k2 := (hg3.block D2 hD2l (fun e => by injection e with e; omega)).trans hK2
          have go2 := grownBy_putObj' (V2.setCell ⟨w.heap.size + 1, 0, none⟩ (.bool true)) D2 (.deferred none)
          have j1 := (h5.block D hDl (by omega)).trans hK
          have j2 := (hg3.block D (Array.getElem?_eq_some_iff.1 j1).1 (fun e => by injection e with e; omega)).trans j1
          have k1 := (go2.block D (Array.getElem?_eq_some_iff.1 j2).1 (fun e => by injection e with e; omega)).trans j2
          have go1 := grownBy_putObj' ((V2.setCell ⟨w.heap.size + 1, 0, none⟩ (.bool true)).putObj D2 (.deferred none)) D (.deferred none)
          have s3 : (V2.setCell ⟨w.heap.size + 1, 0, none⟩ (.bool true)).heap[w.heap.size + 1]? = some (.cells #[.bool true] 4 (0, 0)) := Boxed.set (.bool true) RV
          have s4 := (go2.block _ (Array.getElem?_eq_some_iff.1 s3).1 (fun e => by injection e with e; omega)).trans s3
          have s5 := (go1.block _ (Array.getElem?_eq_some_iff.1 s4).1 (fun e => by injection e with e; omega)).trans s4
          have qc := box_cell s5
          have bb2 := b19.trans (h5.toBelow (B := w.heap.size) (fun g hs => by omega) b19.size)
          have bb3 := bb2.grown hg3 bb2.size (fun k e => by injection e with e; omega)
          have bb4 := bb3.grown go2 bb3.size (fun k e => by injection e with e; have := b19.size; omega)
          have bb5 := bb4.grown go1 bb4.size (fun k e => by injection e with e; have := b18z; omega)
          have HK2 := Lib.hid k2
          have HK1 := Lib.hid k1
          have HQC := Lib.hid qc
          have HB5 := Lib.hid bb5
          clear hxM hS2 hg3 k2 go2 j1 j2 k1 go1 s3 s4 s5 qc bb2 bb3 bb4 bb5
          gi_wp2
          all_goals
            have hEo := HEM.out
            first
              | (have hv : (((E : Nat) : Int) == ((M : Nat) : Int)) = true := by rw [beq_iff_eq]; omega
                 rw [hv])
              | (have hv : (((E : Nat) : Int) == 2) = true := by rw [beq_iff_eq]; omega
                 rw [hv])
            refine ⟨by simp, .inl ⟨_, _, rfl, run_takeDeferred HK2.out, ?_⟩⟩
            refine ⟨by simp, .inl ⟨_, _, rfl, run_takeDeferred HK1.out, ?_⟩⟩
            have qc := HQC.out
            exact ⟨.bool true, by simp [results, Tryd.results8, go_sem, qc], rfl, HB5.out⟩
        case stop2 =>
          rintro D2 k2 pre2 V2 hD2 hp2 ⟨rfl, pre0, x, rfl, hne⟩ hK2
          rw [HL.out] at hp2
          obtain ⟨t, ht⟩ := hp2
          exact absurd (by rw [← ht, List.append_assoc, List.getElem?_append_right (Nat.le_refl _), Nat.sub_self]; rfl) hne

theorem pageSlots_contract (H : Type) (enc : TypeId × Value → H) (W : World) (base : Nat) (args : Array Value) (ds gs : List (DataW H)) (before : List MemPlace)
    (hval0 : ∀ (j : Nat) t v, Tryd.f8.params[j]? = some t → args[j]? = some v → Value.okWide Tryd.prog W .any base t v)
    (hW : DataW.Whole enc Tryd.prog Tryd.f8.params.toList Rows.pageSlotsSpec.vars false W args.toList ds gs before) (hsz : (DataW.weightsEach Tryd.checked.prog (Tryd.f8.params.toList ++ Rows.pageSlotsSpec.plain.varTypes Tryd.checked.prog) (ds ++ gs)).all (· ≤ reachBytes) = true) (hL : laidMetH Tryd.prog Rows.pageSlotsRow.laid W) :
    Calls Tryd.prog 8 args W fun e W' => ∃ v, e = .returned v ∧ Rows.pageSlotsSpec.post enc Tryd.prog Tryd.f8 false true false false W args v W' := by
  have hval : ∀ (j : Nat) t v, Tryd.f8.params[j]? = some t → args[j]? = some v → Value.okWide Tryd.prog W .any base t v := hval0
  have hW' := hW
  obtain ⟨p, q, hA0, hV, rfl, hfz, hnd⟩ := hW
  have hA : DataW.TrodAll enc Tryd.prog W 0 (fun _ => true) true Tryd.f8.params.toList args.toList ds p := hA0
  rw [Tryd.params8] at hA hval
  obtain ⟨v0, vs0, d0, ds0, p0, q0, hargs, rfl, rfl, h0, rr0⟩ := trodAll_cons hA
  obtain ⟨v1, vs1, d1, ds1, p1, q1, rfl, rfl, rfl, h1, rr1⟩ := trodAll_cons rr0
  obtain ⟨v2, vs2, d2, ds2, p2, q2, rfl, rfl, rfl, h2, rr2⟩ := trodAll_cons rr1
  obtain ⟨rfl, rfl, rfl⟩ := trodAll_nil rr2
  obtain rfl : args = #[v0, v1, v2] := by cases args; simp_all
  obtain ⟨rfl, rfl⟩ := trodVars_none hV
  obtain ⟨a0, len0, cap0, rfl⟩ := okWide_slice Tryd.underlying22 (hval 0 22 v0 rfl rfl)
  have k0 := h0
  have lt0 : ∀ x ∈ p0, x.block < W.heap.size := by obtain ⟨m, hm⟩ := k0; exact DataW.trod_lt m _ _ _ hm
  obtain ⟨l0, n0, r0, dd0⟩ : ∃ l : List UInt8, len0 = l.length ∧ Rda W a0 cap0 l ∧ RowOf d0 l := by
    obtain ⟨fuel, hf⟩ := h0
    obtain ⟨A, l, c, hv, hr, hx⟩ := open_bytes tU8 (by kernel_rfl) (by simpa [Value.cells] using hf)
    obtain ⟨rfl, rfl, rfl⟩ : a0 = A ∧ len0 = l.length ∧ cap0 = c := by simpa using hv
    exact ⟨l, rfl, hr, hx⟩
  obtain ⟨x1, rfl, rfl, rfl, w1⟩ := open_int Tryd.underlying3 (hval 1 3 v1 rfl rfl) h1
  have b1 := bounds_i64 w1
  have k2 := h2
  have lt2 : ∀ x ∈ p2, x.block < W.heap.size := by obtain ⟨m, hm⟩ := k2; exact DataW.trod_lt m _ _ _ hm
  obtain ⟨x2, y2, rfl, b2⟩ := open_entry (hval 2 53 v2 rfl rfl) h2
  have s0 : l0.length ≤ 140737488351232 := by
    rcases dd0 with ⟨_, h⟩ | ⟨zs, sp, hd, hl⟩
    · rw [h]; simp
    · subst hd
      have := sized_slice hsz (j := 0) (t := 22) (e := 5) rfl rfl Tryd.underlying22
      rw [show Tryd.checked.prog.bytesOf 5 = 1 from by kernel_rfl] at this
      unfold lits at this
      simp only [List.length_map] at this
      have h47 : reachBytes ≤ 140737488351232 := by decide
      omega
  clear hA0 hval0
  refine (pageSlots_any (tb_of hL) r0 n0 (by omega) x1 x2 y2 b2.1 b2.2).mono fun e W' ⟨he, bel⟩ => ?_
  subst he
  exact ⟨_, rfl, _, _, _, [], _, [], hW', trodAll_mk1 (shut_bool Tryd.underlying4 _), (trodAll_cons_mk (Below.trod laid_out (by kernel_rfl) (of_decide_eq_true (by kernel_rfl)) k0 bel lt0) (trodAll_cons_mk (shut_int Tryd.underlying3 w1) (trodAll_cons_mk (Below.trod laid_out (by kernel_rfl) (of_decide_eq_true (by kernel_rfl)) k2 bel lt2) trodAll_mk0))), rfl, bel.frame _, fun h => by cases h⟩

theorem pageSlots_met (os : Os) : laidMet Tryd.prog Rows.pageSlotsRow.laid ((laidWorld os).forCall (fun _ _ => 0) ⟨#[], #[.slice none 0 0, .int .i64 0, .agg #[.int .i64 0, .int .u64 0]], []⟩).memory :=
  laidMet_of_run' 8 (by kernel_rfl) (by kernel_rfl)
theorem pageSlots_reads (os : Os) {H : Type} (enc : TypeId × Value → H) : ∃ places, DataW.whole enc Tryd.prog ((laidWorld os).forCall (fun _ _ => 0) ⟨#[], #[.slice none 0 0, .int .i64 0, .agg #[.int .i64 0, .int .u64 0]], []⟩).memory Tryd.f8.params.toList Rows.pageSlotsSpec.vars false (#[.slice none 0 0, .int .i64 0, .agg #[.int .i64 0, .int .u64 0]] : Array Value).toList 8 = some ([.nil, .lit (.int .i64 0), .agg [.lit (.int .i64 0), .lit (.int .u64 0)]], [], places) :=
  ⟨[], by kernel_rfl⟩

set_option maxRecDepth 100000 in
theorem pageSlots_lifted (os : Os) (started : os.Started) (H : Type) (enc : TypeId × Value → H) (F : Stop.Interp) :
    ReturnsInHanded {} Tryd.checked os 8 .any ((OpenSpec.ofChange Rows.pageSlotsSpec).preRow enc Tryd.prog Tryd.f8 Rows.pageSlotsRow.domain false Rows.pageSlotsRow.laid) (((OpenSpec.ofChange Rows.pageSlotsSpec).at F).post enc Tryd.prog Tryd.f8 false true false false) := by
  obtain ⟨places, hx⟩ := pageSlots_reads os enc
  refine returnsInHanded_of_row (C := Tryd.checked) (s := OpenSpec.ofChange Rows.pageSlotsSpec) own_knob started (by kernel_rfl) Tryd.func8
    (witness_row_at (enc := enc) (C := Tryd.checked) false (laidWorld os) #[.slice none 0 0, .int .i64 0, .agg #[.int .i64 0, .int .u64 0]] rfl (by kernel_rfl) (by kernel_rfl) (by kernel_rfl)
      (OpenSpec.preRow_of_cond 8 hx (by kernel_rfl) (fun k hk => by cases hk) (by kernel_rfl) (pageSlots_met os))) ?_
  intro W base args ds gs before hval hW _ hcond hsz hL _ _
  exact pageSlots_contract H enc W base args ds gs before hval hW hsz hL

theorem pageSlots_said : Rows.PageSlotsSaid :=
  OpenClaim.holds_of_cond 8 Tryd.f8 rfl rfl rfl rfl rfl rfl rfl ⟨rfl, rfl, rfl, rfl, rfl⟩ rfl rfl rfl rfl rfl (by kernel_rfl) Tryd.func8 (by kernel_rfl)
    (of_decide_eq_true (by kernel_rfl)) (by unfold Func.isWrapper; first | (rw [if_pos (by decide +kernel)]; kernel_rfl) | (rw [if_neg (by decide +kernel)]; exact ⟨rfl, rfl⟩))
    (fun os started H enc _ F => by rw [OpenClaim.pre_eq_preRow]; exact pageSlots_lifted os started H enc F)

theorem pageSlots_plain (f : FuncId) (fn : Func) (hf : Tryd.pinned.checked.prog.funcNamed "tidemark/tidemarklaw04.PageSlots" = some f) (hfn : Tryd.pinned.checked.prog.funcs[f]? = some fn) :
    false = Tryd.pinned.checked.prog.looks [] ∧ ∀ (j : Nat) t, fn.params[j]? = some t → Tryd.pinned.checked.prog.wantsStandIn t = false := by
  obtain rfl : f = 8 := Option.some.inj ((show Tryd.prog.funcNamed "tidemark/tidemarklaw04.PageSlots" = some 8 by kernel_rfl).symm.trans hf) |>.symm
  obtain rfl : fn = Tryd.f8 := (Option.some.inj (Tryd.func8.symm.trans hfn)).symm
  refine ⟨by kernel_rfl, fun j t ht => ?_⟩
  rw [Tryd.params8] at ht
  have hm := Array.mem_of_getElem? ht
  have : t = 22∨t = 53∨t = 3 := by simp at hm; first | exact hm | (rcases hm with hh | hh <;> simp [hh]) | (rcases hm with hh | hh | hh <;> simp [hh]) | (rcases hm with hh | hh | hh | hh <;> simp [hh]) | (rcases hm with hh | hh | hh | hh | hh <;> simp [hh]) | (rcases hm with hh | hh | hh | hh | hh | hh <;> simp [hh]) | (rcases hm with hh | hh | hh | hh | hh | hh | hh <;> simp [hh]) | (rcases hm with hh | hh | hh | hh | hh | hh | hh | hh <;> simp [hh])
  rcases this with rfl|rfl|rfl
  · exact (show Tryd.prog.wantsStandIn 22 = false by kernel_rfl)
  · exact (show Tryd.prog.wantsStandIn 53 = false by kernel_rfl)
  · exact (show Tryd.prog.wantsStandIn 3 = false by kernel_rfl)

theorem pageSlots_holds : Rows.PageSlotsCardSaid :=
  Claim7.holds_tied_plain_at .later [] _ _ _ _ pageSlots_said (fun _ h => by cases h) (by kernel_rfl) (fun _ h => by cases h) pageSlots_row_tie rfl ⟨rfl, rfl⟩ (by kernel_rfl) rfl pageSlots_plain (by kernel_rfl)
#print axioms pageSlots_holds
end Go.Proofs.YtgcpmdodhnmneaaDoor
