import Derived.Test.YtgcpmdodhnmneabPage5
import Derived.Test.YtgcpmdodhnmneabRef4
/- The contracts of the document's answer for layer 4, on: place, Slot, Fill, Free. Printed in part by gen/ref4s.py's writer from XPage4, XPage5. -/
set_option linter.unusedVariables false
set_option linter.unusedSimpArgs false
namespace Go.Proofs.Ytgcpmdodhnmneab
open Go.RowKit Go.Tm
set_option maxHeartbeats 400000
set_option maxRecDepth 100000

theorem refPlace_any (A : Option Addr) (n c : Nat) (b : List UInt8) (hn : n = b.length) (hl : b.length ≤ 140737488351232) (i : Int) (w : World) :
    Calls Try.prog 43 #[.slice A n c, .int .i64 i] w fun e w' => e = .returned (.int .i64 (placeE b i)) ∧ w = w' := by
  subst hn
  have PS := refSlots_any A b.length c (by omega) w
  by_cases hs : 0 < slotsP b.length
  · have h8 := slotsP_le b.length
    by_cases hi : i < 0 ∨ (slotsP b.length : Int) ≤ i
    · have e1 : placeE b i = 41 := by unfold placeE; rw [if_neg (by omega), if_pos hi]
      rw [e1]
      obtain ⟨S, hS⟩ : ∃ S, slotsP b.length = S := ⟨_, rfl⟩
      rw [hS] at PS hs h8 hi
      have hne : ((S : Int) == 0) = false := by rw [beq_eq_false_iff_ne]; omega
      have HPS := Lib.hid PS
      clear PS e1 hS
      by_cases hlo : i < 0
      · clear hi
        go_enter Try.func43, Try.ntmps43
        go_wp2_with fail
        refine HPS.out.mono ?_
        rintro e w3 ⟨rfl, rfl⟩
        go_wp2_with fail
        go_ret
        exact ⟨rfl, rfl⟩
      · have hhi : (S : Int) ≤ i := by omega
        clear hi
        go_enter Try.func43, Try.ntmps43
        go_wp2_with fail
        refine HPS.out.mono ?_
        rintro e w3 ⟨rfl, rfl⟩
        go_wp2_with fail
        refine HPS.out.mono ?_
        rintro e w3 ⟨rfl, rfl⟩
        go_wp2_with fail
        go_ret
        exact ⟨rfl, rfl⟩
    · have e1 : placeE b i = 0 := by unfold placeE; rw [if_neg (by omega), if_neg hi]
      rw [e1]
      obtain ⟨S, hS⟩ : ∃ S, slotsP b.length = S := ⟨_, rfl⟩
      rw [hS] at PS hs h8 hi
      have hne : ((S : Int) == 0) = false := by rw [beq_eq_false_iff_ne]; omega
      have h0 : 0 ≤ i := by omega
      have h1 : i < (S : Int) := by omega
      have HPS := Lib.hid PS
      clear PS e1 hS hi
      go_enter Try.func43, Try.ntmps43
      go_wp2_with fail
      refine HPS.out.mono ?_
      rintro e w3 ⟨rfl, rfl⟩
      go_wp2_with fail
      refine HPS.out.mono ?_
      rintro e w3 ⟨rfl, rfl⟩
      go_wp2_with fail
      go_ret
      exact ⟨rfl, rfl⟩
  · have h0 : slotsP b.length = 0 := by omega
    have e1 : placeE b i = 40 := if_pos h0
    rw [e1]
    rw [h0] at PS
    have HPS := Lib.hid PS
    clear PS e1 h0 hs
    go_enter Try.func43, Try.ntmps43
    go_wp2_with fail
    refine HPS.out.mono ?_
    rintro e w3 ⟨rfl, rfl⟩
    go_wp2_with fail
    go_ret
    exact ⟨rfl, rfl⟩

theorem refSlot_any {w : World} {A : Option Addr} {n c : Nat} {b : List UInt8} (h : Rda w A c b) (hn : n = b.length) (hl : b.length ≤ 140737488351232) (i : Int) :
    Calls Try.prog 29 #[.slice A n c, .int .i64 i] w fun e w' => e = .returned (.tuple #[.agg #[.int .i64 (slotK b i), .int .u64 (slotV b i)], .bool (usedB b i), .int .i64 (placeE b i)]) ∧ Below w.heap.size w w' := by
  subst hn
  have hcap := h.cap
  have PA := fun W => refPlace_any A b.length c b rfl hl i W
  by_cases he : placeE b i = 0
  · obtain ⟨p1, p2, p3, p4⟩ := place_ok he
    have e2 : placeV b i = 16 + i * 16 := if_pos he
    rw [he] at PA
    rw [he]
    obtain ⟨k, rfl⟩ := Int.eq_ofNat_of_zero_le p1
    rw [Int.toNat_natCast] at p3
    obtain ⟨S, hS⟩ : ∃ S, slotsP b.length = S := ⟨_, rfl⟩
    rw [hS] at p2 p3 p4
    obtain ⟨g, o, rfl, hc⟩ := h.cells (by omega)
    have hk := hc (16 + 16 * k) (by omega)
    have HPA := Lib.hid PA
    have hW := h.alloc (.cells #[.int .i64 0, .int .u64 0] 64)
    have bW := (Below.refl w.heap.size w).alloc (Nat.le_refl _) (.cells #[.int .i64 0, .int .u64 0] 64)
    have ecom : 16 + 16 * k = 16 + 16 * k := rfl
    by_cases hu : b.getD (16 + 16 * k) 0 = 1
    · have hub : usedB b (k : Int) = true := by simp only [usedB, he, Int.toNat_natCast, ecom, hu]; decide
      have e3 : slotK b (k : Int) = (keyN b k : Int) := if_pos hub
      have e4 : slotV b (k : Int) = (valN b k : Int) := if_pos hub
      rw [hub, e3, e4]
      rw [hu] at hk
      have hk' : (w.alloc (.cells #[.int .i64 0, .int .u64 0] 64)).cell? ⟨g, o + (16 + 16 * k), none⟩ = some (.int .u8 1) := (bW.cell (p := ⟨g, o + (16 + 16 * k), none⟩) (World.block_lt_of_cell? _ _ hk)).trans hk
      have g1 : getV 4 (b.drop (20 + 16 * k)) = keyN b k := by unfold getV keyN; rw [if_neg (by rw [List.length_drop]; omega)]
      have g2 : getV 8 (b.drop (24 + 16 * k)) = valN b k := by unfold getV valN; rw [if_neg (by rw [List.length_drop]; omega)]
      have x1 := getV_lt 4 (b.drop (20 + 16 * k))
      rw [g1] at x1
      have y1 : keyN b k < 4294967296 := by simpa using x1
      obtain ⟨K, hK⟩ : ∃ K, keyN b k = K := ⟨_, rfl⟩
      obtain ⟨V, hV⟩ : ∃ V, valN b k = V := ⟨_, rfl⟩
      rw [hK] at g1 y1 ⊢
      rw [hV] at g2 ⊢
      have G1 := Lib.hid g1
      have G2 := Lib.hid g2
      have hlen : 40 + 16 * k ≤ b.length := by omega
      clear hc hk hu hub e3 e4 g1 g2 x1 he e2 PA hS p2 ecom hK hV
      go_enter Try.func29, Try.ntmps29
      go_wp2_with fail
      refine (HPA.out _).mono ?_
      rintro e w1 ⟨rfl, rfl⟩
      go_wp2_with ((with_reducible refine at_slice ?_); refine wpList_sliceAny (L := 20 + 16 * k) (H := b.length) (M := c) rfl _ _ _ _ rfl tU8 rfl rfl rfl rfl (.at _ _ _ _ (by omega)) (.no _) (.no _) (.inl rfl) (by omega) (by omega) (by omega) ?_)
      refine (refGet_any (hW.drop (20 + 16 * k) (by omega)) (by simp) 4 (by omega) rfl).mono ?_
      rw [G1.out]
      rintro e w2 ⟨rfl, rfl⟩
      go_wp2_with ((with_reducible refine at_slice ?_); refine wpList_sliceAny (L := 24 + 16 * k) (H := b.length) (M := c) rfl _ _ _ _ rfl tU8 rfl rfl rfl rfl (.at _ _ _ _ (by omega)) (.no _) (.no _) (.inl rfl) (by omega) (by omega) (by omega) ?_)
      refine (refGet_any (hW.drop (24 + 16 * k) (by omega)) (by simp) 8 (by omega) rfl).mono ?_
      rw [G2.out]
      rintro e w2 ⟨rfl, rfl⟩
      go_wp2_with fail
      exact bodyPost_ret (v := .tuple #[.agg #[.int .i64 K, .int .u64 V], .bool true, .int .i64 0]) (by simp [results, Try.results29, go_sem]) rfl ⟨rfl, (Below.refl _ _).alloc (Nat.le_refl _) _⟩
    · have hub : usedB b (k : Int) = false := by
        simp only [usedB, Int.toNat_natCast, ecom]
        rw [Bool.and_eq_false_iff]
        exact .inr (by simpa using hu)
      have e3 : slotK b (k : Int) = 0 := if_neg (by rw [hub]; decide)
      have e4 : slotV b (k : Int) = 0 := if_neg (by rw [hub]; decide)
      rw [hub, e3, e4]
      obtain ⟨u, huu⟩ : ∃ u, b.getD (16 + 16 * k) 0 = u := ⟨_, rfl⟩
      rw [huu] at hk hu
      have hne : ((u.toNat : Int) != 1) = true := by
        rw [bne_iff_ne]
        intro hh
        exact hu (UInt8.toNat_inj.1 (by show u.toNat = 1; omega))
      have hk' : (w.alloc (.cells #[.int .i64 0, .int .u64 0] 64)).cell? ⟨g, o + (16 + 16 * k), none⟩ = some (.int .u8 (u.toNat : Int)) := (bW.cell (p := ⟨g, o + (16 + 16 * k), none⟩) (World.block_lt_of_cell? _ _ hk)).trans hk
      have hlen : 40 + 16 * k ≤ b.length := by omega
      clear hc hk hu hub e3 e4 he e2 PA hS p2 ecom huu
      go_enter Try.func29, Try.ntmps29
      go_wp2_with fail
      refine (HPA.out _).mono ?_
      rintro e w1 ⟨rfl, rfl⟩
      go_wp2_with fail
      exact bodyPost_ret (v := .tuple #[.agg #[.int .i64 0, .int .u64 0], .bool false, .int .i64 0]) (by simp [results, Try.results29, go_sem]) rfl ⟨rfl, (Below.refl _ _).alloc (Nat.le_refl _) _⟩
  · have e2 : placeV b i = 0 := if_neg he
    have hub : usedB b i = false := by
      simp only [usedB]
      rw [Bool.and_eq_false_iff]
      exact .inl (by simpa using he)
    have e3 : slotK b i = 0 := if_neg (by rw [hub]; decide)
    have e4 : slotV b i = 0 := if_neg (by rw [hub]; decide)
    rw [hub, e3, e4]
    have hne : (placeE b i != 0) = true := by rw [bne_iff_ne]; exact he
    obtain ⟨E, hE⟩ : ∃ E, placeE b i = E := ⟨_, rfl⟩
    rw [hE] at PA hne ⊢
    have HPA := Lib.hid PA
    clear PA e2 e3 e4 hub he hE
    go_enter Try.func29, Try.ntmps29
    go_wp2_with fail
    refine (HPA.out _).mono ?_
    rintro e w1 ⟨rfl, rfl⟩
    go_wp2_with fail
    exact bodyPost_ret (v := .tuple #[.agg #[.int .i64 0, .int .u64 0], .bool false, .int .i64 E]) (by simp [results, Try.results29, go_sem]) rfl ⟨rfl, (Below.refl _ _).alloc (Nat.le_refl _) _⟩

theorem refFree_any {w : World} {A : Option Addr} {n c : Nat} {b : List UInt8} (h : Rda w A c b) (hn : n = b.length) (hl : b.length ≤ 140737488351232) (i : Int) :
    Calls Try.prog 38 #[.slice A n c, .int .i64 i] w fun e w' => ∃ A' c', e = .returned (.tuple #[.slice A' (freeV b i).length c', .int .i64 (placeE b i)]) ∧ New 5 w w' A' c' (freeV b i) := by
  subst hn
  have PA := fun W => refPlace_any A b.length c b rfl hl i W
  by_cases he : placeE b i = 0
  · obtain ⟨p1, p2, p3, p4⟩ := place_ok he
    have e2 : placeV b i = 16 + i * 16 := if_pos he
    have e3 : freeV b i = layL b (16 + 16 * i.toNat) (zeroL 16) := if_pos he
    rw [he] at PA
    rw [he, e3]
    obtain ⟨k, rfl⟩ := Int.eq_ofNat_of_zero_le p1
    rw [Int.toNat_natCast] at p3 ⊢
    have hz := zeroL_length 16
    have hll := layL_length b (16 + 16 * k) (zeroL 16) (by rw [hz]; omega)
    have HLL := Lib.hid hll
    have HPA := Lib.hid PA
    have hfit : 16 + 16 * k + 16 ≤ b.length := by omega
    have HZ := Lib.hid hz
    clear he e2 e3 PA p2 hll hz p3 p4
    go_enter Try.func38, Try.ntmps38
    go_wp2_with fail
    refine (HPA.out _).mono ?_
    rintro e w1 ⟨rfl, rfl⟩
    go_wp2_with (with_reducible refine wpList_make8 rfl _ _ rfl tU8 16 rfl rfl rfl rfl (by omega) ?_)
    intro w2 hW hb
    have hr := hW.rda (by rw [HZ.out]; omega)
    rw [HZ.out] at hr
    go_wp2_with fail
    have hx : (16 : Int) + (16 : Int) * (k : Int) = ((16 + 16 * k : Nat) : Int) := by omega
    rw [hx]
    refine (refLaid_any (h.below hb) hr rfl HZ.out.symm hl (16 + 16 * k) (by rw [HZ.out]; omega) (by omega)).mono ?_
    rintro e w3 ⟨A3, c3, rfl, hN⟩
    clear hx
    go_wp2_with fail
    go_ret2
    exact ⟨A3, c3, by rw [HLL.out]; rfl, ⟨hN.own.mono hb.size, below_then hb hN.below⟩⟩
  · have e2 : placeV b i = 0 := if_neg he
    have e3 : freeV b i = [] := if_neg he
    rw [e3]
    have hne : (placeE b i != 0) = true := by rw [bne_iff_ne]; exact he
    obtain ⟨E, hE⟩ : ∃ E, placeE b i = E := ⟨_, rfl⟩
    rw [hE] at PA hne ⊢
    have HPA := Lib.hid PA
    clear PA e2 e3 he hE
    go_enter Try.func38, Try.ntmps38
    go_wp2_with fail
    refine (HPA.out _).mono ?_
    rintro e w1 ⟨rfl, rfl⟩
    go_wp2_with fail
    go_ret2
    exact ⟨none, 0, rfl, ⟨Own8.nilRow _ _ _, Below.refl _ _⟩⟩

attribute [local go_sem ↓] Go.wp_at_zero Go.wp_at_succ
set_option maxHeartbeats 800000 in
theorem refFill_any {w : World} {A : Option Addr} {n c : Nat} {b : List UInt8} (h : Rda w A c b) (hn : n = b.length) (hl : b.length ≤ 140737488351232) (i key val : Int) (hv0 : 0 ≤ val) (hv1 : val < 18446744073709551616) :
    Calls Try.prog 35 #[.slice A n c, .int .i64 i, .agg #[.int .i64 key, .int .u64 val]] w fun e w' => ∃ A' c', e = .returned (.tuple #[.slice A' (fillV b i key val).length c', .int .i64 (fillE b i key)]) ∧ New 5 w w' A' c' (fillV b i key val) := by
  subst hn
  have HV : Lt64 val := ⟨hv0, hv1⟩
  clear hv1
  have PA := fun W => refPlace_any A b.length c b rfl hl i W
  have bW := (Below.refl w.heap.size w).alloc (Nat.le_refl _) (.cells #[.int .i64 key, .int .u64 val] 64)
  by_cases he : placeE b i = 0
  · obtain ⟨p1, p2, p3, p4⟩ := place_ok he
    have e2 : placeV b i = 16 + i * 16 := if_pos he
    rw [he] at PA
    have HPA := Lib.hid PA
    obtain ⟨k, rfl⟩ := Int.eq_ofNat_of_zero_le p1
    rw [Int.toNat_natCast] at p3
    by_cases hk : key < 0 ∨ 4294967295 < key
    · have e3 : fillE b (k : Int) key = 50 := by unfold fillE; rw [if_neg (by rw [he]; decide), if_pos hk]
      have e4 : fillV b (k : Int) key val = [] := if_neg (by rw [e3]; decide)
      rw [e3, e4]
      clear he e2 PA p2 e3 e4
      by_cases hlo : key < 0
      · clear hk
        go_enter Try.func35, Try.ntmps35
        go_wp2_with fail
        refine (HPA.out _).mono ?_
        rintro e w1 ⟨rfl, rfl⟩
        go_wp2_with fail
        go_ret2
        exact ⟨none, 0, rfl, ⟨Own8.nilRow _ _ _, bW⟩⟩
      · have hhi : 4294967295 < key := by omega
        clear hk
        go_enter Try.func35, Try.ntmps35
        go_wp2_with fail
        refine (HPA.out _).mono ?_
        rintro e w1 ⟨rfl, rfl⟩
        go_wp2_with fail
        go_ret2
        exact ⟨none, 0, rfl, ⟨Own8.nilRow _ _ _, bW⟩⟩
    · have e3 : fillE b (k : Int) key = 0 := by unfold fillE; rw [if_neg (by rw [he]; decide), if_neg hk]
      have e4 : fillV b (k : Int) key val = layL b (16 + 16 * k) (slotRow key.toNat val.toNat) := if_pos e3
      rw [e3, e4]
      have hk0 : 0 ≤ key := by omega
      have hk1 : key ≤ 4294967295 := by omega
      have hz := slotRow_length key.toNat val.toNat
      have hll := layL_length b (16 + 16 * k) (slotRow key.toNat val.toNat) (by rw [hz]; omega)
      have HLL := Lib.hid hll
      have hfit : 16 + 16 * k + 16 ≤ b.length := by omega
      have HZ := Lib.hid hz
      have hw := h.below bW
      generalize hWB : w.alloc (.cells #[.int .i64 key, .int .u64 val] 64) = wb at bW hw
      have c0 : wb.cell? ⟨w.heap.size, 0, none⟩ = some (.int .i64 key) := by rw [← hWB, World.cell?_alloc_at _ _ _ _ rfl]; rfl
      have c1 : wb.cell? ⟨w.heap.size, 1, none⟩ = some (.int .u64 val) := by rw [← hWB, World.cell?_alloc_at _ _ _ _ rfl]; rfl
      have C0 := Lib.hid c0
      have C1 := Lib.hid c1
      have HWB := Lib.hid hWB
      clear he e2 PA p2 e3 e4 hll hz p3 p4 hk c0 c1 hWB
      go_enter Try.func35, Try.ntmps35
      go_wp2_with fail
      refine (HPA.out _).mono ?_
      rintro e w1 ⟨rfl, rfl⟩
      go_wp2_with fail
      rw [HWB.out]
      have c0 := C0.out
      have c1 := C1.out
      have hwr : IntKind.u32.wrap key = key := by rw [IntKind.wrap_u32]; omega
      have hws : wb.heap.size = w.heap.size + 1 := by rw [← HWB.out]; simp
      have hbw1 : Below wb.heap.size wb (wb.alloc (.cells (B8 [1, 0, 0, 0]).toArray 5)) := (Below.refl _ _).alloc (Nat.le_refl _) _
      have hrl : Rda (wb.alloc (.cells (B8 [1, 0, 0, 0]).toArray 5)) (some ⟨w.heap.size + 1, 0, none⟩) 4 [1, 0, 0, 0] := by rw [← hws]; exact Rda_lit wb 5 [1, 0, 0, 0] 4 rfl (by simp) rfl
      have k0 := Lib.hid (World.block_lt_of_cell? _ _ c0)
      have k1 := Lib.hid (World.block_lt_of_cell? _ _ c1)
      refine (refPut_any (l := [1, 0, 0, 0]) (n := 4) hrl rfl (by simp) key hk0 (by omega) 4 (by omega) rfl).mono ?_
      rintro e w2 ⟨A2, c2, rfl, hN2⟩
      have hb2 := below_then hbw1 hN2.below
      have hr2 := hN2.rda
      have hs2 := (hb2.cell (p := ⟨w.heap.size, 1, none⟩) k1.out).trans c1
      have HB2 := Lib.hid hb2
      clear hb2 hN2
      go_wp2_with fail
      refine (refPut_any hr2 (by simp) (by simp) val HV.lo HV.hi 8 (by omega) rfl).mono ?_
      rintro e w3 ⟨A3, c3, rfl, hN3⟩
      have hb3 := below_then HB2.out hN3.below
      have hr3 := hN3.rda
      go_wp2_with fail
      have hx : (16 : Int) + (16 : Int) * (k : Int) = ((16 + 16 * k : Nat) : Int) := by omega
      have hrow : Rda w3 A3 c3 (slotRow key.toNat val.toNat) := hr3
      rw [hx]
      refine (refLaid_any (h.below (below_then bW hb3)) hrow rfl (by rw [HZ.out]) hl (16 + 16 * k) (by rw [HZ.out]; omega) (by omega)).mono ?_
      rintro e w4 ⟨A4, c4, rfl, hN⟩
      clear hx
      go_wp2_with fail
      go_ret2
      exact ⟨A4, c4, by rw [HLL.out]; rfl, ⟨hN.own.mono (below_then bW hb3).size, below_then (below_then bW hb3) hN.below⟩⟩
  · have e2 : placeV b i = 0 := if_neg he
    have e5 : fillE b i key = placeE b i := if_pos he
    have e3 : fillV b i key val = [] := if_neg (by rw [e5]; exact he)
    rw [e3, e5]
    have hne : (placeE b i != 0) = true := by rw [bne_iff_ne]; exact he
    obtain ⟨E, hE⟩ : ∃ E, placeE b i = E := ⟨_, rfl⟩
    rw [hE] at PA hne ⊢
    have HPA := Lib.hid PA
    clear PA e2 e3 he hE e5
    go_enter Try.func35, Try.ntmps35
    go_wp2_with fail
    refine (HPA.out _).mono ?_
    rintro e w1 ⟨rfl, rfl⟩
    go_wp2_with fail
    go_ret2
    exact ⟨none, 0, rfl, ⟨Own8.nilRow _ _ _, bW⟩⟩
end Go.Proofs.Ytgcpmdodhnmneab
