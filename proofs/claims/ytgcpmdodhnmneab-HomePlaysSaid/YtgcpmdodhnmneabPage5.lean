import Derived.Test.YtgcpmdodhnmneabPage4
import Derived.Test.YtgcpmdodhnmneabPage3
/- The contracts of package page, on: Fill. -/
set_option linter.unusedVariables false
set_option linter.unusedSimpArgs false
namespace Go.Proofs.Ytgcpmdodhnmneab
open Go.RowKit Go.Tm
set_option maxHeartbeats 400000
set_option maxRecDepth 100000
attribute [local go_sem ↓] Go.wp_at_zero Go.wp_at_succ

set_option maxHeartbeats 800000 in
theorem fill_any {w : World} {A : Option Addr} {n c : Nat} {b : List UInt8} (h : Rda w A c b) (hn : n = b.length) (hl : b.length ≤ 140737488351232) (i key val : Int) (hv0 : 0 ≤ val) (hv1 : val < 18446744073709551616) :
    Calls Try.prog 32 #[.slice A n c, .int .i64 i, .agg #[.int .i64 key, .int .u64 val]] w fun e w' => ∃ A' c', e = .returned (.tuple #[.slice A' (fillV b i key val).length c', .int .i64 (fillE b i key)]) ∧ New 5 w w' A' c' (fillV b i key val) := by
  subst hn
  have HV : Lt64 val := ⟨hv0, hv1⟩
  clear hv1
  have PA := fun W => at_any A b.length c b rfl hl i W
  have bW := (Below.refl w.heap.size w).alloc (Nat.le_refl _) (.cells #[.int .i64 key, .int .u64 val] 64)
  by_cases he : placeE b i = 0
  · obtain ⟨p1, p2, p3, p4⟩ := place_ok he
    have e2 : placeV b i = 16 + i * 16 := if_pos he
    rw [he, e2] at PA
    have HPA := Lib.hid PA
    obtain ⟨k, rfl⟩ := Int.eq_ofNat_of_zero_le p1
    rw [Int.toNat_natCast] at p3
    by_cases hk : key < 0 ∨ 4294967295 < key
    · have e3 : fillE b (k : Int) key = 50 := by unfold fillE; rw [if_neg (by rw [he]; decide), if_pos hk]
      have e4 : fillV b (k : Int) key val = [] := if_neg (by rw [e3]; decide)
      rw [e3, e4]
      clear he e2 PA p2 e3 e4
      by_cases hlo : key < 0
      · clear hk
        go_enter Try.func32, Try.ntmps32
        go_wp2_with fail
        refine (HPA.out _).mono ?_
        rintro e w1 ⟨rfl, rfl⟩
        go_wp2_with fail
        go_ret2
        exact ⟨none, 0, rfl, ⟨Own8.nilRow _ _ _, bW⟩⟩
      · have hhi : 4294967295 < key := by omega
        clear hk
        go_enter Try.func32, Try.ntmps32
        go_wp2_with fail
        refine (HPA.out _).mono ?_
        rintro e w1 ⟨rfl, rfl⟩
        go_wp2_with fail
        go_ret2
        exact ⟨none, 0, rfl, ⟨Own8.nilRow _ _ _, bW⟩⟩
    · have e3 : fillE b (k : Int) key = 0 := by unfold fillE; rw [if_neg (by rw [he]; decide), if_neg hk]
      have e4 : fillV b (k : Int) key val = layL b (16 + 16 * k) (slotRow key.toNat val.toNat) := if_pos e3
      rw [e3, e4]
      have hk0 : 0 ≤ key := by omega
      have hk1 : key ≤ 4294967295 := by omega
      have hz := slotRow_length key.toNat val.toNat
      have hll := layL_length b (16 + 16 * k) (slotRow key.toNat val.toNat) (by rw [hz]; omega)
      have HLL := Lib.hid hll
      have hfit : 16 + 16 * k + 16 ≤ b.length := by omega
      have HZ := Lib.hid hz
      have hw := h.below bW
      generalize hWB : w.alloc (.cells #[.int .i64 key, .int .u64 val] 64) = wb at bW hw
      have c0 : wb.cell? ⟨w.heap.size, 0, none⟩ = some (.int .i64 key) := by rw [← hWB, World.cell?_alloc_at _ _ _ _ rfl]; rfl
      have c1 : wb.cell? ⟨w.heap.size, 1, none⟩ = some (.int .u64 val) := by rw [← hWB, World.cell?_alloc_at _ _ _ _ rfl]; rfl
      have C0 := Lib.hid c0
      have C1 := Lib.hid c1
      have HWB := Lib.hid hWB
      clear he e2 PA p2 e3 e4 hll hz p3 p4 hk c0 c1 hWB
      go_enter Try.func32, Try.ntmps32
      go_wp2_with fail
      refine (HPA.out _).mono ?_
      rintro e w1 ⟨rfl, rfl⟩
      go_wp2_with fail
      rw [HWB.out]
      have c0 := C0.out
      have c1 := C1.out
      have hwr : IntKind.u32.wrap key = key := by rw [IntKind.wrap_u32]; omega
      have hbw1 : Below wb.heap.size wb (wb.alloc (.cells (B8 [1, 0, 0, 0]).toArray 5)).drew := ((Below.refl _ _).alloc (Nat.le_refl _) _).drew
      have hrl : Rda (wb.alloc (.cells (B8 [1, 0, 0, 0]).toArray 5)).drew (some ⟨wb.heap.size, 0, none⟩) 4 [1, 0, 0, 0] := (Rda_lit wb 5 [1, 0, 0, 0] 4 rfl (by simp) rfl).drew
      have k0 := Lib.hid (World.block_lt_of_cell? _ _ c0)
      have k1 := Lib.hid (World.block_lt_of_cell? _ _ c1)
      go_region_held3 (fun w' => w'.cell? ⟨w.heap.size, 0, none⟩ = some (.int .i64 key) ∧ w'.cell? ⟨w.heap.size, 1, none⟩ = some (.int .u64 val)) (first | go_keep | exact ⟨hs1, hs2⟩ | exact ⟨ht1, ht2⟩)
        (first
          | (go_at_call 49; refine (put4_any (l := [1, 0, 0, 0]) (n := 4) hrl rfl (by simp) key hk0 (by omega)).mono ?_; rintro e w2 ⟨A2, c2, rfl, hN2⟩; have hb2 := below_then hbw1 hN2.below; have hr2 := hN2.rda; have hs1 := (hb2.cell (p := ⟨w.heap.size, 0, none⟩) k0.out).trans c0; have hs2 := (hb2.cell (p := ⟨w.heap.size, 1, none⟩) k1.out).trans c1)
          | (go_at_call 48; refine (put8_any hr2 (by simp) (by simp) val HV.lo HV.hi).mono ?_; rintro e w3 ⟨A3, c3, rfl, hN3⟩; have hb3 := below_then hb2 hN3.below; have hr3 := hN3.rda; have ht1 := (hb3.cell (p := ⟨w.heap.size, 0, none⟩) k0.out).trans c0; have ht2 := (hb3.cell (p := ⟨w.heap.size, 1, none⟩) k1.out).trans c1))
      have hx : (16 : Int) + (k : Int) * 16 = ((16 + 16 * k : Nat) : Int) := by omega
      have hrow : Rda w3 A3 c3 (slotRow key.toNat val.toNat) := hr3
      go_wp2_with fail
      rw [hx]
      refine (lay_any (h.below (below_then bW hb3)) hrow rfl (by rw [HZ.out]) hl (16 + 16 * k) (by rw [HZ.out]; omega)).mono ?_
      rintro e w4 ⟨A4, c4, rfl, hN⟩
      clear hx
      go_wp2_with fail
      go_ret2
      exact ⟨A4, c4, by rw [HLL.out]; rfl, ⟨hN.own.mono (below_then bW hb3).size, below_then (below_then bW hb3) hN.below⟩⟩
  · have e2 : placeV b i = 0 := if_neg he
    have e5 : fillE b i key = placeE b i := if_pos he
    have e3 : fillV b i key val = [] := if_neg (by rw [e5]; exact he)
    rw [e2] at PA
    rw [e3, e5]
    have hne : (placeE b i != 0) = true := by rw [bne_iff_ne]; exact he
    obtain ⟨E, hE⟩ : ∃ E, placeE b i = E := ⟨_, rfl⟩
    rw [hE] at PA hne ⊢
    have HPA := Lib.hid PA
    clear PA e2 e3 he hE e5
    go_enter Try.func32, Try.ntmps32
    go_wp2_with fail
    refine (HPA.out _).mono ?_
    rintro e w1 ⟨rfl, rfl⟩
    go_wp2_with fail
    go_ret2
    exact ⟨none, 0, rfl, ⟨Own8.nilRow _ _ _, bW⟩⟩
end Go.Proofs.Ytgcpmdodhnmneab
