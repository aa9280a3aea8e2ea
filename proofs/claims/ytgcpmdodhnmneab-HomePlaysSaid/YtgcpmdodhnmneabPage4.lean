import Derived.Test.YtgcpmdodhnmneabPage2
import Derived.Deep.RegionHeld3
import Derived.Deep.DrawnRows
/- The contracts of package page, on: at, Slot, Fill, Free. -/
set_option linter.unusedVariables false
set_option linter.unusedSimpArgs false
namespace Go.Proofs.Ytgcpmdodhnmneab
open Go.RowKit Go.Tm
set_option maxHeartbeats 400000
set_option maxRecDepth 100000

def placeV (b : List UInt8) (i : Int) : Int := if placeE b i = 0 then 16 + i * 16 else 0

theorem at_any (A : Option Addr) (n c : Nat) (b : List UInt8) (hn : n = b.length) (hl : b.length ≤ 140737488351232) (i : Int) (w : World) :
    Calls Try.prog 45 #[.slice A n c, .int .i64 i] w fun e w' => e = .returned (.tuple #[.int .i64 (placeV b i), .int .i64 (placeE b i)]) ∧ w = w' := by
  subst hn
  have PS := slots_any A b.length c (by omega) w
  by_cases hs : 0 < slotsP b.length
  · have h8 := slotsP_le b.length
    by_cases hi : i < 0 ∨ (slotsP b.length : Int) ≤ i
    · have e1 : placeE b i = 41 := by unfold placeE; rw [if_neg (by omega), if_pos hi]
      have e2 : placeV b i = 0 := if_neg (by rw [e1]; decide)
      rw [e1, e2]
      obtain ⟨S, hS⟩ : ∃ S, slotsP b.length = S := ⟨_, rfl⟩
      rw [hS] at PS hs h8 hi
      have hne : ((S : Int) == 0) = false := by rw [beq_eq_false_iff_ne]; omega
      have HPS := Lib.hid PS
      clear PS e1 e2 hS
      by_cases hlo : i < 0
      · clear hi
        go_enter Try.func45, Try.ntmps45
        go_wp2_with fail
        refine HPS.out.mono ?_
        rintro e w3 ⟨rfl, rfl⟩
        go_wp2_with fail
        go_ret2
        exact ⟨rfl, rfl⟩
      · have hhi : (S : Int) ≤ i := by omega
        clear hi
        go_enter Try.func45, Try.ntmps45
        go_wp2_with fail
        refine HPS.out.mono ?_
        rintro e w3 ⟨rfl, rfl⟩
        go_wp2_with fail
        go_ret2
        exact ⟨rfl, rfl⟩
    · have e1 : placeE b i = 0 := by unfold placeE; rw [if_neg (by omega), if_neg hi]
      have e2 : placeV b i = 16 + i * 16 := if_pos e1
      rw [e1, e2]
      obtain ⟨S, hS⟩ : ∃ S, slotsP b.length = S := ⟨_, rfl⟩
      rw [hS] at PS hs h8 hi
      have hne : ((S : Int) == 0) = false := by rw [beq_eq_false_iff_ne]; omega
      have h0 : 0 ≤ i := by omega
      have h1 : i < (S : Int) := by omega
      have HPS := Lib.hid PS
      clear PS e1 e2 hS hi
      go_enter Try.func45, Try.ntmps45
      go_wp2_with fail
      refine HPS.out.mono ?_
      rintro e w3 ⟨rfl, rfl⟩
      go_wp2_with fail
      go_ret2
      exact ⟨rfl, rfl⟩
  · have h0 : slotsP b.length = 0 := by omega
    have e1 : placeE b i = 40 := if_pos h0
    have e2 : placeV b i = 0 := if_neg (by rw [e1]; decide)
    rw [e1, e2]
    rw [h0] at PS
    have HPS := Lib.hid PS
    clear PS e1 e2 h0 hs
    go_enter Try.func45, Try.ntmps45
    go_wp2_with fail
    refine HPS.out.mono ?_
    rintro e w3 ⟨rfl, rfl⟩
    go_wp2_with fail
    go_ret2
    exact ⟨rfl, rfl⟩

theorem place_ok {b : List UInt8} {i : Int} (h : placeE b i = 0) : 0 ≤ i ∧ b.length = 24 + 16 * slotsP b.length ∧ i.toNat < slotsP b.length ∧ slotsP b.length ≤ 8 := by
  unfold placeE at h
  split at h
  · simp at h
  · rename_i hs
    split at h
    · simp at h
    · have := slotsP_len (n := b.length) (by omega)
      have := slotsP_le b.length
      omega

theorem slot_any {w : World} {A : Option Addr} {n c : Nat} {b : List UInt8} (h : Rda w A c b) (hn : n = b.length) (hl : b.length ≤ 140737488351232) (i : Int) :
    Calls Try.prog 30 #[.slice A n c, .int .i64 i] w fun e w' => e = .returned (.tuple #[.agg #[.int .i64 (slotK b i), .int .u64 (slotV b i)], .bool (usedB b i), .int .i64 (placeE b i)]) ∧ Below w.heap.size w w' := by
  subst hn
  have hcap := h.cap
  have PA := fun W => at_any A b.length c b rfl hl i W
  by_cases he : placeE b i = 0
  · obtain ⟨p1, p2, p3, p4⟩ := place_ok he
    have e2 : placeV b i = 16 + i * 16 := if_pos he
    rw [he, e2] at PA
    rw [he]
    obtain ⟨k, rfl⟩ := Int.eq_ofNat_of_zero_le p1
    rw [Int.toNat_natCast] at p3
    obtain ⟨S, hS⟩ : ∃ S, slotsP b.length = S := ⟨_, rfl⟩
    rw [hS] at p2 p3 p4
    obtain ⟨g, o, rfl, hc⟩ := h.cells (by omega)
    have hk := hc (16 + k * 16) (by omega)
    have HPA := Lib.hid PA
    have hW := h.alloc (.cells #[.int .i64 0, .int .u64 0] 64)
    have bW := (Below.refl w.heap.size w).alloc (Nat.le_refl _) (.cells #[.int .i64 0, .int .u64 0] 64)
    have ecom : 16 + 16 * k = 16 + k * 16 := by omega
    by_cases hu : b.getD (16 + k * 16) 0 = 1
    · have hub : usedB b (k : Int) = true := by simp only [usedB, he, Int.toNat_natCast, ecom, hu]; decide
      have e3 : slotK b (k : Int) = (keyN b k : Int) := if_pos hub
      have e4 : slotV b (k : Int) = (valN b k : Int) := if_pos hub
      rw [hub, e3, e4]
      rw [hu] at hk
      have hk' : (w.alloc (.cells #[.int .i64 0, .int .u64 0] 64)).cell? ⟨g, o + (16 + k * 16), none⟩ = some (.int .u8 1) := (bW.cell (p := ⟨g, o + (16 + k * 16), none⟩) (World.block_lt_of_cell? _ _ hk)).trans hk
      have g1 : getV 4 (b.drop (16 + k * 16 + 4)) = keyN b k := by rw [show 16 + k * 16 + 4 = 20 + 16 * k by omega]; unfold getV keyN; rw [if_neg (by rw [List.length_drop]; omega)]
      have g2 : getV 8 (b.drop (16 + k * 16 + 8)) = valN b k := by rw [show 16 + k * 16 + 8 = 24 + 16 * k by omega]; unfold getV valN; rw [if_neg (by rw [List.length_drop]; omega)]
      have x1 := getV_lt 4 (b.drop (16 + k * 16 + 4))
      rw [g1] at x1
      have y1 : keyN b k < 4294967296 := by simpa using x1
      obtain ⟨K, hK⟩ : ∃ K, keyN b k = K := ⟨_, rfl⟩
      obtain ⟨V, hV⟩ : ∃ V, valN b k = V := ⟨_, rfl⟩
      rw [hK] at g1 y1 ⊢
      rw [hV] at g2 ⊢
      have G1 := Lib.hid g1
      have G2 := Lib.hid g2
      have hlen : 40 + 16 * k ≤ b.length := by omega
      clear hc hk hu hub e3 e4 g1 g2 x1 he e2 PA hS p2 ecom hK hV
      go_enter Try.func30, Try.ntmps30
      go_wp2_with fail
      refine (HPA.out _).mono ?_
      rintro e w1 ⟨rfl, rfl⟩
      go_wp2_with ((with_reducible refine at_slice ?_); refine wpList_sliceAny (L := 16 + k * 16 + 4) (H := b.length) (M := c) rfl _ _ _ _ rfl tU8 rfl rfl rfl rfl (.at _ _ _ _ (by omega)) (.no _) (.no _) (.inl rfl) (by omega) (by omega) (by omega) ?_)
      refine (get4_any (hW.drop (16 + k * 16 + 4) (by omega)) (by simp)).mono ?_
      rw [G1.out]
      rintro e w2 ⟨rfl, rfl⟩
      go_wp2_with ((with_reducible refine at_slice ?_); refine wpList_sliceAny (L := 16 + k * 16 + 8) (H := b.length) (M := c) rfl _ _ _ _ rfl tU8 rfl rfl rfl rfl (.at _ _ _ _ (by omega)) (.no _) (.no _) (.inl rfl) (by omega) (by omega) (by omega) ?_)
      refine (get8_any (hW.drop (16 + k * 16 + 8) (by omega)) (by simp)).mono ?_
      rw [G2.out]
      rintro e w2 ⟨rfl, rfl⟩
      go_wp2_with fail
      exact bodyPost_ret (v := .tuple #[.agg #[.int .i64 K, .int .u64 V], .bool true, .int .i64 0]) (by simp [results, Try.results30, go_sem]) rfl ⟨rfl, (Below.refl _ _).alloc (Nat.le_refl _) _⟩
    · have hub : usedB b (k : Int) = false := by
        simp only [usedB, Int.toNat_natCast, ecom]
        rw [Bool.and_eq_false_iff]
        exact .inr (by simpa using hu)
      have e3 : slotK b (k : Int) = 0 := if_neg (by rw [hub]; decide)
      have e4 : slotV b (k : Int) = 0 := if_neg (by rw [hub]; decide)
      rw [hub, e3, e4]
      obtain ⟨u, huu⟩ : ∃ u, b.getD (16 + k * 16) 0 = u := ⟨_, rfl⟩
      rw [huu] at hk hu
      have hne : ((u.toNat : Int) != 1) = true := by
        rw [bne_iff_ne]
        intro hh
        exact hu (UInt8.toNat_inj.1 (by show u.toNat = 1; omega))
      have hk' : (w.alloc (.cells #[.int .i64 0, .int .u64 0] 64)).cell? ⟨g, o + (16 + k * 16), none⟩ = some (.int .u8 (u.toNat : Int)) := (bW.cell (p := ⟨g, o + (16 + k * 16), none⟩) (World.block_lt_of_cell? _ _ hk)).trans hk
      have hlen : 40 + 16 * k ≤ b.length := by omega
      clear hc hk hu hub e3 e4 he e2 PA hS p2 ecom huu
      go_enter Try.func30, Try.ntmps30
      go_wp2_with fail
      refine (HPA.out _).mono ?_
      rintro e w1 ⟨rfl, rfl⟩
      go_wp2_with fail
      exact bodyPost_ret (v := .tuple #[.agg #[.int .i64 0, .int .u64 0], .bool false, .int .i64 0]) (by simp [results, Try.results30, go_sem]) rfl ⟨rfl, (Below.refl _ _).alloc (Nat.le_refl _) _⟩
  · have e2 : placeV b i = 0 := if_neg he
    have hub : usedB b i = false := by
      simp only [usedB]
      rw [Bool.and_eq_false_iff]
      exact .inl (by simpa using he)
    have e3 : slotK b i = 0 := if_neg (by rw [hub]; decide)
    have e4 : slotV b i = 0 := if_neg (by rw [hub]; decide)
    rw [hub, e3, e4]
    rw [e2] at PA
    have hne : (placeE b i != 0) = true := by rw [bne_iff_ne]; exact he
    obtain ⟨E, hE⟩ : ∃ E, placeE b i = E := ⟨_, rfl⟩
    rw [hE] at PA hne ⊢
    have HPA := Lib.hid PA
    clear PA e2 e3 e4 hub he hE
    go_enter Try.func30, Try.ntmps30
    go_wp2_with fail
    refine (HPA.out _).mono ?_
    rintro e w1 ⟨rfl, rfl⟩
    go_wp2_with fail
    exact bodyPost_ret (v := .tuple #[.agg #[.int .i64 0, .int .u64 0], .bool false, .int .i64 E]) (by simp [results, Try.results30, go_sem]) rfl ⟨rfl, (Below.refl _ _).alloc (Nat.le_refl _) _⟩

theorem free_any {w : World} {A : Option Addr} {n c : Nat} {b : List UInt8} (h : Rda w A c b) (hn : n = b.length) (hl : b.length ≤ 140737488351232) (i : Int) :
    Calls Try.prog 37 #[.slice A n c, .int .i64 i] w fun e w' => ∃ A' c', e = .returned (.tuple #[.slice A' (freeV b i).length c', .int .i64 (placeE b i)]) ∧ New 5 w w' A' c' (freeV b i) := by
  subst hn
  have PA := fun W => at_any A b.length c b rfl hl i W
  by_cases he : placeE b i = 0
  · obtain ⟨p1, p2, p3, p4⟩ := place_ok he
    have e2 : placeV b i = 16 + i * 16 := if_pos he
    have e3 : freeV b i = layL b (16 + 16 * i.toNat) (zeroL 16) := if_pos he
    rw [he, e2] at PA
    rw [he, e3]
    obtain ⟨k, rfl⟩ := Int.eq_ofNat_of_zero_le p1
    rw [Int.toNat_natCast] at p3 ⊢
    have hz := zeroL_length 16
    have hll := layL_length b (16 + 16 * k) (zeroL 16) (by rw [hz]; omega)
    have HLL := Lib.hid hll
    have HPA := Lib.hid PA
    have hfit : 16 + 16 * k + 16 ≤ b.length := by omega
    have HZ := Lib.hid hz
    clear he e2 e3 PA p2 hll hz p3 p4
    go_enter Try.func37, Try.ntmps37
    go_wp2_with fail
    refine (HPA.out _).mono ?_
    rintro e w1 ⟨rfl, rfl⟩
    go_wp2_with (with_reducible refine wpList_make8 rfl _ _ rfl tU8 16 rfl rfl rfl rfl (by omega) ?_)
    intro w2 hW hb
    have hr := hW.rda (by rw [HZ.out]; omega)
    rw [HZ.out] at hr
    have hx : (16 : Int) + (k : Int) * 16 = ((16 + 16 * k : Nat) : Int) := by omega
    go_wp2_with fail
    rw [hx]
    refine (lay_any (h.below hb) hr rfl HZ.out.symm hl (16 + 16 * k) (by rw [HZ.out]; omega)).mono ?_
    rintro e w3 ⟨A3, c3, rfl, hN⟩
    clear hx
    go_wp2_with fail
    go_ret2
    exact ⟨A3, c3, by rw [HLL.out]; rfl, ⟨hN.own.mono hb.size, below_then hb hN.below⟩⟩
  · have e2 : placeV b i = 0 := if_neg he
    have e3 : freeV b i = [] := if_neg he
    rw [e2] at PA
    rw [e3]
    have hne : (placeE b i != 0) = true := by rw [bne_iff_ne]; exact he
    obtain ⟨E, hE⟩ : ∃ E, placeE b i = E := ⟨_, rfl⟩
    rw [hE] at PA hne ⊢
    have HPA := Lib.hid PA
    clear PA e2 e3 he hE
    go_enter Try.func37, Try.ntmps37
    go_wp2_with fail
    refine (HPA.out _).mono ?_
    rintro e w1 ⟨rfl, rfl⟩
    go_wp2_with fail
    go_ret2
    exact ⟨none, 0, rfl, ⟨Own8.nilRow _ _ _, Below.refl _ _⟩⟩
end Go.Proofs.Ytgcpmdodhnmneab
