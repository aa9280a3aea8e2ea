import Derived.Test.YtgelgjghmoddoaaDoorLaw7b
import Derived.Deep.RegionHeld3
import Derived.BigRegion
/- What is spoilt of a State's bytes. -/
set_option linter.unusedVariables false
set_option linter.unusedSimpArgs false
namespace Go.Proofs.YtgelgjghmoddoaaDoor
open Go.RowKit Go.Tm
set_option maxHeartbeats 400000
set_option maxRecDepth 100000

/-- Forty bytes of one's own, since a world. -/
structure FtyR (W2 wr : World) (g c3 : Nat) (l : List UInt8) : Prop where
  len : l.length = 40
  own : Own8 wr W2.heap.size 5 (.slice (some ⟨g, 0, none⟩) 40 c3) l
  below : Below W2.heap.size W2 wr
theorem FtyR.stored {W2 wr : World} {g c3 : Nat} {l : List UInt8} (h : FtyR W2 wr g c3 l) (hg : W2.heap.size ≤ g) (j : Nat) (x : UInt8) : FtyR W2 (wr.setCell ⟨g, j, none⟩ (.int .u8 (x.toNat : Int))) g c3 (l.set j x) := by
  obtain ⟨s1, s2⟩ := h.own.stored h.len.symm j x
  exact ⟨by rw [List.length_set]; exact h.len, s1, h.below.grown s2 h.below.size (fun q hq => by injection hq with hq; omega)⟩
theorem FtyR.cell {W2 wr : World} {g c3 : Nat} {l : List UInt8} (h : FtyR W2 wr g c3 l) (j : Nat) (hj : j < 40) : wr.cell? ⟨g, j, none⟩ = some (.int .u8 ((l.getD j 0).toNat : Int)) := h.own.cellAt h.len.symm j (by rw [h.len]; exact hj)
theorem FtyR.free {W2 wr : World} {g c3 : Nat} {l : List UInt8} (h : FtyR W2 wr g c3 l) (j : Nat) : wr.frozen? ⟨g, j, none⟩ = false := h.own.unfrozen h.len.symm j
theorem FtyR.then {W2 wr wt : World} {g c3 : Nat} {l : List UInt8} (h : FtyR W2 wr g c3 l) (hb : Below wr.heap.size wr wt) : FtyR W2 wt g c3 l := ⟨h.len, h.own.below hb, below_then h.below hb⟩

set_option maxHeartbeats 4000000 in
theorem spoilt_main {w : World} (t b c : Int) (at_ more : Int) (sm tn : Bool) {A : Option Addr} {c' : Nat} (hm : mayB t b c = true) (ha0 : -9223372036854775808 ≤ at_) (ha1 : at_ ≤ 9223372036854775807) :
    Calls Tryd.prog 14 #[.agg #[.int .i64 t, .int .i64 b, .int .i64 c], .agg #[.int .i64 at_, .int .i64 more, .bool sm, .bool tn, .slice A 0 c']] w fun e w' => ∃ A' c'' l, e = .returned (.slice A' l.length c'') ∧ l.length = 40 ∧ New 5 w w' A' c'' l := by
  have hb0 : Below w.heap.size w ((w.alloc (.cells #[.int .i64 t, .int .i64 b, .int .i64 c] 30)).alloc (.cells #[.int .i64 at_, .int .i64 more, .bool sm, .bool tn, .slice A 0 c'] 38)) := ((Below.refl _ _).alloc (Nat.le_refl _) _).alloc (by simp) _
  have hr2 : RowC ((w.alloc (.cells #[.int .i64 t, .int .i64 b, .int .i64 c] 30)).alloc (.cells #[.int .i64 at_, .int .i64 more, .bool sm, .bool tn, .slice A 0 c'] 38)) (w.heap.size + 1) 38 [.int .i64 at_, .int .i64 more, .bool sm, .bool tn, .slice A 0 c'] := by
    have := heap_alloc_new (w.alloc (.cells #[.int .i64 t, .int .i64 b, .int .i64 c] 30)) (.cells #[.int .i64 at_, .int .i64 more, .bool sm, .bool tn, .slice A 0 c'] 38)
    have hz : (w.alloc (.cells #[.int .i64 t, .int .i64 b, .int .i64 c] 30)).heap.size = w.heap.size + 1 := by simp
    rw [hz] at this
    exact this
  have hr1 : RowC ((w.alloc (.cells #[.int .i64 t, .int .i64 b, .int .i64 c] 30)).alloc (.cells #[.int .i64 at_, .int .i64 more, .bool sm, .bool tn, .slice A 0 c'] 38)) w.heap.size 30 [.int .i64 t, .int .i64 b, .int .i64 c] := (show RowC (w.alloc (.cells #[.int .i64 t, .int .i64 b, .int .i64 c] 30)) w.heap.size 30 [.int .i64 t, .int .i64 b, .int .i64 c] from heap_alloc_new _ _).below ((Below.refl _ _).alloc (Nat.le_refl _) _)
  have hN0 : w.heap.size + 1 < ((w.alloc (.cells #[.int .i64 t, .int .i64 b, .int .i64 c] 30)).alloc (.cells #[.int .i64 at_, .int .i64 more, .bool sm, .bool tn, .slice A 0 c'] 38)).heap.size := hr2.lt
  obtain ⟨V, hV, hVl⟩ : ∃ V, mastV t b c = V ∧ V.length = 40 := ⟨_, rfl, by unfold mastV; rw [if_pos hm]; exact mastL_length _ _ _⟩
  have HPB : Hid (∀ W, Calls Tryd.prog 9 #[.agg #[.int .i64 t, .int .i64 b, .int .i64 c]] W fun e w' => ∃ A c', e = .returned (.tuple #[.slice A 40 c', .int .i64 0]) ∧ New 5 W w' A c' V) := Lib.hid fun W => by
    have := refBytes7_any (w := W) t b c
    rw [hV, hVl, show mastE t b c = 0 from if_pos hm] at this
    exact this
  have HVL := Lib.hid hVl
  have hm40 : ¬ (40 : Int) = 0 := by omega
  have g0 := Int.emod_nonneg at_ hm40
  have g1 := Int.emod_lt_of_pos at_ (show (0 : Int) < 40 by omega)
  have e0 : at_.tmod 40 = at_ % 40 ∧ 0 ≤ at_.tmod 40 ∨ at_.tmod 40 = at_ % 40 - 40 := by
    rw [Int.tmod_eq_emod]
    split
    · exact .inl ⟨by omega, by omega⟩
    · exact .inr (by omega)
  obtain ⟨p, hp⟩ : ∃ p : Nat, (p : Int) = at_ % 40 := ⟨(at_ % 40).toNat, by omega⟩
  have hp40 : p < 40 := by omega
  obtain ⟨T, hT⟩ : ∃ T, at_.tmod 40 = T := ⟨_, rfl⟩
  rw [hT] at e0
  rw [← hp] at e0 g0 g1
  obtain ⟨SZ, hSZ⟩ : ∃ SZ, w.heap.size + 1 = SZ := ⟨_, rfl⟩
  rw [hSZ] at hr2 hN0
  have HSZ := Lib.hid hSZ
  have HR2 := Lib.hid hr2
  have HB0 := Lib.hid hb0
  have HN0 := Lib.hid hN0
  have HE := Lib.hid e0
  obtain ⟨W2, hW2⟩ : ∃ W2, ((w.alloc (.cells #[.int .i64 t, .int .i64 b, .int .i64 c] 30)).alloc (.cells #[.int .i64 at_, .int .i64 more, .bool sm, .bool tn, .slice A 0 c'] 38)) = W2 := ⟨_, rfl⟩
  rw [hW2] at HR2 HB0 HN0 hr1
  have s0 := hr1.cell (j := 0) (v := .int .i64 t) rfl
  have s1 := hr1.cell (j := 1) (v := .int .i64 b) rfl
  have s2 := hr1.cell (j := 2) (v := .int .i64 c) rfl
  clear hr1
  have HPB2 := Lib.hid (HPB.out W2)
  have HHT := Lib.hid hT
  clear hb0 hr2 hN0 hm hV hVl HPB e0 hSZ hp g0 g1
  go_enter Tryd.func14, Tryd.ntmps14
  go_wp2_with fail
  first | rw [HSZ.out] | skip
  refine HPB2.out.mono ?_
  rintro e w3 ⟨A3, c3, rfl, N3⟩
  have hr3 := HR2.out.below N3.below
  obtain ⟨g, rfl, hg⟩ := N3.own.block (by rw [HVL.out]; omega)
  have hF3 : FtyR W2 w3 g c3 V := ⟨HVL.out, by have := N3.own; rw [HVL.out] at this; exact this, N3.below⟩
  have HF3 := Lib.hid hF3
  have HG := Lib.hid hg
  have x0 := hr3.cell (j := 0) (v := .int .i64 at_) rfl
  have x1 := hr3.cell (j := 1) (v := .int .i64 more) rfl
  have x2 := hr3.cell (j := 2) (v := .bool sm) rfl
  have x4 := hr3.cell (j := 4) (v := .slice A 0 c') rfl
  have y0 := hF3.cell p hp40
  have yf := hF3.free p
  obtain ⟨X, hX⟩ : ∃ X, (V.getD p 0).toNat = X := ⟨_, rfl⟩
  have hX256 : X < 256 := by rw [← hX]; exact (V.getD p 0).toNat_lt
  rw [hX] at y0
  obtain ⟨v, hv⟩ : ∃ v : UInt8, ((X : Int) + more % 256) % 256 = (v.toNat : Int) := ⟨_, tmByte0 _ (by omega) (by omega)⟩
  have HV8 : Hid (IntKind.u8.wrap ((X : Int) + IntKind.u8.wrap more) = (v.toNat : Int)) := Lib.hid (by
    rw [← hv]
    simp [IntKind.wrap, IntKind.signed, IntKind.bits]
    try omega)
  clear hv
  have HS8 := Lib.hid (hF3.stored hg p v)
  clear N3 hr3 hF3 hX hg
  have q0 : (0 : Int) ≤ (p : Int) := by omega
  have q1 : (p : Int) < (40 : Int) := by omega
  rcases HE.out with ⟨e1, e2⟩ | e1
  · subst e1
    have hT := HHT.out
    have hnn : ¬ ((p : Int) < 0) := by omega
    clear e2
    go_wp2_with fail
    have y0d : w3.drew.cell? ⟨g, p, none⟩ = some (.int .u8 (X : Int)) := y0
    have x1d : w3.drew.cell? ⟨SZ, 1, none⟩ = some (.int .i64 more) := x1
    have yfd : w3.drew.frozen? ⟨g, p, none⟩ = false := yf
    have hw8 : IntKind.u8.wrap ((X : Int) + IntKind.u8.wrap more) = (v.toNat : Int) := HV8.out
    go_region_law (fail)
    all_goals
      have hbs := (Below.refl (w3.setCell ⟨g, p, none⟩ (.int .u8 (v.toNat : Int))).heap.size (w3.setCell ⟨g, p, none⟩ (.int .u8 (v.toNat : Int)))).drew
      have hF5 := HS8.out.then hbs
      obtain ⟨w5, hw5⟩ : ∃ w5, (w3.setCell ⟨g, p, none⟩ (.int .u8 (v.toNat : Int))).drew = w5 := ⟨_, rfl⟩
      rw [hw5] at hF5 ⊢
      obtain ⟨l5, hl5⟩ : ∃ l5, V.set p v = l5 := ⟨_, rfl⟩
      rw [hl5] at hF5
      have HF5 := Lib.hid hF5
      have hr5 := HR2.out.below hF5.below
      have x2 := hr5.cell (j := 2) (v := .bool sm) rfl
      clear hbs hF5 hw5 hl5 hr5 HS8 HF3 y0 yf y0d x1d yfd hw8 HV8 x0 x1 x4 hnn hT q0 q1
      cases sm with
      | false =>
        have x3 := (HR2.out.below HF5.out.below).cell (j := 3) (v := .bool tn) rfl
        cases tn with
        | false =>
          have HN := Lib.hid (show New 5 w w5 (some ⟨g, 0, none⟩) c3 l5 from ⟨by have := HF5.out.own; rw [← HF5.out.len] at this; exact Own8.mono this HB0.out.size, below_then HB0.out HF5.out.below⟩)
          go_wp2_with fail
          go_ret
          exact ⟨_, _, l5, (by rw [HF5.out.len]; rfl), HF5.out.len, HN.out⟩
        | true =>
          go_wp2_with fail
          go_loopw [11] (fun i wr => ∃ (k : Nat) (l : List UInt8), k ≤ 8 ∧ i = .int .i64 k ∧ FtyR W2 wr g c3 l) (fun i _ => 8 - (intOf i).toNat)
          case atStart => exact ⟨0, l5, by omega, rfl, HF5.out⟩
          case round =>
            obtain ⟨k, l8, hk, rfl, hF⟩ := hrel
            obtain ⟨w8, rfl⟩ : ∃ w8 : World, w8 = wr := ⟨_, rfl⟩
            by_cases hk8 : k < 8
            · have z := hF.cell k (by omega)
              have zf := hF.free (32 + k)
              have zo := hF.cell (32 + k) (by omega)
              obtain ⟨xo, hxo⟩ : ∃ xo, l8.getD (32 + k) 0 = xo := ⟨_, rfl⟩
              rw [hxo] at zo
              obtain ⟨x, hx⟩ : ∃ x, l8.getD k 0 = x := ⟨_, rfl⟩
              rw [hx] at z
              have HS := Lib.hid (hF.stored HG.out (32 + k) x)
              have m0 : (0 : Int) ≤ (k : Int) := by omega
              have m1 : (k : Int) < 40 := by omega
              have m2 : (32 : Int) + (k : Int) < 40 := by omega
              have m3 : (0 : Int) ≤ 32 + (k : Int) := by omega
              clear hF hx hxo x3
              go_wp2_with fail
              go_roundw
              case rel => exact ⟨k + 1, l8.set (32 + k) x, by omega, by go_num, HS.out⟩
              case measure => simp [intOf]; omega
            · have he : k = 8 := by omega
              subst he
              have HF8 := Lib.hid hF
              clear hF x3
              have HN := Lib.hid (show New 5 w w8 (some ⟨g, 0, none⟩) c3 l8 from ⟨by have := HF8.out.own; rw [← HF8.out.len] at this; exact Own8.mono this HB0.out.size, below_then HB0.out HF8.out.below⟩)
              go_wp2_with fail
              go_ret
              exact ⟨_, _, l8, (by rw [HF8.out.len]; rfl), HF8.out.len, HN.out⟩
      | true =>
        have PS := sum7_any (HF5.out.own |> fun o => (own_at o).2.take 28 (by rw [HF5.out.len]; omega)) (n := 28) (by rw [List.length_take, HF5.out.len]; rfl)
        have HPS := Lib.hid PS
        have hcap := (own_at HF5.out.own).2.cap
        rw [HF5.out.len] at hcap
        have qc : (28 : Int) ≤ (c3 : Int) := by omega
        clear PS hcap
        go_wp2_with fail
        refine HPS.out.mono ?_
        rintro e w6 ⟨S, rfl, hS, hb6⟩
        have HF6 := Lib.hid (HF5.out.then hb6)
        clear hb6 x2
        go_wp2_with fail
        go_loopw [10] (fun i wr => ∃ (k : Nat) (l : List UInt8), k ≤ 4 ∧ i = .int .i64 k ∧ FtyR W2 wr g c3 l) (fun i _ => 4 - (intOf i).toNat)
        case atStart => exact ⟨0, l5, by omega, rfl, HF6.out⟩
        case round =>
          obtain ⟨k, l7, hk, rfl, hF⟩ := hrel
          obtain ⟨w7, rfl⟩ : ∃ w7 : World, w7 = wr := ⟨_, rfl⟩
          by_cases hk4 : k < 4
          · have zf := hF.free (28 + k)
            have zo := hF.cell (28 + k) (by omega)
            obtain ⟨xo, hxo⟩ : ∃ xo, l7.getD (28 + k) 0 = xo := ⟨_, rfl⟩
            rw [hxo] at zo
            have HF7 := Lib.hid hF
            clear hF hxo
            have hc : k = 0 ∨ k = 1 ∨ k = 2 ∨ k = 3 := by omega
            rcases hc with rfl | rfl | rfl | rfl
            · go_wp2_with fail
              obtain ⟨x, hx⟩ : ∃ x : UInt8, (S : Int) % 256 = (x.toNat : Int) := ⟨_, tmByte0 _ (by omega) (by omega)⟩
              rw [hx]
              exact ⟨⟨1, l7.set (28 + 0) x, by omega, by go_num, HF7.out.stored HG.out (28 + 0) x⟩, by simp [intOf]⟩
            · go_wp2_with fail
              obtain ⟨x, hx⟩ : ∃ x : UInt8, (S : Int) / 256 % 256 = (x.toNat : Int) := ⟨_, tmByte0 _ (by omega) (by omega)⟩
              rw [hx]
              exact ⟨⟨2, l7.set (28 + 1) x, by omega, by go_num, HF7.out.stored HG.out (28 + 1) x⟩, by simp [intOf]⟩
            · go_wp2_with fail
              obtain ⟨x, hx⟩ : ∃ x : UInt8, (S : Int) / 65536 % 256 = (x.toNat : Int) := ⟨_, tmByte0 _ (by omega) (by omega)⟩
              rw [hx]
              exact ⟨⟨3, l7.set (28 + 2) x, by omega, by go_num, HF7.out.stored HG.out (28 + 2) x⟩, by simp [intOf]⟩
            · go_wp2_with fail
              obtain ⟨x, hx⟩ : ∃ x : UInt8, (S : Int) / 16777216 = (x.toNat : Int) := ⟨_, tmByte0 _ (by omega) (by omega)⟩
              rw [hx]
              exact ⟨⟨4, l7.set (28 + 3) x, by omega, by go_num, HF7.out.stored HG.out (28 + 3) x⟩, by simp [intOf]⟩
          · have he : k = 4 := by omega
            subst he
            have HF7 := Lib.hid hF
            clear hF
            have x3 := (HR2.out.below HF7.out.below).cell (j := 3) (v := .bool tn) rfl
            cases tn with
            | false =>
              have HN := Lib.hid (show New 5 w w7 (some ⟨g, 0, none⟩) c3 l7 from ⟨by have := HF7.out.own; rw [← HF7.out.len] at this; exact Own8.mono this HB0.out.size, below_then HB0.out HF7.out.below⟩)
              go_wp2_with fail
              go_ret
              exact ⟨_, _, l7, (by rw [HF7.out.len]; rfl), HF7.out.len, HN.out⟩
            | true =>
              go_wp2_with fail
              go_loopw [11] (fun i wr => ∃ (k : Nat) (l : List UInt8), k ≤ 8 ∧ i = .int .i64 k ∧ FtyR W2 wr g c3 l) (fun i _ => 8 - (intOf i).toNat)
              case atStart => exact ⟨0, l7, by omega, rfl, HF7.out⟩
              case round =>
                obtain ⟨k, l8, hk, rfl, hF⟩ := hrel
                obtain ⟨w8, rfl⟩ : ∃ w8 : World, w8 = wr := ⟨_, rfl⟩
                by_cases hk8 : k < 8
                · have z := hF.cell k (by omega)
                  have zf := hF.free (32 + k)
                  have zo := hF.cell (32 + k) (by omega)
                  obtain ⟨xo, hxo⟩ : ∃ xo, l8.getD (32 + k) 0 = xo := ⟨_, rfl⟩
                  rw [hxo] at zo
                  obtain ⟨x, hx⟩ : ∃ x, l8.getD k 0 = x := ⟨_, rfl⟩
                  rw [hx] at z
                  have HS := Lib.hid (hF.stored HG.out (32 + k) x)
                  have m0 : (0 : Int) ≤ (k : Int) := by omega
                  have m1 : (k : Int) < 40 := by omega
                  have m2 : (32 : Int) + (k : Int) < 40 := by omega
                  have m3 : (0 : Int) ≤ 32 + (k : Int) := by omega
                  clear hF hx hxo x3
                  go_wp2_with fail
                  go_roundw
                  case rel => exact ⟨k + 1, l8.set (32 + k) x, by omega, by go_num, HS.out⟩
                  case measure => simp [intOf]; omega
                · have he : k = 8 := by omega
                  subst he
                  have HF8 := Lib.hid hF
                  clear hF x3
                  have HN := Lib.hid (show New 5 w w8 (some ⟨g, 0, none⟩) c3 l8 from ⟨by have := HF8.out.own; rw [← HF8.out.len] at this; exact Own8.mono this HB0.out.size, below_then HB0.out HF8.out.below⟩)
                  go_wp2_with fail
                  go_ret
                  exact ⟨_, _, l8, (by rw [HF8.out.len]; rfl), HF8.out.len, HN.out⟩
  · -- the rest is below zero
    subst e1
    have hT := HHT.out
    have hnn : ((p : Int) - 40 < 0) := by omega
    have hww : IntKind.i64.wrap ((p : Int) - 40 + 40) = (p : Int) := by rw [show (p : Int) - 40 + 40 = (p : Int) by omega]; exact IntWalk.i64_in _ (by omega)
    go_wp2_with fail
    have y0d : w3.drew.cell? ⟨g, p, none⟩ = some (.int .u8 (X : Int)) := y0
    have x1d : w3.drew.cell? ⟨SZ, 1, none⟩ = some (.int .i64 more) := x1
    have yfd : w3.drew.frozen? ⟨g, p, none⟩ = false := yf
    have hw8 : IntKind.u8.wrap ((X : Int) + IntKind.u8.wrap more) = (v.toNat : Int) := HV8.out
    go_region_law (fail)
    all_goals
      have hbs := (Below.refl (w3.setCell ⟨g, p, none⟩ (.int .u8 (v.toNat : Int))).heap.size (w3.setCell ⟨g, p, none⟩ (.int .u8 (v.toNat : Int)))).drew
      have hF5 := HS8.out.then hbs
      obtain ⟨w5, hw5⟩ : ∃ w5, (w3.setCell ⟨g, p, none⟩ (.int .u8 (v.toNat : Int))).drew = w5 := ⟨_, rfl⟩
      rw [hw5] at hF5 ⊢
      obtain ⟨l5, hl5⟩ : ∃ l5, V.set p v = l5 := ⟨_, rfl⟩
      rw [hl5] at hF5
      have HF5 := Lib.hid hF5
      have hr5 := HR2.out.below hF5.below
      have x2 := hr5.cell (j := 2) (v := .bool sm) rfl
      clear hbs hF5 hw5 hl5 hr5 HS8 HF3 y0 yf y0d x1d yfd hw8 HV8 x0 x1 x4 hnn hT q0 q1
      cases sm with
      | false =>
        have x3 := (HR2.out.below HF5.out.below).cell (j := 3) (v := .bool tn) rfl
        cases tn with
        | false =>
          have HN := Lib.hid (show New 5 w w5 (some ⟨g, 0, none⟩) c3 l5 from ⟨by have := HF5.out.own; rw [← HF5.out.len] at this; exact Own8.mono this HB0.out.size, below_then HB0.out HF5.out.below⟩)
          go_wp2_with fail
          go_ret
          exact ⟨_, _, l5, (by rw [HF5.out.len]; rfl), HF5.out.len, HN.out⟩
        | true =>
          go_wp2_with fail
          go_loopw [11] (fun i wr => ∃ (k : Nat) (l : List UInt8), k ≤ 8 ∧ i = .int .i64 k ∧ FtyR W2 wr g c3 l) (fun i _ => 8 - (intOf i).toNat)
          case atStart => exact ⟨0, l5, by omega, rfl, HF5.out⟩
          case round =>
            obtain ⟨k, l8, hk, rfl, hF⟩ := hrel
            obtain ⟨w8, rfl⟩ : ∃ w8 : World, w8 = wr := ⟨_, rfl⟩
            by_cases hk8 : k < 8
            · have z := hF.cell k (by omega)
              have zf := hF.free (32 + k)
              have zo := hF.cell (32 + k) (by omega)
              obtain ⟨xo, hxo⟩ : ∃ xo, l8.getD (32 + k) 0 = xo := ⟨_, rfl⟩
              rw [hxo] at zo
              obtain ⟨x, hx⟩ : ∃ x, l8.getD k 0 = x := ⟨_, rfl⟩
              rw [hx] at z
              have HS := Lib.hid (hF.stored HG.out (32 + k) x)
              have m0 : (0 : Int) ≤ (k : Int) := by omega
              have m1 : (k : Int) < 40 := by omega
              have m2 : (32 : Int) + (k : Int) < 40 := by omega
              have m3 : (0 : Int) ≤ 32 + (k : Int) := by omega
              clear hF hx hxo x3
              go_wp2_with fail
              go_roundw
              case rel => exact ⟨k + 1, l8.set (32 + k) x, by omega, by go_num, HS.out⟩
              case measure => simp [intOf]; omega
            · have he : k = 8 := by omega
              subst he
              have HF8 := Lib.hid hF
              clear hF x3
              have HN := Lib.hid (show New 5 w w8 (some ⟨g, 0, none⟩) c3 l8 from ⟨by have := HF8.out.own; rw [← HF8.out.len] at this; exact Own8.mono this HB0.out.size, below_then HB0.out HF8.out.below⟩)
              go_wp2_with fail
              go_ret
              exact ⟨_, _, l8, (by rw [HF8.out.len]; rfl), HF8.out.len, HN.out⟩
      | true =>
        have PS := sum7_any (HF5.out.own |> fun o => (own_at o).2.take 28 (by rw [HF5.out.len]; omega)) (n := 28) (by rw [List.length_take, HF5.out.len]; rfl)
        have HPS := Lib.hid PS
        have hcap := (own_at HF5.out.own).2.cap
        rw [HF5.out.len] at hcap
        have qc : (28 : Int) ≤ (c3 : Int) := by omega
        clear PS hcap
        go_wp2_with fail
        refine HPS.out.mono ?_
        rintro e w6 ⟨S, rfl, hS, hb6⟩
        have HF6 := Lib.hid (HF5.out.then hb6)
        clear hb6 x2
        go_wp2_with fail
        go_loopw [10] (fun i wr => ∃ (k : Nat) (l : List UInt8), k ≤ 4 ∧ i = .int .i64 k ∧ FtyR W2 wr g c3 l) (fun i _ => 4 - (intOf i).toNat)
        case atStart => exact ⟨0, l5, by omega, rfl, HF6.out⟩
        case round =>
          obtain ⟨k, l7, hk, rfl, hF⟩ := hrel
          obtain ⟨w7, rfl⟩ : ∃ w7 : World, w7 = wr := ⟨_, rfl⟩
          by_cases hk4 : k < 4
          · have zf := hF.free (28 + k)
            have zo := hF.cell (28 + k) (by omega)
            obtain ⟨xo, hxo⟩ : ∃ xo, l7.getD (28 + k) 0 = xo := ⟨_, rfl⟩
            rw [hxo] at zo
            have HF7 := Lib.hid hF
            clear hF hxo
            have hc : k = 0 ∨ k = 1 ∨ k = 2 ∨ k = 3 := by omega
            rcases hc with rfl | rfl | rfl | rfl
            · go_wp2_with fail
              obtain ⟨x, hx⟩ : ∃ x : UInt8, (S : Int) % 256 = (x.toNat : Int) := ⟨_, tmByte0 _ (by omega) (by omega)⟩
              rw [hx]
              exact ⟨⟨1, l7.set (28 + 0) x, by omega, by go_num, HF7.out.stored HG.out (28 + 0) x⟩, by simp [intOf]⟩
            · go_wp2_with fail
              obtain ⟨x, hx⟩ : ∃ x : UInt8, (S : Int) / 256 % 256 = (x.toNat : Int) := ⟨_, tmByte0 _ (by omega) (by omega)⟩
              rw [hx]
              exact ⟨⟨2, l7.set (28 + 1) x, by omega, by go_num, HF7.out.stored HG.out (28 + 1) x⟩, by simp [intOf]⟩
            · go_wp2_with fail
              obtain ⟨x, hx⟩ : ∃ x : UInt8, (S : Int) / 65536 % 256 = (x.toNat : Int) := ⟨_, tmByte0 _ (by omega) (by omega)⟩
              rw [hx]
              exact ⟨⟨3, l7.set (28 + 2) x, by omega, by go_num, HF7.out.stored HG.out (28 + 2) x⟩, by simp [intOf]⟩
            · go_wp2_with fail
              obtain ⟨x, hx⟩ : ∃ x : UInt8, (S : Int) / 16777216 = (x.toNat : Int) := ⟨_, tmByte0 _ (by omega) (by omega)⟩
              rw [hx]
              exact ⟨⟨4, l7.set (28 + 3) x, by omega, by go_num, HF7.out.stored HG.out (28 + 3) x⟩, by simp [intOf]⟩
          · have he : k = 4 := by omega
            subst he
            have HF7 := Lib.hid hF
            clear hF
            have x3 := (HR2.out.below HF7.out.below).cell (j := 3) (v := .bool tn) rfl
            cases tn with
            | false =>
              have HN := Lib.hid (show New 5 w w7 (some ⟨g, 0, none⟩) c3 l7 from ⟨by have := HF7.out.own; rw [← HF7.out.len] at this; exact Own8.mono this HB0.out.size, below_then HB0.out HF7.out.below⟩)
              go_wp2_with fail
              go_ret
              exact ⟨_, _, l7, (by rw [HF7.out.len]; rfl), HF7.out.len, HN.out⟩
            | true =>
              go_wp2_with fail
              go_loopw [11] (fun i wr => ∃ (k : Nat) (l : List UInt8), k ≤ 8 ∧ i = .int .i64 k ∧ FtyR W2 wr g c3 l) (fun i _ => 8 - (intOf i).toNat)
              case atStart => exact ⟨0, l7, by omega, rfl, HF7.out⟩
              case round =>
                obtain ⟨k, l8, hk, rfl, hF⟩ := hrel
                obtain ⟨w8, rfl⟩ : ∃ w8 : World, w8 = wr := ⟨_, rfl⟩
                by_cases hk8 : k < 8
                · have z := hF.cell k (by omega)
                  have zf := hF.free (32 + k)
                  have zo := hF.cell (32 + k) (by omega)
                  obtain ⟨xo, hxo⟩ : ∃ xo, l8.getD (32 + k) 0 = xo := ⟨_, rfl⟩
                  rw [hxo] at zo
                  obtain ⟨x, hx⟩ : ∃ x, l8.getD k 0 = x := ⟨_, rfl⟩
                  rw [hx] at z
                  have HS := Lib.hid (hF.stored HG.out (32 + k) x)
                  have m0 : (0 : Int) ≤ (k : Int) := by omega
                  have m1 : (k : Int) < 40 := by omega
                  have m2 : (32 : Int) + (k : Int) < 40 := by omega
                  have m3 : (0 : Int) ≤ 32 + (k : Int) := by omega
                  clear hF hx hxo x3
                  go_wp2_with fail
                  go_roundw
                  case rel => exact ⟨k + 1, l8.set (32 + k) x, by omega, by go_num, HS.out⟩
                  case measure => simp [intOf]; omega
                · have he : k = 8 := by omega
                  subst he
                  have HF8 := Lib.hid hF
                  clear hF x3
                  have HN := Lib.hid (show New 5 w w8 (some ⟨g, 0, none⟩) c3 l8 from ⟨by have := HF8.out.own; rw [← HF8.out.len] at this; exact Own8.mono this HB0.out.size, below_then HB0.out HF8.out.below⟩)
                  go_wp2_with fail
                  go_ret
                  exact ⟨_, _, l8, (by rw [HF8.out.len]; rfl), HF8.out.len, HN.out⟩
end Go.Proofs.YtgelgjghmoddoaaDoor
