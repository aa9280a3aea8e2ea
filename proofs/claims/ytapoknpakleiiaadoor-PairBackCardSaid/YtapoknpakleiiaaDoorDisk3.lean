import Derived.Test.YtapoknpakleiiaaDoorDisk2
import Derived.Deep.RegionHeld3
import Derived.Deep.DrawnRows
/- The contracts of package disk: New. -/
set_option linter.unusedVariables false
set_option linter.unusedSimpArgs false
namespace Go.Proofs.YtapoknpakleiiaaDoor
open Go.RowKit Go.Tm
set_option maxHeartbeats 400000
set_option maxRecDepth 100000
attribute [local go_sem ↓] Go.wp_at_zero Go.wp_at_succ

/-- A disk that a call has made. -/
structure NewD (w w' : World) (χ χ' : Col) (j p : Nat) (s : DSt) : Prop where
  disk : IsDisk w' χ' j p s
  below : Below w.heap.size w w'
  ext : Ext w.heap.size χ χ'
  new : ∀ q, w.heap.size ≤ q → (χ' q).1 = j ∨ (χ' q).1 = 0

set_option maxHeartbeats 1600000 in
theorem diskNew_any {w : World} (P K M : Int) (χ : Col) (j : Nat) (hj : 0 < j) : Calls Tryd.prog 25 #[.agg #[.int .i64 P, .int .i64 K, .int .i64 M]] w fun e w' =>
    (shapeB P K M = false ∧ e = .returned (.tuple #[.pointer none, .int .i64 60]) ∧ Below w.heap.size w w') ∨
    (shapeB P K M = true ∧ ∃ p χ', e = .returned (.tuple #[.pointer (some ⟨p, 0, none⟩), .int .i64 0]) ∧ NewD w w' χ χ' j p (blankS P.toNat K.toNat M.toNat)) := by
  have hb0 := (Below.refl w.heap.size w).alloc (Nat.le_refl _) (.cells #[.int .i64 P, .int .i64 K, .int .i64 M] 50)
  have hR0 : RowC (w.alloc (.cells #[.int .i64 P, .int .i64 K, .int .i64 M] 50)) w.heap.size 50 [.int .i64 P, .int .i64 K, .int .i64 M] := heap_alloc_new _ _
  have PR := right_any (w := w.alloc (.cells #[.int .i64 P, .int .i64 K, .int .i64 M] 50)) P K M
  cases hs : shapeB P K M with
  | false =>
    rw [hs] at PR
    have HPR := Lib.hid PR
    clear PR hs
    go_enter Tryd.func25, Tryd.ntmps25
    go_wp2_with fail
    refine HPR.out.mono ?_
    rintro e w1 ⟨rfl, hb⟩
    go_wp2_with fail
    exact bodyPost_ret (v := .tuple #[.pointer none, .int .i64 60]) (by simp [results, Tryd.results25, go_sem]) rfl (.inl ⟨trivial, rfl, below_then hb0 hb⟩)
  | true =>
    rw [hs] at PR
    obtain ⟨a1, a2, a3, a4, a5, a6⟩ := shapeB_yes hs
    obtain ⟨Pn, hPn⟩ : ∃ Pn : Nat, P = (Pn : Int) := ⟨P.toNat, by omega⟩
    obtain ⟨Kn, hKn⟩ : ∃ Kn : Nat, K = (Kn : Int) := ⟨K.toNat, by omega⟩
    obtain ⟨Mn, hMn⟩ : ∃ Mn : Nat, M = (Mn : Int) := ⟨M.toNat, by omega⟩
    subst hPn hKn hMn
    have hok := blankS_ok hs
    have HB := Lib.hid (fun (W : World) (X : Col) (t : Nat) => dblank_any (w := W) Pn Kn (Mn : Int) (by omega) (by omega) X j t)
    have HPR := Lib.hid PR
    have HOK := Lib.hid hok
    clear PR hs a1 a2 a3 a4 a5 a6 hok
    go_enter Tryd.func25, Tryd.ntmps25
    go_wp2_with fail
    refine HPR.out.mono ?_
    rintro e w1 ⟨rfl, hb⟩
    have b1 := below_then hb0 hb
    have R1 := hR0.below hb
    have x0 := R1.cell (j := 0) (v := .int .i64 Pn) rfl
    have x1 := R1.cell (j := 1) (v := .int .i64 Kn) rfl
    have x2 := R1.cell (j := 2) (v := .int .i64 Mn) rfl
    have hbw := (Below.refl w1.heap.size w1).drew
    clear hb hb0 hR0
    go_wp2_with fail
    go_region_held3 (fun w' => w'.cell? ⟨w.heap.size, 0, none⟩ = some (.int .i64 Pn) ∧ w'.cell? ⟨w.heap.size, 1, none⟩ = some (.int .i64 Kn) ∧ w'.cell? ⟨w.heap.size, 2, none⟩ = some (.int .i64 Mn)) (first | go_keep | exact ⟨x0, x1, x2⟩ | exact ⟨y0, y1, y2⟩ | exact ⟨z0, z1, z2⟩)
      (first
        | (go_at_call 52; have hprev := N2; refine (HB.out _ χ2 200).mono ?_; rintro e w3 ⟨g3, vs3, χ3, rfl, N3⟩; have z0 := (N3.below.cell (p := ⟨w.heap.size, 0, none⟩) (World.block_lt_of_cell? _ _ y0)).trans y0; have z1 := (N3.below.cell (p := ⟨w.heap.size, 1, none⟩) (World.block_lt_of_cell? _ _ y1)).trans y1; have z2 := (N3.below.cell (p := ⟨w.heap.size, 2, none⟩) (World.block_lt_of_cell? _ _ y2)).trans y2)
        | (go_at_call 52; refine (HB.out _ (paint w.heap.size χ (0, 9)) 100).mono ?_; rintro e w2 ⟨g2, vs2, χ2, rfl, N2⟩; have hb2 := below_then hbw N2.below; have y0 := (hb2.cell (p := ⟨w.heap.size, 0, none⟩) (World.block_lt_of_cell? _ _ x0)).trans x0; have y1 := (hb2.cell (p := ⟨w.heap.size, 1, none⟩) (World.block_lt_of_cell? _ _ x1)).trans x1; have y2 := (hb2.cell (p := ⟨w.heap.size, 2, none⟩) (World.block_lt_of_cell? _ _ x2)).trans x2))
    have hl := (blankR_ok Pn Kn).len
    have hb4 := (Below.refl w3.heap.size w3).alloc (Nat.le_refl _) (.cells #[.int .i64 Pn, .int .i64 Kn, .int .i64 Mn, .slice (some ⟨g2, 0, none⟩) (Pn + 3) (Pn + 3), .slice (some ⟨g3, 0, none⟩) (Pn + 3) (Pn + 3), .slice none 0 0, .slice none 0 0, .int .i64 0, .int .i64 0, .int .i64 0, .bool false] 100)
    have hrow : RowC (w3.alloc (.cells #[.int .i64 Pn, .int .i64 Kn, .int .i64 Mn, .slice (some ⟨g2, 0, none⟩) (Pn + 3) (Pn + 3), .slice (some ⟨g3, 0, none⟩) (Pn + 3) (Pn + 3), .slice none 0 0, .slice none 0 0, .int .i64 0, .int .i64 0, .int .i64 0, .bool false] 100)) w3.heap.size 100 (diskC (blankS Pn Kn Mn) ⟨100, 200, g2, g3, vs2, vs3, .slice none 0 0, .slice none 0 0, []⟩) := heap_alloc_new _ _
    have X4 := paint_ext w3.heap.size χ3 (j, 1)
    have G2 := (N2.ground.below N3.ext N3.below).below X4 hb4
    have G3 := N3.ground.below X4 hb4
    rw [hl] at G2 G3
    have b2 : Below w.heap.size w w2 := below_then b1 hb2
    have b3 := below_then b2 N3.below
    have b4 := below_then b3 hb4
    have ex2 : Ext w.heap.size χ χ2 := (paint_ext w.heap.size χ (0, 9)).trans N2.ext (Nat.le_trans b1.size (Nat.le_refl _))
    have ex3 := ex2.trans N3.ext b2.size
    have ex4 := ex3.trans X4 b3.size
    have hD : DiskR (w3.alloc (.cells #[.int .i64 Pn, .int .i64 Kn, .int .i64 Mn, .slice (some ⟨g2, 0, none⟩) (Pn + 3) (Pn + 3), .slice (some ⟨g3, 0, none⟩) (Pn + 3) (Pn + 3), .slice none 0 0, .slice none 0 0, .int .i64 0, .int .i64 0, .int .i64 0, .bool false] 100)) (paint w3.heap.size χ3 (j, 1)) j w3.heap.size (blankS Pn Kn Mn) ⟨100, 200, g2, g3, vs2, vs3, .slice none 0 0, .slice none 0 0, []⟩ :=
      ⟨hj, paint_new (Nat.le_refl _), hrow, ⟨by simp, by simp, .inl (by simp)⟩, G2, G3, ⟨ownLe_nil _ _ _ _, fun q hq => (by cases hq), fun x hx => (by cases hx)⟩, rfl, ⟨Own8.nilRow _ _ _, fun q hq => (by cases hq)⟩, HOK.out⟩
    have hnew : ∀ q, w.heap.size ≤ q → ((paint w3.heap.size χ3 (j, 1)) q).1 = j ∨ ((paint w3.heap.size χ3 (j, 1)) q).1 = 0 := fun q hq => by
      by_cases c3 : q < w3.heap.size
      · rw [X4 q c3]
        by_cases c2 : w2.heap.size ≤ q
        · exact .inl (N3.new q c2)
        · rw [N3.ext q (by omega)]
          by_cases c1 : w1.drew.heap.size ≤ q
          · exact .inl (N2.new q c1)
          · rw [N2.ext q (by omega), paint_new hq]
            exact .inr rfl
      · rw [paint_new (by omega)]
        exact .inl rfl
    have HD : Hid (NewD w _ χ (paint w3.heap.size χ3 (j, 1)) j w3.heap.size (blankS Pn Kn Mn)) := Lib.hid ⟨⟨_, hD⟩, b4, ex4, hnew⟩
    clear hD hrow G2 G3 b4 hnew
    go_wp2_with fail
    exact bodyPost_ret (v := .tuple #[.pointer (some ⟨w3.heap.size, 0, none⟩), .int .i64 0]) (by simp [results, Tryd.results25, go_sem]) rfl (.inr ⟨trivial, _, _, rfl, HD.out⟩)
end Go.Proofs.YtapoknpakleiiaaDoor
