import Derived.Test.YtgelgjghmoddoaaDoorRef7
/- The contract of Bytes of the document's answer for layer 7. -/
set_option linter.unusedVariables false
set_option linter.unusedSimpArgs false
namespace Go.Proofs.YtgelgjghmoddoaaDoor
open Go.RowKit Go.Tm
set_option maxHeartbeats 400000
set_option maxRecDepth 100000

theorem refNum8 {w : World} (x : Int) (h0 : 0 ≤ x) (h1 : x ≤ 1152921504606846976) :
    Calls Tryd.prog 33 #[.int .u64 x, .int .i64 8] w fun e w' => ∃ A' c', e = .returned (.slice A' 8 c') ∧ New 5 w w' A' c' (leB 8 x.toNat) := by
  have := refNumber_any (w := w) x h0 (by omega) 8 (by omega) (kk := 8) rfl
  rw [leB_length] at this
  exact this
theorem refNum4 {w : World} (x : Nat) (h1 : x < 4294967296) :
    Calls Tryd.prog 33 #[.int .u64 (x : Int), .int .i64 4] w fun e w' => ∃ A' c', e = .returned (.slice A' 4 c') ∧ New 5 w w' A' c' (leB 4 x) := by
  have := refNumber_any (w := w) (x : Int) (by omega) (by omega) 4 (by omega) (kk := 4) rfl
  rw [leB_length, Int.toNat_natCast] at this
  exact this
theorem rda_zero4 (w : World) (e : TypeId) : Rda (w.alloc (.cells #[.int .u8 0, .int .u8 0, .int .u8 0, .int .u8 0] e)) (some ⟨w.heap.size, 0, none⟩) 4 (leB 4 0) := by
  have h : (w.alloc (.cells #[.int .u8 0, .int .u8 0, .int .u8 0, .int .u8 0] e)).heap[w.heap.size]? = some (.cells #[.int .u8 0, .int .u8 0, .int .u8 0, .int .u8 0] e (0, 0)) := heap_alloc_new _ _
  refine ⟨by simp, by unfold maxLen; omega, fun e => by simp at e, fun hp => ⟨w.heap.size, 0, rfl, fun j hj => ?_⟩⟩
  have : j = 0 ∨ j = 1 ∨ j = 2 ∨ j = 3 := by simp at hj; omega
  rcases this with rfl | rfl | rfl | rfl <;> (rw [World.cell?_alloc_at _ _ _ _ rfl]; rfl)

set_option maxHeartbeats 1600000 in
theorem refBytes7_any {w : World} (t b c : Int) : Calls Tryd.prog 9 #[.agg #[.int .i64 t, .int .i64 b, .int .i64 c]] w fun e w' => ∃ A c', e = .returned (.tuple #[.slice A (mastV t b c).length c', .int .i64 (mastE t b c)]) ∧ New 5 w w' A c' (mastV t b c) := by
  have hb0 := (Below.refl w.heap.size w).alloc (Nat.le_refl _) (.cells #[.int .i64 t, .int .i64 b, .int .i64 c] 30)
  have hR0 : RowC (w.alloc (.cells #[.int .i64 t, .int .i64 b, .int .i64 c] 30)) w.heap.size 30 [.int .i64 t, .int .i64 b, .int .i64 c] := heap_alloc_new _ _
  have PM := refMay_any (w := w.alloc (.cells #[.int .i64 t, .int .i64 b, .int .i64 c] 30)) t b c
  obtain ⟨SZ, hSZ⟩ : ∃ SZ, w.heap.size = SZ := ⟨_, rfl⟩
  unfold mastV mastE
  cases hm : mayB t b c with
  | false =>
    rw [hm] at PM
    rw [if_neg (by decide), if_neg (by decide)]
    have HPM := Lib.hid PM
    clear PM hm
    go_enter Tryd.func9, Tryd.ntmps9
    go_wp2_with fail
    refine HPM.out.mono ?_
    rintro e w1 ⟨rfl, hb⟩
    have HB := Lib.hid (below_then hb0 hb)
    clear hb hb0 hR0 hSZ
    go_wp2_with fail
    go_ret2
    exact ⟨none, 0, rfl, ⟨Own8.nilRow _ _ _, HB.out⟩⟩
  | true =>
    rw [hm] at PM
    rw [if_pos rfl, if_pos rfl]
    obtain ⟨t1, t2, b1, b2, c1, c2⟩ := (mayB_iff t b c).1 hm
    have t0 : 0 ≤ t := by omega
    have HPM := Lib.hid PM
    clear PM hm
    rw [hSZ] at hR0
    go_enter Tryd.func9, Tryd.ntmps9
    go_wp2_with fail
    refine HPM.out.mono ?_
    rintro e w1 ⟨rfl, hb⟩
    have HB0 := Lib.hid (below_then hb0 hb)
    have HR1 := Lib.hid (hR0.below hb)
    have hbz : Below w1.heap.size w1 w1 := Below.refl _ _
    have oz := Own8.nilRow w1 w1.heap.size 5
    have x := HR1.out.cell (j := 0) (v := .int .i64 t) rfl
    have HN := Lib.hid (refNum8 (w := w1) t t0 t2)
    clear hb hb0 hR0 hSZ t1
    go_wp2_with fail
    refine HN.out.mono ?_
    rintro e n1 ⟨An, cn, rfl, hN⟩
    have hbn := below_then hbz hN.below
    have on := oz.below hN.below
    have rn := hN.rda
    clear hN oz hbz HN x
    go_wp2_with (at_builtin; refine wpList_app (l := []) (m := leB 8 t.toNat) _ rfl _ _ rfl tU8 rfl on rfl (by simp) rn (by simp) hbn.size ?_)
    intro v1 w2 oz hg
    have hbz : Below w1.heap.size w1 w2 := on.grown hg hbn hbn.size (Nat.le_refl _)
    clear hg on rn hbn
    have x := (HR1.out.below hbz).cell (j := 1) (v := .int .i64 b) rfl
    have HN := Lib.hid (refNum8 (w := w2) b b1 b2)
    go_wp2_with fail
    refine HN.out.mono ?_
    rintro e n2 ⟨An, cn, rfl, hN⟩
    have hbn := below_then hbz hN.below
    have on := oz.below hN.below
    have rn := hN.rda
    clear hN oz hbz HN x
    go_wp2_with (at_builtin; refine wpList_app (l := ([] ++ leB 8 t.toNat)) (m := leB 8 b.toNat) _ rfl _ _ rfl tU8 rfl on rfl (by simp) rn (by simp) hbn.size ?_)
    intro v2 w3 oz hg
    have hbz : Below w1.heap.size w1 w3 := on.grown hg hbn hbn.size (Nat.le_refl _)
    clear hg on rn hbn
    have x := (HR1.out.below hbz).cell (j := 2) (v := .int .i64 c) rfl
    have HN := Lib.hid (refNum8 (w := w3) c c1 c2)
    go_wp2_with fail
    refine HN.out.mono ?_
    rintro e n3 ⟨An, cn, rfl, hN⟩
    have hbn := below_then hbz hN.below
    have on := oz.below hN.below
    have rn := hN.rda
    clear hN oz hbz HN x
    go_wp2_with (at_builtin; refine wpList_app (l := ([] ++ leB 8 t.toNat ++ leB 8 b.toNat)) (m := leB 8 c.toNat) _ rfl _ _ rfl tU8 rfl on rfl (by simp) rn (by simp) hbn.size ?_)
    intro v3 w4 oz hg
    have hbz : Below w1.heap.size w1 w4 := on.grown hg hbn hbn.size (Nat.le_refl _)
    clear hg on rn hbn
    have hbn := hbz.alloc hbz.size (.cells #[.int .u8 0, .int .u8 0, .int .u8 0, .int .u8 0] 5)
    have on := oz.alloc (.cells #[.int .u8 0, .int .u8 0, .int .u8 0, .int .u8 0] 5)
    have rn := rda_zero4 w4 5
    clear oz hbz
    go_wp2_with (at_builtin; refine wpList_app (l := ([] ++ leB 8 t.toNat ++ leB 8 b.toNat ++ leB 8 c.toNat)) (m := leB 4 0) _ rfl _ _ rfl tU8 rfl on rfl (by simp) rn (by simp) hbn.size ?_)
    intro v4 w5 oz hg
    have hbz : Below w1.heap.size w1 w5 := on.grown hg hbn hbn.size (Nat.le_refl _)
    clear hg on rn hbn
    have oz2 : Own8 w5 w1.heap.size 5 v4 (frontM t.toNat b.toNat c.toNat) := by simpa [frontM] using oz
    clear oz
    have oz := oz2
    clear oz2
    obtain ⟨A5, c5, rfl, r5⟩ := own_rda oz
    rw [frontM_length] at oz
    rw [frontM_length]
    have hba := (Below.refl w5.heap.size w5).alloc (Nat.le_refl _) (.cells #[.slice A5 28 c5] 24)
    have hrows : RdRows (w5.alloc (.cells #[.slice A5 28 c5] 24)) (some ⟨w5.heap.size, 0, none⟩) 1 [frontM t.toNat b.toNat c.toNat] :=
      (RowVals.cons (RowVals.nil w5) r5 (frontM_length _ _ _).symm).rows 24 1 rfl (by simp) rfl
    have PC := refSum2_any hrows (n := 1) rfl
    have hcat : cat [frontM t.toNat b.toNat c.toNat] = frontM t.toNat b.toNat c.toNat := by rw [cat_cons, cat_nil, List.append_nil]
    rw [hcat] at PC
    have hlt := crcM_lt 0 (frontM t.toNat b.toNat c.toNat) (by omega)
    obtain ⟨S, hS⟩ : ∃ S, crcM 0 (frontM t.toNat b.toNat c.toNat) = S := ⟨_, rfl⟩
    rw [hS] at PC hlt
    have HPC := Lib.hid PC
    have HS := Lib.hid hS
    have hbz2 := below_then hbz hba
    have oz2 := oz.below hba
    have HN := Lib.hid (refNum4 (w := w5.alloc (.cells #[.slice A5 28 c5] 24)) S (by omega))
    obtain ⟨F, hF⟩ : ∃ F, frontM t.toNat b.toNat c.toNat = F := ⟨_, rfl⟩
    have hlF : F.length = 28 := by rw [← hF, frontM_length]
    rw [hF] at oz2
    have HF := Lib.hid hF
    have x : True := trivial
    clear hba hrows PC hcat hS oz hbz r5 hF
    have oz := oz2
    have hbz := hbz2
    clear oz2 hbz2
    go_wp2_with fail
    refine HPC.out.mono ?_
    rintro e wx ⟨rfl, rfl⟩
    go_wp2_with fail
    refine HN.out.mono ?_
    rintro e n5 ⟨An, cn, rfl, hN⟩
    have hbn := below_then hbz hN.below
    have on := oz.below hN.below
    have rn := hN.rda
    clear hN oz hbz HN x
    go_wp2_with (at_builtin; refine wpList_app (l := F) (m := leB 4 S) _ rfl _ _ rfl tU8 rfl on rfl (by simp) rn (by rw [hlF]; simp) hbn.size ?_)
    intro v5 w6 oz hg
    have hbz : Below w1.heap.size w1 w6 := on.grown hg hbn hbn.size (Nat.le_refl _)
    clear hg on rn hbn
    have x := (HR1.out.below hbz).cell (j := 0) (v := .int .i64 t) rfl
    have HN := Lib.hid (refNum8 (w := w6) t t0 t2)
    go_wp2_with fail
    refine HN.out.mono ?_
    rintro e n6 ⟨An, cn, rfl, hN⟩
    have hbn := below_then hbz hN.below
    have on := oz.below hN.below
    have rn := hN.rda
    clear hN oz hbz HN x
    go_wp2_with (at_builtin; refine wpList_app (l := (F ++ leB 4 S)) (m := leB 8 t.toNat) _ rfl _ _ rfl tU8 rfl on rfl (by simp) rn (by rw [List.length_append, hlF]; simp) hbn.size ?_)
    intro v6 w7 oz hg
    have hbz : Below w1.heap.size w1 w7 := on.grown hg hbn hbn.size (Nat.le_refl _)
    clear hg on rn hbn
    have hm : mastL t.toNat b.toNat c.toNat = F ++ (leB 4 S ++ leB 8 t.toNat) := by unfold mastL; rw [HS.out, HF.out, List.append_assoc]
    rw [← hm] at oz
    have hsz := HB0.out.size
    obtain ⟨A7, c7, rfl, r7⟩ := own_rda oz
    have HNW := Lib.hid (show New 5 w w7 A7 c7 (mastL t.toNat b.toNat c.toNat) from ⟨Own8.mono oz hsz, below_then HB0.out hbz⟩)
    rw [mastL_length]
    clear oz hbz hm hsz r7
    go_wp2_with fail
    go_ret2
    exact ⟨A7, c7, (by rw [mastL_length]; rfl), HNW.out⟩
end Go.Proofs.YtgelgjghmoddoaaDoor
