import Derived.Test.YtgelgjghmoddoaaDoorLaw7
/- What is spoilt: any bytes. -/
set_option linter.unusedVariables false
set_option linter.unusedSimpArgs false
namespace Go.Proofs.YtgelgjghmoddoaaDoor
open Go.RowKit Go.Tm
set_option maxHeartbeats 400000
set_option maxRecDepth 100000

theorem sum7_any {w : World} {A : Option Addr} {n c : Nat} {l : List UInt8} (h : Rda w A c l) (hn : n = l.length) :
    Calls Tryd.prog 38 #[.slice A n c] w fun e w' => ∃ S : Nat, e = .returned (.int .u32 (S : Int)) ∧ S < 4294967296 ∧ Below w.heap.size w w' := by
  subst hn
  have hba := (Below.refl w.heap.size w).alloc (Nat.le_refl _) (.cells #[.slice A l.length c] 24)
  have hrows : RdRows (w.alloc (.cells #[.slice A l.length c] 24)) (some ⟨w.heap.size, 0, none⟩) 1 [l] :=
    (RowVals.cons (RowVals.nil w) h rfl).rows 24 1 rfl (by simp) rfl
  have PC := refSum2_any hrows (n := 1) rfl
  have HL := Lib.hid (crcM_lt 0 (cat [l]) (by omega))
  obtain ⟨S, hS⟩ : ∃ S, crcM 0 (cat [l]) = S := ⟨_, rfl⟩
  rw [hS] at PC HL
  have HPC := Lib.hid PC
  have HB := Lib.hid hba
  clear PC hba hrows hS
  go_enter Tryd.func38, Tryd.ntmps38
  go_wp2_with fail
  refine HPC.out.mono ?_
  rintro e w1 ⟨rfl, rfl⟩
  go_wp2_with fail
  go_ret
  exact ⟨S, rfl, HL.out, HB.out⟩

set_option maxHeartbeats 2000000 in
/-- The spoilt bytes of no State, or of a State and bytes of one's own: a copy of the bytes. -/
theorem spoilt_copy {w : World} (t b c : Int) (at_ more : Int) (sm tn : Bool) {A : Option Addr} {n c' : Nat} {q : List UInt8} (hq : Rda w A c' q) (hn : n = q.length) (hql : q.length ≤ 140737488351232) (hcase : mayB t b c = false ∨ 0 < q.length) :
    Calls Tryd.prog 14 #[.agg #[.int .i64 t, .int .i64 b, .int .i64 c], .agg #[.int .i64 at_, .int .i64 more, .bool sm, .bool tn, .slice A n c']] w fun e w' => ∃ A' c'', e = .returned (.slice A' q.length c'') ∧ New 5 w w' A' c'' q := by
  have hb0 : Below w.heap.size w ((w.alloc (.cells #[.int .i64 t, .int .i64 b, .int .i64 c] 30)).alloc (.cells #[.int .i64 at_, .int .i64 more, .bool sm, .bool tn, .slice A n c'] 38)) := ((Below.refl _ _).alloc (Nat.le_refl _) _).alloc (by simp) _
  have hr2 : RowC ((w.alloc (.cells #[.int .i64 t, .int .i64 b, .int .i64 c] 30)).alloc (.cells #[.int .i64 at_, .int .i64 more, .bool sm, .bool tn, .slice A n c'] 38)) (w.heap.size + 1) 38 [.int .i64 at_, .int .i64 more, .bool sm, .bool tn, .slice A n c'] := by
    have := heap_alloc_new (w.alloc (.cells #[.int .i64 t, .int .i64 b, .int .i64 c] 30)) (.cells #[.int .i64 at_, .int .i64 more, .bool sm, .bool tn, .slice A n c'] 38)
    have hz : (w.alloc (.cells #[.int .i64 t, .int .i64 b, .int .i64 c] 30)).heap.size = w.heap.size + 1 := by simp
    rw [hz] at this
    exact this
  have PB := fun W => refBytes7_any (w := W) t b c
  have HV : Hid (mayB t b c = false → mastE t b c = 30) := Lib.hid fun hm => if_neg (by rw [hm]; decide)
  have HV2 : Hid (mayB t b c = true → mastE t b c = 0) := Lib.hid fun hm => if_pos hm
  obtain ⟨V, hV⟩ : ∃ V, mastV t b c = V := ⟨_, rfl⟩
  obtain ⟨E, hE⟩ : ∃ E, mastE t b c = E := ⟨_, rfl⟩
  rw [hE] at HV HV2
  have HPB : Hid (∀ W, Calls Tryd.prog 9 #[.agg #[.int .i64 t, .int .i64 b, .int .i64 c]] W fun e w' => ∃ A c', e = .returned (.tuple #[.slice A V.length c', .int .i64 E]) ∧ New 5 W w' A c' V) := Lib.hid fun W => by
    have := PB W
    rw [hV, hE] at this
    exact this
  obtain ⟨SZ, hSZ⟩ : ∃ SZ, w.heap.size + 1 = SZ := ⟨_, rfl⟩
  rw [hSZ] at hr2
  have HSZ := Lib.hid hSZ
  have HR2 := Lib.hid hr2
  have HB0 := Lib.hid hb0
  have HQ := Lib.hid (hq.below hb0)
  subst hn
  clear PB hV hE hr2 hb0 hSZ hq
  cases hm : mayB t b c with
  | false =>
    obtain rfl := HV.out hm
    clear HV HV2 hcase hm
    go_enter Tryd.func14, Tryd.ntmps14
    go_wp2_with fail
    refine (HPB.out _).mono ?_
    rintro e w3 ⟨A3, c3, rfl, N3⟩
    have hb3 := below_then HB0.out N3.below
    have hr3 := HR2.out.below N3.below
    have hq3 := HQ.out.below N3.below
    have x4 := hr3.cell (j := 4) (v := .slice A q.length c') rfl
    have hnil := Own8.nilRow w3 w3.heap.size 5
    have HSZ2 := HSZ
    rw [← HSZ.out] at x4
    clear N3 hr3
    go_wp2_with (at_builtin; refine wpList_app (l := []) (m := q) _ rfl _ _ rfl tU8 rfl hnil rfl rfl hq3 (by simp; omega) (Nat.le_refl _) ?_)
    intro v4 w4 o4 hg4
    have hb4 := hnil.grown hg4 (Below.refl w3.heap.size w3) (Nat.le_refl _) (Nat.le_refl _)
    obtain ⟨A4, c4, rfl, _⟩ := own_rda o4
    have HN := Lib.hid (show New 5 w w4 A4 c4 q from ⟨Own8.mono o4 hb3.size, below_then hb3 hb4⟩)
    clear hnil hg4 hb4 o4 hb3 hq3
    go_wp2_with fail
    go_ret
    exact ⟨A4, c4, rfl, HN.out⟩
  | true =>
    obtain rfl := HV2.out hm
    have hq0 : 0 < q.length := by rcases hcase with h | h; · rw [hm] at h; cases h
                                  · exact h
    have hq1 : (0 : Int) < (q.length : Int) := by omega
    clear HV HV2 hcase hm
    go_enter Tryd.func14, Tryd.ntmps14
    go_wp2_with fail
    refine (HPB.out _).mono ?_
    rintro e w3 ⟨A3, c3, rfl, N3⟩
    have hb3 := below_then HB0.out N3.below
    have hr3 := HR2.out.below N3.below
    have hq3 := HQ.out.below N3.below
    have x4 := hr3.cell (j := 4) (v := .slice A q.length c') rfl
    have hnil := Own8.nilRow w3 w3.heap.size 5
    rw [← HSZ.out] at x4
    clear N3 hr3
    go_wp2_with (at_builtin; refine wpList_app (l := []) (m := q) _ rfl _ _ rfl tU8 rfl hnil rfl rfl hq3 (by simp; omega) (Nat.le_refl _) ?_)
    intro v4 w4 o4 hg4
    have hb4 := hnil.grown hg4 (Below.refl w3.heap.size w3) (Nat.le_refl _) (Nat.le_refl _)
    obtain ⟨A4, c4, rfl, _⟩ := own_rda o4
    have HN := Lib.hid (show New 5 w w4 A4 c4 q from ⟨Own8.mono o4 hb3.size, below_then hb3 hb4⟩)
    clear hnil hg4 hb4 o4 hb3 hq3
    go_wp2_with fail
    go_ret
    exact ⟨A4, c4, rfl, HN.out⟩
end Go.Proofs.YtgelgjghmoddoaaDoor
