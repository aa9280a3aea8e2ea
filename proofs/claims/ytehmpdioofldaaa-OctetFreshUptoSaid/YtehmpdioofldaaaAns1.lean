import Derived.Test.YtehmpdioofldaaaOctRd
import Derived.Test.YtehmpdioofldaaaLaw1
import Derived.Test.YtehmpdioofldaaaPool
import Derived.Test.YtehmpdioofldaaaAppC
/- 'answers' of the laws of layer 1. -/
set_option linter.unusedVariables false
set_option linter.unusedSimpArgs false
namespace Go.Proofs.Ytehmpdioofldaaa
open Go.RowKit Go.Tm
set_option maxHeartbeats 400000
set_option maxRecDepth 100000

/-- The eight answers. -/
def ansL (l k : List UInt8) (x : Int) : List (List UInt8) :=
  [l ++ leB 8 x.toNat, l ++ leB 1 (x % 256).toNat, cat [l, k], cat [l], cat [k, l, k], l.take (l.length / 2), l.drop (l.length / 2), l]
/-- What 'answers' leaves: a row of eight slices, each new memory, apart from one another. -/
structure AnsIs (w w' : World) (g cap : Nat) (rs : List PRow) (ls : List (List UInt8)) : Prop where
  row : w'.ownsRow w.heap.size 22 1 (.slice (some ⟨g, 0, none⟩) 8 cap) 8 (rs.map pv)
  pool : Pool w' w.heap.size 5 rs
  lists : rs.map (fun r => r.2.2) = ls
  below : Below w.heap.size w w'

theorem info_rows : ∃ i, Try.prog.info? 22 = some i ∧ i.zero = some (.slice none 0 0) ∧ i.size = 1 ∧ i.bytes = 24 := by
  obtain ⟨i, h1, h2, h3, h4⟩ := info_parts (P := Try.prog) (e := 22) (z := .slice none 0 0) (size := 1) (bytes := 24) (by kernel_rfl)
  exact ⟨i, h1, h2, h3, h4⟩

set_option maxHeartbeats 800000 in
theorem answers_any {w : World} {A B : Option Addr} {n m c d : Nat} {l k : List UInt8} (h : Rda w A c l) (h2 : Rda w B d k) (hn : n = l.length) (hm : m = k.length) (hl : l.length ≤ 1099511627776) (hk : k.length ≤ 1099511627776) (x : Int) (hx0 : 0 ≤ x) (hx1 : x < 18446744073709551616) :
    Calls Try.prog 5 #[.slice A n c, .slice B m d, .int .u64 x] w fun e w' => ∃ g cap rs, e = .returned (.slice (some ⟨g, 0, none⟩) 8 cap) ∧ AnsIs w w' g cap rs (ansL l k x) := by
  subst hn hm
  have HX : Lt64 x := ⟨hx0, hx1⟩
  clear hx1
  obtain ⟨Q1, hQ1⟩ : ∃ Q, l ++ leB 8 x.toNat = Q := ⟨_, rfl⟩
  obtain ⟨Q2, hQ2⟩ : ∃ Q, l ++ leB 1 (x % 256).toNat = Q := ⟨_, rfl⟩
  obtain ⟨Q3, hQ3⟩ : ∃ Q, cat [l, k] = Q := ⟨_, rfl⟩
  obtain ⟨Q4, hQ4⟩ : ∃ Q, cat [l] = Q := ⟨_, rfl⟩
  obtain ⟨Q5, hQ5⟩ : ∃ Q, cat [k, l, k] = Q := ⟨_, rfl⟩
  have H1 := Lib.hid hQ1
  have H2 := Lib.hid hQ2
  have H3 := Lib.hid hQ3
  have H4 := Lib.hid hQ4
  have H5 := Lib.hid hQ5
  clear hQ1 hQ2 hQ3 hQ4 hQ5
  have C1 := put8_any h rfl (by omega) x HX.lo HX.hi
  rw [H1.out] at C1
  have HC1 := Lib.hid C1
  clear C1
  go_enter Try.func5, Try.ntmps5
  go_wp2_with fail
  refine HC1.out.mono ?_
  rintro e w1 ⟨A1, c1, rfl, hN⟩
  have P1 := (Pool.nil w w.heap.size 5).push hN (Nat.le_refl _)
  have bb1 := hN.below
  clear hN
  go_wp2_with fail
  have C2 := put1_any (h.below bb1) rfl (by omega) (x % 256) (by omega) (by omega)
  rw [H2.out] at C2
  refine C2.mono ?_
  clear C2
  rintro e w2 ⟨A2, c2, rfl, hN⟩
  have P2 := P1.push hN bb1.size
  have bb2 := below_then bb1 hN.below
  clear hN P1 bb1
  have h1 := h.below bb2
  have k1 := h2.below bb2
  go_wp2_with fail
  have C3 := join_any ((((RowVals.nil w2).cons k1 rfl).cons h1 rfl).rows 22 2 rfl (by simp) rfl) (n := 2) rfl (by simp [cat]; omega)
  rw [H3.out] at C3
  refine C3.mono ?_
  clear C3
  rintro e w3 ⟨A3, c3, rfl, hN⟩
  have P3 := (P2.below ((Below.refl _ w2).alloc (Nat.le_refl _) _)).push hN (by simp; exact Nat.le_trans bb2.size (by omega))
  have bb3 := below_then (bb2.alloc bb2.size _) hN.below
  clear hN P2 bb2 h1 k1
  have h1 := h.below bb3
  go_wp2_with fail
  have C4 := join_any (((RowVals.nil w3).cons h1 rfl).rows 22 1 rfl (by simp) rfl) (n := 1) rfl (by simp [cat]; omega)
  rw [H4.out] at C4
  refine C4.mono ?_
  clear C4
  rintro e w4 ⟨A4, c4, rfl, hN⟩
  have P4 := (P3.below ((Below.refl _ w3).alloc (Nat.le_refl _) _)).push hN (by simp; exact Nat.le_trans bb3.size (by omega))
  have bb4 := below_then (bb3.alloc bb3.size _) hN.below
  clear hN P3 bb3 h1
  have h1 := h.below bb4
  have k1 := h2.below bb4
  go_wp2_with fail
  have C5 := join_any (((((RowVals.nil w4).cons k1 rfl).cons h1 rfl).cons k1 rfl).rows 22 3 rfl (by simp) rfl) (n := 3) rfl (by simp [cat]; omega)
  rw [H5.out] at C5
  refine C5.mono ?_
  clear C5
  rintro e w5 ⟨A5, c5, rfl, hN⟩
  have P5 := (P4.below ((Below.refl _ w4).alloc (Nat.le_refl _) _)).push hN (by simp; exact Nat.le_trans bb4.size (by omega))
  have bb5 := below_then (bb4.alloc bb4.size _) hN.below
  clear hN P4 bb4 h1 k1
  simp only [List.cons_append, List.nil_append] at P5
  have hal := (Below.refl w5.heap.size w5).alloc (Nat.le_refl _) (.cells #[.slice A1 Q1.length c1, .slice A2 Q2.length c2, .slice A3 Q3.length c3, .slice A4 Q4.length c4, .slice A5 Q5.length c5] 22)
  have hrow := heap_alloc_new w5 (.cells #[.slice A1 Q1.length c1, .slice A2 Q2.length c2, .slice A3 Q3.length c3, .slice A4 Q4.length c4, .slice A5 Q5.length c5] 22)
  have P6 := P5.below hal
  have bb6 := below_then bb5 hal
  have hz5 := bb5.size
  clear P5 hal bb5
  go_wp2_with fail
  refine (newReader_any (h.below bb6) rfl (by omega)).mono ?_
  rintro e w6 ⟨r, rfl, hr0, hr, hb6⟩
  have P7 := P6.below hb6
  have bb7 := below_then bb6 hb6
  have row7 := (hb6.block _ (by simp)).trans hrow
  have hz6 := hb6.size
  clear P6 bb6 hrow hb6
  go_wp2_with fail
  refine (newReader_any (h.below bb7) rfl (by omega)).mono ?_
  rintro e w7 ⟨s, rfl, hs0, hs, hb7⟩
  have P8 := P7.below hb7
  have bb8 := below_then bb7 hb7
  have row8 := (hb7.block _ (Array.getElem?_eq_some_iff.1 row7).1).trans row7
  have hr7 := hr.below hb7
  have hrs : r ≠ s := by have := hr.lt; omega
  have hgr : w5.heap.size < r := by simp at hr0; omega
  have hgs : w5.heap.size < s := by have := hr.lt; omega
  have hz7 := hb7.size
  clear P7 bb7 row7 hr hb7 hr0 hs0
  have e1 : rowE ((l.length / 2 : Nat) : Int) l = 0 := by unfold rowE; rw [if_neg (by omega), if_neg (by omega)]
  have e2 : rowV ((l.length / 2 : Nat) : Int) l = l.take (l.length / 2) := by unfold rowV; rw [if_pos e1, Int.toNat_natCast]
  have e3 : rowL ((l.length / 2 : Nat) : Int) l = l.drop (l.length / 2) := by unfold rowL; rw [if_pos e1, Int.toNat_natCast]
  have d1 : rowE ((l.length - l.length / 2 : Nat) : Int) (l.drop (l.length / 2)) = 0 := by unfold rowE; rw [List.length_drop, if_neg (by omega), if_neg (by omega)]
  have d2 : rowV ((l.length - l.length / 2 : Nat) : Int) (l.drop (l.length / 2)) = l.drop (l.length / 2) := by unfold rowV; rw [if_pos d1, Int.toNat_natCast, List.take_of_length_le (by rw [List.length_drop]; omega)]
  have f1 : rowE ((l.length : Nat) : Int) l = 0 := by unfold rowE; rw [if_neg (by omega), if_neg (by omega)]
  have f2 : rowV ((l.length : Nat) : Int) l = l := by unfold rowV; rw [if_pos f1, Int.toNat_natCast, List.take_of_length_le (Nat.le_refl _)]
  obtain ⟨T1, hT1⟩ : ∃ T, l.take (l.length / 2) = T := ⟨_, rfl⟩
  obtain ⟨T2, hT2⟩ : ∃ T, l.drop (l.length / 2) = T := ⟨_, rfl⟩
  have HT1 := Lib.hid hT1
  have HT2 := Lib.hid hT2
  have hT2l : T2.length ≤ l.length := by rw [← hT2, List.length_drop]; omega
  rw [hT1] at e2
  rw [hT2] at e3 d1 d2
  have PR := row_any hr7 ((l.length / 2 : Nat) : Int) (by omega) (by omega)
  rw [e1, e2, e3] at PR
  have HPR := Lib.hid PR
  have hq1 : ((l.length : Int) / 2) = ((l.length / 2 : Nat) : Int) := by omega
  have hq2 : (l.length : Int).tdiv 2 = ((l.length / 2 : Nat) : Int) := by rw [Int.tdiv_eq_ediv_of_nonneg (by omega)]; omega
  have hq3 : ((l.length : Int) - (l.length : Int) / 2) = ((l.length - l.length / 2 : Nat) : Int) := by omega
  have hq4 : ((l.length : Int) - (l.length : Int).tdiv 2) = ((l.length - l.length / 2 : Nat) : Int) := by rw [Int.tdiv_eq_ediv_of_nonneg (by omega)]; omega
  have HQ1 := Lib.hid hq1
  have HQ2 := Lib.hid hq2
  have HQ3 := Lib.hid hq3
  have HQ4 := Lib.hid hq4
  have HD1 := Lib.hid d1
  have HD2 := Lib.hid d2
  have HF1 := Lib.hid f1
  have HF2 := Lib.hid f2
  have HR7 := Lib.hid hr7
  clear PR e1 e2 e3 hT1 hT2 hq1 hq2 hq3 hq4 d1 d2 f1 f2 hr7
  go_wp2_with fail
  first
    | rw [HQ1.out]
    | rw [HQ2.out]
    | skip
  refine HPR.out.mono ?_
  rintro e w8 ⟨A6, c6, rfl, hN6, hr8⟩
  have P9 := P8.pushR hN6 HR7.out (by decide) bb8.size
  have hs8 := hs.boxed HR7.out (fun e => hrs e.symm) hN6.grown
  have row9 := (hN6.grown.block _ (Array.getElem?_eq_some_iff.1 row8).1 (fun e => by injection e with e; omega)).trans row8
  have bb9 := bb8.grown hN6.grown bb8.size (fun q e => by injection e with e; omega)
  have PR := row_any hr8 ((l.length - l.length / 2 : Nat) : Int) (by omega) (by omega)
  rw [HD1.out, HD2.out] at PR
  have HPR2 := Lib.hid PR
  have HR8 := Lib.hid hr8
  clear P8 hs row8 bb8 hN6 HPR PR hr8 HR7
  go_wp2_with fail
  first
    | rw [HQ3.out]
    | rw [HQ4.out]
    | skip
  refine HPR2.out.mono ?_
  rintro e w9 ⟨A7, c7, rfl, hN7, _⟩
  have P10 := P9.pushR hN7 HR8.out (by decide) bb9.size
  have hs9 := hs8.boxed HR8.out (fun e => hrs e.symm) hN7.grown
  have row10 := (hN7.grown.block _ (Array.getElem?_eq_some_iff.1 row9).1 (fun e => by injection e with e; omega)).trans row9
  have bb10 := bb9.grown hN7.grown bb9.size (fun q e => by injection e with e; omega)
  have PR := row_any hs9 ((l.length : Nat) : Int) (by omega) (by omega)
  rw [HF1.out, HF2.out] at PR
  have HPR3 := Lib.hid PR
  have HS9 := Lib.hid hs9
  clear P9 hs8 row9 bb9 hN7 HPR2 PR hs9 HR8
  go_wp2_with fail
  refine HPR3.out.mono ?_
  rintro e w10 ⟨A8, c8, rfl, hN8, _⟩
  have P11 := P10.pushR hN8 HS9.out (by decide) bb10.size
  have row11 := (hN8.grown.block _ (Array.getElem?_eq_some_iff.1 row10).1 (fun e => by injection e with e; omega)).trans row10
  have bb11 := bb10.grown hN8.grown bb10.size (fun q e => by injection e with e; omega)
  simp only [List.cons_append, List.nil_append] at P11
  have hown : w10.ownsRow w.heap.size 22 1 (.slice (some ⟨w5.heap.size, 0, none⟩) 5 5) 5 [.slice A1 Q1.length c1, .slice A2 Q2.length c2, .slice A3 Q3.length c3, .slice A4 Q4.length c4, .slice A5 Q5.length c5] :=
    ⟨by simp, .inr ⟨w5.heap.size, 5, _, rfl, hz5, row11, by omega, by unfold maxLen; omega, by simp, by simp⟩⟩
  have hnew := heap_alloc_new w10 (.cells #[.slice A6 T1.length c6, .slice A7 T2.length c7, .slice A8 l.length c8] 22)
  have hoa := hown.alloc (.cells #[.slice A6 T1.length c6, .slice A7 T2.length c7, .slice A8 l.length c8] 22)
  have P12 := P11.below ((Below.refl w10.heap.size w10).alloc (Nat.le_refl _) (.cells #[.slice A6 T1.length c6, .slice A7 T2.length c7, .slice A8 l.length c8] 22))
  have bb12 := bb11.alloc bb11.size (.cells #[.slice A6 T1.length c6, .slice A7 T2.length c7, .slice A8 l.length c8] 22)
  have hz12 := bb11.size
  have hgb : (w10.alloc (.cells #[.slice A6 T1.length c6, .slice A7 T2.length c7, .slice A8 l.length c8] 22)).heap[w5.heap.size]? = some (.cells #[.slice A1 Q1.length c1, .slice A2 Q2.length c2, .slice A3 Q3.length c3, .slice A4 Q4.length c4, .slice A5 Q5.length c5] 22 (0, 0)) := (Below.heap_alloc _ _ _ (Array.getElem?_eq_some_iff.1 row11).1).trans row11
  clear P10 row10 bb10 hN8 HPR3 HS9 P11 row11 bb11 hown
  go_wp2_with (at_builtin; refine wpList_appC _ rfl _ _ 24 rfl w.heap.size 22 (z := .slice none 0 0) (size := 1) (bytes := 24) Try.underlying24 (by kernel_rfl) rfl (by decide) _ 5 _ rfl hoa ⟨w10.heap.size, 0, none⟩ 3 3 [.slice A6 T1.length c6, .slice A7 T2.length c7, .slice A8 l.length c8] rfl rfl ?c1 ?c2 ?c3 ?c4 ?c5 ?_)
  case c1 =>
    intro j u hj
    rw [Addr.add_lit, Nat.zero_add]
    unfold World.cell?
    rw [hnew]
    simpa using hj
  case c2 =>
    intro u hu
    simp at hu
    rcases hu with rfl | rfl | rfl <;> rfl
  case c3 => unfold maxLen; omega
  case c4 => omega
  case c5 => simp; omega
  intro v' w11 hown' hgrow _
  obtain ⟨g, cap, rfl⟩ := ownsRow_succ (k := 7) hown'
  have P13 := P12.other hgrow (T := 22) (by decide) (fun q hq _ => by
    have : q = w5.heap.size := by simpa [Value.ownBlock] using hq.symm
    subst this
    exact ⟨_, hgb⟩)
  have bb13 := below_own bb12 (by simp; omega) hoa hgrow
  have HA : Hid (AnsIs w w11 g cap [(A1, c1, Q1), (A2, c2, Q2), (A3, c3, Q3), (A4, c4, Q4), (A5, c5, Q5), (A6, c6, T1), (A7, c7, T2), (A8, c8, l)] (ansL l k x)) := Lib.hid ⟨hown', P13, by unfold ansL; rw [H1.out, H2.out, H3.out, H4.out, H5.out, HT1.out, HT2.out]; rfl, bb13⟩
  clear P12 P13 bb12 bb13 hown' hgrow hoa hgb hnew
  go_wp2_with fail
  go_ret
  exact ⟨_, _, _, rfl, HA.out⟩
end Go.Proofs.Ytehmpdioofldaaa
