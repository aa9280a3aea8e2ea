import Derived.Test.YtehmpdioofldaaaLaw1
import Derived.Test.YtehmpdioofldaaaRow
import Derived.Test.YtehmpdioofldaaaReads2
/- OctetReads: the walk. -/
set_option linter.unusedVariables false
set_option linter.unusedSimpArgs false
namespace Go.Proofs.Ytehmpdioofldaaa
open Go.RowKit Go.Tm Go.ChangeShapes Go.WideShapes Go.ChangeAt
set_option maxHeartbeats 400000
set_option maxRecDepth 100000
attribute [local go_sem ↓] Go.wp_at_zero Go.wp_at_succ

theorem row_kept {w w' : World} {S : Nat → Prop} (hk : KeptBut S w w') {g : Nat} {o : Obj} (h : w.heap[g]? = some o) (hS : ¬ S g) : w'.heap[g]? = some o := (hk.block g (Array.getElem?_eq_some_iff.1 h).1 hS).trans h
theorem cell_of {V : World} {g : Nat} {cs : List Value} {T : TypeId} (hb : V.heap[g]? = some (.cells cs.toArray T (0, 0))) {j : Nat} {v : Value} (hj : cs[j]? = some v) : V.cell? ⟨g, j, none⟩ = some v := by simp [World.cell?, hb, hj]

set_option maxHeartbeats 8000000 in
theorem octetReads_any {w : World} {A B C : Option Addr} {n m c d e0 : Nat} {a b : List UInt8} {sc : List (Bool × Int × Int)} (h : Rda w A c a) (h2 : Rda w B d b) (hn : n = a.length) (hm : m = b.length) (ha : a.length ≤ 140737488351232) (hb : b.length ≤ 140737488351232) (hs : StepsR w C e0 sc) :
    Calls Try.prog 4 #[.slice A n c, .slice B m d, .slice C sc.length e0] w fun e w' => e = .returned (.bool true) ∧ Below w.heap.size w w' := by
  subst hn hm
  go_enter Try.func4, Try.ntmps4
  go_wp2_with (at_builtin; refine wpList_app2 (l := []) (m := a) rfl _ _ rfl tU8 rfl (Own8.nilRow w w.heap.size 5) rfl rfl h (by simp; omega) (Nat.le_refl _) ?_)
  intro v1 w1 o1 hw1
  try rw [List.nil_append] at o1
  have bb1 : Below w.heap.size w w1 := grown_below hw1.grown (Nat.le_refl _) (fun k hk => by simp [Value.ownBlock] at hk)
  have r1 := h2.below bb1
  clear hw1
  go_wp2_with (at_builtin; refine wpList_app2 (l := []) (m := b) rfl _ _ rfl tU8 rfl (Own8.nilRow w1 w1.heap.size 5) rfl rfl r1 (by simp; omega) (Nat.le_refl _) ?_)
  intro v2 w2 o2 hw2
  try rw [List.nil_append] at o2
  have bb12 : Below w1.heap.size w1 w2 := grown_below hw2.grown (Nat.le_refl _) (fun k hk => by simp [Value.ownBlock] at hk)
  have bb2 := below_then bb1 bb12
  have o1' := o1.below bb12
  have hlt1 := World.ownsRow.lt o1
  have hlt2 := World.ownsRow.lt o2
  have hz1 := bb1.size
  have hz2 := bb12.size
  obtain ⟨A1, c1, rfl, f1⟩ := own_rda o1'
  obtain ⟨A2, c2, rfl, f2⟩ := own_rda o2
  clear hw2 r1 bb1 o1 bb12
  go_wp2_with fail
  refine (newReaderB_any f1 rfl (by omega)).mono ?_
  rintro e w3 ⟨p1, rfl, hp1, hp1', hP1, hb3⟩
  have bb3 := below_then bb2 hb3
  go_wp2_with fail
  refine (refNewReaderB_any (h.below bb3) rfl (by omega)).mono ?_
  rintro e w4 ⟨r1, rfl, hr1, hr1', hR1, hb4⟩
  have hz3 := hb3.size
  have hz4 := hb4.size
  have D1 : DuoB w4 p1 r1 w2.heap.size a := by
    obtain ⟨A', c', q1, q2, q3⟩ := hP1
    obtain ⟨B', d', full, k, s1, s2, s3, s4, s5, s6⟩ := hR1
    exact ⟨⟨A', c', (hb4.block p1 hp1').trans q1, q2.below hb4, q3⟩, ⟨B', d', full, k, s1, s2, s3, s4, s5, fun x hx => by have := s6 x hx; omega⟩, hp1, by omega⟩
  have bb4 := below_then bb3 hb4
  have ha4 := (Below.refl w4.heap.size w4).alloc (Nat.le_refl _) (.cells #[.pointer (some ⟨p1, 0, none⟩), .pointer (some ⟨r1, 0, none⟩)] 37)
  have B9 := heap_alloc_new w4 (.cells #[.pointer (some ⟨p1, 0, none⟩), .pointer (some ⟨r1, 0, none⟩)] 37)
  have bb5 := below_then bb4 ha4
  have o25 := (o2.below (hb3.trans (hb4.mono hz3))).below ha4
  have o15 := (o1'.below (hb3.trans (hb4.mono hz3))).below ha4
  have D15 := D1.below ha4
  have f25 := (f2.below (hb3.trans (hb4.mono hz3))).below ha4
  have hz5 : (w4.alloc (.cells #[.pointer (some ⟨p1, 0, none⟩), .pointer (some ⟨r1, 0, none⟩)] 37)).heap.size = w4.heap.size + 1 := by simp
  clear hP1 hR1 hb3 hb4 bb3 bb4 D1 o2 o1' f1 f2 ha4
  go_wp2_with fail
  refine (newReaderB_any f25 rfl (by omega)).mono ?_
  rintro e w6 ⟨p2, rfl, hp2, hp2', hP2, hb6⟩
  have bb6 := below_then bb5 hb6
  go_wp2_with fail
  refine (refNewReaderB_any (h2.below bb6) rfl (by omega)).mono ?_
  rintro e w7 ⟨r2, rfl, hr2, hr2', hR2, hb7⟩
  have hz6 := hb6.size
  have hz7 := hb7.size
  have D2 : DuoB w7 p2 r2 w2.heap.size b := by
    obtain ⟨A', c', q1, q2, q3⟩ := hP2
    obtain ⟨B', d', full, k, s1, s2, s3, s4, s5, s6⟩ := hR2
    exact ⟨⟨A', c', (hb7.block p2 hp2').trans q1, q2.below hb7, fun x hx => by have := q3 x hx; omega⟩, ⟨B', d', full, k, s1, s2, s3, s4, s5, fun x hx => by have := s6 x hx; omega⟩, by omega, by omega⟩
  have b67 := hb6.trans (hb7.mono hz6)
  have D17 := D15.below b67
  have B97 := (b67.block w4.heap.size (Array.getElem?_eq_some_iff.1 B9).1).trans B9
  have o17 := o15.below b67
  have o27 := o25.below b67
  have bb7 := below_then bb6 hb7
  have ha8 := (Below.refl w7.heap.size w7).alloc (Nat.le_refl _) (.cells #[.pointer (some ⟨p2, 0, none⟩), .pointer (some ⟨r2, 0, none⟩)] 37)
  have B10 := heap_alloc_new w7 (.cells #[.pointer (some ⟨p2, 0, none⟩), .pointer (some ⟨r2, 0, none⟩)] 37)
  have D18 := D17.below ha8
  have D28 := D2.below ha8
  have B98 := (ha8.block w4.heap.size (Array.getElem?_eq_some_iff.1 B97).1).trans B97
  have o18 := o17.below ha8
  have o28 := o27.below ha8
  have bb8 := below_then bb7 ha8
  have hz8 : (w7.alloc (.cells #[.pointer (some ⟨p2, 0, none⟩), .pointer (some ⟨r2, 0, none⟩)] 37)).heap.size = w7.heap.size + 1 := by simp
  have x0 := cell_of (cs := [.pointer (some ⟨p1, 0, none⟩), .pointer (some ⟨r1, 0, none⟩)]) B98 (j := 0) rfl
  have y0 := cell_of (cs := [.pointer (some ⟨p2, 0, none⟩), .pointer (some ⟨r2, 0, none⟩)]) B10 (j := 0) rfl
  have HN1 : Hid (p1 < w4.heap.size ∧ r1 < w4.heap.size ∧ p1 < r1 ∧ w4.heap.size < p2 ∧ p2 < r2 ∧ r2 < w7.heap.size ∧ w2.heap.size ≤ p1) := Lib.hid (by omega)
  clear hP2 hR2 hb6 hb7 bb6 bb7 D2 D15 D17 B9 B97 o15 o17 o25 o27 bb5 f25 b67 ha8 hp1 hp1' hr1 hr1' hp2 hp2' hr2 hr2' hz6 hz7
  go_wp2_with fail
  refine (known_any _).mono ?_
  rintro e w9 ⟨rfl, hb9⟩
  have D19 := D18.below hb9
  have D29 := D28.below hb9
  have B99 := (hb9.block w4.heap.size (Array.getElem?_eq_some_iff.1 B98).1).trans B98
  have B109 := (hb9.block w7.heap.size (Array.getElem?_eq_some_iff.1 B10).1).trans B10
  have o19 := o18.below hb9
  have o29 := o28.below hb9
  have bb9 := below_then bb8 hb9
  have hz9 := hb9.size
  clear D18 D28 B98 B10 o18 o28 bb8 hb9 x0 y0
  go_wp2_with fail
  go_loopw [11] (fun i wr => ∃ (j : Nat) (l' : List UInt8), j ≤ a.length ∧ i = .int .i64 j ∧ l'.length = a.length ∧ Own8 wr w.heap.size 5 (.slice A1 a.length c1) l' ∧ KeptBut (fun g => (Value.slice A1 a.length c1).ownBlock = some g) w9 wr) (fun i _ => a.length - (intOf i).toNat)
  case atStart => exact ⟨0, a, by omega, rfl, rfl, o19, KeptBut.refl _ _⟩
  case round =>
    obtain ⟨j, l', hj, rfl, hl', ho, hk⟩ := hrel
    obtain ⟨w10, rfl⟩ : ∃ w10 : World, w10 = wr := ⟨_, rfl⟩
    by_cases hjl : j < a.length
    · obtain ⟨g, rfl, hg⟩ := ho.block (by omega)
      have hfz := ho.unfrozen hl'.symm j
      have hcell := ho.cellAt hl'.symm j (by omega)
      obtain ⟨X, hX⟩ : ∃ X, (l'.getD j 0).toNat = X := ⟨_, rfl⟩
      rw [hX] at hcell
      obtain ⟨v, hv⟩ : ∃ v : UInt8, ((X : Int) + 1) % 256 = (v.toNat : Int) := ⟨_, tmByte0 _ (by omega) (by omega)⟩
      have hj0 : (0 : Int) ≤ (j : Int) := by omega
      have hj1 : (j : Int) < (a.length : Int) := by omega
      have hst := ho.stored hl'.symm j v
      have HS := Lib.hid hst.1
      have HK := Lib.hid (hk.grown hst.2 (fun k e => .inl e))
      clear hst hk ho hX
      go_wp2_with fail
      exact ⟨⟨j + 1, l'.set j v, by omega, by go_num, by rw [List.length_set]; exact hl', HS.out, HK.out⟩, by simp [intOf]; omega⟩
    · have he : j = a.length := by omega
      subst he
      have D110 := D19.but hk (fun g hg => by have := hlt1 g hg; omega)
      have D210 := D29.but hk (fun g hg => by have := hlt1 g hg; omega)
      have B910 := row_kept hk B99 (fun hg => by have := hlt1 _ hg; have := HN1.out; omega)
      have B1010 := row_kept hk B109 (fun hg => by have := hlt1 _ hg; have := HN1.out; omega)
      have o210 := hk.own o29 (fun k h1 h2 => by have := hlt1 k h2; have := hlt2 k h1; omega)
      have bb10 := bb9.trans (hk.toBelow (B := w.heap.size) (fun g hg => (hlt1 g hg).1) bb9.size)
      clear D19 D29 B99 B109 o19 o29 bb9 hk ho hl'
      go_wp2_with fail
      go_loopw [12] (fun i wr => ∃ (j : Nat) (l' : List UInt8), j ≤ b.length ∧ i = .int .i64 j ∧ l'.length = b.length ∧ Own8 wr w1.heap.size 5 (.slice A2 b.length c2) l' ∧ KeptBut (fun g => (Value.slice A2 b.length c2).ownBlock = some g) w10 wr) (fun i _ => b.length - (intOf i).toNat)
      case atStart => exact ⟨0, b, by omega, rfl, rfl, o210, KeptBut.refl _ _⟩
      case round =>
        obtain ⟨j, l', hj, rfl, hl', ho, hk⟩ := hrel
        obtain ⟨w11, rfl⟩ : ∃ w11 : World, w11 = wr := ⟨_, rfl⟩
        by_cases hjl : j < b.length
        · obtain ⟨g, rfl, hg⟩ := ho.block (by omega)
          have hfz := ho.unfrozen hl'.symm j
          have hcell := ho.cellAt hl'.symm j (by omega)
          obtain ⟨X, hX⟩ : ∃ X, (l'.getD j 0).toNat = X := ⟨_, rfl⟩
          rw [hX] at hcell
          obtain ⟨v, hv⟩ : ∃ v : UInt8, ((X : Int) + 1) % 256 = (v.toNat : Int) := ⟨_, tmByte0 _ (by omega) (by omega)⟩
          have hj0 : (0 : Int) ≤ (j : Int) := by omega
          have hj1 : (j : Int) < (b.length : Int) := by omega
          have hst := ho.stored hl'.symm j v
          have HS := Lib.hid hst.1
          have HK := Lib.hid (hk.grown hst.2 (fun k e => .inl e))
          clear hst hk ho hX
          go_wp2_with fail
          exact ⟨⟨j + 1, l'.set j v, by omega, by go_num, by rw [List.length_set]; exact hl', HS.out, HK.out⟩, by simp [intOf]; omega⟩
        · have he : j = b.length := by omega
          subst he
          have D111 := D110.but hk (fun g hg => (hlt2 g hg).2)
          have D211 := D210.but hk (fun g hg => (hlt2 g hg).2)
          have B911 := row_kept hk B910 (fun hg => by have := hlt2 _ hg; have := HN1.out; omega)
          have B1011 := row_kept hk B1010 (fun hg => by have := hlt2 _ hg; have := HN1.out; omega)
          have bb11 := bb10.trans (hk.toBelow (B := w.heap.size) (fun g hg => by have := (hlt2 g hg).1; omega) bb10.size)
          have E1 := D111.duo
          have E2 := D211.duo
          clear D110 D210 D111 D211 B910 B1010 bb10 hk ho hl' o210
          go_wp2_with fail
          go_loopw [13, 14] (fun i _ wr => ∃ (k : Nat) (l1 l2 : List UInt8), k ≤ sc.length ∧ i = .int .i64 k ∧ l1.length ≤ 140737488351232 ∧ l2.length ≤ 140737488351232 ∧ Duo wr p1 r1 l1 ∧ Duo wr p2 r2 l2 ∧ wr.heap[w4.heap.size]? = some (.cells #[.pointer (some ⟨p1, 0, none⟩), .pointer (some ⟨r1, 0, none⟩)] 37 (0, 0)) ∧ wr.heap[w7.heap.size]? = some (.cells #[.pointer (some ⟨p2, 0, none⟩), .pointer (some ⟨r2, 0, none⟩)] 37 (0, 0)) ∧ Below w.heap.size w wr) (fun i _ _ => sc.length - (intOf i).toNat)
          case atStart => exact ⟨0, a, b, by omega, rfl, ha, hb, E1, E2, B911, B1011, bb11⟩
          case round =>
            obtain ⟨k, l1, l2, hk, rfl, hl1, hl2, G1, G2, C9, C10, hbb⟩ := hrel
            obtain ⟨w12, rfl⟩ : ∃ w12 : World, w12 = wr := ⟨_, rfl⟩
            have hcap := hs.cap
            have hmax := hs.max
            unfold maxLen at hmax
            by_cases hkt : k < sc.length
            · obtain ⟨gs, os, rfl, hc⟩ := (hs.below hbb).cells (by omega)
              obtain ⟨gs0, os0, he0, hc0⟩ := hs.cells (by omega)
              have hgs : gs < w.heap.size := by
                injection he0 with he0
                injection he0 with e1 e2
                subst e1
                exact World.block_lt_of_cell? _ _ (hc0 0 _ (List.getElem?_eq_getElem (by omega))).1
              obtain ⟨z0, z1, z2⟩ := hc k sc[k] (List.getElem?_eq_getElem hkt)
              have hnn := hs.vals sc[k] (List.getElem_mem hkt)
              obtain ⟨⟨sec, kd, nn⟩, hx⟩ : ∃ x, sc[k] = x := ⟨_, rfl⟩
              rw [hx] at z0 z1 z2 hnn
              have m0 : (0 : Int) ≤ (k : Int) := by omega
              have m1 : (k : Int) < (sc.length : Int) := by omega
              have hbw := (Below.refl w12.heap.size w12).drew
              clear hc hc0 he0 hx
              cases sec with
              | true =>
                have x0 := cell_of (cs := [.pointer (some ⟨p2, 0, none⟩), .pointer (some ⟨r2, 0, none⟩)]) C10 (j := 0) rfl
                have x1 := cell_of (cs := [.pointer (some ⟨p2, 0, none⟩), .pointer (some ⟨r2, 0, none⟩)]) C10 (j := 1) rfl
                have Gd := G2.below hbw
                have hne : p2 ≠ r2 := by have := HN1.out; omega
                go_wp2_with fail
                go_region_held3 (fun w' => w'.cell? ⟨w7.heap.size, 0, none⟩ = some (.pointer (some ⟨p2, 0, none⟩)) ∧ w'.cell? ⟨w7.heap.size, 1, none⟩ = some (.pointer (some ⟨r2, 0, none⟩)) ∧ w'.cell? ⟨gs, os + k * 3, none⟩ = some (.bool true) ∧ w'.cell? ⟨gs, os + k * 3 + 1, none⟩ = some (.int .i64 kd) ∧ w'.cell? ⟨gs, os + k * 3 + 2, none⟩ = some (.int .i64 nn)) (first | go_keep | exact ⟨x0, x1, z0, z1, z2⟩ | exact ⟨t0, t1, t2, t3, t4⟩)
                  ((go_at_call 11; refine (step_any Gd hne (by omega) _ kd nn hnn).mono ?_; rintro e w13 ⟨rfl, l', hle, D', K'⟩; have KW : KeptBut (fun g => g = p2 ∨ g = r2) w12 w13 := ⟨K'.os, K'.tape, K'.output, K'.size, K'.block⟩; have t0 := KW.cell x0 (by have := HN1.out; simp; omega); have t1 := KW.cell x1 (by have := HN1.out; simp; omega); have t2 := KW.cell z0 (by have := HN1.out; simp; omega); have t3 := KW.cell z1 (by have := HN1.out; simp; omega); have t4 := KW.cell z2 (by have := HN1.out; simp; omega)))
                have F9 := row_kept KW C9 (by have := HN1.out; simp; omega)
                have F10 := row_kept KW C10 (by have := HN1.out; simp; omega)
                have Fo := G1.but G2 KW (by have := HN1.out; omega) (by have := HN1.out; omega) (by have := HN1.out; omega) (by have := HN1.out; omega)
                have Fb := hbb.trans (KW.toBelow (B := w.heap.size) (fun g hg => by have := HN1.out; omega) hbb.size)
                have HF := Lib.hid (And.intro D' (And.intro Fo (And.intro F9 (And.intro F10 Fb))))
                clear KW K' D' Fo F9 F10 Fb t0 t1 t2 t3 t4 x0 x1 z0 z1 z2 G1 G2 C9 C10 hbb Gd hbw
                go_wp2_with fail
                go_roundw
                case rel => exact ⟨k + 1, l1, l', by omega, by go_num, by omega, by omega, HF.out.2.1, HF.out.1, HF.out.2.2.1, HF.out.2.2.2.1, HF.out.2.2.2.2⟩
                case measure => simp [intOf]; omega
              | false =>
                have x0 := cell_of (cs := [.pointer (some ⟨p1, 0, none⟩), .pointer (some ⟨r1, 0, none⟩)]) C9 (j := 0) rfl
                have x1 := cell_of (cs := [.pointer (some ⟨p1, 0, none⟩), .pointer (some ⟨r1, 0, none⟩)]) C9 (j := 1) rfl
                have Gd := G1.below hbw
                have hne : p1 ≠ r1 := by have := HN1.out; omega
                go_wp2_with fail
                go_region_held3 (fun w' => w'.cell? ⟨w4.heap.size, 0, none⟩ = some (.pointer (some ⟨p1, 0, none⟩)) ∧ w'.cell? ⟨w4.heap.size, 1, none⟩ = some (.pointer (some ⟨r1, 0, none⟩)) ∧ w'.cell? ⟨gs, os + k * 3, none⟩ = some (.bool false) ∧ w'.cell? ⟨gs, os + k * 3 + 1, none⟩ = some (.int .i64 kd) ∧ w'.cell? ⟨gs, os + k * 3 + 2, none⟩ = some (.int .i64 nn)) (first | go_keep | exact ⟨x0, x1, z0, z1, z2⟩ | exact ⟨t0, t1, t2, t3, t4⟩)
                  ((go_at_call 11; refine (step_any Gd hne (by omega) _ kd nn hnn).mono ?_; rintro e w13 ⟨rfl, l', hle, D', K'⟩; have KW : KeptBut (fun g => g = p1 ∨ g = r1) w12 w13 := ⟨K'.os, K'.tape, K'.output, K'.size, K'.block⟩; have t0 := KW.cell x0 (by have := HN1.out; simp; omega); have t1 := KW.cell x1 (by have := HN1.out; simp; omega); have t2 := KW.cell z0 (by have := HN1.out; simp; omega); have t3 := KW.cell z1 (by have := HN1.out; simp; omega); have t4 := KW.cell z2 (by have := HN1.out; simp; omega)))
                have F9 := row_kept KW C9 (by have := HN1.out; simp; omega)
                have F10 := row_kept KW C10 (by have := HN1.out; simp; omega)
                have Fo := G2.but G1 KW (by have := HN1.out; omega) (by have := HN1.out; omega) (by have := HN1.out; omega) (by have := HN1.out; omega)
                have Fb := hbb.trans (KW.toBelow (B := w.heap.size) (fun g hg => by have := HN1.out; omega) hbb.size)
                have HF := Lib.hid (And.intro D' (And.intro Fo (And.intro F9 (And.intro F10 Fb))))
                clear KW K' D' Fo F9 F10 Fb t0 t1 t2 t3 t4 x0 x1 z0 z1 z2 G1 G2 C9 C10 hbb Gd hbw
                go_wp2_with fail
                go_roundw
                case rel => exact ⟨k + 1, l', l2, by omega, by go_num, by omega, by omega, HF.out.1, HF.out.2.1, HF.out.2.2.1, HF.out.2.2.2.1, HF.out.2.2.2.2⟩
                case measure => simp [intOf]; omega
            · have he : k = sc.length := by omega
              subst he
              have x0 := cell_of (cs := [.pointer (some ⟨p1, 0, none⟩), .pointer (some ⟨r1, 0, none⟩)]) C9 (j := 0) rfl
              have x1 := cell_of (cs := [.pointer (some ⟨p1, 0, none⟩), .pointer (some ⟨r1, 0, none⟩)]) C9 (j := 1) rfl
              have y0 := cell_of (cs := [.pointer (some ⟨p2, 0, none⟩), .pointer (some ⟨r2, 0, none⟩)]) C10 (j := 0) rfl
              have y1 := cell_of (cs := [.pointer (some ⟨p2, 0, none⟩), .pointer (some ⟨r2, 0, none⟩)]) C10 (j := 1) rfl
              have hbw := (Below.refl w12.heap.size w12).drew
              have J1 := G1.below hbw
              have J2 := G2.below hbw
              go_wp2_with fail
              go_region_held3 (fun w' => w'.cell? ⟨w4.heap.size, 0, none⟩ = some (.pointer (some ⟨p1, 0, none⟩)) ∧ w'.cell? ⟨w4.heap.size, 1, none⟩ = some (.pointer (some ⟨r1, 0, none⟩)) ∧ w'.cell? ⟨w7.heap.size, 0, none⟩ = some (.pointer (some ⟨p2, 0, none⟩)) ∧ w'.cell? ⟨w7.heap.size, 1, none⟩ = some (.pointer (some ⟨r2, 0, none⟩))) (first | go_keep | exact ⟨x0, x1, y0, y1⟩ | exact ⟨t0, t1, t2, t3⟩ | exact ⟨s0, s1, s2, s3⟩)
                (first
                  | (go_at_call 12; refine (left_any (by first | exact N2.P | exact J1.P)).mono ?_; rintro e wz ⟨rfl, rfl⟩)
                  | (go_at_call 13; refine (refLeft_any N2.R).mono ?_; rintro e w14 ⟨rfl, hb14⟩; have hb14' := below_then hb13' hb14; have s0 := (hb14'.cell (p := ⟨w4.heap.size, 0, none⟩) (World.block_lt_of_cell? _ _ x0)).trans x0; have s1 := (hb14'.cell (p := ⟨w4.heap.size, 1, none⟩) (World.block_lt_of_cell? _ _ x1)).trans x1; have s2 := (hb14'.cell (p := ⟨w7.heap.size, 0, none⟩) (World.block_lt_of_cell? _ _ y0)).trans y0; have s3 := (hb14'.cell (p := ⟨w7.heap.size, 1, none⟩) (World.block_lt_of_cell? _ _ y1)).trans y1)
                  | (go_at_call 13; refine (refLeft_any J1.R).mono ?_; rintro e w13 ⟨rfl, hb13⟩; have hb13' := below_then hbw hb13; have N2 := G2.below hb13'; have t0 := (hb13'.cell (p := ⟨w4.heap.size, 0, none⟩) (World.block_lt_of_cell? _ _ x0)).trans x0; have t1 := (hb13'.cell (p := ⟨w4.heap.size, 1, none⟩) (World.block_lt_of_cell? _ _ x1)).trans x1; have t2 := (hb13'.cell (p := ⟨w7.heap.size, 0, none⟩) (World.block_lt_of_cell? _ _ y0)).trans y0; have t3 := (hb13'.cell (p := ⟨w7.heap.size, 1, none⟩) (World.block_lt_of_cell? _ _ y1)).trans y1))
              have bbf := below_then hbb hb14'
              go_wp2_with fail
              go_ret
              exact ⟨rfl, bbf⟩

theorem octetReads_contract (H : Type) (enc : TypeId × Value → H) (W : World) (base : Nat) (args : Array Value) (ds gs : List (DataW H)) (before : List MemPlace)
    (hval0 : ∀ (j : Nat) t v, Try.f4.params[j]? = some t → args[j]? = some v → Value.okWide Try.prog W .any base t v)
    (hW : DataW.Whole enc Try.prog Try.f4.params.toList Rows.octetReadsSpec.vars false W args.toList ds gs before) (hsz : (DataW.weightsEach Try.checked.prog (Try.f4.params.toList ++ Rows.octetReadsSpec.plain.varTypes Try.checked.prog) (ds ++ gs)).all (· ≤ reachBytes) = true) :
    Calls Try.prog 4 args W fun e W' => ∃ v, e = .returned v ∧ Rows.octetReadsSpec.post enc Try.prog Try.f4 false true false false W args v W' := by
  have hval : ∀ (j : Nat) t v, Try.f4.params[j]? = some t → args[j]? = some v → Value.okWide Try.prog W .any base t v := hval0
  have hW' := hW
  obtain ⟨p, q, hA0, hV, rfl, hfz, hnd⟩ := hW
  have hA : DataW.TrodAll enc Try.prog W 0 (fun _ => true) true Try.f4.params.toList args.toList ds p := hA0
  rw [Try.params4] at hA hval
  obtain ⟨v0, vs0, d0, ds0, p0, q0, hargs, rfl, rfl, h0, rr0⟩ := trodAll_cons hA
  obtain ⟨v1, vs1, d1, ds1, p1, q1, rfl, rfl, rfl, h1, rr1⟩ := trodAll_cons rr0
  obtain ⟨v2, vs2, d2, ds2, p2, q2, rfl, rfl, rfl, h2, rr2⟩ := trodAll_cons rr1
  obtain ⟨rfl, rfl, rfl⟩ := trodAll_nil rr2
  obtain rfl : args = #[v0, v1, v2] := by cases args; simp_all
  obtain ⟨rfl, rfl⟩ := trodVars_none hV
  obtain ⟨a0, len0, cap0, rfl⟩ := okWide_slice Try.underlying22 (hval 0 22 v0 rfl rfl)
  have k0 := h0
  have lt0 : ∀ x ∈ p0, x.block < W.heap.size := by obtain ⟨m, hm⟩ := k0; exact DataW.trod_lt m _ _ _ hm
  obtain ⟨l0, n0, r0, dd0⟩ : ∃ l : List UInt8, len0 = l.length ∧ Rda W a0 cap0 l ∧ RowOf d0 l := by
    obtain ⟨fuel, hf⟩ := h0
    obtain ⟨A, l, c, hv, hr, hx⟩ := open_bytes tU8 (by kernel_rfl) (by simpa [Value.cells] using hf)
    obtain ⟨rfl, rfl, rfl⟩ : a0 = A ∧ len0 = l.length ∧ cap0 = c := by simpa using hv
    exact ⟨l, rfl, hr, hx⟩
  obtain ⟨a1, len1, cap1, rfl⟩ := okWide_slice Try.underlying22 (hval 1 22 v1 rfl rfl)
  have k1 := h1
  have lt1 : ∀ x ∈ p1, x.block < W.heap.size := by obtain ⟨m, hm⟩ := k1; exact DataW.trod_lt m _ _ _ hm
  obtain ⟨l1, n1, r1, dd1⟩ : ∃ l : List UInt8, len1 = l.length ∧ Rda W a1 cap1 l ∧ RowOf d1 l := by
    obtain ⟨fuel, hf⟩ := h1
    obtain ⟨A, l, c, hv, hr, hx⟩ := open_bytes tU8 (by kernel_rfl) (by simpa [Value.cells] using hf)
    obtain ⟨rfl, rfl, rfl⟩ : a1 = A ∧ len1 = l.length ∧ cap1 = c := by simpa using hv
    exact ⟨l, rfl, hr, hx⟩
  obtain ⟨a2, len2, cap2, rfl⟩ := okWide_slice Try.underlying31 (hval 2 31 v2 rfl rfl)
  have k2 := h2
  have lt2 : ∀ x ∈ p2, x.block < W.heap.size := by obtain ⟨m, hm⟩ := k2; exact DataW.trod_lt m _ _ _ hm
  obtain ⟨l2, n2, r2⟩ : ∃ l : List (Bool × Int × Int), len2 = l.length ∧ StepsR W a2 cap2 l := by
    obtain ⟨fuel, hf⟩ := h2
    obtain ⟨A, l, c, hv, hr⟩ := open_steps Try.underlying31 Try.underlying39 (by kernel_rfl) rfl rfl rfl (by kernel_rfl) (by kernel_rfl) (by kernel_rfl) Try.underlying4 Try.underlying3 Try.underlying3 (by simpa [Value.cells] using hf)
    obtain ⟨rfl, rfl, rfl⟩ : a2 = A ∧ len2 = l.length ∧ cap2 = c := by simpa using hv
    exact ⟨l, rfl, hr⟩
  have s0 : l0.length ≤ 140737488351232 := by
    rcases dd0 with ⟨_, h⟩ | ⟨zs, sp, hd, hl⟩
    · rw [h]; simp
    · subst hd
      have := sized_slice hsz (j := 0) (t := 22) (e := 5) rfl rfl Try.underlying22
      rw [show Try.checked.prog.bytesOf 5 = 1 from by kernel_rfl] at this
      unfold lits at this
      simp only [List.length_map] at this
      have h47 : reachBytes ≤ 140737488351232 := by decide
      omega
  have s1 : l1.length ≤ 140737488351232 := by
    rcases dd1 with ⟨_, h⟩ | ⟨zs, sp, hd, hl⟩
    · rw [h]; simp
    · subst hd
      have := sized_slice hsz (j := 1) (t := 22) (e := 5) rfl rfl Try.underlying22
      rw [show Try.checked.prog.bytesOf 5 = 1 from by kernel_rfl] at this
      unfold lits at this
      simp only [List.length_map] at this
      have h47 : reachBytes ≤ 140737488351232 := by decide
      omega
  clear hA0 hval0
  refine ((n2 ▸ octetReads_any r0 r1 n0 n1 (by omega) (by omega) r2)).mono fun e W' ⟨he, bel⟩ => ?_
  subst he
  exact ⟨_, rfl, _, _, _, [], _, [], hW', trodAll_mk1 (shut_bool Try.underlying4 _), (trodAll_cons_mk (Below.trod laid_out (by kernel_rfl) (of_decide_eq_true (by kernel_rfl)) k0 bel lt0) (trodAll_cons_mk (Below.trod laid_out (by kernel_rfl) (of_decide_eq_true (by kernel_rfl)) k1 bel lt1) (trodAll_cons_mk (Below.trod laid_out (by kernel_rfl) (of_decide_eq_true (by kernel_rfl)) k2 bel lt2) trodAll_mk0))), rfl, bel.frame _, fun h => by cases h⟩

theorem octetReads_lifted (os : Os) (started : os.Started) (H : Type) (enc : TypeId × Value → H) :
    ReturnsInHanded {} Try.checked os 4 .any (Rows.octetReadsSpec.pre6 enc Try.prog Try.f4 Rows.octetReadsRow.domain false) (Rows.octetReadsSpec.post enc Try.prog Try.f4 false true false false) := by
  refine returnsInHanded_of_change_sized (C := Try.checked) own_knob started (by kernel_rfl) Try.func4
    (ChangeSpec.witness6 (enc := enc) (C := Try.checked) false ⟨#[], #[.slice none 0 0, .slice none 0 0, .slice none 0 0], []⟩ 8 (by kernel_rfl) (by kernel_rfl) (by kernel_rfl) (by kernel_rfl)) ?_
  intro W base args ds gs before hval hW _ hsz _
  exact octetReads_contract H enc W base args ds gs before hval hW hsz

theorem octetReads_holds : Rows.OctetReadsSaid :=
  OpenClaim.holds_of_wide 4 Try.f4 rfl rfl rfl rfl rfl rfl rfl ⟨rfl, rfl, rfl, rfl, rfl⟩ rfl rfl rfl rfl rfl (by kernel_rfl) Try.func4 (by kernel_rfl)
    (of_decide_eq_true (by kernel_rfl)) (by unfold Func.isWrapper; first | (rw [if_pos (by decide +kernel)]; kernel_rfl) | (rw [if_neg (by decide +kernel)]; exact ⟨rfl, rfl⟩))
    (fun os started H enc _ => octetReads_lifted os started H enc)
#print axioms octetReads_holds
end Go.Proofs.Ytehmpdioofldaaa
