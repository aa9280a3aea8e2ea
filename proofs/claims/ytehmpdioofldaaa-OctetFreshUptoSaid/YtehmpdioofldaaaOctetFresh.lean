/-
  Proved: for every input that its row lets in the statement OctetFresh answers true; what was handed in stays as it was.
  Conditions: none beyond the row's own.
-/
import Derived.Test.YtehmpdioofldaaaLaw1
import Derived.Test.YtehmpdioofldaaaRow
import Derived.Test.YtehmpdioofldaaaAns1
import Derived.Test.YtehmpdioofldaaaMarked01
import Derived.Test.YtehmpdioofldaaaFreshLib
import Derived.Test.YtehmpdioofldaaaStore
import Derived.Deep.RegionHeld3
import Derived.Deep.DrawnRows
import Derived.BigQuiet
/- OctetFresh: the walk. -/
set_option linter.unusedVariables false
set_option linter.unusedSimpArgs false
namespace Go.Proofs.Ytehmpdioofldaaa
open Go.RowKit Go.Tm Go.ChangeShapes Go.WideShapes Go.ChangeAt
set_option maxHeartbeats 400000
set_option maxRecDepth 100000
attribute [local go_sem ↓] Go.wp_at_zero Go.wp_at_succ

theorem same1_eq {w : World} {A B : Option Addr} {n m c d : Nat} {l k : List UInt8} (ha : Rda w A c l) (hb : Rda w B d k) (hn : n = l.length) (hm : m = k.length) (he : l = k) :
    Calls Try.prog 8 #[.slice A n c, .slice B m d] w fun e w' => e = .returned (.bool true) ∧ w = w' := by
  subst hn hm he
  have h1 := fun dst hd => run_conv_rd (P := Try.prog) w tU8 ha _ rfl dst hd
  have h2 := fun dst hd => run_conv_rd (P := Try.prog) w tU8 hb _ rfl dst hd
  go_enter Try.func8, Try.ntmps8
  go_wp2
  go_ret
  exact ⟨by simp, rfl⟩
/-- The answers, by number. -/
theorem ans1_row {w w' : World} {g cap : Nat} {rs : List PRow} {ls : List (List UInt8)} (h : AnsIs w w' g cap rs ls) {k : Nat} {l : List UInt8} (hk : ls[k]? = some l) :
    ∃ A c, w'.cell? ⟨g, k, none⟩ = some (.slice A l.length c) ∧ Rda w' A c l ∧ 8 ≤ cap := by
  have h1 := h.lists
  have h2 : (rs.map (fun r => r.2.2))[k]? = some l := by rw [h1]; exact hk
  rw [List.getElem?_map] at h2
  obtain ⟨⟨A, c, l'⟩, h3, h4⟩ : ∃ r, rs[k]? = some r ∧ r.2.2 = l := by simpa using h2
  obtain rfl : l' = l := h4
  obtain ⟨g', e, hc, hle⟩ := own_cell h.row (q := k) (x := pv (A, c, l')) (by rw [List.getElem?_map, h3]; rfl)
  injection e with e
  injection e with e1 _
  subst e1
  exact ⟨A, c, hc, h.pool.rda (List.mem_of_getElem? h3), hle⟩
theorem AnsIs.later {w w' w2 : World} {g cap : Nat} {rs : List PRow} {ls : List (List UInt8)} (h : AnsIs w w' g cap rs ls) (hb : Below w'.heap.size w' w2) : AnsIs w w2 g cap rs ls :=
  ⟨ownsRow_below h.row hb, h.pool.below hb, h.lists, below_then h.below hb⟩
theorem ansL_short {l k : List UInt8} (hl : l.length ≤ 1048576) (hk : k.length ≤ 1048576) (x : Int) : ∀ y ∈ ansL l k x, y.length ≤ 4194304 := by
  intro y hy
  unfold ansL at hy
  simp only [List.mem_cons, List.not_mem_nil, or_false] at hy
  rcases hy with rfl | rfl | rfl | rfl | rfl | rfl | rfl | rfl <;> first | omega | (simp [cat]; omega) | (simp; omega)
/-- What OctetFresh carries on: the two wide lists. -/
structure Fr1 (w W : World) (base gw cw : Nat) (wd : List UInt8) (gb cb : Nat) (bd : List UInt8) : Prop where
  bb : Below w.heap.size w W
  R1 : RoomR W base gw cw wd
  R2 : RoomR W base gb cb bd
theorem Fr1.below {w W W' : World} {base gw cw gb cb : Nat} {wd bd : List UInt8} (h : Fr1 w W base gw cw wd gb cb bd) (hb : Below W.heap.size W W') : Fr1 w W' base gw cw wd gb cb bd := ⟨below_then h.bb hb, h.R1.below hb, h.R2.below hb⟩
theorem Fr1.kept {w W0 W W' : World} {base gw cw gb cb : Nat} {wd bd : List UInt8} (h0 : Fr1 w W0 base gw cw wd gb cb bd) (h : Fr1 w W base gw cw wd gb cb bd) {S : Nat → Prop} (hk : KeptBut S W W') (hS : ∀ g, S g → W0.heap.size ≤ g) : Fr1 w W' base gw cw wd gb cb bd :=
  ⟨h.bb.trans (hk.toBelow (B := w.heap.size) (fun g hg => Nat.le_trans h0.bb.size (hS g hg)) h.bb.size),
    h.R1.keptBut hk (fun hs => by have := hS _ hs; have := h0.R1.lt; omega), h.R2.keptBut hk (fun hs => by have := hS _ hs; have := h0.R2.lt; omega)⟩

set_option maxHeartbeats 8000000 in
theorem octetFresh_any {w : World} {A B : Option Addr} {n m c d : Nat} {b k0 : List UInt8} (h : Rda w A c b) (h2 : Rda w B d k0) (hn : n = b.length) (hm : m = k0.length) (hb0 : b.length ≤ 1048576) (hk0 : k0.length ≤ 1048576) (x : Int) (hx0 : 0 ≤ x) (hx1 : x < 18446744073709551616) :
    Calls Try.prog 3 #[.slice A n c, .slice B m d, .int .u64 x] w fun e w' => e = .returned (.bool true) ∧ Below w.heap.size w w' := by
  have HX : Lt64 x := ⟨hx0, hx1⟩
  have HBL := Lib.hid hn.symm
  have HKL := Lib.hid hm.symm
  have hn20 : n ≤ 1048576 := by omega
  have hm20 : m ≤ 1048576 := by omega
  clear hx1 hn hm
  go_enter Try.func3, Try.ntmps3
  go_wp2_with (at_builtin; refine wpList_app2 (l := []) (m := b) rfl _ _ rfl tU8 rfl (Own8.nilRow w w.heap.size 5) rfl HBL.out.symm h (by rw [HBL.out]; simp; omega) (Nat.le_refl _) ?_)
  intro v1 w1 o1 hw1
  try rw [List.nil_append] at o1
  have bb1 : Below w.heap.size w w1 := grown_below hw1.grown (Nat.le_refl _) (fun k hk => by simp [Value.ownBlock] at hk)
  have r1 := h2.below bb1
  have hz1 := bb1.size
  clear hw1
  go_wp2_with (at_builtin; refine wpList_app2 (l := []) (m := k0) rfl _ _ rfl tU8 rfl (Own8.nilRow w1 w1.heap.size 5) rfl HKL.out.symm r1 (by rw [HKL.out]; simp; omega) (Nat.le_refl _) ?_)
  intro v2 w2 o2 hw2
  try rw [List.nil_append] at o2
  have bb12 : Below w1.heap.size w1 w2 := grown_below hw2.grown (Nat.le_refl _) (fun k hk => by simp [Value.ownBlock] at hk)
  have bb2 := below_then bb1 bb12
  have o1' := o1.below bb12
  have ap2 : Aprt v1 v2 := fun k e1 e2 => by
    have := own_lt o1 e1
    have := (World.ownsRow.lt o2 k e2).1
    omega
  have o2' := o2.mono hz1
  clear hw2 r1 bb1 o1 bb12 o2
  go_wp2_with fail
  go_loopw [7, 8, 9] (fun x y i wr => ∃ k : Nat, k ≤ 200 ∧ i = .int .i64 k ∧ Own8 wr w.heap.size 5 x (b ++ repB k 165) ∧ Own8 wr w.heap.size 5 y (k0 ++ repB k 90) ∧ Aprt x y ∧ Below w.heap.size w wr) (fun _ _ i _ => 200 - (intOf i).toNat)
  case atStart => exact ⟨0, by omega, rfl, by rw [repB_zero, List.append_nil]; exact o1', by rw [repB_zero, List.append_nil]; exact o2', ap2, bb2⟩
  case round =>
    obtain ⟨k, hk, rfl, ho, hp, hap, hb⟩ := hrel
    by_cases hkt : k < 200
    · have ho' := ho.alloc (.cells #[.int .u8 165] 5)
      have hp' := hp.alloc (.cells #[.int .u8 165] 5)
      have hb' := hb.alloc hb.size (.cells #[.int .u8 165] 5)
      have hb165 : Rda (wr.alloc (.cells #[.int .u8 165] 5)) (some ⟨wr.heap.size, 0, none⟩) 1 [165] := Rda.box wr _ 165 165 (by decide)
      clear ho hb hp
      go_wp2_with (at_builtin; refine wpList_app2 (l := b ++ repB k 165) (m := [165]) rfl _ _ rfl tU8 rfl ho' rfl rfl hb165 (by rw [List.length_append, repB_length, HBL.out]; simp; omega) hb'.size ?_)
      intro v3 w5 o3 hw3
      replace o3 : Own8 w5 w.heap.size 5 v3 (b ++ repB (k + 1) 165) := by rw [repB_succ, ← List.append_assoc]; first | exact o3 | (rw [List.append_assoc]; exact o3)
      have hb3 := ho'.grown hw3.grown hb' hb'.size (Nat.le_refl _)
      have p3 := hp'.keptBy hw3.grown (fun g hg hx => hap g hx hg)
      have hap3 : Aprt v3 _ := fun g e1 e2 => by
        rcases hw3.at_ with e3 | e3
        · exact hap g (e3.symm.trans e1) e2
        · have := own_lt hp' e2
          rw [e3] at e1
          injection e1 with e1
          omega
      clear hw3 ho' hb' hb165 hp' hap
      have q3 := p3.alloc (.cells #[.int .u8 90] 5)
      have o4 := o3.alloc (.cells #[.int .u8 90] 5)
      have hb4 := hb3.alloc hb3.size (.cells #[.int .u8 90] 5)
      have hb90 : Rda (w5.alloc (.cells #[.int .u8 90] 5)) (some ⟨w5.heap.size, 0, none⟩) 1 [90] := Rda.box w5 _ 90 90 (by decide)
      clear p3 o3 hb3
      go_wp2_with (at_builtin; refine wpList_app2 (l := k0 ++ repB k 90) (m := [90]) rfl _ _ rfl tU8 rfl q3 rfl rfl hb90 (by rw [List.length_append, repB_length, HKL.out]; simp; omega) hb4.size ?_)
      intro v4 w6 o5 hw4
      replace o5 : Own8 w6 w.heap.size 5 v4 (k0 ++ repB (k + 1) 90) := by rw [repB_succ, ← List.append_assoc]; first | exact o5 | (rw [List.append_assoc]; exact o5)
      have hb5 := q3.grown hw4.grown hb4 hb4.size (Nat.le_refl _)
      have o6 := o4.keptBy hw4.grown (fun g hg hx => hap3 g hg hx)
      have hap4 : Aprt v3 v4 := fun g e1 e2 => by
        rcases hw4.at_ with e3 | e3
        · exact hap3 g e1 (e3.symm.trans e2)
        · have := own_lt o4 e1
          rw [e3] at e2
          injection e2 with e2
          omega
      clear hw4 q3 o4 hb4 hb90 hap3
      go_wp2_with fail
      go_roundw
      case rel => exact ⟨k + 1, by omega, by go_num, o6, o5, hap4, hb5⟩
      case measure => simp [intOf]; omega
    · have he : k = 200 := by omega
      subst he
      obtain ⟨wh, rfl⟩ : ∃ wh : World, wh = wr := ⟨_, rfl⟩
      obtain ⟨Aw, cw, rfl, _⟩ := own_rda ho
      obtain ⟨gw, rfl, _⟩ := Own8.block ho (by rw [List.length_append, repB_length]; omega)
      obtain ⟨Ab, cb, rfl, _⟩ := own_rda hp
      obtain ⟨gb, rfl, _⟩ := Own8.block hp (by rw [List.length_append, repB_length]; omega)
      have hgne : gw ≠ gb := fun e => hap gw rfl (by rw [e]; rfl)
      have hR := RoomR.of_own ho
      have hQ := RoomR.of_own hp
      have hwl : (b ++ repB 200 165).length = n + 200 := by rw [List.length_append, repB_length, HBL.out]
      have hwt : (b ++ repB 200 165).take n = b := List.take_left' HBL.out
      have hwg : ∀ j, j < 200 → (b ++ repB 200 165).getD (n + j) 0 = 165 := fun j hj => by rw [← HBL.out, getD_append_right, repB_get _ _ _ hj]
      have hbl : (k0 ++ repB 200 90).length = m + 200 := by rw [List.length_append, repB_length, HKL.out]
      have hbt : (k0 ++ repB 200 90).take m = k0 := List.take_left' HKL.out
      have hbg : ∀ j, j < 200 → (k0 ++ repB 200 90).getD (m + j) 0 = 90 := fun j hj => by rw [← HKL.out, getD_append_right, repB_get _ _ _ hj]
      rw [hwl, hbl]
      obtain ⟨wd, hwd0⟩ : ∃ wd, b ++ repB 200 165 = wd := ⟨_, rfl⟩
      obtain ⟨bd, hbd0⟩ : ∃ bd, k0 ++ repB 200 90 = bd := ⟨_, rfl⟩
      rw [hwd0] at hR hwl hwt hwg
      rw [hbd0] at hQ hbl hbt hbg
      have HWL := Lib.hid hwl
      have HWT := Lib.hid hwt
      have HWG := Lib.hid hwg
      have HDL := Lib.hid hbl
      have HDT := Lib.hid hbt
      have HDG := Lib.hid hbg
      have hcw := hR.cap
      rw [hwl] at hcw
      have hcb := hQ.cap
      rw [hbl] at hcb
      have hgw := hR.base_
      have S0 : Fr1 w wh w.heap.size gw cw wd gb cb bd := ⟨hb, hR, hQ⟩
      clear ho hp hap hwl hwt hwg hwd0 hbl hbt hbg hbd0 hR hQ hb o1' o2' ap2 bb2
      have c0 : (0 : Int) ≤ (n : Int) := by omega
      have c1 : (n : Int) ≤ (cw : Int) := by omega
      have c2 : (0 : Int) ≤ (m : Int) := by omega
      have c3 : (m : Int) ≤ (cb : Int) := by omega
      have HA1 := Lib.hid (fun (W : World) (s : Rda W (some ⟨gw, 0, none⟩) cw b) (t : Rda W (some ⟨gb, 0, none⟩) cb k0) => answers_any s t (n := n) (m := m) HBL.out.symm HKL.out.symm (by rw [HBL.out]; omega) (by rw [HKL.out]; omega) x HX.lo HX.hi)
      have f0 := S0.R1.rda.take n (by rw [HWL.out]; omega)
      rw [HWT.out] at f0
      have g0 := S0.R2.rda.take m (by rw [HDL.out]; omega)
      rw [HDT.out] at g0
      have hbw := (Below.refl wh.heap.size wh).drew
      go_wp2_with fail
      go_region_held3 (fun w' => True) (first | exact trivial | go_keep)
        ((go_at_call 5; refine (HA1.out _ (f0.below hbw) (g0.below hbw)).mono ?_; rintro e w7 ⟨g7, d7, rs7, rfl, hN7⟩; have hb7 := below_then hbw hN7.below))
      clear hbw
      have S1 := S0.below hb7
      have f1 := f0.below hb7
      have g1 := g0.below hb7
      have T0 := Lib.hid S0
      have hlt7 := hN7.pool.lt
      have hz7 : wh.heap.size ≤ w7.heap.size := hN7.below.size
      clear f0 g0 S0 hb7
      have hbw := (Below.refl w7.heap.size w7).drew
      go_wp2_with fail
      go_region_held3 (fun w' => True) (first | exact trivial | go_keep)
        ((go_at_call 5; refine (HA1.out _ (f1.below hbw) (g1.below hbw)).mono ?_; rintro e w8 ⟨g8, d8, rs8, rfl, hN8⟩; have hb8 := below_then hbw hN8.below))
      clear hbw
      have S2 := S1.below hb8
      have f2 := f1.below hb8
      have g2 := g1.below hb8
      have hN7' := hN7.later hb8
      have hz8 : w7.heap.size ≤ w8.heap.size := hN8.below.size
      clear S1 f1 g1 hb8 hN7
      obtain ⟨LS, hLS⟩ : ∃ LS, ansL b k0 x = LS := ⟨_, rfl⟩
      have hal := ansL_short hb0 hk0 x
      rw [hLS] at hal hN7' hN8 HA1
      have hLl : LS.length = 8 := by rw [← hLS]; rfl
      have HAL := Lib.hid hal
      have HLL := Lib.hid hLl
      obtain ⟨SS, hSS⟩ : ∃ SS, LS.map (fun l => Value.string (S8 l)) = SS := ⟨_, rfl⟩
      have HSL : Hid (SS.length = 8) := Lib.hid (by rw [← hSS, List.length_map]; exact hLl)
      have HSG := Lib.hid (fun (q : Nat) (l' : List UInt8) (hl : LS[q]? = some l') => (show SS[q]? = some (Value.string (S8 l')) by rw [← hSS, List.getElem?_map, hl]; rfl))
      clear hal hLl hLS hSS
      go_wp2_with fail
      refine (known_any _).mono ?_
      rintro e w9 ⟨rfl, hb9⟩
      have S3 := S2.below hb9
      have f3 := f2.below hb9
      have g3 := g2.below hb9
      have N7 := hN7'.later hb9
      have N8 := hN8.later hb9
      have hz9 := hb9.size
      clear S2 f2 g2 hN7' hN8 hb9
      go_wp2_with fail
      go_loopw [12, 13] (fun v k wr => ∃ q : Nat, q ≤ 8 ∧ k = .int .i64 q ∧ wr.ownsRow w9.heap.size 9 1 v q (SS.take q) ∧ Below w9.heap.size w9 wr) (fun _ i _ => 8 - (intOf i).toNat)
      case atStart => exact ⟨0, by omega, rfl, World.ownsRow_nil _ _ _ _, Below.refl _ _⟩
      case round =>
        obtain ⟨q, hq, rfl, ho, hb⟩ := hrel
        obtain ⟨wo, rfl⟩ : ∃ wo : World, wo = wr := ⟨_, rfl⟩
        obtain ⟨Av, cv, rfl⟩ := own_slice ho
        by_cases hqt : q < 8
        · obtain ⟨l', hl'⟩ : ∃ l', LS[q]? = some l' := ⟨_, List.getElem?_eq_getElem (by rw [HLL.out]; exact hqt)⟩
          obtain ⟨a7, e7, z7, s7, hc7⟩ := ans1_row (N7.later hb) hl'
          have htk : SS.take (q + 1) = SS.take q ++ [Value.string (S8 l')] := by
            rw [List.take_add_one, HSG.out q l' hl']
            rfl
          have HTK := Lib.hid htk
          obtain ⟨st, hst⟩ : ∃ st, S8 l' = st := ⟨_, rfl⟩
          have kc := fun dst hd => run_conv_rd (P := Try.prog) wo tU8 s7 l'.length rfl dst hd
          rw [hst] at kc
          have m0 : (0 : Int) ≤ (q : Int) := by omega
          have m1 : (q : Int) < 8 := by omega
          have hoa := ho.alloc (.cells #[.string st] 9)
          have hnew := heap_alloc_new wo (.cells #[.string st] 9)
          clear htk
          go_wp2_with (at_builtin; refine wpList_appC _ rfl _ _ 27 rfl w9.heap.size 9 (z := .string ⟨#[]⟩) (size := 1) (bytes := 16) Try.underlying27 (by kernel_rfl) rfl (by decide) _ q _ rfl hoa ⟨wo.heap.size, 0, none⟩ 1 1 [.string st] rfl rfl ?c1 ?c2 ?c3 ?c4 ?c5 ?_)
          case c1 =>
            intro j u hj
            rw [Addr.add_lit, Nat.zero_add]
            unfold World.cell?
            rw [hnew]
            simpa using hj
          case c2 =>
            intro u hu
            simp at hu
            subst hu
            rfl
          case c3 => unfold maxLen; omega
          case c4 => omega
          case c5 => have := hb.size; simp; omega
          intro v' w10 hown' hgrow _
          obtain ⟨Av', cv', rfl⟩ := own_slice hown'
          have bb10 := below_own (hb.alloc hb.size _) (by have := hb.size; simp; omega) hoa hgrow
          obtain ⟨gs, hgs, zs, hcs⟩ := own_cell hown' (q := q) (x := .string st) (by
            have hlq : (SS.take q).length = q := by rw [List.length_take, HSL.out]; omega
            rw [List.getElem?_append_right (by rw [hlq]; exact Nat.le_refl _), hlq, Nat.sub_self]
            rfl)
          rw [← hst, ← HTK.out] at hown'
          have HO10 := Lib.hid hown'
          obtain ⟨a8, e8, z8, s8, hc8⟩ := ans1_row (N8.later bb10) hl'
          have kc8 := fun r dst hd => run_conv_rd (P := Try.prog) (w10.drewN r) tU8 (s8.below (drewN_below w10 r)) l'.length rfl dst hd
          rw [hst] at kc8
          have HB10 := Lib.hid bb10
          subst hgs
          clear hown' hgrow bb10 hl' z7 s7 kc hoa hnew ho hb s8 hst
          go_wp2_with fail
          go_quiet (fail)
          go_wp2_with fail
          go_roundw
          case rel => exact ⟨q + 1, by omega, by go_num, ownsRow_below HO10.out (drewN_below w10 nq), below_drewN HB10.out _⟩
          case measure => simp [intOf]; omega
        · have he : q = 8 := by omega
          subst he
          have hO9 := ho
          rw [List.take_of_length_le (by rw [HSL.out]; exact Nat.le_refl _)] at hO9
          have S4 := S3.below hb
          have M7 := N7.later hb
          have M8 := N8.later hb
          have hz10 := hb.size
          clear ho hb S3 N7 N8 f3 g3
          have hr7 : rs7.length = 8 := by have := congrArg List.length M7.lists; rw [List.length_map, HLL.out] at this; exact this
          have hr8 : rs8.length = 8 := by have := congrArg List.length M8.lists; rw [List.length_map, HLL.out] at this; exact this
          have hown7 : wo.ownsRow wh.heap.size 22 1 (.slice (some ⟨g7, 0, none⟩) 8 d7) 8 (rs7.map pv) := M7.row
          have hpool := M7.pool.append M8.pool (show wh.heap.size ≤ w7.heap.size from hz7) hlt7
          obtain ⟨cur7, hgb⟩ : ∃ cur, wo.heap[g7]? = some (.cells cur 22 (0, 0)) := by
            rcases hown7.2 with ⟨e1, _⟩ | ⟨g, cap, cur, e1, _, hg, _⟩
            · cases e1
            · injection e1 with e1
              injection e1 with e1
              injection e1 with e1 _
              subst e1
              exact ⟨cur, hg⟩
          have hg7 : wh.heap.size ≤ g7 := (World.ownsRow.lt hown7 g7 rfl).1
          have hrow8 := M8.row
          have hd8 : 8 ≤ d8 := by
            obtain ⟨_, _, _, _, hh⟩ := ans1_row M8 (k := 0) (l := LS[0]'(by rw [HLL.out]; omega)) (List.getElem?_eq_getElem _)
            exact hh
          have HN7 := Lib.hid M7.lists
          have HN8 := Lib.hid M8.lists
          clear M7 M8 hlt7
          go_wp2_with (at_builtin; refine wpList_appC _ rfl _ _ 24 rfl wh.heap.size 22 (z := .slice none 0 0) (size := 1) (bytes := 24) Try.underlying24 (by kernel_rfl) rfl (by decide) _ 8 _ rfl hown7 ⟨g8, 0, none⟩ 8 d8 (rs8.map pv) rfl (by rw [List.length_map, hr8]) ?d1 ?d2 ?d3 ?d4 ?d5 ?_)
          case d1 =>
            intro j u hj
            rw [Addr.add_lit, Nat.zero_add]
            obtain ⟨g', e, hc, _⟩ := own_cell hrow8 hj
            injection e with e
            injection e with e1 _
            subst e1
            exact hc
          case d2 =>
            intro u hu
            obtain ⟨x, _, rfl⟩ := List.mem_map.1 hu
            rfl
          case d3 => unfold maxLen; omega
          case d4 => omega
          case d5 => have h1 : wh.heap.size ≤ w7.heap.size := hz7; have h2 : w7.heap.size ≤ w8.heap.size := hz8; have := hz9; have := hz10; omega
          intro vm w11 hown11 hgrow11 _
          rw [← List.map_append] at hown11
          have hrs : (rs7 ++ rs8).length = 16 := by rw [List.length_append, hr7, hr8]
          obtain ⟨gm, cm, curm, rfl, hgm, hbm, hcm, hcmx, hszm, htm⟩ : ∃ gm cm curm, vm = .slice (some ⟨gm, 0, none⟩) 16 cm ∧ wh.heap.size ≤ gm ∧ w11.heap[gm]? = some (.cells curm 22 (0, 0)) ∧ 16 ≤ cm ∧ cm ≤ maxLen ∧ curm.size = cm * 1 ∧ curm.toList.take (16 * 1) = (rs7 ++ rs8).map pv := by
            rcases hown11.2 with ⟨_, h0⟩ | ⟨g, cap, cur, h1, h2, h3, h4, h5, h6, h7⟩
            · omega
            · exact ⟨g, cap, cur, h1, h2, h3, h4, h5, h6, h7⟩
          have hk11 : KeptBut (fun g => g = g7) wo w11 := (KeptBut.refl _ _).grown hgrow11 (fun k e => .inl (by simpa [Value.ownBlock] using e.symm))
          have hP11 := hpool.other hgrow11 (T := 22) (by decide) (fun g hg _ => by
            have : g = g7 := by simpa [Value.ownBlock] using hg.symm
            subst this
            exact ⟨_, hgb⟩)
          have S5 := T0.out.kept S4 hk11 (fun g hg => by omega)
          have O11 := ownsRow_but hO9 hk11 (fun g hv hs => by subst hs; exact own_ne hO9 hgb (by decide) hv)
          have hz11 := hk11.size
          have hzz : wh.heap.size ≤ w11.heap.size := by have h1 : wh.heap.size ≤ w7.heap.size := hz7; have h2 : w7.heap.size ≤ w8.heap.size := hz8; have := hz9; have := hz10; omega
          have hcur : ∀ j (h : j < (rs7 ++ rs8).length), curm[j]? = some (pv (rs7 ++ rs8)[j]) := fun j h => by
            have h1 : ((rs7 ++ rs8).map pv)[j]? = some (pv (rs7 ++ rs8)[j]) := by rw [List.getElem?_map, List.getElem?_eq_getElem h]; rfl
            rw [← htm, List.getElem?_take] at h1
            split at h1
            · simpa using h1
            · cases h1
          have hlen11 : ∀ x ∈ rs7 ++ rs8, x.2.2.length ≤ 140737488355000 := fun x hx => by
            have hh : ∀ (r : List PRow), r.map (fun r => r.2.2) = LS → ∀ x ∈ r, x.2.2.length ≤ 4194304 := fun r hr x hx => by
              have : x.2.2 ∈ LS := by rw [← hr]; exact List.mem_map_of_mem hx
              exact HAL.out _ this
            rcases List.mem_append.1 hx with hx | hx
            · have := hh rs7 HN7.out x hx; omega
            · have := hh rs8 HN8.out x hx; omega
          have hmk := marked_pool (n := 16) (cap := cm) (by rw [hrs]; omega) hP11 hzz hlen11 hbm hcur hrs.symm (by rw [hrs]; omega)
          have HM := Lib.hid hmk
          have hge := poolS_ge hP11
          have hty : ∀ g, poolS (rs7 ++ rs8) g → ∃ cur, w11.heap[g]? = some (.cells cur 5 (0, 0)) := fun g hg => by
            obtain ⟨x, hx, hv⟩ := hg
            exact own8_block_type (hP11.own x hx) hv
          clear hmk hown11 hgrow11 hpool hgb hrow8 hk11 hlen11 hcur htm hszm hcmx hown7 hO9 S4 hbm
          go_wp2_with fail
          refine HM.out.mono ?_
          rintro e w12 ⟨rfl, hK⟩
          have S6 := T0.out.kept S5 hK hge
          have O12 := ownsRow_but O11 hK (fun g hv hs => by obtain ⟨cur, hc⟩ := hty g hs; exact own_ne O11 hc (by decide) hv)
          clear hK HM hge hty hP11 S5 O11
          have f12 := S6.R1.rda.take n (by rw [HWL.out]; omega)
          rw [HWT.out] at f12
          have g12 := S6.R2.rda.take m (by rw [HDL.out]; omega)
          rw [HDT.out] at g12
          have PS := same1_eq f12 (h.below S6.bb) HBL.out.symm HBL.out.symm rfl
          have PT := same1_eq g12 (h2.below S6.bb) HKL.out.symm HKL.out.symm rfl
          go_wp2_with fail
          refine PS.mono ?_
          rintro e wx ⟨rfl, rfl⟩
          clear PS
          go_wp2_with fail
          refine PT.mono ?_
          rintro e wx ⟨rfl, rfl⟩
          clear PT
          go_wp2_with fail
          go_loop [14] (fun i => ∃ k : Nat, k ≤ 200 ∧ i = .int .i64 (k : Int)) (fun i => 200 - (intOf i).toNat)
          case atStart => exact ⟨0, by omega, rfl⟩
          case round =>
            obtain ⟨k, hk, rfl⟩ := hrel
            by_cases hkt : k < 200
            · have z1 := S6.R1.cells (n + k) (by rw [HWL.out]; omega)
              rw [HWG.out k hkt] at z1
              have z2 := S6.R2.cells (m + k) (by rw [HDL.out]; omega)
              rw [HDG.out k hkt] at z2
              go_wp2_with fail
              go_round
              case rel => exact ⟨k + 1, by omega, by go_num⟩
              case measure => simp [intOf]; omega
            · have he : k = 200 := by omega
              subst he
              have hbw := (Below.refl w12.heap.size w12).drew
              go_wp2_with fail
              go_region_held3 (fun w' => True) (first | exact trivial | go_keep)
                ((go_at_call 5; refine (HA1.out _ (f12.below hbw) (g12.below hbw)).mono ?_; rintro e w13 ⟨g13, d13, rs13, rfl, hN13⟩; have hb13 := below_then hbw hN13.below))
              clear hbw
              have S7 := S6.below hb13
              have O13 := ownsRow_below O12 hb13
              clear S6 O12 f12 g12 hb13
              go_wp2_with fail
              go_loopw [16] (fun k wr => ∃ q : Nat, q ≤ 8 ∧ k = .int .i64 q ∧ Below w13.heap.size w13 wr) (fun i _ => 8 - (intOf i).toNat)
              case atStart => exact ⟨0, by omega, rfl, Below.refl _ _⟩
              case round =>
                obtain ⟨q, hq, rfl, hb⟩ := hrel
                obtain ⟨w14, rfl⟩ : ∃ w14 : World, w14 = wr := ⟨_, rfl⟩
                by_cases hqt : q < 8
                · obtain ⟨l', hl'⟩ : ∃ l', LS[q]? = some l' := ⟨_, List.getElem?_eq_getElem (by rw [HLL.out]; exact hqt)⟩
                  obtain ⟨a7, e7, z7, s7, hc7⟩ := ans1_row (hN13.later hb) hl'
                  obtain ⟨gs, hgs, zs, hcs⟩ := own_cell (ownsRow_below O13 hb) (q := q) (x := .string (S8 l')) (HSG.out q l' hl')
                  have kc := fun r dst hd => run_conv_rd (P := Try.prog) (w14.drewN r) tU8 (s7.below (drewN_below w14 r)) l'.length rfl dst hd
                  have m0 : (0 : Int) ≤ (q : Int) := by omega
                  have m1 : (q : Int) < 8 := by omega
                  have HBB := Lib.hid hb
                  obtain ⟨st, hst⟩ : ∃ st, S8 l' = st := ⟨_, rfl⟩
                  rw [hst] at zs kc
                  subst hgs
                  clear s7 hl' hst hb
                  go_wp2_with fail
                  go_quiet (fail)
                  go_wp2_with fail
                  go_roundw
                  case rel => exact ⟨q + 1, by omega, by go_num, below_drewN HBB.out _⟩
                  case measure => simp [intOf]; omega
                · have he : q = 8 := by omega
                  subst he
                  have S8' := S7.below hb
                  clear S7 hN13 O13 hb
                  go_wp2_with fail
                  go_loopw [17] (fun i wr => ∃ (k : Nat) (wd' : List UInt8), k ≤ n ∧ i = .int .i64 k ∧ wd'.length = n + 200 ∧ RoomR wr w.heap.size gw cw wd' ∧ KeptBut (fun g => g = gw) w14 wr) (fun i _ => n - (intOf i).toNat)
                  case atStart => exact ⟨0, wd, by omega, rfl, HWL.out, S8'.R1, KeptBut.refl _ _⟩
                  case round =>
                    obtain ⟨k, wd', hk1, rfl, hwl, hR, hK⟩ := hrel
                    obtain ⟨w15, rfl⟩ : ∃ w15 : World, w15 = wr := ⟨_, rfl⟩
                    by_cases hkN : k < n
                    · have z0 := hR.cells k (by omega)
                      have z0f := (hR.there k (by omega)).2
                      obtain ⟨X, hX⟩ : ∃ X, (wd'.getD k 0).toNat = X := ⟨_, rfl⟩
                      rw [hX] at z0
                      obtain ⟨v, hv⟩ : ∃ v : UInt8, ((X : Int) + 1) % 256 = (v.toNat : Int) := ⟨_, tmByte0 _ (by omega) (by omega)⟩
                      obtain ⟨hR2, hg2⟩ := hR.stored k (by omega) v
                      have HR2 := Lib.hid hR2
                      have HK2 := Lib.hid (hK.grown hg2 (fun g hg => .inl (by injection hg with hg; exact hg.symm)))
                      have m0 : (0 : Int) ≤ (k : Int) := by omega
                      have m1 : (k : Int) < (n : Int) + 200 := by omega
                      clear hR2 hg2 hR hK hX
                      go_wp2_with fail
                      exact ⟨⟨k + 1, wd'.set k v, by omega, by go_num, by rw [List.length_set]; exact hwl, HR2.out, HK2.out⟩, by simp [intOf]; omega⟩
                    · have he : k = n := by omega
                      subst he
                      obtain ⟨F', hF'⟩ : ∃ F', wd'.take k = F' := ⟨_, rfl⟩
                      have hFl : F'.length = k := by rw [← hF', List.length_take]; omega
                      have f15 := hR.rda.take k (by omega)
                      rw [hF'] at f15
                      have b15 := S8'.bb.trans (hK.toBelow (B := w.heap.size) (fun g hg => by subst hg; exact hgw) S8'.bb.size)
                      have R2' := S8'.R2.keptBut hK hgne.symm
                      have g15 := R2'.rda.take m (by rw [HDL.out]; omega)
                      rw [HDT.out] at g15
                      have HFL := Lib.hid hFl
                      have HA2 := Lib.hid (fun (W : World) (A2 B2 : Option Addr) (c2 d2 : Nat) (s : Rda W A2 c2 F') (t : Rda W B2 d2 k0) => answers_any s t (n := k) (m := m) HFL.out.symm HKL.out.symm (by rw [HFL.out]; omega) (by rw [HKL.out]; omega) x HX.lo HX.hi)
                      obtain ⟨LS2, hLS2⟩ : ∃ LS2, ansL F' k0 x = LS2 := ⟨_, rfl⟩
                      have hLl2 : LS2.length = 8 := by rw [← hLS2]; rfl
                      rw [hLS2] at HA2
                      have HLL2 := Lib.hid hLl2
                      clear hLS2 hLl2 hR hK S8' hF' hwl R2' hFl
                      go_wp2_with (at_builtin; refine wpList_app2 (l := []) (m := F') rfl _ _ rfl tU8 rfl (Own8.nilRow w15 w15.heap.size 5) rfl HFL.out.symm f15 (by rw [HFL.out]; simp; omega) (Nat.le_refl _) ?_)
                      intro v16 w16 o16 hw16
                      try rw [List.nil_append] at o16
                      have hb16 : Below w15.heap.size w15 w16 := grown_below hw16.grown (Nat.le_refl _) (fun k hk => by simp [Value.ownBlock] at hk)
                      obtain ⟨At, ct, rfl, t16⟩ := own_rda o16
                      have b16 := below_then b15 hb16
                      have f16 := f15.below hb16
                      have g16 := g15.below hb16
                      clear hw16 o16 f15 g15 b15 hb16
                      rw [HFL.out]
                      have hbw := (Below.refl w16.heap.size w16).drew
                      go_wp2_with fail
                      go_region_held3 (fun w' => True) (first | exact trivial | go_keep)
                        ((go_at_call 5; refine (HA2.out _ _ _ _ _ (f16.below hbw) (g16.below hbw)).mono ?_; rintro e w17 ⟨g17, d17, rs17, rfl, hN17⟩; have hb17 := below_then hbw hN17.below))
                      clear hbw
                      have b17 := below_then b16 hb17
                      have t17 := t16.below hb17
                      clear f16 g16 t16 b16 hb17
                      go_wp2_with fail
                      refine (HA2.out _ _ _ _ _ t17 (h2.below b17)).mono ?_
                      rintro e w18 ⟨g18, d18, rs18, rfl, hN18⟩
                      have N17 := hN17.later hN18.below
                      have b18 := below_then b17 hN18.below
                      clear t17 b17 hN17
                      go_wp2_with fail
                      go_loopw [21] (fun i wr => ∃ q : Nat, q ≤ 8 ∧ i = .int .i64 q ∧ Below w18.heap.size w18 wr) (fun i _ => 8 - (intOf i).toNat)
                      case atStart => exact ⟨0, by omega, rfl, Below.refl _ _⟩
                      case round =>
                        obtain ⟨q, hq, rfl, hb⟩ := hrel
                        obtain ⟨w19, rfl⟩ : ∃ w19 : World, w19 = wr := ⟨_, rfl⟩
                        by_cases hqt : q < 8
                        · obtain ⟨l', hl'⟩ : ∃ l', LS2[q]? = some l' := ⟨_, List.getElem?_eq_getElem (by rw [HLL2.out]; exact hqt)⟩
                          obtain ⟨a7, e7, z7, s7, hc7⟩ := ans1_row (N17.later hb) hl'
                          obtain ⟨a8, e8, z8, s8, hc8⟩ := ans1_row (hN18.later hb) hl'
                          have K1 := Lib.hid (fun r => same1_eq (w := w19.drewN r) (s7.below (drewN_below w19 r)) (s8.below (drewN_below w19 r)) rfl rfl rfl)
                          have m0 : (0 : Int) ≤ (q : Int) := by omega
                          have m1 : (q : Int) < 8 := by omega
                          have HBB := Lib.hid hb
                          clear s7 s8 hl' hb
                          go_wp2_with fail
                          go_quiet ((go_at_call 8; exact quiet_eq (K1.out _)))
                          go_wp2_with fail
                          go_roundw
                          case rel => exact ⟨q + 1, by omega, by go_num, below_drewN HBB.out _⟩
                          case measure => simp [intOf]; omega
                        · have he : q = 8 := by omega
                          subst he
                          have bf := below_then b18 hb
                          go_wp2_with fail
                          go_ret
                          exact ⟨rfl, bf⟩

theorem octetFresh_contract (H : Type) (enc : TypeId × Value → H) (W : World) (base : Nat) (args : Array Value) (ds gs : List (DataW H)) (before : List MemPlace)
    (hval0 : ∀ (j : Nat) t v, Try.f3.params[j]? = some t → args[j]? = some v → Value.okWide Try.prog W .any base t v)
    (hW : DataW.Whole enc Try.prog Try.f3.params.toList Rows.octetFreshSpec.vars false W args.toList ds gs before) (hk : Rows.uptoSmall H (ds ++ gs) = true) :
    Calls Try.prog 3 args W fun e W' => ∃ v, e = .returned v ∧ Rows.octetFreshSpec.post enc Try.prog Try.f3 false true false false W args v W' := by
  have hval : ∀ (j : Nat) t v, Try.f3.params[j]? = some t → args[j]? = some v → Value.okWide Try.prog W .any base t v := hval0
  have hW' := hW
  obtain ⟨p, q, hA0, hV, rfl, hfz, hnd⟩ := hW
  have hA : DataW.TrodAll enc Try.prog W 0 (fun _ => true) true Try.f3.params.toList args.toList ds p := hA0
  rw [Try.params3] at hA hval
  obtain ⟨v0, vs0, d0, ds0, p0, q0, hargs, rfl, rfl, h0, rr0⟩ := trodAll_cons hA
  obtain ⟨v1, vs1, d1, ds1, p1, q1, rfl, rfl, rfl, h1, rr1⟩ := trodAll_cons rr0
  obtain ⟨v2, vs2, d2, ds2, p2, q2, rfl, rfl, rfl, h2, rr2⟩ := trodAll_cons rr1
  obtain ⟨rfl, rfl, rfl⟩ := trodAll_nil rr2
  obtain rfl : args = #[v0, v1, v2] := by cases args; simp_all
  obtain ⟨rfl, rfl⟩ := trodVars_none hV
  obtain ⟨a0, len0, cap0, rfl⟩ := okWide_slice Try.underlying22 (hval 0 22 v0 rfl rfl)
  have k0 := h0
  have lt0 : ∀ x ∈ p0, x.block < W.heap.size := by obtain ⟨m, hm⟩ := k0; exact DataW.trod_lt m _ _ _ hm
  obtain ⟨l0, n0, r0, dd0⟩ : ∃ l : List UInt8, len0 = l.length ∧ Rda W a0 cap0 l ∧ RowOf d0 l := by
    obtain ⟨fuel, hf⟩ := h0
    obtain ⟨A, l, c, hv, hr, hx⟩ := open_bytes tU8 (by kernel_rfl) (by simpa [Value.cells] using hf)
    obtain ⟨rfl, rfl, rfl⟩ : a0 = A ∧ len0 = l.length ∧ cap0 = c := by simpa using hv
    exact ⟨l, rfl, hr, hx⟩
  obtain ⟨a1, len1, cap1, rfl⟩ := okWide_slice Try.underlying22 (hval 1 22 v1 rfl rfl)
  have k1 := h1
  have lt1 : ∀ x ∈ p1, x.block < W.heap.size := by obtain ⟨m, hm⟩ := k1; exact DataW.trod_lt m _ _ _ hm
  obtain ⟨l1, n1, r1, dd1⟩ : ∃ l : List UInt8, len1 = l.length ∧ Rda W a1 cap1 l ∧ RowOf d1 l := by
    obtain ⟨fuel, hf⟩ := h1
    obtain ⟨A, l, c, hv, hr, hx⟩ := open_bytes tU8 (by kernel_rfl) (by simpa [Value.cells] using hf)
    obtain ⟨rfl, rfl, rfl⟩ : a1 = A ∧ len1 = l.length ∧ cap1 = c := by simpa using hv
    exact ⟨l, rfl, hr, hx⟩
  obtain ⟨x2, rfl, rfl, rfl, w2⟩ := open_int Try.underlying23 (hval 2 23 v2 rfl rfl) h2
  have b2 := bounds_u64 w2
  have s0 : l0.length ≤ 1048576 := by
    have h1 := bulk_row dd0
    have h2 := Nat.le_trans (bulk_part (d := d0) (by simp)) (bulk_all hk)
    omega
  have s1 : l1.length ≤ 1048576 := by
    have h1 := bulk_row dd1
    have h2 := Nat.le_trans (bulk_part (d := d1) (by simp)) (bulk_all hk)
    omega
  clear hA0 hval0
  refine (octetFresh_any r0 r1 n0 n1 (by omega) (by omega) x2 b2.1 (by omega)).mono fun e W' ⟨he, bel⟩ => ?_
  subst he
  exact ⟨_, rfl, _, _, _, [], _, [], hW', trodAll_mk1 (shut_bool Try.underlying4 _), (trodAll_cons_mk (Below.trod laid_out (by kernel_rfl) (of_decide_eq_true (by kernel_rfl)) k0 bel lt0) (trodAll_cons_mk (Below.trod laid_out (by kernel_rfl) (of_decide_eq_true (by kernel_rfl)) k1 bel lt1) (trodAll_cons_mk (shut_int Try.underlying23 w2) trodAll_mk0))), rfl, bel.frame _, fun h => by cases h⟩

theorem octetFresh_lifted (os : Os) (started : os.Started) (H : Type) (enc : TypeId × Value → H) (F : Stop.Interp) :
    ReturnsInHanded {} Try.checked os 3 .any ((Rows.OpenSpec.upto Rows.octetFreshSpec).pre6 enc Try.prog Try.f3 Rows.octetFreshUptoRow.domain false) (((Rows.OpenSpec.upto Rows.octetFreshSpec).at F).post enc Try.prog Try.f3 false true false false) := by
  refine returnsInHanded_of_cond (C := Try.checked) (s := Rows.OpenSpec.upto Rows.octetFreshSpec) (k := Rows.uptoSmall) rfl own_knob started (by kernel_rfl) Try.func3
    (OpenSpec.witness (enc := enc) (C := Try.checked) (s := Rows.OpenSpec.upto Rows.octetFreshSpec) (k := Rows.uptoSmall) rfl false ⟨#[], #[.slice none 0 0, .slice none 0 0, .int .u64 0], []⟩ 8 (by kernel_rfl) (by kernel_rfl) (by kernel_rfl)
      (x := ([.nil, .nil, .lit (.int .u64 0)], [], [])) (by kernel_rfl) rfl (by kernel_rfl)) ?_
  intro W base args ds gs before hval hW _ hk _
  exact octetFresh_contract H enc W base args ds gs before hval hW hk

theorem octetFresh_holds : Rows.OctetFreshUptoSaid :=
  OpenClaim.holds_of_cond 3 Try.f3 rfl rfl rfl rfl rfl rfl rfl ⟨rfl, rfl, rfl, rfl, rfl⟩ rfl rfl rfl rfl rfl (by kernel_rfl) Try.func3 (by kernel_rfl)
    (of_decide_eq_true (by kernel_rfl)) (by unfold Func.isWrapper; first | (rw [if_pos (by decide +kernel)]; kernel_rfl) | (rw [if_neg (by decide +kernel)]; exact ⟨rfl, rfl⟩))
    (fun os started H enc _ F => octetFresh_lifted os started H enc F)
#print axioms octetFresh_holds
end Go.Proofs.Ytehmpdioofldaaa
