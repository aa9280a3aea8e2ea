import Derived.Test.YtgcpmdodhnmneaaDoorLaw4
import Derived.Test.YtgcpmdodhnmneaaDoorDoor
import Derived.Test.YtgcpmdodhnmneaaDoorEntry
import Derived.Test.YtgcpmdodhnmneaaDoorPlanPure
import Derived.Test.YtgcpmdodhnmneaaDoorAns4
import Derived.Test.YtgcpmdodhnmneaaDoorMarked04
import Derived.Test.YtgcpmdodhnmneaaDoorRoom
import Derived.Test.YtgcpmdodhnmneaaDoorStore
import Derived.Deep.RegionHeld3
import Derived.Deep.DrawnRows
import Derived.Deep.QuietTactic
import Derived.BigQuiet
/- PageFresh: the walk. -/
set_option linter.unusedVariables false
set_option linter.unusedSimpArgs false
namespace Go.Proofs.YtgcpmdodhnmneaaDoor
open Go.RowKit Go.Tm Go.ChangeShapes Go.WideShapes Go.ChangeAt
set_option maxHeartbeats 400000
set_option maxRecDepth 100000
attribute [local go_sem ↓] Go.wp_at_zero Go.wp_at_succ

theorem quiet_eq {P : Program} {f : FuncId} {args : Array Value} {w : World} {n : Nat} {v : Value} (h : Calls P f args (w.drewN n) fun e w' => e = .returned v ∧ w.drewN n = w') : Calls P f args (w.drewN n) fun e w'' => e = .returned v ∧ ∃ m, w'' = w.drewN m :=
  Calls.quiet_of_same (h.mono fun _ _ ⟨a, b⟩ => ⟨a, b.symm⟩)
/-- What PageFresh carries on: the box of x, the page, the wide list. -/
structure Frs (w W : World) (base gw cw : Nat) (wd F : List UInt8) (A : Option Addr) (c : Nat) (key val : Int) : Prop where
  bb : Below w.heap.size w W
  hX : RowC W (w.heap.size + 1) 53 [.int .i64 key, .int .u64 val]
  r : Rda W A c F
  R : RoomR W base gw cw wd
theorem Frs.below {w W W' : World} {base gw cw c : Nat} {wd F : List UInt8} {A : Option Addr} {key val : Int} (h : Frs w W base gw cw wd F A c key val) (hb : Below W.heap.size W W') : Frs w W' base gw cw wd F A c key val :=
  ⟨below_then h.bb hb, h.hX.below hb, h.r.below hb, h.R.below hb⟩
theorem Frs.wide {w W : World} {base gw cw c N : Nat} {wd F : List UInt8} {A : Option Addr} {key val : Int} (h : Frs w W base gw cw wd F A c key val) (hN : N ≤ wd.length) : Rda W (some ⟨gw, 0, none⟩) cw (wd.take N) := h.R.rda.take N hN
theorem kept_rda2 {S : Nat → Prop} {w w1 : World} (h : KeptBut S w w1) {A : Option Addr} {c : Nat} {l : List UInt8} (hr : Rda w A c l) (hS : 0 < l.length → ∀ a, A = some a → ¬ S a.block) : Rda w1 A c l :=
  ⟨hr.cap, hr.max, hr.nil, fun h0 => by
    obtain ⟨g, o, e, hc⟩ := hr.cells h0
    exact ⟨g, o, e, fun j hj => h.cell (hc j hj) (hS h0 ⟨g, o, none⟩ e)⟩⟩
theorem rda_block2 {w : World} {A : Option Addr} {c : Nat} {l : List UInt8} (h : Rda w A c l) (hl : 0 < l.length) : ∀ a, A = some a → a.block < w.heap.size := by
  intro a ha
  obtain ⟨g, o, e, hc⟩ := h.cells hl
  rw [e] at ha
  injection ha with ha
  subst ha
  exact World.block_lt_of_cell? _ _ (hc 0 hl)
/-- Blocks that came later turn: what is carried on stays. -/
theorem Frs.kept {w W0 W W' : World} {base gw cw c : Nat} {wd F : List UInt8} {A : Option Addr} {key val : Int} (h0 : Frs w W0 base gw cw wd F A c key val) (h : Frs w W base gw cw wd F A c key val) {S : Nat → Prop} (hk : KeptBut S W W') (hS : ∀ g, S g → W0.heap.size ≤ g) : Frs w W' base gw cw wd F A c key val :=
  ⟨h.bb.trans (hk.toBelow (B := w.heap.size) (fun g hg => Nat.le_trans h0.bb.size (hS g hg)) h.bb.size),
    (hk.block _ h.hX.lt (fun hs => by have := hS _ hs; have := h0.hX.lt; omega)).trans h.hX,
    kept_rda2 hk h.r (fun h0' a ha hs => by have := hS _ hs; have := rda_block2 h0.r h0' a ha; omega),
    h.R.keptBut hk (fun hs => by have := hS _ hs; have := h0.R.lt; omega)⟩
theorem own_ne {w : World} {base : Nat} {e T : TypeId} {size k g : Nat} {v : Value} {xs : List Value} {cur : Array Value} {z : Nat × Nat} (h : w.ownsRow base e size v k xs) (hg : w.heap[g]? = some (.cells cur T z)) (hT : T ≠ e) : v.ownBlock ≠ some g := by
  intro hv
  rcases h.2 with ⟨rfl, _⟩ | ⟨g', cap, cur', rfl, _, hh, _⟩
  · cases hv
  · have e1 : g' = g := by simpa [Value.ownBlock] using hv
    subst e1
    rw [hh] at hg
    injection hg with hg
    injection hg with _ hg _
    exact hT hg.symm
theorem ownsRow_but {w w' : World} {base : Nat} {e : TypeId} {size k : Nat} {v : Value} {xs : List Value} (h : w.ownsRow base e size v k xs) {S : Nat → Prop} (hk : KeptBut S w w') (hS : ∀ g, v.ownBlock = some g → ¬ S g) : w'.ownsRow base e size v k xs := by
  refine ⟨h.1, ?_⟩
  rcases h.2 with h0 | ⟨g, cap, cur, rfl, hbg, hg, rest⟩
  · exact .inl h0
  · exact .inr ⟨g, cap, cur, rfl, hbg, (hk.block g (Array.getElem?_eq_some_iff.1 hg).1 (hS g rfl)).trans hg, rest⟩
/-- The cells of an own row. -/
theorem own_cell {w : World} {base : Nat} {e : TypeId} {A : Option Addr} {k c : Nat} {xs : List Value} (h : w.ownsRow base e 1 (.slice A k c) k xs) {q : Nat} {x : Value} (hq : xs[q]? = some x) : ∃ g, A = some ⟨g, 0, none⟩ ∧ w.cell? ⟨g, q, none⟩ = some x ∧ k ≤ c := by
  rcases h.2 with ⟨e1, e2⟩ | ⟨g, cap, cur, e1, hg, hblk, hnc, _, hsz, htk⟩
  · have h1 := h.1
    have := (List.getElem?_eq_some_iff.1 hq).1
    omega
  · injection e1 with ea eb ec
    subst ea ec
    refine ⟨g, rfl, ?_, hnc⟩
    rw [← htk, List.getElem?_take] at hq
    split at hq
    · unfold World.cell?
      rw [hblk]
      simpa using hq
    · cases hq
/-- The four answers, by number. -/
theorem ans_row {w w' : World} {g : Nat} {rs : List PRow} {ls : List (List UInt8)} (h : Ans4 w w' g rs ls) {k : Nat} {l : List UInt8} (hk : ls[k]? = some l) :
    ∃ A c, rs[k]? = some (A, c, l) ∧ w'.cell? ⟨g, k, none⟩ = some (.slice A l.length c) ∧ Rda w' A c l := by
  have h1 := h.lists
  have h2 : (rs.map (fun r => r.2.2))[k]? = some l := by rw [h1]; exact hk
  rw [List.getElem?_map] at h2
  obtain ⟨⟨A, c, l'⟩, h3, h4⟩ : ∃ r, rs[k]? = some r ∧ r.2.2 = l := by simpa using h2
  obtain rfl : l' = l := h4
  exact ⟨A, c, h3, h.row.cell (by rw [List.getElem?_map, h3]; rfl), h.pool.rda (List.mem_of_getElem? h3)⟩
theorem Ans4.later {w w' w2 : World} {g : Nat} {rs : List PRow} {ls : List (List UInt8)} (h : Ans4 w w' g rs ls) (hb : Below w'.heap.size w' w2) : Ans4 w w2 g rs ls :=
  ⟨h.row.below hb, h.pool.below hb, h.lists, below_then h.below hb, h.new⟩
/-- All four are there, none is empty, none is long. -/
theorem ans_page {n N : Nat} (n1 : 1 ≤ n) (n8 : n ≤ 8) (hN : N = 24 + 16 * n) {F : List UInt8} (hF : IsPage n F) {nu i key val : Int} (u0 : 0 ≤ nu) (u1 : nu < 16) (i0 : 0 ≤ i) (i1 : i < (n : Int)) (k0 : 0 ≤ key) (k1 : key < 4294967296) :
    ∀ (k : Nat) (l : List UInt8), (ans4 F nu i key val)[k]? = some l → 0 < l.length ∧ l.length ≤ 152 := by
  have hpl : placeE F i = 0 := by
    unfold placeE
    rw [hF.slots, if_neg (by omega), if_neg (by omega)]
  obtain ⟨j, rfl⟩ := Int.eq_ofNat_of_zero_le i0
  have hj : j < n := by omega
  have e0 : (makeV nu 1).length = 40 := by
    have := (make_page u0 u1 (n := 1) (by omega) (by omega)).2.1.len
    simpa using this
  have e1 : (stampV F nu 9).length = N := by
    have hE : stampE F nu 9 = 0 := by
      unfold stampE
      have hno : ¬ (slotsP F.length = 0 ∨ okNum nu = false) := by
        rw [hF.slots, (okNum_iff nu).2 ⟨u0, u1⟩]
        intro h
        rcases h with h | h
        · omega
        · cases h
      rw [if_neg hno, if_neg (by omega)]
    unfold stampV
    rw [if_pos hE, stampP_length _ _ _ (by rw [hF.len]; omega), hF.len, hN]
  have e2 : (fillV F (j : Int) key val).length = N := by
    have hE : fillE F (j : Int) key = 0 := by
      unfold fillE
      rw [if_neg (by rw [hpl]; decide), if_neg (by omega)]
    unfold fillV
    rw [if_pos hE, Int.toNat_natCast, (hF.lay hj (slotRow_length _ _)).len, hN]
  have e3 : (freeV F (j : Int)).length = N := by
    unfold freeV
    rw [if_pos hpl, Int.toNat_natCast, (hF.lay hj (zeroL_length 16)).len, hN]
  intro k l hk
  unfold ans4 at hk
  match k, hk with
  | 0, hk => simp at hk; subst hk; omega
  | 1, hk => simp at hk; subst hk; omega
  | 2, hk => simp at hk; subst hk; omega
  | 3, hk => simp at hk; subst hk; omega

set_option maxHeartbeats 8000000 in
theorem pageFresh_any {w : World} (hT : Tb w) {A : Option Addr} {c : Nat} {l : List (Int × Bool × Int × Int)} (hp : PlanR w A c l) (num slots lsn i0 key0 val : Int) (hv0 : 0 ≤ val) (hv1 : val < 18446744073709551616) :
    Calls Tryd.prog 10 #[.agg #[.int .i64 num, .int .i64 slots, .int .i64 lsn, .slice A l.length c], .int .i64 i0, .agg #[.int .i64 key0, .int .u64 val]] w fun e w' => e = .returned (.bool true) ∧ Below w.heap.size w w' := by
  obtain ⟨n, hn⟩ : ∃ n : Nat, (n : Int) = 1 + slots % 8 := ⟨(1 + slots % 8).toNat, by have := Int.emod_nonneg slots (b := 8) (by decide); omega⟩
  obtain ⟨N, hN⟩ : ∃ N, N = 24 + 16 * n := ⟨_, rfl⟩
  have hbx := ((Below.refl w.heap.size w).alloc (Nat.le_refl _) (.cells #[.int .i64 num, .int .i64 slots, .int .i64 lsn, .slice A l.length c] 43)).alloc (by simp) (.cells #[.int .i64 key0, .int .u64 val] 53)
  have hP0 : RowC ((w.alloc (.cells #[.int .i64 num, .int .i64 slots, .int .i64 lsn, .slice A l.length c] 43)).alloc (.cells #[.int .i64 key0, .int .u64 val] 53)) w.heap.size 43 [.int .i64 num, .int .i64 slots, .int .i64 lsn, .slice A l.length c] := (Below.heap_alloc _ _ _ (by simp)).trans (heap_alloc_new w _)
  have hX0 : RowC ((w.alloc (.cells #[.int .i64 num, .int .i64 slots, .int .i64 lsn, .slice A l.length c] 43)).alloc (.cells #[.int .i64 key0, .int .u64 val] 53)) (w.heap.size + 1) 53 [.int .i64 key0, .int .u64 val] := by
    have := heap_alloc_new (w.alloc (.cells #[.int .i64 num, .int .i64 slots, .int .i64 lsn, .slice A l.length c] 43)) (.cells #[.int .i64 key0, .int .u64 val] 53)
    simpa [RowC] using this
  have HBT := Lib.hid (built_any (hT.below hbx) (hp.below hbx) num slots lsn n hn N hN)
  have HI1 := Lib.hid (fun W => into4_any slots 8 (by decide) (by decide) W)
  have HI2 := Lib.hid (fun W => into4_any num 16 (by decide) (by decide) W)
  have HI3 := Lib.hid (fun W => into4_any key0 4294967296 (by decide) (by decide) W)
  have n1 : 1 ≤ n := by have := Int.emod_nonneg slots (b := 8) (by decide); omega
  have n8 : n ≤ 8 := by have := Int.emod_lt_of_pos slots (b := 8) (by decide); omega
  have HI4 := Lib.hid (fun W => into4_any i0 (n : Int) (by omega) (by omega) W)
  obtain ⟨n0, hn0⟩ : ∃ n0, slots % 8 = n0 := ⟨_, rfl⟩
  obtain ⟨nu, hnu⟩ : ∃ nu, num % 16 = nu := ⟨_, rfl⟩
  obtain ⟨ls, hls⟩ : ∃ ls, lsn % 1152921504606846976 = ls := ⟨_, rfl⟩
  obtain ⟨key, hkey⟩ : ∃ key, key0 % 4294967296 = key := ⟨_, rfl⟩
  obtain ⟨i, hi⟩ : ∃ i, i0 % (n : Int) = i := ⟨_, rfl⟩
  have l0 : 0 ≤ n0 := by omega
  have l1 : n0 < 8 := by omega
  have u0 : 0 ≤ nu := by omega
  have u1 : nu < 16 := by omega
  have s0 : 0 ≤ ls := by omega
  have s1 : ls < 1152921504606846976 := by omega
  have k0 : 0 ≤ key := by omega
  have k1 : key < 4294967296 := by omega
  have j0 : 0 ≤ i := by rw [← hi]; exact Int.emod_nonneg _ (by omega)
  have j1 : i < (n : Int) := by rw [← hi]; exact Int.emod_lt_of_pos _ (by omega)
  rw [hn0] at HI1 hn
  rw [hnu] at HI2 HBT
  rw [hls] at HBT
  rw [hkey] at HI3
  rw [hi] at HI4
  clear hn0 hnu hls hkey hi
  obtain ⟨ho, _⟩ := planS_rows n1 n8 u0 u1 l hp.vals
  obtain ⟨c1, c2, c3, c4⟩ := stamped_page ho.page (number := nu) (lsn := 1 + ls) u0 u1 (by omega) (by omega)
  obtain ⟨F, hF⟩ : ∃ F, stampP (planS nu n l).1 nu.toNat (1 + ls).toNat = F := ⟨_, rfl⟩
  rw [hF] at c4 HBT
  have HANS := Lib.hid (fun (G : List UInt8) (hG : G.length = N) => ans_page n1 n8 hN (F := G) ⟨n1, n8, by omega⟩ (val := val) u0 u1 j0 j1 k0 k1)
  have HN := Lib.hid hn
  have hN152 : N ≤ 152 := by omega
  have hN24 : 24 ≤ N := by omega
  have HFL : Hid (F.length = N) := Lib.hid (by omega)
  have HV : Lt64 val := ⟨hv0, hv1⟩
  have p0 := hP0.cell (j := 0) rfl
  have p1 := hP0.cell (j := 1) rfl
  have p2 := hP0.cell (j := 2) rfl
  have p3 := hP0.cell (j := 3) rfl
  clear hF c1 c2 c3 c4 ho hn hN hv1
  go_enter Tryd.func10, Tryd.ntmps10
  go_wp2_with fail
  refine HBT.out.mono ?_
  rintro e w2 ⟨A2, c2, gL, gU, rfl, hN2, _, _, _, _⟩
  have hlt2 := World.ownsRow.lt hN2.own
  have hP2 := hP0.below hN2.below
  have hX2 := hX0.below hN2.below
  have bb2 := below_then hbx hN2.below
  have r2 := hN2.rda
  clear p0 p1 p2 p3 HBT hP0 hX0 hN2
  go_wp2_with fail
  refine (known_any (hT.below bb2)).mono ?_
  rintro e w3 ⟨rfl, hb3⟩
  have hP3 := hP2.below hb3
  have hX3 := hX2.below hb3
  have bb3 := below_then bb2 hb3
  have r3 := r2.below hb3
  clear hP2 hX2 bb2 r2 hb3 hbx
  have p0 := hP3.cell (j := 0) rfl
  have p1 := hP3.cell (j := 1) rfl
  have x0 := hX3.cell (j := 0) rfl
  have xf := hX3.free 0
  go_wp2_with fail
  refine (HI2.out _).mono ?_
  rintro e wx ⟨rfl, rfl⟩
  go_wp2_with fail
  refine (HI1.out _).mono ?_
  rintro e wx ⟨rfl, rfl⟩
  go_wp2_with fail
  rw [← HN.out]
  refine (HI4.out _).mono ?_
  rintro e wx ⟨rfl, rfl⟩
  go_wp2_with fail
  refine (HI3.out _).mono ?_
  rintro e wx ⟨rfl, rfl⟩
  have hg4 := cell_grown w3 (w.heap.size + 1) 0 (.int .i64 key)
  have hX4 := hX3.stored 0 (.int .i64 key)
  have r4 := r3.grown hg4 (fun a ha hc => by injection hc with hc; have := (hlt2 a.block (by rw [ha]; rfl)).1; simp at this; omega)
  have bb4 := bb3.grown hg4 bb3.size (fun k hk => by injection hk with hk; omega)
  have HX4 := Lib.hid hX4
  have HR4 := Lib.hid r4
  have HB4 := Lib.hid bb4
  clear hg4 hX4 r4 bb4 hP3 hX3 r3 bb3 hlt2
  have hnil := Own8.nilRow (w3.setCell ⟨w.heap.size + 1, 0, none⟩ (.int .i64 key)) w3.heap.size 5
  go_wp2_with (at_builtin; refine wpList_app2 (l := []) (m := F) rfl _ _ rfl tU8 rfl hnil rfl HFL.out.symm HR4.out (by rw [HFL.out]; simp; omega) (by simp [World.setCell]) ?_)
  intro v4 w4 o4 hw4
  try rw [List.nil_append] at o4
  have bb4 : Below (w3.setCell ⟨w.heap.size + 1, 0, none⟩ (.int .i64 key)).heap.size (w3.setCell ⟨w.heap.size + 1, 0, none⟩ (.int .i64 key)) w4 := grown_below hw4.grown (Nat.le_refl _) (fun k hk => by simp [Value.ownBlock] at hk)
  obtain ⟨w3', hw3'⟩ : ∃ w3', w3.setCell ⟨w.heap.size + 1, 0, none⟩ (.int .i64 key) = w3' := ⟨_, rfl⟩
  have hsz3 : w3'.heap.size = w3.heap.size := by rw [← hw3']; simp [World.setCell]
  rw [hw3'] at HX4 HR4 HB4 bb4
  rw [← hsz3] at o4
  have hxl3 := HX4.out.lt
  have hrl3 := rda_block2 HR4.out (by rw [HFL.out]; omega)
  clear hw4 hnil hw3' hsz3
  go_wp2_with fail
  go_loopw [12, 13] (fun x i wr => ∃ k : Nat, k ≤ 200 ∧ i = .int .i64 k ∧ Own8 wr w3'.heap.size 5 x (F ++ repB k 165) ∧ Below w3'.heap.size w3' wr) (fun _ i _ => 200 - (intOf i).toNat)
  case atStart => exact ⟨0, by omega, rfl, by rw [repB_zero, List.append_nil]; exact o4, bb4⟩
  case round =>
    obtain ⟨k, hk, rfl, ho, hb⟩ := hrel
    by_cases hkt : k < 200
    · have ho' := ho.alloc (.cells #[.int .u8 165] 5)
      have hb' := hb.alloc hb.size (.cells #[.int .u8 165] 5)
      have hb165 : Rda (wr.alloc (.cells #[.int .u8 165] 5)) (some ⟨wr.heap.size, 0, none⟩) 1 [165] := Rda.box wr _ 165 165 (by decide)
      clear ho hb
      go_wp2_with (at_builtin; refine wpList_app2 (l := F ++ repB k 165) (m := [165]) rfl _ _ rfl tU8 rfl ho' rfl rfl hb165 (by rw [List.length_append, repB_length, HFL.out]; simp; omega) hb'.size ?_)
      intro v3 w5 o3 hw3
      replace o3 : Own8 w5 w3'.heap.size 5 v3 (F ++ repB (k + 1) 165) := by rw [repB_succ, ← List.append_assoc]; first | exact o3 | (rw [List.append_assoc]; exact o3)
      have hb3 := ho'.grown hw3.grown hb' hb'.size (Nat.le_refl _)
      clear hw3 ho' hb' hb165
      go_wp2_with fail
      go_roundw
      case rel => exact ⟨k + 1, by omega, by go_num, o3, hb3⟩
      case measure => simp [intOf]; omega
    · have he : k = 200 := by omega
      subst he
      obtain ⟨wh, rfl⟩ : ∃ wh : World, wh = wr := ⟨_, rfl⟩
      obtain ⟨Aw, cw, rfl, _⟩ := own_rda ho
      obtain ⟨gw, rfl, _⟩ := Own8.block ho (by rw [List.length_append, repB_length]; omega)
      have hR := RoomR.of_own ho
      have hwl : (F ++ repB 200 165).length = N + 200 := by rw [List.length_append, repB_length, HFL.out]
      have hwt : (F ++ repB 200 165).take N = F := List.take_left' HFL.out
      have hwg : ∀ j, j < 200 → (F ++ repB 200 165).getD (N + j) 0 = 165 := fun j hj => by rw [← HFL.out, getD_append_right, repB_get _ _ _ hj]
      rw [hwl]
      obtain ⟨wd, hwd0⟩ : ∃ wd, F ++ repB 200 165 = wd := ⟨_, rfl⟩
      rw [hwd0] at hR hwl hwt hwg
      have HWL := Lib.hid hwl
      have HWT := Lib.hid hwt
      have HWG := Lib.hid hwg
      have hcw := hR.cap
      rw [hwl] at hcw
      have hgl3 := hR.base_
      have hs3 := HB4.out.size
      have S0 : Frs w wh w3'.heap.size gw cw wd F A2 c2 key val := ⟨below_then HB4.out hb, HX4.out.below hb, HR4.out.below hb, hR⟩
      clear ho hwl hwt hwg hwd0 o4 bb4 hR hb HX4 HR4 HB4
      have HWD := Lib.hid (fun (W : World) (wd' : List UInt8) (hl : wd'.length = N + 200) (s : Frs w W w3'.heap.size gw cw wd' F A2 c2 key val) => (show Rda W (some ⟨gw, 0, none⟩) cw (wd'.take N) ∧ (wd'.take N).length = N from ⟨s.wide (by omega), by rw [List.length_take]; omega⟩))
      have r0 := S0.wide (N := N) (by rw [HWL.out]; omega)
      rw [HWT.out] at r0
      go_wp2_with fail
      refine (check_any (hT.below S0.bb) r0 (n := N) HFL.out.symm (by rw [HFL.out]; omega) nu 3).mono ?_
      rintro e w4 ⟨rfl, hb4⟩
      have S1 := S0.below hb4
      have r1 := r0.below hb4
      clear S0 r0 hb4
      go_wp2_with fail
      refine (slot_any r1 (n := N) HFL.out.symm (by rw [HFL.out]; omega) i).mono ?_
      rintro e w5 ⟨rfl, hb5⟩
      have S2 := S1.below hb5
      have r2 := r1.below hb5
      clear S1 r1 hb5
      go_wp2_with fail
      refine (entries4_any r2 (n := N) HFL.out.symm (by rw [HFL.out]; omega)).mono ?_
      rintro e w6 ⟨v, rfl, hO6, hb6⟩
      obtain ⟨A6, c6, rfl, U6, hu6⟩ := UsedR.of_own hO6
      have S3 := S2.below hb6
      have r3 := r2.below hb6
      have hlt6 := hb6.size
      have hL8 : (entL F (List.range (slotsP F.length))).length ≤ 8 := by
        refine Nat.le_trans (entL_len _ _) ?_
        rw [List.length_range]
        exact slotsP_le _
      obtain ⟨L, hL⟩ : ∃ L, entL F (List.range (slotsP F.length)) = L := ⟨_, rfl⟩
      rw [hL] at U6 hL8
      have HL := Lib.hid hL
      rw [hL]
      have hw5 := S2.bb.size
      have HXL : Hid (w.heap.size + 1 < w3'.heap.size) := Lib.hid hxl3
      have HRL : Hid (∀ a, A2 = some a → a.block < w3'.heap.size) := Lib.hid hrl3
      have HGW : Hid (gw < w5.heap.size) := Lib.hid S2.R.lt
      clear S2 r2 hb6 hO6 hL
      have HA1 := Lib.hid (fun (W : World) (Tw : Tb W) (r : Rda W (some ⟨gw, 0, none⟩) cw F) => answers4_any Tw r (n := N) HFL.out.symm (by rw [HFL.out]; omega) nu i key val HV.lo HV.hi)
      have c0 : (0 : Int) ≤ (N : Int) := by omega
      have c1 : (N : Int) ≤ (cw : Int) := by omega
      have x0 := S3.hX.cell (j := 0) rfl
      have x1 := S3.hX.cell (j := 1) rfl
      have hbw := (Below.refl w6.heap.size w6).drew
      go_wp2_with fail
      go_region_held3 (fun w' => w'.cell? ⟨w.heap.size + 1, 0, none⟩ = some (.int .i64 key) ∧ w'.cell? ⟨w.heap.size + 1, 1, none⟩ = some (.int .u64 val)) (first | go_keep | exact ⟨x0, x1⟩ | exact ⟨hs1, hs2⟩)
        ((go_at_call 34; refine (HA1.out _ ((hT.below S3.bb).below hbw) (r3.below hbw)).mono ?_; rintro e w7 ⟨g7, rs7, rfl, hN7⟩; have hb7 := below_then hbw hN7.below; have hs1 := (hb7.cell (p := ⟨w.heap.size + 1, 0, none⟩) (World.block_lt_of_cell? _ _ x0)).trans x0; have hs2 := (hb7.cell (p := ⟨w.heap.size + 1, 1, none⟩) (World.block_lt_of_cell? _ _ x1)).trans x1))
      clear x0 x1 hs1 hs2 hbw
      have S4 := S3.below hb7
      have T3 := Lib.hid S3
      have r4 := r3.below hb7
      have U7 := U6.below hb7
      clear S3 r3 U6 hb7
      have x0 := S4.hX.cell (j := 0) rfl
      have x1 := S4.hX.cell (j := 1) rfl
      have hbw := (Below.refl w7.heap.size w7).drew
      go_wp2_with fail
      go_region_held3 (fun w' => w'.cell? ⟨w.heap.size + 1, 0, none⟩ = some (.int .i64 key) ∧ w'.cell? ⟨w.heap.size + 1, 1, none⟩ = some (.int .u64 val)) (first | go_keep | exact ⟨x0, x1⟩ | exact ⟨hs1, hs2⟩)
        ((go_at_call 34; refine (HA1.out _ ((hT.below S4.bb).below hbw) (r4.below hbw)).mono ?_; rintro e w8 ⟨g8, rs8, rfl, hN8⟩; have hb8 := below_then hbw hN8.below; have hs1 := (hb8.cell (p := ⟨w.heap.size + 1, 0, none⟩) (World.block_lt_of_cell? _ _ x0)).trans x0; have hs2 := (hb8.cell (p := ⟨w.heap.size + 1, 1, none⟩) (World.block_lt_of_cell? _ _ x1)).trans x1))
      clear x0 x1 hs1 hs2 hbw
      have S5 := S4.below hb8
      have U8' := U7.below hb8
      have hN7' := hN7.later hb8
      have hz8 := hb8.size
      have hz7 : w6.heap.size ≤ w7.heap.size := hN7.below.size
      have hlt7 := hN7.pool.lt
      clear S4 r4 U7 hb8 hN7
      obtain ⟨LS, hLS⟩ : ∃ LS, ans4 F nu i key val = LS := ⟨_, rfl⟩
      have hal := HANS.out F HFL.out
      rw [hLS] at hal hN7' hN8
      have hLl : LS.length = 4 := by rw [← hLS]; rfl
      have HAL := Lib.hid hal
      have HLL := Lib.hid hLl
      rw [hLS] at HA1
      clear hal hLl hLS
      go_wp2_with fail
      go_loopw [18, 19] (fun v k wr => ∃ q : Nat, q ≤ 4 ∧ k = .int .i64 q ∧ wr.ownsRow w8.heap.size 9 1 v q ((LS.take q).map fun l => .string (S8 l)) ∧ Below w8.heap.size w8 wr) (fun _ i _ => 4 - (intOf i).toNat)
      case atStart => exact ⟨0, by omega, rfl, World.ownsRow_nil _ _ _ _, Below.refl _ _⟩
      case round =>
        obtain ⟨q, hq, rfl, ho, hb⟩ := hrel
        obtain ⟨wo, rfl⟩ : ∃ wo : World, wo = wr := ⟨_, rfl⟩
        obtain ⟨Av, cv, rfl⟩ := own_slice ho
        by_cases hqt : q < 4
        · obtain ⟨l', hl'⟩ : ∃ l', LS[q]? = some l' := ⟨_, List.getElem?_eq_getElem (by rw [HLL.out]; exact hqt)⟩
          obtain ⟨hl0, hl1⟩ := HAL.out q l' hl'
          have N7 := hN7'.later hb
          have N8 := hN8.later hb
          obtain ⟨a7, d7, _, z7, f7⟩ := ans_row N7 hl'
          obtain ⟨a8, d8, _, z8, f8⟩ := ans_row N8 hl'
          have htk : (LS.take (q + 1)).map (fun l => Value.string (S8 l)) = (LS.take q).map (fun l => Value.string (S8 l)) ++ [.string (S8 l')] := by
            rw [List.take_add_one, hl', List.map_append]
            rfl
          have HTK := Lib.hid htk
          have kc := fun dst hd => run_conv_rd (P := Tryd.prog) wo tU8 f7 l'.length rfl dst hd
          have m0 : (0 : Int) ≤ (q : Int) := by omega
          have m1 : (q : Int) < 4 := by omega
          have hoa := ho.alloc (.cells #[.string (S8 l')] 9)
          have hnew := heap_alloc_new wo (.cells #[.string (S8 l')] 9)
          clear N7 N8 htk hl'
          go_wp2_with (at_builtin; refine wpList_appC _ rfl _ _ 75 rfl w8.heap.size 9 (z := .string ⟨#[]⟩) (size := 1) (bytes := 16) Tryd.underlying75 (by kernel_rfl) rfl (by decide) _ q _ rfl hoa ⟨wo.heap.size, 0, none⟩ 1 1 [.string (S8 l')] rfl rfl ?c1 ?c2 ?c3 ?c4 ?c5 ?_)
          case c1 =>
            intro j u hj
            rw [Addr.add_lit, Nat.zero_add]
            exact RowC.cell (cs := [.string (S8 l')]) hnew hj
          case c2 =>
            intro u hu
            simp at hu
            subst hu
            rfl
          case c3 => unfold maxLen; omega
          case c4 => omega
          case c5 => have := hb.size; simp; omega
          intro v' w9 hown' hgrow _
          obtain ⟨Av', cv', rfl⟩ := own_slice hown'
          have bb9 := below_own (hb.alloc hb.size _) (by have := hb.size; simp; omega) hoa hgrow
          have HO9 := Lib.hid hown'
          have N7 := hN7'.later bb9
          have N8 := hN8.later bb9
          obtain ⟨l2, hl2⟩ : ∃ l2, LS[q]? = some l2 := ⟨_, List.getElem?_eq_getElem (by rw [HLL.out]; exact hqt)⟩
          obtain ⟨hm0, hm1⟩ := HAL.out q l2 hl2
          obtain ⟨a7', d7', _, y7, e7⟩ := ans_row N7 hl2
          obtain ⟨a8', d8', _, y8, e8⟩ := ans_row N8 hl2
          have K1 := Lib.hid (fun r => same_yes (w := w9.drewN r) (e7.below (drewN_below w9 r)) (e8.below (drewN_below w9 r)) rfl rfl rfl)
          have hz1 : ((l2.length : Int) == 0) = false := beq_eq_false_iff_ne.2 (by omega)
          have hz2 : (l2.length == 0) = false := beq_eq_false_iff_ne.2 (by omega)
          have HB9 := Lib.hid bb9
          clear N7 N8 hown' hgrow bb9 hl2 e7 e8 z7 z8 f7 f8 kc hoa hnew ho hb
          go_wp2_with fail
          go_quiet ((go_at_call 16; exact quiet_eq (K1.out _)))
          go_wp2_with fail
          go_roundw
          case rel => exact ⟨q + 1, by omega, by go_num, by rw [HTK.out]; have := ownsRow_below HO9.out (drewN_below w9 nq); simpa using this, below_drewN HB9.out _⟩
          case measure => simp [intOf]; omega
        · have he : q = 4 := by omega
          subst he
          have hO9 := ho
          rw [List.take_of_length_le (by rw [HLL.out]; omega)] at hO9
          have S6 := S5.below hb
          have U9 := U8'.below hb
          have N7 := hN7'.later hb
          have N8 := hN8.later hb
          have hz9 := hb.size
          obtain ⟨wo9, rfl⟩ : ∃ wo9 : World, wo9 = wo := ⟨_, rfl⟩
          clear ho hb S5 U8' hN7' hN8
          have hr7 : rs7.length = 4 := by have := congrArg List.length N7.lists; rw [List.length_map, HLL.out] at this; exact this
          have hr8 : rs8.length = 4 := by have := congrArg List.length N8.lists; rw [List.length_map, HLL.out] at this; exact this
          have hown7 : wo9.ownsRow w6.heap.size 22 1 (.slice (some ⟨g7, 0, none⟩) 4 4) 4 (rs7.map pv) :=
            ⟨by rw [List.length_map, hr7], .inr ⟨g7, 4, _, rfl, N7.new, N7.row, by omega, by unfold maxLen; omega, by simp [hr7], by simp [hr7, List.take_of_length_le]⟩⟩
          have hpool := N7.pool.append N8.pool (show w6.heap.size ≤ w7.heap.size from hz7) hlt7
          have hgb : wo9.heap[g7]? = some (.cells (rs7.map pv).toArray 22 (0, 0)) := N7.row
          have hrow8 := N8.row
          have hg7 : w6.heap.size ≤ g7 := N7.new
          have HN7 := Lib.hid N7.lists
          have HN8 := Lib.hid N8.lists
          clear N7 N8 hlt7
          go_wp2_with (at_builtin; refine wpList_appC _ rfl _ _ 73 rfl w6.heap.size 22 (z := .slice none 0 0) (size := 1) (bytes := 24) Tryd.underlying73 (by kernel_rfl) rfl (by decide) _ 4 _ rfl hown7 ⟨g8, 0, none⟩ 4 4 (rs8.map pv) rfl (by rw [List.length_map, hr8]) ?d1 ?d2 ?d3 ?d4 ?d5 ?_)
          case d1 =>
            intro j u hj
            rw [Addr.add_lit, Nat.zero_add]
            exact hrow8.cell hj
          case d2 =>
            intro u hu
            obtain ⟨x, _, rfl⟩ := List.mem_map.1 hu
            rfl
          case d3 => unfold maxLen; omega
          case d4 => omega
          case d5 => have := hz8; have := hz9; omega
          intro vm w10 hown10 hgrow10 _
          rw [← List.map_append] at hown10
          have hrs : (rs7 ++ rs8).length = 8 := by rw [List.length_append, hr7, hr8]
          obtain ⟨gm, cm, curm, rfl, hgm, hbm, hcm, hcmx, hszm, htm⟩ : ∃ gm cm curm, vm = .slice (some ⟨gm, 0, none⟩) 8 cm ∧ w6.heap.size ≤ gm ∧ w10.heap[gm]? = some (.cells curm 22 (0, 0)) ∧ 8 ≤ cm ∧ cm ≤ maxLen ∧ curm.size = cm * 1 ∧ curm.toList.take (8 * 1) = (rs7 ++ rs8).map pv := by
            rcases hown10.2 with ⟨_, h0⟩ | ⟨g, cap, cur, h1, h2, h3, h4, h5, h6, h7⟩
            · omega
            · exact ⟨g, cap, cur, h1, h2, h3, h4, h5, h6, h7⟩
          have hk10 : KeptBut (fun g => g = g7) wo9 w10 := (KeptBut.refl _ _).grown hgrow10 (fun k e => .inl (by simpa [Value.ownBlock] using e.symm))
          have hP10 := hpool.other hgrow10 (T := 22) (by decide) (fun g hg _ => by
            have : g = g7 := by simpa [Value.ownBlock] using hg.symm
            subst this
            exact ⟨_, hgb⟩)
          have S7 := T3.out.kept S6 hk10 (fun g hg => by omega)
          have U10 := U9.kept hk10 (fun a ha hs => by have := (hu6 a ha).2; omega)
          have O10 := ownsRow_but hO9 hk10 (fun g hv hs => by subst hs; exact own_ne hO9 hgb (by decide) hv)
          have hz10 := hk10.size
          have hz610 : w6.heap.size ≤ w10.heap.size := by have := hz7; have := hz8; have := hz9; omega
          have hu6' : ∀ a, A6 = some a → a.block < w6.heap.size := fun a ha => (hu6 a ha).2
          have hcur : ∀ j (h : j < (rs7 ++ rs8).length), curm[j]? = some (pv (rs7 ++ rs8)[j]) := fun j h => by
            have h1 : ((rs7 ++ rs8).map pv)[j]? = some (pv (rs7 ++ rs8)[j]) := by rw [List.getElem?_map, List.getElem?_eq_getElem h]; rfl
            rw [← htm, List.getElem?_take] at h1
            split at h1
            · simpa using h1
            · cases h1
          have hlen10 : ∀ x ∈ rs7 ++ rs8, x.2.2.length ≤ 140737488355000 := fun x hx => by
            have hh : ∀ (r : List PRow), r.map (fun r => r.2.2) = LS → ∀ x ∈ r, x.2.2.length ≤ 152 := fun r hr x hx => by
              have : x.2.2 ∈ LS := by rw [← hr]; exact List.mem_map_of_mem hx
              obtain ⟨k, hk⟩ := List.mem_iff_getElem?.1 this
              exact (HAL.out k _ hk).2
            rcases List.mem_append.1 hx with hx | hx
            · have := hh rs7 HN7.out x hx; omega
            · have := hh rs8 HN8.out x hx; omega
          have hm := marked_pool (n := 8) (cap := cm) (by rw [hrs]; omega) hP10 hz610 hlen10 hbm hcur hrs.symm (by rw [hrs]; omega)
          have HM := Lib.hid hm
          have hge := poolS_ge hP10
          have hty : ∀ g, poolS (rs7 ++ rs8) g → ∃ cur, w10.heap[g]? = some (.cells cur 5 (0, 0)) := fun g hg => by
            obtain ⟨x, hx, hv⟩ := hg
            exact own8_block_type (hP10.own x hx) hv
          clear hm hown10 hgrow10 hpool hgb hrow8 hk10 hlen10 hcur htm hszm hcmx hown7 hO9 U9 S6 hbm
          go_wp2_with fail
          refine HM.out.mono ?_
          rintro e w11 ⟨rfl, hK⟩
          have S8' := T3.out.kept S7 hK hge
          have U11 := U10.kept hK (fun a ha hs => by have := hu6' a ha; have h1 : w6.heap.size ≤ a.block := hge _ hs; omega)
          have O11 := ownsRow_but O10 hK (fun g hv hs => by obtain ⟨cur, hc⟩ := hty g hs; exact own_ne O10 hc (by decide) hv)
          have hz11 := hK.size
          clear hK HM hge hty hP10 S7 U10 O10
          have r11 := S8'.wide (N := N) (by rw [HWL.out]; omega)
          rw [HWT.out] at r11
          have PS := same_yes r11 S8'.r HFL.out.symm HFL.out.symm rfl
          go_wp2_with fail
          refine PS.mono ?_
          rintro e wx ⟨rfl, rfl⟩
          clear PS
          go_wp2_with fail
          go_loop [20] (fun i => ∃ k : Nat, k ≤ 200 ∧ i = .int .i64 ((N + k : Nat) : Int)) (fun i => 400 - (intOf i).toNat)
          case atStart => exact ⟨0, by omega, rfl⟩
          case round =>
            obtain ⟨k, hk, rfl⟩ := hrel
            by_cases hkt : k < 200
            · have z1 := S8'.R.cells (N + k) (by rw [HWL.out]; omega)
              rw [HWG.out k hkt] at z1
              go_wp2_with fail
              go_round
              case rel => exact ⟨k + 1, by omega, by go_num⟩
              case measure => simp [intOf]; omega
            · have he : k = 200 := by omega
              subst he
              have x0 := S8'.hX.cell (j := 0) rfl
              have x1 := S8'.hX.cell (j := 1) rfl
              have hbw := (Below.refl w11.heap.size w11).drew
              go_wp2_with fail
              go_region_held3 (fun w' => w'.cell? ⟨w.heap.size + 1, 0, none⟩ = some (.int .i64 key) ∧ w'.cell? ⟨w.heap.size + 1, 1, none⟩ = some (.int .u64 val)) (first | go_keep | exact ⟨x0, x1⟩ | exact ⟨hs1, hs2⟩)
                ((go_at_call 34; refine (HA1.out _ ((hT.below S8'.bb).below hbw) (r11.below hbw)).mono ?_; rintro e w12 ⟨g12, rs12, rfl, hN12⟩; have hb12 := below_then hbw hN12.below; have hs1 := (hb12.cell (p := ⟨w.heap.size + 1, 0, none⟩) (World.block_lt_of_cell? _ _ x0)).trans x0; have hs2 := (hb12.cell (p := ⟨w.heap.size + 1, 1, none⟩) (World.block_lt_of_cell? _ _ x1)).trans x1))
              clear x0 x1 hs1 hs2 hbw
              have S9 := S8'.below hb12
              have r12 := r11.below hb12
              have U12 := U11.below hb12
              have O12 := ownsRow_below O11 hb12
              clear S8' r11 U11 O11
              go_wp2_with fail
              refine (entries4_any r12 (n := N) HFL.out.symm (by rw [HFL.out]; omega)).mono ?_
              rintro e w13 ⟨v13, rfl, hO13, hb13⟩
              rw [HL.out] at hO13
              obtain ⟨A13, c13, rfl, V13, hu13⟩ := UsedR.of_own hO13
              have S10 := S9.below hb13
              have r13 := r12.below hb13
              have U13 := U12.below hb13
              have O13 := ownsRow_below O12 hb13
              have N12 := hN12.later hb13
              have hz12 := hb12.size
              have hz13 := hb13.size
              clear S9 r12 U12 O12 hN12 hb12 hb13 hO13
              go_wp2_with fail
              go_loopw [24] (fun k wr => ∃ q : Nat, q ≤ 4 ∧ k = .int .i64 q ∧ Below w13.heap.size w13 wr) (fun i _ => 4 - (intOf i).toNat)
              case atStart => exact ⟨0, by omega, rfl, Below.refl _ _⟩
              case round =>
                obtain ⟨q, hq, rfl, hb⟩ := hrel
                obtain ⟨w14, rfl⟩ : ∃ w14 : World, w14 = wr := ⟨_, rfl⟩
                by_cases hqt : q < 4
                · obtain ⟨l', hl'⟩ : ∃ l', LS[q]? = some l' := ⟨_, List.getElem?_eq_getElem (by rw [HLL.out]; exact hqt)⟩
                  obtain ⟨a7, d7, _, z7, f7⟩ := ans_row (N12.later hb) hl'
                  obtain ⟨gs, hgs, zs, hcs⟩ := own_cell (ownsRow_below O13 hb) (q := q) (x := .string (S8 l')) (by rw [List.getElem?_map, hl']; rfl)
                  have kc := fun r dst hd => run_conv_rd (P := Tryd.prog) (w14.drewN r) tU8 (f7.below (drewN_below w14 r)) l'.length rfl dst hd
                  have m0 : (0 : Int) ≤ (q : Int) := by omega
                  have m1 : (q : Int) < 4 := by omega
                  have HBB := Lib.hid hb
                  obtain ⟨st, hst⟩ : ∃ st, S8 l' = st := ⟨_, rfl⟩
                  rw [hst] at zs kc
                  subst hgs
                  clear f7 hl' hst hb
                  go_wp2_with fail
                  go_quiet (fail)
                  go_wp2_with fail
                  go_roundw
                  case rel => exact ⟨q + 1, by omega, by go_num, below_drewN HBB.out _⟩
                  case measure => simp [intOf]; omega
                · have he : q = 4 := by omega
                  subst he
                  have S11 := S10.below hb
                  have U14 := U13.below hb
                  have V14 := V13.below hb
                  have hz14 := hb.size
                  clear S10 U13 V13 N12 O13 r13 hb
                  go_wp2_with fail
                  go_loopw [25] (fun i wr => ∃ (k : Nat) (wd' : List UInt8), 16 ≤ k ∧ k ≤ N ∧ i = .int .i64 k ∧ wd'.length = N + 200 ∧ RoomR wr w3'.heap.size gw cw wd' ∧ KeptBut (fun g => g = gw) w14 wr) (fun i _ => N - (intOf i).toNat)
                  case atStart => exact ⟨16, wd, by omega, by omega, rfl, HWL.out, S11.R, KeptBut.refl _ _⟩
                  case round =>
                    obtain ⟨k, wd', hk0, hk1, rfl, hwl, hR, hK⟩ := hrel
                    obtain ⟨w15, rfl⟩ : ∃ w15 : World, w15 = wr := ⟨_, rfl⟩
                    by_cases hkN : k < N
                    · have z0 := hR.cells k (by omega)
                      have z0f := (hR.there k (by omega)).2
                      obtain ⟨X, hX⟩ : ∃ X, (wd'.getD k 0).toNat = X := ⟨_, rfl⟩
                      rw [hX] at z0
                      obtain ⟨v, hv⟩ : ∃ v : UInt8, ((X : Int) + (k : Int)) % 256 = (v.toNat : Int) := ⟨_, tmByte0 _ (by omega) (by omega)⟩
                      obtain ⟨hR2, hg2⟩ := hR.stored k (by omega) v
                      have HR2 := Lib.hid hR2
                      have HK2 := Lib.hid (hK.grown hg2 (fun g hg => .inl (by injection hg with hg; exact hg.symm)))
                      have m0 : (0 : Int) ≤ (k : Int) := by omega
                      have m1 : (k : Int) < (N : Int) + 200 := by omega
                      clear hR2 hg2 hR hK hX
                      go_wp2_with fail
                      exact ⟨⟨k + 1, wd'.set k v, by omega, by omega, by go_num, by rw [List.length_set]; exact hwl, HR2.out, HK2.out⟩, by simp [intOf]; omega⟩
                    · have he : k = N := by omega
                      subst he
                      obtain ⟨F', hF'⟩ : ∃ F', wd'.take k = F' := ⟨_, rfl⟩
                      have hFl : F'.length = k := by rw [← hF', List.length_take]; omega
                      have S12 : Frs w w15 w3'.heap.size gw cw wd' F A2 c2 key val :=
                        ⟨S11.bb.trans (hK.toBelow (B := w.heap.size) (fun g hg => by subst hg; have := hgl3; omega) S11.bb.size),
                          (hK.block _ S11.hX.lt (fun hs => by have h1 := HXL.out; have := hgl3; omega)).trans S11.hX,
                          kept_rda2 hK S11.r (fun h0 a ha hs => by have h1 := HRL.out a ha; have := hgl3; omega), hR⟩
                      have U15 := U14.kept hK (fun a ha hs => by have h1 := (hu6 a ha).1; have h2 := HGW.out; omega)
                      have V15 := V14.kept hK (fun a ha hs => by have h1 := (hu13 a ha).1; have h2 := HGW.out; omega)
                      have r15 := S12.wide (N := k) (by omega)
                      rw [hF'] at r15
                      have hz15 := hK.size
                      have HFL2 := Lib.hid hFl
                      have HWL2 := Lib.hid hwl
                      have HWT2 := Lib.hid hF'
                      clear hR hK S11 U14 V14 hFl hF' hwl
                      have HA2 := Lib.hid (fun (W : World) (Tw : Tb W) (A : Option Addr) (c : Nat) (r : Rda W A c F') => answers4_any Tw r (n := k) HFL2.out.symm (by rw [HFL2.out]; omega) nu i key val HV.lo HV.hi)
                      have hL28 : (entL F' (List.range (slotsP F'.length))).length ≤ 8 := by
                        refine Nat.le_trans (entL_len _ _) ?_
                        rw [List.length_range]
                        exact slotsP_le _
                      have HE2 := Lib.hid (fun (W : World) (A : Option Addr) (c : Nat) (r : Rda W A c F') => entries4_any r (n := k) HFL2.out.symm (by rw [HFL2.out]; omega))
                      obtain ⟨L2, hL2⟩ : ∃ L2, entL F' (List.range (slotsP F'.length)) = L2 := ⟨_, rfl⟩
                      rw [hL2] at HE2 hL28
                      obtain ⟨LS2, hLS2⟩ : ∃ LS2, ans4 F' nu i key val = LS2 := ⟨_, rfl⟩
                      have hLl2 : LS2.length = 4 := by rw [← hLS2]; rfl
                      have hal2 := HANS.out F' HFL2.out
                      rw [hLS2] at HA2 hal2
                      have HLL2 := Lib.hid hLl2
                      have HAL2 := Lib.hid hal2
                      clear hL2 hLS2 hLl2 hal2
                      have hnil := Own8.nilRow w15 w15.heap.size 5
                      go_wp2_with (at_builtin; refine wpList_app2 (l := []) (m := F') rfl _ _ rfl tU8 rfl hnil rfl HFL2.out.symm r15 (by rw [HFL2.out]; simp; omega) (Nat.le_refl _) ?_)
                      intro v16 w16 o16 hw16
                      try rw [List.nil_append] at o16
                      have hb16 : Below w15.heap.size w15 w16 := grown_below hw16.grown (Nat.le_refl _) (fun k hk => by simp [Value.ownBlock] at hk)
                      obtain ⟨At, ct, rfl, t16⟩ := own_rda o16
                      have S13 := S12.below hb16
                      have r16 := r15.below hb16
                      have U16 := U15.below hb16
                      have V16 := V15.below hb16
                      clear hw16 hnil o16 S12 r15 U15 V15 hb16
                      rw [HFL2.out]
                      have x0 := S13.hX.cell (j := 0) rfl
                      have x1 := S13.hX.cell (j := 1) rfl
                      have hbw := (Below.refl w16.heap.size w16).drew
                      go_wp2_with fail
                      go_region_held3 (fun w' => w'.cell? ⟨w.heap.size + 1, 0, none⟩ = some (.int .i64 key) ∧ w'.cell? ⟨w.heap.size + 1, 1, none⟩ = some (.int .u64 val)) (first | go_keep | exact ⟨x0, x1⟩ | exact ⟨hs1, hs2⟩)
                        ((go_at_call 34; refine (HA2.out _ ((hT.below S13.bb).below hbw) _ _ (r16.below hbw)).mono ?_; rintro e w17 ⟨g17, rs17, rfl, hN17⟩; have hb17 := below_then hbw hN17.below; have hs1 := (hb17.cell (p := ⟨w.heap.size + 1, 0, none⟩) (World.block_lt_of_cell? _ _ x0)).trans x0; have hs2 := (hb17.cell (p := ⟨w.heap.size + 1, 1, none⟩) (World.block_lt_of_cell? _ _ x1)).trans x1))
                      clear x0 x1 hs1 hs2 hbw
                      have S14 := S13.below hb17
                      have r17 := r16.below hb17
                      have t17 := t16.below hb17
                      have U17 := U16.below hb17
                      have V17 := V16.below hb17
                      clear S13 r16 t16 U16 V16 hb17
                      have x0 := S14.hX.cell (j := 0) rfl
                      have x1 := S14.hX.cell (j := 1) rfl
                      go_wp2_with fail
                      refine (HA2.out _ (hT.below S14.bb) _ _ t17).mono ?_
                      rintro e w18 ⟨g18, rs18, rfl, hN18⟩
                      have hb18 := hN18.below
                      have S15 := S14.below hb18
                      have r18 := r17.below hb18
                      have t18 := t17.below hb18
                      have U18 := U17.below hb18
                      have V18 := V17.below hb18
                      have N17 := hN17.later hb18
                      clear S14 r17 t17 U17 V17 hN17 hb18 x0 x1
                      go_wp2_with fail
                      refine (HE2.out _ _ _ r18).mono ?_
                      rintro e w19 ⟨v19, rfl, hO19, hb19⟩
                      obtain ⟨A19, c19, rfl, P19, _⟩ := UsedR.of_own hO19
                      have t19 := t18.below hb19
                      have U19 := U18.below hb19
                      have V19 := V18.below hb19
                      have N17' := N17.later hb19
                      have N18' := hN18.later hb19
                      have b19 := below_then S15.bb hb19
                      clear S15 r18 t18 U18 V18 N17 hN18 hb19 hO19
                      go_wp2_with fail
                      refine (HE2.out _ _ _ t19).mono ?_
                      rintro e w20 ⟨v20, rfl, hO20, hb20⟩
                      obtain ⟨A20, c20, rfl, Q20, _⟩ := UsedR.of_own hO20
                      have U20 := U19.below hb20
                      have V20 := V19.below hb20
                      have P20 := P19.below hb20
                      have N17 := N17'.later hb20
                      have N18 := N18'.later hb20
                      have b20 := below_then b19 hb20
                      clear t19 U19 V19 P19 N17' N18' hb20 hO20 b19
                      go_wp2_with fail
                      go_loopw [33] (fun i wr => ∃ q : Nat, q ≤ 4 ∧ i = .int .i64 q ∧ Below w20.heap.size w20 wr) (fun i _ => 4 - (intOf i).toNat)
                      case atStart => exact ⟨0, by omega, rfl, Below.refl _ _⟩
                      case round =>
                        obtain ⟨q, hq, rfl, hb⟩ := hrel
                        obtain ⟨w21, rfl⟩ : ∃ w21 : World, w21 = wr := ⟨_, rfl⟩
                        by_cases hqt : q < 4
                        · obtain ⟨l', hl'⟩ : ∃ l', LS2[q]? = some l' := ⟨_, List.getElem?_eq_getElem (by rw [HLL2.out]; exact hqt)⟩
                          obtain ⟨a7, d7, _, z7, f7⟩ := ans_row (N17.later hb) hl'
                          obtain ⟨a8, d8, _, z8, f8⟩ := ans_row (N18.later hb) hl'
                          have K1 := Lib.hid (fun r => same_yes (w := w21.drewN r) (f7.below (drewN_below w21 r)) (f8.below (drewN_below w21 r)) rfl rfl rfl)
                          have m0 : (0 : Int) ≤ (q : Int) := by omega
                          have m1 : (q : Int) < 4 := by omega
                          have HBB := Lib.hid hb
                          clear f7 f8 hl' hb
                          go_wp2_with fail
                          go_quiet ((go_at_call 16; exact quiet_eq (K1.out _)))
                          go_wp2_with fail
                          go_roundw
                          case rel => exact ⟨q + 1, by omega, by go_num, below_drewN HBB.out _⟩
                          case measure => simp [intOf]; omega
                        · have he : q = 4 := by omega
                          subst he
                          have U21 := U20.below hb
                          have V21 := V20.below hb
                          have P21 := P20.below hb
                          have Q21 := Q20.below hb
                          have b21 := below_then b20 hb
                          clear U20 V20 P20 Q20 b20 hb N17 N18
                          go_wp2_with fail
                          refine (alike_yes U21 V21 hL8).mono ?_
                          rintro e w22 ⟨rfl, hb22⟩
                          have P22 := P21.below hb22
                          have Q22 := Q21.below hb22
                          have b22 := below_then b21 hb22
                          clear U21 V21 P21 Q21 b21 hb22
                          go_wp2_with fail
                          refine (alike_yes P22 Q22 hL28).mono ?_
                          rintro e w23 ⟨rfl, hb23⟩
                          have b23 := below_then b22 hb23
                          go_wp2_with fail
                          go_ret
                          exact ⟨rfl, b23⟩

theorem pageFresh_contract (H : Type) (enc : TypeId × Value → H) (W : World) (base : Nat) (args : Array Value) (ds gs : List (DataW H)) (before : List MemPlace)
    (hval0 : ∀ (j : Nat) t v, Tryd.f10.params[j]? = some t → args[j]? = some v → Value.okWide Tryd.prog W .any base t v)
    (hW : DataW.Whole enc Tryd.prog Tryd.f10.params.toList Rows.pageFreshSpec.vars false W args.toList ds gs before) (hsz : (DataW.weightsEach Tryd.checked.prog (Tryd.f10.params.toList ++ Rows.pageFreshSpec.plain.varTypes Tryd.checked.prog) (ds ++ gs)).all (· ≤ reachBytes) = true) (hL : laidMetH Tryd.prog Rows.pageFreshRow.laid W) :
    Calls Tryd.prog 10 args W fun e W' => ∃ v, e = .returned v ∧ Rows.pageFreshSpec.post enc Tryd.prog Tryd.f10 false true false false W args v W' := by
  have hval : ∀ (j : Nat) t v, Tryd.f10.params[j]? = some t → args[j]? = some v → Value.okWide Tryd.prog W .any base t v := hval0
  have hW' := hW
  obtain ⟨p, q, hA0, hV, rfl, hfz, hnd⟩ := hW
  have hA : DataW.TrodAll enc Tryd.prog W 0 (fun _ => true) true Tryd.f10.params.toList args.toList ds p := hA0
  rw [Tryd.params10] at hA hval
  obtain ⟨v0, vs0, d0, ds0, p0, q0, hargs, rfl, rfl, h0, rr0⟩ := trodAll_cons hA
  obtain ⟨v1, vs1, d1, ds1, p1, q1, rfl, rfl, rfl, h1, rr1⟩ := trodAll_cons rr0
  obtain ⟨v2, vs2, d2, ds2, p2, q2, rfl, rfl, rfl, h2, rr2⟩ := trodAll_cons rr1
  obtain ⟨rfl, rfl, rfl⟩ := trodAll_nil rr2
  obtain rfl : args = #[v0, v1, v2] := by cases args; simp_all
  obtain ⟨rfl, rfl⟩ := trodVars_none hV
  have k0 := h0
  have lt0 : ∀ x ∈ p0, x.block < W.heap.size := by obtain ⟨m, hm⟩ := k0; exact DataW.trod_lt m _ _ _ hm
  obtain ⟨num0, slots0, lsn0, a0, l0, cap0, rfl, r0⟩ := open_plan (hval 0 43 v0 rfl rfl) h0
  obtain ⟨x1, rfl, rfl, rfl, w1⟩ := open_int Tryd.underlying3 (hval 1 3 v1 rfl rfl) h1
  have b1 := bounds_i64 w1
  have k2 := h2
  have lt2 : ∀ x ∈ p2, x.block < W.heap.size := by obtain ⟨m, hm⟩ := k2; exact DataW.trod_lt m _ _ _ hm
  obtain ⟨x2, y2, rfl, b2⟩ := open_entry (hval 2 53 v2 rfl rfl) h2
  clear hA0 hval0
  refine (pageFresh_any (tb_of hL) r0 num0 slots0 lsn0 x1 x2 y2 b2.1 b2.2).mono fun e W' ⟨he, bel⟩ => ?_
  subst he
  exact ⟨_, rfl, _, _, _, [], _, [], hW', trodAll_mk1 (shut_bool Tryd.underlying4 _), (trodAll_cons_mk (Below.trod laid_out (by kernel_rfl) (of_decide_eq_true (by kernel_rfl)) k0 bel lt0) (trodAll_cons_mk (shut_int Tryd.underlying3 w1) (trodAll_cons_mk (Below.trod laid_out (by kernel_rfl) (of_decide_eq_true (by kernel_rfl)) k2 bel lt2) trodAll_mk0))), rfl, bel.frame _, fun h => by cases h⟩

theorem pageFresh_met (os : Os) : laidMet Tryd.prog Rows.pageFreshRow.laid ((laidWorld os).forCall (fun _ _ => 0) ⟨#[], #[.agg #[.int .i64 0, .int .i64 0, .int .i64 0, .slice none 0 0], .int .i64 0, .agg #[.int .i64 0, .int .u64 0]], []⟩).memory :=
  laidMet_of_run' 8 (by kernel_rfl) (by kernel_rfl)
theorem pageFresh_reads (os : Os) {H : Type} (enc : TypeId × Value → H) : ∃ places, DataW.whole enc Tryd.prog ((laidWorld os).forCall (fun _ _ => 0) ⟨#[], #[.agg #[.int .i64 0, .int .i64 0, .int .i64 0, .slice none 0 0], .int .i64 0, .agg #[.int .i64 0, .int .u64 0]], []⟩).memory Tryd.f10.params.toList Rows.pageFreshSpec.vars false (#[.agg #[.int .i64 0, .int .i64 0, .int .i64 0, .slice none 0 0], .int .i64 0, .agg #[.int .i64 0, .int .u64 0]] : Array Value).toList 8 = some ([.agg [.lit (.int .i64 0), .lit (.int .i64 0), .lit (.int .i64 0), .nil], .lit (.int .i64 0), .agg [.lit (.int .i64 0), .lit (.int .u64 0)]], [], places) :=
  ⟨[], by kernel_rfl⟩

set_option maxRecDepth 100000 in
theorem pageFresh_lifted (os : Os) (started : os.Started) (H : Type) (enc : TypeId × Value → H) (F : Stop.Interp) :
    ReturnsInHanded {} Tryd.checked os 10 .any ((OpenSpec.ofChange Rows.pageFreshSpec).preRow enc Tryd.prog Tryd.f10 Rows.pageFreshRow.domain false Rows.pageFreshRow.laid) (((OpenSpec.ofChange Rows.pageFreshSpec).at F).post enc Tryd.prog Tryd.f10 false true false false) := by
  obtain ⟨places, hx⟩ := pageFresh_reads os enc
  refine returnsInHanded_of_row (C := Tryd.checked) (s := OpenSpec.ofChange Rows.pageFreshSpec) own_knob started (by kernel_rfl) Tryd.func10
    (witness_row_at (enc := enc) (C := Tryd.checked) false (laidWorld os) #[.agg #[.int .i64 0, .int .i64 0, .int .i64 0, .slice none 0 0], .int .i64 0, .agg #[.int .i64 0, .int .u64 0]] rfl (by kernel_rfl) (by kernel_rfl) (by kernel_rfl)
      (OpenSpec.preRow_of_cond 8 hx (by kernel_rfl) (fun k hk => by cases hk) (by kernel_rfl) (pageFresh_met os))) ?_
  intro W base args ds gs before hval hW _ hcond hsz hL _ _
  exact pageFresh_contract H enc W base args ds gs before hval hW hsz hL

theorem pageFresh_said : Rows.PageFreshSaid :=
  OpenClaim.holds_of_cond 10 Tryd.f10 rfl rfl rfl rfl rfl rfl rfl ⟨rfl, rfl, rfl, rfl, rfl⟩ rfl rfl rfl rfl rfl (by kernel_rfl) Tryd.func10 (by kernel_rfl)
    (of_decide_eq_true (by kernel_rfl)) (by unfold Func.isWrapper; first | (rw [if_pos (by decide +kernel)]; kernel_rfl) | (rw [if_neg (by decide +kernel)]; exact ⟨rfl, rfl⟩))
    (fun os started H enc _ F => by rw [OpenClaim.pre_eq_preRow]; exact pageFresh_lifted os started H enc F)

theorem pageFresh_plain (f : FuncId) (fn : Func) (hf : Tryd.pinned.checked.prog.funcNamed "tidemark/tidemarklaw04.PageFresh" = some f) (hfn : Tryd.pinned.checked.prog.funcs[f]? = some fn) :
    false = Tryd.pinned.checked.prog.looks [] ∧ ∀ (j : Nat) t, fn.params[j]? = some t → Tryd.pinned.checked.prog.wantsStandIn t = false := by
  obtain rfl : f = 10 := Option.some.inj ((show Tryd.prog.funcNamed "tidemark/tidemarklaw04.PageFresh" = some 10 by kernel_rfl).symm.trans hf) |>.symm
  obtain rfl : fn = Tryd.f10 := (Option.some.inj (Tryd.func10.symm.trans hfn)).symm
  refine ⟨by kernel_rfl, fun j t ht => ?_⟩
  rw [Tryd.params10] at ht
  have hm := Array.mem_of_getElem? ht
  have : t = 53∨t = 3∨t = 43 := by simp at hm; first | exact hm | (rcases hm with hh | hh <;> simp [hh]) | (rcases hm with hh | hh | hh <;> simp [hh]) | (rcases hm with hh | hh | hh | hh <;> simp [hh]) | (rcases hm with hh | hh | hh | hh | hh <;> simp [hh]) | (rcases hm with hh | hh | hh | hh | hh | hh <;> simp [hh]) | (rcases hm with hh | hh | hh | hh | hh | hh | hh <;> simp [hh]) | (rcases hm with hh | hh | hh | hh | hh | hh | hh | hh <;> simp [hh])
  rcases this with rfl|rfl|rfl
  · exact (show Tryd.prog.wantsStandIn 53 = false by kernel_rfl)
  · exact (show Tryd.prog.wantsStandIn 3 = false by kernel_rfl)
  · exact (show Tryd.prog.wantsStandIn 43 = false by kernel_rfl)

theorem pageFresh_holds : Rows.PageFreshCardSaid :=
  Claim7.holds_tied_plain_at .later [] _ _ _ _ pageFresh_said (fun _ h => by cases h) (by kernel_rfl) (fun _ h => by cases h) pageFresh_row_tie rfl ⟨rfl, rfl⟩ (by kernel_rfl) rfl pageFresh_plain (by kernel_rfl)
#print axioms pageFresh_holds
end Go.Proofs.YtgcpmdodhnmneaaDoor
