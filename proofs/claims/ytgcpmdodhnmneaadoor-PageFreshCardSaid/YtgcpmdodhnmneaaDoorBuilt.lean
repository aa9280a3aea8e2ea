import Derived.Test.YtgcpmdodhnmneaaDoorLaw4
import Derived.Test.YtgcpmdodhnmneaaDoorSlotPure
import Derived.Test.YtgcpmdodhnmneaaDoorPlan
/- 'built' of the laws of layer 4. -/
set_option linter.unusedVariables false
set_option linter.unusedSimpArgs false
namespace Go.Proofs.YtgcpmdodhnmneaaDoor
open Go.RowKit Go.Tm
set_option maxHeartbeats 400000
set_option maxRecDepth 100000

theorem into4_any (n top : Int) (h0 : 0 < top) (h1 : top ≤ 4611686018427387904) (w : World) :
    Calls Tryd.prog 24 #[.int .i64 n, .int .i64 top] w fun e w' => e = .returned (.int .i64 (n % top)) ∧ w = w' := by
  have hz : ¬ top = 0 := by omega
  have hz2 : (top == 0) = false := by rw [beq_eq_false_iff_ne]; omega
  have hm : n % top = if n.tmod top < 0 then n.tmod top + top else n.tmod top := by
    rw [Int.emod_eq_tmod]
    have hlt := Int.tmod_lt_of_pos n h0
    have hab : (top.natAbs : Int) = top := by omega
    by_cases hn : 0 ≤ n
    · have := Int.tmod_nonneg top hn
      rw [if_pos (.inl hn), if_neg (by omega)]
      omega
    · by_cases hd : top ∣ n
      · rw [if_pos (.inr hd), Int.tmod_eq_zero_of_dvd hd, if_neg (by omega)]
        omega
      · have h2 : n.tmod top ≠ 0 := fun h => hd (Int.dvd_of_tmod_eq_zero h)
        have h3 : n.tmod top ≤ 0 := by
          have := Int.tmod_nonneg top (a := -n) (by omega)
          rw [Int.neg_tmod] at this
          omega
        rw [if_neg (by rintro (h | h) <;> contradiction), if_pos (by omega), hab]
  have hlo : -top < n.tmod top := by
    have := Int.lt_tmod_of_pos n h0
    omega
  have hhi : n.tmod top < top := Int.tmod_lt_of_pos n h0
  rw [hm]
  clear hm
  obtain ⟨r, hr⟩ : ∃ r, n.tmod top = r := ⟨_, rfl⟩
  rw [hr] at hlo hhi ⊢
  by_cases hneg : r < 0
  · rw [if_pos hneg]
    go_enter Tryd.func24, Tryd.ntmps24
    go_wp2
    go_ret
    exact ⟨rfl, rfl⟩
  · rw [if_neg hneg]
    go_enter Tryd.func24, Tryd.ntmps24
    go_wp2
    go_ret
    exact ⟨rfl, rfl⟩

/-- What a plan does to the page, and what it holds by the plan. -/
def planStep (n : Nat) (s : List UInt8 × List (Int × Int) × List Bool) (x : Int × Bool × Int × Int) : List UInt8 × List (Int × Int) × List Bool :=
  if x.2.1 = true then (layL s.1 (16 + 16 * (x.1 % (n : Int)).toNat) (zeroL 16), s.2.1.set (x.1 % (n : Int)).toNat (0, 0), s.2.2.set (x.1 % (n : Int)).toNat false)
  else (layL s.1 (16 + 16 * (x.1 % (n : Int)).toNat) (slotRow (x.2.2.1 % 4294967296).toNat x.2.2.2.toNat), s.2.1.set (x.1 % (n : Int)).toNat (x.2.2.1 % 4294967296, x.2.2.2), s.2.2.set (x.1 % (n : Int)).toNat true)
def planS (num : Int) (n : Nat) (acts : List (Int × Bool × Int × Int)) : List UInt8 × List (Int × Int) × List Bool :=
  acts.foldl (planStep n) (makeV num n, List.replicate n (0, 0), List.replicate n false)
/-- The state's parts fit the page. -/
structure PlanOk (n : Nat) (s : List UInt8 × List (Int × Int) × List Bool) : Prop where
  page : IsPage n s.1
  es : s.2.1.length = n
  us : s.2.2.length = n
theorem planStep_ok {n : Nat} {s : List UInt8 × List (Int × Int) × List Bool} (h : PlanOk n s) (x : Int × Bool × Int × Int) : PlanOk n (planStep n s x) := by
  have hn := h.page.lo
  have h1 := Int.emod_nonneg x.1 (b := (n : Int)) (by omega)
  have h2 := Int.emod_lt_of_pos x.1 (b := (n : Int)) (by omega)
  have hk : (x.1 % (n : Int)).toNat < n := by omega
  unfold planStep
  split
  · exact ⟨h.page.lay hk (zeroL_length _), by simpa using h.es, by simpa using h.us⟩
  · exact ⟨h.page.lay hk (slotRow_length _ _), by simpa using h.es, by simpa using h.us⟩
theorem make_page {num : Int} {n : Nat} (h0 : 0 ≤ num) (h1 : num < 16) (hn : 1 ≤ n) (h8 : n ≤ 8) : makeE num n = 0 ∧ IsPage n (makeV num n) ∧ makeV num n = stampP (zeroL (24 + 16 * n)) num.toNat 0 := by
  have hb : bytesP (n : Int) = 24 + 16 * (n : Int) := bytesP_ok _ (by omega) (by omega)
  have e : makeE num n = 0 := by
    unfold makeE
    rw [if_neg (by rw [hb]; omega), (okNum_iff num).2 ⟨h0, h1⟩]
    rfl
  have e2 : makeV num n = stampP (zeroL (24 + 16 * n)) num.toNat 0 := by
    unfold makeV
    rw [if_pos e, hb, show (24 + 16 * (n : Int)).toNat = 24 + 16 * n by omega]
  refine ⟨e, ⟨hn, h8, ?_⟩, e2⟩
  rw [e2, stampP_length _ _ _ (by rw [zeroL_length]; omega), zeroL_length]

theorem wpList_makeC {P : Program} {w : World} {ops : Array Oper} {rest : List Oper} {o : Oper} {a : Act} {Q : Exit → Act → World → Prop} (hgd : o.guard = none) (lo co : Operand) {t e : TypeId}
    (ho : o.op = .makeSlice t lo co) (ht : P.underlying t = some (.slice e)) {z : Value} {size bytes : Nat} (hinfo : (P.info? e).map (fun i => (i.zero, i.size, i.bytes)) = some (some z, size, bytes)) {kl kc : IntKind} {L C : Int} (n : Nat)
    (hl : a.eval lo = .int kl L) (hc : a.eval co = .int kc C) (hL : L = (n : Int)) (hC : C = (n : Int)) (hn : (bytes : Int) * n ≤ 281474976710656) (h63 : (n : Int) ≤ 9223372036854775807) (cs : List Value) (hcs : madeCells z.cells (n * size) = cs.toArray)
    (h : ∀ w', RowC w' w.heap.size e cs → Below w.heap.size w w' → wpList P ops Q rest (a.put o.dst (.slice (some ⟨w.heap.size, 0, none⟩) n n)) w') : wpList P ops Q (o :: rest) a w := by
  refine wpList_plain hgd fun K hK => ?_
  subst hL hC
  obtain ⟨i, hi, hz, hs, hby⟩ := info_parts hinfo
  have hrun := run_make (P := P) w t e i z ht hi hz kl kc n n (by omega) (Int.le_refl _) (by rw [hby]; exact hn) h63
  rw [Int.toNat_natCast, hs, hcs] at hrun
  unfold Oper.wp
  simp [execOp, ho, hl, hc, hrun, Result.andThen]
  exact hK _ _ (h _ (heap_alloc_new w _) ((Below.refl _ _).alloc (Nat.le_refl _) _))
theorem madeE1 : madeCells (Value.agg #[.int .i64 0, .int .u64 0]).cells (1 * 2) = (entC (List.replicate 1 ((0 : Int), (0 : Int)))).toArray := by kernel_rfl
theorem madeE2 : madeCells (Value.agg #[.int .i64 0, .int .u64 0]).cells (2 * 2) = (entC (List.replicate 2 ((0 : Int), (0 : Int)))).toArray := by kernel_rfl
theorem madeE3 : madeCells (Value.agg #[.int .i64 0, .int .u64 0]).cells (3 * 2) = (entC (List.replicate 3 ((0 : Int), (0 : Int)))).toArray := by kernel_rfl
theorem madeE4 : madeCells (Value.agg #[.int .i64 0, .int .u64 0]).cells (4 * 2) = (entC (List.replicate 4 ((0 : Int), (0 : Int)))).toArray := by kernel_rfl
theorem madeE5 : madeCells (Value.agg #[.int .i64 0, .int .u64 0]).cells (5 * 2) = (entC (List.replicate 5 ((0 : Int), (0 : Int)))).toArray := by kernel_rfl
theorem madeE6 : madeCells (Value.agg #[.int .i64 0, .int .u64 0]).cells (6 * 2) = (entC (List.replicate 6 ((0 : Int), (0 : Int)))).toArray := by kernel_rfl
theorem madeE7 : madeCells (Value.agg #[.int .i64 0, .int .u64 0]).cells (7 * 2) = (entC (List.replicate 7 ((0 : Int), (0 : Int)))).toArray := by kernel_rfl
theorem madeE8 : madeCells (Value.agg #[.int .i64 0, .int .u64 0]).cells (8 * 2) = (entC (List.replicate 8 ((0 : Int), (0 : Int)))).toArray := by kernel_rfl
theorem madeE (n : Nat) (h1 : 1 ≤ n) (h8 : n ≤ 8) : madeCells (Value.agg #[.int .i64 0, .int .u64 0]).cells (n * 2) = (entC (List.replicate n ((0 : Int), (0 : Int)))).toArray := by
  have : n = 1 ∨ n = 2 ∨ n = 3 ∨ n = 4 ∨ n = 5 ∨ n = 6 ∨ n = 7 ∨ n = 8 := by omega
  rcases this with rfl | rfl | rfl | rfl | rfl | rfl | rfl | rfl
  · exact madeE1
  · exact madeE2
  · exact madeE3
  · exact madeE4
  · exact madeE5
  · exact madeE6
  · exact madeE7
  · exact madeE8
theorem madeB1 : madeCells (Value.bool false).cells (1 * 1) = (boolC (List.replicate 1 false)).toArray := by kernel_rfl
theorem madeB2 : madeCells (Value.bool false).cells (2 * 1) = (boolC (List.replicate 2 false)).toArray := by kernel_rfl
theorem madeB3 : madeCells (Value.bool false).cells (3 * 1) = (boolC (List.replicate 3 false)).toArray := by kernel_rfl
theorem madeB4 : madeCells (Value.bool false).cells (4 * 1) = (boolC (List.replicate 4 false)).toArray := by kernel_rfl
theorem madeB5 : madeCells (Value.bool false).cells (5 * 1) = (boolC (List.replicate 5 false)).toArray := by kernel_rfl
theorem madeB6 : madeCells (Value.bool false).cells (6 * 1) = (boolC (List.replicate 6 false)).toArray := by kernel_rfl
theorem madeB7 : madeCells (Value.bool false).cells (7 * 1) = (boolC (List.replicate 7 false)).toArray := by kernel_rfl
theorem madeB8 : madeCells (Value.bool false).cells (8 * 1) = (boolC (List.replicate 8 false)).toArray := by kernel_rfl
theorem madeB (n : Nat) (h1 : 1 ≤ n) (h8 : n ≤ 8) : madeCells (Value.bool false).cells (n * 1) = (boolC (List.replicate n false)).toArray := by
  have : n = 1 ∨ n = 2 ∨ n = 3 ∨ n = 4 ∨ n = 5 ∨ n = 6 ∨ n = 7 ∨ n = 8 := by omega
  rcases this with rfl | rfl | rfl | rfl | rfl | rfl | rfl | rfl
  · exact madeB1
  · exact madeB2
  · exact madeB3
  · exact madeB4
  · exact madeB5
  · exact madeB6
  · exact madeB7
  · exact madeB8

theorem ent_store {w : World} {g : Nat} {T : TypeId} {es : List (Int × Int)} (h : RowC w g T (entC es)) (k : Nat) (x : Int × Int) : RowC ((w.setCell ⟨g, k * 2, none⟩ (.int .i64 x.1)).setCell ⟨g, k * 2 + 1, none⟩ (.int .u64 x.2)) g T (entC (es.set k x)) := by
  rw [← entC_set]
  exact (h.stored _ _).stored _ _
theorem ent_grown (w : World) (g k : Nat) (x : Int × Int) : w.grownBy ((w.setCell ⟨g, k * 2, none⟩ (.int .i64 x.1)).setCell ⟨g, k * 2 + 1, none⟩ (.int .u64 x.2)) (some g) := by
  have h1 := cell_grown w g (k * 2) (.int .i64 x.1)
  have h2 := cell_grown (w.setCell ⟨g, k * 2, none⟩ (.int .i64 x.1)) g (k * 2 + 1) (.int .u64 x.2)
  exact ⟨h2.os.trans h1.os, h2.tape.trans h1.tape, h2.output.trans h1.output, Nat.le_trans h1.size h2.size, fun i hi hr => (h2.block i (Nat.lt_of_lt_of_le hi h1.size) hr).trans (h1.block i hi hr)⟩

set_option maxHeartbeats 1600000 in
theorem built_any {w : World} (hT : Tb w) {A : Option Addr} {c : Nat} {l : List (Int × Bool × Int × Int)} (hp : PlanR w A c l) (num slots lsn : Int) (n : Nat) (hn : (n : Int) = 1 + slots % 8) (N : Nat) (hN : N = 24 + 16 * n) :
    Calls Tryd.prog 23 #[.agg #[.int .i64 num, .int .i64 slots, .int .i64 lsn, .slice A l.length c]] w fun e w' => ∃ A' c' gL gU, e = .returned (.tuple #[.slice A' N c', .slice (some ⟨gL, 0, none⟩) n n, .slice (some ⟨gU, 0, none⟩) n n, .bool true]) ∧
      New 5 w w' A' c' (stampP (planS (num % 16) n l).1 (num % 16).toNat (1 + lsn % 1152921504606846976).toNat) ∧ RowC w' gL 53 (entC (planS (num % 16) n l).2.1) ∧ RowC w' gU 4 (boolC (planS (num % 16) n l).2.2) ∧ w.heap.size ≤ gL ∧ w.heap.size ≤ gU := by
  have n1 : 1 ≤ n := by omega
  have n8 : n ≤ 8 := by omega
  have HI1 := Lib.hid (fun W => into4_any slots 8 (by decide) (by decide) W)
  have HI2 := Lib.hid (fun W => into4_any num 16 (by decide) (by decide) W)
  have HI3 := Lib.hid (fun W => into4_any lsn 1152921504606846976 (by decide) (by decide) W)
  obtain ⟨n0, hn0⟩ : ∃ n0, slots % 8 = n0 := ⟨_, rfl⟩
  obtain ⟨nu, hnu⟩ : ∃ nu, num % 16 = nu := ⟨_, rfl⟩
  obtain ⟨ls, hls⟩ : ∃ ls, lsn % 1152921504606846976 = ls := ⟨_, rfl⟩
  have l0 : 0 ≤ n0 := by omega
  have l1 : n0 < 8 := by omega
  have u0 : 0 ≤ nu := by omega
  have u1 : nu < 16 := by omega
  have s0 : 0 ≤ ls := by omega
  have s1 : ls < 1152921504606846976 := by omega
  rw [hn0] at HI1 hn
  rw [hnu] at HI2 ⊢
  rw [hls] at HI3 ⊢
  clear hn0 hnu hls
  obtain ⟨mE, mP, mV⟩ := make_page u0 u1 n1 n8
  have PM := fun (W : World) (T : Tb W) => make_any T nu n
  rw [mE, mP.len, ← hN] at PM
  have HPM := Lib.hid PM
  have HN := Lib.hid hn
  have hbx := (Below.refl w.heap.size w).alloc (Nat.le_refl _) (.cells #[.int .i64 num, .int .i64 slots, .int .i64 lsn, .slice A l.length c] 43)
  have hP0 := heap_alloc_new w (.cells #[.int .i64 num, .int .i64 slots, .int .i64 lsn, .slice A l.length c] 43)
  have hN152 : N ≤ 152 := by omega
  have HNN := Lib.hid hN
  clear PM mE mV hn hN
  have c0 : (w.alloc (.cells #[.int .i64 num, .int .i64 slots, .int .i64 lsn, .slice A l.length c] 43)).cell? ⟨w.heap.size, 0, none⟩ = some (.int .i64 num) := RowC.cell (cs := [.int .i64 num, .int .i64 slots, .int .i64 lsn, .slice A l.length c]) (j := 0) hP0 rfl
  have c1 : (w.alloc (.cells #[.int .i64 num, .int .i64 slots, .int .i64 lsn, .slice A l.length c] 43)).cell? ⟨w.heap.size, 1, none⟩ = some (.int .i64 slots) := RowC.cell (cs := [.int .i64 num, .int .i64 slots, .int .i64 lsn, .slice A l.length c]) (j := 1) hP0 rfl
  have c2 : (w.alloc (.cells #[.int .i64 num, .int .i64 slots, .int .i64 lsn, .slice A l.length c] 43)).cell? ⟨w.heap.size, 2, none⟩ = some (.int .i64 lsn) := RowC.cell (cs := [.int .i64 num, .int .i64 slots, .int .i64 lsn, .slice A l.length c]) (j := 2) hP0 rfl
  have c3 : (w.alloc (.cells #[.int .i64 num, .int .i64 slots, .int .i64 lsn, .slice A l.length c] 43)).cell? ⟨w.heap.size, 3, none⟩ = some (.slice A l.length c) := RowC.cell (cs := [.int .i64 num, .int .i64 slots, .int .i64 lsn, .slice A l.length c]) (j := 3) hP0 rfl
  go_enter Tryd.func23, Tryd.ntmps23
  go_wp2_with fail
  refine (HI1.out _).mono ?_
  rintro e wx ⟨rfl, rfl⟩
  go_wp2_with fail
  refine (HI2.out _).mono ?_
  rintro e wx ⟨rfl, rfl⟩
  go_wp2_with fail
  refine (HI3.out _).mono ?_
  rintro e wx ⟨rfl, rfl⟩
  go_wp2_with fail
  rw [← HN.out]
  refine (HPM.out _ (hT.below hbx)).mono ?_
  rintro e w4 ⟨A4, c4, rfl, hN4⟩
  have HmE := Lib.hid (madeE n n1 n8)
  have HmB := Lib.hid (madeB n n1 n8)
  go_wp2_with (refine wpList_makeC rfl _ _ rfl Tryd.underlying44 (z := .agg #[.int .i64 0, .int .u64 0]) (size := 2) (bytes := 16) (by kernel_rfl) n rfl rfl rfl rfl (by omega) (by omega) _ HmE.out ?_)
  intro w5 hE5 hb5
  go_wp2_with (refine wpList_makeC rfl _ _ rfl Tryd.underlying45 (z := .bool false) (size := 1) (bytes := 1) (by kernel_rfl) n rfl rfl rfl rfl (by omega) (by omega) _ HmB.out ?_)
  intro w6 hU6 hb6
  have z5 := hb5.size
  have z6 := hb6.size
  have z4 := hN4.below.size
  have hlt4 := hE5.lt
  have hlt5 := hU6.lt
  have hb4 := below_then hbx hN4.below
  have hb6' := below_then (below_then hb4 hb5) hb6
  have r6 := (hN4.rda.below hb5).below hb6
  have hE6 := hE5.below hb6
  have hU6' := hU6
  have hp6 : RowC w6 w.heap.size 43 [.int .i64 num, .int .i64 slots, .int .i64 lsn, .slice A l.length c] := RowC.below (RowC.below (RowC.below hP0 hN4.below) hb5) hb6
  have hzz : w.heap.size < w4.heap.size := by
    have := hbx.size
    simp at z4
    omega
  have HST := Lib.hid (fun (k : Nat) (hk : k < l.length) => (show planS nu n (l.take (k + 1)) = planStep n (planS nu n (l.take k)) l[k] by
    unfold planS
    rw [List.take_succ_eq_append_getElem hk, List.foldl_append]
    rfl))
  have hst0 : planS nu n (l.take 0) = (makeV nu n, List.replicate n (0, 0), List.replicate n false) := rfl
  have hok : ∀ k, PlanOk n (planS nu n (l.take k)) := by
    intro k
    unfold planS
    generalize hq : l.take k = q
    clear hq
    have : ∀ s, PlanOk n s → PlanOk n (q.foldl (planStep n) s) := by
      induction q with
      | nil => exact fun s h => h
      | cons x r ih => exact fun s h => ih _ (planStep_ok h x)
    exact this _ ⟨mP, by simp, by simp⟩
  have HOK := Lib.hid hok
  clear hok hE5 hU6 hN4 hb5 hb6 hb4 hP0 c0 c1 c2 c3 hbx HPM mP z4
  go_wp2_with fail
  go_loopw [9, 13] (fun x i wr => ∃ (k : Nat) (A' : Option Addr) (c' : Nat), k ≤ l.length ∧ x = .slice A' N c' ∧ i = .int .i64 k ∧ Rda wr A' c' (planS nu n (l.take k)).1 ∧ RowC wr w4.heap.size 53 (entC (planS nu n (l.take k)).2.1) ∧ RowC wr w5.heap.size 4 (boolC (planS nu n (l.take k)).2.2) ∧ RowC wr w.heap.size 43 [.int .i64 num, .int .i64 slots, .int .i64 lsn, .slice A l.length c] ∧ Below w.heap.size w wr) (fun _ i _ => l.length - (intOf i).toNat)
  case atStart => exact ⟨0, _, _, by omega, rfl, rfl, by rw [hst0]; exact r6, by rw [hst0]; exact hE6, by rw [hst0]; assumption, hp6, hb6'⟩
  case round =>
    obtain ⟨k, A', c', hk, rfl, rfl, hr, hE, hU, hP, hb⟩ := hrel
    obtain ⟨wo, rfl⟩ : ∃ wo : World, wo = wr := ⟨_, rfl⟩
    have pc3 := hP.cell (j := 3) rfl
    by_cases hkt : k < l.length
    · obtain ⟨g, o, rfl, hc⟩ := (hp.below hb).cells (by omega)
      obtain ⟨y1, y2, y3, y4⟩ := hc k l[k] (List.getElem?_eq_getElem hkt)
      obtain ⟨q1, q2⟩ := hp.vals l[k] (List.getElem_mem hkt)
      have hstep := HST.out k hkt
      obtain ⟨⟨at', fr, ky, vl⟩, hx⟩ : ∃ x, l[k] = x := ⟨_, rfl⟩
      rw [hx] at y1 y2 y3 y4 q1 q2 hstep
      have hcap := hp.cap
      have hmax := hp.max
      unfold maxLen at hmax
      clear hc hx
      obtain ⟨kk, hkk⟩ : ∃ kk : Nat, at' % (n : Int) = (kk : Int) := ⟨(at' % (n : Int)).toNat, by have := Int.emod_nonneg at' (b := (n : Int)) (by omega); omega⟩
      have hkn : kk < n := by
        have := Int.emod_lt_of_pos at' (b := (n : Int)) (by omega)
        omega
      obtain ⟨ke, hke⟩ : ∃ ke, ky % 4294967296 = ke := ⟨_, rfl⟩
      have ke0 : 0 ≤ ke := by omega
      have ke1 : ke ≤ 4294967295 := by omega
      have J1 := fun W => into4_any at' n (by omega) (by omega) W
      have J2 := fun W => into4_any ky 4294967296 (by decide) (by decide) W
      rw [hkk] at J1
      rw [hke] at J2
      have HJ1 := Lib.hid J1
      have HJ2 := Lib.hid J2
      have hA : RowC (wo.alloc (.cells #[.int .i64 at', .bool fr, .int .i64 ky, .int .u64 vl] 95)) wo.heap.size 95 [.int .i64 at', .bool fr, .int .i64 ky, .int .u64 vl] := heap_alloc_new wo _
      have bA := (Below.refl wo.heap.size wo).alloc (Nat.le_refl _) (.cells #[.int .i64 at', .bool fr, .int .i64 ky, .int .u64 vl] 95)
      have a0 := hA.cell (j := 0) rfl
      have a1 := hA.cell (j := 1) rfl
      have a2 := hA.cell (j := 2) rfl
      have a3 := hA.cell (j := 3) rfl
      have f2 := hA.free 2
      have hB : RowC (wo.alloc (.cells #[.int .i64 at', .bool fr, .int .i64 ke, .int .u64 vl] 95)) wo.heap.size 95 [.int .i64 at', .bool fr, .int .i64 ke, .int .u64 vl] := heap_alloc_new wo _
      have bB := (Below.refl wo.heap.size wo).alloc (Nat.le_refl _) (.cells #[.int .i64 at', .bool fr, .int .i64 ke, .int .u64 vl] 95)
      have d1 := hB.cell (j := 1) rfl
      have d2 := hB.cell (j := 2) rfl
      have d3 := hB.cell (j := 3) rfl
      have hO := HOK.out k
      have hO2 := HOK.out (k + 1)
      rw [hstep] at hO2
      unfold planStep at hstep hO2
      rw [hkk, hke, Int.toNat_natCast] at hstep hO2
      obtain ⟨b0, hb0⟩ : ∃ b0, (planS nu n (l.take k)).1 = b0 := ⟨_, rfl⟩
      obtain ⟨es, hes⟩ : ∃ es, (planS nu n (l.take k)).2.1 = es := ⟨_, rfl⟩
      obtain ⟨us, hus⟩ : ∃ us, (planS nu n (l.take k)).2.2 = us := ⟨_, rfl⟩
      have hpg := hO.page
      have hel := hO.es
      have hul := hO.us
      rw [hb0] at hr hpg hstep hO2
      rw [hes] at hE hel hstep hO2
      rw [hus] at hU hul hstep hO2
      have hpl : placeE b0 (kk : Int) = 0 := by
        unfold placeE
        rw [hpg.slots, if_neg (by omega), if_neg (by omega)]
      have hlen := hpg.len
      rw [← HNN.out] at hlen
      clear hb0 hes hus hO
      clear J1 J2
      go_wp2_with fail
      clear y1 y2 y3 y4
      refine (HJ1.out _).mono ?_
      rintro e wx ⟨rfl, rfl⟩
      go_wp2_with fail
      refine (HJ2.out _).mono ?_
      rintro e wx ⟨rfl, rfl⟩
      have hE1 := hE.below bB
      have hU1 := hU.below bB
      have hP1 := hP.below bB
      have hr1 := hr.below bB
      have hbB := below_then hb bB
      cases fr with
      | true =>
        rw [if_pos rfl] at hstep hO2
        have hfv : freeV b0 (kk : Int) = layL b0 (16 + 16 * kk) (zeroL 16) := if_pos hpl
        have hl2 := hO2.page.len
        rw [← HNN.out] at hl2
        have PF := free_any hr1 (n := N) hlen.symm (by omega) (kk : Int)
        rw [hpl, hfv, hl2] at PF
        have HPF := Lib.hid PF
        clear PF hl2 hfv
        go_wp2_with fail
        refine HPF.out.mono ?_
        rintro e w2 ⟨A2, c2, rfl, hN2⟩
        have hE2 := hE1.below hN2.below
        have hU2 := hU1.below hN2.below
        have hB2 := hB.below hN2.below
        have hP2 := hP1.below hN2.below
        have hr2 := hN2.rda
        have hb2 := below_then hbB hN2.below
        have hge2 : w5.heap.size < w2.heap.size := hU2.lt
        have hnw := fun a (ha : A2 = some a) => (World.ownsRow.lt hN2.own a.block (by rw [ha]; rfl)).1
        have hlow : w4.heap.size < (wo.alloc (.cells #[.int .i64 at', .bool true, .int .i64 ke, .int .u64 vl] 95)).heap.size ∧ w5.heap.size < (wo.alloc (.cells #[.int .i64 at', .bool true, .int .i64 ke, .int .u64 vl] 95)).heap.size := ⟨hE1.lt, hU1.lt⟩
        have e0 := hE2.cell (j := kk * 2) (v := .int .i64 es[kk].1) (by rw [entC_get0, List.getElem?_eq_getElem (by omega)]; rfl)
        have e1 := hE2.cell (j := kk * 2 + 1) (v := .int .u64 es[kk].2) (by rw [entC_get1, List.getElem?_eq_getElem (by omega)]; rfl)
        have ef0 := hE2.free (kk * 2)
        have ef1 := hE2.free (kk * 2 + 1)
        have v1 := hB2.cell (j := 1) rfl
        have v2 := hB2.cell (j := 2) rfl
        have v3 := hB2.cell (j := 3) rfl
        have hg3 := ent_grown w2 w4.heap.size kk (0, 0)
        have hE3 := ent_store hE2 kk (0, 0)
        have hU3 := hU2.grown hg3 (by intro hh; injection hh with hh; omega)
        have hB3 := hB2.grown hg3 (by intro hh; injection hh with hh; have := hE.lt; omega)
        have hP3 := hP2.grown hg3 (by intro hh; injection hh with hh; omega)
        have hr3 := hr2.grown hg3 (fun a ha hc => by injection hc with hc; have := hnw a ha; omega)
        have hb3 := hb2.grown hg3 hb2.size (fun i hi => by injection hi with hi; omega)
        have t1 := hB3.cell (j := 1) rfl
        have u1' := hU3.cell (j := kk) (v := .bool us[kk]) (by rw [boolC_get, List.getElem?_eq_getElem (by omega)]; rfl)
        have uf := hU3.free kk
        have hg4 := cell_grown ((w2.setCell ⟨w4.heap.size, kk * 2, none⟩ (.int .i64 0)).setCell ⟨w4.heap.size, kk * 2 + 1, none⟩ (.int .u64 0)) w5.heap.size kk (.bool false)
        have hE4 := hE3.grown hg4 (by intro hh; injection hh with hh; omega)
        have hU4 := hU3.stored kk (.bool false)
        rw [boolC_set] at hU4
        have hP4 := hP3.grown hg4 (by intro hh; injection hh with hh; omega)
        have hr4 := hr3.grown hg4 (fun a ha hc => by injection hc with hc; have := hnw a ha; omega)
        have hb4 := hb3.grown hg4 hb3.size (fun i hi => by injection hi with hi; omega)
        clear hE1 hU1 hP1 hr1 hbB hB hB2 hN2 hE2 hU2 hP2 hr2 hb2 hE3 hU3 hB3 hP3 hr3 hb3 hg3 hg4 hnw hE hU hP hr
        go_wp2_with fail
        go_roundw
        case rel => exact ⟨k + 1, A2, c2, by omega, rfl, by go_num, by rw [hstep]; exact hr4, by rw [hstep]; exact hE4, by rw [hstep]; exact hU4, hP4, hb4⟩
        case measure => simp [intOf]; omega
      | false =>
        rw [if_neg (by decide)] at hstep hO2
        have hfe : fillE b0 (kk : Int) ke = 0 := by
          unfold fillE
          rw [if_neg (by rw [hpl]; decide), if_neg (by omega)]
        have hfv : fillV b0 (kk : Int) ke vl = layL b0 (16 + 16 * kk) (slotRow ke.toNat vl.toNat) := if_pos hfe
        have hl2 := hO2.page.len
        rw [← HNN.out] at hl2
        have PF := fill_any hr1 (n := N) hlen.symm (by omega) (kk : Int) ke vl q1 q2
        rw [hfe, hfv, hl2] at PF
        have HPF := Lib.hid PF
        clear PF hl2 hfv
        go_wp2_with fail
        refine HPF.out.mono ?_
        rintro e w2 ⟨A2, c2, rfl, hN2⟩
        have hE2 := hE1.below hN2.below
        have hU2 := hU1.below hN2.below
        have hB2 := hB.below hN2.below
        have hP2 := hP1.below hN2.below
        have hr2 := hN2.rda
        have hb2 := below_then hbB hN2.below
        have hge2 : w5.heap.size < w2.heap.size := hU2.lt
        have hnw := fun a (ha : A2 = some a) => (World.ownsRow.lt hN2.own a.block (by rw [ha]; rfl)).1
        have hlow : w4.heap.size < (wo.alloc (.cells #[.int .i64 at', .bool false, .int .i64 ke, .int .u64 vl] 95)).heap.size ∧ w5.heap.size < (wo.alloc (.cells #[.int .i64 at', .bool false, .int .i64 ke, .int .u64 vl] 95)).heap.size := ⟨hE1.lt, hU1.lt⟩
        have e0 := hE2.cell (j := kk * 2) (v := .int .i64 es[kk].1) (by rw [entC_get0, List.getElem?_eq_getElem (by omega)]; rfl)
        have e1 := hE2.cell (j := kk * 2 + 1) (v := .int .u64 es[kk].2) (by rw [entC_get1, List.getElem?_eq_getElem (by omega)]; rfl)
        have ef0 := hE2.free (kk * 2)
        have ef1 := hE2.free (kk * 2 + 1)
        have v1 := hB2.cell (j := 1) rfl
        have v2 := hB2.cell (j := 2) rfl
        have v3 := hB2.cell (j := 3) rfl
        have hg3 := ent_grown w2 w4.heap.size kk (ke, vl)
        have hE3 := ent_store hE2 kk (ke, vl)
        have hU3 := hU2.grown hg3 (by intro hh; injection hh with hh; omega)
        have hB3 := hB2.grown hg3 (by intro hh; injection hh with hh; have := hE.lt; omega)
        have hP3 := hP2.grown hg3 (by intro hh; injection hh with hh; omega)
        have hr3 := hr2.grown hg3 (fun a ha hc => by injection hc with hc; have := hnw a ha; omega)
        have hb3 := hb2.grown hg3 hb2.size (fun i hi => by injection hi with hi; omega)
        have t1 := hB3.cell (j := 1) rfl
        have u1' := hU3.cell (j := kk) (v := .bool us[kk]) (by rw [boolC_get, List.getElem?_eq_getElem (by omega)]; rfl)
        have uf := hU3.free kk
        have hg4 := cell_grown ((w2.setCell ⟨w4.heap.size, kk * 2, none⟩ (.int .i64 ke)).setCell ⟨w4.heap.size, kk * 2 + 1, none⟩ (.int .u64 vl)) w5.heap.size kk (.bool true)
        have hE4 := hE3.grown hg4 (by intro hh; injection hh with hh; omega)
        have hU4 := hU3.stored kk (.bool true)
        rw [boolC_set] at hU4
        have hP4 := hP3.grown hg4 (by intro hh; injection hh with hh; omega)
        have hr4 := hr3.grown hg4 (fun a ha hc => by injection hc with hc; have := hnw a ha; omega)
        have hb4 := hb3.grown hg4 hb3.size (fun i hi => by injection hi with hi; omega)
        clear hE1 hU1 hP1 hr1 hbB hB hB2 hN2 hE2 hU2 hP2 hr2 hb2 hE3 hU3 hB3 hP3 hr3 hb3 hg3 hg4 hnw hE hU hP hr
        go_wp2_with fail
        go_roundw
        case rel => exact ⟨k + 1, A2, c2, by omega, rfl, by go_num, by rw [hstep]; exact hr4, by rw [hstep]; exact hE4, by rw [hstep]; exact hU4, hP4, hb4⟩
        case measure => simp [intOf]; omega
    · have he : k = l.length := by omega
      subst he
      have hO := HOK.out l.length
      rw [List.take_length] at hr hE hU hO
      obtain ⟨b0, hb0⟩ : ∃ b0, (planS nu n l).1 = b0 := ⟨_, rfl⟩
      obtain ⟨es, hes⟩ : ∃ es, (planS nu n l).2.1 = es := ⟨_, rfl⟩
      obtain ⟨us, hus⟩ : ∃ us, (planS nu n l).2.2 = us := ⟨_, rfl⟩
      have hpg := hO.page
      rw [hb0] at hr hpg
      rw [hes] at hE
      rw [hus] at hU
      have HB0 := Lib.hid hb0
      have HES := Lib.hid hes
      have HUS := Lib.hid hus
      have hlen := hpg.len
      rw [← HNN.out] at hlen
      have hsE : stampE b0 nu (1 + ls) = 0 := by
        unfold stampE
        have hno : ¬ (slotsP b0.length = 0 ∨ okNum nu = false) := by
          rw [hpg.slots, (okNum_iff nu).2 ⟨u0, u1⟩]
          intro h
          rcases h with h | h
          · omega
          · cases h
        rw [if_neg hno, if_neg (by omega)]
      have hsV : stampV b0 nu (1 + ls) = stampP b0 nu.toNat (1 + ls).toNat := if_pos hsE
      have hsl := stampP_length b0 nu.toNat (1 + ls).toNat (by rw [hpg.len]; omega)
      rw [hlen] at hsl
      have PS := stamp_any (hT.below hb) hr (n := N) hlen.symm (by omega) nu (1 + ls)
      rw [hsE, hsV, hsl] at PS
      have HPS := Lib.hid PS
      obtain ⟨F, hF⟩ : ∃ F, stampP b0 nu.toNat (1 + ls).toNat = F := ⟨_, rfl⟩
      rw [hF] at HPS
      have HF := Lib.hid hF
      clear PS hsE hsV hsl hF hO hb0 hes hus
      go_wp2_with fail
      refine HPS.out.mono ?_
      rintro e w7 ⟨A7, c7, rfl, hN7⟩
      have hE7 := hE.below hN7.below
      have hU7 := hU.below hN7.below
      have hb7 := below_then hb hN7.below
      go_wp2_with fail
      exact bodyPost_ret (v := .tuple #[.slice A7 N c7, .slice (some ⟨w4.heap.size, 0, none⟩) n n, .slice (some ⟨w5.heap.size, 0, none⟩) n n, .bool true]) (by simp [results, Tryd.results23, go_sem]) rfl ⟨A7, c7, w4.heap.size, w5.heap.size, rfl, by rw [HB0.out, HF.out]; exact ⟨hN7.own.mono hb.size, hb7⟩, by rw [HES.out]; exact hE7, by rw [HUS.out]; exact hU7, by omega, by omega⟩
end Go.Proofs.YtgcpmdodhnmneaaDoor
