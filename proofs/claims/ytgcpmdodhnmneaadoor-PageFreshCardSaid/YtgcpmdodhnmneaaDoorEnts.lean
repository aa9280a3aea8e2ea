import Derived.Test.YtgcpmdodhnmneaaDoorEachT
import Derived.Test.YtgcpmdodhnmneaaDoorIterT2
import Derived.Test.YtgcpmdodhnmneaaDoorFind
import Derived.Test.YtgcpmdodhnmneaaDoorSlotPure
/- 'entries' of the laws of layer 4. -/
set_option linter.unusedVariables false
set_option linter.unusedSimpArgs false
namespace Go.Proofs.YtgcpmdodhnmneaaDoor
open Go.RowKit Go.Tm Go.Shelf
set_option maxHeartbeats 400000
set_option maxRecDepth 100000
attribute [local go_sem] Oper.semAt_some

theorem func_nil {P : Program} {t : TypeId} {x y z : _} (ht : P.underlying t = some (.func x y z)) (f : Fn) (i ca : Array Value) (w : World) : (binOp .eql t (.func f i ca) .nilFunc).run P w = .ok (.bool false) w := by
  have h : ∀ d, (Op.equalIn (d + 1) t (.func f i ca) .nilFunc).run P w = .ok false w := fun d => by simp [Op.equalIn, run_underlying ht]
  have h2 : (Op.equal t (.func f i ca) .nilFunc).run P w = .ok false w := h 9999
  simp [binOp, h2]
theorem seq_nil (f : Fn) (i ca : Array Value) (w : World) : (binOp .eql 63 (.func f i ca) .nilFunc).run Tryd.prog w = .ok (.bool false) w := func_nil Tryd.underlying63 f i ca w
attribute [local go_sem] seq_nil

/-- Used slots as cells. -/
def useC (l : List (Nat × Nat × Nat)) : List Value := l.flatMap fun x => [.int .i64 (x.1 : Int), .int .i64 (x.2.1 : Int), .int .u64 (x.2.2 : Int)]
theorem useC_snoc (l : List (Nat × Nat × Nat)) (x : Nat × Nat × Nat) : useC (l ++ [x]) = useC l ++ [.int .i64 (x.1 : Int), .int .i64 (x.2.1 : Int), .int .u64 (x.2.2 : Int)] := by simp [useC]
theorem useC_cons (x : Nat × Nat × Nat) (l : List (Nat × Nat × Nat)) : useC (x :: l) = .int .i64 (x.1 : Int) :: .int .i64 (x.2.1 : Int) :: .int .u64 (x.2.2 : Int) :: useC l := rfl
theorem useC_length (l : List (Nat × Nat × Nat)) : (useC l).length = l.length * 3 := by
  induction l with
  | nil => rfl
  | cons x r ih => rw [useC_cons]; simp [ih]; omega
theorem useC_get (l : List (Nat × Nat × Nat)) (k : Nat) (x : Nat × Nat × Nat) (h : l[k]? = some x) : (useC l)[k * 3]? = some (.int .i64 (x.1 : Int)) ∧ (useC l)[k * 3 + 1]? = some (.int .i64 (x.2.1 : Int)) ∧ (useC l)[k * 3 + 2]? = some (.int .u64 (x.2.2 : Int)) := by
  induction l generalizing k with
  | nil => simp at h
  | cons y r ih =>
    rw [useC_cons]
    cases k with
    | zero => simp at h; subst h; exact ⟨rfl, rfl, rfl⟩
    | succ k =>
      have := ih k (by simpa using h)
      rw [show (k + 1) * 3 = k * 3 + 1 + 1 + 1 by omega, show k * 3 + 1 + 1 + 1 + 1 = k * 3 + 1 + 1 + 1 + 1 from rfl]
      exact ⟨this.1, this.2.1, this.2.2⟩

set_option maxHeartbeats 1600000 in
theorem entries4_any {w : World} {A : Option Addr} {n c : Nat} {b : List UInt8} (h : Rda w A c b) (hn : n = b.length) (hl : b.length ≤ 140737488351232) :
    Calls Tryd.prog 33 #[.slice A n c, .int .i64 100] w fun e w' => ∃ v, e = .returned (.tuple #[v, .bool true]) ∧
      w'.ownsRow w.heap.size 68 3 v (entL b (List.range (slotsP b.length))).length (useC (entL b (List.range (slotsP b.length)))) ∧ Below w.heap.size w w' := by
  subst hn
  refine (callsIn_wide (n := 20)).1 ?_
  have hb1 := (Below.refl w.heap.size w).alloc (Nat.le_refl _) (.cells #[.int .i64 100] 3)
  have k0 := heap_alloc_new w (.cells #[.int .i64 100] 3)
  have PE := pageEntries_any (h.below hb1) rfl hl
  have hs1 : (w.alloc (.cells #[.int .i64 100] 3)).heap.size = w.heap.size + 1 := by simp
  rw [hs1] at PE
  have HPE := Lib.hid PE
  clear PE
  refine callsIn_of_wp_marks Tryd.func33 rfl trivial ?_ rfl
  simp only [Tryd.ntmps33, List.size_toArray, List.length_cons, List.length_nil, Nat.reduceAdd, Nat.reduceSub, Array.replicate_succ, Array.replicate_zero, List.push_toArray, List.append_toArray, List.nil_append, List.cons_append]
  gi_wp2
  refine ⟨trivial, (callsIn_wide.2 HPE.out).mono ?_⟩
  rintro e W2 ⟨A', c', rfl, hE⟩
  have hz2 := hE.below.size
  rw [hs1] at hz2
  have hbW2 := below_then hb1 hE.below
  have j0 := (hE.below.block w.heap.size (by simp)).trans k0
  have hbx2 := hE.box
  have hr2 := hE.rda
  have hlt2 := hE.lt
  rw [hs1] at hbx2 hlt2
  have hbl2 := World.block_lt_of_cell? _ _ hbx2
  obtain ⟨W3, hW3⟩ : ∃ W3, W2.alloc (.cells #[.slice none 0 0] 65) = W3 := ⟨_, rfl⟩
  have hb23 : Below W2.heap.size W2 W3 := by rw [← hW3]; exact (Below.refl _ _).alloc (Nat.le_refl _) _
  have hs3 : W2.heap.size < W3.heap.size := by rw [← hW3]; simp
  have jl : Boxed W3 W2.heap.size 65 (.slice none 0 0) := by rw [← hW3]; exact heap_alloc_new _ _
  have hbW3 := below_then hbW2 hb23
  have j03 := (hb23.block _ (by omega)).trans j0
  have hbx3 := (hb23.cell (p := ⟨w.heap.size + 1, 0, none⟩) hbl2).trans hbx2
  have hr3 := hr2.below hb23
  have HW3 := Lib.hid hW3
  have HB23 := Lib.hid hb23
  clear hE k0 HPE hb1 h hW3 hb23 hbx2 hr2 j0 hbW2
  gi_wp2
  rw [HW3.out]
  refine rangeT (R := fun t => t = 68) (F := Fence.wide) rfl (by omega) (gf := 59) (lb := #[.pointer (some ⟨w.heap.size + 1, 0, none⟩)]) rfl trivial (enters_of Tryd.func59 (by kernel_rfl) rfl)
    (entries1_seqT (fun t => t = 68) (by decide) 19 (w.heap.size + 1) (fun k => k = w.heap.size + 1 ∨ ∃ a, A' = some a ∧ a.block = k) (by omega) A' c' b hl W3 hbx3 hr3 (.inl rfl) (fun a ha => .inr ⟨a, ha, rfl⟩) (fun k hk => by
      rcases hk with rfl | ⟨a, ha, rfl⟩
      · have : w.heap.size + 1 < W2.heap.size := hbl2; omega
      · have := (hlt2 a ha).2; omega))
    (fun k hk => by
      rcases hk with rfl | ⟨a, ha, rfl⟩
      · have : w.heap.size + 1 < W2.heap.size := hbl2; omega
      · have := (hlt2 a ha).2; omega) (Below.refl _ _) (fun _ => rfl)
    (fun pre V => (∃ v, Boxed V W2.heap.size 65 v ∧ V.ownsRow W3.heap.size 68 3 v pre.length (useC pre)) ∧ Boxed V w.heap.size 3 (.int .i64 100) ∧ Below w.heap.size w V ∧ W3.heap.size ≤ V.heap.size)
    (fun k pre V => False)
    (fun s V V' row hs hg hr => by
      obtain ⟨hv, h2, h3, h4⟩ := hs
      refine ⟨?_, (grownBy_keeps_cells hg (fun r e => (hr r e).2) h2 rfl).trans h2, h3.grown hg h3.size (fun r e => by have := (hr r e).1; omega), Nat.le_trans h4 hg.size⟩
      obtain ⟨v, a1, a2, _⟩ := holdsRow_own (β := List (Nat × Nat × Nat)) W3.heap.size W2.heap.size 65 68 3 (fun s => s.length) useC (fun _ _ => True) s V V' row (by obtain ⟨v, a1, a2⟩ := hv; exact ⟨v, a1, a2, trivial⟩) hg (fun r e => (hr r e).2)
      exact ⟨v, a1, a2⟩)
    (fun k s V V' row hs hg hr => hs)
    ⟨⟨_, jl, World.ownsRow_nil _ _ _ _⟩, j03, hbW3, Nat.le_refl _⟩
    (fun x a' V => ∃ Bx, W3.heap.size ≤ Bx ∧ V.heap[Bx]? = some (.cells #[.int .i64 (x.2.1 : Int), .int .u64 (x.2.2 : Int)] 53 (0, 0)) ∧
      a' = { tmps := #[.slice A b.length c, .int .i64 100, undef, .pointer (some ⟨w.heap.size, 0, none⟩), .slice none 0 0, .bool false,
        .func (.func 59) #[] #[.pointer (some ⟨w.heap.size + 1, 0, none⟩)], .pointer (some ⟨W2.heap.size, 0, none⟩), .int .i64 (x.1 : Int), .pointer (some ⟨Bx, 0, none⟩), .slice A b.length c,
        .func (.func 59) #[] #[.pointer (some ⟨w.heap.size + 1, 0, none⟩)], .func (.func 59) #[] #[.pointer (some ⟨w.heap.size + 1, 0, none⟩)], .bool false,
        .func (.func 59) #[] #[.pointer (some ⟨w.heap.size + 1, 0, none⟩)], .int .i64 (x.1 : Int), .agg #[.int .i64 (x.2.1 : Int), .int .u64 (x.2.2 : Int)], undef, undef, undef, undef, undef, undef, undef, undef, undef, undef, undef], defers := [] })
    (fun x a' s V V' row hs hg hr => by
      obtain ⟨Bx, h1, h2, h3⟩ := hs
      exact ⟨Bx, h1, (grownBy_keeps_cells hg (fun r e => (hr r e).2) h2 rfl).trans h2, h3⟩) ?assign ?body ?done ?stop
  case assign =>
    rintro l' pre x V K' ⟨h1, h2, h5, h6⟩ hK
    simp only [encE]
    have hal := (Below.refl V.heap.size V).alloc (Nat.le_refl _) (.cells #[.int .i64 (x.2.1 : Int), .int .u64 (x.2.2 : Int)] 53)
    obtain ⟨v, v1, v2⟩ := h1
    have HK := Lib.hid (hK _ _ ⟨hal.size, fun k o hB hk _ => (hal.block k (Array.getElem?_eq_some_iff.1 hk).1).trans hk⟩ ⟨hal.size, fun k hk hc => hal.block k hk⟩
      ⟨⟨v, v1.alloc _, v2.alloc _⟩, h2.alloc _, h5.alloc h5.size _, Nat.le_trans h6 hal.size⟩
      ⟨V.heap.size, h6, heap_alloc_new V _, rfl⟩)
    clear hK v1 v2 h2 h5 hal
    gi_wp2
    exact HK.out
  case body =>
    rintro l' pre x a' V ⟨⟨v, v1, v2⟩, h2, h5, h6⟩ ⟨Bx, hBx, hX, rfl⟩ hlen
    have hlen8 : pre.length < 8 := Nat.lt_of_lt_of_le hlen (slotsP_le _)
    obtain ⟨Av, cv, rfl⟩ : ∃ Av cv, v = .slice Av pre.length cv := by
      rcases v2.2 with ⟨e1, e2⟩ | ⟨g, cap, cur, e1, _⟩
      · exact ⟨none, 0, by rw [e1, e2]⟩
      · exact ⟨some ⟨g, 0, none⟩, cap, e1⟩
    have cl := v1.cell
    have cm := h2.cell
    have cX0 := pair_cell0 hX
    have cX1 := pair_cell1 hX
    gi_wp2_with (gi_at_builtin; refine wpListIn_appC _ rfl _ _ 65 rfl W3.heap.size 68 (z := .agg #[.int .i64 0, .int .i64 0, .int .u64 0]) (size := 3) (bytes := 24) Tryd.underlying65 (by kernel_rfl) rfl (by decide) _ pre.length (useC pre) rfl (v2.alloc _) ⟨V.heap.size, 0, none⟩ 1 1 [.int .i64 (x.1 : Int), .int .i64 (x.2.1 : Int), .int .u64 (x.2.2 : Int)] rfl rfl ?c1 ?c2 ?c3 ?c4 ?c5 ?_)
    case c1 =>
      have hnew := heap_alloc_new V (.cells #[.int .i64 (x.1 : Int), .int .i64 (x.2.1 : Int), .int .u64 (x.2.2 : Int)] 68)
      intro j u hj
      rw [Addr.add_lit, Nat.zero_add]
      exact RowC.cell (cs := [.int .i64 (x.1 : Int), .int .i64 (x.2.1 : Int), .int .u64 (x.2.2 : Int)]) hnew hj
    case c2 =>
      intro u hu
      simp at hu
      rcases hu with rfl | rfl | rfl <;> rfl
    case c3 => unfold maxLen; omega
    case c4 => omega
    case c5 => simp; omega
    intro v' w1 hown' hgrow _
    obtain ⟨g, cap, rfl⟩ := ownsRow_succ hown'
    rw [← useC_snoc] at hown'
    obtain ⟨q1, q2, q3, q4, q5, q6, q7⟩ := boxed_append (R := fun t => t = 68) (K := fun k => k = w.heap.size + 1 ∨ ∃ a, A' = some a ∧ a.block = k) (n0 := W3.heap.size) (n1 := W3.heap.size + 2) (b0 := W3.heap.size) v1 (by decide) rfl v2 (fun j hj => by
      rcases hj with rfl | ⟨a, ha, rfl⟩
      · omega
      · have := (hlt2 a ha).2; omega) (by omega) (by omega) hown' hgrow
    have m2 : Boxed _ w.heap.size 3 (.int .i64 100) := (q6 w.heap.size (by omega) (by omega) (by omega)).trans h2
    have m5 := h5.trans ((q7 w.heap.size (by omega)))
    have m6 := Nat.le_trans h6 q4.size
    have HQ2 := Lib.hid q2
    have HQ3 := Lib.hid q3
    have HM2 := Lib.hid m2
    have HM5 := Lib.hid m5
    have HM6 := Lib.hid m6
    have HQ4 := Lib.hid q4
    have HQ5 := Lib.hid q5
    have b1c := q1.cell
    have b1f := q1.frozen
    clear q1 q2 q3 q4 q5 q6 q7 m2 m5 m6 hown' hgrow v1 v2 h2 h5 hX
    gi_wp2
    exact ⟨HQ4.out, HQ5.out, ⟨_, HQ2.out, by rw [List.length_append]; exact HQ3.out⟩, HM2.out, HM5.out, HM6.out⟩
  case done =>
    rintro D xs V hD rfl ⟨⟨v, v1, v2⟩, h2, h5, h6⟩ hK
    have cl := v1.cell
    gi_wp2
    refine ⟨by simp, .inl ⟨_, _, rfl, run_takeDeferred hK, ?_⟩⟩
    have go := grownBy_putObj' V D (.deferred none)
    exact ⟨.tuple #[v, .bool true], by simp [results, Tryd.results33, go_sem], v, rfl, own_mono (ownsRow_putObj v2 (.deferred none) hK rfl) (by omega), h5.grown go h5.size (fun k e => by injection e with e; omega)⟩
  case stop =>
    rintro D k pre V hD hp hf
    exact hf.elim
end Go.Proofs.YtgcpmdodhnmneaaDoor
