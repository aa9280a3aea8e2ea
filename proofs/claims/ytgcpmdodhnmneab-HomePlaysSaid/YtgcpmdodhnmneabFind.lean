import Derived.Test.YtgcpmdodhnmneabEach
/- page.Entries, home.Find. -/
set_option linter.unusedVariables false
set_option linter.unusedSimpArgs false
namespace Go.Proofs.Ytgcpmdodhnmneab
open Go.RowKit Go.Tm Go.Shelf
set_option maxHeartbeats 400000
set_option maxRecDepth 100000
attribute [local go_sem] Oper.semAt_some

/-- What Entries leaves: a box that holds a copy of the bytes. -/
structure EntBox (w w' : World) (A' : Option Addr) (c' : Nat) (b : List UInt8) : Prop where
  box : w'.cell? ⟨w.heap.size, 0, none⟩ = some (.slice A' b.length c')
  rda : Rda w' A' c' b
  below : Below w.heap.size w w'
  lt : ∀ a, A' = some a → w.heap.size < a.block ∧ a.block < w'.heap.size

theorem pageEntries_any {w : World} {A : Option Addr} {n c : Nat} {b : List UInt8} (h : Rda w A c b) (hn : n = b.length) (hl : b.length ≤ 140737488351232) :
    Calls Try.prog 27 #[.slice A n c] w fun e w' => ∃ A' c', e = .returned (.func (.func 40) #[] #[.pointer (some ⟨w.heap.size, 0, none⟩)]) ∧ EntBox w w' A' c' b := by
  subst hn
  have hb1 := (Below.refl w.heap.size w).alloc (Nat.le_refl _) (.cells #[.slice A b.length c] 29)
  have PC := clone_any (h.below hb1) rfl (by omega)
  have HPC := Lib.hid PC
  clear PC
  go_enter Try.func27, Try.ntmps27
  go_wp2_with fail
  refine HPC.out.mono ?_
  rintro e w1 ⟨A1, c1, rfl, hN⟩
  have hbx : w1.heap[w.heap.size]? = some (.cells #[.slice A b.length c] 29 (0, 0)) := (hN.below.block w.heap.size (by simp)).trans (heap_alloc_new w _)
  have hc := box_cell hbx
  have hf := box_free hbx
  have hst := box_store hbx (.slice A1 b.length c1)
  have hz := hN.below.size
  have hlt : ∀ a, A1 = some a → w.heap.size < a.block ∧ a.block < w1.heap.size := fun a ha => by
    have := World.ownsRow.lt hN.own a.block (by rw [ha]; rfl)
    simp at this
    omega
  have hr := hN.rda.boxed hbx (box_grown w1 w.heap.size (.slice A1 b.length c1))
  have hbb : Below w.heap.size w (w1.setCell ⟨w.heap.size, 0, none⟩ (.slice A1 b.length c1)) := (hb1.trans (hN.below.mono (by simp))).setCell (p := ⟨w.heap.size, 0, none⟩) (Nat.le_refl _) _
  have HST := Lib.hid hst
  have HLT := Lib.hid hlt
  have HR := Lib.hid hr
  have HBB := Lib.hid hbb
  clear hst hlt hr hbb hN hbx hb1 hz
  go_wp2_with fail
  go_ret
  exact ⟨A1, c1, rfl, ⟨box_cell HST.out, HR.out, HBB.out, fun a ha => by have := HLT.out a ha; simpa [World.setCell] using this⟩⟩

/-- The first used slot that has a key. -/
def findO (b : List UInt8) (key : Int) : Option (Nat × Nat × Nat) := (entL b (List.range (slotsP b.length))).find? fun x => decide ((x.2.1 : Int) = key)
def findI (b : List UInt8) (key : Int) : Int := match findO b key with | some x => (x.1 : Int) | none => 0
def findB (b : List UInt8) (key : Int) : Bool := (findO b key).isSome
/-- None of these has the key. -/
def NoKey (key : Int) (pre : List (Nat × Nat × Nat)) : Prop := ∀ y ∈ pre, ¬ ((y.2.1 : Nat) : Int) = key
/-- The last of these is the first that has the key; its slot lies in block B. -/
def Hit (key : Int) (B : Nat) (T : TypeId) (pre : List (Nat × Nat × Nat)) (V : World) : Prop :=
  ∃ pre0 x, pre = pre0 ++ [x] ∧ NoKey key pre0 ∧ ((x.2.1 : Nat) : Int) = key ∧ V.heap[B]? = some (.cells #[.int .i64 (x.1 : Int)] T (0, 0))
theorem findO_none {b : List UInt8} {key : Int} (h : ∀ x ∈ entL b (List.range (slotsP b.length)), ¬ (x.2.1 : Int) = key) : findO b key = none := by
  unfold findO
  rw [List.find?_eq_none]
  intro x hx
  simpa using h x hx
theorem findO_some {b : List UInt8} {key : Int} {pre : List (Nat × Nat × Nat)} {x : Nat × Nat × Nat} (hp : pre ++ [x] <+: entL b (List.range (slotsP b.length))) (h : ∀ y ∈ pre, ¬ (y.2.1 : Int) = key) (hx : (x.2.1 : Int) = key) : findO b key = some x := by
  obtain ⟨t, ht⟩ := hp
  unfold findO
  rw [← ht, List.append_assoc, List.find?_append]
  have h1 : pre.find? (fun x => decide ((x.2.1 : Int) = key)) = none := by
    rw [List.find?_eq_none]
    intro y hy
    simpa using h y hy
  rw [h1]
  simp [hx]

theorem find_any {w : World} {A : Option Addr} {n c : Nat} {b : List UInt8} (h : Rda w A c b) (hn : n = b.length) (hl : b.length ≤ 140737488351232) (key : Int) :
    Calls Try.prog 12 #[.slice A n c, .int .i64 key] w fun e w' => e = .returned (.tuple #[.int .i64 (findI b key), .bool (findB b key)]) ∧ Below w.heap.size w w' := by
  subst hn
  refine (callsIn_wide (n := 20)).1 ?_
  have hb3 : Below w.heap.size w (((w.alloc (.cells #[.int .i64 key] 3)).alloc (.cells #[.int .i64 0] 3)).alloc (.cells #[.bool false] 4)) := (((Below.refl _ _).alloc (Nat.le_refl _) _).alloc (by simp) _).alloc (by simp; omega) _
  obtain ⟨W3, hW3⟩ : ∃ W3, ((w.alloc (.cells #[.int .i64 key] 3)).alloc (.cells #[.int .i64 0] 3)).alloc (.cells #[.bool false] 4) = W3 := ⟨_, rfl⟩
  have hs3 : W3.heap.size = w.heap.size + 3 := by rw [← hW3]; simp
  have k0 : W3.heap[w.heap.size]? = some (.cells #[.int .i64 key] 3 (0, 0)) := by
    rw [← hW3, Below.heap_alloc _ _ _ (by simp; omega), Below.heap_alloc _ _ _ (by simp), heap_alloc_new]
  have k1 : W3.heap[w.heap.size + 1]? = some (.cells #[.int .i64 0] 3 (0, 0)) := by
    rw [← hW3, Below.heap_alloc _ _ _ (by simp)]
    have := heap_alloc_new (w.alloc (.cells #[.int .i64 key] 3)) (.cells #[.int .i64 0] 3)
    simpa using this
  have k2 : W3.heap[w.heap.size + 2]? = some (.cells #[.bool false] 4 (0, 0)) := by
    rw [← hW3]
    have := heap_alloc_new ((w.alloc (.cells #[.int .i64 key] 3)).alloc (.cells #[.int .i64 0] 3)) (.cells #[.bool false] 4)
    simpa using this
  rw [hW3] at hb3
  have PE := pageEntries_any (h.below hb3) rfl hl
  have HPE := Lib.hid PE
  have HW3 := Lib.hid hW3
  clear PE hW3
  refine callsIn_of_wp_marks Try.func12 rfl trivial ?_ rfl
  simp only [Try.ntmps12, List.size_toArray, List.length_cons, List.length_nil, Nat.reduceAdd, Nat.reduceSub, Array.replicate_succ, Array.replicate_zero, List.push_toArray, List.append_toArray, List.nil_append, List.cons_append]
  gi_wp2
  rw [HW3.out]
  refine ⟨trivial, (callsIn_wide.2 HPE.out).mono ?_⟩
  rintro e W4 ⟨A', c', rfl, hE⟩
  gi_wp2
  have hz4 := hE.below.size
  have hbW4 := below_then hb3 hE.below
  have j0 := (hE.below.block w.heap.size (by omega)).trans k0
  have j1 := (hE.below.block (w.heap.size + 1) (by omega)).trans k1
  have j2 := (hE.below.block (w.heap.size + 2) (by omega)).trans k2
  have hbx := hE.box
  have hbl := World.block_lt_of_cell? _ _ hbx
  have hr4 := hE.rda
  have hlt := hE.lt
  rw [hs3] at hbx hbl hlt
  have hbl' : w.heap.size + 3 < W4.heap.size := hbl
  clear hE k0 k1 k2 HPE HW3 hb3 h
  refine rangeH (F := Fence.wide) rfl (by omega) (gf := 40) (lb := #[.pointer (some ⟨w.heap.size + 3, 0, none⟩)]) rfl trivial (enters_of Try.func40 (by kernel_rfl) rfl)
    (entries1_seq 19 (w.heap.size + 3) (fun k => k = w.heap.size + 3 ∨ ∃ a, A' = some a ∧ a.block = k) (by omega) A' c' b hl W4 hbx hr4 (.inl rfl) (fun a ha => .inr ⟨a, ha, rfl⟩) (fun k hk => by
      rcases hk with rfl | ⟨a, ha, rfl⟩
      · exact hbl'
      · exact (hlt a ha).2))
    (fun k hk => by
      rcases hk with rfl | ⟨a, ha, rfl⟩
      · exact hbl'
      · exact (hlt a ha).2) (Below.refl _ _) (fun _ => rfl)
    (fun pre V => NoKey key pre ∧ V.heap[w.heap.size]? = some (.cells #[.int .i64 key] 3 (0, 0)) ∧ V.heap[w.heap.size + 1]? = some (.cells #[.int .i64 0] 3 (0, 0)) ∧ V.heap[w.heap.size + 2]? = some (.cells #[.bool false] 4 (0, 0)) ∧ Below w.heap.size w V ∧ W4.heap.size ≤ V.heap.size)
    (fun k pre V => k = .ret ∧ Hit key (w.heap.size + 1) 3 pre V ∧ V.heap[w.heap.size + 2]? = some (.cells #[.bool true] 4 (0, 0)) ∧ Below w.heap.size w V)
    (fun s V V' row hs hg hr => ⟨hs.1, (grownBy_keeps_cells hg (fun r e => (hr r e).2) hs.2.1 rfl).trans hs.2.1, (grownBy_keeps_cells hg (fun r e => (hr r e).2) hs.2.2.1 rfl).trans hs.2.2.1, (grownBy_keeps_cells hg (fun r e => (hr r e).2) hs.2.2.2.1 rfl).trans hs.2.2.2.1, hs.2.2.2.2.1.grown hg hs.2.2.2.2.1.size (fun r e => by have := (hr r e).1; omega), Nat.le_trans hs.2.2.2.2.2 hg.size⟩)
    (fun k s V V' row hs hg hr => by
      obtain ⟨h1, ⟨pre0, x, h2, h3, h4, h5⟩, h6, h7⟩ := hs
      exact ⟨h1, ⟨pre0, x, h2, h3, h4, (grownBy_keeps_cells hg (fun r e => (hr r e).2) h5 rfl).trans h5⟩, (grownBy_keeps_cells hg (fun r e => (hr r e).2) h6 rfl).trans h6, h7.grown hg h7.size (fun r e => by have := (hr r e).1; omega)⟩)
    ⟨fun y hy => by simp at hy, j0, j1, j2, hbW4, Nat.le_refl _⟩
    (fun x a' V => ∃ Bx, W4.heap.size ≤ Bx ∧ V.heap[Bx]? = some (.cells #[.int .i64 (x.2.1 : Int), .int .u64 (x.2.2 : Int)] 64 (0, 0)) ∧
      a' = { tmps := #[.slice A b.length c, .int .i64 key, undef, .pointer (some ⟨w.heap.size, 0, none⟩), .pointer (some ⟨w.heap.size + 1, 0, none⟩), .pointer (some ⟨w.heap.size + 1 + 1, 0, none⟩), .int .i64 (x.1 : Int), .pointer (some ⟨Bx, 0, none⟩), .slice A b.length c,
        .func (.func 40) #[] #[.pointer (some ⟨w.heap.size + 3, 0, none⟩)], .int .i64 (x.1 : Int), .agg #[.int .i64 (x.2.1 : Int), .int .u64 (x.2.2 : Int)], undef, undef, undef, undef, undef], defers := [] })
    (fun x a' s V V' row hs hg hr => by
      obtain ⟨Bx, h1, h2, h3⟩ := hs
      exact ⟨Bx, h1, (grownBy_keeps_cells hg (fun r e => (hr r e).2) h2 rfl).trans h2, h3⟩) ?assign ?body ?done ?stop
  case assign =>
    rintro l' pre x V K' ⟨h1, h2, h3, h4, h5, h6⟩ hK
    simp only [encE]
    have hal := (Below.refl V.heap.size V).alloc (Nat.le_refl _) (.cells #[.int .i64 (x.2.1 : Int), .int .u64 (x.2.2 : Int)] 64)
    have HK := Lib.hid (hK _ _ ⟨hal.size, fun k o hB hk _ => (hal.block k (Array.getElem?_eq_some_iff.1 hk).1).trans hk⟩ ⟨hal.size, fun k hk hc => hal.block k hk⟩
      ⟨h1, (hal.block _ (Array.getElem?_eq_some_iff.1 h2).1).trans h2, (hal.block _ (Array.getElem?_eq_some_iff.1 h3).1).trans h3, (hal.block _ (Array.getElem?_eq_some_iff.1 h4).1).trans h4, h5.alloc h5.size _, Nat.le_trans h6 hal.size⟩
      ⟨V.heap.size, h6, heap_alloc_new V _, rfl⟩)
    clear hK h1 h2 h3 h4 h5 hal
    gi_wp2
    exact HK.out
  case body =>
    rintro l' pre x a' V ⟨h1, h2, h3, h4, h5, h6⟩ ⟨Bx, hBx, hX, rfl⟩ hlen
    have c0 := box_cell h2
    have cX := pair_cell0 hX
    by_cases hk : ((x.2.1 : Nat) : Int) = key
    · have f1 := box_free h3
      have f2 := box_free h4
      have c1 := box_cell h3
      have c2 := box_cell h4
      have s1 := box_store h3 (.int .i64 (x.1 : Int))
      have g1 := box_grown V (w.heap.size + 1) (.int .i64 (x.1 : Int))
      have g2 := box_grown (V.setCell ⟨w.heap.size + 1, 0, none⟩ (.int .i64 (x.1 : Int))) (w.heap.size + 2) (.bool true)
      have e2 : (V.setCell ⟨w.heap.size + 1, 0, none⟩ (.int .i64 (x.1 : Int))).heap[w.heap.size + 2]? = some (.cells #[.bool false] 4 (0, 0)) := (g1.block _ (Array.getElem?_eq_some_iff.1 h4).1 (by simp)).trans h4
      have f2' := box_free e2
      have c2' := box_cell e2
      have s2 := box_store e2 (.bool true)
      have s1' : ((V.setCell ⟨w.heap.size + 1, 0, none⟩ (.int .i64 (x.1 : Int))).setCell ⟨w.heap.size + 2, 0, none⟩ (.bool true)).heap[w.heap.size + 1]? = some (.cells #[.int .i64 (x.1 : Int)] 3 (0, 0)) := (g2.block _ (Array.getElem?_eq_some_iff.1 s1).1 (by simp)).trans s1
      have gg : ∀ k, k < V.heap.size → k ≠ w.heap.size + 1 → k ≠ w.heap.size + 2 → ((V.setCell ⟨w.heap.size + 1, 0, none⟩ (.int .i64 (x.1 : Int))).setCell ⟨w.heap.size + 2, 0, none⟩ (.bool true)).heap[k]? = V.heap[k]? := fun k hk h1 h2 =>
        (g2.block k (by simpa [World.setCell] using hk) (by simpa using h2)).trans (g1.block k hk (by simpa using h1))
      have hsz : V.heap.size ≤ ((V.setCell ⟨w.heap.size + 1, 0, none⟩ (.int .i64 (x.1 : Int))).setCell ⟨w.heap.size + 2, 0, none⟩ (.bool true)).heap.size := Nat.le_trans g1.size g2.size
      have kf : KeepsFrom W4.heap.size V ((V.setCell ⟨w.heap.size + 1, 0, none⟩ (.int .i64 (x.1 : Int))).setCell ⟨w.heap.size + 2, 0, none⟩ (.bool true)) := ⟨hsz, fun k o hB hk _ => (gg k (Array.getElem?_eq_some_iff.1 hk).1 (by omega) (by omega)).trans hk⟩
      have kr : RK (fun k => k = w.heap.size + 3 ∨ ∃ a, A' = some a ∧ a.block = k) (W4.heap.size + 2) V ((V.setCell ⟨w.heap.size + 1, 0, none⟩ (.int .i64 (x.1 : Int))).setCell ⟨w.heap.size + 2, 0, none⟩ (.bool true)) := ⟨hsz, fun k hk hc => by
        have hne : k ≠ w.heap.size + 1 ∧ k ≠ w.heap.size + 2 := by
          rcases hc with (rfl | ⟨a, ha, rfl⟩) | hc
          · omega
          · have := (hlt a ha).1; omega
          · omega
        exact gg k hk hne.1 hne.2⟩
      have hbb : Below w.heap.size w ((V.setCell ⟨w.heap.size + 1, 0, none⟩ (.int .i64 (x.1 : Int))).setCell ⟨w.heap.size + 2, 0, none⟩ (.bool true)) := (h5.setCell (p := ⟨w.heap.size + 1, 0, none⟩) (by simp) _).setCell (p := ⟨w.heap.size + 2, 0, none⟩) (by simp) _
      have KF := Lib.hid kf
      have KR := Lib.hid kr
      have HB := Lib.hid hbb
      have HS1 := Lib.hid s1'
      have HS2 := Lib.hid s2
      have HK := Lib.hid hk
      have hkb : (((x.2.1 : Nat) : Int) == key) = true := by rw [beq_iff_eq]; exact hk
      clear kf kr hbb s1' s2 s1 gg hsz g1 g2 hk h2 h3 h4 h5 hX
      gi_wp2
      exact ⟨KF.out, KR.out, rfl, ⟨pre, x, rfl, h1, HK.out, HS1.out⟩, HS2.out, HB.out⟩
    · have hkb : (((x.2.1 : Nat) : Int) == key) = false := by rw [beq_eq_false_iff_ne]; exact hk
      have h1' : NoKey key (pre ++ [x]) := fun y hy => by
        rcases List.mem_append.1 hy with hy | hy
        · exact h1 y hy
        · have : y = x := by simpa using hy
          rw [this]; exact hk
      clear hk h1
      have HI := Lib.hid (And.intro h1' (And.intro h2 (And.intro h3 (And.intro h4 (And.intro h5 h6)))))
      clear h2 h3 h4 h5 hX h1'
      gi_wp2
      exact ⟨KeepsFrom.refl _ _, RK.refl _ _ _, HI.out⟩
  case done =>
    rintro D xs V hD rfl ⟨h1, h2, h3, h4, h5, h6⟩ hK
    have hO := findO_none h1
    have eI : findI b key = 0 := by unfold findI; rw [hO]
    have eB : findB b key = false := by unfold findB; rw [hO]; rfl
    have f1 := box_free h3
    have f2 := box_free h4
    have c1 := box_cell h3
    have c2 := box_cell h4
    have g1 := box_grown V (w.heap.size + 1) (.int .i64 0)
    have g2 := box_grown (V.setCell ⟨w.heap.size + 1, 0, none⟩ (.int .i64 0)) (w.heap.size + 1 + 1) (.bool false)
    have e2 : (V.setCell ⟨w.heap.size + 1, 0, none⟩ (.int .i64 0)).heap[w.heap.size + 1 + 1]? = some (.cells #[.bool false] 4 (0, 0)) := (g1.block _ (Array.getElem?_eq_some_iff.1 h4).1 (by simp)).trans h4
    have s1 := (g2.block _ (by have := (Array.getElem?_eq_some_iff.1 h3).1; simpa [World.setCell] using this) (by simp)).trans (box_store h3 (.int .i64 0))
    have s2 := box_store e2 (.bool false)
    have d1 := (g1.block D (Array.getElem?_eq_some_iff.1 hK).1 (by simp; omega)).trans hK
    have d2 := (g2.block D (Array.getElem?_eq_some_iff.1 d1).1 (by simp; omega)).trans d1
    have hbb : Below w.heap.size w ((V.setCell ⟨w.heap.size + 1, 0, none⟩ (.int .i64 0)).setCell ⟨w.heap.size + 1 + 1, 0, none⟩ (.bool false)) := (h5.setCell (p := ⟨w.heap.size + 1, 0, none⟩) (by simp) _).setCell (p := ⟨w.heap.size + 1 + 1, 0, none⟩) (by simp; omega) _
    have HS1 := Lib.hid s1
    have HS2 := Lib.hid s2
    have HD2 := Lib.hid d2
    have HB := Lib.hid hbb
    clear g1 g2 s1 s2 d1 d2 hbb e2 hO h1
    have EI := Lib.hid eI
    have EB := Lib.hid eB
    clear eI eB
    gi_wp2
    refine ⟨by simp, .inl ⟨_, _, rfl, run_takeDeferred HD2.out, ?_⟩⟩
    have go := grownBy_putObj' ((V.setCell ⟨w.heap.size + 1, 0, none⟩ (.int .i64 0)).setCell ⟨w.heap.size + 1 + 1, 0, none⟩ (.bool false)) D (.deferred none)
    have q1 := box_cell ((go.block _ (Array.getElem?_eq_some_iff.1 HS1.out).1 (by simp; omega)).trans HS1.out)
    have q2 := box_cell ((go.block _ (Array.getElem?_eq_some_iff.1 HS2.out).1 (by simp; omega)).trans HS2.out)
    refine ⟨.tuple #[.int .i64 0, .bool false], by simp [results, Try.results12, go_sem, q1, q2], by rw [EI.out, EB.out], HB.out.grown go HB.out.size (fun k e => by injection e with e; omega)⟩
  case stop =>
    rintro D k pre V hD hp ⟨rfl, ⟨pre0, x, rfl, h1, h2, h3⟩, h4, h5⟩ hK
    have hO := findO_some hp h1 h2
    have eI : findI b key = (x.1 : Int) := by unfold findI; rw [hO]
    have eB : findB b key = true := by unfold findB; rw [hO]; rfl
    have EI := Lib.hid eI
    have EB := Lib.hid eB
    clear eI eB hO hp h1 h2
    gi_wp2
    refine ⟨by simp, .inl ⟨_, _, rfl, run_takeDeferred hK, ?_⟩⟩
    have go := grownBy_putObj' V D (.deferred none)
    have q1 := box_cell ((go.block _ (Array.getElem?_eq_some_iff.1 h3).1 (by simp; omega)).trans h3)
    have q2 := box_cell ((go.block _ (Array.getElem?_eq_some_iff.1 h4).1 (by simp; omega)).trans h4)
    have q2' : (V.putObj D (.deferred none)).cell? ⟨w.heap.size + 1 + 1, 0, none⟩ = some (.bool true) := q2
    refine ⟨.tuple #[.int .i64 (x.1 : Int), .bool true], by simp [results, Try.results12, go_sem, q1, q2'], by rw [EI.out, EB.out], h5.grown go h5.size (fun k e => by injection e with e; omega)⟩
end Go.Proofs.Ytgcpmdodhnmneab
