import Derived.Test.YtgcpmdodhnmneaaDoorEach
/- page.Entries, home.Find. -/
set_option linter.unusedVariables false
set_option linter.unusedSimpArgs false
namespace Go.Proofs.YtgcpmdodhnmneaaDoor
open Go.RowKit Go.Tm Go.Shelf
set_option maxHeartbeats 400000
set_option maxRecDepth 100000
attribute [local go_sem] Oper.semAt_some

/-- What Entries leaves: a box that holds a copy of the bytes. -/
structure EntBox (w w' : World) (A' : Option Addr) (c' : Nat) (b : List UInt8) : Prop where
  box : w'.cell? ⟨w.heap.size, 0, none⟩ = some (.slice A' b.length c')
  rda : Rda w' A' c' b
  below : Below w.heap.size w w'
  lt : ∀ a, A' = some a → w.heap.size < a.block ∧ a.block < w'.heap.size

theorem pageEntries_any {w : World} {A : Option Addr} {n c : Nat} {b : List UInt8} (h : Rda w A c b) (hn : n = b.length) (hl : b.length ≤ 140737488351232) :
    Calls Tryd.prog 31 #[.slice A n c] w fun e w' => ∃ A' c', e = .returned (.func (.func 59) #[] #[.pointer (some ⟨w.heap.size, 0, none⟩)]) ∧ EntBox w w' A' c' b := by
  subst hn
  have hb1 := (Below.refl w.heap.size w).alloc (Nat.le_refl _) (.cells #[.slice A b.length c] 22)
  have PC := clone_any (h.below hb1) rfl (by omega)
  have HPC := Lib.hid PC
  clear PC
  go_enter Tryd.func31, Tryd.ntmps31
  go_wp2_with fail
  refine HPC.out.mono ?_
  rintro e w1 ⟨A1, c1, rfl, hN⟩
  have hbx : w1.heap[w.heap.size]? = some (.cells #[.slice A b.length c] 22 (0, 0)) := (hN.below.block w.heap.size (by simp)).trans (heap_alloc_new w _)
  have hc := box_cell hbx
  have hf := box_free hbx
  have hst := box_store hbx (.slice A1 b.length c1)
  have hz := hN.below.size
  have hlt : ∀ a, A1 = some a → w.heap.size < a.block ∧ a.block < w1.heap.size := fun a ha => by
    have := World.ownsRow.lt hN.own a.block (by rw [ha]; rfl)
    simp at this
    omega
  have hr := hN.rda.boxed hbx (box_grown w1 w.heap.size (.slice A1 b.length c1))
  have hbb : Below w.heap.size w (w1.setCell ⟨w.heap.size, 0, none⟩ (.slice A1 b.length c1)) := (hb1.trans (hN.below.mono (by simp))).setCell (p := ⟨w.heap.size, 0, none⟩) (Nat.le_refl _) _
  have HST := Lib.hid hst
  have HLT := Lib.hid hlt
  have HR := Lib.hid hr
  have HBB := Lib.hid hbb
  clear hst hlt hr hbb hN hbx hb1 hz
  go_wp2_with fail
  go_ret
  exact ⟨A1, c1, rfl, ⟨box_cell HST.out, HR.out, HBB.out, fun a ha => by have := HLT.out a ha; simpa [World.setCell] using this⟩⟩

/-- The first used slot that has a key. -/
def findO (b : List UInt8) (key : Int) : Option (Nat × Nat × Nat) := (entL b (List.range (slotsP b.length))).find? fun x => decide ((x.2.1 : Int) = key)
def findI (b : List UInt8) (key : Int) : Int := match findO b key with | some x => (x.1 : Int) | none => 0
def findB (b : List UInt8) (key : Int) : Bool := (findO b key).isSome
/-- None of these has the key. -/
def NoKey (key : Int) (pre : List (Nat × Nat × Nat)) : Prop := ∀ y ∈ pre, ¬ ((y.2.1 : Nat) : Int) = key
/-- The last of these is the first that has the key; its slot lies in block B. -/
def Hit (key : Int) (B : Nat) (T : TypeId) (pre : List (Nat × Nat × Nat)) (V : World) : Prop :=
  ∃ pre0 x, pre = pre0 ++ [x] ∧ NoKey key pre0 ∧ ((x.2.1 : Nat) : Int) = key ∧ V.heap[B]? = some (.cells #[.int .i64 (x.1 : Int)] T (0, 0))
theorem findO_none {b : List UInt8} {key : Int} (h : ∀ x ∈ entL b (List.range (slotsP b.length)), ¬ (x.2.1 : Int) = key) : findO b key = none := by
  unfold findO
  rw [List.find?_eq_none]
  intro x hx
  simpa using h x hx
theorem findO_some {b : List UInt8} {key : Int} {pre : List (Nat × Nat × Nat)} {x : Nat × Nat × Nat} (hp : pre ++ [x] <+: entL b (List.range (slotsP b.length))) (h : ∀ y ∈ pre, ¬ (y.2.1 : Int) = key) (hx : (x.2.1 : Int) = key) : findO b key = some x := by
  obtain ⟨t, ht⟩ := hp
  unfold findO
  rw [← ht, List.append_assoc, List.find?_append]
  have h1 : pre.find? (fun x => decide ((x.2.1 : Int) = key)) = none := by
    rw [List.find?_eq_none]
    intro y hy
    simpa using h y hy
  rw [h1]
  simp [hx]
end Go.Proofs.YtgcpmdodhnmneaaDoor
