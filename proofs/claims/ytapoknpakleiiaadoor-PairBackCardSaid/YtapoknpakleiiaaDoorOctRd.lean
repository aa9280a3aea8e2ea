import Derived.Test.YtapoknpakleiiaaDoorOctGet
/- The contracts of package octet's reader. A reader is a box of one cell that holds what is left. -/
set_option linter.unusedVariables false
set_option linter.unusedSimpArgs false
namespace Go.Proofs.YtapoknpakleiiaaDoor
open Go.RowKit Go.Tm
set_option maxHeartbeats 400000
set_option maxRecDepth 100000

theorem newReader_any {w : World} {A : Option Addr} {n c : Nat} {l : List UInt8} (h : Rda w A c l) (hn : n = l.length) (hl : l.length ≤ 140737488355328) :
    Calls Tryd.prog 93 #[.slice A n c] w fun e w' => ∃ r, e = .returned (.pointer (some ⟨r, 0, none⟩)) ∧ w.heap.size ≤ r ∧ IsR w' r 143 l ∧ Below w.heap.size w w' := by
  subst hn
  go_enter Tryd.func93, Tryd.ntmps93
  go_wp2_with fail
  refine (clone_any h rfl (by omega)).mono ?_
  rintro e w1 ⟨A1, c1, rfl, hN⟩
  go_wp2_with fail
  go_ret
  exact ⟨w1.heap.size, rfl, hN.below.size, ⟨A1, c1, heap_alloc_new w1 _, hN.rda.alloc _⟩, hN.below.alloc hN.below.size _⟩

/-- What Row answers. -/
def rowE (n : Int) (l : List UInt8) : Int := if n < 0 then 30 else if (l.length : Int) < n then 10 else 0
def rowV (n : Int) (l : List UInt8) : List UInt8 := if rowE n l = 0 then l.take n.toNat else []
def rowL (n : Int) (l : List UInt8) : List UInt8 := if rowE n l = 0 then l.drop n.toNat else l

/-- What Number answers. -/
def isW (n : Int) : Bool := n == 1 || n == 2 || n == 4 || n == 8
def numE (n : Int) (l : List UInt8) : Int := if isW n then rowE n l else 30
def numV (n : Int) (l : List UInt8) : Nat := if numE n l = 0 then leN (l.take n.toNat) else 0
def numL (n : Int) (l : List UInt8) : List UInt8 := if numE n l = 0 then l.drop n.toNat else l

/-- What Int answers. -/
def intE (l : List UInt8) : Int := if l.length < 8 then 10 else if 1152921504606846976 < leN (l.take 8) then 30 else 0
def intV (l : List UInt8) : Nat := if intE l = 0 then leN (l.take 8) else 0
def intL (l : List UInt8) : List UInt8 := if intE l = 0 then l.drop 8 else l

theorem int_any {w : World} {r : Nat} {l : List UInt8} (h : IsR w r 143 l) :
    Calls Tryd.prog 94 #[.pointer (some ⟨r, 0, none⟩)] w fun e w' => e = .returned (.tuple #[.int .i64 (intV l : Nat), .int .i64 (intE l)]) ∧ w.grownBy w' (some r) ∧ IsR w' r 143 (intL l) := by
  obtain ⟨A, c, hb, hA⟩ := h.is
  have hc := box_cell hb
  have hcap := hA.cap
  have hmax := hA.max
  have hf := box_free hb
  unfold maxLen at hmax
  by_cases hlt : l.length < 8
  · have e1 : intE l = 10 := if_pos hlt
    have e2 : intV l = 0 := if_neg (by rw [e1]; decide)
    have e3 : intL l = l := if_neg (by rw [e1]; decide)
    have g1 : getV 8 l = 0 := if_pos hlt
    have g2 : getE 8 l = 10 := if_pos hlt
    rw [e1, e2, e3]
    clear e1 e2 e3
    have hG := get8_any hA rfl
    rw [g1, g2] at hG
    clear g1 g2
    have HG := Lib.hid hG
    clear hG
    go_enter Tryd.func94, Tryd.ntmps94
    go_wp2_with fail
    refine HG.out.mono ?_
    rintro e w1 ⟨rfl, rfl⟩
    go_wp2_with fail
    go_ret2
    exact ⟨rfl, grown_refl _ _, h⟩
  · have g1 : getV 8 l = leN (l.take 8) := if_neg hlt
    have g2 : getE 8 l = 0 := if_neg hlt
    have hG := get8_any hA rfl
    rw [g1, g2] at hG
    obtain ⟨V, hV⟩ : ∃ V, leN (l.take 8) = V := ⟨_, rfl⟩
    have hVb := getV_lt 8 l
    rw [g1, hV] at hVb
    rw [hV] at hG
    clear g1 g2
    have HG := Lib.hid hG
    clear hG
    by_cases hbig : 1152921504606846976 < V
    · have e1 : intE l = 30 := by unfold intE; rw [if_neg hlt, hV, if_pos hbig]
      have e2 : intV l = 0 := if_neg (by rw [e1]; decide)
      have e3 : intL l = l := if_neg (by rw [e1]; decide)
      rw [e1, e2, e3]
      clear e1 e2 e3 hV
      have hbig' : (1152921504606846976 : Int) < (V : Int) := by omega
      go_enter Tryd.func94, Tryd.ntmps94
      go_wp2_with fail
      refine HG.out.mono ?_
      rintro e w1 ⟨rfl, rfl⟩
      go_wp2_with fail
      go_ret2
      exact ⟨rfl, grown_refl _ _, h⟩
    · have e1 : intE l = 0 := by unfold intE; rw [if_neg hlt, hV, if_neg hbig]
      have e2 : intV l = V := by rw [← hV]; exact if_pos e1
      have e3 : intL l = l.drop 8 := if_pos e1
      rw [e1, e2, e3]
      clear e1 e2 e3 hV
      have hbig' : (V : Int) ≤ (1152921504606846976 : Int) := by omega
      go_enter Tryd.func94, Tryd.ntmps94
      go_wp2_with fail
      refine HG.out.mono ?_
      rintro e w1 ⟨rfl, rfl⟩
      go_wp2_with ((with_reducible refine at_slice ?_); refine wpList_slice8 (L := 8) (H := l.length) (M := c) rfl _ _ _ _ rfl tU8 rfl rfl hA rfl rfl rfl (.at _ _ _ _ (by omega)) (.no _) (.no _) (.inl rfl) (by omega) (by omega) (by omega) (by omega) ?_)
      intro hp2
      go_wp2_with fail
      go_ret2
      refine ⟨rfl, box_grown w r _, ⟨pieceAt A 8 c, c - 8, ?_, ?_⟩⟩
      · rw [box_store hb]
        simp
      · have := hp2.apart hb (.slice (pieceAt A 8 c) (l.length - 8) (c - 8))
        simpa using this
end Go.Proofs.YtapoknpakleiiaaDoor
