import Derived.Test.YtiaehoppdihbdaaOctRd
/- The reader again: what it reads lay there in a world before. -/
set_option linter.unusedVariables false
set_option linter.unusedSimpArgs false
namespace Go.Proofs.Ytiaehoppdihbdaa
open Go.RowKit Go.Tm
set_option maxHeartbeats 400000
set_option maxRecDepth 100000

structure IsRs (w0 w : World) (r : Nat) (T : TypeId) (l : List UInt8) : Prop where
  is : ∃ A c, w.heap[r]? = some (.cells #[.slice A l.length c] T (0, 0)) ∧ Rda w0 A c l ∧ Rda w A c l
theorem IsRs.toR {w0 w : World} {r : Nat} {T : TypeId} {l : List UInt8} (h : IsRs w0 w r T l) : IsR w r T l := by
  obtain ⟨A, c, h1, h2, h3⟩ := h.is
  exact ⟨A, c, h1, h3⟩
theorem IsR.toS {w : World} {r : Nat} {T : TypeId} {l : List UInt8} (h : IsR w r T l) : IsRs w w r T l := by
  obtain ⟨A, c, h1, h3⟩ := h.is
  exact ⟨A, c, h1, h3, h3⟩
theorem IsRs.below {w0 w w' : World} {r : Nat} {T : TypeId} {l : List UInt8} (h : IsRs w0 w r T l) (hb : Below w.heap.size w w') : IsRs w0 w' r T l := by
  obtain ⟨A, c, h1, h2, h3⟩ := h.is
  exact ⟨A, c, (hb.block r (Array.getElem?_eq_some_iff.1 h1).1).trans h1, h2, h3.below hb⟩
theorem IsRs.lt {w0 w : World} {r : Nat} {T : TypeId} {l : List UInt8} (h : IsRs w0 w r T l) : r < w.heap.size := h.toR.lt
/-- It stays, where only a block is written that was not there then. -/
theorem IsRs.grown {w0 w w' : World} {r : Nat} {T : TypeId} {l : List UInt8} (h : IsRs w0 w r T l) {row : Option Nat} (hg : w.grownBy w' row) (hr : row ≠ some r) (h0 : ∀ g, row = some g → w0.heap.size ≤ g) : IsRs w0 w' r T l := by
  obtain ⟨A, c, h1, h2, h3⟩ := h.is
  refine ⟨A, c, (hg.block r (Array.getElem?_eq_some_iff.1 h1).1 (fun e => hr e.symm)).trans h1, h2, h3.cap, h3.max, h3.nil, fun hl => ?_⟩
  obtain ⟨b, o, e, hc⟩ := h3.cells hl
  obtain ⟨b2, o2, e2, hc2⟩ := h2.cells hl
  rw [e] at e2
  injection e2 with e2
  injection e2 with e3 e4
  subst e3 e4
  refine ⟨b, o, e, fun j hj => hg.cell (hc j hj) fun e' => ?_⟩
  have := World.block_lt_of_cell? _ _ (hc2 j hj)
  have := h0 b e'.symm
  have hb : b < w0.heap.size := World.block_lt_of_cell? _ _ (hc2 j hj)
  omega

theorem rowS_any {w0 w : World} {r : Nat} {l : List UInt8} (h : IsRs w0 w r 95 l) (n : Int) (hl : l.length ≤ 140737488355328) (hn : n ≤ 9223372036854775807) :
    Calls Try.prog 71 #[.pointer (some ⟨r, 0, none⟩), .int .i64 n] w fun e w' => ∃ A' c', e = .returned (.tuple #[.slice A' (rowV n l).length c', .int .i64 (rowE n l)]) ∧ NewR 5 r w w' A' c' (rowV n l) ∧ IsRs w0 w' r 95 (rowL n l) := by
  obtain ⟨A, c, hb, hA0, hA⟩ := h.is
  have hc := box_cell hb
  have hcap := hA.cap
  have hmax := hA.max
  unfold maxLen at hmax
  by_cases h0 : n < 0
  · have e1 : rowE n l = 30 := if_pos h0
    have e2 : rowV n l = [] := if_neg (by rw [e1]; decide)
    have e3 : rowL n l = l := if_neg (by rw [e1]; decide)
    rw [e1, e2, e3]
    clear e1 e2 e3
    go_enter Try.func71, Try.ntmps71
    go_wp2
    go_ret2
    exact ⟨none, 0, rfl, ⟨Own8.nilRow _ _ _, grown_refl _ _⟩, h⟩
  · by_cases h1 : (l.length : Int) < n
    · have e1 : rowE n l = 10 := by unfold rowE; rw [if_neg h0, if_pos h1]
      have e2 : rowV n l = [] := if_neg (by rw [e1]; decide)
      have e3 : rowL n l = l := if_neg (by rw [e1]; decide)
      rw [e1, e2, e3]
      clear e1 e2 e3
      go_enter Try.func71, Try.ntmps71
      go_wp2
      go_ret2
      exact ⟨none, 0, rfl, ⟨Own8.nilRow _ _ _, grown_refl _ _⟩, h⟩
    · have e1 : rowE n l = 0 := by unfold rowE; rw [if_neg h0, if_neg h1]
      have e2 : rowV n l = l.take n.toNat := if_pos e1
      have e3 : rowL n l = l.drop n.toNat := if_pos e1
      rw [e1, e2, e3]
      clear e1 e2 e3
      obtain ⟨m, rfl⟩ := Int.eq_ofNat_of_zero_le (show 0 ≤ n by omega)
      rw [Int.toNat_natCast]
      have hm : m ≤ l.length := by omega
      go_enter Try.func71, Try.ntmps71
      go_wp2_with ((with_reducible refine at_slice ?_); refine wpList_slice8 (L := 0) (H := m) (M := c) rfl _ _ _ _ rfl tU8 rfl rfl hA rfl rfl rfl (.no _) (.at _ _ _ _ (by omega)) (.no _) (.inl rfl) (by omega) (by omega) (by omega) (by omega) ?_)
      intro hp
      go_wp2_with fail
      refine (clone_any hp (by simp; omega) (by simp; omega)).mono ?_
      rintro e w1 ⟨A1, c1, rfl, hN⟩
      have hb1 := (hN.below.block r h.lt).trans hb
      have hc1 := box_cell hb1
      have hf1 := box_free hb1
      have hA1 := hA.below hN.below
      go_wp2_with ((with_reducible refine at_slice ?_); refine wpList_slice8 (L := m) (H := l.length) (M := c) rfl _ _ _ _ rfl tU8 rfl rfl hA1 rfl rfl rfl (.at _ _ _ _ (by omega)) (.no _) (.no _) (.inl rfl) (by omega) (by omega) (by omega) (by omega) ?_)
      intro hp2
      go_wp2_with fail
      go_ret2
      have hlen : (l.take m).length = m := by simp; omega
      refine ⟨A1, c1, by rw [hlen]; rfl, ⟨hN.own.keptBy (box_grown w1 r _) ?_, grown_trans (below_grown hN.below _) (box_grown w1 r _)⟩, ⟨pieceAt A m c, c - m, ?_, hA0.drop m hm, ?_⟩⟩
      · intro k hk e
        have := (World.ownsRow.lt hN.own k hk).1
        have := h.lt
        simp at e
        omega
      · rw [box_store hb1]
        simp
      · have := hp2.apart hb1 (.slice (pieceAt A m c) (l.length - m) (c - m))
        simpa using this

theorem numberS_any {w0 w : World} {r : Nat} {l : List UInt8} (h : IsRs w0 w r 95 l) (n : Int) (hl : l.length ≤ 140737488355328) :
    Calls Try.prog 62 #[.pointer (some ⟨r, 0, none⟩), .int .i64 n] w fun e w' => e = .returned (.tuple #[.int .u64 (numV n l : Nat), .int .i64 (numE n l)]) ∧ w.grownBy w' (some r) ∧ IsRs w0 w' r 95 (numL n l) := by
  by_cases hw : isW n = true
  · have hn : n = 1 ∨ n = 2 ∨ n = 4 ∨ n = 8 := by simpa [isW, or_assoc] using hw
    have e1 : numE n l = rowE n l := if_pos hw
    have e2 : numL n l = rowL n l := by unfold numL rowL; rw [e1]
    have e3 : numV n l = leN (rowV n l) := by unfold numV rowV; rw [e1]; split <;> rfl
    have hlen : (rowV n l).length ≤ 8 := by unfold rowV; split <;> simp; omega
    rw [e1, e2, e3]
    clear e1 e2 e3 hw
    have hle : n ≤ 9223372036854775807 := by omega
    rcases hn with rfl | rfl | rfl | rfl
    all_goals
      go_enter Try.func62, Try.ntmps62
      go_wp2_with fail
      refine (rowS_any h _ hl hle).mono ?_
      rintro e w1 ⟨A1, c1, rfl, hN, hR⟩
      go_wp2_with fail
      refine (little_any hN.rda rfl hlen).mono ?_
      rintro e w2 ⟨rfl, rfl⟩
      go_wp2_with fail
      go_ret2
      exact ⟨rfl, hN.grown, hR⟩
  · have e1 : numE n l = 30 := if_neg hw
    have e2 : numL n l = l := if_neg (by rw [e1]; decide)
    have e3 : numV n l = 0 := if_neg (by rw [e1]; decide)
    rw [e1, e2, e3]
    clear e1 e2 e3
    have hn : n ≠ 1 ∧ n ≠ 2 ∧ n ≠ 4 ∧ n ≠ 8 := by simpa [isW, and_assoc] using hw
    obtain ⟨h1, h2, h4, h8⟩ := hn
    have b1 : (n == 1) = false := by simpa using h1
    have b2 : (n == 2) = false := by simpa using h2
    have b4 : (n == 4) = false := by simpa using h4
    have b8 : (n == 8) = false := by simpa using h8
    have c1 : (n != 1) = true := by simpa using h1
    have c2 : (n != 2) = true := by simpa using h2
    have c4 : (n != 4) = true := by simpa using h4
    have c8 : (n != 8) = true := by simpa using h8
    clear hw h1 h2 h4 h8
    go_enter Try.func62, Try.ntmps62
    go_wp2_with fail

    go_ret2
    exact ⟨rfl, grown_refl _ _, h⟩


theorem intS_any {w0 w : World} {r : Nat} {l : List UInt8} (h : IsRs w0 w r 95 l) :
    Calls Try.prog 63 #[.pointer (some ⟨r, 0, none⟩)] w fun e w' => e = .returned (.tuple #[.int .i64 (intV l : Nat), .int .i64 (intE l)]) ∧ w.grownBy w' (some r) ∧ IsRs w0 w' r 95 (intL l) := by
  obtain ⟨A, c, hb, hA0, hA⟩ := h.is
  have hc := box_cell hb
  have hcap := hA.cap
  have hmax := hA.max
  have hf := box_free hb
  unfold maxLen at hmax
  by_cases hlt : l.length < 8
  · have e1 : intE l = 10 := if_pos hlt
    have e2 : intV l = 0 := if_neg (by rw [e1]; decide)
    have e3 : intL l = l := if_neg (by rw [e1]; decide)
    have g1 : getV 8 l = 0 := if_pos hlt
    have g2 : getE 8 l = 10 := if_pos hlt
    rw [e1, e2, e3]
    clear e1 e2 e3
    have hG := get8_any hA rfl
    rw [g1, g2] at hG
    clear g1 g2
    have HG := Lib.hid hG
    clear hG
    go_enter Try.func63, Try.ntmps63
    go_wp2_with fail
    refine HG.out.mono ?_
    rintro e w1 ⟨rfl, rfl⟩
    go_wp2_with fail
    go_ret2
    exact ⟨rfl, grown_refl _ _, h⟩
  · have g1 : getV 8 l = leN (l.take 8) := if_neg hlt
    have g2 : getE 8 l = 0 := if_neg hlt
    have hG := get8_any hA rfl
    rw [g1, g2] at hG
    obtain ⟨V, hV⟩ : ∃ V, leN (l.take 8) = V := ⟨_, rfl⟩
    have hVb := getV_lt 8 l
    rw [g1, hV] at hVb
    rw [hV] at hG
    clear g1 g2
    have HG := Lib.hid hG
    clear hG
    by_cases hbig : 1152921504606846976 < V
    · have e1 : intE l = 30 := by unfold intE; rw [if_neg hlt, hV, if_pos hbig]
      have e2 : intV l = 0 := if_neg (by rw [e1]; decide)
      have e3 : intL l = l := if_neg (by rw [e1]; decide)
      rw [e1, e2, e3]
      clear e1 e2 e3 hV
      have hbig' : (1152921504606846976 : Int) < (V : Int) := by omega
      go_enter Try.func63, Try.ntmps63
      go_wp2_with fail
      refine HG.out.mono ?_
      rintro e w1 ⟨rfl, rfl⟩
      go_wp2_with fail
      go_ret2
      exact ⟨rfl, grown_refl _ _, h⟩
    · have e1 : intE l = 0 := by unfold intE; rw [if_neg hlt, hV, if_neg hbig]
      have e2 : intV l = V := by rw [← hV]; exact if_pos e1
      have e3 : intL l = l.drop 8 := if_pos e1
      rw [e1, e2, e3]
      clear e1 e2 e3 hV
      have hbig' : (V : Int) ≤ (1152921504606846976 : Int) := by omega
      go_enter Try.func63, Try.ntmps63
      go_wp2_with fail
      refine HG.out.mono ?_
      rintro e w1 ⟨rfl, rfl⟩
      go_wp2_with ((with_reducible refine at_slice ?_); refine wpList_slice8 (L := 8) (H := l.length) (M := c) rfl _ _ _ _ rfl tU8 rfl rfl hA rfl rfl rfl (.at _ _ _ _ (by omega)) (.no _) (.no _) (.inl rfl) (by omega) (by omega) (by omega) (by omega) ?_)
      intro hp2
      go_wp2_with fail
      go_ret2
      refine ⟨rfl, box_grown w r _, ⟨pieceAt A 8 c, c - 8, ?_, hA0.drop 8 (by omega), ?_⟩⟩
      · rw [box_store hb]
        simp
      · have := hp2.apart hb (.slice (pieceAt A 8 c) (l.length - 8) (c - 8))
        simpa using this

end Go.Proofs.Ytiaehoppdihbdaa
