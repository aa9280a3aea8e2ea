import Derived.Test.YtiaehoppdihbdaaRec6
import Derived.Test.YtiaehoppdihbdaaOctJn
/- The contracts of package record: bytes that are laid, step by step. -/
set_option linter.unusedVariables false
set_option linter.unusedSimpArgs false
namespace Go.Proofs.Ytiaehoppdihbdaa
open Go.RowKit Go.Tm
set_option maxHeartbeats 400000
set_option maxRecDepth 100000
attribute [local go_sem ↓] Go.wp_at_zero Go.wp_at_succ

theorem lay8_any {w : World} {A : Option Addr} {n c : Nat} {l : List UInt8} (h : Rda w A c l) (hn : n = l.length) (hl : l.length + 8 ≤ 140737488355328) (v : Int) (h0 : 0 ≤ v) (h1 : v ≤ 1152921504606846976) :
    Calls Try.prog 28 #[.slice A n c, .int .i64 v] w fun e w' => ∃ A' c', e = .returned (.slice A' (l ++ nB 8 v).length c') ∧ New 5 w w' A' c' (l ++ nB 8 v) := by
  have HP := Lib.hid (put8_any h hn hl v h0 (by omega))
  have hw : IntKind.u64.wrap v = v := wraps_u64 v h0 (by omega)
  clear h hn
  go_enter Try.func28, Try.ntmps28
  go_wp2_with fail
  refine HP.out.mono ?_
  rintro e w1 ⟨A1, c1, rfl, hN⟩
  have HN := Lib.hid hN
  obtain ⟨N, hNN⟩ : ∃ N, (l ++ leB 8 v.toNat).length = N := ⟨_, rfl⟩
  have HNN := Lib.hid hNN
  rw [hNN]
  clear hN hNN
  go_wp2_with fail
  go_ret
  exact ⟨A1, c1, by rw [← HNN.out]; rfl, HN.out⟩
/-- Bytes that are being laid, in memory of one's own; the record's box stands. -/
structure Bs (w : World) (bx : Nat) (cs : List Value) (l : List UInt8) (v : Value) (W : World) : Prop where
  low : Below w.heap.size w W
  row : RowC W bx 26 cs
  own : Own8 W w.heap.size 5 v l
section
variable {w W W' : World} {bx : Nat} {cs : List Value} {l : List UInt8} {A : Option Addr} {n c : Nat}
theorem Bs.below {v : Value} (h : Bs w bx cs l v W) (hb : Below W.heap.size W W') : Bs w bx cs l v W' := ⟨below_then h.low hb, h.row.below hb, h.own.below hb⟩
theorem Bs.new {m : List UInt8} {v : Value} (h : Bs w bx cs l v W) {A' : Option Addr} {c' : Nat} (hN : New 5 W W' A' c' m) : Bs w bx cs m (.slice A' m.length c') W' := ⟨below_then h.low hN.below, h.row.below hN.below, Own8.mono hN.own h.low.size⟩
theorem Bs.put1 (h : Bs w bx cs l (.slice A n c) W) (x : Int) (h0 : 0 ≤ x) (h1 : x < 256) (hl : l.length + 1 ≤ 100000) : Calls Try.prog 30 #[.slice A n c, .int .u8 x] W fun e W' => ∃ A' n' c', e = .returned (.slice A' n' c') ∧ Bs w bx cs (l ++ nB 1 x) (.slice A' n' c') W' := by
  obtain ⟨e1, e2⟩ := own_at h.own
  exact (put1_any e2 e1 (by omega) x h0 h1).mono fun e W' ⟨A', c', h1, h2⟩ => ⟨A', _, c', h1, h.new h2⟩
theorem Bs.put2 (h : Bs w bx cs l (.slice A n c) W) (x : Int) (h0 : 0 ≤ x) (h1 : x < 65536) (hl : l.length + 2 ≤ 100000) : Calls Try.prog 31 #[.slice A n c, .int .u16 x] W fun e W' => ∃ A' n' c', e = .returned (.slice A' n' c') ∧ Bs w bx cs (l ++ nB 2 x) (.slice A' n' c') W' := by
  obtain ⟨e1, e2⟩ := own_at h.own
  exact (put2_any e2 e1 (by omega) x h0 h1).mono fun e W' ⟨A', c', h1, h2⟩ => ⟨A', _, c', h1, h.new h2⟩
theorem Bs.put8 (h : Bs w bx cs l (.slice A n c) W) (x : Int) (h0 : 0 ≤ x) (h1 : x ≤ 1152921504606846976) (hl : l.length + 8 ≤ 100000) : Calls Try.prog 28 #[.slice A n c, .int .i64 x] W fun e W' => ∃ A' n' c', e = .returned (.slice A' n' c') ∧ Bs w bx cs (l ++ nB 8 x) (.slice A' n' c') W' := by
  obtain ⟨e1, e2⟩ := own_at h.own
  exact (lay8_any e2 e1 (by omega) x h0 h1).mono fun e W' ⟨A', c', h1, h2⟩ => ⟨A', _, c', h1, h.new h2⟩
theorem Bs.join (h : Bs w bx cs l (.slice A n c) W) {B1 B2 : Option Addr} {n1 n2 c1 c2 : Nat} {x y : List UInt8} (r1 : Rda w B1 c1 x) (r2 : Rda w B2 c2 y) (e1 : n1 = x.length) (e2 : n2 = y.length) (hl : (l ++ (x ++ y)).length ≤ 100000) :
    Calls Try.prog 32 #[.slice (some ⟨W.heap.size, 0, none⟩) 3 3] (W.alloc (.cells #[.slice A n c, .slice B1 n1 c1, .slice B2 n2 c2] 22)) fun e W' => ∃ A' n' c', e = .returned (.slice A' n' c') ∧ Bs w bx cs (l ++ (x ++ y)) (.slice A' n' c') W' := by
  obtain ⟨e3, e4⟩ := own_at h.own
  have hv : RowVals W [.slice A n c, .slice B1 n1 c1, .slice B2 n2 c2] [l, x, y] := (((RowVals.nil W).cons (r2.below h.low) e2).cons (r1.below h.low) e1).cons e4 e3
  have hr := hv.rows 22 3 rfl (by simp) rfl
  have hc : cat [l, x, y] = l ++ (x ++ y) := by simp [cat]
  have hb := (Below.refl W.heap.size W).alloc (Nat.le_refl _) (.cells #[.slice A n c, .slice B1 n1 c1, .slice B2 n2 c2] 22)
  refine (join_any hr rfl (by rw [hc]; omega)).mono fun e W' ⟨A', c', h1, h2⟩ => ?_
  rw [hc] at h1 h2
  exact ⟨A', _, c', h1, (h.below hb).new h2⟩
end
end Go.Proofs.Ytiaehoppdihbdaa
