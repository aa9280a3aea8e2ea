import Derived.Test.YtapoknpakleiiaaDoorPagePure
import Derived.Test.YtapoknpakleiiaaDoorJPairBack26
/- Lent bytes, in plain lists. -/
set_option linter.unusedVariables false
set_option linter.unusedSimpArgs false
namespace Go.Tm
/-- m marks from 129 on. -/
def markL (m : Nat) : List UInt8 := (List.range m).map fun i => UInt8.ofNat (129 + i)
theorem markL_length (m : Nat) : (markL m).length = m := by simp [markL]
theorem markL_succ (m : Nat) : markL (m + 1) = markL m ++ [UInt8.ofNat (129 + m)] := by simp [markL, List.range_succ]
def lentL (p : List UInt8) : List UInt8 := p ++ markL 120
theorem lentL_length (p : List UInt8) : (lentL p).length = p.length + 120 := by simp [lentL, markL_length]
theorem lentL_take (p : List UInt8) : (lentL p).take p.length = p := by simp [lentL]
/-- The first k bytes of p, zeros behind. -/
def cpL (p : List UInt8) (n m k : Nat) : List UInt8 := p.take k ++ zeroL (n - k + m)
theorem cpL_zero (p : List UInt8) (n m : Nat) : cpL p n m 0 = zeroL (n + m) := by simp [cpL]
theorem cpL_length (p : List UInt8) (n m k : Nat) (hk : k ≤ n) (hn : n = p.length) : (cpL p n m k).length = n + m := by
  unfold cpL
  rw [List.length_append, List.length_take, zeroL_length]
  omega
theorem set_mid (a : List UInt8) (x b : UInt8) (r : List UInt8) {k : Nat} (hk : k = a.length) : (a ++ x :: r).set k b = a ++ b :: r := by
  subst hk
  simp [List.set_append]
theorem cpL_step (p : List UInt8) (n m k : Nat) (X : UInt8) (hk : k < n) (hn : n = p.length) (hX : p.getD k 0 = X) : (cpL p n m k).set k X = cpL p n m (k + 1) := by
  unfold cpL
  have h1 : n - k + m = (n - (k + 1) + m) + 1 := by omega
  have h2 : p.take (k + 1) = p.take k ++ [X] := by
    rw [List.take_add_one]
    congr 1
    rw [List.getElem?_eq_getElem (by omega)]
    rw [List.getD_eq_getElem?_getD, List.getElem?_eq_getElem (by omega)] at hX
    rw [← hX]
    rfl
  rw [h1, h2]
  show (p.take k ++ (0 : UInt8) :: zeroL (n - (k + 1) + m)).set k X = _
  rw [set_mid _ _ _ _ (by rw [List.length_take]; omega)]
  simp
theorem cpL_end (p : List UInt8) (n m : Nat) (hn : n = p.length) : cpL p n m n = p ++ zeroL m := by
  subst hn
  simp [cpL]
/-- p, k marks, zeros behind. -/
def rpL (p : List UInt8) (m k : Nat) : List UInt8 := p ++ (markL k ++ zeroL (m - k))
theorem rpL_zero (p : List UInt8) (m : Nat) : rpL p m 0 = p ++ zeroL m := by simp [rpL, markL]
theorem rpL_length (p : List UInt8) (m k : Nat) (hk : k ≤ m) : (rpL p m k).length = p.length + m := by
  unfold rpL
  rw [List.length_append, List.length_append, markL_length, zeroL_length]
  omega
theorem rpL_step (p : List UInt8) (m k : Nat) (hk : k < m) {x n : Nat} (hx : x = n + k) (hn : n = p.length) : (rpL p m k).set x (UInt8.ofNat (129 + k)) = rpL p m (k + 1) := by
  subst hx hn
  unfold rpL
  have h1 : m - k = (m - (k + 1)) + 1 := by omega
  rw [h1, markL_succ]
  show (p ++ (markL k ++ (0 : UInt8) :: zeroL (m - (k + 1)))).set (p.length + k) _ = _
  rw [← List.append_assoc, set_mid _ _ _ _ (by rw [List.length_append, markL_length])]
  simp
theorem rpL_end (p : List UInt8) : rpL p 120 120 = lentL p := by simp [rpL, lentL, zeroL]
end Go.Tm

/- The contracts of the law's helpers for layer 13: num, lent, whole, blank, rest, fitted. -/
set_option linter.unusedVariables false
set_option linter.unusedSimpArgs false
namespace Go.Proofs.YtapoknpakleiiaaDoor
open Go.RowKit Go.Tm
set_option maxHeartbeats 400000
set_option maxRecDepth 100000
attribute [local go_sem ↓] Go.wp_at_zero Go.wp_at_succ

theorem num_any {w : World} (x : Int) : Calls Tryd.prog 12 #[.int .i64 x] w fun e w' => e = .returned (.int .i64 x) ∧ w = w' := by
  go_enter Tryd.func12, Tryd.ntmps12
  go_wp2_with fail
  go_ret
  exact ⟨rfl, rfl⟩

set_option maxHeartbeats 1000000 in
theorem lent_any {w : World} {A : Option Addr} {n c : Nat} {p : List UInt8} (h : Rda w A c p) (hn : n = p.length) (hl : p.length ≤ 140737488351232) :
    Calls Tryd.prog 8 #[.slice A n c] w fun e w' => ∃ g, e = .returned (.slice (some ⟨g, 0, none⟩) (n + 120) (n + 120)) ∧ New 5 w w' (some ⟨g, 0, none⟩) (n + 120) (lentL p) := by
  have HNL := Lib.hid hn
  rw [← hn] at hl
  clear hn
  go_enter Tryd.func8, Tryd.ntmps8
  go_wp2_with (with_reducible refine wpList_make8 rfl _ _ rfl tU8 (n + 120) rfl rfl (by omega) (by omega) (by omega) ?_)
  intro w1 hW hb1
  obtain ⟨SZ, hSZ⟩ : ∃ SZ, w.heap.size = SZ := ⟨_, rfl⟩
  rw [hSZ] at hW ⊢
  have HSZ := Lib.hid hSZ
  clear hSZ
  have hW0 : Whole8 w1 SZ 5 (cpL p n 120 0) := by rw [cpL_zero]; exact hW
  clear hW
  go_wp2_with fail
  go_loopw [4] (fun i wr => ∃ k : Nat, k ≤ n ∧ i = .int .i64 k ∧ Whole8 wr SZ 5 (cpL p n 120 k) ∧ Below w.heap.size w wr) (fun i _ => n - (intOf i).toNat)
  case atStart => exact ⟨0, by omega, rfl, hW0, hb1⟩
  case round =>
    obtain ⟨k, hk, rfl, hW, hb⟩ := hrel
    by_cases hkt : k < n
    · obtain ⟨g, o, rfl, hcc⟩ := h.cells (by rw [← HNL.out]; omega)
      have hck := hcc k (by rw [← HNL.out]; exact hkt)
      have hck2 := (hb.cell (p := ⟨g, o + k, none⟩) (World.block_lt_of_cell? _ _ hck)).trans hck
      have hlen : (cpL p n 120 k).length = n + 120 := cpL_length p n 120 k hk HNL.out
      have hc := hW.cell k (by omega)
      have hf := hW.free k
      have m0 : (0 : Int) ≤ (k : Int) := by omega
      have m1 : (k : Int) < (n : Int) := by omega
      have m2 : (k : Int) < (n : Int) + 120 := by omega
      obtain ⟨X, hX⟩ : ∃ X : UInt8, p.getD k 0 = X := ⟨_, rfl⟩
      rw [hX] at hck2
      have hst := hW.stored k X
      have hb2 := hb.grown (cell_grown wr SZ k (.int .u8 (X.toNat : Int))) hb.size (fun q hq => by injection hq with hq; have := HSZ.out; omega)
      rw [cpL_step p n 120 k X hkt HNL.out hX] at hst
      have HST := Lib.hid hst
      have HB := Lib.hid hb2
      clear hst hW hb hlen hb2 hcc hck hX
      go_wp2_with fail
      go_roundw
      case rel => exact ⟨k + 1, by omega, by go_num, HST.out, HB.out⟩
      case measure => simp [intOf]; omega
    · have he : k = n := by omega
      subst he
      rw [cpL_end p _ 120 HNL.out, ← rpL_zero p 120] at hW
      clear hkt
      go_wp2_with fail
      go_loopw [5] (fun i wr => ∃ m : Nat, m ≤ 120 ∧ i = .int .i64 ((k : Int) + (m : Int)) ∧ Whole8 wr SZ 5 (rpL p 120 m) ∧ Below w.heap.size w wr) (fun i _ => k + 120 - (intOf i).toNat)
      case atStart => exact ⟨0, by omega, by go_num, hW, hb⟩
      case round =>
        obtain ⟨m, hm, rfl, hW2, hb2⟩ := hrel
        by_cases hmt : m < 120
        · have hlen : (rpL p 120 m).length = k + 120 := by rw [rpL_length p 120 m hm, ← HNL.out]
          have hc := hW2.cell (k + m) (by omega)
          have hf := hW2.free (k + m)
          have m0 : (0 : Int) ≤ (k : Int) + (m : Int) := by omega
          have m1 : (k : Int) + (m : Int) < (k : Int) + 120 := by omega
          have hxv : (129 : Int) + ((k : Int) + (m : Int)) - (k : Int) = 129 + (m : Int) := by omega
          have i1 : IntKind.i64.wrap ((129 : Int) + ((k : Int) + (m : Int))) = (129 : Int) + ((k : Int) + (m : Int)) := IntWalk.i64_in _ (by omega)
          have i2 : IntKind.i64.wrap ((129 : Int) + ((k : Int) + (m : Int)) - (k : Int)) = (129 : Int) + (m : Int) := by rw [hxv]; exact IntWalk.i64_in _ (by omega)
          have hby : ((129 : Int) + (m : Int)) = ((UInt8.ofNat (129 + m)).toNat : Int) := by
            rw [UInt8.toNat_ofNat_of_lt' (by simp [UInt8.size]; omega)]; omega
          have hst := hW2.stored (k + m) (UInt8.ofNat (129 + m))
          have hb3 := hb2.grown (cell_grown wr SZ (k + m) (.int .u8 ((UInt8.ofNat (129 + m)).toNat : Int))) hb2.size (fun q hq => by injection hq with hq; have := HSZ.out; omega)
          rw [rpL_step p 120 m hmt (n := k) rfl HNL.out] at hst
          rw [← hby] at hst hb3
          have HST := Lib.hid hst
          have HB := Lib.hid hb3
          have ht : ((k : Int) + (m : Int)).toNat = k + m := by omega
          clear hst hW2 hb2 hlen hb3 hby
          go_wp2_with fail
          go_roundw
          case rel => exact ⟨m + 1, by omega, by go_num, HST.out, HB.out⟩
          case measure => simp [intOf]; omega
        · have he : m = 120 := by omega
          subst he
          rw [rpL_end] at hW2
          have hO := hW2.own (base := w.heap.size) (by rw [HSZ.out]; exact Nat.le_refl _) (by rw [lentL_length, ← HNL.out]; omega)
          rw [lentL_length, ← HNL.out] at hO
          have HN : Hid (New 5 w wr (some ⟨SZ, 0, none⟩) (k + 120) (lentL p)) := Lib.hid ⟨by rw [lentL_length, ← HNL.out]; exact hO, hb2⟩
          clear hO hW2 hb2
          go_wp2_with fail
          go_ret
          exact ⟨SZ, rfl, HN.out⟩
end Go.Proofs.YtapoknpakleiiaaDoor
