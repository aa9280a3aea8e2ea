import Derived.Test.YtapoknpakleiiaaDoorProg
import Derived.Test.YtapoknpakleiiaaDoorDiskMem
/- The contracts of package disk: shapes, sizes, grounds. -/
set_option linter.unusedVariables false
set_option linter.unusedSimpArgs false
namespace Go.Proofs.YtapoknpakleiiaaDoor
open Go.RowKit Go.Tm
set_option maxHeartbeats 400000
set_option maxRecDepth 100000

theorem ret_int {k : IntKind} {x y : Int} (h : x = y) : Ending.returned (.int k x) = Ending.returned (.int k y) := by rw [h]

theorem bclone_any {w : World} {A : Option Addr} {n c : Nat} {l : List UInt8} (h : Rda w A c l) (hn : n = l.length) (hl : l.length ≤ 140737488355328) :
    Calls Tryd.prog 70 #[.slice A n c] w fun e w' => ∃ A' c', e = .returned (.slice A' l.length c') ∧ New 5 w w' A' c' l := by
  subst hn
  cases A with
  | none =>
    have h0 := h.nil rfl
    subst h0
    have : l = [] := List.eq_nil_of_length_eq_zero (by have := h.cap; omega)
    subst this
    go_enter Tryd.func70, Tryd.ntmps70
    go_wp2
    go_ret
    exact ⟨none, 0, rfl, ⟨Own8.nilRow _ _ _, Below.refl _ _⟩⟩
  | some a =>
    have hown := Own8.none_ w w.heap.size 5 (Nat.le_refl _)
    have hb0 := (Below.refl w.heap.size w).alloc (Nat.le_refl _) (.cells #[] 5)
    go_enter Tryd.func70, Tryd.ntmps70
    go_wp2_with (at_builtin; refine wpList_app (l := []) _ rfl _ _ rfl tU8 rfl hown rfl rfl (h.alloc _) (by simpa using hl) (by simp) ?_)
    intro v' w' hv hg
    obtain ⟨A', c', rfl, _⟩ := own_rda hv
    have hb := hb0.grown hg hb0.size (fun k hk => by simp [Value.ownBlock] at hk; omega)
    go_wp2
    go_ret
    exact ⟨A', c', by simp, ⟨by simpa using hv, hb⟩⟩

set_option maxHeartbeats 1600000 in
theorem right_any {w : World} (P K M : Int) : Calls Tryd.prog 51 #[.agg #[.int .i64 P, .int .i64 K, .int .i64 M]] w fun e w' => e = .returned (.bool (shapeB P K M)) ∧ Below w.heap.size w w' := by
  by_cases a1 : (1 : Int) ≤ P
  · by_cases a2 : P ≤ 16
    · by_cases a3 : (1 : Int) ≤ K
      · by_cases a4 : K ≤ 8
        · by_cases a5 : (1024 : Int) ≤ M
          · by_cases a6 : M ≤ 65536
            · go_enter Tryd.func51, Tryd.ntmps51
              go_wp2_with fail
              go_ret
              exact ⟨(by simp [shapeB, a1, a2, a3, a4, a5, a6] <;> omega), (Below.refl _ _).alloc (Nat.le_refl _) _⟩
            · go_enter Tryd.func51, Tryd.ntmps51
              go_wp2_with fail
              go_ret
              exact ⟨(by simp [shapeB, a1, a2, a3, a4, a5, a6] <;> omega), (Below.refl _ _).alloc (Nat.le_refl _) _⟩
          · go_enter Tryd.func51, Tryd.ntmps51
            go_wp2_with fail
            go_ret
            exact ⟨(by simp [shapeB, a1, a2, a3, a4, a5] <;> omega), (Below.refl _ _).alloc (Nat.le_refl _) _⟩
        · go_enter Tryd.func51, Tryd.ntmps51
          go_wp2_with fail
          go_ret
          exact ⟨(by simp [shapeB, a1, a2, a3, a4] <;> omega), (Below.refl _ _).alloc (Nat.le_refl _) _⟩
      · go_enter Tryd.func51, Tryd.ntmps51
        go_wp2_with fail
        go_ret
        exact ⟨(by simp [shapeB, a1, a2, a3] <;> omega), (Below.refl _ _).alloc (Nat.le_refl _) _⟩
    · go_enter Tryd.func51, Tryd.ntmps51
      go_wp2_with fail
      go_ret
      exact ⟨(by simp [shapeB, a1, a2] <;> omega), (Below.refl _ _).alloc (Nat.le_refl _) _⟩
  · go_enter Tryd.func51, Tryd.ntmps51
    go_wp2_with fail
    go_ret
    exact ⟨(by simp [shapeB, a1] <;> omega), (Below.refl _ _).alloc (Nat.le_refl _) _⟩

theorem pageBytes_any {w : World} (P K M : Int) (k0 : 0 ≤ K) (k1 : K ≤ 8) : Calls Tryd.prog 100 #[.agg #[.int .i64 P, .int .i64 K, .int .i64 M]] w fun e w' => e = .returned (.int .i64 (24 + 16 * K)) ∧ Below w.heap.size w w' := by
  go_enter Tryd.func100, Tryd.ntmps100
  go_wp2_with fail
  go_ret
  exact ⟨ret_int (by omega), (Below.refl _ _).alloc (Nat.le_refl _) _⟩

theorem size_any {w : World} (P K : Nat) (M : Int) (k1 : K ≤ 8) (i : Nat) : Calls Tryd.prog 86 #[.agg #[.int .i64 P, .int .i64 K, .int .i64 M], .int .i64 i] w fun e w' => e = .returned (.int .i64 (sizeD P K i : Nat)) ∧ Below w.heap.size w w' := by
  have hb0 := (Below.refl w.heap.size w).alloc (Nat.le_refl _) (.cells #[.int .i64 P, .int .i64 K, .int .i64 M] 50)
  have HP := fun (W : World) => pageBytes_any (w := W) (P : Int) (K : Int) M (by omega) (by omega)
  unfold sizeD
  by_cases h1 : i < P
  · have g1 : (i : Int) < (P : Int) := by omega
    rw [if_pos h1]
    go_enter Tryd.func86, Tryd.ntmps86
    go_wp2_with fail
    refine (HP _).mono ?_
    rintro e w1 ⟨rfl, hb⟩
    go_wp2_with fail
    go_ret
    exact ⟨ret_int (by omega), below_then hb0 hb⟩
  · have g1 : ¬ (i : Int) < (P : Int) := by omega
    rw [if_neg h1]
    by_cases h2 : i = P
    · subst h2
      rw [if_pos rfl]
      go_enter Tryd.func86, Tryd.ntmps86
      go_wp2_with fail
      refine (HP _).mono ?_
      rintro e w1 ⟨rfl, hb⟩
      go_wp2_with fail
      go_ret
      exact ⟨ret_int (by omega), below_then hb0 hb⟩
    · have g2 : ((i : Int) == (P : Int)) = false := beq_eq_false_iff_ne.2 (by omega)
      rw [if_neg h2]
      go_enter Tryd.func86, Tryd.ntmps86
      go_wp2_with fail
      go_ret
      exact ⟨rfl, hb0⟩
end Go.Proofs.YtapoknpakleiiaaDoor
