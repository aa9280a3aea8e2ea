import Derived.Test.YtgcpmdodhnmneabRef5b
/- The small functions of the laws of layer 5. -/
set_option linter.unusedVariables false
set_option linter.unusedSimpArgs false
namespace Go.Proofs.Ytgcpmdodhnmneab
open Go.RowKit Go.Tm
set_option maxHeartbeats 400000
set_option maxRecDepth 100000

theorem same5_any {w : World} {A B : Option Addr} {n m c d : Nat} {l k : List UInt8} (ha : Rda w A c l) (hb : Rda w B d k) (hn : n = l.length) (hm : m = k.length) :
    Calls Try.prog 20 #[.slice A n c, .slice B m d] w fun e w' => e = .returned (.bool (decide (l = k))) ∧ w = w' := by
  subst hn hm
  have h1 := fun dst hd => run_conv_rd (P := Try.prog) w tU8 ha _ rfl dst hd
  have h2 := fun dst hd => run_conv_rd (P := Try.prog) w tU8 hb _ rfl dst hd
  go_enter Try.func20, Try.ntmps20
  go_wp2
  go_ret
  exact ⟨rfl, rfl⟩

theorem same5_yes {w : World} {A B : Option Addr} {n m c d : Nat} {l k : List UInt8} (ha : Rda w A c l) (hb : Rda w B d k) (hn : n = l.length) (hm : m = k.length) (he : l = k) :
    Calls Try.prog 20 #[.slice A n c, .slice B m d] w fun e w' => e = .returned (.bool true) ∧ w = w' := by
  have := same5_any ha hb hn hm
  rwa [decide_eq_true he] at this

theorem into5_any (n top : Int) (h0 : 0 < top) (h1 : top ≤ 4611686018427387904) (w : World) :
    Calls Try.prog 21 #[.int .i64 n, .int .i64 top] w fun e w' => e = .returned (.int .i64 (n % top)) ∧ w = w' := by
  have hz : ¬ top = 0 := by omega
  have hz2 : (top == 0) = false := by rw [beq_eq_false_iff_ne]; omega
  have hm : n % top = if n.tmod top < 0 then n.tmod top + top else n.tmod top := by
    rw [Int.emod_eq_tmod]
    have hlt := Int.tmod_lt_of_pos n h0
    have hab : (top.natAbs : Int) = top := by omega
    by_cases hn : 0 ≤ n
    · have := Int.tmod_nonneg top hn
      rw [if_pos (.inl hn), if_neg (by omega)]
      omega
    · by_cases hd : top ∣ n
      · rw [if_pos (.inr hd), Int.tmod_eq_zero_of_dvd hd, if_neg (by omega)]
        omega
      · have h2 : n.tmod top ≠ 0 := fun h => hd (Int.dvd_of_tmod_eq_zero h)
        have h3 : n.tmod top ≤ 0 := by
          have := Int.tmod_nonneg top (a := -n) (by omega)
          rw [Int.neg_tmod] at this
          omega
        rw [if_neg (by rintro (h | h) <;> contradiction), if_pos (by omega), hab]
  have hlo : -top < n.tmod top := by
    have := Int.lt_tmod_of_pos n h0
    omega
  have hhi : n.tmod top < top := Int.tmod_lt_of_pos n h0
  rw [hm]
  clear hm
  obtain ⟨r, hr⟩ : ∃ r, n.tmod top = r := ⟨_, rfl⟩
  rw [hr] at hlo hhi ⊢
  by_cases hneg : r < 0
  · rw [if_pos hneg]
    go_enter Try.func21, Try.ntmps21
    go_wp2
    go_ret
    exact ⟨rfl, rfl⟩
  · rw [if_neg hneg]
    go_enter Try.func21, Try.ntmps21
    go_wp2
    go_ret
    exact ⟨rfl, rfl⟩

theorem hk1 : putE (zeroL 40) 258 = 0 ∧ (putV (zeroL 40) 258 7).length = 40 := by decide +kernel
theorem hk2 : putE (putV (zeroL 40) 258 7) 3 = 42 ∧ putV (putV (zeroL 40) 258 7) 3 7 = [] := by decide +kernel
theorem hk3 : valueI (putV (zeroL 40) 258 7) 258 = 7 ∧ findB (putV (zeroL 40) 258 7) 258 = true := by decide +kernel
theorem hk4 : delB (putV (zeroL 40) 258 7) 258 = true ∧ (delV (putV (zeroL 40) 258 7) 258).length = 40 := by decide +kernel
theorem hk5 : ofE 7 4 100 = 0 ∧ ofV 7 4 100 = 3 := by decide +kernel

theorem known5_any {w : World} : Calls Try.prog 11 #[] w fun e w' => e = .returned (.bool true) ∧ Below w.heap.size w w' := by
  obtain ⟨e1, l1⟩ := hk1
  obtain ⟨e2, v2⟩ := hk2
  obtain ⟨v3, e3⟩ := hk3
  obtain ⟨e4, l4⟩ := hk4
  obtain ⟨e5, v5⟩ := hk5
  have P1 := fun (W : World) A x (h : Rda W A x (zeroL 40)) => put_any h (n := 40) (zeroL_length 40).symm (by rw [zeroL_length]; omega) 258 7 (by omega) (by omega)
  obtain ⟨b, hb⟩ : ∃ b, putV (zeroL 40) 258 7 = b := ⟨_, rfl⟩
  rw [hb] at l1 e2 v2 v3 e3 e4 l4 P1
  rw [l1, e1] at P1
  have P2 := fun (W : World) A x (h : Rda W A x b) => put_any h (n := 40) l1.symm (by omega) 3 7 (by omega) (by omega)
  rw [v2, e2] at P2
  have P3 := fun (W : World) A x (h : Rda W A x b) => value_any h (n := 40) l1.symm (by omega) 258
  rw [v3, e3] at P3
  have P4 := fun (W : World) A x (h : Rda W A x b) => delete_any h (n := 40) l1.symm (by omega) 258
  rw [l4, e4] at P4
  have P5 := fun (W : World) => of_any 7 4 100 W
  rw [e5, v5] at P5
  have H1 := Lib.hid P1
  have H2 := Lib.hid P2
  have H3 := Lib.hid P3
  have H4 := Lib.hid P4
  have H5 := Lib.hid P5
  have HZ := Lib.hid (zeroL_length 40)
  clear P1 P2 P3 P4 P5 e1 l1 e2 v2 v3 e3 e4 l4 e5 v5 hb
  go_enter Try.func11, Try.ntmps11
  go_wp2_with (with_reducible refine wpList_make8 rfl _ _ rfl tU8 40 rfl rfl rfl rfl (by omega) ?_)
  intro w2 hW hb1
  have hr := hW.rda (by rw [HZ.out]; omega)
  rw [HZ.out] at hr
  go_wp2_with fail
  refine (H1.out _ _ _ hr).mono ?_
  rintro e w1 ⟨A1, c1, rfl, hN⟩
  have b1 := below_then hb1 hN.below
  have r1 := hN.rda
  clear hN
  go_wp2_with fail
  refine (H2.out _ _ _ r1).mono ?_
  rintro e w2 ⟨A2, c2, rfl, hN⟩
  have b2 := below_then b1 hN.below
  have r2 := r1.below hN.below
  clear hN r1 b1
  go_wp2_with fail
  refine (H3.out _ _ _ r2).mono ?_
  rintro e w3 ⟨rfl, hN⟩
  have b3 := below_then b2 hN
  have r3 := r2.below hN
  clear hN r2 b2
  go_wp2_with fail
  refine (H4.out _ _ _ r3).mono ?_
  rintro e w4 ⟨A4, c4, rfl, hN⟩
  have b4 := below_then b3 hN.below
  clear hN r3 b3
  go_wp2_with fail
  refine (H5.out _).mono ?_
  rintro e w5 ⟨rfl, rfl⟩
  go_wp2_with fail
  go_ret
  exact ⟨rfl, b4⟩
end Go.Proofs.Ytgcpmdodhnmneab
