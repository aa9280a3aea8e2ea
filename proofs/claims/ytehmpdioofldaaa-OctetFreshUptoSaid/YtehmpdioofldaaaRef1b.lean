import Derived.Test.YtehmpdioofldaaaRef1
import Derived.Test.YtehmpdioofldaaaOctRd
import Derived.Test.YtehmpdioofldaaaOctJn
import Derived.Deep.QuietTactic
import Derived.BigQuiet
import Derived.StillTailTactics
/- The contracts of the document's reader (package tidemarkref01). -/
set_option linter.unusedVariables false
set_option linter.unusedSimpArgs false
namespace Go.Proofs.Ytehmpdioofldaaa
open Go.RowKit Go.Tm
set_option maxHeartbeats 400000
set_option maxRecDepth 100000

theorem refNewReader_any {w : World} {A : Option Addr} {n c : Nat} {l : List UInt8} (h : Rda w A c l) (hn : n = l.length) (hl : l.length ≤ 140737488355328) :
    Calls Try.prog 10 #[.slice A n c] w fun e w' => ∃ r, e = .returned (.pointer (some ⟨r, 0, none⟩)) ∧ w.heap.size ≤ r ∧ IsRR w' r 59 l ∧ Below w.heap.size w w' := by
  subst hn
  have hnil := Own8.nilRow w w.heap.size 5
  go_enter Try.func10, Try.ntmps10
  go_wp2_with (at_builtin; refine wpList_app (l := []) (m := l) _ rfl _ _ rfl tU8 rfl hnil rfl rfl h (by simp; omega) (by omega) ?_)
  intro v1 w1 hown1 hg1
  have hb1 : Below w.heap.size w w1 := hnil.grown hg1 (Below.refl _ _) (Nat.le_refl _) (Nat.le_refl _)
  obtain ⟨A1, c1, rfl, hr1⟩ := own_rda hown1
  clear hnil
  go_wp2
  go_ret
  exact ⟨w1.heap.size, rfl, hb1.size, ⟨A1, c1, l, 0, heap_alloc_new w1 _, hr1.alloc _, by omega, by omega, by simp⟩, hb1.alloc hb1.size _⟩

theorem refLeft_any {w : World} {r : Nat} {l : List UInt8} (h : IsRR w r 59 l) :
    Calls Try.prog 13 #[.pointer (some ⟨r, 0, none⟩)] w fun e w' => e = .returned (.int .i64 (l.length : Nat)) ∧ Below w.heap.size w w' := by
  obtain ⟨A, c, full, k, hb, hA, hk, hfl, rfl⟩ := h.is
  have hc0 := pair_cell0 hb
  have hc1 := pair_cell1 hb
  have he : ((full.drop k).length : Int) = (full.length : Int) - (k : Int) := by simp; omega
  rw [he]
  clear he
  go_enter Try.func13, Try.ntmps13
  go_wp2
  go_quiet (fail)
  go_wp2
  go_ret
  exact ⟨rfl, drewN_below _ _⟩

theorem refEnd_any {w : World} {r : Nat} {l : List UInt8} (h : IsRR w r 59 l) :
    Calls Try.prog 27 #[.pointer (some ⟨r, 0, none⟩)] w fun e w' => e = .returned (.int .i64 (endE l)) ∧ Below w.heap.size w w' := by
  obtain ⟨A, c, full, k, hb, hA, hk, hfl, rfl⟩ := h.is
  have hc0 := pair_cell0 hb
  have hc1 := pair_cell1 hb
  by_cases hl : full.drop k = []
  · have he : endE (full.drop k) = 0 := if_pos hl
    rw [he]
    have hz : decide (k < full.length) = false := by have := List.drop_eq_nil_iff.1 hl; simp; omega
    clear he hl
    go_enter Try.func27, Try.ntmps27
    go_wp2
    go_quiet (fail)
    go_wp2
    go_ret
    exact ⟨rfl, drewN_below _ _⟩
  · have he : endE (full.drop k) = 11 := if_neg hl
    rw [he]
    have hz : k < full.length := by
      rcases Nat.lt_or_ge k full.length with h | h
      · omega
      · exact absurd (List.drop_eq_nil_iff.2 h) hl
    clear he hl
    go_enter Try.func27, Try.ntmps27
    go_wp2
    go_quiet (fail)
    go_wp2
    go_ret
    exact ⟨rfl, drewN_below _ _⟩

theorem refRow_any {w : World} {r : Nat} {l : List UInt8} (h : IsRR w r 59 l) (n : Int) (hn : n ≤ 9223372036854775807) :
    Calls Try.prog 25 #[.pointer (some ⟨r, 0, none⟩), .int .i64 n] w fun e w' => ∃ A' c', e = .returned (.tuple #[.slice A' (rowV n l).length c', .int .i64 (rowE n l)]) ∧ NewR 5 r w w' A' c' (rowV n l) ∧ IsRR w' r 59 (rowL n l) := by
  have hh := h
  obtain ⟨A, c, full, k, hb, hA, hk, hfl, hl⟩ := h.is
  have hc0 := pair_cell0 hb
  have hc1 := pair_cell1 hb
  have hcap := hA.cap
  have hmax := hA.max
  have hfz := pair_free hb 1
  unfold maxLen at hmax
  have hll : (l.length : Int) = (full.length : Int) - (k : Int) := by rw [hl]; simp; omega
  by_cases h0 : n < 0
  · have e1 : rowE n l = 30 := if_pos h0
    have e2 : rowV n l = [] := if_neg (by rw [e1]; decide)
    have e3 : rowL n l = l := if_neg (by rw [e1]; decide)
    rw [e1, e2, e3]
    clear e1 e2 e3 hl hll
    go_enter Try.func25, Try.ntmps25
    go_wp2
    go_ret2
    exact ⟨none, 0, rfl, ⟨Own8.nilRow _ _ _, grown_refl _ _⟩, hh⟩
  · by_cases h1 : (l.length : Int) < n
    · have e1 : rowE n l = 10 := by unfold rowE; rw [if_neg h0, if_pos h1]
      have e2 : rowV n l = [] := if_neg (by rw [e1]; decide)
      have e3 : rowL n l = l := if_neg (by rw [e1]; decide)
      rw [e1, e2, e3]
      have h1' : (full.length : Int) - (k : Int) < n := by omega
      clear e1 e2 e3 hl hll h1
      go_enter Try.func25, Try.ntmps25
      go_wp2
      go_quiet (fail)
      go_wp2
      go_ret2
      exact ⟨none, 0, rfl, ⟨Own8.nilRow _ _ _, below_grown (drewN_below _ _) _⟩, hh.below (drewN_below _ _)⟩
    · have e1 : rowE n l = 0 := by unfold rowE; rw [if_neg h0, if_neg h1]
      have e2 : rowV n l = l.take n.toNat := if_pos e1
      have e3 : rowL n l = l.drop n.toNat := if_pos e1
      rw [e1, e2, e3]
      obtain ⟨m, rfl⟩ := Int.eq_ofNat_of_zero_le (show 0 ≤ n by omega)
      rw [Int.toNat_natCast]
      have hm : m ≤ l.length := by omega
      have hkm : k + m ≤ full.length := by omega
      have hl1 := Lib.hid hl
      have h1' : (m : Int) ≤ (full.length : Int) - (k : Int) := by omega
      clear e1 e2 e3 hl hll h1
      have hcap' : (full.length : Int) ≤ (c : Int) := by omega
      go_enter Try.func25, Try.ntmps25
      go_wp2
      go_quiet (fail)
      go_wp2
      have s1 : IntKind.i64.wrap ((k : Int) + (m : Int)) = (k : Int) + (m : Int) := i64_id _ (by omega) (by omega)
      have s2 : ((k : Int) + (m : Int)).toNat = k + m := by omega
      have s3 : 0 ≤ (k : Int) + (m : Int) := by omega
      have s4 : (k : Int) ≤ (k : Int) + (m : Int) := by omega
      have s5 : (k : Int) + (m : Int) ≤ (c : Int) := by omega
      refine region_tail 16 (by kernel_rfl) (by kernel_rfl) ?_
      simp only [List.take_succ_cons, List.take_zero, List.drop_succ_cons, List.drop_zero]
      repeat still_step
      refine wpStill_nil ?_
      have hD := below_drew1 (drewN_below w nq)
      generalize (w.drewN nq).drew = W at hD ⊢
      clear s1 s2 s3 s4 s5
      have hbW := (hD.block r hh.lt).trans hb
      have hW0 := pair_cell0 hbW
      have hW1 := pair_cell1 hbW
      have hWf := pair_free hbW 1
      have hAW := hA.below hD
      have hpW := hAW.pieceAt k (k + m) c (by omega) hkm (by omega) (by omega)
      have he : (full.take (k + m)).drop k = l.take m := by rw [hl1.out, List.drop_take, Nat.add_sub_cancel_left]
      rw [he] at hpW
      have hlen : (l.take m).length = m := by simp; omega
      have hnil := Own8.nilRow W W.heap.size 5
      have HE := Lib.hid he
      have HL := Lib.hid hlen
      clear he hlen
      go_wp2_with (at_builtin; refine wpList_app (l := []) (m := l.take m) _ rfl _ _ rfl tU8 rfl hnil rfl HL.out.symm hpW ?c1 ?c2 ?_)
      case c1 => rw [HL.out]; simp; omega
      case c2 => exact Nat.le_refl _
      intro v1 w1 hown1 hg1
      have hb1 : Below W.heap.size W w1 := hnil.grown hg1 (Below.refl _ _) (Nat.le_refl _) (Nat.le_refl _)
      obtain ⟨A1, c1, rfl, hr1⟩ := own_rda hown1
      have hbX := (hb1.block r (Array.getElem?_eq_some_iff.1 hbW).1).trans hbW
      have hX1 := pair_cell1 hbX
      have hXf := pair_free hbX 1
      have hAX := hAW.below hb1
      clear hW0 hW1 hWf hpW hnil
      go_wp2
      go_ret2
      have hx := HL.out
      refine ⟨A1, c1, by rw [HL.out]; rfl, ⟨(hown1.mono hD.size).keptBy (cell_grown w1 r 1 _) ?_, grown_trans (below_grown (below_then hD hb1) _) (cell_grown w1 r 1 _)⟩, ⟨A, c, full, k + m, ?_, hAX.apart2 hbX _, hkm, hfl, by rw [hl1.out, List.drop_drop]⟩⟩
      · intro q hq e
        have := (World.ownsRow.lt hown1 q hq).1
        have := hh.lt
        have := hD.size
        simp at e
        omega
      · rw [pair_store1 hbX]
        simp

theorem refNumber_any {w : World} {r : Nat} {l : List UInt8} (h : IsRR w r 59 l) (n : Int) :
    Calls Try.prog 22 #[.pointer (some ⟨r, 0, none⟩), .int .i64 n] w fun e w' => e = .returned (.tuple #[.int .u64 (numV n l : Nat), .int .i64 (numE n l)]) ∧ w.grownBy w' (some r) ∧ IsRR w' r 59 (numL n l) := by
  have hh := h
  obtain ⟨A, c, full, k, hb, hA, hk, hfl, hl⟩ := h.is
  have hc0 := pair_cell0 hb
  have hc1 := pair_cell1 hb
  have hcap := hA.cap
  have hmax := hA.max
  have hfz := pair_free hb 1
  unfold maxLen at hmax
  have hll : l.length = full.length - k := by rw [hl]; simp
  by_cases hw : isW n = true
  · have hn : n = 1 ∨ n = 2 ∨ n = 4 ∨ n = 8 := by simpa [isW, or_assoc] using hw
    obtain ⟨K, rfl, hK, hK1⟩ : ∃ K : Nat, n = (K : Int) ∧ K ≤ 8 ∧ 1 ≤ K := ⟨n.toNat, by omega, by omega, by omega⟩
    have e1 : numE (K : Int) l = getE K l := by
      unfold numE rowE getE
      rw [if_pos hw, if_neg (by omega)]
      by_cases h1 : l.length < K
      · rw [if_pos (by omega), if_pos h1]
      · rw [if_neg (by omega), if_neg h1]
    have hpiece := hA.drop k hk
    have hG : ∀ q, Calls Try.prog 33 #[.slice (pieceAt A k c) (full.length - k) (c - k), .int .i64 (K : Int)] (w.drewN q) fun e w' => e = .returned (.tuple #[.int .u64 (getV K l : Nat), .int .i64 (getE K l)]) ∧ w' = w.drewN q := fun q => by
      have := refGet_any (hpiece.below (drewN_below w q)) (n := full.length - k) (by simp) K hK rfl
      rw [← hl] at this
      exact this.mono fun e w' ⟨h1, h2⟩ => ⟨h1, h2.symm⟩
    have HG := Lib.hid hG
    clear hG
    have hk' : (k : Int) ≤ (full.length : Int) := by omega
    by_cases h1 : l.length < K
    · have g1 : getV K l = 0 := if_pos h1
      have g2 : getE K l = 10 := if_pos h1
      have e2 : numV (K : Int) l = 0 := if_neg (by rw [e1, g2]; decide)
      have e3 : numL (K : Int) l = l := if_neg (by rw [e1, g2]; decide)
      rw [e1, e2, e3, g2]
      have HG2 := HG.out
      rw [g1, g2] at HG2
      have HG3 := Lib.hid HG2
      clear e1 e2 e3 g1 g2 HG2 HG hw hll hl
      rcases hn with hn | hn | hn | hn
      all_goals
        obtain rfl : K = _ := Int.ofNat.inj hn
        clear hn
        go_enter Try.func22, Try.ntmps22
        go_wp2_with fail
        go_quiet ((go_at_call 33; exact Calls.quiet_of_same (HG3.out _)))
        go_wp2
        go_ret2
        exact ⟨rfl, below_grown (drewN_below _ _) _, hh.below (drewN_below _ _)⟩
    · have g1 : getV K l = leN (l.take K) := if_neg h1
      have g2 : getE K l = 0 := if_neg h1
      have e2 : numV (K : Int) l = leN (l.take K) := by unfold numV; rw [e1, g2, if_pos rfl, Int.toNat_natCast]
      have e3 : numL (K : Int) l = l.drop K := by unfold numL; rw [e1, g2, if_pos rfl, Int.toNat_natCast]
      rw [e1, e2, e3, g2]
      have HG2 := HG.out
      rw [g1, g2] at HG2
      have HG3 := Lib.hid HG2
      have hl1 := Lib.hid hl
      have hkK : k + K ≤ full.length := by omega
      clear e1 e2 e3 g1 g2 HG2 HG hw hll hl h1
      rcases hn with hn | hn | hn | hn
      all_goals
        obtain rfl : K = _ := Int.ofNat.inj hn
        clear hn
        go_enter Try.func22, Try.ntmps22
        go_wp2_with fail
        go_quiet ((go_at_call 33; exact Calls.quiet_of_same (HG3.out _)))
        go_wp2
        go_ret2
        have hbq := ((drewN_below w nq).block r hh.lt).trans hb
        refine ⟨rfl, grown_trans (below_grown (drewN_below _ _) _) (cell_grown _ r 1 _), ⟨A, c, full, _, pair_store1 hbq _, (hA.below (drewN_below w nq)).apart2 hbq _, hkK, hfl, by rw [hl1.out, List.drop_drop]⟩⟩
  · have e1 : numE n l = 30 := if_neg hw
    have e2 : numL n l = l := if_neg (by rw [e1]; decide)
    have e3 : numV n l = 0 := if_neg (by rw [e1]; decide)
    rw [e1, e2, e3]
    clear e1 e2 e3
    have hn : n ≠ 1 ∧ n ≠ 2 ∧ n ≠ 4 ∧ n ≠ 8 := by simpa [isW, and_assoc] using hw
    obtain ⟨h1, h2, h4, h8⟩ := hn
    have b1 : (n == 1) = false := by simpa using h1
    have b2 : (n == 2) = false := by simpa using h2
    have b4 : (n == 4) = false := by simpa using h4
    have b8 : (n == 8) = false := by simpa using h8
    have c1 : (n != 1) = true := by simpa using h1
    have c2 : (n != 2) = true := by simpa using h2
    have c4 : (n != 4) = true := by simpa using h4
    have c8 : (n != 8) = true := by simpa using h8
    clear hw h1 h2 h4 h8 hll hl
    go_enter Try.func22, Try.ntmps22
    go_wp2_with fail
    go_ret2
    exact ⟨rfl, grown_refl _ _, hh⟩

theorem refInt_any {w : World} {r : Nat} {l : List UInt8} (h : IsRR w r 59 l) :
    Calls Try.prog 24 #[.pointer (some ⟨r, 0, none⟩)] w fun e w' => e = .returned (.tuple #[.int .i64 (intV l : Nat), .int .i64 (intE l)]) ∧ w.grownBy w' (some r) ∧ IsRR w' r 59 (intL l) := by
  have hh := h
  obtain ⟨A, c, full, k, hb, hA, hk, hfl, hl⟩ := h.is
  have hc0 := pair_cell0 hb
  have hc1 := pair_cell1 hb
  have hcap := hA.cap
  have hmax := hA.max
  have hfz := pair_free hb 1
  unfold maxLen at hmax
  have hll : l.length = full.length - k := by rw [hl]; simp
  have hpiece := hA.drop k hk
  have hG : ∀ q, Calls Try.prog 33 #[.slice (pieceAt A k c) (full.length - k) (c - k), .int .i64 ((8 : Nat) : Int)] (w.drewN q) fun e w' => e = .returned (.tuple #[.int .u64 (getV 8 l : Nat), .int .i64 (getE 8 l)]) ∧ w' = w.drewN q := fun q => by
    have := refGet_any (hpiece.below (drewN_below w q)) (n := full.length - k) (by simp) 8 (by omega) rfl
    rw [← hl] at this
    exact this.mono fun e w' ⟨h1, h2⟩ => ⟨h1, h2.symm⟩
  have hk' : (k : Int) ≤ (full.length : Int) := by omega
  by_cases hlt : l.length < 8
  · have e1 : intE l = 10 := if_pos hlt
    have e2 : intV l = 0 := if_neg (by rw [e1]; decide)
    have e3 : intL l = l := if_neg (by rw [e1]; decide)
    have g1 : getV 8 l = 0 := if_pos hlt
    have g2 : getE 8 l = 10 := if_pos hlt
    rw [e1, e2, e3]
    rw [g1, g2] at hG
    have HG := Lib.hid hG
    clear e1 e2 e3 g1 g2 hG hl hll hpiece
    go_enter Try.func24, Try.ntmps24
    go_wp2_with fail
    go_quiet ((go_at_call 33; exact Calls.quiet_of_same (HG.out _)))
    go_wp2
    go_ret2
    exact ⟨rfl, below_grown (drewN_below _ _) _, hh.below (drewN_below _ _)⟩
  · have g1 : getV 8 l = leN (l.take 8) := if_neg hlt
    have g2 : getE 8 l = 0 := if_neg hlt
    obtain ⟨V, hV⟩ : ∃ V, leN (l.take 8) = V := ⟨_, rfl⟩
    have hVb := getV_lt 8 l
    rw [g1, hV] at hVb
    rw [g1, g2, hV] at hG
    have HG := Lib.hid hG
    have hl1 := Lib.hid hl
    clear g1 g2 hG
    by_cases hbig : 1152921504606846976 < V
    · have e1 : intE l = 30 := by unfold intE; rw [if_neg hlt, hV, if_pos hbig]
      have e2 : intV l = 0 := if_neg (by rw [e1]; decide)
      have e3 : intL l = l := if_neg (by rw [e1]; decide)
      rw [e1, e2, e3]
      clear e1 e2 e3 hV hl hll hpiece
      have hbig' : (1152921504606846976 : Int) < (V : Int) := by omega
      go_enter Try.func24, Try.ntmps24
      go_wp2_with fail
      go_quiet ((go_at_call 33; exact Calls.quiet_of_same (HG.out _)))
      go_wp2
      go_ret2
      exact ⟨rfl, below_grown (drewN_below _ _) _, hh.below (drewN_below _ _)⟩
    · have e1 : intE l = 0 := by unfold intE; rw [if_neg hlt, hV, if_neg hbig]
      have e2 : intV l = V := by rw [← hV]; exact if_pos e1
      have e3 : intL l = l.drop 8 := if_pos e1
      rw [e1, e2, e3]
      have hkK : k + 8 ≤ full.length := by omega
      clear e1 e2 e3 hV hl hll hpiece
      have hbig' : (V : Int) ≤ (1152921504606846976 : Int) := by omega
      go_enter Try.func24, Try.ntmps24
      go_wp2_with fail
      go_quiet ((go_at_call 33; exact Calls.quiet_of_same (HG.out _)))
      go_wp2
      go_ret2
      have hbq := ((drewN_below w nq).block r hh.lt).trans hb
      exact ⟨rfl, grown_trans (below_grown (drewN_below _ _) _) (cell_grown _ r 1 _), ⟨A, c, full, _, pair_store1 hbq _, (hA.below (drewN_below w nq)).apart2 hbq _, hkK, hfl, by rw [hl1.out, List.drop_drop]⟩⟩
end Go.Proofs.Ytehmpdioofldaaa
