import Derived.Test.YtpmcdooplnmjnaaDisk14
import Derived.Test.YtpmcdooplnmjnaaPool
/- The small functions of layer 6's statements. -/
set_option linter.unusedVariables false
set_option linter.unusedSimpArgs false
namespace Go.Proofs.Ytpmcdooplnmjnaa
open Go.RowKit Go.Tm
set_option maxHeartbeats 400000
set_option maxRecDepth 100000
attribute [local go_sem ↓] Go.wp_at_zero Go.wp_at_succ

theorem same_any {w : World} {A B : Option Addr} {n m c d : Nat} {l k : List UInt8} (ha : Rda w A c l) (hb : Rda w B d k) (hn : n = l.length) (hm : m = k.length) :
    Calls Try.prog 19 #[.slice A n c, .slice B m d] w fun e w' => e = .returned (.bool (decide (l = k))) ∧ w = w' := by
  subst hn hm
  have h1 := fun dst hd => run_conv_rd (P := Try.prog) w tU8 ha _ rfl dst hd
  have h2 := fun dst hd => run_conv_rd (P := Try.prog) w tU8 hb _ rfl dst hd
  go_enter Try.func19, Try.ntmps19
  go_wp2
  go_ret
  exact ⟨rfl, rfl⟩

theorem same_yes {w : World} {A B : Option Addr} {n m c d : Nat} {l k : List UInt8} (ha : Rda w A c l) (hb : Rda w B d k) (hn : n = l.length) (hm : m = k.length) (he : l = k) :
    Calls Try.prog 19 #[.slice A n c, .slice B m d] w fun e w' => e = .returned (.bool true) ∧ w = w' := by
  have := same_any ha hb hn hm
  rwa [decide_eq_true he] at this

theorem mod_any {w : World} (n : Int) (m : Nat) (h0 : -9223372036854775808 ≤ n) (h1 : n ≤ 9223372036854775807) (hm : 0 < m) (hm2 : m ≤ 4611686018427387904) {mm : Int} (hmm : mm = (m : Int)) :
    Calls Try.prog 10 #[.int .i64 n, .int .i64 mm] w fun e w' => e = .returned (.int .i64 (restI n m : Nat)) ∧ w = w' := by
  subst hmm
  have hm0 : (m : Int) ≠ 0 := by omega
  have hb : ((m : Int) == 0) = false := beq_eq_false_iff_ne.2 hm0
  have hz : ¬ (m : Int) = 0 := hm0
  have g0 := Int.emod_nonneg n hm0
  have g1 := Int.emod_lt_of_pos n (show (0 : Int) < m by omega)
  have e0 : n.tmod (m : Int) = n % (m : Int) ∧ 0 ≤ n.tmod (m : Int) ∨ n.tmod (m : Int) = n % (m : Int) - (m : Int) := by
    rw [Int.tmod_eq_emod]
    split
    · exact .inl ⟨by omega, by omega⟩
    · exact .inr (by omega)
  have hR : ((restI n m : Nat) : Int) = n % (m : Int) := by unfold restI; omega
  obtain ⟨t, ht⟩ : ∃ t, n.tmod (m : Int) = t := ⟨_, rfl⟩
  obtain ⟨r, hr⟩ : ∃ r, restI n m = r := ⟨_, rfl⟩
  rw [ht] at e0
  rw [hr] at hR ⊢
  have HT := Lib.hid ht
  rcases e0 with ⟨e0, e1⟩ | e0
  · have h2 : ¬ t < 0 := by omega
    have h3 : t = (r : Int) := by omega
    have HE := Lib.hid h3
    clear g0 g1 hR e0 h3
    go_enter Try.func10, Try.ntmps10
    go_wp2_with fail
    go_ret
    exact ⟨ret_int HE.out, rfl⟩
  · by_cases h2 : t < 0
    · have h3 : t + (m : Int) = (r : Int) := by omega
      have hw : IntKind.i64.wrap (t + (m : Int)) = t + (m : Int) := IntWalk.i64_in _ (by omega)
      have HE := Lib.hid h3
      have b1 : -(m : Int) ≤ t := by omega
      clear g0 g1 hR e0 h3
      go_enter Try.func10, Try.ntmps10
      go_wp2_with fail
      go_ret
      have hw2 : wrap64 (t + (m : Int)) = t + (m : Int) := (IntWalk.i64_left _).symm.trans hw
      first | exact ⟨ret_int HE.out, rfl⟩ | exact ⟨ret_int (by rw [hw2]; exact HE.out), rfl⟩
    · exact absurd e0 (by omega)

theorem row_any {w : World} (n : Nat) (hn : n ≤ 140737488351232) (x : UInt8) {nn xx : Int} (hnn : nn = (n : Int)) (hxx : xx = (x.toNat : Int)) :
    Calls Try.prog 12 #[.int .i64 nn, .int .u8 xx] w fun e w' => ∃ g, e = .returned (.slice (some ⟨g, 0, none⟩) n n) ∧ New 5 w w' (some ⟨g, 0, none⟩) n (repB n x) := by
  subst hnn hxx
  go_enter Try.func12, Try.ntmps12
  go_wp2_with (with_reducible refine wpList_make8 rfl _ _ rfl tU8 n rfl rfl rfl rfl (by omega) ?_)
  intro w1 hW hb1
  obtain ⟨SZ, hSZ⟩ : ∃ SZ, w.heap.size = SZ := ⟨_, rfl⟩
  rw [hSZ] at hW ⊢
  have HSZ := Lib.hid hSZ
  clear hSZ
  have hW0 : Whole8 w1 SZ 5 (repB 0 x ++ zeroL (n - 0)) := by rw [repB_zero]; exact hW
  clear hW
  go_wp2_with fail
  go_loopw [6] (fun i wr => ∃ k : Nat, k ≤ n ∧ i = .int .i64 k ∧ Whole8 wr SZ 5 (repB k x ++ zeroL (n - k)) ∧ Below w.heap.size w wr) (fun i _ => n - (intOf i).toNat)
  case atStart => exact ⟨0, by omega, rfl, hW0, hb1⟩
  case round =>
    obtain ⟨k, hk, rfl, hW, hb⟩ := hrel
    by_cases hkt : k < n
    · have m0 : (0 : Int) ≤ (k : Int) := by omega
      have m1 : (k : Int) < (n : Int) := by omega
      have hlen : (repB k x ++ zeroL (n - k)).length = n := by rw [List.length_append, repB_length, zeroL_length]; omega
      have hc := hW.cell k (by omega)
      have hf := hW.free k
      have hst := hW.stored k x
      have hb2 := hb.grown (cell_grown wr SZ k (.int .u8 (x.toNat : Int))) hb.size (fun q hq => by injection hq with hq; have := HSZ.out; omega)
      have he : (repB k x ++ zeroL (n - k)).set k x = repB (k + 1) x ++ zeroL (n - (k + 1)) := by
        have h1 : n - k = (n - (k + 1)) + 1 := by omega
        rw [h1, repB_succ, List.set_append, if_neg (by rw [repB_length]; omega), repB_length, Nat.sub_self]
        simp [zeroL, List.replicate_succ]
      rw [he] at hst
      have HST := Lib.hid hst
      have HB := Lib.hid hb2
      clear hst he hW hb hlen hb2
      go_wp2_with fail
      go_roundw
      case rel => exact ⟨k + 1, by omega, by go_num, HST.out, HB.out⟩
      case measure => simp [intOf]; omega
    · have he : k = n := by omega
      subst he
      have hW2 : Whole8 wr SZ 5 (repB k x) := by simpa [zeroL] using hW
      have hO := hW2.own (base := w.heap.size) (by rw [HSZ.out]; exact Nat.le_refl _) (by rw [repB_length]; omega)
      rw [repB_length] at hO
      have HN : Hid (New 5 w wr (some ⟨SZ, 0, none⟩) k (repB k x)) := Lib.hid ⟨by rw [repB_length]; exact hO, hb⟩
      clear hW hW2 hO hb
      go_wp2_with fail
      go_ret
      exact ⟨SZ, rfl, HN.out⟩
end Go.Proofs.Ytpmcdooplnmjnaa
