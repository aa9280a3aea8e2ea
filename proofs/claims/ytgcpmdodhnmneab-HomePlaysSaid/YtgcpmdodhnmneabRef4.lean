import Derived.Test.YtgcpmdodhnmneabPage2
import Derived.Test.YtgcpmdodhnmneabRef1
import Derived.Test.YtgcpmdodhnmneabMem
import Derived.Test.YtgcpmdodhnmneabStore
/- The contracts of the document's answer for layer 4 (package tidemarkref04). -/
set_option linter.unusedVariables false
set_option linter.unusedSimpArgs false
namespace Go.Proofs.Ytgcpmdodhnmneab
open Go.RowKit Go.Tm
set_option maxHeartbeats 400000
set_option maxRecDepth 100000

theorem refBytes_any (s : Int) (w : World) : Calls Try.prog 42 #[.int .i64 s] w fun e w' => e = .returned (.int .i64 (bytesP s)) ∧ w = w' := by
  by_cases h1 : s < 1
  · rw [bytesP_no s (.inl h1)]
    go_enter Try.func42, Try.ntmps42
    go_wp2_with fail
    go_ret
    exact ⟨rfl, rfl⟩
  · by_cases h2 : 8 < s
    · rw [bytesP_no s (.inr h2)]
      go_enter Try.func42, Try.ntmps42
      go_wp2_with fail
      go_ret
      exact ⟨rfl, rfl⟩
    · have h3 : 1 ≤ s := by omega
      have h4 : s ≤ 8 := by omega
      rw [bytesP_ok s h3 h4]
      clear h1 h2
      go_enter Try.func42, Try.ntmps42
      go_wp2_with fail
      go_ret
      exact ⟨rfl, rfl⟩

theorem refSlots_any (A : Option Addr) (n c : Nat) (hn : n ≤ 140737488355328) (w : World) : Calls Try.prog 28 #[.slice A n c] w fun e w' => e = .returned (.int .i64 (slotsP n : Nat)) ∧ w = w' := by
  go_enter Try.func28, Try.ntmps28
  go_wp2_with fail
  go_loop [3] (fun i => ∃ k : Nat, 1 ≤ k ∧ k ≤ 9 ∧ i = .int .i64 k ∧ Box (∀ j, 1 ≤ j → j < k → n ≠ 24 + 16 * j)) (fun i => 9 - (intOf i).toNat)
  case atStart => exact ⟨1, by omega, by omega, rfl, ⟨fun j h1 h2 => by omega⟩⟩
  case round =>
    obtain ⟨k, hk1, hk9, rfl, hz⟩ := hrel
    by_cases hkt : k < 9
    · have P := refBytes_any (k : Int) w
      rw [bytesP_ok _ (by omega) (by omega)] at P
      have HP := Lib.hid P
      clear P
      by_cases he : n = 24 + 16 * k
      · have hs : slotsP n = k := by rw [he]; exact slotsP_of k hk1 (by omega)
        have HS := Lib.hid hs
        have hb : (24 + 16 * (k : Int) == (n : Int)) = true := by rw [beq_iff_eq]; omega
        clear hs he hz
        go_wp2_with fail
        refine HP.out.mono ?_
        rintro e w1 ⟨rfl, rfl⟩
        go_wp2_with fail
        go_ret
        exact ⟨by rw [HS.out]; rfl, rfl⟩
      · have hb : (24 + 16 * (k : Int) == (n : Int)) = false := by rw [beq_eq_false_iff_ne]; omega
        have hz2 : Box (∀ j, 1 ≤ j → j < k + 1 → n ≠ 24 + 16 * j) := ⟨fun j h1 h2 => by
          by_cases hjk : j < k
          · exact hz.out j h1 hjk
          · rw [show j = k by omega]; exact he⟩
        clear he hz
        go_wp2_with fail
        refine HP.out.mono ?_
        rintro e w1 ⟨rfl, rfl⟩
        go_wp2_with fail
        go_round
        case rel => exact ⟨k + 1, by omega, by omega, by go_num, hz2⟩
        case measure => simp [intOf]; omega
    · have he : k = 9 := by omega
      subst he
      have hs : slotsP n = 0 := by
        by_cases hp : 0 < slotsP n
        · exact absurd (slotsP_len hp) (hz.out _ hp (by have := slotsP_le n; omega))
        · omega
      have HS := Lib.hid hs
      clear hs hz
      go_wp2_with fail
      go_ret
      exact ⟨by rw [HS.out]; rfl, rfl⟩

theorem layL_nil (b : List UInt8) (k : Nat) : layL b k [] = b := by simp [layL]
theorem layL_set (b row : List UInt8) (k i : Nat) (hk : k + row.length ≤ b.length) (hi : i < row.length) : (layL b k (row.take i)).set (k + i) (row.getD i 0) = layL b k (row.take (i + 1)) := by
  unfold layL
  have h1 : (b.take k).length = k := by simp; omega
  have h2 : (row.take i).length = i := by simp; omega
  have h3 : (row.take (i + 1)).length = i + 1 := by simp; omega
  rw [List.set_append_right _ _ (by omega), h1, h2, h3, Nat.add_sub_cancel_left, List.set_append_right _ _ (by omega), h2, Nat.sub_self,
    List.drop_eq_getElem_cons (by omega), List.set_cons_zero, List.take_succ_eq_append_getElem hi, List.append_assoc, show row.getD i 0 = row[i] by simp [List.getD, hi]]
  rfl

theorem refLaid_any {w : World} {A B : Option Addr} {n c m d : Nat} {b r : List UInt8} (h : Rda w A c b) (h2 : Rda w B d r) (hn : n = b.length) (hm : m = r.length) (hl : b.length ≤ 140737488351232) (k : Nat) (hk : k + r.length ≤ b.length) (hb0 : 0 < b.length) :
    Calls Try.prog 52 #[.slice A n c, .int .i64 k, .slice B m d] w fun e w' => ∃ A' c', e = .returned (.slice A' b.length c') ∧ New 5 w w' A' c' (layL b k r) := by
  subst hn hm
  have hnil := Own8.nilRow w w.heap.size 5
  go_enter Try.func52, Try.ntmps52
  go_wp2_with (at_builtin; refine wpList_app2 (l := []) (m := b) rfl _ _ rfl tU8 rfl hnil rfl rfl h (by simp; omega) (Nat.le_refl _) ?_)
  intro v2 w2 o2 hw2
  try rw [List.nil_append] at o2
  have bb2 : Below w.heap.size w w2 := grown_below hw2.grown (Nat.le_refl _) (fun k hk => by simp [Value.ownBlock] at hk)
  obtain ⟨A', c', rfl, _⟩ := own_rda o2
  obtain ⟨g, rfl, hg⟩ := o2.block hb0
  clear hw2 hnil
  have o3 : Own8 w2 w.heap.size 5 (.slice (some ⟨g, 0, none⟩) b.length c') (layL b k (r.take 0)) := by rw [List.take_zero, layL_nil]; exact o2
  go_wp2_with fail
  go_loopw [8] (fun i wr => ∃ j : Nat, j ≤ r.length ∧ i = .int .i64 j ∧ Own8 wr w.heap.size 5 (.slice (some ⟨g, 0, none⟩) b.length c') (layL b k (r.take j)) ∧ Below w.heap.size w wr) (fun i _ => r.length - (intOf i).toNat)
  case atStart => exact ⟨0, by omega, rfl, o3, bb2⟩
  case round =>
    obtain ⟨j, hj, rfl, ho, hb⟩ := hrel
    have hll := layL_length b k (r.take j) (by rw [List.length_take]; omega)
    by_cases hjt : j < r.length
    · have hr := h2.below hb
      obtain ⟨g2, o2', rfl, hc⟩ := hr.cells (by omega)
      have hcj := hc j hjt
      have hfz := ho.unfrozen hll.symm (k + j)
      have hcell := ho.cellAt hll.symm (k + j) (by omega)
      obtain ⟨st1, st2⟩ := ho.stored hll.symm (k + j) (r.getD j 0)
      rw [layL_set b r k j hk hjt] at st1
      have hb2 := hb.grown st2 hb.size (fun q hq => by injection hq with hq; omega)
      obtain ⟨x, hx⟩ : ∃ x, r.getD j 0 = x := ⟨_, rfl⟩
      obtain ⟨y, hy⟩ : ∃ y : Int, (((layL b k (r.take j)).getD (k + j) 0).toNat : Int) = y := ⟨_, rfl⟩
      rw [hx] at hcj st1 st2 hb2
      rw [hy] at hcell
      have hkj : k + j < b.length := by omega
      clear hc ho hll hx hy st2 hr o3 o2
      go_wp2_with fail
      go_roundw
      case rel => exact ⟨j + 1, by omega, by go_num, st1, hb2⟩
      case measure => simp [intOf]; omega
    · have he : j = r.length := by omega
      subst he
      rw [List.take_length] at ho hll
      have HLL := Lib.hid hll
      clear hll o3 o2
      go_wp2_with fail
      go_ret
      exact ⟨_, _, rfl, ⟨by rw [HLL.out]; exact ho, hb⟩⟩

end Go.Proofs.Ytgcpmdodhnmneab
