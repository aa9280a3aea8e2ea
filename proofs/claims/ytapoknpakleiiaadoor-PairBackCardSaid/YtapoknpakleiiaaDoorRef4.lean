import Derived.Test.YtapoknpakleiiaaDoorPage2
import Derived.Test.YtapoknpakleiiaaDoorRef1
import Derived.Test.YtapoknpakleiiaaDoorMem
import Derived.Test.YtapoknpakleiiaaDoorStore
/- The contracts of the document's answer for layer 4 (package tidemarkref04). -/
set_option linter.unusedVariables false
set_option linter.unusedSimpArgs false
namespace Go.Proofs.YtapoknpakleiiaaDoor
open Go.RowKit Go.Tm
set_option maxHeartbeats 400000
set_option maxRecDepth 100000

theorem refSum2_any {w : World} {A : Option Addr} {n c : Nat} {ls : List (List UInt8)} (h : RdRows w A c ls) (hn : n = ls.length) :
    Calls Tryd.prog 96 #[.slice A n c] w fun e w' => e = .returned (.int .u32 (crcM 0 (cat ls) : Nat)) ∧ w = w' := by
  subst hn
  have hcap := h.cap
  have hmax := h.max
  unfold maxLen at hmax
  go_enter Tryd.func96, Tryd.ntmps96
  go_wp2
  go_loop [3, 4] (fun s i => ∃ k : Nat, k ≤ ls.length ∧ i = .int .i64 k ∧ s = .int .u32 (crcM 0 (cat (ls.take k)) : Nat)) (fun _ i => ls.length - (intOf i).toNat)
  case atStart => exact ⟨0, by omega, rfl, by rw [List.take_zero, cat_nil, show crcM 0 [] = 0 by decide]; rfl⟩
  case round =>
    obtain ⟨k, hk, rfl, rfl⟩ := hrel
    by_cases hlt : k < ls.length
    · obtain ⟨b, o, rfl, _⟩ := h.cells (by omega)
      obtain ⟨Aj, cj, hcj, hj⟩ := h.at_ k hlt
      have hst0 := cat_take_succ ls k hlt
      obtain ⟨R, hR⟩ : ∃ R, ls.getD k [] = R := ⟨_, rfl⟩
      rw [hR] at hst0 hcj hj
      have hSb := crcM_lt 0 (cat (ls.take k)) (by omega)
      have hst1 : crcM 0 (cat (ls.take (k + 1))) = crcM (crcM 0 (cat (ls.take k))) R := by rw [hst0, crcM_append _ _ _ (by omega)]
      obtain ⟨S, hS⟩ : ∃ S, crcM 0 (cat (ls.take k)) = S := ⟨_, rfl⟩
      rw [hS] at hst1 hSb ⊢
      have hst := Lib.hid hst1
      clear hst0 hst1 hS hR h
      go_wp2_with fail
      refine (refMore_any hj rfl S hSb rfl).mono ?_
      rintro e w1 ⟨rfl, rfl⟩
      go_wp2_with fail
      go_round
      case rel => exact ⟨k + 1, by omega, by go_num, by rw [hst.out]⟩
      case measure => simp [intOf]; omega
    · have he : k = ls.length := by omega
      subst he
      rw [List.take_length]
      go_wp2
      go_ret
      exact ⟨rfl, rfl⟩

theorem refBytes_any (s : Int) (w : World) : Calls Tryd.prog 79 #[.int .i64 s] w fun e w' => e = .returned (.int .i64 (bytesP s)) ∧ w = w' := by
  by_cases h1 : s < 1
  · rw [bytesP_no s (.inl h1)]
    go_enter Tryd.func79, Tryd.ntmps79
    go_wp2_with fail
    go_ret
    exact ⟨rfl, rfl⟩
  · by_cases h2 : 8 < s
    · rw [bytesP_no s (.inr h2)]
      go_enter Tryd.func79, Tryd.ntmps79
      go_wp2_with fail
      go_ret
      exact ⟨rfl, rfl⟩
    · have h3 : 1 ≤ s := by omega
      have h4 : s ≤ 8 := by omega
      rw [bytesP_ok s h3 h4]
      clear h1 h2
      go_enter Tryd.func79, Tryd.ntmps79
      go_wp2_with fail
      go_ret
      exact ⟨rfl, rfl⟩

theorem refBlank_any {w : World} {A : Option Addr} {n c : Nat} {b : List UInt8} (h : Rda w A c b) (hn : n = b.length) (hl : b.length ≤ 140737488351232) :
    Calls Tryd.prog 80 #[.slice A n c] w fun e w' => e = .returned (.bool (blankB b)) ∧ w = w' := by
  subst hn
  go_enter Tryd.func80, Tryd.ntmps80
  go_wp2_with fail
  go_loop [3] (fun i => ∃ k : Nat, k ≤ b.length ∧ i = .int .i64 k ∧ Box (∀ j, j < k → b.getD j 0 = 0)) (fun i => b.length - (intOf i).toNat)
  case atStart => exact ⟨0, by omega, rfl, ⟨fun j hj => by omega⟩⟩
  case round =>
    obtain ⟨k, hk, rfl, hz⟩ := hrel
    by_cases hkt : k < b.length
    · obtain ⟨g, o, rfl, hc⟩ := h.cells (by omega)
      have hck := hc k hkt
      by_cases h0 : b.getD k 0 = 0
      · have hz2 : Box (∀ j, j < k + 1 → b.getD j 0 = 0) := ⟨fun j hj => by
          by_cases hjk : j < k
          · exact hz.out j hjk
          · rw [show j = k by omega]; exact h0⟩
        rw [h0] at hck
        have hck' : w.cell? ⟨g, o + k, none⟩ = some (.int .u8 0) := hck
        clear hc hck h0 hz
        go_wp2_with fail
        go_round
        case rel => exact ⟨k + 1, by omega, by go_num, hz2⟩
        case measure => simp [intOf]; omega
      · have hb : blankB b = false := by
          rw [Bool.eq_false_iff]
          intro hall
          rw [blankB, List.all_eq_true] at hall
          apply h0
          have := hall (b[k]) (List.getElem_mem hkt)
          simp [List.getD, hkt]
          simpa using this
        have hne : (((b.getD k 0).toNat : Int) != 0) = true := by
          rw [bne_iff_ne]
          intro he
          apply h0
          apply UInt8.toNat_inj.1
          show _ = 0
          omega
        obtain ⟨x, hx⟩ : ∃ x : Int, ((b.getD k 0).toNat : Int) = x := ⟨_, rfl⟩
        rw [hx] at hne hck
        have HB := Lib.hid hb
        clear hc h0 hz hx hb
        go_wp2_with fail
        go_ret
        exact ⟨by rw [HB.out]; rfl, rfl⟩
    · have he : k = b.length := by omega
      subst he
      have hb : blankB b = true := by
        rw [blankB, List.all_eq_true]
        intro x hx
        obtain ⟨j, hj, rfl⟩ := List.mem_iff_getElem.1 hx
        have := hz.out j hj
        simp [List.getD, hj] at this
        simp [this]
      have HB := Lib.hid hb
      clear hz hb
      go_wp2_with fail
      go_ret
      exact ⟨by rw [HB.out]; rfl, rfl⟩

theorem layL_nil (b : List UInt8) (k : Nat) : layL b k [] = b := by simp [layL]
theorem layL_set (b row : List UInt8) (k i : Nat) (hk : k + row.length ≤ b.length) (hi : i < row.length) : (layL b k (row.take i)).set (k + i) (row.getD i 0) = layL b k (row.take (i + 1)) := by
  unfold layL
  have h1 : (b.take k).length = k := by simp; omega
  have h2 : (row.take i).length = i := by simp; omega
  have h3 : (row.take (i + 1)).length = i + 1 := by simp; omega
  rw [List.set_append_right _ _ (by omega), h1, h2, h3, Nat.add_sub_cancel_left, List.set_append_right _ _ (by omega), h2, Nat.sub_self,
    List.drop_eq_getElem_cons (by omega), List.set_cons_zero, List.take_succ_eq_append_getElem hi, List.append_assoc, show row.getD i 0 = row[i] by simp [List.getD, hi]]
  rfl

theorem refLaid_any {w : World} {A B : Option Addr} {n c m d : Nat} {b r : List UInt8} (h : Rda w A c b) (h2 : Rda w B d r) (hn : n = b.length) (hm : m = r.length) (hl : b.length ≤ 140737488351232) (k : Nat) (hk : k + r.length ≤ b.length) (hb0 : 0 < b.length) :
    Calls Tryd.prog 97 #[.slice A n c, .int .i64 k, .slice B m d] w fun e w' => ∃ A' c', e = .returned (.slice A' b.length c') ∧ New 5 w w' A' c' (layL b k r) := by
  subst hn hm
  have hnil := Own8.nilRow w w.heap.size 5
  go_enter Tryd.func97, Tryd.ntmps97
  go_wp2_with (at_builtin; refine wpList_app2 (l := []) (m := b) rfl _ _ rfl tU8 rfl hnil rfl rfl h (by simp; omega) (Nat.le_refl _) ?_)
  intro v2 w2 o2 hw2
  try rw [List.nil_append] at o2
  have bb2 : Below w.heap.size w w2 := grown_below hw2.grown (Nat.le_refl _) (fun k hk => by simp [Value.ownBlock] at hk)
  obtain ⟨A', c', rfl, _⟩ := own_rda o2
  obtain ⟨g, rfl, hg⟩ := o2.block hb0
  clear hw2 hnil
  have o3 : Own8 w2 w.heap.size 5 (.slice (some ⟨g, 0, none⟩) b.length c') (layL b k (r.take 0)) := by rw [List.take_zero, layL_nil]; exact o2
  go_wp2_with fail
  go_loopw [8] (fun i wr => ∃ j : Nat, j ≤ r.length ∧ i = .int .i64 j ∧ Own8 wr w.heap.size 5 (.slice (some ⟨g, 0, none⟩) b.length c') (layL b k (r.take j)) ∧ Below w.heap.size w wr) (fun i _ => r.length - (intOf i).toNat)
  case atStart => exact ⟨0, by omega, rfl, o3, bb2⟩
  case round =>
    obtain ⟨j, hj, rfl, ho, hb⟩ := hrel
    have hll := layL_length b k (r.take j) (by rw [List.length_take]; omega)
    by_cases hjt : j < r.length
    · have hr := h2.below hb
      obtain ⟨g2, o2', rfl, hc⟩ := hr.cells (by omega)
      have hcj := hc j hjt
      have hfz := ho.unfrozen hll.symm (k + j)
      have hcell := ho.cellAt hll.symm (k + j) (by omega)
      obtain ⟨st1, st2⟩ := ho.stored hll.symm (k + j) (r.getD j 0)
      rw [layL_set b r k j hk hjt] at st1
      have hb2 := hb.grown st2 hb.size (fun q hq => by injection hq with hq; omega)
      obtain ⟨x, hx⟩ : ∃ x, r.getD j 0 = x := ⟨_, rfl⟩
      obtain ⟨y, hy⟩ : ∃ y : Int, (((layL b k (r.take j)).getD (k + j) 0).toNat : Int) = y := ⟨_, rfl⟩
      rw [hx] at hcj st1 st2 hb2
      rw [hy] at hcell
      have hkj : k + j < b.length := by omega
      clear hc ho hll hx hy st2 hr o3 o2
      go_wp2_with fail
      go_roundw
      case rel => exact ⟨j + 1, by omega, by go_num, st1, hb2⟩
      case measure => simp [intOf]; omega
    · have he : j = r.length := by omega
      subst he
      rw [List.take_length] at ho hll
      have HLL := Lib.hid hll
      clear hll o3 o2
      go_wp2_with fail
      go_ret
      exact ⟨_, _, rfl, ⟨by rw [HLL.out]; exact ho, hb⟩⟩

end Go.Proofs.YtapoknpakleiiaaDoor
