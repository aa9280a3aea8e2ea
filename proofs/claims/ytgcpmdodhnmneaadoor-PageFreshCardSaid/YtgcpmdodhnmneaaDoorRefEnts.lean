import Derived.Test.YtgcpmdodhnmneaaDoorRef4s
import Derived.Test.YtgcpmdodhnmneaaDoorEnts
import Derived.Test.YtgcpmdodhnmneaaDoorIterN
/- The document's Entries. -/
set_option linter.unusedVariables false
set_option linter.unusedSimpArgs false
namespace Go.Proofs.YtgcpmdodhnmneaaDoor
open Go.RowKit Go.Tm
set_option maxHeartbeats 400000
set_option maxRecDepth 100000

/-- A slice that owns a row is written out. -/
theorem own_slice {w : World} {base : Nat} {e : TypeId} {size : Nat} {v : Value} {k : Nat} {xs : List Value} (h : w.ownsRow base e size v k xs) : ∃ A c, v = .slice A k c := by
  rcases h.2 with ⟨e1, e2⟩ | ⟨g, cap, cur, e1, _⟩
  · exact ⟨none, 0, by rw [e1, e2]⟩
  · exact ⟨some ⟨g, 0, none⟩, cap, e1⟩

set_option maxHeartbeats 1600000 in
theorem refEntries_any {w : World} {A : Option Addr} {n c : Nat} {b : List UInt8} (h : Rda w A c b) (hn : n = b.length) (hl : b.length ≤ 140737488351232) :
    Calls Tryd.prog 32 #[.slice A n c] w fun e w' => ∃ v, e = .returned v ∧
      w'.ownsRow w.heap.size 68 3 v (entL b (List.range (slotsP b.length))).length (useC (entL b (List.range (slotsP b.length)))) ∧ Below w.heap.size w w' := by
  subst hn
  have HS := Lib.hid (fun W => refSlots_any A b.length c (by omega) W)
  have HSL := Lib.hid (fun (W : World) (hr : Rda W A c b) (k : Nat) => refSlot_any hr rfl hl (k : Int))
  have hS8 := slotsP_le b.length
  obtain ⟨S, hS⟩ : ∃ S, slotsP b.length = S := ⟨_, rfl⟩
  rw [hS] at HS hS8 ⊢
  have HSS := Lib.hid hS
  clear hS
  go_enter Tryd.func32, Tryd.ntmps32
  go_wp2_with fail
  go_loopw [3, 4, 5, 6, 7] (fun v i _ _ _ wr => ∃ k : Nat, k ≤ S ∧ i = .int .i64 k ∧ wr.ownsRow w.heap.size 68 3 v (entL b (List.range k)).length (useC (entL b (List.range k))) ∧ Below w.heap.size w wr) (fun _ i _ _ _ _ => S - (intOf i).toNat)
  case atStart => exact ⟨0, by omega, rfl, World.ownsRow_nil _ _ _ _, Below.refl _ _⟩
  case round =>
    obtain ⟨k, hk, rfl, hO, hb⟩ := hrel
    obtain ⟨Av, cv, rfl⟩ := own_slice hO
    obtain ⟨wo, rfl⟩ : ∃ wo : World, wo = wr := ⟨_, rfl⟩
    go_wp2_with fail
    refine (HS.out _).mono ?_
    rintro e wx ⟨rfl, rfl⟩
    have hlk := entL_len b (List.range k)
    rw [List.length_range] at hlk
    by_cases hkt : k < S
    · have hsn := entL_snoc b (List.range k) k
      rw [← List.range_succ] at hsn
      cases hu : usedB b (k : Int) with
      | true =>
        have e3 : slotK b (k : Int) = (keyN b k : Int) := if_pos hu
        have e4 : slotV b (k : Int) = (valN b k : Int) := if_pos hu
        have P1 := HSL.out wo (h.below hb) k
        rw [hu, e3, e4] at P1
        rw [if_pos hu] at hsn
        have HP1 := Lib.hid P1
        have HSN := Lib.hid hsn
        clear P1 hsn hu e3 e4
        go_wp2_with fail
        refine HP1.out.mono ?_
        rintro e w1 ⟨rfl, hb1⟩
        have hO1 := ownsRow_below hO hb1
        go_wp2_with (at_builtin; refine wpList_appC _ rfl _ _ 65 rfl w.heap.size 68 (z := .agg #[.int .i64 0, .int .i64 0, .int .u64 0]) (size := 3) (bytes := 24) Tryd.underlying65 (by kernel_rfl) rfl (by decide) _ (entL b (List.range k)).length (useC (entL b (List.range k))) rfl ((hO1.alloc _).alloc _) ⟨w1.heap.size + 1, 0, none⟩ 1 1 [.int .i64 (k : Int), .int .i64 (keyN b k : Int), .int .u64 (valN b k : Int)] rfl rfl ?c1 ?c2 ?c3 ?c4 ?c5 ?_)
        case c1 =>
          intro j u hj
          have hnew := heap_alloc_new (w1.alloc (.cells #[.int .i64 (keyN b k : Int), .int .u64 (valN b k : Int)] 53)) (.cells #[.int .i64 (k : Int), .int .i64 (keyN b k : Int), .int .u64 (valN b k : Int)] 68)
          rw [Addr.add_lit, Nat.zero_add]
          have hz : (w1.alloc (.cells #[.int .i64 (keyN b k : Int), .int .u64 (valN b k : Int)] 53)).heap.size = w1.heap.size + 1 := by simp
          rw [hz] at hnew
          exact RowC.cell (cs := [.int .i64 (k : Int), .int .i64 (keyN b k : Int), .int .u64 (valN b k : Int)]) hnew hj
        case c2 =>
          intro u hu
          simp at hu
          rcases hu with rfl | rfl | rfl <;> rfl
        case c3 => unfold maxLen; omega
        case c4 => omega
        case c5 => have := hb.size; have := hb1.size; simp; omega
        intro v' w2 hown' hgrow _
        have bb := below_own ((below_then hb hb1).alloc (Nat.le_trans hb.size hb1.size) _ |>.alloc (by have := hb.size; have := hb1.size; simp; omega) _) (by have := hb.size; have := hb1.size; simp; omega) ((hO1.alloc _).alloc _) hgrow
        have HO := Lib.hid hown'
        have HBB := Lib.hid bb
        clear hown' hgrow bb hO1 hO hb hb1 HP1
        go_wp2_with fail
        go_roundw
        case rel => exact ⟨k + 1, by omega, by go_num, by rw [HSN.out, List.length_append, useC_snoc]; exact HO.out, HBB.out⟩
        case measure => simp [intOf]; omega
      | false =>
        have e3 : slotK b (k : Int) = 0 := if_neg (by rw [hu]; decide)
        have e4 : slotV b (k : Int) = 0 := if_neg (by rw [hu]; decide)
        have P1 := HSL.out wo (h.below hb) k
        rw [hu, e3, e4] at P1
        rw [if_neg (by rw [hu]; decide), List.append_nil] at hsn
        have HP1 := Lib.hid P1
        have HSN := Lib.hid hsn
        clear P1 hsn hu e3 e4
        go_wp2_with fail
        refine HP1.out.mono ?_
        rintro e w1 ⟨rfl, hb1⟩
        have hO1 := ownsRow_below hO hb1
        have hO2 := hO1.alloc (.cells #[.int .i64 0, .int .u64 0] 53)
        have bb := (below_then hb hb1).alloc (Nat.le_trans hb.size hb1.size) (.cells #[.int .i64 0, .int .u64 0] 53)
        have HO := Lib.hid hO2
        have HBB := Lib.hid bb
        clear hO1 hO2 hO bb hb hb1 HP1
        go_wp2_with fail
        go_roundw
        case rel => exact ⟨k + 1, by omega, by go_num, by rw [HSN.out]; exact HO.out, HBB.out⟩
        case measure => simp [intOf]; omega
    · have he : k = S := by omega
      subst he
      go_wp2_with fail
      go_ret
      exact ⟨_, rfl, hO, hb⟩
end Go.Proofs.YtgcpmdodhnmneaaDoor
