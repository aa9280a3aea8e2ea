import Derived.Test.YtgcpmdodhnmneabPage
/- The contracts of package page, on: blank, Lsn, Check, Make, Stamp; of image.Lay. -/
set_option linter.unusedVariables false
set_option linter.unusedSimpArgs false
namespace Go.Proofs.Ytgcpmdodhnmneab
open Go.RowKit Go.Tm
set_option maxHeartbeats 400000
set_option maxRecDepth 100000

theorem lay_any {w : World} {A B : Option Addr} {n c m d : Nat} {b r : List UInt8} (h : Rda w A c b) (h2 : Rda w B d r) (hn : n = b.length) (hm : m = r.length) (hl : b.length ≤ 140737488351232) (k : Nat) (hk : k + r.length ≤ b.length) :
    Calls Try.prog 50 #[.slice A n c, .int .i64 k, .slice B m d] w fun e w' => ∃ A' c', e = .returned (.tuple #[.slice A' b.length c', .int .i64 0]) ∧ New 5 w w' A' c' (layL b k r) := by
  subst hn hm
  have hl2 := layL_length b k r hk
  have HL2 := Lib.hid hl2
  clear hl2
  have p1 : (r.length : Int) ≤ (b.length : Int) := by omega
  have p2 : (k : Int) ≤ (b.length : Int) - (r.length : Int) := by omega
  have p3 : (k : Int) ≤ (b.length : Int) := by omega
  have p0 : (0 : Int) ≤ (k : Int) := by omega
  go_enter Try.func50, Try.ntmps50
  go_wp2_with (refine wpList_make8 rfl _ _ rfl tU8 b.length rfl rfl rfl rfl (by omega) ?_)
  intro w1 hW hb1
  have r1 := h.below hb1
  have hz := zeroL_length b.length
  go_wp2_with (with_reducible refine wpList_copy8 rfl _ _ rfl tU8 rfl rfl w.heap.size 0 hW r1 rfl (Nat.le_refl _) (fun _ => rfl) (by rw [hz]; omega) hb1 (Nat.le_refl _) ?_)
  intro w2 hW2 hb2
  have hlay : layL (zeroL b.length) 0 b = b := by unfold layL; rw [List.take_zero, List.nil_append, Nat.zero_add, List.drop_of_length_le (by rw [hz]; omega), List.append_nil]
  rw [hlay] at hW2
  clear hlay hz hW hb1 r1
  have r2 := h2.below hb2
  have hW3 : Whole8 w2 w.heap.size 5 b := hW2
  have hpa : 0 < r.length → pieceAt (some ⟨w.heap.size, 0, none⟩) k b.length = some ⟨w.heap.size, k, none⟩ := fun hp => by unfold Tm.pieceAt; rw [if_neg (by omega)]; simp [add_plain]
  have hrk : r.length ≤ b.length - k := by omega
  have HPA := Lib.hid hpa
  clear hpa
  go_wp2_with (first
    | ((with_reducible refine at_slice ?_); refine wpList_sliceAny (L := k) (H := b.length) (M := b.length) rfl _ _ _ _ rfl tU8 rfl rfl rfl rfl (.at _ _ _ _ rfl) (.no _) (.no _) (.inl rfl) (by omega) (by omega) (by omega) ?_)
    | (with_reducible refine wpList_copy8 rfl _ _ rfl tU8 rfl rfl w.heap.size k hW3 r2 rfl hrk HPA.out hk hb2 (Nat.le_refl _) ?_))
  intro w3 hW4 hb3
  go_wp2_with fail
  go_ret2
  refine ⟨_, _, rfl, ?_, hb3⟩
  have := hW4.own (base := w.heap.size) (Nat.le_refl _) (by rw [HL2.out]; omega)
  rwa [HL2.out] at this ⊢

end Go.Proofs.Ytgcpmdodhnmneab
