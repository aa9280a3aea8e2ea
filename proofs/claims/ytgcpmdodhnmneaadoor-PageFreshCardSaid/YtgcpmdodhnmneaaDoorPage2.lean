import Derived.Test.YtgcpmdodhnmneaaDoorPage
/- The contracts of package page, on: blank, Lsn, Check, Make, Stamp; of image.Lay. -/
set_option linter.unusedVariables false
set_option linter.unusedSimpArgs false
namespace Go.Proofs.YtgcpmdodhnmneaaDoor
open Go.RowKit Go.Tm
set_option maxHeartbeats 400000
set_option maxRecDepth 100000

theorem lay_any {w : World} {A B : Option Addr} {n c m d : Nat} {b r : List UInt8} (h : Rda w A c b) (h2 : Rda w B d r) (hn : n = b.length) (hm : m = r.length) (hl : b.length ≤ 140737488351232) (k : Nat) (hk : k + r.length ≤ b.length) :
    Calls Tryd.prog 55 #[.slice A n c, .int .i64 k, .slice B m d] w fun e w' => ∃ A' c', e = .returned (.tuple #[.slice A' b.length c', .int .i64 0]) ∧ New 5 w w' A' c' (layL b k r) := by
  subst hn hm
  have hl2 := layL_length b k r hk
  have HL2 := Lib.hid hl2
  clear hl2
  have p1 : (r.length : Int) ≤ (b.length : Int) := by omega
  have p2 : (k : Int) ≤ (b.length : Int) - (r.length : Int) := by omega
  have p3 : (k : Int) ≤ (b.length : Int) := by omega
  have p0 : (0 : Int) ≤ (k : Int) := by omega
  go_enter Tryd.func55, Tryd.ntmps55
  go_wp2_with (refine wpList_make8 rfl _ _ rfl tU8 b.length rfl rfl rfl rfl (by omega) ?_)
  intro w1 hW hb1
  have r1 := h.below hb1
  have hz := zeroL_length b.length
  go_wp2_with (with_reducible refine wpList_copy8 rfl _ _ rfl tU8 rfl rfl w.heap.size 0 hW r1 rfl (Nat.le_refl _) (fun _ => rfl) (by rw [hz]; omega) hb1 (Nat.le_refl _) ?_)
  intro w2 hW2 hb2
  have hlay : layL (zeroL b.length) 0 b = b := by unfold layL; rw [List.take_zero, List.nil_append, Nat.zero_add, List.drop_of_length_le (by rw [hz]; omega), List.append_nil]
  rw [hlay] at hW2
  clear hlay hz hW hb1 r1
  have r2 := h2.below hb2
  have hW3 : Whole8 w2 w.heap.size 5 b := hW2
  have hpa : 0 < r.length → pieceAt (some ⟨w.heap.size, 0, none⟩) k b.length = some ⟨w.heap.size, k, none⟩ := fun hp => by unfold Tm.pieceAt; rw [if_neg (by omega)]; simp [add_plain]
  have hrk : r.length ≤ b.length - k := by omega
  have HPA := Lib.hid hpa
  clear hpa
  go_wp2_with (first
    | ((with_reducible refine at_slice ?_); refine wpList_sliceAny (L := k) (H := b.length) (M := b.length) rfl _ _ _ _ rfl tU8 rfl rfl rfl rfl (.at _ _ _ _ rfl) (.no _) (.no _) (.inl rfl) (by omega) (by omega) (by omega) ?_)
    | (with_reducible refine wpList_copy8 rfl _ _ rfl tU8 rfl rfl w.heap.size k hW3 r2 rfl hrk HPA.out hk hb2 (Nat.le_refl _) ?_))
  intro w3 hW4 hb3
  go_wp2_with fail
  go_ret2
  refine ⟨_, _, rfl, ?_, hb3⟩
  have := hW4.own (base := w.heap.size) (Nat.le_refl _) (by rw [HL2.out]; omega)
  rwa [HL2.out] at this ⊢

theorem sum_any {w : World} (hT : Tb w) {A : Option Addr} {n c : Nat} {b : List UInt8} (h : Rda w A c b) (hn : n = b.length) (hb : 16 ≤ b.length) :
    Calls Tryd.prog 43 #[.slice A n c] w fun e w' => e = .returned (.int .u32 (sumP b : Nat)) ∧ Below w.heap.size w w' := by
  subst hn
  have hcap := h.cap
  have q1 : (12 : Int) ≤ (c : Int) := by omega
  have q2 : (16 : Int) ≤ (b.length : Int) := by omega
  have q3 : (16 : Int) ≤ (c : Int) := by omega
  go_enter Tryd.func43, Tryd.ntmps43
  go_wp2_with fail
  refine region_tail 4 (by kernel_rfl) (by kernel_rfl) ?_
  simp only [List.take_succ_cons, List.take_zero, List.drop_succ_cons, List.drop_zero]
  repeat still_step
  refine wpStill_nil ?_
  have hD := below_drew1 (Below.refl w.heap.size w)
  have hW := h.below hD
  have TW := hT.below hD
  generalize w.drew = W at hD hW TW ⊢
  go_wp2_with fail
  have r12 := hW.take 12 (by omega)
  have r16 := hW.drop 16 (by omega)
  have hcat : cat [b.take 12, b.drop 16] = b.take 12 ++ b.drop 16 := by simp [cat]
  have P4 := crcSum_any (TW.below ((Below.refl _ _).alloc (Nat.le_refl _) _)) ((((RowVals.nil W).cons r16 (n := b.length - 16) (by simp)).cons r12 (n := 12) (by simp; omega)).rows 22 2 rfl (by simp) rfl) (n := 2) rfl
  rw [hcat, show crcM 0 (b.take 12 ++ b.drop 16) = sumP b from rfl] at P4
  refine P4.mono ?_
  rintro e w4 ⟨rfl, rfl⟩
  go_wp2_with fail
  go_ret
  exact ⟨rfl, hD.alloc hD.size _⟩

theorem blankFn_any (x : Int) (w : World) : Calls Tryd.prog 64 #[.int .u8 x] w fun e w' => e = .returned (.bool (x != 0)) ∧ w = w' := by
  go_enter Tryd.func64, Tryd.ntmps64
  go_wp2
  go_ret
  exact ⟨rfl, rfl⟩

theorem index_any {w : World} {A : Option Addr} {n c : Nat} {b : List UInt8} (h : Rda w A c b) (hn : n = b.length) (hl : b.length ≤ 140737488351232) :
    Calls Tryd.prog 72 #[.slice A n c, .func (.func 64) #[] #[]] w fun e w' => (∃ i : Int, e = .returned (.int .i64 i) ∧ decide (0 ≤ i) = !(blankB b)) ∧ w = w' := by
  subst hn
  have hcap := h.cap
  have hmax := h.max
  unfold maxLen at hmax
  go_enter Tryd.func72, Tryd.ntmps72
  go_wp2_with fail
  go_loop [8] (fun i => ∃ k : Nat, k ≤ b.length ∧ i = .int .i64 k ∧ Box (∀ j, j < k → b.getD j 0 = 0)) (fun i => b.length - (intOf i).toNat)
  case atStart => exact ⟨0, by omega, rfl, ⟨fun j hj => by omega⟩⟩
  case round =>
    obtain ⟨k, hk, rfl, hz⟩ := hrel
    by_cases hkt : k < b.length
    · obtain ⟨g, o, rfl, hc⟩ := h.cells (by omega)
      have hck := hc k hkt
      by_cases h0 : b.getD k 0 = 0
      · have hz2 : Box (∀ j, j < k + 1 → b.getD j 0 = 0) := ⟨fun j hj => by
          by_cases hjk : j < k
          · exact hz.out j hjk
          · rw [show j = k by omega]; exact h0⟩
        rw [h0] at hck
        have hck' : w.cell? ⟨g, o + k, none⟩ = some (.int .u8 0) := hck
        have P := blankFn_any 0 w
        have HP := Lib.hid P
        clear hc hck h0 hz P
        go_wp2_with fail
        refine HP.out.mono ?_
        rintro e w1 ⟨rfl, rfl⟩
        go_wp2_with fail
        go_round
        case rel => exact ⟨k + 1, by omega, by go_num, hz2⟩
        case measure => simp [intOf]; omega
      · have hb : blankB b = false := by
          rw [Bool.eq_false_iff]
          intro hall
          rw [blankB, List.all_eq_true] at hall
          apply h0
          have := hall (b[k]) (List.getElem_mem hkt)
          simp [List.getD, hkt]
          simpa using this
        have hne : (((b.getD k 0).toNat : Int) != 0) = true := by
          rw [bne_iff_ne]
          intro he
          apply h0
          apply UInt8.toNat_inj.1
          show _ = 0
          omega
        obtain ⟨x, hx⟩ : ∃ x : Int, ((b.getD k 0).toNat : Int) = x := ⟨_, rfl⟩
        rw [hx] at hne hck
        have P := blankFn_any x w
        rw [hne] at P
        have HP := Lib.hid P
        have HB := Lib.hid hb
        clear hc h0 hz P hne hx hb
        go_wp2_with fail
        refine HP.out.mono ?_
        rintro e w1 ⟨rfl, rfl⟩
        go_wp2_with fail
        go_ret
        exact ⟨⟨_, rfl, by rw [HB.out]; simp⟩, rfl⟩
    · have he : k = b.length := by omega
      subst he
      have hb : blankB b = true := by
        rw [blankB, List.all_eq_true]
        intro x hx
        obtain ⟨j, hj, rfl⟩ := List.mem_iff_getElem.1 hx
        have := hz.out j hj
        simp [List.getD, hj] at this
        simp [this]
      have HB := Lib.hid hb
      clear hz hb
      go_wp2_with fail
      go_ret
      exact ⟨⟨_, rfl, by rw [HB.out]; rfl⟩, rfl⟩

theorem contains_any {w : World} {A : Option Addr} {n c : Nat} {b : List UInt8} (h : Rda w A c b) (hn : n = b.length) (hl : b.length ≤ 140737488351232) :
    Calls Tryd.prog 63 #[.slice A n c, .func (.func 64) #[] #[]] w fun e w' => e = .returned (.bool (!(blankB b))) ∧ w = w' := by
  subst hn
  have HP := Lib.hid (index_any h rfl hl)
  obtain ⟨B, hB⟩ : ∃ B, blankB b = B := ⟨_, rfl⟩
  rw [hB] at HP ⊢
  clear hB
  go_enter Tryd.func63, Tryd.ntmps63
  go_wp2_with fail
  refine HP.out.mono ?_
  rintro e w1 ⟨⟨i, rfl, hi⟩, rfl⟩
  have HI := Lib.hid hi
  clear hi
  go_wp2_with fail
  go_ret
  exact ⟨by rw [← HI.out]; rfl, rfl⟩

theorem blank_any {w : World} {A : Option Addr} {n c : Nat} {b : List UInt8} (h : Rda w A c b) (hn : n = b.length) (hl : b.length ≤ 140737488351232) :
    Calls Tryd.prog 40 #[.slice A n c] w fun e w' => e = .returned (.bool (blankB b)) ∧ w = w' := by
  subst hn
  have HP := Lib.hid (contains_any h rfl hl)
  cases hb : blankB b with
  | true =>
    rw [hb] at HP
    clear hb
    go_enter Tryd.func40, Tryd.ntmps40
    go_wp2_with fail
    refine HP.out.mono ?_
    rintro e w1 ⟨rfl, rfl⟩
    go_wp2_with fail
    go_ret
    exact ⟨rfl, rfl⟩
  | false =>
    rw [hb] at HP
    clear hb
    go_enter Tryd.func40, Tryd.ntmps40
    go_wp2_with fail
    refine HP.out.mono ?_
    rintro e w1 ⟨rfl, rfl⟩
    go_wp2_with fail
    go_ret
    exact ⟨rfl, rfl⟩

theorem lsn_any {w : World} {A : Option Addr} {n c : Nat} {b : List UInt8} (h : Rda w A c b) (hn : n = b.length) (hl : b.length ≤ 140737488351232) :
    Calls Tryd.prog 19 #[.slice A n c] w fun e w' => e = .returned (.tuple #[.int .i64 (lsnV b), .int .i64 (lsnE b)]) ∧ Below w.heap.size w w' := by
  subst hn
  have PS := fun W => slots_any A b.length c (by omega) W
  by_cases hs : 0 < slotsP b.length
  · have h40 := (slotsP_pos.1 hs).1
    have hne : ((slotsP b.length : Int) == 0) = false := by rw [beq_eq_false_iff_ne]; omega
    have hi8 : ¬ b.length < 8 := by omega
    obtain ⟨S, hS⟩ : ∃ S, slotsP b.length = S := ⟨_, rfl⟩
    by_cases hf : 1152921504606846976 < frontN b
    · have e1 : lsnE b = 40 := by unfold lsnE; rw [if_neg (by omega), if_pos hf]
      have e2 : lsnV b = 0 := if_neg (by rw [e1]; decide)
      have i1 : intE b = 30 := by unfold intE; rw [if_neg hi8]; exact if_pos hf
      have i2 : intV b = 0 := if_neg (by rw [i1]; decide)
      rw [e1, e2]
      rw [hS] at PS hne
      have HPS := Lib.hid PS
      have I1 := Lib.hid i1
      have I2 := Lib.hid i2
      clear PS e1 e2 i1 i2 hS hs hf
      go_enter Tryd.func19, Tryd.ntmps19
      go_wp2_with fail
      refine (newReader_any h rfl (by omega)).mono ?_
      rintro e w1 ⟨r, rfl, hr, hR, hb1⟩
      go_wp2_with fail
      refine (int_any hR).mono ?_
      rw [I1.out, I2.out]
      rintro e w2 ⟨rfl, hg, _⟩
      go_wp2_with fail
      refine (HPS.out _).mono ?_
      rintro e w3 ⟨rfl, rfl⟩
      go_wp2_with fail
      go_ret2
      exact ⟨rfl, hb1.grown hg hb1.size (fun k hk => by injection hk with hk; omega)⟩
    · have e1 : lsnE b = 0 := by unfold lsnE; rw [if_neg (by omega), if_neg hf]
      have e2 : lsnV b = (frontN b : Int) := if_pos e1
      have i1 : intE b = 0 := by unfold intE; rw [if_neg hi8]; exact if_neg hf
      have i2 : intV b = frontN b := if_pos i1
      rw [e1, e2]
      rw [hS] at PS hne
      have HPS := Lib.hid PS
      have I1 := Lib.hid i1
      have I2 := Lib.hid i2
      clear PS e1 e2 i1 i2 hS hs hf
      go_enter Tryd.func19, Tryd.ntmps19
      go_wp2_with fail
      refine (newReader_any h rfl (by omega)).mono ?_
      rintro e w1 ⟨r, rfl, hr, hR, hb1⟩
      go_wp2_with fail
      refine (int_any hR).mono ?_
      rw [I1.out, I2.out]
      rintro e w2 ⟨rfl, hg, _⟩
      go_wp2_with fail
      refine (HPS.out _).mono ?_
      rintro e w3 ⟨rfl, rfl⟩
      go_wp2_with fail
      go_ret2
      exact ⟨rfl, hb1.grown hg hb1.size (fun k hk => by injection hk with hk; omega)⟩
  · have h0 : slotsP b.length = 0 := by omega
    have e1 : lsnE b = 40 := if_pos h0
    have e2 : lsnV b = 0 := if_neg (by rw [e1]; decide)
    rw [e1, e2]
    rw [h0] at PS
    have HPS := Lib.hid PS
    clear PS h0 e1 e2 hs
    go_enter Tryd.func19, Tryd.ntmps19
    go_wp2_with fail
    refine (newReader_any h rfl (by omega)).mono ?_
    rintro e w1 ⟨r, rfl, hr, hR, hb1⟩
    go_wp2_with fail
    refine (int_any hR).mono ?_
    rintro e w2 ⟨rfl, hg, _⟩
    obtain ⟨V, hV⟩ : ∃ V, intV b = V := ⟨_, rfl⟩
    obtain ⟨E, hE⟩ : ∃ E, intE b = E := ⟨_, rfl⟩
    rw [hV, hE]
    clear hV hE
    go_wp2_with fail
    refine (HPS.out _).mono ?_
    rintro e w3 ⟨rfl, rfl⟩
    go_wp2_with fail
    go_ret2
    exact ⟨rfl, hb1.grown hg hb1.size (fun k hk => by injection hk with hk; omega)⟩

end Go.Proofs.YtgcpmdodhnmneaaDoor
