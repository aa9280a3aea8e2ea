import Derived.Test.YtapoknpakleiiaaDoorPage
/- The contracts of package page, on: blank, Lsn, Check, Make, Stamp; of image.Lay. -/
set_option linter.unusedVariables false
set_option linter.unusedSimpArgs false
namespace Go.Proofs.YtapoknpakleiiaaDoor
open Go.RowKit Go.Tm
set_option maxHeartbeats 400000
set_option maxRecDepth 100000

theorem sum_any {w : World} (hT : Tb w) {A : Option Addr} {n c : Nat} {b : List UInt8} (h : Rda w A c b) (hn : n = b.length) (hb : 16 ≤ b.length) :
    Calls Tryd.prog 74 #[.slice A n c] w fun e w' => e = .returned (.int .u32 (sumP b : Nat)) ∧ Below w.heap.size w w' := by
  subst hn
  have hcap := h.cap
  have q1 : (12 : Int) ≤ (c : Int) := by omega
  have q2 : (16 : Int) ≤ (b.length : Int) := by omega
  have q3 : (16 : Int) ≤ (c : Int) := by omega
  go_enter Tryd.func74, Tryd.ntmps74
  go_wp2_with fail
  refine region_tail 4 (by kernel_rfl) (by kernel_rfl) ?_
  simp only [List.take_succ_cons, List.take_zero, List.drop_succ_cons, List.drop_zero]
  repeat still_step
  refine wpStill_nil ?_
  have hD := below_drew1 (Below.refl w.heap.size w)
  have hW := h.below hD
  have TW := hT.below hD
  generalize w.drew = W at hD hW TW ⊢
  go_wp2_with fail
  have r12 := hW.take 12 (by omega)
  have r16 := hW.drop 16 (by omega)
  have hcat : cat [b.take 12, b.drop 16] = b.take 12 ++ b.drop 16 := by simp [cat]
  have P4 := crcSum_any (TW.below ((Below.refl _ _).alloc (Nat.le_refl _) _)) ((((RowVals.nil W).cons r16 (n := b.length - 16) (by simp)).cons r12 (n := 12) (by simp; omega)).rows 22 2 rfl (by simp) rfl) (n := 2) rfl
  rw [hcat, show crcM 0 (b.take 12 ++ b.drop 16) = sumP b from rfl] at P4
  refine P4.mono ?_
  rintro e w4 ⟨rfl, rfl⟩
  go_wp2_with fail
  go_ret
  exact ⟨rfl, hD.alloc hD.size _⟩

theorem blankFn_any (x : Int) (w : World) : Calls Tryd.prog 92 #[.int .u8 x] w fun e w' => e = .returned (.bool (x != 0)) ∧ w = w' := by
  go_enter Tryd.func92, Tryd.ntmps92
  go_wp2
  go_ret
  exact ⟨rfl, rfl⟩

theorem index_any {w : World} {A : Option Addr} {n c : Nat} {b : List UInt8} (h : Rda w A c b) (hn : n = b.length) (hl : b.length ≤ 140737488351232) :
    Calls Tryd.prog 102 #[.slice A n c, .func (.func 92) #[] #[]] w fun e w' => (∃ i : Int, e = .returned (.int .i64 i) ∧ decide (0 ≤ i) = !(blankB b)) ∧ w = w' := by
  subst hn
  have hcap := h.cap
  have hmax := h.max
  unfold maxLen at hmax
  go_enter Tryd.func102, Tryd.ntmps102
  go_wp2_with fail
  go_loop [8] (fun i => ∃ k : Nat, k ≤ b.length ∧ i = .int .i64 k ∧ Box (∀ j, j < k → b.getD j 0 = 0)) (fun i => b.length - (intOf i).toNat)
  case atStart => exact ⟨0, by omega, rfl, ⟨fun j hj => by omega⟩⟩
  case round =>
    obtain ⟨k, hk, rfl, hz⟩ := hrel
    by_cases hkt : k < b.length
    · obtain ⟨g, o, rfl, hc⟩ := h.cells (by omega)
      have hck := hc k hkt
      by_cases h0 : b.getD k 0 = 0
      · have hz2 : Box (∀ j, j < k + 1 → b.getD j 0 = 0) := ⟨fun j hj => by
          by_cases hjk : j < k
          · exact hz.out j hjk
          · rw [show j = k by omega]; exact h0⟩
        rw [h0] at hck
        have hck' : w.cell? ⟨g, o + k, none⟩ = some (.int .u8 0) := hck
        have P := blankFn_any 0 w
        have HP := Lib.hid P
        clear hc hck h0 hz P
        go_wp2_with fail
        refine HP.out.mono ?_
        rintro e w1 ⟨rfl, rfl⟩
        go_wp2_with fail
        go_round
        case rel => exact ⟨k + 1, by omega, by go_num, hz2⟩
        case measure => simp [intOf]; omega
      · have hb : blankB b = false := by
          rw [Bool.eq_false_iff]
          intro hall
          rw [blankB, List.all_eq_true] at hall
          apply h0
          have := hall (b[k]) (List.getElem_mem hkt)
          simp [List.getD, hkt]
          simpa using this
        have hne : (((b.getD k 0).toNat : Int) != 0) = true := by
          rw [bne_iff_ne]
          intro he
          apply h0
          apply UInt8.toNat_inj.1
          show _ = 0
          omega
        obtain ⟨x, hx⟩ : ∃ x : Int, ((b.getD k 0).toNat : Int) = x := ⟨_, rfl⟩
        rw [hx] at hne hck
        have P := blankFn_any x w
        rw [hne] at P
        have HP := Lib.hid P
        have HB := Lib.hid hb
        clear hc h0 hz P hne hx hb
        go_wp2_with fail
        refine HP.out.mono ?_
        rintro e w1 ⟨rfl, rfl⟩
        go_wp2_with fail
        go_ret
        exact ⟨⟨_, rfl, by rw [HB.out]; simp⟩, rfl⟩
    · have he : k = b.length := by omega
      subst he
      have hb : blankB b = true := by
        rw [blankB, List.all_eq_true]
        intro x hx
        obtain ⟨j, hj, rfl⟩ := List.mem_iff_getElem.1 hx
        have := hz.out j hj
        simp [List.getD, hj] at this
        simp [this]
      have HB := Lib.hid hb
      clear hz hb
      go_wp2_with fail
      go_ret
      exact ⟨⟨_, rfl, by rw [HB.out]; rfl⟩, rfl⟩

theorem contains_any {w : World} {A : Option Addr} {n c : Nat} {b : List UInt8} (h : Rda w A c b) (hn : n = b.length) (hl : b.length ≤ 140737488351232) :
    Calls Tryd.prog 91 #[.slice A n c, .func (.func 92) #[] #[]] w fun e w' => e = .returned (.bool (!(blankB b))) ∧ w = w' := by
  subst hn
  have HP := Lib.hid (index_any h rfl hl)
  obtain ⟨B, hB⟩ : ∃ B, blankB b = B := ⟨_, rfl⟩
  rw [hB] at HP ⊢
  clear hB
  go_enter Tryd.func91, Tryd.ntmps91
  go_wp2_with fail
  refine HP.out.mono ?_
  rintro e w1 ⟨⟨i, rfl, hi⟩, rfl⟩
  have HI := Lib.hid hi
  clear hi
  go_wp2_with fail
  go_ret
  exact ⟨by rw [← HI.out]; rfl, rfl⟩

theorem blank_any {w : World} {A : Option Addr} {n c : Nat} {b : List UInt8} (h : Rda w A c b) (hn : n = b.length) (hl : b.length ≤ 140737488351232) :
    Calls Tryd.prog 72 #[.slice A n c] w fun e w' => e = .returned (.bool (blankB b)) ∧ w = w' := by
  subst hn
  have HP := Lib.hid (contains_any h rfl hl)
  cases hb : blankB b with
  | true =>
    rw [hb] at HP
    clear hb
    go_enter Tryd.func72, Tryd.ntmps72
    go_wp2_with fail
    refine HP.out.mono ?_
    rintro e w1 ⟨rfl, rfl⟩
    go_wp2_with fail
    go_ret
    exact ⟨rfl, rfl⟩
  | false =>
    rw [hb] at HP
    clear hb
    go_enter Tryd.func72, Tryd.ntmps72
    go_wp2_with fail
    refine HP.out.mono ?_
    rintro e w1 ⟨rfl, rfl⟩
    go_wp2_with fail
    go_ret
    exact ⟨rfl, rfl⟩

theorem lsn_any {w : World} {A : Option Addr} {n c : Nat} {b : List UInt8} (h : Rda w A c b) (hn : n = b.length) (hl : b.length ≤ 140737488351232) :
    Calls Tryd.prog 73 #[.slice A n c] w fun e w' => e = .returned (.tuple #[.int .i64 (lsnV b), .int .i64 (lsnE b)]) ∧ Below w.heap.size w w' := by
  subst hn
  have PS := fun W => slots_any A b.length c (by omega) W
  by_cases hs : 0 < slotsP b.length
  · have h40 := (slotsP_pos.1 hs).1
    have hne : ((slotsP b.length : Int) == 0) = false := by rw [beq_eq_false_iff_ne]; omega
    have hi8 : ¬ b.length < 8 := by omega
    obtain ⟨S, hS⟩ : ∃ S, slotsP b.length = S := ⟨_, rfl⟩
    by_cases hf : 1152921504606846976 < frontN b
    · have e1 : lsnE b = 40 := by unfold lsnE; rw [if_neg (by omega), if_pos hf]
      have e2 : lsnV b = 0 := if_neg (by rw [e1]; decide)
      have i1 : intE b = 30 := by unfold intE; rw [if_neg hi8]; exact if_pos hf
      have i2 : intV b = 0 := if_neg (by rw [i1]; decide)
      rw [e1, e2]
      rw [hS] at PS hne
      have HPS := Lib.hid PS
      have I1 := Lib.hid i1
      have I2 := Lib.hid i2
      clear PS e1 e2 i1 i2 hS hs hf
      go_enter Tryd.func73, Tryd.ntmps73
      go_wp2_with fail
      refine (newReader_any h rfl (by omega)).mono ?_
      rintro e w1 ⟨r, rfl, hr, hR, hb1⟩
      go_wp2_with fail
      refine (int_any hR).mono ?_
      rw [I1.out, I2.out]
      rintro e w2 ⟨rfl, hg, _⟩
      go_wp2_with fail
      refine (HPS.out _).mono ?_
      rintro e w3 ⟨rfl, rfl⟩
      go_wp2_with fail
      go_ret2
      exact ⟨rfl, hb1.grown hg hb1.size (fun k hk => by injection hk with hk; omega)⟩
    · have e1 : lsnE b = 0 := by unfold lsnE; rw [if_neg (by omega), if_neg hf]
      have e2 : lsnV b = (frontN b : Int) := if_pos e1
      have i1 : intE b = 0 := by unfold intE; rw [if_neg hi8]; exact if_neg hf
      have i2 : intV b = frontN b := if_pos i1
      rw [e1, e2]
      rw [hS] at PS hne
      have HPS := Lib.hid PS
      have I1 := Lib.hid i1
      have I2 := Lib.hid i2
      clear PS e1 e2 i1 i2 hS hs hf
      go_enter Tryd.func73, Tryd.ntmps73
      go_wp2_with fail
      refine (newReader_any h rfl (by omega)).mono ?_
      rintro e w1 ⟨r, rfl, hr, hR, hb1⟩
      go_wp2_with fail
      refine (int_any hR).mono ?_
      rw [I1.out, I2.out]
      rintro e w2 ⟨rfl, hg, _⟩
      go_wp2_with fail
      refine (HPS.out _).mono ?_
      rintro e w3 ⟨rfl, rfl⟩
      go_wp2_with fail
      go_ret2
      exact ⟨rfl, hb1.grown hg hb1.size (fun k hk => by injection hk with hk; omega)⟩
  · have h0 : slotsP b.length = 0 := by omega
    have e1 : lsnE b = 40 := if_pos h0
    have e2 : lsnV b = 0 := if_neg (by rw [e1]; decide)
    rw [e1, e2]
    rw [h0] at PS
    have HPS := Lib.hid PS
    clear PS h0 e1 e2 hs
    go_enter Tryd.func73, Tryd.ntmps73
    go_wp2_with fail
    refine (newReader_any h rfl (by omega)).mono ?_
    rintro e w1 ⟨r, rfl, hr, hR, hb1⟩
    go_wp2_with fail
    refine (int_any hR).mono ?_
    rintro e w2 ⟨rfl, hg, _⟩
    obtain ⟨V, hV⟩ : ∃ V, intV b = V := ⟨_, rfl⟩
    obtain ⟨E, hE⟩ : ∃ E, intE b = E := ⟨_, rfl⟩
    rw [hV, hE]
    clear hV hE
    go_wp2_with fail
    refine (HPS.out _).mono ?_
    rintro e w3 ⟨rfl, rfl⟩
    go_wp2_with fail
    go_ret2
    exact ⟨rfl, hb1.grown hg hb1.size (fun k hk => by injection hk with hk; omega)⟩

end Go.Proofs.YtapoknpakleiiaaDoor
