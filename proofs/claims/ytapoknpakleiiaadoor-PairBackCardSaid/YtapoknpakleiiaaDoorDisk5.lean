import Derived.Test.YtapoknpakleiiaaDoorDisk4
/- The contracts of package disk: places, reads. -/
set_option linter.unusedVariables false
set_option linter.unusedSimpArgs false
namespace Go.Proofs.YtapoknpakleiiaaDoor
open Go.RowKit Go.Tm
set_option maxHeartbeats 400000
set_option maxRecDepth 100000
attribute [local go_sem ↓] Go.wp_at_zero Go.wp_at_succ

theorem page_any_d {w : World} {χ : Col} {j p : Nat} {s : DSt} {q : DPl} (h : DiskR w χ j p s q) (n : Int) :
    Calls Tryd.prog 63 #[.pointer (some ⟨p, 0, none⟩), .int .i64 n] w fun e w' => e = .returned (.int .i64 (pageI s.P n)) ∧ w = w' := by
  have c0 := h.row.cell (j := 0) (v := .int .i64 s.P) rfl
  obtain ⟨P, hP⟩ : ∃ P, s.P = P := ⟨_, rfl⟩
  rw [hP] at c0 ⊢
  clear h hP
  unfold pageI
  by_cases h0 : n < 0
  · rw [if_neg (by omega)]
    go_enter Tryd.func63, Tryd.ntmps63
    go_wp2_with fail
    go_ret
    exact ⟨rfl, rfl⟩
  · by_cases h1 : n < (P : Int)
    · have g1 : ¬ (P : Int) ≤ n := by omega
      rw [if_pos ⟨by omega, h1⟩]
      go_enter Tryd.func63, Tryd.ntmps63
      go_wp2_with fail
      go_ret
      exact ⟨rfl, rfl⟩
    · have g1 : (P : Int) ≤ n := by omega
      rw [if_neg (by omega)]
      go_enter Tryd.func63, Tryd.ntmps63
      go_wp2_with fail
      go_ret
      exact ⟨rfl, rfl⟩

/-- What a read of a disk's place answers and leaves. -/
structure ReadD (w w' : World) (χ χ' : Col) (j p : Nat) (s' : DSt) (A : Option Addr) (c : Nat) (b : List UInt8) : Prop where
  disk : IsDisk w' χ' j p s'
  touch : Touch w w' χ χ' j
  own : Own8 w' w.heap.size 5 (.slice A b.length c) b
theorem ReadD.rda {w w' : World} {χ χ' : Col} {j p : Nat} {s' : DSt} {A : Option Addr} {c : Nat} {b : List UInt8} (h : ReadD w w' χ χ' j p s' A c b) : Rda w' A c b := (own_at h.own).2
theorem below_kept {S : Nat → Prop} {w w1 w2 : World} (h : KeptBut S w w1) (hb : Below w1.heap.size w1 w2) : KeptBut S w w2 := h.below hb

set_option maxHeartbeats 1600000 in
theorem read_any_d {w : World} {χ : Col} {j p : Nat} {s : DSt} {q : DPl} (h : DiskR w χ j p s q) (ha : s.acts < 4611686018427387904) (pl : Int) (hpl : pl < 0 ∨ pl < (s.P : Int) + 3) (x : Nat × Nat) :
    Calls Tryd.prog 62 #[.pointer (some ⟨p, 0, none⟩), .int .i64 pl] w fun e w' => ∃ A c, e = .returned (.tuple #[.slice A (readV s pl).length c, .int .i64 (readE s pl)]) ∧ ReadD w w' χ (paint w.heap.size χ x) j p (actS s) A c (readV s pl) := by
  have h1 := h.below (paint_ext w.heap.size χ x) (Below.refl _ _)
  have HA := act_any h1 ha
  obtain ⟨e1, e2, e3, e4, e5, e6, e7, e8, e9⟩ := actS_same s
  have hcol := h.col
  have HF : Hid (∀ (w1 : World), DiskR w1 (paint w.heap.size χ x) j p (actS s) q → KeptBut (fun k => k = p) w w1 → ∀ w2 A c b, New 5 w1 w2 A c b → ReadD w w2 χ (paint w.heap.size χ x) j p (actS s) A c b) := Lib.hid fun w1 hD hK w2 A c b hN =>
    ⟨⟨q, hD.below (Ext.refl _ _) hN.below⟩, Touch.of_own (hK.below hN.below) (by rw [hcol]) (paint_ext _ _ _), Own8.mono hN.own hK.size⟩
  have HNil := Lib.hid (fun (W : World) => (⟨Own8.nilRow W W.heap.size 5, Below.refl _ _⟩ : New 5 W W none 0 []))
  have p1 := h.ok.p1
  obtain ⟨χ1, hχ1⟩ : ∃ χ1, paint w.heap.size χ x = χ1 := ⟨_, rfl⟩
  rw [hχ1] at HA HF
  rw [hχ1]
  clear h h1 hcol ha hχ1
  unfold readV readE
  obtain ⟨T, hT⟩ : ∃ T, actS s = T := ⟨_, rfl⟩
  rw [hT] at HA HF e1 e5
  rw [hT]
  clear e2 e3 e4 e6 e7 e8 e9 hT
  cases hB : actB s with
  | false =>
    rw [hB] at HA
    have HA := Lib.hid HA
    simp only [if_true, Bool.false_eq_true, false_and, if_false, List.length_nil]
    clear hB
    go_enter Tryd.func62, Tryd.ntmps62
    go_wp2_with fail
    refine HA.out.mono ?_
    rintro e w1 ⟨rfl, hD, hK⟩
    have HD := Lib.hid (HF.out w1 hD hK w1 none 0 [] (HNil.out w1))
    clear hD hK
    go_wp2_with fail
    exact bodyPost_ret (v := .tuple #[.slice none 0 0, .int .i64 1]) (by simp [results, Tryd.results62, go_sem]) rfl ⟨none, 0, rfl, HD.out⟩
  | true =>
    rw [hB] at HA
    have HA := Lib.hid HA
    clear hB
    rcases hpl with hneg | hpos
    · rw [if_neg (show ¬ (true = true ∧ 0 ≤ pl) from fun h => by omega), if_neg (show ¬ true = false by simp), if_pos hneg]
      simp only [List.length_nil]
      go_enter Tryd.func62, Tryd.ntmps62
      go_wp2_with fail
      refine HA.out.mono ?_
      rintro e w1 ⟨rfl, hD, hK⟩
      have HD := Lib.hid (HF.out w1 hD hK w1 none 0 [] (HNil.out w1))
      clear hD hK
      go_wp2_with fail
      exact bodyPost_ret (v := .tuple #[.slice none 0 0, .int .i64 61]) (by simp [results, Tryd.results62, go_sem]) rfl ⟨none, 0, rfl, HD.out⟩
    · by_cases hneg : pl < 0
      · rw [if_neg (show ¬ (true = true ∧ 0 ≤ pl) from fun h => by omega), if_neg (show ¬ true = false by simp), if_pos hneg]
        simp only [List.length_nil]
        go_enter Tryd.func62, Tryd.ntmps62
        go_wp2_with fail
        refine HA.out.mono ?_
        rintro e w1 ⟨rfl, hD, hK⟩
        have HD := Lib.hid (HF.out w1 hD hK w1 none 0 [] (HNil.out w1))
        clear hD hK
        go_wp2_with fail
        exact bodyPost_ret (v := .tuple #[.slice none 0 0, .int .i64 61]) (by simp [results, Tryd.results62, go_sem]) rfl ⟨none, 0, rfl, HD.out⟩
      · obtain ⟨i, rfl⟩ := Int.eq_ofNat_of_zero_le (show 0 ≤ pl by omega)
        rw [if_pos (show true = true ∧ (0 : Int) ≤ (i : Int) from ⟨rfl, by omega⟩), if_neg (show ¬ true = false by simp), if_neg hneg]
        simp only [Int.toNat_natCast]
        have m0 : (0 : Int) ≤ (i : Int) := by omega
        have m1 : (i : Int) < (s.P : Int) + 3 := hpos
        obtain ⟨r, hr⟩ : ∃ r, s.reads.getD i [] = r := ⟨_, rfl⟩
        rw [hr]
        obtain ⟨RL, hRL⟩ : ∃ RL, r.length = RL := ⟨_, rfl⟩
        rw [hRL]
        have HR2 := Lib.hid hr
        have HR3 := Lib.hid hRL
        clear hr hRL
        go_enter Tryd.func62, Tryd.ntmps62
        go_wp2_with fail
        refine HA.out.mono ?_
        rintro e w1 ⟨rfl, hD, hK⟩
        have c4 := hD.row.cell (j := 4) (v := .slice (some ⟨q.g2, 0, none⟩) (T.P + 3) (T.P + 3)) rfl
        obtain ⟨b, cc, hrow, hvs, _, hown⟩ := hD.reads.cell (i := i) (by rw [e1]; omega)
        have hcv := hD.reads.row.cell hvs
        have hlen := hD.ok.reads.each i _ hrow
        have hhi := sizeD_hi T.P T.K i
        have hk1 := hD.ok.k1
        have hbl : (T.reads.getD i []).length ≤ 200 := by rw [hlen]; omega
        have PC := bclone_any (own_at hown).2 rfl (by omega)
        rw [e5] at PC hcv
        rw [e1] at c4
        have HPC := Lib.hid PC
        have HD := Lib.hid (HF.out w1 hD hK)
        rw [HR2.out, HR3.out] at HPC hcv
        clear PC hD hK hrow hvs hown hlen hhi hk1 hbl hpos hneg
        go_wp2_with fail
        refine HPC.out.mono ?_
        rintro e w2 ⟨A', c', rfl, hN⟩
        go_wp2_with fail
        exact bodyPost_ret (v := .tuple #[.slice A' RL c', .int .i64 0]) (by simp [results, Tryd.results62, go_sem]) rfl ⟨A', c', rfl, HD.out w2 A' c' r hN⟩
end Go.Proofs.YtapoknpakleiiaaDoor
