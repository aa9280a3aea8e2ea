import Derived.Test.YtapoknpakleiiaaDoorDisk5
/- The contracts of package disk: ReadPage, ReadPair, ReadMaster; the closure of a write. -/
set_option linter.unusedVariables false
set_option linter.unusedSimpArgs false
namespace Go.Proofs.YtapoknpakleiiaaDoor
open Go.RowKit Go.Tm
set_option maxHeartbeats 400000
set_option maxRecDepth 100000
attribute [local go_sem ↓] Go.wp_at_zero Go.wp_at_succ

theorem pageI_hi (P : Nat) (n : Int) : pageI P n < 0 ∨ pageI P n < (P : Int) + 3 := by
  unfold pageI
  split
  · exact .inr (by omega)
  · exact .inl (by omega)
theorem masterI_hi (P : Nat) (n : Int) : masterI P n < 0 ∨ masterI P n < (P : Int) + 3 := by
  unfold masterI
  split
  · exact .inr (by omega)
  · exact .inl (by omega)

theorem readPage_any {w : World} {χ : Col} {j p : Nat} {s : DSt} (hd : IsDisk w χ j p s) (ha : s.acts < 4611686018427387904) (n : Int) (x : Nat × Nat) :
    Calls Tryd.prog 28 #[.pointer (some ⟨p, 0, none⟩), .int .i64 n] w fun e w' => ∃ A c, e = .returned (.tuple #[.slice A (readV s (pageI s.P n)).length c, .int .i64 (readE s (pageI s.P n))]) ∧ ReadD w w' χ (paint w.heap.size χ x) j p (actS s) A c (readV s (pageI s.P n)) := by
  obtain ⟨q, h⟩ := hd
  have HP := Lib.hid (page_any_d h n)
  have HR := Lib.hid (read_any_d h ha (pageI s.P n) (pageI_hi _ _) x)
  obtain ⟨i, hi⟩ : ∃ i, pageI s.P n = i := ⟨_, rfl⟩
  rw [hi] at HP HR ⊢
  obtain ⟨b, hb⟩ : ∃ b, readV s i = b := ⟨_, rfl⟩
  obtain ⟨E, hE⟩ : ∃ E, readE s i = E := ⟨_, rfl⟩
  rw [hb, hE] at HR
  rw [hb, hE]
  obtain ⟨L, hL⟩ : ∃ L, b.length = L := ⟨_, rfl⟩
  rw [hL] at HR ⊢
  clear h hi hb hE hL ha
  go_enter Tryd.func28, Tryd.ntmps28
  go_wp2_with fail
  refine HP.out.mono ?_
  rintro e wx ⟨rfl, rfl⟩
  go_wp2_with fail
  refine HR.out.mono ?_
  rintro e w1 ⟨A, c, rfl, hD⟩
  go_wp2_with fail
  exact bodyPost_ret (v := .tuple #[.slice A L c, .int .i64 E]) (by simp [results, Tryd.results28, go_sem]) rfl ⟨A, c, rfl, hD⟩

theorem readPair_any {w : World} {χ : Col} {j p : Nat} {s : DSt} (hd : IsDisk w χ j p s) (ha : s.acts < 4611686018427387904) (x : Nat × Nat) :
    Calls Tryd.prog 29 #[.pointer (some ⟨p, 0, none⟩)] w fun e w' => ∃ A c, e = .returned (.tuple #[.slice A (readV s (s.P : Int)).length c, .int .i64 (readE s (s.P : Int))]) ∧ ReadD w w' χ (paint w.heap.size χ x) j p (actS s) A c (readV s (s.P : Int)) := by
  obtain ⟨q, h⟩ := hd
  have c0 := h.row.cell (j := 0) (v := .int .i64 s.P) rfl
  have HR := Lib.hid (read_any_d h ha (s.P : Int) (.inr (by omega)) x)
  obtain ⟨b, hb⟩ : ∃ b, readV s (s.P : Int) = b := ⟨_, rfl⟩
  obtain ⟨E, hE⟩ : ∃ E, readE s (s.P : Int) = E := ⟨_, rfl⟩
  rw [hb, hE] at HR
  rw [hb, hE]
  obtain ⟨L, hL⟩ : ∃ L, b.length = L := ⟨_, rfl⟩
  rw [hL] at HR ⊢
  clear h hb hE hL ha
  go_enter Tryd.func29, Tryd.ntmps29
  go_wp2_with fail
  refine HR.out.mono ?_
  rintro e w1 ⟨A, c, rfl, hD⟩
  go_wp2_with fail
  exact bodyPost_ret (v := .tuple #[.slice A L c, .int .i64 E]) (by simp [results, Tryd.results29, go_sem]) rfl ⟨A, c, rfl, hD⟩

theorem dlay_any {w : World} {χ : Col} {j t g k : Nat} {vs : List Value} {rows : List (List UInt8)} (hG : GroundK w χ j t g vs rows k) (hk : rows.length = k) (hk99 : k ≤ 99) (x : Wr) (hx : x.pl < k) (hlen : x.bs.length = (rows.getD x.pl []).length)
    {b1 b2 b3 c : Nat} (r1 : RowC w b1 3 [.int .i64 (x.pl : Int)]) (r2 : RowC w b2 22 [.slice (some ⟨b3, 0, none⟩) x.bs.length c]) (r3 : Own8 w 0 5 (.slice (some ⟨b3, 0, none⟩) x.bs.length c) x.bs) (n : Nat) (hn : n ≤ x.bs.length) (hl : x.bs.length ≤ 200) :
    Calls Tryd.prog 101 #[.slice (some ⟨g, 0, none⟩) k k, .int .i64 n, .pointer (some ⟨b1, 0, none⟩), .pointer (some ⟨b2, 0, none⟩)] w fun e w' => (∃ v, e = .returned v) ∧ GroundK w' χ j t g vs (layR rows x n) k ∧ KeptBut (fun q => χ q = (j, t + 1 + x.pl)) w w' := by
  obtain ⟨b, cb, hrow, hvs, hcol, hown⟩ := hG.cell hx
  have cv := hG.row.cell hvs
  have c1 := r1.cell (j := 0) (v := .int .i64 (x.pl : Int)) rfl
  have c2 := r2.cell (j := 0) (v := .slice (some ⟨b3, 0, none⟩) x.bs.length c) rfl
  have hr3 := (own_at r3).2
  have hc3 := hr3.cap
  have hsrc : Rda w.drew (some ⟨b3, 0, none⟩) c (x.bs.take n) := (hr3.take n hn).drew
  have htl : (x.bs.take n).length = n := by rw [List.length_take]; omega
  have hdst : Own8 w.drew 0 5 (.slice (some ⟨b, 0, none⟩) (rows.getD x.pl []).length cb) (rows.getD x.pl []) := hown.below (Below.refl _ _).drew
  have m0 : (0 : Int) ≤ (x.pl : Int) := by omega
  have m1 : (x.pl : Int) < (k : Int) := by omega
  have m2 : (0 : Int) ≤ (n : Int) := by omega
  have m3 : (n : Int) ≤ (c : Int) := by omega
  have hle : (x.bs.take n).length ≤ (rows.getD x.pl []).length := by rw [htl]; omega
  have HG := Lib.hid hG
  have HV := Lib.hid hvs
  have HC := Lib.hid hcol
  have HLL : Hid ((layL (rows.getD x.pl []) 0 (x.bs.take n)).length = (rows.getD x.pl []).length) := Lib.hid (layL_length _ _ _ (by omega))
  obtain ⟨src, hs⟩ : ∃ src, x.bs.take n = src := ⟨_, rfl⟩
  have HS := Lib.hid hs
  rw [hs] at hsrc htl hle HLL
  obtain ⟨R, hR⟩ : ∃ R, rows.getD x.pl [] = R := ⟨_, rfl⟩
  have HR := Lib.hid hR
  rw [hR] at hdst hle cv HLL HV
  obtain ⟨RL, hRL⟩ : ∃ RL, R.length = RL := ⟨_, rfl⟩
  rw [hRL] at hdst cv
  have HRL := Lib.hid hRL
  obtain ⟨XL, hXL⟩ : ∃ XL, x.bs.length = XL := ⟨_, rfl⟩
  rw [hXL] at c2
  obtain ⟨pl, hpl⟩ : ∃ pl, x.pl = pl := ⟨_, rfl⟩
  rw [hpl] at c1 cv m0 m1
  have HPL := Lib.hid hpl
  have HX := Lib.hid hx
  clear hG hvs hcol hs hR hrow hown hr3 hlen hn hXL hRL hpl hx
  go_enter Tryd.func101, Tryd.ntmps101
  go_wp2_with fail
  go_still_tail 7, (by kernel_rfl)
  change wpList _ _ _ _ _ w.drew
  refine wpList_copyOwn8 rfl _ _ rfl tU8 rfl rfl hdst hsrc htl.symm hle ?_
  intro w1 hO hg
  have G0 : GroundK w.drew χ j t g vs rows k := HG.out.below (Ext.refl _ _) (Below.refl _ _).drew
  have hG1 : GroundK w1 χ j t g vs (layR rows x n) k := by
    unfold layR
    rw [HS.out, HR.out]
    refine G0.lay HX.out (b := b) (c := cb) ?_ ?_ hg
    · rw [HR.out]
      exact HV.out
    · rw [HR.out, HRL.out]
      exact hO
  have hK : KeptBut (fun q => χ q = (j, t + 1 + x.pl)) w w1 := ⟨hg.os, hg.tape, hg.output, hg.size, fun q hq hne => hg.block q hq (fun e => by injection e with e; rw [e] at hne; exact hne HC.out)⟩
  have HF := Lib.hid (And.intro hG1 hK)
  clear hO hg G0 hG1 hK
  go_wp2_with fail
  go_end0
  exact ⟨⟨_, rfl⟩, HF.out.1, HF.out.2⟩
end Go.Proofs.YtapoknpakleiiaaDoor
