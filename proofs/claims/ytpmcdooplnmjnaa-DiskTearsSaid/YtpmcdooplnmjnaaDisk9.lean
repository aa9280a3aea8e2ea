import Derived.Test.YtpmcdooplnmjnaaDisk8
import Derived.Test.YtpmcdooplnmjnaaDiskMem3
/- The contracts of package disk: the log. -/
set_option linter.unusedVariables false
set_option linter.unusedSimpArgs false
namespace Go.Proofs.Ytpmcdooplnmjnaa
open Go.RowKit Go.Tm
set_option maxHeartbeats 400000
set_option maxRecDepth 100000
attribute [local go_sem ↓] Go.wp_at_zero Go.wp_at_succ

theorem ActD.of_act0 {w w1 w2 : World} {χ : Col} {j p : Nat} {s : DSt} {q : DPl} (hD : DiskR w1 χ j p s q) (hK : KeptBut (fun k => k = p) w w1) (hb : Below w1.heap.size w1 w2) : ActD w w2 χ χ j p s :=
  ⟨⟨q, hD.below (Ext.refl _ _) hb⟩, (Touch.of_own hK (by rw [hD.col]) (Ext.refl _ _)).below (Ext.refl _ _) hb⟩

set_option maxHeartbeats 1600000 in
theorem syncLog_any {w : World} {χ : Col} {j p : Nat} {s : DSt} (hd : IsDisk w χ j p s) (ha : s.acts < 4611686018427387904) :
    Calls Try.prog 38 #[.pointer (some ⟨p, 0, none⟩)] w fun e w' => e = .returned (.int .i64 (syncLogE s)) ∧ ActD w w' χ χ j p (syncLogS s) := by
  obtain ⟨q, h⟩ := hd
  have HA := act_any h ha
  obtain ⟨e1, e2, e3, e4, e5, e6, e7, e8, e9⟩ := actS_same s
  have hok := syncLogS_ok h.ok
  unfold syncLogS syncLogE at *
  cases hB : actB s with
  | false =>
    rw [hB] at HA
    rw [if_pos rfl, if_pos rfl]
    have HA := Lib.hid HA
    clear h ha hB hok
    go_enter Try.func38, Try.ntmps38
    go_wp2_with fail
    refine HA.out.mono ?_
    rintro e w1 ⟨rfl, hD, hK⟩
    have HF := Lib.hid (ActD.of_act0 hD hK (Below.refl _ _))
    clear hD hK
    go_wp2_with fail
    go_ret
    exact ⟨rfl, HF.out⟩
  | true =>
    rw [hB] at HA hok
    rw [if_neg (by decide)] at hok
    rw [if_neg (by decide), if_neg (by decide)]
    have HA := Lib.hid HA
    clear h ha hB
    go_enter Try.func38, Try.ntmps38
    go_wp2_with fail
    refine HA.out.mono ?_
    rintro e w1 ⟨rfl, hD, hK⟩
    obtain ⟨A, c, hv, _⟩ := own_rda hD.log.own
    have c6 := hD.row.cell (j := 6) (v := q.vg) rfl
    have c7 := hD.row.cell (j := 7) (v := .int .i64 (actS s).lasted) rfl
    have f7 := hD.row.free 7
    rw [hv, e7] at c6
    have hg := cell_grown w1 p 7 (.int .i64 (s.log.length : Int))
    have hr := hD.row.stored 7 (.int .i64 (s.log.length : Int))
    have HF : Hid (ActD w (w1.setCell ⟨p, 7, none⟩ (.int .i64 (s.log.length : Int))) χ χ j p { actS s with lasted := s.log.length }) := Lib.hid
      ⟨⟨q, hD.restate hg hr rfl rfl rfl rfl rfl hok⟩, (Touch.of_own hK (by rw [hD.col]) (Ext.refl _ _)).trans (Touch.of_own (kept_grown hg) (by rw [hD.col]) (Ext.refl _ _))⟩
    have hlt := hD.row.lt
    clear hD hK hg hr hv hok
    go_wp2_with fail
    go_ret
    exact ⟨rfl, HF.out⟩

set_option maxHeartbeats 1600000 in
theorem cut_any {w : World} {χ : Col} {j p : Nat} {s : DSt} (hd : IsDisk w χ j p s) (ha : s.acts < 4611686018427387904) (n : Int) :
    Calls Try.prog 71 #[.pointer (some ⟨p, 0, none⟩), .int .i64 n] w fun e w' => e = .returned (.int .i64 (cutE s n)) ∧ ∃ χ', ActD w w' χ χ' j p (cutS s n) := by
  obtain ⟨q, h⟩ := hd
  have HA := act_any h ha
  obtain ⟨e1, e2, e3, e4, e5, e6, e7, e8, e9⟩ := actS_same s
  have hok := cutS_ok h.ok n
  have hM := h.ok.log
  have hM1 := h.ok.m1
  have hM2 := h.ok.lasted
  cases hB : actB s with
  | false =>
    rw [hB] at HA
    have x1 : cutE s n = 1 := by unfold cutE; rw [if_pos hB]
    have x2 : cutS s n = actS s := by unfold cutS; rw [if_neg (by rw [x1]; decide)]
    rw [x1, x2]
    have HA := Lib.hid HA
    clear h ha hB hok x1 x2
    go_enter Try.func71, Try.ntmps71
    go_wp2_with fail
    refine HA.out.mono ?_
    rintro e w1 ⟨rfl, hD, hK⟩
    have HF := Lib.hid (ActD.of_act0 hD hK (Below.refl _ _))
    clear hD hK
    go_wp2_with fail
    go_ret
    exact ⟨rfl, _, HF.out⟩
  | true =>
    rw [hB] at HA
    have HA := Lib.hid HA
    by_cases h0 : n < 0
    · have x1 : cutE s n = 61 := by unfold cutE; rw [if_neg (by rw [hB]; decide), if_pos (.inl h0)]
      have x2 : cutS s n = actS s := by unfold cutS; rw [if_neg (by rw [x1]; decide)]
      rw [x1, x2]
      clear h ha hB hok x1 x2
      go_enter Try.func71, Try.ntmps71
      go_wp2_with fail
      refine HA.out.mono ?_
      rintro e w1 ⟨rfl, hD, hK⟩
      have HF := Lib.hid (ActD.of_act0 hD hK (Below.refl _ _))
      clear hD hK
      go_wp2_with fail
      go_ret
      exact ⟨rfl, _, HF.out⟩
    · obtain ⟨N, rfl⟩ := Int.eq_ofNat_of_zero_le (show 0 ≤ n by omega)
      by_cases h1 : s.log.length < N
      · have h1' : (s.log.length : Int) < (N : Int) := by omega
        have x1 : cutE s (N : Int) = 61 := by unfold cutE; rw [if_neg (by rw [hB]; decide), if_pos (.inr h1')]
        have x2 : cutS s (N : Int) = actS s := by unfold cutS; rw [if_neg (by rw [x1]; decide)]
        rw [x1, x2]
        clear h ha hB hok x1 x2
        go_enter Try.func71, Try.ntmps71
        go_wp2_with fail
        refine HA.out.mono ?_
        rintro e w1 ⟨rfl, hD, hK⟩
        obtain ⟨A, c, hv, _⟩ := own_rda hD.log.own
        have c6 := hD.row.cell (j := 6) (v := q.vg) rfl
        rw [hv, e7] at c6
        have HF := Lib.hid (ActD.of_act0 hD hK (Below.refl _ _))
        clear hD hK hv
        go_wp2_with fail
        go_ret
        exact ⟨rfl, _, HF.out⟩
      · have h1' : ¬ (s.log.length : Int) < (N : Int) := by omega
        have x1 : cutE s (N : Int) = 0 := by unfold cutE; rw [if_neg (by rw [hB]; decide), if_neg (fun h => by rcases h with h | h <;> omega)]
        have x2 : cutS s (N : Int) = { actS s with log := s.log.take N, lasted := min s.lasted N } := by unfold cutS; rw [if_pos x1]; rfl
        rw [x2] at hok
        rw [x1, x2]
        clear h ha hB x1 x2
        obtain ⟨S', hS'⟩ : ∃ S', { actS s with log := s.log.take N, lasted := min s.lasted N } = S' := ⟨_, rfl⟩
        have HS' := Lib.hid hS'
        rw [hS']
        clear hS'
        go_enter Try.func71, Try.ntmps71
        go_wp2_with fail
        refine HA.out.mono ?_
        rintro e w1 ⟨rfl, hD, hK⟩
        obtain ⟨A, c, hv, hrd⟩ := own_rda hD.log.own
        have c6 := hD.row.cell (j := 6) (v := q.vg) rfl
        have c7 := hD.row.cell (j := 7) (v := .int .i64 (actS s).lasted) rfl
        have f6 := hD.row.free 6
        have f7 := hD.row.free 7
        have hcap := hrd.cap
        rw [e7] at hcap
        rw [e8] at c7
        rw [hv, e7] at c6
        have hcN : N ≤ c := by omega
        have hO : Own8 w1 0 5 (.slice A N c) ((actS s).log.take N) := by have := hD.log.own; rw [hv] at this; exact own8_take this (by rw [e7]; omega)
        rw [e7] at hO
        have g1 := cell_grown w1 p 6 (.slice A N c)
        have g2 := cell_grown (w1.setCell ⟨p, 6, none⟩ (.slice A N c)) p 7 (.int .i64 ((min s.lasted N : Nat) : Int))
        have HF : Hid (ActD w ((w1.setCell ⟨p, 6, none⟩ (.slice A N c)).setCell ⟨p, 7, none⟩ (.int .i64 ((min s.lasted N : Nat) : Int))) χ (paint w1.heap.size χ (j, 5)) j p { actS s with log := s.log.take N, lasted := min s.lasted N }) := Lib.hid (by
          have hh := DiskR.relog hD hO (grown_refl _ _) (fun k hk => .inl (by rw [hv]; cases A <;> simp_all [Value.ownBlock])) (grown_trans g1 g2) (fun hr => (hr.stored 6 _).stored 7 _) hok
          exact ⟨⟨_, hh.1⟩, (Touch.of_own hK (by rw [hD.col]) (Ext.refl _ _)).trans ⟨hh.2, paint_ext _ _ _⟩⟩)
        have hlt := hD.row.lt
        rw [HS'.out] at HF
        clear hD hK hv hok g1 g2 hO hrd e1 e2 e3 e4 e5 e6 e7 e8 e9
        by_cases hlN : N < s.lasted
        · rw [Nat.min_eq_right (by omega)] at HF
          have h3 : (N : Int) < (s.lasted : Int) := by omega
          go_wp2_with fail
          go_ret
          exact ⟨rfl, _, HF.out⟩
        · rw [Nat.min_eq_left (by omega)] at HF
          have h3 : ¬ (N : Int) < (s.lasted : Int) := by omega
          go_wp2_with fail
          go_ret
          exact ⟨rfl, _, HF.out⟩

set_option maxHeartbeats 1600000 in
theorem append_any {w : World} {χ : Col} {j p : Nat} {s : DSt} (hd : IsDisk w χ j p s) (ha : s.acts < 4611686018427387904) {A : Option Addr} {c : Nat} {b : List UInt8} (hb : Rda w A c b) (hbl : b.length ≤ 140737488351232) (hA : ∀ a, A = some a → χ a.block ≠ (j, 1)) {L : Nat} (hL : L = b.length) :
    Calls Try.prog 48 #[.pointer (some ⟨p, 0, none⟩), .slice A L c] w fun e w' => ∃ χ', e = .returned (.int .i64 (appendE s b)) ∧ ActD w w' χ χ' j p (appendS s b) := by
  have HL := Lib.hid hL
  obtain ⟨q, h⟩ := hd
  have HA := act_any h ha
  obtain ⟨e1, e2, e3, e4, e5, e6, e7, e8, e9⟩ := actS_same s
  have hok := appendS_ok h.ok b
  have hM := h.ok.log
  have hM1 := h.ok.m1
  cases hB : actB s with
  | false =>
    rw [hB] at HA
    have x1 : appendE s b = 1 := by unfold appendE; rw [if_pos hB]
    have x2 : appendS s b = actS s := by unfold appendS; rw [if_neg (by rw [x1]; decide)]
    rw [x1, x2]
    have HA := Lib.hid HA
    clear h ha hB hok x1 x2 hb hA hL
    go_enter Try.func48, Try.ntmps48
    go_wp2_with fail
    refine HA.out.mono ?_
    rintro e w1 ⟨rfl, hD, hK⟩
    have HF := Lib.hid (ActD.of_act0 hD hK (Below.refl _ _))
    clear hD hK
    go_wp2_with fail
    go_ret
    exact ⟨_, rfl, HF.out⟩
  | true =>
    rw [hB] at HA
    have HA := Lib.hid HA
    have HI : IntKind.i64.wrap ((s.M : Int) - (s.log.length : Int)) = (s.M : Int) - (s.log.length : Int) := IntWalk.i64_in _ (by omega)
    by_cases h1 : s.M - s.log.length < b.length
    · have h1' : decide ((s.M : Int) - (s.log.length : Int) < (L : Int)) = true := decide_eq_true (by omega)
      have x1 : appendE s b = 63 := by unfold appendE; rw [if_neg (by rw [hB]; decide), if_pos h1]
      have x2 : appendS s b = actS s := by unfold appendS; rw [if_neg (by rw [x1]; decide)]
      rw [x1, x2]
      clear h ha hB hok x1 x2 hb hA hL
      go_enter Try.func48, Try.ntmps48
      go_wp2_with fail
      refine HA.out.mono ?_
      rintro e w1 ⟨rfl, hD, hK⟩
      obtain ⟨A, c, hv, _⟩ := own_rda hD.log.own
      have c6 := hD.row.cell (j := 6) (v := q.vg) rfl
      have c2 := hD.row.cell (j := 2) (v := .int .i64 (actS s).M) rfl
      rw [hv, e7] at c6
      rw [e3] at c2
      have HF := Lib.hid (fun W hb => ActD.of_act0 (w2 := W) hD hK hb)
      clear hD hK hv h1
      go_wp2_with fail
      go_quiet (fail)
      go_wp2_with fail
      go_ret
      exact ⟨_, rfl, HF.out _ (drewN_below _ _)⟩
    · have h1' : decide ((s.M : Int) - (s.log.length : Int) < (L : Int)) = false := decide_eq_false (by omega)
      have x1 : appendE s b = 0 := by unfold appendE; rw [if_neg (by rw [hB]; decide), if_neg h1]
      have x2 : appendS s b = { actS s with log := s.log ++ b } := by unfold appendS; rw [if_pos x1]
      rw [x2] at hok
      rw [x1, x2]
      have hcol := h.col
      clear h ha hB x1 x2
      obtain ⟨S', hS'⟩ : ∃ S', { actS s with log := s.log ++ b } = S' := ⟨_, rfl⟩
      have HS' := Lib.hid hS'
      rw [hS']
      have hll : s.log.length + b.length ≤ 140737488355328 := by omega
      clear hS' hL h1
      go_enter Try.func48, Try.ntmps48
      go_wp2_with fail
      refine HA.out.mono ?_
      rintro e w1 ⟨rfl, hD, hK⟩
      obtain ⟨A1, c1, hv, hrd⟩ := own_rda hD.log.own
      have c6 := hD.row.cell (j := 6) (v := q.vg) rfl
      have c2 := hD.row.cell (j := 2) (v := .int .i64 (actS s).M) rfl
      have f6 := hD.row.free 6
      rw [hv, e7] at c6
      rw [e3] at c2
      have hb1 : Rda w1 A c b := hb.kept fun bb o e jj v hj => (World.cell?_of_block (hK.block bb (World.block_lt_of_cell? _ _ hj) (fun e2 => hA _ e (by rw [e2]; exact hcol)))).trans hj
      have hO := hD.log.own
      rw [hv, e7] at hO
      have HF : Hid (∀ n v' w', Own8 w' 0 5 v' (s.log ++ b) → AppTwo (w1.drewN n) w' (.slice A1 s.log.length c1) v' → ActD w (w'.setCell ⟨p, 6, none⟩ v') χ (paint (w1.drewN n).heap.size χ (j, 5)) j p S') := Lib.hid fun n v' w' hO' hA' => by
        have hD' := hD.below (Ext.refl _ _) (drewN_below w1 n)
        have hh := DiskR.relog (v := v') (l := s.log ++ b) (la := (actS s).lasted) hD' hO' (by rw [hv, e7]; exact hA'.grown) (fun k hk => by
          rcases hA'.at_ with h | h
          · exact .inl (by rw [hv, e7, ← h]; exact hk)
          · exact .inr (by rw [h] at hk; injection hk with hk; omega)) (cell_grown w' p 6 v') (fun hr => hr.stored 6 _) (by exact hok)
        rw [← HS'.out]
        exact ⟨⟨_, hh.1⟩, ((Touch.of_own hK (by rw [hcol]) (Ext.refl _ _)).below (Ext.refl _ _) (drewN_below w1 n)).trans ⟨hh.2, paint_ext _ _ _⟩⟩
      have hOn := Lib.hid (fun n => Own8.below hO (drewN_below w1 n))
      have hRn := Lib.hid (fun n => Rda.below hb1 (drewN_below w1 n))
      have HRW : Hid (∀ n w', (w1.drewN n).grownBy w' (Value.slice A1 s.log.length c1).ownBlock → w'.cell? ⟨p, 6, none⟩ = some (.slice A1 s.log.length c1) ∧ w'.frozen? ⟨p, 6, none⟩ = false) := Lib.hid fun n w' hg => by
        have hr := (hD.row.below (drewN_below w1 n)).grown hg (fun e => by have := hD.log.col p (by rw [hv, e7]; exact e); rw [hcol] at this; injection this with _ this; omega)
        have := hr.cell (j := 6) (v := q.vg) rfl
        rw [hv, e7] at this
        exact ⟨this, hr.free 6⟩
      clear hD hK hv hok e1 e2 e3 e4 e5 e6 e7 e8 e9 hb1 hb hO hrd hA hcol
      go_wp2_with fail
      go_quiet (fail)
      go_wp2_with (at_builtin; refine wpList_app2 rfl _ _ rfl tU8 rfl (hOn.out nq) rfl HL.out (hRn.out nq) hll (Nat.zero_le _) ?_)
      intro v' w' hO' hA'
      obtain ⟨A2, c2', hv2, _⟩ := own_rda hO'
      have HG := Lib.hid (HF.out nq v' w' hO' hA')
      obtain ⟨d6, g6⟩ := HRW.out nq w' hA'.grown
      obtain ⟨L2, hL2⟩ : ∃ L2, (s.log ++ b).length = L2 := ⟨_, rfl⟩
      rw [hL2] at hv2
      subst hv2
      clear HF HRW hO' hA' hL2
      go_wp2_with fail
      go_ret
      exact ⟨_, rfl, HG.out⟩

set_option maxHeartbeats 1600000 in
theorem readLog_any {w : World} {χ : Col} {j p : Nat} {s : DSt} (hd : IsDisk w χ j p s) (ha : s.acts < 4611686018427387904) (f n : Int) (x : Nat × Nat) :
    Calls Try.prog 30 #[.pointer (some ⟨p, 0, none⟩), .int .i64 f, .int .i64 n] w fun e w' => ∃ A c, e = .returned (.tuple #[.slice A (readLogV s f n).length c, .int .i64 (readLogE s f n)]) ∧ ReadD w w' χ (paint w.heap.size χ x) j p (actS s) A c (readLogV s f n) := by
  obtain ⟨q, h⟩ := hd
  have h1 := h.below (paint_ext w.heap.size χ x) (Below.refl _ _)
  have HA := act_any h1 ha
  obtain ⟨e1, e2, e3, e4, e5, e6, e7, e8, e9⟩ := actS_same s
  have hcol := h.col
  have HF : Hid (∀ (w1 : World), DiskR w1 (paint w.heap.size χ x) j p (actS s) q → KeptBut (fun k => k = p) w w1 → ∀ w2 A c b, New 5 w1 w2 A c b → ReadD w w2 χ (paint w.heap.size χ x) j p (actS s) A c b) := Lib.hid fun w1 hD hK w2 A c b hN =>
    ⟨⟨q, hD.below (Ext.refl _ _) hN.below⟩, Touch.of_own (hK.below hN.below) (by rw [hcol]) (paint_ext _ _ _), Own8.mono hN.own hK.size⟩
  have HNil := Lib.hid (fun (W : World) => (⟨Own8.nilRow W W.heap.size 5, Below.refl _ _⟩ : New 5 W W none 0 []))
  have hM := h.ok.log
  have hM1 := h.ok.m1
  obtain ⟨χ1, hχ1⟩ : ∃ χ1, paint w.heap.size χ x = χ1 := ⟨_, rfl⟩
  rw [hχ1] at HA HF
  rw [hχ1]
  clear h h1 hcol ha hχ1
  obtain ⟨T, hT⟩ : ∃ T, actS s = T := ⟨_, rfl⟩
  rw [hT] at HA HF e7
  rw [hT]
  clear e1 e2 e3 e4 e5 e6 e8 e9 hT
  cases hB : actB s with
  | false =>
    rw [hB] at HA
    have HA := Lib.hid HA
    have x1 : readLogE s f n = 1 := by unfold readLogE; rw [if_pos hB]
    have x2 : readLogV s f n = [] := by unfold readLogV; rw [if_neg (by rw [x1]; decide)]
    rw [x1, x2, List.length_nil]
    clear hB x1 x2
    go_enter Try.func30, Try.ntmps30
    go_wp2_with fail
    refine HA.out.mono ?_
    rintro e w1 ⟨rfl, hD, hK⟩
    have HD := Lib.hid (HF.out w1 hD hK w1 none 0 [] (HNil.out w1))
    clear hD hK
    go_wp2_with fail
    exact bodyPost_ret (v := .tuple #[.slice none 0 0, .int .i64 1]) (by simp [results, Try.results30, go_sem]) rfl ⟨none, 0, rfl, HD.out⟩
  | true =>
    rw [hB] at HA
    have HA := Lib.hid HA
    by_cases hbad : f < 0 ∨ (s.log.length : Int) < f ∨ n < 0
    · have x1 : readLogE s f n = 61 := by unfold readLogE; rw [if_neg (by rw [hB]; decide), if_pos hbad]
      have x2 : readLogV s f n = [] := by unfold readLogV; rw [if_neg (by rw [x1]; decide)]
      rw [x1, x2, List.length_nil]
      clear hB x1 x2
      by_cases h0 : f < 0
      · clear hbad
        go_enter Try.func30, Try.ntmps30
        go_wp2_with fail
        refine HA.out.mono ?_
        rintro e w1 ⟨rfl, hD, hK⟩
        have HD := Lib.hid (HF.out w1 hD hK w1 none 0 [] (HNil.out w1))
        clear hD hK
        go_wp2_with fail
        exact bodyPost_ret (v := .tuple #[.slice none 0 0, .int .i64 61]) (by simp [results, Try.results30, go_sem]) rfl ⟨none, 0, rfl, HD.out⟩
      · by_cases h1 : (s.log.length : Int) < f
        · clear hbad
          go_enter Try.func30, Try.ntmps30
          go_wp2_with fail
          refine HA.out.mono ?_
          rintro e w1 ⟨rfl, hD, hK⟩
          obtain ⟨A, c, hv, hrd⟩ := own_rda hD.log.own
          have c6 := hD.row.cell (j := 6) (v := q.vg) rfl
          rw [hv, e7] at c6
          have HD := Lib.hid (HF.out w1 hD hK w1 none 0 [] (HNil.out w1))
          clear hD hK hv hrd
          go_wp2_with fail
          exact bodyPost_ret (v := .tuple #[.slice none 0 0, .int .i64 61]) (by simp [results, Try.results30, go_sem]) rfl ⟨none, 0, rfl, HD.out⟩
        · have h2 : n < 0 := by omega
          clear hbad
          go_enter Try.func30, Try.ntmps30
          go_wp2_with fail
          refine HA.out.mono ?_
          rintro e w1 ⟨rfl, hD, hK⟩
          obtain ⟨A, c, hv, hrd⟩ := own_rda hD.log.own
          have c6 := hD.row.cell (j := 6) (v := q.vg) rfl
          rw [hv, e7] at c6
          have HD := Lib.hid (HF.out w1 hD hK w1 none 0 [] (HNil.out w1))
          clear hD hK hv hrd
          go_wp2_with fail
          exact bodyPost_ret (v := .tuple #[.slice none 0 0, .int .i64 61]) (by simp [results, Try.results30, go_sem]) rfl ⟨none, 0, rfl, HD.out⟩
    · obtain ⟨F, rfl⟩ := Int.eq_ofNat_of_zero_le (show 0 ≤ f by omega)
      obtain ⟨N, rfl⟩ := Int.eq_ofNat_of_zero_le (show 0 ≤ n by omega)
      have x1 : readLogE s (F : Int) (N : Int) = 0 := by unfold readLogE; rw [if_neg (by rw [hB]; decide), if_neg hbad]
      have x2 : readLogV s (F : Int) (N : Int) = (s.log.drop F).take (min N (s.log.length - F)) := by unfold readLogV; rw [if_pos x1]; rfl
      have hF : F ≤ s.log.length := by omega
      rw [x1, x2]
      have g0 : ¬ (F : Int) < 0 := by omega
      have g1 : ¬ (s.log.length : Int) < (F : Int) := by omega
      have g2 : ¬ (N : Int) < 0 := by omega
      have i1 : IntKind.i64.wrap ((s.log.length : Int) - (F : Int)) = (s.log.length : Int) - (F : Int) := IntWalk.i64_in _ (by omega)
      clear hB x1 x2 hbad
      obtain ⟨K, hK⟩ : ∃ K, min N (s.log.length - F) = K := ⟨_, rfl⟩
      have hKl : F + K ≤ s.log.length := by omega
      have i2 : IntKind.i64.wrap ((F : Int) + (K : Int)) = (F : Int) + (K : Int) := IntWalk.i64_in _ (by omega)
      have hmin : (N ≤ s.log.length - F ∧ N = K) ∨ (s.log.length - F < N ∧ (s.log.length : Int) - (F : Int) = (K : Int)) := by omega
      have hvl : ((s.log.drop F).take K).length = K := by rw [List.length_take, List.length_drop]; omega
      rw [hK]
      obtain ⟨V, hV⟩ : ∃ V, (s.log.drop F).take K = V := ⟨_, rfl⟩
      rw [hV] at hvl ⊢
      have HV := Lib.hid hV
      have HVL := Lib.hid hvl
      rw [hvl]
      clear hK hV hvl
      go_enter Try.func30, Try.ntmps30
      go_wp2_with fail
      refine HA.out.mono ?_
      rintro e w1 ⟨rfl, hD, hK⟩
      obtain ⟨A, c, hv, hrd⟩ := own_rda hD.log.own
      have c6 := hD.row.cell (j := 6) (v := q.vg) rfl
      rw [hv, e7] at c6
      rw [e7] at hrd
      have hcap := hrd.cap
      have HP : Hid (Rda w1.drew (Tm.pieceAt A F c) (c - F) V) := Lib.hid (by
        have := Rda.pieceAt (hrd.below (below_drew1 (Below.refl _ _))) F (F + K) c (by omega) hKl (by omega) (Nat.le_refl _)
        rw [← HV.out, List.take_drop]
        exact this)
      have HD := Lib.hid (HF.out w1 hD hK)
      clear hD hK hv hrd e7
      rcases hmin with ⟨hm, hm2⟩ | ⟨hm, hm2⟩
      · subst hm2
        have d1 : (if (s.log.length : Int) - (F : Int) < (N : Int) then (s.log.length : Int) - (F : Int) else (N : Int)) = (N : Int) := if_neg (by omega)
        have d2 : (F : Int) ≤ (F : Int) + (N : Int) := by omega
        have d3 : (F : Int) + (N : Int) ≤ (c : Int) := by omega
        have d5 : ((F : Int) + (N : Int)).toNat - F = N := by omega
        have d4 : (0 : Int) ≤ (F : Int) := by omega
        go_wp2_with fail
        go_still_tail 17, (by kernel_rfl)
        change wpList _ _ _ _ _ w1.drew
        go_wp2_with fail
        refine (bclone_any HP.out HVL.out.symm (by rw [HVL.out]; omega)).mono ?_
        rintro e w2 ⟨A', c', rfl, hN⟩
        rw [HVL.out]
        have HG := Lib.hid (HD.out w2 A' c' V ⟨hN.own, below_then (below_drew1 (Below.refl _ _)) hN.below⟩)
        clear hN
        go_wp2_with fail
        exact bodyPost_ret (v := .tuple #[.slice A' N c', .int .i64 0]) (by simp [results, Try.results30, go_sem]) rfl ⟨A', c', rfl, HG.out⟩
      · have d1 : (if (s.log.length : Int) - (F : Int) < (N : Int) then (s.log.length : Int) - (F : Int) else (N : Int)) = (K : Int) := by rw [if_pos (by omega)]; exact hm2
        clear hm2
        have d2 : (F : Int) ≤ (F : Int) + (K : Int) := by omega
        have d3 : (F : Int) + (K : Int) ≤ (c : Int) := by omega
        have d5 : ((F : Int) + (K : Int)).toNat - F = K := by omega
        have d4 : (0 : Int) ≤ (F : Int) := by omega
        go_wp2_with fail
        go_still_tail 17, (by kernel_rfl)
        change wpList _ _ _ _ _ w1.drew
        go_wp2_with fail
        refine (bclone_any HP.out HVL.out.symm (by rw [HVL.out]; omega)).mono ?_
        rintro e w2 ⟨A', c', rfl, hN⟩
        rw [HVL.out]
        have HG := Lib.hid (HD.out w2 A' c' V ⟨hN.own, below_then (below_drew1 (Below.refl _ _)) hN.below⟩)
        clear hN
        go_wp2_with fail
        exact bodyPost_ret (v := .tuple #[.slice A' K c', .int .i64 0]) (by simp [results, Try.results30, go_sem]) rfl ⟨A', c', rfl, HG.out⟩
end Go.Proofs.Ytpmcdooplnmjnaa
