import Derived.Test.YtgelgjghmoddoaaDoorDisk14
/- The contracts of package disk: Copy. -/
set_option linter.unusedVariables false
set_option linter.unusedSimpArgs false
namespace Go.Proofs.YtgelgjghmoddoaaDoor
open Go.RowKit Go.Tm
set_option maxHeartbeats 400000
set_option maxRecDepth 100000
attribute [local go_sem ↓] Go.wp_at_zero Go.wp_at_succ

theorem wrC_one (w : World) (χ : Col) (L : List (Wr × Value)) (h : ∀ x ∈ L, ClosR w χ x.2 x.1) : ∀ u ∈ wrC L, u.oneCell' = true := fun u hu => by
  simp only [wrC, List.mem_flatMap] at hu
  obtain ⟨x, hx, hu⟩ := hu
  obtain ⟨b1, b2, b3, c, hf, _⟩ := h x hx
  rw [hf] at hu
  simp at hu
  rcases hu with rfl | rfl | rfl <;> rfl
theorem ownLe_news {w : World} {base : Nat} {e : TypeId} {size k c : Nat} {ad : Addr} {xs : List Value} (h : OwnLe w base e size (.slice (some ad) k c) k xs) : ∀ j u, xs[j]? = some u → w.cell? (ad.add j) = some u := fun j u hu => by
  obtain ⟨g, e1, hc, _⟩ := ownLe_cell h hu
  injection e1 with e1
  subst e1
  rw [Addr.add_lit, Nat.zero_add]
  exact hc

/-- A copy, put together. -/
theorem NewD.copied {w w1 w2 w3 w4 w5 w6 : World} {χ χ2 χ3 : Col} {j p i' g2 g3 c4 : Nat} {s : DSt} {q : DPl} {vs2 vs3 : List Value} {A4 : Option Addr} {v : Value} (h : DiskR w χ j p s q) (hi : 0 < i') (b1 : Below w.heap.size w w1) (s1 : w1.heap.size = w.heap.size)
    (N2 : NewG w1 w2 χ χ2 i' 100 g2 vs2 s.lasts) (N3 : NewG w2 w3 χ2 χ3 i' 200 g3 vs3 s.reads) (N4 : New 5 w3 w4 A4 c4 s.log) (b5 : Below w4.heap.size w4 w5) (s5 : w5.heap.size = w4.heap.size + 1)
    (r5 : RowC w5 w4.heap.size 98 (diskC (copyS s) ⟨100, 200, g2, g3, vs2, vs3, .slice none 0 0, .slice A4 s.log.length c4, []⟩)) (b6 : Below w5.heap.size w5 w6) (hO : OwnLe w6 w5.heap.size 105 3 v q.L.length (wrC q.L)) :
    ∃ χ', NewD w (w6.setCell ⟨w4.heap.size, 5, none⟩ v) χ χ' i' w4.heap.size (copyS s) := by
  have h9 := cell_grown w6 w4.heap.size 5 v
  have z2 : w1.heap.size ≤ w2.heap.size := N2.below.size
  have z3 : w2.heap.size ≤ w3.heap.size := N3.below.size
  have z4 : w3.heap.size ≤ w4.heap.size := N4.below.size
  have z6 : w5.heap.size ≤ w6.heap.size := b6.size
  have e4 := paint_ext w3.heap.size χ3 (i', 5)
  have e5 := paint_ext w4.heap.size (paint w3.heap.size χ3 (i', 5)) (i', 1)
  have e6 := paint_ext w5.heap.size (paint w4.heap.size (paint w3.heap.size χ3 (i', 5)) (i', 1)) (i', 4)
  obtain ⟨χ6, hχ6⟩ : ∃ X, paint w5.heap.size (paint w4.heap.size (paint w3.heap.size χ3 (i', 5)) (i', 1)) (i', 4) = X := ⟨_, rfl⟩
  rw [hχ6] at e6
  have x3 : Ext w3.heap.size χ3 χ6 := fun k hk => (e6 k (by omega)).trans ((e5 k (by omega)).trans (e4 k hk))
  have x2 : Ext w2.heap.size χ2 χ6 := fun k hk => (x3 k (by omega)).trans (N3.ext k hk)
  have x0 : Ext w.heap.size χ χ6 := fun k hk => (x2 k (by omega)).trans (N2.ext k (by omega))
  have cl : ∀ k, w3.heap.size ≤ k → k < w4.heap.size → χ6 k = (i', 5) := fun k h1 h2 => by rw [e6 k (by omega), e5 k h2]; exact paint_new h1
  have cp : χ6 w4.heap.size = (i', 1) := by rw [e6 _ (by omega)]; exact paint_new (Nat.le_refl _)
  have cn : ∀ k, w5.heap.size ≤ k → χ6 k = (i', 4) := fun k h1 => by rw [← hχ6]; exact paint_new h1
  have kb : ∀ k, k < w4.heap.size → (w6.setCell ⟨w4.heap.size, 5, none⟩ v).heap[k]? = w4.heap[k]? := fun k hk => (h9.block k (by omega) (fun e => by injection e with e; omega)).trans ((b6.block k (by omega)).trans (b5.block k hk))
  have k3 : ∀ k, k < w3.heap.size → (w6.setCell ⟨w4.heap.size, 5, none⟩ v).heap[k]? = w3.heap[k]? := fun k hk => (kb k (by omega)).trans (N4.below.block k hk)
  have k2 : ∀ k, k < w2.heap.size → (w6.setCell ⟨w4.heap.size, 5, none⟩ v).heap[k]? = w2.heap[k]? := fun k hk => (k3 k (by omega)).trans (N3.below.block k hk)
  have k0 : ∀ k, k < w.heap.size → (w6.setCell ⟨w4.heap.size, 5, none⟩ v).heap[k]? = w.heap[k]? := fun k hk => (k2 k (by omega)).trans ((N2.below.block k (by omega)).trans (b1.block k hk))
  have hr6 : RowC w6 w4.heap.size 98 (diskC (copyS s) ⟨100, 200, g2, g3, vs2, vs3, .slice none 0 0, .slice A4 s.log.length c4, []⟩) := (b6.block _ (by omega)).trans r5
  refine ⟨χ6, ⟨⟨100, 200, g2, g3, vs2, vs3, v, .slice A4 s.log.length c4, q.L⟩, ⟨hi, cp, hr6.stored 5 v, ⟨by simp, by simp, .inl (by simp)⟩, ?_, ?_, ⟨?_, fun k hk => cn k (ownLe_block hO hk).1, fun x hx => (h.loose.clos x hx).ext x0 fun k hk _ => k0 k hk⟩, h.look, ⟨?_, ?_⟩, copyS_ok h.ok⟩⟩, ?_, x0, fun k hk => ?_⟩
  · have := N2.ground
    rw [h.ok.lasts.len] at this
    exact this.ext x2 fun k hk _ _ _ => k2 k hk
  · have := N3.ground
    rw [h.ok.reads.len] at this
    exact this.ext x3 fun k hk _ _ _ => k3 k hk
  · refine ownLe_same (⟨hO.1, ?_⟩ : OwnLe w6 0 105 3 v q.L.length (wrC q.L)) fun k hk => h9.block k (ownLe_block hO hk).2.1 (fun e => by injection e with e; have := (ownLe_block hO hk).1; omega)
    rcases hO.2 with h0 | ⟨g, cap, cur, a1, a2, a3⟩
    · exact .inl h0
    · exact .inr ⟨g, cap, cur, a1, Nat.zero_le _, a3⟩
  · exact own8_same (Own8.mono N4.own (Nat.zero_le _)) fun k hk => kb k (World.ownsRow.lt N4.own k hk).2
  · exact fun k hk => cl k (World.ownsRow.lt N4.own k hk).1 (World.ownsRow.lt N4.own k hk).2
  · exact ⟨h9.os.trans (b6.os.trans (b5.os.trans (N4.below.os.trans (N3.below.os.trans (N2.below.os.trans b1.os))))), h9.tape.trans (b6.tape.trans (b5.tape.trans (N4.below.tape.trans (N3.below.tape.trans (N2.below.tape.trans b1.tape))))), h9.output.trans (b6.output.trans (b5.output.trans (N4.below.output.trans (N3.below.output.trans (N2.below.output.trans b1.output))))), by have := h9.size; omega, k0⟩
  · refine .inl ?_
    by_cases c1 : k < w2.heap.size
    · rw [x2 k c1]; exact N2.new k (by omega)
    · by_cases c2 : k < w3.heap.size
      · rw [x3 k c2]; exact N3.new k (by omega)
      · by_cases c3 : k < w4.heap.size
        · rw [cl k (by omega) c3]
        · by_cases c4 : k = w4.heap.size
          · rw [c4, cp]
          · rw [cn k (by omega)]
/-- append of nothing that is nil, onto any slice, as one step of a region. -/
theorem step_appNone {P : Program} {ops : Array Oper} {o : Oper} {a : Act} {w : World} {K : Act → World → Prop} {Q : Exit → Act → World → Prop} {E : Prop}
    (hg : o.guard = none) (s x : Operand) (t : TypeId) (hop : o.op = Op.call { callee := Callee.builtin Builtin.append, args := #[s, x], argTypes := #[t, t] })
    (e : TypeId) {size : Nat} (h1 : P.underlying t = some (.slice e)) {i : TypeInfo} (hi : P.info? e = some i) (hsz : i.size = size) (hs : a.eval s = .slice none 0 0) (hx : a.eval x = .slice none 0 0)
    (hK : K (a.put o.dst (.slice none 0 0)) w) :
    if Region.wanted o (yielded ops a.tmps) = true then Oper.wp P o a w K Q else E := by
  have hw : Region.wanted o (yielded ops a.tmps) = true := by simp [Region.wanted, hg]
  rw [if_pos hw]
  have hrun := run_append_owned_none (P := P) w 0 t o.type e i size h1 hi (.slice none 0 0) 0 [] (World.ownsRow_nil _ _ _ _)
  unfold Oper.wp
  simp [execOp, hop, resolve, invoke, builtin, hs, hx, hrun, Result.andThen]
  exact hK

set_option maxHeartbeats 4000000 in
theorem copy_any {w : World} {χ : Col} {j p : Nat} {s : DSt} (hd : IsDisk w χ j p s) (hlo : s.loose.length < 5000000000000) (i' : Nat) (hi : 0 < i') :
    Calls Tryd.prog 19 #[.pointer (some ⟨p, 0, none⟩)] w fun e w' => ∃ p' χ', e = .returned (.pointer (some ⟨p', 0, none⟩)) ∧ NewD w w' χ χ' i' p' (copyS s) := by
  obtain ⟨q, h⟩ := hd
  have hrow := h.row
  have x0 := hrow.cell (j := 0) (v := .int .i64 s.P) rfl
  have x1 := hrow.cell (j := 1) (v := .int .i64 s.K) rfl
  have x2 := hrow.cell (j := 2) (v := .int .i64 s.M) rfl
  have x3 := hrow.cell (j := 3) (v := .slice (some ⟨q.g1, 0, none⟩) (s.P + 3) (s.P + 3)) rfl
  have x4 := hrow.cell (j := 4) (v := .slice (some ⟨q.g2, 0, none⟩) (s.P + 3) (s.P + 3)) rfl
  have x6 := hrow.cell (j := 6) (v := q.vg) rfl
  have x7 := hrow.cell (j := 7) (v := .int .i64 s.lasted) rfl
  obtain ⟨A6, k6, hv6, hrd⟩ := own_rda h.log.own
  rw [hv6] at x6
  have hp1 := h.ok.p1
  have hM := h.ok.log
  have hM1 := h.ok.m1
  obtain ⟨LL, hLL⟩ : ∃ LL, s.log.length = LL := ⟨_, rfl⟩
  rw [hLL] at x6 hv6 hM
  have HLL := Lib.hid hLL
  have HRD := Lib.hid hrd
  have HH := Lib.hid h
  have HG1 : Hid (∀ (W : World) (X : Col), Below w.heap.size w W → Calls Tryd.prog 41 #[.slice (some ⟨q.g1, 0, none⟩) (s.P + 3) (s.P + 3)] W fun e w' => ∃ g vs χ', e = .returned (.slice (some ⟨g, 0, none⟩) (s.P + 3) (s.P + 3)) ∧ NewG W w' X χ' i' 100 g vs s.lasts) := Lib.hid fun W X hb => by
    have h1 := HH.out.lasts.below (Ext.refl _ _) hb
    have hl := HH.out.ok.lasts.len
    rw [← hl] at h1
    have h2 := h1.rd (by omega)
    rw [hl] at h2
    exact gcopy_any h2 hl.symm (by omega) (rows_pos HH.out.ok.lasts HH.out.ok.k1) X i' 100
  have HG2 : Hid (∀ (W : World) (X : Col), Below w.heap.size w W → Calls Tryd.prog 41 #[.slice (some ⟨q.g2, 0, none⟩) (s.P + 3) (s.P + 3)] W fun e w' => ∃ g vs χ', e = .returned (.slice (some ⟨g, 0, none⟩) (s.P + 3) (s.P + 3)) ∧ NewG W w' X χ' i' 200 g vs s.reads) := Lib.hid fun W X hb => by
    have h1 := HH.out.reads.below (Ext.refl _ _) hb
    have hl := HH.out.ok.reads.len
    rw [← hl] at h1
    have h2 := h1.rd (by omega)
    rw [hl] at h2
    exact gcopy_any h2 hl.symm (by omega) (rows_pos HH.out.ok.reads HH.out.ok.k1) X i' 200
  have HPC : Hid (∀ (W : World), Below w.heap.size w W → Calls Tryd.prog 42 #[.slice A6 LL k6] W fun e w' => ∃ A' c', e = .returned (.slice A' LL c') ∧ New 5 W w' A' c' s.log) := Lib.hid fun W hb => by
    have := bclone_any (HRD.out.below hb) HLL.out.symm (by rw [HLL.out]; omega)
    rwa [HLL.out] at this
  have hbw := (Below.refl w.heap.size w).drew
  have HHL := Lib.hid hlo
  clear h hrow hrd hLL hlo
  go_enter Tryd.func19, Tryd.ntmps19
  go_wp2_with fail
  go_region_held3 (fun w' => w'.cell? ⟨p, 0, none⟩ = some (.int .i64 s.P) ∧ w'.cell? ⟨p, 1, none⟩ = some (.int .i64 s.K) ∧ w'.cell? ⟨p, 2, none⟩ = some (.int .i64 s.M) ∧ w'.cell? ⟨p, 3, none⟩ = some (.slice (some ⟨q.g1, 0, none⟩) (s.P + 3) (s.P + 3)) ∧ w'.cell? ⟨p, 4, none⟩ = some (.slice (some ⟨q.g2, 0, none⟩) (s.P + 3) (s.P + 3)) ∧ w'.cell? ⟨p, 6, none⟩ = some (.slice A6 LL k6) ∧ w'.cell? ⟨p, 7, none⟩ = some (.int .i64 s.lasted))
    (first | exact ⟨(HH.out.row.below (by assumption)).cell (j := 0) (v := .int .i64 s.P) rfl, (HH.out.row.below (by assumption)).cell (j := 1) (v := .int .i64 s.K) rfl, (HH.out.row.below (by assumption)).cell (j := 2) (v := .int .i64 s.M) rfl, (HH.out.row.below (by assumption)).cell (j := 3) (v := .slice (some ⟨q.g1, 0, none⟩) (s.P + 3) (s.P + 3)) rfl, (HH.out.row.below (by assumption)).cell (j := 4) (v := .slice (some ⟨q.g2, 0, none⟩) (s.P + 3) (s.P + 3)) rfl, (HH.out.row.below (by assumption)).cell (j := 6) (v := .slice A6 LL k6) (by rw [← hv6]; rfl), (HH.out.row.below (by assumption)).cell (j := 7) (v := .int .i64 s.lasted) rfl⟩ | go_keep)
    (first
      | (go_at_call 42; refine (HPC.out _ hb3).mono ?_; rintro e w4 ⟨A4, c4, rfl, N4⟩; have hb4 := below_then hb3 N4.below)
      | (go_at_call 41; have hprev := N2; refine (HG2.out _ χ2 hb2).mono ?_; rintro e w3 ⟨g3, vs3, χ3, rfl, N3⟩; have hb3 := below_then hb2 N3.below)
      | (go_at_call 41; refine (HG1.out _ χ hbw).mono ?_; rintro e w2 ⟨g2, vs2, χ2, rfl, N2⟩; have hb2 := below_then hbw N2.below))
  rename_i hHeld
  clear hHeld
  obtain ⟨S4, hS4⟩ : ∃ S, S = w4.heap.size := ⟨_, rfl⟩
  have hb5 := (Below.refl w4.heap.size w4).alloc (Nat.le_refl _) (.cells #[.int .i64 s.P, .int .i64 s.K, .int .i64 s.M, .slice (some ⟨g2, 0, none⟩) (s.P + 3) (s.P + 3), .slice (some ⟨g3, 0, none⟩) (s.P + 3) (s.P + 3), .slice none 0 0, .slice A4 LL c4, .int .i64 s.lasted, .int .i64 0, .int .i64 0, .bool false] 98)
  have hrow5 : RowC (w4.alloc (.cells #[.int .i64 s.P, .int .i64 s.K, .int .i64 s.M, .slice (some ⟨g2, 0, none⟩) (s.P + 3) (s.P + 3), .slice (some ⟨g3, 0, none⟩) (s.P + 3) (s.P + 3), .slice none 0 0, .slice A4 LL c4, .int .i64 s.lasted, .int .i64 0, .int .i64 0, .bool false] 98)) w4.heap.size 98 (diskC (copyS s) ⟨100, 200, g2, g3, vs2, vs3, .slice none 0 0, .slice A4 LL c4, []⟩) := heap_alloc_new w4 _
  rw [← hS4] at hrow5 ⊢
  have HS5 : Hid ((w4.alloc (.cells #[.int .i64 s.P, .int .i64 s.K, .int .i64 s.M, .slice (some ⟨g2, 0, none⟩) (s.P + 3) (s.P + 3), .slice (some ⟨g3, 0, none⟩) (s.P + 3) (s.P + 3), .slice none 0 0, .slice A4 LL c4, .int .i64 s.lasted, .int .i64 0, .int .i64 0, .bool false] 98)).heap.size = w4.heap.size + 1) := Lib.hid (by simp)
  generalize w4.alloc (.cells #[.int .i64 s.P, .int .i64 s.K, .int .i64 s.M, .slice (some ⟨g2, 0, none⟩) (s.P + 3) (s.P + 3), .slice (some ⟨g3, 0, none⟩) (s.P + 3) (s.P + 3), .slice none 0 0, .slice A4 LL c4, .int .i64 s.lasted, .int .i64 0, .int .i64 0, .bool false] 98) = w5 at hb5 hrow5 HS5 ⊢
  have hN2 := N2
  have hN3 := N3
  have hN4 := N4
  have hb05 := below_then hb4 hb5
  have hbq := (Below.refl w5.heap.size w5).drew
  have hO0 := HH.out.loose.own
  have HNEW : Hid (∀ (w6 : World) (v : Value), Below w5.heap.size w5 w6 → OwnLe w6 w5.heap.size 105 3 v q.L.length (wrC q.L) → ∃ χ', NewD w (w6.setCell ⟨S4, 5, none⟩ v) χ χ' i' S4 (copyS s)) := Lib.hid fun w6 v b6 hO => by
    have r5 := hrow5
    rw [← HLL.out] at r5
    rw [hS4] at r5 ⊢
    exact NewD.copied HH.out hi hbw rfl hN2 hN3 hN4 hb5 HS5.out r5 b6 hO
  have HROW := Lib.hid hrow5
  have n5 := hrow5.cell (j := 5) (v := .slice none 0 0) rfl
  have d5 := (HH.out.row.below hb05).cell (j := 5) (v := q.vo) rfl
  have hml : q.L.length < 5000000000000 := by have := HH.out.look; have h2 := HHL.out; rw [this, List.length_map] at h2; exact h2
  have HB05 := Lib.hid hb05
  clear N2 N3 N4 hN2 hN3 hN4 hprev hb2 hb3 hb4 hb5 hb05 hrow5 hS4 HS5 x0 x1 x2 x3 x4 x6 x7 HG1 HG2 HPC HRD HLL hv6 hM hM1 hp1 hbw HHL
  rcases hO0.2 with ⟨hv0, h0⟩ | ⟨g, cap, cur, hv1, _, _, _, _, _, _⟩
  · have hL : q.L = [] := List.eq_nil_of_length_eq_zero h0
    rw [hv0] at d5
    have HF := Lib.hid (HNEW.out w5.drew (.slice none 0 0) hbq (by rw [hL]; exact ownLe_nil _ _ _ _))
    have f5 := HROW.out.free 5
    obtain ⟨i0, hi0, hz0, hs0, hby0⟩ := info_parts (P := Tryd.prog) (e := 105) (z := .agg #[.bool false, .int .i64 0, .nilFunc]) (size := 3) (bytes := 24) (by kernel_rfl)
    have HI0 := Lib.hid hi0
    have HS0 := Lib.hid hs0
    clear hi0 hz0 hs0 hby0 hL h0 hv0 HNEW hO0
    go_wp2_with fail
    go_region_law (refine step_appNone rfl _ _ _ rfl 105 Tryd.underlying96 HI0.out HS0.out rfl rfl ?_)
    all_goals
      go_wp2_with fail
      go_ret
      obtain ⟨χ', hχ'⟩ := HF.out
      exact ⟨_, χ', rfl, hχ'⟩
  · have hc := ownLe_news (ad := ⟨g, 0, none⟩) (c := cap) (by rw [← hv1]; exact ownLe_below hO0 (below_then HB05.out hbq))
    have hone := wrC_one w χ q.L HH.out.loose.clos
    have HC := Lib.hid hc
    have HONE := Lib.hid hone
    rw [hv1] at d5
    obtain ⟨M, hM⟩ : ∃ M, q.L.length = M := ⟨_, rfl⟩
    obtain ⟨X, hX⟩ : ∃ X, wrC q.L = X := ⟨_, rfl⟩
    have hXl : X.length = M * 3 := by rw [← hX, ← hM]; exact wrC_length _
    rw [hM, hX] at HNEW
    rw [hX] at HC HONE
    rw [hM] at d5 hml
    have HXL := Lib.hid hXl
    have hm1 : 0 + M ≤ maxLen := by unfold maxLen; omega
    have hm2 : (0 + M) * 24 ≤ 140737488355328 := by omega
    have HM := Lib.hid (And.intro hm1 hm2)
    have hon := ownLe_nil w5.drew w5.heap.size 105 3
    clear hM hX hXl hc hone hO0 hv1 hm1 hm2
    go_wp2_with fail
    go_region_law (refine step_appLe rfl _ _ _ rfl w5.heap.size 105 Tryd.underlying96 (z := .agg #[.bool false, .int .i64 0, .nilFunc]) (size := 3) (bytes := 24) (by kernel_rfl) rfl (by decide) (.slice none 0 0) 0 [] rfl hon _ M cap X rfl HXL.out HC.out HONE.out HM.out.1 HM.out.2 (Nat.le_refl _) ?_; intro v8 w8 hO8 hg8 hv8; rw [Nat.zero_add, List.nil_append] at hO8; obtain ⟨A8, c8, rfl⟩ := ownLe_slice hO8; have b8 := Below.trans hbq (grown_below hg8 (Nat.le_refl _) (fun k hk => by simp [Value.ownBlock] at hk)); have R8 := HROW.out.below b8; have v0 := R8.cell (j := 5) (v := .slice none 0 0) rfl; have f8 := R8.free 5)
    all_goals
      have HF := Lib.hid (HNEW.out w8 _ b8 hO8)
      clear HNEW hO8 hg8 hv8
      go_wp2_with fail
      go_ret
      obtain ⟨χ', hχ'⟩ := HF.out
      exact ⟨_, χ', rfl, hχ'⟩
end Go.Proofs.YtgelgjghmoddoaaDoor
