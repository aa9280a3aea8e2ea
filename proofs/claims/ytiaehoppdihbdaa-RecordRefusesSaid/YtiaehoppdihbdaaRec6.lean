import Derived.Test.YtiaehoppdihbdaaRec5
import Derived.Test.YtiaehoppdihbdaaRec2
/- The contracts of package record: which records are right. -/
set_option linter.unusedVariables false
set_option linter.unusedSimpArgs false
namespace Go.Proofs.Ytiaehoppdihbdaa
open Go.RowKit Go.Tm
set_option maxHeartbeats 400000
set_option maxRecDepth 100000
attribute [local go_sem ↓] Go.wp_at_zero Go.wp_at_succ

/-- What a record's values read as. -/
structure RecR (w : World) (x : RecD) (q : RPl) : Prop where
  vb : ∃ A c, q.vb = .slice A x.before.length c ∧ Rda w A c x.before
  va : ∃ A c, q.va = .slice A x.after.length c ∧ Rda w A c x.after
  vr : ∃ A c, q.vr = .slice A x.rows.length c ∧ RdS 5 rRow9 w A c x.rows
  vd : ∃ A c, q.vd = .slice A x.dirty.length c ∧ RdS 2 rDirt w A c x.dirty
  ii : In64 x.kind ∧ In64 x.birth ∧ In64 x.prev ∧ In64 x.id ∧ In64 x.page ∧ In64 x.frm ∧ In64 x.next
  nn : x.before.length ≤ 140737488351232 ∧ x.after.length ≤ 140737488351232 ∧ x.rows.length ≤ 140737488351232 ∧ x.dirty.length ≤ 140737488351232
theorem RecR.below {w w' : World} {x : RecD} {q : RPl} (h : RecR w x q) (hb : Below w.heap.size w w') : RecR w' x q := by
  obtain ⟨⟨A1, c1, e1, r1⟩, ⟨A2, c2, e2, r2⟩, ⟨A3, c3, e3, r3⟩, ⟨A4, c4, e4, r4⟩, h5, h6⟩ := h
  exact ⟨⟨A1, c1, e1, r1.below hb⟩, ⟨A2, c2, e2, r2.below hb⟩, ⟨A3, c3, e3, r3.below keeps_row9 hb⟩, ⟨A4, c4, e4, r4.below keeps_dirt hb⟩, h5, h6⟩
theorem rgt_1 {r : RecD} (h : r.kind = 1) : rgtB r = (decide (r.birth = 0) && decide (r.prev = 0) && decide (1 ≤ r.id) && decide (r.id ≤ 64) && bareB r true false false false false) := by unfold rgtB; rw [if_pos h]
theorem rgt_7 {r : RecD} (h : r.kind = 7) : rgtB r = (decide (r.birth = 0) && decide (r.prev = 0) && bareB r false false false false true && ((rowsB 0 r.rows && decide (r.rows.length ≤ 8)) && (dirtB (-1) r.dirty && decide (r.dirty.length ≤ 16)))) := by
  unfold rgtB
  rw [if_neg (by omega), if_pos h]
  unfold listsB
  cases rowsB 0 r.rows <;> cases dirtB (-1) r.dirty <;> simp
theorem rgt_2 {r : RecD} (h : r.kind = 2) : rgtB r = (lsnB r.birth && (lsnB r.prev && (bareB r false true true false false && (pageB r.page && (withB r.frm r.after.length && (decide (r.before.length = r.after.length) && endsB r.before r.after)))))) := by
  unfold rgtB
  rw [if_neg (by omega), if_neg (by omega), if_pos h, rangB_eq]
  cases lsnB r.birth <;> cases lsnB r.prev <;> simp [Bool.and_assoc]
theorem rgt_3 {r : RecD} (h : r.kind = 3) : rgtB r = (lsnB r.birth && (lsnB r.prev && (bareB r false true false true false && (pageB r.page && (withB r.frm r.after.length && nxtB r.next))))) := by
  unfold rgtB
  rw [if_neg (show ¬ r.kind = 1 by omega), if_neg (show ¬ r.kind = 7 by omega), if_neg (show ¬ r.kind = 2 by omega), if_pos h, rangB_eq]
  cases lsnB r.birth <;> cases lsnB r.prev <;> simp [Bool.and_assoc]
theorem rgt_4 {r : RecD} (h : r.kind = 4 ∨ r.kind = 5 ∨ r.kind = 6) : rgtB r = (lsnB r.birth && (lsnB r.prev && bareB r false false false false false)) := by
  unfold rgtB
  rw [if_neg (show ¬ r.kind = 1 by omega), if_neg (show ¬ r.kind = 7 by omega), if_neg (show ¬ r.kind = 2 by omega), if_neg (show ¬ r.kind = 3 by omega), if_pos h]
  cases lsnB r.birth <;> cases lsnB r.prev <;> simp
theorem rgt_0 {r : RecD} (h : r.kind < 1 ∨ 7 < r.kind) : rgtB r = false := by
  unfold rgtB
  rw [if_neg (show ¬ r.kind = 1 by omega), if_neg (show ¬ r.kind = 7 by omega), if_neg (show ¬ r.kind = 2 by omega), if_neg (show ¬ r.kind = 3 by omega), if_neg (show ¬ (r.kind = 4 ∨ r.kind = 5 ∨ r.kind = 6) by omega)]
  simp

theorem u8_ne (a b : UInt8) : ((a.toNat : Int) != (b.toNat : Int)) = decide (a ≠ b) := by
  by_cases h : a = b
  · subst h; simp
  · rw [decide_eq_true h, bne_iff_ne]
    intro e
    exact h (UInt8.toNat_inj.1 (by omega))

set_option maxHeartbeats 20000000 in
theorem right_any {w : World} {x : RecD} {q : RPl} (h : RecR w x q) {cs : Array Value} (hcs : cs = (recC x q).toArray) :
    Calls Try.prog 27 #[.agg cs] w fun e w' => e = .returned (.bool (rgtB x)) ∧ Below w.heap.size w w' := by
  have H1 := Lib.hid (@rgt_1 x)
  have H7 := Lib.hid (@rgt_7 x)
  have H2 := Lib.hid (@rgt_2 x)
  have H3 := Lib.hid (@rgt_3 x)
  have H4 := Lib.hid (@rgt_4 x)
  have H0 := Lib.hid (@rgt_0 x)
  simp only [bareB_N] at H1 H7 H2 H3 H4
  obtain ⟨⟨A1, c1, e1, r1⟩, ⟨A2, c2, e2, r2⟩, ⟨A3, c3, e3, r3⟩, ⟨A4, c4, e4, r4⟩, _, n1, n2, n3, n4⟩ := h
  have HRW : Hid (∀ W, Below w.heap.size w W → Calls Try.prog 46 #[.slice A3 x.rows.length c3] W fun e w' => e = .returned (.bool (rowsB 0 x.rows && decide (x.rows.length ≤ 8))) ∧ Below W.heap.size W w') := Lib.hid fun W hb => recRows_any (r3.below keeps_row9 hb) rfl n3
  have HRC : Hid (∀ W, Below w.heap.size w W → Calls Try.prog 47 #[.slice A4 x.dirty.length c4] W fun e w' => e = .returned (.bool (dirtB (-1) x.dirty && decide (x.dirty.length ≤ 16))) ∧ Below W.heap.size W w') := Lib.hid fun W hb => recRecs_any (r4.below keeps_dirt hb) rfl n4
  have HBY : Hid (0 < x.after.length → x.before.length = x.after.length → ∃ b1 o1 b2 o2 : Nat, ∃ M : Nat, A1 = some ⟨b1, o1, none⟩ ∧ A2 = some ⟨b2, o2, none⟩ ∧ x.after.length = M + 1 ∧ (∀ W, Below w.heap.size w W → W.cell? ⟨b1, o1, none⟩ = some (.int .u8 ((x.before.getD 0 0).toNat : Int)) ∧ W.cell? ⟨b2, o2, none⟩ = some (.int .u8 ((x.after.getD 0 0).toNat : Int)) ∧ W.cell? ⟨b1, o1 + M, none⟩ = some (.int .u8 ((x.before.getD M 0).toNat : Int)) ∧ W.cell? ⟨b2, o2 + M, none⟩ = some (.int .u8 ((x.after.getD M 0).toNat : Int)))) := Lib.hid fun h0 he => by
    obtain ⟨b1, o1, ea, h1⟩ := r1.cells (by omega)
    obtain ⟨b2, o2, eb, h2⟩ := r2.cells h0
    refine ⟨b1, o1, b2, o2, x.after.length - 1, ea, eb, by omega, fun W hb => ?_⟩
    have k : ∀ {a : Addr} {v : Value}, w.cell? a = some v → W.cell? a = some v := fun {a v} hc => (hb.cell (p := a) (World.block_lt_of_cell? _ _ hc)).trans hc
    exact ⟨k (by simpa using h1 0 (by omega)), k (by simpa using h2 0 h0), k (h1 _ (by omega)), k (h2 _ (by omega))⟩
  have HEN : Hid (∀ M, x.after.length = M + 1 → endsB x.before x.after = (decide (x.before.getD 0 0 ≠ x.after.getD 0 0) && decide (x.before.getD M 0 ≠ x.after.getD M 0))) := Lib.hid fun M hM => by unfold endsB; rw [hM]; rfl
  have hcs2 : cs = #[.int .i64 x.kind, .int .i64 x.birth, .int .i64 x.prev, .int .i64 x.id, .int .i64 x.page, .int .i64 x.frm, .slice A1 x.before.length c1, .slice A2 x.after.length c2, .int .i64 x.next, .slice A3 x.rows.length c3, .slice A4 x.dirty.length c4] := by rw [hcs]; unfold recC; rw [e1, e2, e3, e4]
  subst hcs2
  have hp := r1.cap
  have hq := r2.cap
  clear hcs e1 e2 e3 e4 r1 r2 r3 r4
  generalize rgtB x = R at H1 H7 H2 H3 H4 H0 ⊢
  generalize x.kind = kd at H1 H7 H2 H3 H4 H0 ⊢
  generalize x.birth = bi at H1 H7 H2 H3 H4 H0 ⊢
  generalize x.prev = pr at H1 H7 H2 H3 H4 H0 ⊢
  generalize x.id = id at H1 H7 H2 H3 H4 H0 ⊢
  generalize x.page = pg at H1 H7 H2 H3 H4 H0 ⊢
  generalize x.frm = fr at H1 H7 H2 H3 H4 H0 ⊢
  generalize x.next = nx at H1 H7 H2 H3 H4 H0 ⊢
  generalize endsB x.before x.after = EN at H1 H7 H2 H3 H4 H0 HEN
  generalize x.before.getD = gB at HBY HEN
  generalize x.after.getD = gA at HBY HEN
  generalize x.before.length = nb at H1 H7 H2 H3 H4 H0 HBY HEN n1 hp ⊢
  generalize x.after.length = na at H1 H7 H2 H3 H4 H0 HBY HEN n2 hq ⊢
  generalize (rowsB 0 x.rows && decide (x.rows.length ≤ 8)) = BR at H1 H7 H2 H3 H4 H0 HRW
  generalize (dirtB (-1) x.dirty && decide (x.dirty.length ≤ 16)) = BD at H1 H7 H2 H3 H4 H0 HRC
  generalize x.rows.length = nr at H1 H7 H2 H3 H4 H0 n3 HRW ⊢
  generalize x.dirty.length = nd at H1 H7 H2 H3 H4 H0 n4 HRC ⊢
  have hbx := (Below.refl w.heap.size w).alloc (Nat.le_refl _) (.cells #[.int .i64 kd, .int .i64 bi, .int .i64 pr, .int .i64 id, .int .i64 pg, .int .i64 fr, .slice A1 nb c1, .slice A2 na c2, .int .i64 nx, .slice A3 nr c3, .slice A4 nd c4] 26)
  have hRow : RowC (w.alloc (.cells #[.int .i64 kd, .int .i64 bi, .int .i64 pr, .int .i64 id, .int .i64 pg, .int .i64 fr, .slice A1 nb c1, .slice A2 na c2, .int .i64 nx, .slice A3 nr c3, .slice A4 nd c4] 26)) w.heap.size 26 [.int .i64 kd, .int .i64 bi, .int .i64 pr, .int .i64 id, .int .i64 pg, .int .i64 fr, .slice A1 nb c1, .slice A2 na c2, .int .i64 nx, .slice A3 nr c3, .slice A4 nd c4] := heap_alloc_new w _
  obtain ⟨W1, hW1⟩ : ∃ W, w.alloc (.cells #[.int .i64 kd, .int .i64 bi, .int .i64 pr, .int .i64 id, .int .i64 pg, .int .i64 fr, .slice A1 nb c1, .slice A2 na c2, .int .i64 nx, .slice A3 nr c3, .slice A4 nd c4] 26) = W := ⟨_, rfl⟩
  rw [hW1] at hbx hRow
  have HW1 := Lib.hid hW1
  have HBX := Lib.hid hbx
  have HRO := Lib.hid hRow
  have HBA : Hid (∀ (W : World) (kd bi pr : Int) (f1 f2 f3 f4 f5 : Bool), (f1, f2, f3, f4, f5) ∈ [(true, false, false, false, false), (false, false, false, false, true), (false, true, true, false, false), (false, true, false, true, false), (false, false, false, false, false)] → Calls Try.prog 45 #[.agg #[.int .i64 kd, .int .i64 bi, .int .i64 pr, .int .i64 id, .int .i64 pg, .int .i64 fr, .slice A1 nb c1, .slice A2 na c2, .int .i64 nx, .slice A3 nr c3, .slice A4 nd c4], .bool f1, .bool f2, .bool f3, .bool f4, .bool f5] W fun e w' => e = .returned (.bool (bareN id pg fr na nb nx nr nd f1 f2 f3 f4 f5)) ∧ Below W.heap.size W w') := Lib.hid fun W kd bi pr f1 f2 f3 f4 f5 hf => bare_any (w := W) _ _ _ _ _ _ _ _ _ _ _ _ _ _ _ _ _ _ _ _ _ _ _ _ hf
  have HLB : Hid (∀ W, Calls Try.prog 48 #[.int .i64 bi] W fun e w' => e = .returned (.bool (lsnB bi)) ∧ W = w') := Lib.hid fun W => isLsn_any bi
  have HLP : Hid (∀ W, Calls Try.prog 48 #[.int .i64 pr] W fun e w' => e = .returned (.bool (lsnB pr)) ∧ W = w') := Lib.hid fun W => isLsn_any pr
  have HPG : Hid (∀ W, Calls Try.prog 49 #[.int .i64 pg] W fun e w' => e = .returned (.bool (pageB pg)) ∧ W = w') := Lib.hid fun W => isPage_any pg
  have HWI : Hid (∀ W, Calls Try.prog 50 #[.int .i64 fr, .int .i64 (na : Int)] W fun e w' => e = .returned (.bool (withB fr na)) ∧ W = w') := Lib.hid fun W => recWithin_any fr na (by omega)
  have HNX : Hid (∀ W, Calls Try.prog 51 #[.int .i64 nx] W fun e w' => e = .returned (.bool (nxtB nx)) ∧ W = w') := Lib.hid fun W => isNext_any nx
  have HW0 : Hid (withB fr na = true → 0 < na) := Lib.hid fun h => by simp only [withB, Bool.and_eq_true, decide_eq_true_eq] at h; omega
  generalize lsnB bi = LB at H1 H7 H2 H3 H4 HLB
  generalize lsnB pr = LP at H1 H7 H2 H3 H4 HLP
  generalize pageB pg = PG at H1 H7 H2 H3 H4 HPG
  generalize withB fr na = WI at H1 H7 H2 H3 H4 HWI HW0
  generalize nxtB nx = NX at H1 H7 H2 H3 H4 HNX
  clear hW1 hbx hRow
  by_cases k1 : kd = 1
  · subst k1
    have HR := Lib.hid (H1.out rfl)
    clear H1 H7 H2 H3 H4 H0 HRW HRC HBY HEN HBX HRO HW1 HLB HLP HPG HWI HNX HW0
    have HB1 := Lib.hid (fun (W : World) (kd bi pr : Int) => HBA.out W kd bi pr true false false false false (by simp))
    clear HBA
    generalize bareN id pg fr na nb nx nr nd true false false false false = BB at HR HB1
    go_enter Try.func27, Try.ntmps27
    go_wp2_with (go_at_call 45; ((with_reducible refine (HB1.out _ _ _ _).mono ?_); rintro e w2 ⟨rfl, hb2⟩))
    all_goals
      go_ret
      refine ⟨retB ?_, ?_⟩
      · rw [HR.out]
        first | rfl | (simp_all; done) | (simp_all <;> omega)
      · first | exact (Below.refl _ _).alloc (Nat.le_refl _) _ | exact below_then ((Below.refl _ _).alloc (Nat.le_refl _) _) (by assumption) | exact below_then (below_then ((Below.refl _ _).alloc (Nat.le_refl _) _) (by assumption)) (by assumption) | exact below_then (below_then (below_then ((Below.refl _ _).alloc (Nat.le_refl _) _) (by assumption)) (by assumption)) (by assumption)
  by_cases k7 : kd = 7
  · subst k7
    have HR := Lib.hid (H7.out rfl)
    clear H1 H7 H2 H3 H4 H0 HBY HEN HLB HLP HPG HWI HNX HW0 k1
    have HB1 := Lib.hid (fun (W : World) (kd bi pr : Int) => HBA.out W kd bi pr false false false false true (by simp))
    clear HBA
    generalize bareN id pg fr na nb nx nr nd false false false false true = BB at HR HB1
    by_cases hb0 : bi = 0
    · subst hb0
      by_cases hp0 : pr = 0
      · subst hp0
        rw [HW1.out.symm] at HRO HBX
        clear HW1
        cases BB <;> cases BR
        all_goals
          go_enter Try.func27, Try.ntmps27
          go_wp2_with (first
            | (go_at_call 45; ((with_reducible refine (HB1.out _ _ _ _).mono ?_); rintro e w2 ⟨rfl, hb2⟩; have R2 := HRO.out.below hb2; have d9 := R2.cell (j := 9) rfl; have d10 := R2.cell (j := 10) rfl; have hb2' := below_then HBX.out hb2; have HRW2 := Lib.hid (HRW.out _ hb2')))
            | (go_at_call 46; ((with_reducible refine HRW2.out.mono ?_); rintro e w3 ⟨rfl, hb3⟩; have R3 := R2.below hb3; have d10 := R3.cell (j := 10) rfl; have hb3' := below_then hb2' hb3; have HRC3 := Lib.hid (HRC.out _ hb3')))
            | (go_at_call 47; ((with_reducible refine HRC3.out.mono ?_); rintro e w4 ⟨rfl, hb4⟩)))
          all_goals
            go_ret
            refine ⟨retB ?_, ?_⟩
            · rw [HR.out]
              first | rfl | (simp_all; done) | (simp_all <;> omega)
            · first | exact (Below.refl _ _).alloc (Nat.le_refl _) _ | exact below_then ((Below.refl _ _).alloc (Nat.le_refl _) _) (by assumption) | exact below_then (below_then ((Below.refl _ _).alloc (Nat.le_refl _) _) (by assumption)) (by assumption) | exact below_then (below_then (below_then ((Below.refl _ _).alloc (Nat.le_refl _) _) (by assumption)) (by assumption)) (by assumption)
      · have hp1 : (pr == 0) = false := by simpa using hp0
        clear HRO HBX HW1
        go_enter Try.func27, Try.ntmps27
        go_wp2
        all_goals
          go_ret
          refine ⟨retB ?_, ?_⟩
          · rw [HR.out]
            first | rfl | (simp_all; done) | (simp_all <;> omega)
          · first | exact (Below.refl _ _).alloc (Nat.le_refl _) _ | exact below_then ((Below.refl _ _).alloc (Nat.le_refl _) _) (by assumption) | exact below_then (below_then ((Below.refl _ _).alloc (Nat.le_refl _) _) (by assumption)) (by assumption) | exact below_then (below_then (below_then ((Below.refl _ _).alloc (Nat.le_refl _) _) (by assumption)) (by assumption)) (by assumption)
    · have hp1 : (bi == 0) = false := by simpa using hb0
      clear HRO HBX HW1
      go_enter Try.func27, Try.ntmps27
      go_wp2
      all_goals
        go_ret
        refine ⟨retB ?_, ?_⟩
        · rw [HR.out]
          first | rfl | (simp_all; done) | (simp_all <;> omega)
        · first | exact (Below.refl _ _).alloc (Nat.le_refl _) _ | exact below_then ((Below.refl _ _).alloc (Nat.le_refl _) _) (by assumption) | exact below_then (below_then ((Below.refl _ _).alloc (Nat.le_refl _) _) (by assumption)) (by assumption) | exact below_then (below_then (below_then ((Below.refl _ _).alloc (Nat.le_refl _) _) (by assumption)) (by assumption)) (by assumption)
  have k1b : (kd == 1) = false := by simpa using k1
  have k7b : (kd == 7) = false := by simpa using k7
  have HF : Hid ((LB && LP) = false → R = false) := Lib.hid fun hl => by
    by_cases e2 : kd = 2
    · rw [H2.out e2]; cases LB <;> cases LP <;> simp_all
    · by_cases e3 : kd = 3
      · rw [H3.out e3]; cases LB <;> cases LP <;> simp_all
      · by_cases e4 : kd = 4 ∨ kd = 5 ∨ kd = 6
        · rw [H4.out e4]; cases LB <;> cases LP <;> simp_all
        · exact H0.out (by omega)
  cases LB with
  | false =>
    have HR := Lib.hid (HF.out rfl)
    clear H1 H7 H2 H3 H4 H0 HF HRW HRC HBY HEN HBX HRO HW1 HPG HWI HNX HW0 HBA k1 k7
    go_enter Try.func27, Try.ntmps27
    go_wp2_with (first | (go_at_call 48; ((with_reducible refine (HLB.out _).mono ?_); rintro e w2 ⟨rfl, rfl⟩)) | (go_at_call 48; ((with_reducible refine (HLP.out _).mono ?_); rintro e w2 ⟨rfl, rfl⟩)))
    go_ret
    exact ⟨retB HR.out.symm, (Below.refl _ _).alloc (Nat.le_refl _) _⟩
  | true =>
  cases LP with
  | false =>
    have HR := Lib.hid (HF.out rfl)
    clear H1 H7 H2 H3 H4 H0 HF HRW HRC HBY HEN HBX HRO HW1 HPG HWI HNX HW0 HBA k1 k7
    go_enter Try.func27, Try.ntmps27
    go_wp2_with (first | (go_at_call 48; ((with_reducible refine (HLB.out _).mono ?_); rintro e w2 ⟨rfl, rfl⟩)) | (go_at_call 48; ((with_reducible refine (HLP.out _).mono ?_); rintro e w2 ⟨rfl, rfl⟩)))
    go_ret
    exact ⟨retB HR.out.symm, (Below.refl _ _).alloc (Nat.le_refl _) _⟩
  | true =>
  rw [HW1.out.symm] at HRO HBX
  clear HW1 HF H1 H7
  by_cases k2 : kd = 2
  · subst k2
    have HR := Lib.hid (H2.out rfl)
    simp only [Bool.true_and] at HR
    clear H2 H3 H4 H0 HRW HRC HNX k1 k7 k1b k7b
    have HROd := Lib.hid (HRO.out.below (Below.refl _ _).drew)
    have HBD := Lib.hid HBX.out.drew
    have HB1 := Lib.hid (fun (W : World) (kd bi pr : Int) => HBA.out W kd bi pr false true true false false (by simp))
    clear HBA
    generalize bareN id pg fr na nb nx nr nd false true true false false = BB at HR HB1
    cases BB with
    | false =>
      go_enter Try.func27, Try.ntmps27
      go_wp2_with (first | (go_at_call 48; ((with_reducible refine (HLB.out _).mono ?_); rintro e w2 ⟨rfl, rfl⟩)) | (go_at_call 48; ((with_reducible refine (HLP.out _).mono ?_); rintro e w2 ⟨rfl, rfl⟩)))
      refine wp_region_held_drew (S := (fun w' => w'.cell? ⟨w.heap.size, 0, none⟩ = some (.int .i64 2) ∧ w'.cell? ⟨w.heap.size, 1, none⟩ = some (.int .i64 bi) ∧ w'.cell? ⟨w.heap.size, 2, none⟩ = some (.int .i64 pr) ∧ w'.cell? ⟨w.heap.size, 3, none⟩ = some (.int .i64 id) ∧ w'.cell? ⟨w.heap.size, 4, none⟩ = some (.int .i64 pg) ∧ w'.cell? ⟨w.heap.size, 5, none⟩ = some (.int .i64 fr) ∧ w'.cell? ⟨w.heap.size, 6, none⟩ = some (.slice A1 nb c1) ∧ w'.cell? ⟨w.heap.size, 7, none⟩ = some (.slice A2 na c2) ∧ w'.cell? ⟨w.heap.size, 8, none⟩ = some (.int .i64 nx) ∧ w'.cell? ⟨w.heap.size, 9, none⟩ = some (.slice A3 nr c3) ∧ w'.cell? ⟨w.heap.size, 10, none⟩ = some (.slice A4 nd c4))) (by kernel_rfl) (⟨HROd.out.cell (j := 0) rfl, HROd.out.cell (j := 1) rfl, HROd.out.cell (j := 2) rfl, HROd.out.cell (j := 3) rfl, HROd.out.cell (j := 4) rfl, HROd.out.cell (j := 5) rfl, HROd.out.cell (j := 6) rfl, HROd.out.cell (j := 7) rfl, HROd.out.cell (j := 8) rfl, HROd.out.cell (j := 9) rfl, HROd.out.cell (j := 10) rfl⟩) (fun hHeld => ?_)
      refine wpAnyH_take (i := 0) (oi := { dst := some 71, op := Op.load 26 (Operand.tmp 1), type := 26, pos := "record.go:124", after := #[], guard := none }) (v := ?vp10) rfl (by kernel_rfl) (by kernel_rfl) (by kernel_rfl) (fun _ _ _ h => h) (Or.inl ⟨by rfl, ?hp10⟩) hHeld ?rp10
      case hp10 => ((intro w hSw); (try dsimp only at hSw); go_simp; (try with_reducible rfl))
      (try simp only [Act.put, List.setIfInBounds_toArray, List.set_cons_zero, List.set_cons_succ])
      refine wpAnyH_ready (rs := [1]) (by kernel_rfl) (by simp) ?_
      refine AllReadyH.cons (o := { dst := some 72, op := Op.call { callee := Callee.value (Operand.func 45), args := #[Operand.tmp 71, Operand.const (Value.bool false), Operand.const (Value.bool true), Operand.const (Value.bool true), Operand.const (Value.bool false), Operand.const (Value.bool false)], argTypes := #[26, 4, 4, 4, 4, 4] }, type := 4, pos := "record.go:124", after := #[{ on := 0, ground := Ground.data }], guard := none }) rfl (fun K hK => ?_) AllReadyH.nil
      go_simp
      go_at_call 45
      refine (HB1.out _ _ _ _).mono ?_
      rintro e w2 ⟨rfl, hb2⟩
      have R2 := Lib.hid (HROd.out.below hb2)
      have HE2 := Lib.hid (below_then HBD.out hb2)
      try go_wp2_with fail
      refine hK.out _ _ ?_ (fun hHeld => ?_)
      · exact ⟨R2.out.cell (j := 0) rfl, R2.out.cell (j := 1) rfl, R2.out.cell (j := 2) rfl, R2.out.cell (j := 3) rfl, R2.out.cell (j := 4) rfl, R2.out.cell (j := 5) rfl, R2.out.cell (j := 6) rfl, R2.out.cell (j := 7) rfl, R2.out.cell (j := 8) rfl, R2.out.cell (j := 9) rfl, R2.out.cell (j := 10) rfl⟩
      clear hK K
      (try simp only [Act.put, List.setIfInBounds_toArray, List.set_cons_zero, List.set_cons_succ])
      refine wpAnyH_take (i := 2) (oi := { dst := some 73, op := Op.move (Operand.tmp 72), type := 4, pos := "record.go:124", after := #[{ on := 1, ground := Ground.data }, { on := 1, ground := Ground.chain }], guard := none }) (v := ?vp11) rfl (by kernel_rfl) (by kernel_rfl) (by kernel_rfl) (fun _ _ _ h => h) (Or.inl ⟨by rfl, ?hp11⟩) hHeld ?rp11
      case hp11 => ((intro w hSw); (try dsimp only at hSw); go_simp; (try with_reducible rfl))
      (try simp only [Act.put, List.setIfInBounds_toArray, List.set_cons_zero, List.set_cons_succ])
      refine wpAnyH_take (i := 3) (oi := { dst := some 74, op := Op.fieldAddr 26 (Operand.tmp 1) 4, type := 0, pos := "record.go:124", after := #[{ on := 2, ground := Ground.guard }], guard := some (2, true) }) rfl (by kernel_rfl) (by kernel_rfl) (by kernel_rfl) (fun _ _ _ h => h) (Or.inr ⟨by rfl, rfl⟩) hHeld ?_
      (try simp only [Act.put, List.setIfInBounds_toArray, List.set_cons_zero, List.set_cons_succ])
      refine wpAnyH_take (i := 4) (oi := { dst := some 75, op := Op.load 3 (Operand.tmp 74), type := 3, pos := "record.go:124", after := #[{ on := 3, ground := Ground.data }, { on := 2, ground := Ground.guard }], guard := some (2, true) }) rfl (by kernel_rfl) (by kernel_rfl) (by kernel_rfl) (fun _ _ _ h => h) (Or.inr ⟨by rfl, rfl⟩) hHeld ?_
      (try simp only [Act.put, List.setIfInBounds_toArray, List.set_cons_zero, List.set_cons_succ])
      refine wpAnyH_take (i := 5) (oi := { dst := some 76, op := Op.call { callee := Callee.value (Operand.func 49), args := #[Operand.tmp 75], argTypes := #[3] }, type := 4, pos := "record.go:124", after := #[{ on := 4, ground := Ground.data }, { on := 2, ground := Ground.chain }, { on := 2, ground := Ground.guard }], guard := some (2, true) }) rfl (by kernel_rfl) (by kernel_rfl) (by kernel_rfl) (fun _ _ _ h => h) (Or.inr ⟨by rfl, rfl⟩) hHeld ?_
      (try simp only [Act.put, List.setIfInBounds_toArray, List.set_cons_zero, List.set_cons_succ])
      refine wpAnyH_take (i := 6) (oi := { dst := some 77, op := Op.pick (Operand.tmp 73) (Operand.tmp 76) (Operand.const (Value.bool false)), type := 4, pos := "record.go:124", after := #[{ on := 2, ground := Ground.data }, { on := 5, ground := Ground.data }], guard := none }) (v := ?vp15) rfl (by kernel_rfl) (by kernel_rfl) (by kernel_rfl) (fun _ _ _ h => h) (Or.inl ⟨by rfl, ?hp15⟩) hHeld ?rp15
      case hp15 => ((intro w hSw); (try dsimp only at hSw); go_simp; (try with_reducible rfl))
      (try simp only [Act.put, List.setIfInBounds_toArray, List.set_cons_zero, List.set_cons_succ])
      refine wpAnyH_take (i := 7) (oi := { dst := some 78, op := Op.move (Operand.tmp 77), type := 4, pos := "record.go:124", after := #[{ on := 6, ground := Ground.data }, { on := 5, ground := Ground.chain }], guard := none }) (v := ?vp16) rfl (by kernel_rfl) (by kernel_rfl) (by kernel_rfl) (fun _ _ _ h => h) (Or.inl ⟨by rfl, ?hp16⟩) hHeld ?rp16
      case hp16 => ((intro w hSw); (try dsimp only at hSw); go_simp; (try with_reducible rfl))
      (try simp only [Act.put, List.setIfInBounds_toArray, List.set_cons_zero, List.set_cons_succ])
      refine wpAnyH_take (i := 8) (oi := { dst := some 79, op := Op.fieldAddr 26 (Operand.tmp 1) 5, type := 0, pos := "record.go:124", after := #[{ on := 7, ground := Ground.guard }], guard := some (7, true) }) rfl (by kernel_rfl) (by kernel_rfl) (by kernel_rfl) (fun _ _ _ h => h) (Or.inr ⟨by rfl, rfl⟩) hHeld ?_
      (try simp only [Act.put, List.setIfInBounds_toArray, List.set_cons_zero, List.set_cons_succ])
      refine wpAnyH_take (i := 9) (oi := { dst := some 80, op := Op.load 3 (Operand.tmp 79), type := 3, pos := "record.go:124", after := #[{ on := 8, ground := Ground.data }, { on := 7, ground := Ground.guard }], guard := some (7, true) }) rfl (by kernel_rfl) (by kernel_rfl) (by kernel_rfl) (fun _ _ _ h => h) (Or.inr ⟨by rfl, rfl⟩) hHeld ?_
      (try simp only [Act.put, List.setIfInBounds_toArray, List.set_cons_zero, List.set_cons_succ])
      refine wpAnyH_take (i := 10) (oi := { dst := some 81, op := Op.move (Operand.tmp 3), type := 3, pos := "record.go:124", after := #[{ on := 7, ground := Ground.guard }], guard := some (7, true) }) rfl (by kernel_rfl) (by kernel_rfl) (by kernel_rfl) (fun _ _ _ h => h) (Or.inr ⟨by rfl, rfl⟩) hHeld ?_
      (try simp only [Act.put, List.setIfInBounds_toArray, List.set_cons_zero, List.set_cons_succ])
      refine wpAnyH_take (i := 11) (oi := { dst := some 82, op := Op.call { callee := Callee.value (Operand.func 50), args := #[Operand.tmp 80, Operand.tmp 81], argTypes := #[3, 3] }, type := 4, pos := "record.go:124", after := #[{ on := 9, ground := Ground.data }, { on := 10, ground := Ground.data }, { on := 7, ground := Ground.chain }, { on := 7, ground := Ground.guard }], guard := some (7, true) }) rfl (by kernel_rfl) (by kernel_rfl) (by kernel_rfl) (fun _ _ _ h => h) (Or.inr ⟨by rfl, rfl⟩) hHeld ?_
      (try simp only [Act.put, List.setIfInBounds_toArray, List.set_cons_zero, List.set_cons_succ])
      refine wpAnyH_take (i := 12) (oi := { dst := some 83, op := Op.pick (Operand.tmp 78) (Operand.tmp 82) (Operand.const (Value.bool false)), type := 4, pos := "record.go:124", after := #[{ on := 7, ground := Ground.data }, { on := 11, ground := Ground.data }], guard := none }) (v := ?vp111) rfl (by kernel_rfl) (by kernel_rfl) (by kernel_rfl) (fun _ _ _ h => h) (Or.inl ⟨by rfl, ?hp111⟩) hHeld ?rp111
      case hp111 => ((intro w hSw); (try dsimp only at hSw); go_simp; (try with_reducible rfl))
      (try simp only [Act.put, List.setIfInBounds_toArray, List.set_cons_zero, List.set_cons_succ])
      refine wpAnyH_take (i := 13) (oi := { dst := some 84, op := Op.move (Operand.tmp 83), type := 4, pos := "record.go:124", after := #[{ on := 12, ground := Ground.data }, { on := 11, ground := Ground.chain }], guard := none }) (v := ?vp112) rfl (by kernel_rfl) (by kernel_rfl) (by kernel_rfl) (fun _ _ _ h => h) (Or.inl ⟨by rfl, ?hp112⟩) hHeld ?rp112
      case hp112 => ((intro w hSw); (try dsimp only at hSw); go_simp; (try with_reducible rfl))
      (try simp only [Act.put, List.setIfInBounds_toArray, List.set_cons_zero, List.set_cons_succ])
      refine wpAnyH_take (i := 14) (oi := { dst := some 85, op := Op.fieldAddr 26 (Operand.tmp 1) 6, type := 0, pos := "record.go:124", after := #[{ on := 13, ground := Ground.guard }], guard := some (13, true) }) rfl (by kernel_rfl) (by kernel_rfl) (by kernel_rfl) (fun _ _ _ h => h) (Or.inr ⟨by rfl, rfl⟩) hHeld ?_
      (try simp only [Act.put, List.setIfInBounds_toArray, List.set_cons_zero, List.set_cons_succ])
      refine wpAnyH_take (i := 15) (oi := { dst := some 86, op := Op.load 22 (Operand.tmp 85), type := 22, pos := "record.go:124", after := #[{ on := 14, ground := Ground.data }, { on := 13, ground := Ground.guard }], guard := some (13, true) }) rfl (by kernel_rfl) (by kernel_rfl) (by kernel_rfl) (fun _ _ _ h => h) (Or.inr ⟨by rfl, rfl⟩) hHeld ?_
      (try simp only [Act.put, List.setIfInBounds_toArray, List.set_cons_zero, List.set_cons_succ])
      refine wpAnyH_take (i := 16) (oi := { dst := some 87, op := Op.call { callee := Callee.builtin Builtin.len, args := #[Operand.tmp 86], argTypes := #[22] }, type := 3, pos := "record.go:124", after := #[{ on := 15, ground := Ground.data }, { on := 13, ground := Ground.guard }], guard := some (13, true) }) rfl (by kernel_rfl) (by kernel_rfl) (by kernel_rfl) (fun _ _ _ h => h) (Or.inr ⟨by rfl, rfl⟩) hHeld ?_
      (try simp only [Act.put, List.setIfInBounds_toArray, List.set_cons_zero, List.set_cons_succ])
      refine wpAnyH_take (i := 17) (oi := { dst := some 88, op := Op.move (Operand.tmp 3), type := 3, pos := "record.go:124", after := #[{ on := 13, ground := Ground.guard }], guard := some (13, true) }) rfl (by kernel_rfl) (by kernel_rfl) (by kernel_rfl) (fun _ _ _ h => h) (Or.inr ⟨by rfl, rfl⟩) hHeld ?_
      (try simp only [Act.put, List.setIfInBounds_toArray, List.set_cons_zero, List.set_cons_succ])
      refine wpAnyH_take (i := 18) (oi := { dst := some 89, op := Op.binOp BinOp.eql 3 (Operand.tmp 87) (Operand.tmp 88) 3, type := 4, pos := "record.go:124", after := #[{ on := 16, ground := Ground.data }, { on := 17, ground := Ground.data }, { on := 13, ground := Ground.guard }], guard := some (13, true) }) rfl (by kernel_rfl) (by kernel_rfl) (by kernel_rfl) (fun _ _ _ h => h) (Or.inr ⟨by rfl, rfl⟩) hHeld ?_
      (try simp only [Act.put, List.setIfInBounds_toArray, List.set_cons_zero, List.set_cons_succ])
      refine wpAnyH_take (i := 19) (oi := { dst := some 90, op := Op.pick (Operand.tmp 84) (Operand.tmp 89) (Operand.const (Value.bool false)), type := 4, pos := "record.go:124", after := #[{ on := 13, ground := Ground.data }, { on := 18, ground := Ground.data }], guard := none }) (v := ?vp118) rfl (by kernel_rfl) (by kernel_rfl) (by kernel_rfl) (fun _ _ _ h => h) (Or.inl ⟨by rfl, ?hp118⟩) hHeld ?rp118
      case hp118 => ((intro w hSw); (try dsimp only at hSw); go_simp; (try with_reducible rfl))
      (try simp only [Act.put, List.setIfInBounds_toArray, List.set_cons_zero, List.set_cons_succ])
      refine wpAnyH_take (i := 20) (oi := { dst := some 91, op := Op.move (Operand.tmp 90), type := 4, pos := "record.go:124", after := #[{ on := 19, ground := Ground.data }, { on := 13, ground := Ground.chain }], guard := none }) (v := ?vp119) rfl (by kernel_rfl) (by kernel_rfl) (by kernel_rfl) (fun _ _ _ h => h) (Or.inl ⟨by rfl, ?hp119⟩) hHeld ?rp119
      case hp119 => ((intro w hSw); (try dsimp only at hSw); go_simp; (try with_reducible rfl))
      (try simp only [Act.put, List.setIfInBounds_toArray, List.set_cons_zero, List.set_cons_succ])
      refine wpAnyH_take (i := 21) (oi := { dst := some 92, op := Op.fieldAddr 26 (Operand.tmp 1) 6, type := 0, pos := "record.go:124", after := #[{ on := 20, ground := Ground.guard }], guard := some (20, true) }) rfl (by kernel_rfl) (by kernel_rfl) (by kernel_rfl) (fun _ _ _ h => h) (Or.inr ⟨by rfl, rfl⟩) hHeld ?_
      (try simp only [Act.put, List.setIfInBounds_toArray, List.set_cons_zero, List.set_cons_succ])
      refine wpAnyH_take (i := 22) (oi := { dst := some 93, op := Op.load 22 (Operand.tmp 92), type := 22, pos := "record.go:124", after := #[{ on := 21, ground := Ground.data }, { on := 20, ground := Ground.guard }], guard := some (20, true) }) rfl (by kernel_rfl) (by kernel_rfl) (by kernel_rfl) (fun _ _ _ h => h) (Or.inr ⟨by rfl, rfl⟩) hHeld ?_
      (try simp only [Act.put, List.setIfInBounds_toArray, List.set_cons_zero, List.set_cons_succ])
      refine wpAnyH_take (i := 23) (oi := { dst := some 94, op := Op.indexAddr 22 (Operand.tmp 93) (Operand.const (Value.int IntKind.i64 0)), type := 0, pos := "record.go:124", after := #[{ on := 22, ground := Ground.data }, { on := 20, ground := Ground.guard }], guard := some (20, true) }) rfl (by kernel_rfl) (by kernel_rfl) (by kernel_rfl) (fun _ _ _ h => h) (Or.inr ⟨by rfl, rfl⟩) hHeld ?_
      (try simp only [Act.put, List.setIfInBounds_toArray, List.set_cons_zero, List.set_cons_succ])
      refine wpAnyH_take (i := 24) (oi := { dst := some 95, op := Op.load 5 (Operand.tmp 94), type := 5, pos := "record.go:124", after := #[{ on := 23, ground := Ground.data }, { on := 20, ground := Ground.guard }], guard := some (20, true) }) rfl (by kernel_rfl) (by kernel_rfl) (by kernel_rfl) (fun _ _ _ h => h) (Or.inr ⟨by rfl, rfl⟩) hHeld ?_
      (try simp only [Act.put, List.setIfInBounds_toArray, List.set_cons_zero, List.set_cons_succ])
      refine wpAnyH_take (i := 25) (oi := { dst := some 96, op := Op.fieldAddr 26 (Operand.tmp 1) 7, type := 0, pos := "record.go:124", after := #[{ on := 20, ground := Ground.guard }], guard := some (20, true) }) rfl (by kernel_rfl) (by kernel_rfl) (by kernel_rfl) (fun _ _ _ h => h) (Or.inr ⟨by rfl, rfl⟩) hHeld ?_
      (try simp only [Act.put, List.setIfInBounds_toArray, List.set_cons_zero, List.set_cons_succ])
      refine wpAnyH_take (i := 26) (oi := { dst := some 97, op := Op.load 22 (Operand.tmp 96), type := 22, pos := "record.go:124", after := #[{ on := 25, ground := Ground.data }, { on := 20, ground := Ground.guard }], guard := some (20, true) }) rfl (by kernel_rfl) (by kernel_rfl) (by kernel_rfl) (fun _ _ _ h => h) (Or.inr ⟨by rfl, rfl⟩) hHeld ?_
      (try simp only [Act.put, List.setIfInBounds_toArray, List.set_cons_zero, List.set_cons_succ])
      refine wpAnyH_take (i := 27) (oi := { dst := some 98, op := Op.indexAddr 22 (Operand.tmp 97) (Operand.const (Value.int IntKind.i64 0)), type := 0, pos := "record.go:124", after := #[{ on := 26, ground := Ground.data }, { on := 20, ground := Ground.guard }], guard := some (20, true) }) rfl (by kernel_rfl) (by kernel_rfl) (by kernel_rfl) (fun _ _ _ h => h) (Or.inr ⟨by rfl, rfl⟩) hHeld ?_
      (try simp only [Act.put, List.setIfInBounds_toArray, List.set_cons_zero, List.set_cons_succ])
      refine wpAnyH_take (i := 28) (oi := { dst := some 99, op := Op.load 5 (Operand.tmp 98), type := 5, pos := "record.go:124", after := #[{ on := 27, ground := Ground.data }, { on := 20, ground := Ground.guard }], guard := some (20, true) }) rfl (by kernel_rfl) (by kernel_rfl) (by kernel_rfl) (fun _ _ _ h => h) (Or.inr ⟨by rfl, rfl⟩) hHeld ?_
      (try simp only [Act.put, List.setIfInBounds_toArray, List.set_cons_zero, List.set_cons_succ])
      refine wpAnyH_take (i := 29) (oi := { dst := some 100, op := Op.binOp BinOp.neq 5 (Operand.tmp 95) (Operand.tmp 99) 5, type := 4, pos := "record.go:124", after := #[{ on := 24, ground := Ground.data }, { on := 28, ground := Ground.data }, { on := 20, ground := Ground.guard }], guard := some (20, true) }) rfl (by kernel_rfl) (by kernel_rfl) (by kernel_rfl) (fun _ _ _ h => h) (Or.inr ⟨by rfl, rfl⟩) hHeld ?_
      (try simp only [Act.put, List.setIfInBounds_toArray, List.set_cons_zero, List.set_cons_succ])
      refine wpAnyH_take (i := 30) (oi := { dst := some 101, op := Op.pick (Operand.tmp 91) (Operand.tmp 100) (Operand.const (Value.bool false)), type := 4, pos := "record.go:124", after := #[{ on := 20, ground := Ground.data }, { on := 29, ground := Ground.data }], guard := none }) (v := ?vp129) rfl (by kernel_rfl) (by kernel_rfl) (by kernel_rfl) (fun _ _ _ h => h) (Or.inl ⟨by rfl, ?hp129⟩) hHeld ?rp129
      case hp129 => ((intro w hSw); (try dsimp only at hSw); go_simp; (try with_reducible rfl))
      (try simp only [Act.put, List.setIfInBounds_toArray, List.set_cons_zero, List.set_cons_succ])
      refine wpAnyH_take (i := 31) (oi := { dst := some 102, op := Op.move (Operand.tmp 101), type := 4, pos := "record.go:124", after := #[{ on := 30, ground := Ground.data }, { on := 20, ground := Ground.chain }], guard := none }) (v := ?vp130) rfl (by kernel_rfl) (by kernel_rfl) (by kernel_rfl) (fun _ _ _ h => h) (Or.inl ⟨by rfl, ?hp130⟩) hHeld ?rp130
      case hp130 => ((intro w hSw); (try dsimp only at hSw); go_simp; (try with_reducible rfl))
      (try simp only [Act.put, List.setIfInBounds_toArray, List.set_cons_zero, List.set_cons_succ])
      refine wpAnyH_take (i := 32) (oi := { dst := some 103, op := Op.fieldAddr 26 (Operand.tmp 1) 6, type := 0, pos := "record.go:124", after := #[{ on := 31, ground := Ground.guard }], guard := some (31, true) }) rfl (by kernel_rfl) (by kernel_rfl) (by kernel_rfl) (fun _ _ _ h => h) (Or.inr ⟨by rfl, rfl⟩) hHeld ?_
      (try simp only [Act.put, List.setIfInBounds_toArray, List.set_cons_zero, List.set_cons_succ])
      refine wpAnyH_take (i := 33) (oi := { dst := some 104, op := Op.load 22 (Operand.tmp 103), type := 22, pos := "record.go:124", after := #[{ on := 32, ground := Ground.data }, { on := 31, ground := Ground.guard }], guard := some (31, true) }) rfl (by kernel_rfl) (by kernel_rfl) (by kernel_rfl) (fun _ _ _ h => h) (Or.inr ⟨by rfl, rfl⟩) hHeld ?_
      (try simp only [Act.put, List.setIfInBounds_toArray, List.set_cons_zero, List.set_cons_succ])
      refine wpAnyH_take (i := 34) (oi := { dst := some 105, op := Op.move (Operand.tmp 3), type := 3, pos := "record.go:124", after := #[{ on := 31, ground := Ground.guard }], guard := some (31, true) }) rfl (by kernel_rfl) (by kernel_rfl) (by kernel_rfl) (fun _ _ _ h => h) (Or.inr ⟨by rfl, rfl⟩) hHeld ?_
      (try simp only [Act.put, List.setIfInBounds_toArray, List.set_cons_zero, List.set_cons_succ])
      refine wpAnyH_take (i := 35) (oi := { dst := some 106, op := Op.binOp BinOp.sub 3 (Operand.tmp 105) (Operand.const (Value.int IntKind.i64 1)) 3, type := 3, pos := "record.go:124", after := #[{ on := 34, ground := Ground.data }, { on := 31, ground := Ground.guard }], guard := some (31, true) }) rfl (by kernel_rfl) (by kernel_rfl) (by kernel_rfl) (fun _ _ _ h => h) (Or.inr ⟨by rfl, rfl⟩) hHeld ?_
      (try simp only [Act.put, List.setIfInBounds_toArray, List.set_cons_zero, List.set_cons_succ])
      refine wpAnyH_take (i := 36) (oi := { dst := some 107, op := Op.indexAddr 22 (Operand.tmp 104) (Operand.tmp 106), type := 0, pos := "record.go:124", after := #[{ on := 33, ground := Ground.data }, { on := 35, ground := Ground.data }, { on := 31, ground := Ground.guard }], guard := some (31, true) }) rfl (by kernel_rfl) (by kernel_rfl) (by kernel_rfl) (fun _ _ _ h => h) (Or.inr ⟨by rfl, rfl⟩) hHeld ?_
      (try simp only [Act.put, List.setIfInBounds_toArray, List.set_cons_zero, List.set_cons_succ])
      refine wpAnyH_take (i := 37) (oi := { dst := some 108, op := Op.load 5 (Operand.tmp 107), type := 5, pos := "record.go:124", after := #[{ on := 36, ground := Ground.data }, { on := 31, ground := Ground.guard }], guard := some (31, true) }) rfl (by kernel_rfl) (by kernel_rfl) (by kernel_rfl) (fun _ _ _ h => h) (Or.inr ⟨by rfl, rfl⟩) hHeld ?_
      (try simp only [Act.put, List.setIfInBounds_toArray, List.set_cons_zero, List.set_cons_succ])
      refine wpAnyH_take (i := 38) (oi := { dst := some 109, op := Op.fieldAddr 26 (Operand.tmp 1) 7, type := 0, pos := "record.go:124", after := #[{ on := 31, ground := Ground.guard }], guard := some (31, true) }) rfl (by kernel_rfl) (by kernel_rfl) (by kernel_rfl) (fun _ _ _ h => h) (Or.inr ⟨by rfl, rfl⟩) hHeld ?_
      (try simp only [Act.put, List.setIfInBounds_toArray, List.set_cons_zero, List.set_cons_succ])
      refine wpAnyH_take (i := 39) (oi := { dst := some 110, op := Op.load 22 (Operand.tmp 109), type := 22, pos := "record.go:124", after := #[{ on := 38, ground := Ground.data }, { on := 31, ground := Ground.guard }], guard := some (31, true) }) rfl (by kernel_rfl) (by kernel_rfl) (by kernel_rfl) (fun _ _ _ h => h) (Or.inr ⟨by rfl, rfl⟩) hHeld ?_
      (try simp only [Act.put, List.setIfInBounds_toArray, List.set_cons_zero, List.set_cons_succ])
      refine wpAnyH_take (i := 40) (oi := { dst := some 111, op := Op.move (Operand.tmp 3), type := 3, pos := "record.go:124", after := #[{ on := 31, ground := Ground.guard }], guard := some (31, true) }) rfl (by kernel_rfl) (by kernel_rfl) (by kernel_rfl) (fun _ _ _ h => h) (Or.inr ⟨by rfl, rfl⟩) hHeld ?_
      (try simp only [Act.put, List.setIfInBounds_toArray, List.set_cons_zero, List.set_cons_succ])
      refine wpAnyH_take (i := 41) (oi := { dst := some 112, op := Op.binOp BinOp.sub 3 (Operand.tmp 111) (Operand.const (Value.int IntKind.i64 1)) 3, type := 3, pos := "record.go:124", after := #[{ on := 40, ground := Ground.data }, { on := 31, ground := Ground.guard }], guard := some (31, true) }) rfl (by kernel_rfl) (by kernel_rfl) (by kernel_rfl) (fun _ _ _ h => h) (Or.inr ⟨by rfl, rfl⟩) hHeld ?_
      (try simp only [Act.put, List.setIfInBounds_toArray, List.set_cons_zero, List.set_cons_succ])
      refine wpAnyH_take (i := 42) (oi := { dst := some 113, op := Op.indexAddr 22 (Operand.tmp 110) (Operand.tmp 112), type := 0, pos := "record.go:124", after := #[{ on := 39, ground := Ground.data }, { on := 41, ground := Ground.data }, { on := 31, ground := Ground.guard }], guard := some (31, true) }) rfl (by kernel_rfl) (by kernel_rfl) (by kernel_rfl) (fun _ _ _ h => h) (Or.inr ⟨by rfl, rfl⟩) hHeld ?_
      (try simp only [Act.put, List.setIfInBounds_toArray, List.set_cons_zero, List.set_cons_succ])
      refine wpAnyH_take (i := 43) (oi := { dst := some 114, op := Op.load 5 (Operand.tmp 113), type := 5, pos := "record.go:124", after := #[{ on := 42, ground := Ground.data }, { on := 31, ground := Ground.guard }], guard := some (31, true) }) rfl (by kernel_rfl) (by kernel_rfl) (by kernel_rfl) (fun _ _ _ h => h) (Or.inr ⟨by rfl, rfl⟩) hHeld ?_
      (try simp only [Act.put, List.setIfInBounds_toArray, List.set_cons_zero, List.set_cons_succ])
      refine wpAnyH_take (i := 44) (oi := { dst := some 115, op := Op.binOp BinOp.neq 5 (Operand.tmp 108) (Operand.tmp 114) 5, type := 4, pos := "record.go:124", after := #[{ on := 37, ground := Ground.data }, { on := 43, ground := Ground.data }, { on := 31, ground := Ground.guard }], guard := some (31, true) }) rfl (by kernel_rfl) (by kernel_rfl) (by kernel_rfl) (fun _ _ _ h => h) (Or.inr ⟨by rfl, rfl⟩) hHeld ?_
      (try simp only [Act.put, List.setIfInBounds_toArray, List.set_cons_zero, List.set_cons_succ])
      refine wpAnyH_take (i := 45) (oi := { dst := some 116, op := Op.pick (Operand.tmp 102) (Operand.tmp 115) (Operand.const (Value.bool false)), type := 4, pos := "record.go:124", after := #[{ on := 31, ground := Ground.data }, { on := 44, ground := Ground.data }], guard := none }) (v := ?vp144) rfl (by kernel_rfl) (by kernel_rfl) (by kernel_rfl) (fun _ _ _ h => h) (Or.inl ⟨by rfl, ?hp144⟩) hHeld ?rp144
      case hp144 => ((intro w hSw); (try dsimp only at hSw); go_simp; (try with_reducible rfl))
      (try simp only [Act.put, List.setIfInBounds_toArray, List.set_cons_zero, List.set_cons_succ])
      refine wpAnyH_take (i := 46) (oi := { dst := some 2, op := Op.assign (Operand.tmp 116), type := 4, pos := "record.go:124", after := #[{ on := 45, ground := Ground.data }, { on := 31, ground := Ground.chain }, { on := 0, ground := Ground.phase }, { on := 1, ground := Ground.phase }, { on := 2, ground := Ground.phase }, { on := 3, ground := Ground.phase }, { on := 4, ground := Ground.phase }, { on := 5, ground := Ground.phase }, { on := 6, ground := Ground.phase }, { on := 7, ground := Ground.phase }, { on := 8, ground := Ground.phase }, { on := 9, ground := Ground.phase }, { on := 10, ground := Ground.phase }, { on := 11, ground := Ground.phase }, { on := 12, ground := Ground.phase }, { on := 13, ground := Ground.phase }, { on := 14, ground := Ground.phase }, { on := 15, ground := Ground.phase }, { on := 16, ground := Ground.phase }, { on := 17, ground := Ground.phase }, { on := 18, ground := Ground.phase }, { on := 19, ground := Ground.phase }, { on := 20, ground := Ground.phase }, { on := 21, ground := Ground.phase }, { on := 22, ground := Ground.phase }, { on := 23, ground := Ground.phase }, { on := 24, ground := Ground.phase }, { on := 25, ground := Ground.phase }, { on := 26, ground := Ground.phase }, { on := 27, ground := Ground.phase }, { on := 28, ground := Ground.phase }, { on := 29, ground := Ground.phase }, { on := 30, ground := Ground.phase }, { on := 31, ground := Ground.phase }, { on := 32, ground := Ground.phase }, { on := 33, ground := Ground.phase }, { on := 34, ground := Ground.phase }, { on := 35, ground := Ground.phase }, { on := 36, ground := Ground.phase }, { on := 37, ground := Ground.phase }, { on := 38, ground := Ground.phase }, { on := 39, ground := Ground.phase }, { on := 40, ground := Ground.phase }, { on := 41, ground := Ground.phase }, { on := 42, ground := Ground.phase }, { on := 43, ground := Ground.phase }, { on := 44, ground := Ground.phase }, { on := 45, ground := Ground.phase }], guard := none }) (v := ?vp145) rfl (by kernel_rfl) (by kernel_rfl) (by kernel_rfl) (fun _ _ _ h => h) (Or.inl ⟨by rfl, ?hp145⟩) hHeld ?rp145
      case hp145 => ((intro w hSw); (try dsimp only at hSw); go_simp; (try with_reducible rfl))
      (try simp only [Act.put, List.setIfInBounds_toArray, List.set_cons_zero, List.set_cons_succ])
      refine wpAnyH_done (by kernel_rfl) ?_ _
      go_wp2_with fail
      go_ret
      exact ⟨retB (by rw [HR.out]; rfl), HE2.out⟩
    | true =>
    cases PG with
    | false =>
      go_enter Try.func27, Try.ntmps27
      go_wp2_with (first | (go_at_call 48; ((with_reducible refine (HLB.out _).mono ?_); rintro e w2 ⟨rfl, rfl⟩)) | (go_at_call 48; ((with_reducible refine (HLP.out _).mono ?_); rintro e w2 ⟨rfl, rfl⟩)))
      refine wp_region_held_drew (S := (fun w' => w'.cell? ⟨w.heap.size, 0, none⟩ = some (.int .i64 2) ∧ w'.cell? ⟨w.heap.size, 1, none⟩ = some (.int .i64 bi) ∧ w'.cell? ⟨w.heap.size, 2, none⟩ = some (.int .i64 pr) ∧ w'.cell? ⟨w.heap.size, 3, none⟩ = some (.int .i64 id) ∧ w'.cell? ⟨w.heap.size, 4, none⟩ = some (.int .i64 pg) ∧ w'.cell? ⟨w.heap.size, 5, none⟩ = some (.int .i64 fr) ∧ w'.cell? ⟨w.heap.size, 6, none⟩ = some (.slice A1 nb c1) ∧ w'.cell? ⟨w.heap.size, 7, none⟩ = some (.slice A2 na c2) ∧ w'.cell? ⟨w.heap.size, 8, none⟩ = some (.int .i64 nx) ∧ w'.cell? ⟨w.heap.size, 9, none⟩ = some (.slice A3 nr c3) ∧ w'.cell? ⟨w.heap.size, 10, none⟩ = some (.slice A4 nd c4))) (by kernel_rfl) (⟨HROd.out.cell (j := 0) rfl, HROd.out.cell (j := 1) rfl, HROd.out.cell (j := 2) rfl, HROd.out.cell (j := 3) rfl, HROd.out.cell (j := 4) rfl, HROd.out.cell (j := 5) rfl, HROd.out.cell (j := 6) rfl, HROd.out.cell (j := 7) rfl, HROd.out.cell (j := 8) rfl, HROd.out.cell (j := 9) rfl, HROd.out.cell (j := 10) rfl⟩) (fun hHeld => ?_)
      refine wpAnyH_take (i := 0) (oi := { dst := some 71, op := Op.load 26 (Operand.tmp 1), type := 26, pos := "record.go:124", after := #[], guard := none }) (v := ?vp20) rfl (by kernel_rfl) (by kernel_rfl) (by kernel_rfl) (fun _ _ _ h => h) (Or.inl ⟨by rfl, ?hp20⟩) hHeld ?rp20
      case hp20 => ((intro w hSw); (try dsimp only at hSw); go_simp; (try with_reducible rfl))
      (try simp only [Act.put, List.setIfInBounds_toArray, List.set_cons_zero, List.set_cons_succ])
      refine wpAnyH_ready (rs := [1]) (by kernel_rfl) (by simp) ?_
      refine AllReadyH.cons (o := { dst := some 72, op := Op.call { callee := Callee.value (Operand.func 45), args := #[Operand.tmp 71, Operand.const (Value.bool false), Operand.const (Value.bool true), Operand.const (Value.bool true), Operand.const (Value.bool false), Operand.const (Value.bool false)], argTypes := #[26, 4, 4, 4, 4, 4] }, type := 4, pos := "record.go:124", after := #[{ on := 0, ground := Ground.data }], guard := none }) rfl (fun K hK => ?_) AllReadyH.nil
      go_simp
      go_at_call 45
      refine (HB1.out _ _ _ _).mono ?_
      rintro e w2 ⟨rfl, hb2⟩
      have R2 := Lib.hid (HROd.out.below hb2)
      have HE2 := Lib.hid (below_then HBD.out hb2)
      try go_wp2_with fail
      refine hK.out _ _ ?_ (fun hHeld => ?_)
      · exact ⟨R2.out.cell (j := 0) rfl, R2.out.cell (j := 1) rfl, R2.out.cell (j := 2) rfl, R2.out.cell (j := 3) rfl, R2.out.cell (j := 4) rfl, R2.out.cell (j := 5) rfl, R2.out.cell (j := 6) rfl, R2.out.cell (j := 7) rfl, R2.out.cell (j := 8) rfl, R2.out.cell (j := 9) rfl, R2.out.cell (j := 10) rfl⟩
      clear hK K
      (try simp only [Act.put, List.setIfInBounds_toArray, List.set_cons_zero, List.set_cons_succ])
      refine wpAnyH_take (i := 2) (oi := { dst := some 73, op := Op.move (Operand.tmp 72), type := 4, pos := "record.go:124", after := #[{ on := 1, ground := Ground.data }, { on := 1, ground := Ground.chain }], guard := none }) (v := ?vp21) rfl (by kernel_rfl) (by kernel_rfl) (by kernel_rfl) (fun _ _ _ h => h) (Or.inl ⟨by rfl, ?hp21⟩) hHeld ?rp21
      case hp21 => ((intro w hSw); (try dsimp only at hSw); go_simp; (try with_reducible rfl))
      (try simp only [Act.put, List.setIfInBounds_toArray, List.set_cons_zero, List.set_cons_succ])
      refine wpAnyH_take (i := 3) (oi := { dst := some 74, op := Op.fieldAddr 26 (Operand.tmp 1) 4, type := 0, pos := "record.go:124", after := #[{ on := 2, ground := Ground.guard }], guard := some (2, true) }) (v := ?vp22) rfl (by kernel_rfl) (by kernel_rfl) (by kernel_rfl) (fun _ _ _ h => h) (Or.inl ⟨by rfl, ?hp22⟩) hHeld ?rp22
      case hp22 => ((intro w hSw); (try dsimp only at hSw); go_simp; (try with_reducible rfl))
      (try simp only [Act.put, List.setIfInBounds_toArray, List.set_cons_zero, List.set_cons_succ])
      refine wpAnyH_take (i := 4) (oi := { dst := some 75, op := Op.load 3 (Operand.tmp 74), type := 3, pos := "record.go:124", after := #[{ on := 3, ground := Ground.data }, { on := 2, ground := Ground.guard }], guard := some (2, true) }) (v := ?vp23) rfl (by kernel_rfl) (by kernel_rfl) (by kernel_rfl) (fun _ _ _ h => h) (Or.inl ⟨by rfl, ?hp23⟩) hHeld ?rp23
      case hp23 => ((intro w hSw); (try dsimp only at hSw); go_simp; (try with_reducible rfl))
      (try simp only [Act.put, List.setIfInBounds_toArray, List.set_cons_zero, List.set_cons_succ])
      refine wpAnyH_ready (rs := [5]) (by kernel_rfl) (by simp) ?_
      refine AllReadyH.cons (o := { dst := some 76, op := Op.call { callee := Callee.value (Operand.func 49), args := #[Operand.tmp 75], argTypes := #[3] }, type := 4, pos := "record.go:124", after := #[{ on := 4, ground := Ground.data }, { on := 2, ground := Ground.chain }, { on := 2, ground := Ground.guard }], guard := some (2, true) }) rfl (fun K hK => ?_) AllReadyH.nil
      go_simp
      go_at_call 49
      refine (HPG.out _).mono ?_
      rintro e wn ⟨rfl, rfl⟩
      try go_wp2_with fail
      refine hK.out _ _ ?_ (fun hHeld => ?_)
      · exact hHeld
      clear hK K
      (try simp only [Act.put, List.setIfInBounds_toArray, List.set_cons_zero, List.set_cons_succ])
      refine wpAnyH_take (i := 6) (oi := { dst := some 77, op := Op.pick (Operand.tmp 73) (Operand.tmp 76) (Operand.const (Value.bool false)), type := 4, pos := "record.go:124", after := #[{ on := 2, ground := Ground.data }, { on := 5, ground := Ground.data }], guard := none }) (v := ?vp24) rfl (by kernel_rfl) (by kernel_rfl) (by kernel_rfl) (fun _ _ _ h => h) (Or.inl ⟨by rfl, ?hp24⟩) hHeld ?rp24
      case hp24 => ((intro w hSw); (try dsimp only at hSw); go_simp; (try with_reducible rfl))
      (try simp only [Act.put, List.setIfInBounds_toArray, List.set_cons_zero, List.set_cons_succ])
      refine wpAnyH_take (i := 7) (oi := { dst := some 78, op := Op.move (Operand.tmp 77), type := 4, pos := "record.go:124", after := #[{ on := 6, ground := Ground.data }, { on := 5, ground := Ground.chain }], guard := none }) (v := ?vp25) rfl (by kernel_rfl) (by kernel_rfl) (by kernel_rfl) (fun _ _ _ h => h) (Or.inl ⟨by rfl, ?hp25⟩) hHeld ?rp25
      case hp25 => ((intro w hSw); (try dsimp only at hSw); go_simp; (try with_reducible rfl))
      (try simp only [Act.put, List.setIfInBounds_toArray, List.set_cons_zero, List.set_cons_succ])
      refine wpAnyH_take (i := 8) (oi := { dst := some 79, op := Op.fieldAddr 26 (Operand.tmp 1) 5, type := 0, pos := "record.go:124", after := #[{ on := 7, ground := Ground.guard }], guard := some (7, true) }) rfl (by kernel_rfl) (by kernel_rfl) (by kernel_rfl) (fun _ _ _ h => h) (Or.inr ⟨by rfl, rfl⟩) hHeld ?_
      (try simp only [Act.put, List.setIfInBounds_toArray, List.set_cons_zero, List.set_cons_succ])
      refine wpAnyH_take (i := 9) (oi := { dst := some 80, op := Op.load 3 (Operand.tmp 79), type := 3, pos := "record.go:124", after := #[{ on := 8, ground := Ground.data }, { on := 7, ground := Ground.guard }], guard := some (7, true) }) rfl (by kernel_rfl) (by kernel_rfl) (by kernel_rfl) (fun _ _ _ h => h) (Or.inr ⟨by rfl, rfl⟩) hHeld ?_
      (try simp only [Act.put, List.setIfInBounds_toArray, List.set_cons_zero, List.set_cons_succ])
      refine wpAnyH_take (i := 10) (oi := { dst := some 81, op := Op.move (Operand.tmp 3), type := 3, pos := "record.go:124", after := #[{ on := 7, ground := Ground.guard }], guard := some (7, true) }) rfl (by kernel_rfl) (by kernel_rfl) (by kernel_rfl) (fun _ _ _ h => h) (Or.inr ⟨by rfl, rfl⟩) hHeld ?_
      (try simp only [Act.put, List.setIfInBounds_toArray, List.set_cons_zero, List.set_cons_succ])
      refine wpAnyH_take (i := 11) (oi := { dst := some 82, op := Op.call { callee := Callee.value (Operand.func 50), args := #[Operand.tmp 80, Operand.tmp 81], argTypes := #[3, 3] }, type := 4, pos := "record.go:124", after := #[{ on := 9, ground := Ground.data }, { on := 10, ground := Ground.data }, { on := 7, ground := Ground.chain }, { on := 7, ground := Ground.guard }], guard := some (7, true) }) rfl (by kernel_rfl) (by kernel_rfl) (by kernel_rfl) (fun _ _ _ h => h) (Or.inr ⟨by rfl, rfl⟩) hHeld ?_
      (try simp only [Act.put, List.setIfInBounds_toArray, List.set_cons_zero, List.set_cons_succ])
      refine wpAnyH_take (i := 12) (oi := { dst := some 83, op := Op.pick (Operand.tmp 78) (Operand.tmp 82) (Operand.const (Value.bool false)), type := 4, pos := "record.go:124", after := #[{ on := 7, ground := Ground.data }, { on := 11, ground := Ground.data }], guard := none }) (v := ?vp210) rfl (by kernel_rfl) (by kernel_rfl) (by kernel_rfl) (fun _ _ _ h => h) (Or.inl ⟨by rfl, ?hp210⟩) hHeld ?rp210
      case hp210 => ((intro w hSw); (try dsimp only at hSw); go_simp; (try with_reducible rfl))
      (try simp only [Act.put, List.setIfInBounds_toArray, List.set_cons_zero, List.set_cons_succ])
      refine wpAnyH_take (i := 13) (oi := { dst := some 84, op := Op.move (Operand.tmp 83), type := 4, pos := "record.go:124", after := #[{ on := 12, ground := Ground.data }, { on := 11, ground := Ground.chain }], guard := none }) (v := ?vp211) rfl (by kernel_rfl) (by kernel_rfl) (by kernel_rfl) (fun _ _ _ h => h) (Or.inl ⟨by rfl, ?hp211⟩) hHeld ?rp211
      case hp211 => ((intro w hSw); (try dsimp only at hSw); go_simp; (try with_reducible rfl))
      (try simp only [Act.put, List.setIfInBounds_toArray, List.set_cons_zero, List.set_cons_succ])
      refine wpAnyH_take (i := 14) (oi := { dst := some 85, op := Op.fieldAddr 26 (Operand.tmp 1) 6, type := 0, pos := "record.go:124", after := #[{ on := 13, ground := Ground.guard }], guard := some (13, true) }) rfl (by kernel_rfl) (by kernel_rfl) (by kernel_rfl) (fun _ _ _ h => h) (Or.inr ⟨by rfl, rfl⟩) hHeld ?_
      (try simp only [Act.put, List.setIfInBounds_toArray, List.set_cons_zero, List.set_cons_succ])
      refine wpAnyH_take (i := 15) (oi := { dst := some 86, op := Op.load 22 (Operand.tmp 85), type := 22, pos := "record.go:124", after := #[{ on := 14, ground := Ground.data }, { on := 13, ground := Ground.guard }], guard := some (13, true) }) rfl (by kernel_rfl) (by kernel_rfl) (by kernel_rfl) (fun _ _ _ h => h) (Or.inr ⟨by rfl, rfl⟩) hHeld ?_
      (try simp only [Act.put, List.setIfInBounds_toArray, List.set_cons_zero, List.set_cons_succ])
      refine wpAnyH_take (i := 16) (oi := { dst := some 87, op := Op.call { callee := Callee.builtin Builtin.len, args := #[Operand.tmp 86], argTypes := #[22] }, type := 3, pos := "record.go:124", after := #[{ on := 15, ground := Ground.data }, { on := 13, ground := Ground.guard }], guard := some (13, true) }) rfl (by kernel_rfl) (by kernel_rfl) (by kernel_rfl) (fun _ _ _ h => h) (Or.inr ⟨by rfl, rfl⟩) hHeld ?_
      (try simp only [Act.put, List.setIfInBounds_toArray, List.set_cons_zero, List.set_cons_succ])
      refine wpAnyH_take (i := 17) (oi := { dst := some 88, op := Op.move (Operand.tmp 3), type := 3, pos := "record.go:124", after := #[{ on := 13, ground := Ground.guard }], guard := some (13, true) }) rfl (by kernel_rfl) (by kernel_rfl) (by kernel_rfl) (fun _ _ _ h => h) (Or.inr ⟨by rfl, rfl⟩) hHeld ?_
      (try simp only [Act.put, List.setIfInBounds_toArray, List.set_cons_zero, List.set_cons_succ])
      refine wpAnyH_take (i := 18) (oi := { dst := some 89, op := Op.binOp BinOp.eql 3 (Operand.tmp 87) (Operand.tmp 88) 3, type := 4, pos := "record.go:124", after := #[{ on := 16, ground := Ground.data }, { on := 17, ground := Ground.data }, { on := 13, ground := Ground.guard }], guard := some (13, true) }) rfl (by kernel_rfl) (by kernel_rfl) (by kernel_rfl) (fun _ _ _ h => h) (Or.inr ⟨by rfl, rfl⟩) hHeld ?_
      (try simp only [Act.put, List.setIfInBounds_toArray, List.set_cons_zero, List.set_cons_succ])
      refine wpAnyH_take (i := 19) (oi := { dst := some 90, op := Op.pick (Operand.tmp 84) (Operand.tmp 89) (Operand.const (Value.bool false)), type := 4, pos := "record.go:124", after := #[{ on := 13, ground := Ground.data }, { on := 18, ground := Ground.data }], guard := none }) (v := ?vp217) rfl (by kernel_rfl) (by kernel_rfl) (by kernel_rfl) (fun _ _ _ h => h) (Or.inl ⟨by rfl, ?hp217⟩) hHeld ?rp217
      case hp217 => ((intro w hSw); (try dsimp only at hSw); go_simp; (try with_reducible rfl))
      (try simp only [Act.put, List.setIfInBounds_toArray, List.set_cons_zero, List.set_cons_succ])
      refine wpAnyH_take (i := 20) (oi := { dst := some 91, op := Op.move (Operand.tmp 90), type := 4, pos := "record.go:124", after := #[{ on := 19, ground := Ground.data }, { on := 13, ground := Ground.chain }], guard := none }) (v := ?vp218) rfl (by kernel_rfl) (by kernel_rfl) (by kernel_rfl) (fun _ _ _ h => h) (Or.inl ⟨by rfl, ?hp218⟩) hHeld ?rp218
      case hp218 => ((intro w hSw); (try dsimp only at hSw); go_simp; (try with_reducible rfl))
      (try simp only [Act.put, List.setIfInBounds_toArray, List.set_cons_zero, List.set_cons_succ])
      refine wpAnyH_take (i := 21) (oi := { dst := some 92, op := Op.fieldAddr 26 (Operand.tmp 1) 6, type := 0, pos := "record.go:124", after := #[{ on := 20, ground := Ground.guard }], guard := some (20, true) }) rfl (by kernel_rfl) (by kernel_rfl) (by kernel_rfl) (fun _ _ _ h => h) (Or.inr ⟨by rfl, rfl⟩) hHeld ?_
      (try simp only [Act.put, List.setIfInBounds_toArray, List.set_cons_zero, List.set_cons_succ])
      refine wpAnyH_take (i := 22) (oi := { dst := some 93, op := Op.load 22 (Operand.tmp 92), type := 22, pos := "record.go:124", after := #[{ on := 21, ground := Ground.data }, { on := 20, ground := Ground.guard }], guard := some (20, true) }) rfl (by kernel_rfl) (by kernel_rfl) (by kernel_rfl) (fun _ _ _ h => h) (Or.inr ⟨by rfl, rfl⟩) hHeld ?_
      (try simp only [Act.put, List.setIfInBounds_toArray, List.set_cons_zero, List.set_cons_succ])
      refine wpAnyH_take (i := 23) (oi := { dst := some 94, op := Op.indexAddr 22 (Operand.tmp 93) (Operand.const (Value.int IntKind.i64 0)), type := 0, pos := "record.go:124", after := #[{ on := 22, ground := Ground.data }, { on := 20, ground := Ground.guard }], guard := some (20, true) }) rfl (by kernel_rfl) (by kernel_rfl) (by kernel_rfl) (fun _ _ _ h => h) (Or.inr ⟨by rfl, rfl⟩) hHeld ?_
      (try simp only [Act.put, List.setIfInBounds_toArray, List.set_cons_zero, List.set_cons_succ])
      refine wpAnyH_take (i := 24) (oi := { dst := some 95, op := Op.load 5 (Operand.tmp 94), type := 5, pos := "record.go:124", after := #[{ on := 23, ground := Ground.data }, { on := 20, ground := Ground.guard }], guard := some (20, true) }) rfl (by kernel_rfl) (by kernel_rfl) (by kernel_rfl) (fun _ _ _ h => h) (Or.inr ⟨by rfl, rfl⟩) hHeld ?_
      (try simp only [Act.put, List.setIfInBounds_toArray, List.set_cons_zero, List.set_cons_succ])
      refine wpAnyH_take (i := 25) (oi := { dst := some 96, op := Op.fieldAddr 26 (Operand.tmp 1) 7, type := 0, pos := "record.go:124", after := #[{ on := 20, ground := Ground.guard }], guard := some (20, true) }) rfl (by kernel_rfl) (by kernel_rfl) (by kernel_rfl) (fun _ _ _ h => h) (Or.inr ⟨by rfl, rfl⟩) hHeld ?_
      (try simp only [Act.put, List.setIfInBounds_toArray, List.set_cons_zero, List.set_cons_succ])
      refine wpAnyH_take (i := 26) (oi := { dst := some 97, op := Op.load 22 (Operand.tmp 96), type := 22, pos := "record.go:124", after := #[{ on := 25, ground := Ground.data }, { on := 20, ground := Ground.guard }], guard := some (20, true) }) rfl (by kernel_rfl) (by kernel_rfl) (by kernel_rfl) (fun _ _ _ h => h) (Or.inr ⟨by rfl, rfl⟩) hHeld ?_
      (try simp only [Act.put, List.setIfInBounds_toArray, List.set_cons_zero, List.set_cons_succ])
      refine wpAnyH_take (i := 27) (oi := { dst := some 98, op := Op.indexAddr 22 (Operand.tmp 97) (Operand.const (Value.int IntKind.i64 0)), type := 0, pos := "record.go:124", after := #[{ on := 26, ground := Ground.data }, { on := 20, ground := Ground.guard }], guard := some (20, true) }) rfl (by kernel_rfl) (by kernel_rfl) (by kernel_rfl) (fun _ _ _ h => h) (Or.inr ⟨by rfl, rfl⟩) hHeld ?_
      (try simp only [Act.put, List.setIfInBounds_toArray, List.set_cons_zero, List.set_cons_succ])
      refine wpAnyH_take (i := 28) (oi := { dst := some 99, op := Op.load 5 (Operand.tmp 98), type := 5, pos := "record.go:124", after := #[{ on := 27, ground := Ground.data }, { on := 20, ground := Ground.guard }], guard := some (20, true) }) rfl (by kernel_rfl) (by kernel_rfl) (by kernel_rfl) (fun _ _ _ h => h) (Or.inr ⟨by rfl, rfl⟩) hHeld ?_
      (try simp only [Act.put, List.setIfInBounds_toArray, List.set_cons_zero, List.set_cons_succ])
      refine wpAnyH_take (i := 29) (oi := { dst := some 100, op := Op.binOp BinOp.neq 5 (Operand.tmp 95) (Operand.tmp 99) 5, type := 4, pos := "record.go:124", after := #[{ on := 24, ground := Ground.data }, { on := 28, ground := Ground.data }, { on := 20, ground := Ground.guard }], guard := some (20, true) }) rfl (by kernel_rfl) (by kernel_rfl) (by kernel_rfl) (fun _ _ _ h => h) (Or.inr ⟨by rfl, rfl⟩) hHeld ?_
      (try simp only [Act.put, List.setIfInBounds_toArray, List.set_cons_zero, List.set_cons_succ])
      refine wpAnyH_take (i := 30) (oi := { dst := some 101, op := Op.pick (Operand.tmp 91) (Operand.tmp 100) (Operand.const (Value.bool false)), type := 4, pos := "record.go:124", after := #[{ on := 20, ground := Ground.data }, { on := 29, ground := Ground.data }], guard := none }) (v := ?vp228) rfl (by kernel_rfl) (by kernel_rfl) (by kernel_rfl) (fun _ _ _ h => h) (Or.inl ⟨by rfl, ?hp228⟩) hHeld ?rp228
      case hp228 => ((intro w hSw); (try dsimp only at hSw); go_simp; (try with_reducible rfl))
      (try simp only [Act.put, List.setIfInBounds_toArray, List.set_cons_zero, List.set_cons_succ])
      refine wpAnyH_take (i := 31) (oi := { dst := some 102, op := Op.move (Operand.tmp 101), type := 4, pos := "record.go:124", after := #[{ on := 30, ground := Ground.data }, { on := 20, ground := Ground.chain }], guard := none }) (v := ?vp229) rfl (by kernel_rfl) (by kernel_rfl) (by kernel_rfl) (fun _ _ _ h => h) (Or.inl ⟨by rfl, ?hp229⟩) hHeld ?rp229
      case hp229 => ((intro w hSw); (try dsimp only at hSw); go_simp; (try with_reducible rfl))
      (try simp only [Act.put, List.setIfInBounds_toArray, List.set_cons_zero, List.set_cons_succ])
      refine wpAnyH_take (i := 32) (oi := { dst := some 103, op := Op.fieldAddr 26 (Operand.tmp 1) 6, type := 0, pos := "record.go:124", after := #[{ on := 31, ground := Ground.guard }], guard := some (31, true) }) rfl (by kernel_rfl) (by kernel_rfl) (by kernel_rfl) (fun _ _ _ h => h) (Or.inr ⟨by rfl, rfl⟩) hHeld ?_
      (try simp only [Act.put, List.setIfInBounds_toArray, List.set_cons_zero, List.set_cons_succ])
      refine wpAnyH_take (i := 33) (oi := { dst := some 104, op := Op.load 22 (Operand.tmp 103), type := 22, pos := "record.go:124", after := #[{ on := 32, ground := Ground.data }, { on := 31, ground := Ground.guard }], guard := some (31, true) }) rfl (by kernel_rfl) (by kernel_rfl) (by kernel_rfl) (fun _ _ _ h => h) (Or.inr ⟨by rfl, rfl⟩) hHeld ?_
      (try simp only [Act.put, List.setIfInBounds_toArray, List.set_cons_zero, List.set_cons_succ])
      refine wpAnyH_take (i := 34) (oi := { dst := some 105, op := Op.move (Operand.tmp 3), type := 3, pos := "record.go:124", after := #[{ on := 31, ground := Ground.guard }], guard := some (31, true) }) rfl (by kernel_rfl) (by kernel_rfl) (by kernel_rfl) (fun _ _ _ h => h) (Or.inr ⟨by rfl, rfl⟩) hHeld ?_
      (try simp only [Act.put, List.setIfInBounds_toArray, List.set_cons_zero, List.set_cons_succ])
      refine wpAnyH_take (i := 35) (oi := { dst := some 106, op := Op.binOp BinOp.sub 3 (Operand.tmp 105) (Operand.const (Value.int IntKind.i64 1)) 3, type := 3, pos := "record.go:124", after := #[{ on := 34, ground := Ground.data }, { on := 31, ground := Ground.guard }], guard := some (31, true) }) rfl (by kernel_rfl) (by kernel_rfl) (by kernel_rfl) (fun _ _ _ h => h) (Or.inr ⟨by rfl, rfl⟩) hHeld ?_
      (try simp only [Act.put, List.setIfInBounds_toArray, List.set_cons_zero, List.set_cons_succ])
      refine wpAnyH_take (i := 36) (oi := { dst := some 107, op := Op.indexAddr 22 (Operand.tmp 104) (Operand.tmp 106), type := 0, pos := "record.go:124", after := #[{ on := 33, ground := Ground.data }, { on := 35, ground := Ground.data }, { on := 31, ground := Ground.guard }], guard := some (31, true) }) rfl (by kernel_rfl) (by kernel_rfl) (by kernel_rfl) (fun _ _ _ h => h) (Or.inr ⟨by rfl, rfl⟩) hHeld ?_
      (try simp only [Act.put, List.setIfInBounds_toArray, List.set_cons_zero, List.set_cons_succ])
      refine wpAnyH_take (i := 37) (oi := { dst := some 108, op := Op.load 5 (Operand.tmp 107), type := 5, pos := "record.go:124", after := #[{ on := 36, ground := Ground.data }, { on := 31, ground := Ground.guard }], guard := some (31, true) }) rfl (by kernel_rfl) (by kernel_rfl) (by kernel_rfl) (fun _ _ _ h => h) (Or.inr ⟨by rfl, rfl⟩) hHeld ?_
      (try simp only [Act.put, List.setIfInBounds_toArray, List.set_cons_zero, List.set_cons_succ])
      refine wpAnyH_take (i := 38) (oi := { dst := some 109, op := Op.fieldAddr 26 (Operand.tmp 1) 7, type := 0, pos := "record.go:124", after := #[{ on := 31, ground := Ground.guard }], guard := some (31, true) }) rfl (by kernel_rfl) (by kernel_rfl) (by kernel_rfl) (fun _ _ _ h => h) (Or.inr ⟨by rfl, rfl⟩) hHeld ?_
      (try simp only [Act.put, List.setIfInBounds_toArray, List.set_cons_zero, List.set_cons_succ])
      refine wpAnyH_take (i := 39) (oi := { dst := some 110, op := Op.load 22 (Operand.tmp 109), type := 22, pos := "record.go:124", after := #[{ on := 38, ground := Ground.data }, { on := 31, ground := Ground.guard }], guard := some (31, true) }) rfl (by kernel_rfl) (by kernel_rfl) (by kernel_rfl) (fun _ _ _ h => h) (Or.inr ⟨by rfl, rfl⟩) hHeld ?_
      (try simp only [Act.put, List.setIfInBounds_toArray, List.set_cons_zero, List.set_cons_succ])
      refine wpAnyH_take (i := 40) (oi := { dst := some 111, op := Op.move (Operand.tmp 3), type := 3, pos := "record.go:124", after := #[{ on := 31, ground := Ground.guard }], guard := some (31, true) }) rfl (by kernel_rfl) (by kernel_rfl) (by kernel_rfl) (fun _ _ _ h => h) (Or.inr ⟨by rfl, rfl⟩) hHeld ?_
      (try simp only [Act.put, List.setIfInBounds_toArray, List.set_cons_zero, List.set_cons_succ])
      refine wpAnyH_take (i := 41) (oi := { dst := some 112, op := Op.binOp BinOp.sub 3 (Operand.tmp 111) (Operand.const (Value.int IntKind.i64 1)) 3, type := 3, pos := "record.go:124", after := #[{ on := 40, ground := Ground.data }, { on := 31, ground := Ground.guard }], guard := some (31, true) }) rfl (by kernel_rfl) (by kernel_rfl) (by kernel_rfl) (fun _ _ _ h => h) (Or.inr ⟨by rfl, rfl⟩) hHeld ?_
      (try simp only [Act.put, List.setIfInBounds_toArray, List.set_cons_zero, List.set_cons_succ])
      refine wpAnyH_take (i := 42) (oi := { dst := some 113, op := Op.indexAddr 22 (Operand.tmp 110) (Operand.tmp 112), type := 0, pos := "record.go:124", after := #[{ on := 39, ground := Ground.data }, { on := 41, ground := Ground.data }, { on := 31, ground := Ground.guard }], guard := some (31, true) }) rfl (by kernel_rfl) (by kernel_rfl) (by kernel_rfl) (fun _ _ _ h => h) (Or.inr ⟨by rfl, rfl⟩) hHeld ?_
      (try simp only [Act.put, List.setIfInBounds_toArray, List.set_cons_zero, List.set_cons_succ])
      refine wpAnyH_take (i := 43) (oi := { dst := some 114, op := Op.load 5 (Operand.tmp 113), type := 5, pos := "record.go:124", after := #[{ on := 42, ground := Ground.data }, { on := 31, ground := Ground.guard }], guard := some (31, true) }) rfl (by kernel_rfl) (by kernel_rfl) (by kernel_rfl) (fun _ _ _ h => h) (Or.inr ⟨by rfl, rfl⟩) hHeld ?_
      (try simp only [Act.put, List.setIfInBounds_toArray, List.set_cons_zero, List.set_cons_succ])
      refine wpAnyH_take (i := 44) (oi := { dst := some 115, op := Op.binOp BinOp.neq 5 (Operand.tmp 108) (Operand.tmp 114) 5, type := 4, pos := "record.go:124", after := #[{ on := 37, ground := Ground.data }, { on := 43, ground := Ground.data }, { on := 31, ground := Ground.guard }], guard := some (31, true) }) rfl (by kernel_rfl) (by kernel_rfl) (by kernel_rfl) (fun _ _ _ h => h) (Or.inr ⟨by rfl, rfl⟩) hHeld ?_
      (try simp only [Act.put, List.setIfInBounds_toArray, List.set_cons_zero, List.set_cons_succ])
      refine wpAnyH_take (i := 45) (oi := { dst := some 116, op := Op.pick (Operand.tmp 102) (Operand.tmp 115) (Operand.const (Value.bool false)), type := 4, pos := "record.go:124", after := #[{ on := 31, ground := Ground.data }, { on := 44, ground := Ground.data }], guard := none }) (v := ?vp243) rfl (by kernel_rfl) (by kernel_rfl) (by kernel_rfl) (fun _ _ _ h => h) (Or.inl ⟨by rfl, ?hp243⟩) hHeld ?rp243
      case hp243 => ((intro w hSw); (try dsimp only at hSw); go_simp; (try with_reducible rfl))
      (try simp only [Act.put, List.setIfInBounds_toArray, List.set_cons_zero, List.set_cons_succ])
      refine wpAnyH_take (i := 46) (oi := { dst := some 2, op := Op.assign (Operand.tmp 116), type := 4, pos := "record.go:124", after := #[{ on := 45, ground := Ground.data }, { on := 31, ground := Ground.chain }, { on := 0, ground := Ground.phase }, { on := 1, ground := Ground.phase }, { on := 2, ground := Ground.phase }, { on := 3, ground := Ground.phase }, { on := 4, ground := Ground.phase }, { on := 5, ground := Ground.phase }, { on := 6, ground := Ground.phase }, { on := 7, ground := Ground.phase }, { on := 8, ground := Ground.phase }, { on := 9, ground := Ground.phase }, { on := 10, ground := Ground.phase }, { on := 11, ground := Ground.phase }, { on := 12, ground := Ground.phase }, { on := 13, ground := Ground.phase }, { on := 14, ground := Ground.phase }, { on := 15, ground := Ground.phase }, { on := 16, ground := Ground.phase }, { on := 17, ground := Ground.phase }, { on := 18, ground := Ground.phase }, { on := 19, ground := Ground.phase }, { on := 20, ground := Ground.phase }, { on := 21, ground := Ground.phase }, { on := 22, ground := Ground.phase }, { on := 23, ground := Ground.phase }, { on := 24, ground := Ground.phase }, { on := 25, ground := Ground.phase }, { on := 26, ground := Ground.phase }, { on := 27, ground := Ground.phase }, { on := 28, ground := Ground.phase }, { on := 29, ground := Ground.phase }, { on := 30, ground := Ground.phase }, { on := 31, ground := Ground.phase }, { on := 32, ground := Ground.phase }, { on := 33, ground := Ground.phase }, { on := 34, ground := Ground.phase }, { on := 35, ground := Ground.phase }, { on := 36, ground := Ground.phase }, { on := 37, ground := Ground.phase }, { on := 38, ground := Ground.phase }, { on := 39, ground := Ground.phase }, { on := 40, ground := Ground.phase }, { on := 41, ground := Ground.phase }, { on := 42, ground := Ground.phase }, { on := 43, ground := Ground.phase }, { on := 44, ground := Ground.phase }, { on := 45, ground := Ground.phase }], guard := none }) (v := ?vp244) rfl (by kernel_rfl) (by kernel_rfl) (by kernel_rfl) (fun _ _ _ h => h) (Or.inl ⟨by rfl, ?hp244⟩) hHeld ?rp244
      case hp244 => ((intro w hSw); (try dsimp only at hSw); go_simp; (try with_reducible rfl))
      (try simp only [Act.put, List.setIfInBounds_toArray, List.set_cons_zero, List.set_cons_succ])
      refine wpAnyH_done (by kernel_rfl) ?_ _
      go_wp2_with fail
      go_ret
      exact ⟨retB (by rw [HR.out]; rfl), HE2.out⟩
    | true =>
    cases WI with
    | false =>
      go_enter Try.func27, Try.ntmps27
      go_wp2_with (first | (go_at_call 48; ((with_reducible refine (HLB.out _).mono ?_); rintro e w2 ⟨rfl, rfl⟩)) | (go_at_call 48; ((with_reducible refine (HLP.out _).mono ?_); rintro e w2 ⟨rfl, rfl⟩)))
      refine wp_region_held_drew (S := (fun w' => w'.cell? ⟨w.heap.size, 0, none⟩ = some (.int .i64 2) ∧ w'.cell? ⟨w.heap.size, 1, none⟩ = some (.int .i64 bi) ∧ w'.cell? ⟨w.heap.size, 2, none⟩ = some (.int .i64 pr) ∧ w'.cell? ⟨w.heap.size, 3, none⟩ = some (.int .i64 id) ∧ w'.cell? ⟨w.heap.size, 4, none⟩ = some (.int .i64 pg) ∧ w'.cell? ⟨w.heap.size, 5, none⟩ = some (.int .i64 fr) ∧ w'.cell? ⟨w.heap.size, 6, none⟩ = some (.slice A1 nb c1) ∧ w'.cell? ⟨w.heap.size, 7, none⟩ = some (.slice A2 na c2) ∧ w'.cell? ⟨w.heap.size, 8, none⟩ = some (.int .i64 nx) ∧ w'.cell? ⟨w.heap.size, 9, none⟩ = some (.slice A3 nr c3) ∧ w'.cell? ⟨w.heap.size, 10, none⟩ = some (.slice A4 nd c4))) (by kernel_rfl) (⟨HROd.out.cell (j := 0) rfl, HROd.out.cell (j := 1) rfl, HROd.out.cell (j := 2) rfl, HROd.out.cell (j := 3) rfl, HROd.out.cell (j := 4) rfl, HROd.out.cell (j := 5) rfl, HROd.out.cell (j := 6) rfl, HROd.out.cell (j := 7) rfl, HROd.out.cell (j := 8) rfl, HROd.out.cell (j := 9) rfl, HROd.out.cell (j := 10) rfl⟩) (fun hHeld => ?_)
      refine wpAnyH_take (i := 0) (oi := { dst := some 71, op := Op.load 26 (Operand.tmp 1), type := 26, pos := "record.go:124", after := #[], guard := none }) (v := ?vp30) rfl (by kernel_rfl) (by kernel_rfl) (by kernel_rfl) (fun _ _ _ h => h) (Or.inl ⟨by rfl, ?hp30⟩) hHeld ?rp30
      case hp30 => ((intro w hSw); (try dsimp only at hSw); go_simp; (try with_reducible rfl))
      (try simp only [Act.put, List.setIfInBounds_toArray, List.set_cons_zero, List.set_cons_succ])
      refine wpAnyH_ready (rs := [1]) (by kernel_rfl) (by simp) ?_
      refine AllReadyH.cons (o := { dst := some 72, op := Op.call { callee := Callee.value (Operand.func 45), args := #[Operand.tmp 71, Operand.const (Value.bool false), Operand.const (Value.bool true), Operand.const (Value.bool true), Operand.const (Value.bool false), Operand.const (Value.bool false)], argTypes := #[26, 4, 4, 4, 4, 4] }, type := 4, pos := "record.go:124", after := #[{ on := 0, ground := Ground.data }], guard := none }) rfl (fun K hK => ?_) AllReadyH.nil
      go_simp
      go_at_call 45
      refine (HB1.out _ _ _ _).mono ?_
      rintro e w2 ⟨rfl, hb2⟩
      have R2 := Lib.hid (HROd.out.below hb2)
      have HE2 := Lib.hid (below_then HBD.out hb2)
      try go_wp2_with fail
      refine hK.out _ _ ?_ (fun hHeld => ?_)
      · exact ⟨R2.out.cell (j := 0) rfl, R2.out.cell (j := 1) rfl, R2.out.cell (j := 2) rfl, R2.out.cell (j := 3) rfl, R2.out.cell (j := 4) rfl, R2.out.cell (j := 5) rfl, R2.out.cell (j := 6) rfl, R2.out.cell (j := 7) rfl, R2.out.cell (j := 8) rfl, R2.out.cell (j := 9) rfl, R2.out.cell (j := 10) rfl⟩
      clear hK K
      (try simp only [Act.put, List.setIfInBounds_toArray, List.set_cons_zero, List.set_cons_succ])
      refine wpAnyH_take (i := 2) (oi := { dst := some 73, op := Op.move (Operand.tmp 72), type := 4, pos := "record.go:124", after := #[{ on := 1, ground := Ground.data }, { on := 1, ground := Ground.chain }], guard := none }) (v := ?vp31) rfl (by kernel_rfl) (by kernel_rfl) (by kernel_rfl) (fun _ _ _ h => h) (Or.inl ⟨by rfl, ?hp31⟩) hHeld ?rp31
      case hp31 => ((intro w hSw); (try dsimp only at hSw); go_simp; (try with_reducible rfl))
      (try simp only [Act.put, List.setIfInBounds_toArray, List.set_cons_zero, List.set_cons_succ])
      refine wpAnyH_take (i := 3) (oi := { dst := some 74, op := Op.fieldAddr 26 (Operand.tmp 1) 4, type := 0, pos := "record.go:124", after := #[{ on := 2, ground := Ground.guard }], guard := some (2, true) }) (v := ?vp32) rfl (by kernel_rfl) (by kernel_rfl) (by kernel_rfl) (fun _ _ _ h => h) (Or.inl ⟨by rfl, ?hp32⟩) hHeld ?rp32
      case hp32 => ((intro w hSw); (try dsimp only at hSw); go_simp; (try with_reducible rfl))
      (try simp only [Act.put, List.setIfInBounds_toArray, List.set_cons_zero, List.set_cons_succ])
      refine wpAnyH_take (i := 4) (oi := { dst := some 75, op := Op.load 3 (Operand.tmp 74), type := 3, pos := "record.go:124", after := #[{ on := 3, ground := Ground.data }, { on := 2, ground := Ground.guard }], guard := some (2, true) }) (v := ?vp33) rfl (by kernel_rfl) (by kernel_rfl) (by kernel_rfl) (fun _ _ _ h => h) (Or.inl ⟨by rfl, ?hp33⟩) hHeld ?rp33
      case hp33 => ((intro w hSw); (try dsimp only at hSw); go_simp; (try with_reducible rfl))
      (try simp only [Act.put, List.setIfInBounds_toArray, List.set_cons_zero, List.set_cons_succ])
      refine wpAnyH_ready (rs := [5]) (by kernel_rfl) (by simp) ?_
      refine AllReadyH.cons (o := { dst := some 76, op := Op.call { callee := Callee.value (Operand.func 49), args := #[Operand.tmp 75], argTypes := #[3] }, type := 4, pos := "record.go:124", after := #[{ on := 4, ground := Ground.data }, { on := 2, ground := Ground.chain }, { on := 2, ground := Ground.guard }], guard := some (2, true) }) rfl (fun K hK => ?_) AllReadyH.nil
      go_simp
      go_at_call 49
      refine (HPG.out _).mono ?_
      rintro e wn ⟨rfl, rfl⟩
      try go_wp2_with fail
      refine hK.out _ _ ?_ (fun hHeld => ?_)
      · exact hHeld
      clear hK K
      (try simp only [Act.put, List.setIfInBounds_toArray, List.set_cons_zero, List.set_cons_succ])
      refine wpAnyH_take (i := 6) (oi := { dst := some 77, op := Op.pick (Operand.tmp 73) (Operand.tmp 76) (Operand.const (Value.bool false)), type := 4, pos := "record.go:124", after := #[{ on := 2, ground := Ground.data }, { on := 5, ground := Ground.data }], guard := none }) (v := ?vp34) rfl (by kernel_rfl) (by kernel_rfl) (by kernel_rfl) (fun _ _ _ h => h) (Or.inl ⟨by rfl, ?hp34⟩) hHeld ?rp34
      case hp34 => ((intro w hSw); (try dsimp only at hSw); go_simp; (try with_reducible rfl))
      (try simp only [Act.put, List.setIfInBounds_toArray, List.set_cons_zero, List.set_cons_succ])
      refine wpAnyH_take (i := 7) (oi := { dst := some 78, op := Op.move (Operand.tmp 77), type := 4, pos := "record.go:124", after := #[{ on := 6, ground := Ground.data }, { on := 5, ground := Ground.chain }], guard := none }) (v := ?vp35) rfl (by kernel_rfl) (by kernel_rfl) (by kernel_rfl) (fun _ _ _ h => h) (Or.inl ⟨by rfl, ?hp35⟩) hHeld ?rp35
      case hp35 => ((intro w hSw); (try dsimp only at hSw); go_simp; (try with_reducible rfl))
      (try simp only [Act.put, List.setIfInBounds_toArray, List.set_cons_zero, List.set_cons_succ])
      refine wpAnyH_take (i := 8) (oi := { dst := some 79, op := Op.fieldAddr 26 (Operand.tmp 1) 5, type := 0, pos := "record.go:124", after := #[{ on := 7, ground := Ground.guard }], guard := some (7, true) }) (v := ?vp36) rfl (by kernel_rfl) (by kernel_rfl) (by kernel_rfl) (fun _ _ _ h => h) (Or.inl ⟨by rfl, ?hp36⟩) hHeld ?rp36
      case hp36 => ((intro w hSw); (try dsimp only at hSw); go_simp; (try with_reducible rfl))
      (try simp only [Act.put, List.setIfInBounds_toArray, List.set_cons_zero, List.set_cons_succ])
      refine wpAnyH_take (i := 9) (oi := { dst := some 80, op := Op.load 3 (Operand.tmp 79), type := 3, pos := "record.go:124", after := #[{ on := 8, ground := Ground.data }, { on := 7, ground := Ground.guard }], guard := some (7, true) }) (v := ?vp37) rfl (by kernel_rfl) (by kernel_rfl) (by kernel_rfl) (fun _ _ _ h => h) (Or.inl ⟨by rfl, ?hp37⟩) hHeld ?rp37
      case hp37 => ((intro w hSw); (try dsimp only at hSw); go_simp; (try with_reducible rfl))
      (try simp only [Act.put, List.setIfInBounds_toArray, List.set_cons_zero, List.set_cons_succ])
      refine wpAnyH_take (i := 10) (oi := { dst := some 81, op := Op.move (Operand.tmp 3), type := 3, pos := "record.go:124", after := #[{ on := 7, ground := Ground.guard }], guard := some (7, true) }) (v := ?vp38) rfl (by kernel_rfl) (by kernel_rfl) (by kernel_rfl) (fun _ _ _ h => h) (Or.inl ⟨by rfl, ?hp38⟩) hHeld ?rp38
      case hp38 => ((intro w hSw); (try dsimp only at hSw); go_simp; (try with_reducible rfl))
      (try simp only [Act.put, List.setIfInBounds_toArray, List.set_cons_zero, List.set_cons_succ])
      refine wpAnyH_ready (rs := [11]) (by kernel_rfl) (by simp) ?_
      refine AllReadyH.cons (o := { dst := some 82, op := Op.call { callee := Callee.value (Operand.func 50), args := #[Operand.tmp 80, Operand.tmp 81], argTypes := #[3, 3] }, type := 4, pos := "record.go:124", after := #[{ on := 9, ground := Ground.data }, { on := 10, ground := Ground.data }, { on := 7, ground := Ground.chain }, { on := 7, ground := Ground.guard }], guard := some (7, true) }) rfl (fun K hK => ?_) AllReadyH.nil
      go_simp
      go_at_call 50
      refine (HWI.out _).mono ?_
      rintro e wn ⟨rfl, rfl⟩
      try go_wp2_with fail
      refine hK.out _ _ ?_ (fun hHeld => ?_)
      · exact hHeld
      clear hK K
      (try simp only [Act.put, List.setIfInBounds_toArray, List.set_cons_zero, List.set_cons_succ])
      refine wpAnyH_take (i := 12) (oi := { dst := some 83, op := Op.pick (Operand.tmp 78) (Operand.tmp 82) (Operand.const (Value.bool false)), type := 4, pos := "record.go:124", after := #[{ on := 7, ground := Ground.data }, { on := 11, ground := Ground.data }], guard := none }) (v := ?vp39) rfl (by kernel_rfl) (by kernel_rfl) (by kernel_rfl) (fun _ _ _ h => h) (Or.inl ⟨by rfl, ?hp39⟩) hHeld ?rp39
      case hp39 => ((intro w hSw); (try dsimp only at hSw); go_simp; (try with_reducible rfl))
      (try simp only [Act.put, List.setIfInBounds_toArray, List.set_cons_zero, List.set_cons_succ])
      refine wpAnyH_take (i := 13) (oi := { dst := some 84, op := Op.move (Operand.tmp 83), type := 4, pos := "record.go:124", after := #[{ on := 12, ground := Ground.data }, { on := 11, ground := Ground.chain }], guard := none }) (v := ?vp310) rfl (by kernel_rfl) (by kernel_rfl) (by kernel_rfl) (fun _ _ _ h => h) (Or.inl ⟨by rfl, ?hp310⟩) hHeld ?rp310
      case hp310 => ((intro w hSw); (try dsimp only at hSw); go_simp; (try with_reducible rfl))
      (try simp only [Act.put, List.setIfInBounds_toArray, List.set_cons_zero, List.set_cons_succ])
      refine wpAnyH_take (i := 14) (oi := { dst := some 85, op := Op.fieldAddr 26 (Operand.tmp 1) 6, type := 0, pos := "record.go:124", after := #[{ on := 13, ground := Ground.guard }], guard := some (13, true) }) rfl (by kernel_rfl) (by kernel_rfl) (by kernel_rfl) (fun _ _ _ h => h) (Or.inr ⟨by rfl, rfl⟩) hHeld ?_
      (try simp only [Act.put, List.setIfInBounds_toArray, List.set_cons_zero, List.set_cons_succ])
      refine wpAnyH_take (i := 15) (oi := { dst := some 86, op := Op.load 22 (Operand.tmp 85), type := 22, pos := "record.go:124", after := #[{ on := 14, ground := Ground.data }, { on := 13, ground := Ground.guard }], guard := some (13, true) }) rfl (by kernel_rfl) (by kernel_rfl) (by kernel_rfl) (fun _ _ _ h => h) (Or.inr ⟨by rfl, rfl⟩) hHeld ?_
      (try simp only [Act.put, List.setIfInBounds_toArray, List.set_cons_zero, List.set_cons_succ])
      refine wpAnyH_take (i := 16) (oi := { dst := some 87, op := Op.call { callee := Callee.builtin Builtin.len, args := #[Operand.tmp 86], argTypes := #[22] }, type := 3, pos := "record.go:124", after := #[{ on := 15, ground := Ground.data }, { on := 13, ground := Ground.guard }], guard := some (13, true) }) rfl (by kernel_rfl) (by kernel_rfl) (by kernel_rfl) (fun _ _ _ h => h) (Or.inr ⟨by rfl, rfl⟩) hHeld ?_
      (try simp only [Act.put, List.setIfInBounds_toArray, List.set_cons_zero, List.set_cons_succ])
      refine wpAnyH_take (i := 17) (oi := { dst := some 88, op := Op.move (Operand.tmp 3), type := 3, pos := "record.go:124", after := #[{ on := 13, ground := Ground.guard }], guard := some (13, true) }) rfl (by kernel_rfl) (by kernel_rfl) (by kernel_rfl) (fun _ _ _ h => h) (Or.inr ⟨by rfl, rfl⟩) hHeld ?_
      (try simp only [Act.put, List.setIfInBounds_toArray, List.set_cons_zero, List.set_cons_succ])
      refine wpAnyH_take (i := 18) (oi := { dst := some 89, op := Op.binOp BinOp.eql 3 (Operand.tmp 87) (Operand.tmp 88) 3, type := 4, pos := "record.go:124", after := #[{ on := 16, ground := Ground.data }, { on := 17, ground := Ground.data }, { on := 13, ground := Ground.guard }], guard := some (13, true) }) rfl (by kernel_rfl) (by kernel_rfl) (by kernel_rfl) (fun _ _ _ h => h) (Or.inr ⟨by rfl, rfl⟩) hHeld ?_
      (try simp only [Act.put, List.setIfInBounds_toArray, List.set_cons_zero, List.set_cons_succ])
      refine wpAnyH_take (i := 19) (oi := { dst := some 90, op := Op.pick (Operand.tmp 84) (Operand.tmp 89) (Operand.const (Value.bool false)), type := 4, pos := "record.go:124", after := #[{ on := 13, ground := Ground.data }, { on := 18, ground := Ground.data }], guard := none }) (v := ?vp316) rfl (by kernel_rfl) (by kernel_rfl) (by kernel_rfl) (fun _ _ _ h => h) (Or.inl ⟨by rfl, ?hp316⟩) hHeld ?rp316
      case hp316 => ((intro w hSw); (try dsimp only at hSw); go_simp; (try with_reducible rfl))
      (try simp only [Act.put, List.setIfInBounds_toArray, List.set_cons_zero, List.set_cons_succ])
      refine wpAnyH_take (i := 20) (oi := { dst := some 91, op := Op.move (Operand.tmp 90), type := 4, pos := "record.go:124", after := #[{ on := 19, ground := Ground.data }, { on := 13, ground := Ground.chain }], guard := none }) (v := ?vp317) rfl (by kernel_rfl) (by kernel_rfl) (by kernel_rfl) (fun _ _ _ h => h) (Or.inl ⟨by rfl, ?hp317⟩) hHeld ?rp317
      case hp317 => ((intro w hSw); (try dsimp only at hSw); go_simp; (try with_reducible rfl))
      (try simp only [Act.put, List.setIfInBounds_toArray, List.set_cons_zero, List.set_cons_succ])
      refine wpAnyH_take (i := 21) (oi := { dst := some 92, op := Op.fieldAddr 26 (Operand.tmp 1) 6, type := 0, pos := "record.go:124", after := #[{ on := 20, ground := Ground.guard }], guard := some (20, true) }) rfl (by kernel_rfl) (by kernel_rfl) (by kernel_rfl) (fun _ _ _ h => h) (Or.inr ⟨by rfl, rfl⟩) hHeld ?_
      (try simp only [Act.put, List.setIfInBounds_toArray, List.set_cons_zero, List.set_cons_succ])
      refine wpAnyH_take (i := 22) (oi := { dst := some 93, op := Op.load 22 (Operand.tmp 92), type := 22, pos := "record.go:124", after := #[{ on := 21, ground := Ground.data }, { on := 20, ground := Ground.guard }], guard := some (20, true) }) rfl (by kernel_rfl) (by kernel_rfl) (by kernel_rfl) (fun _ _ _ h => h) (Or.inr ⟨by rfl, rfl⟩) hHeld ?_
      (try simp only [Act.put, List.setIfInBounds_toArray, List.set_cons_zero, List.set_cons_succ])
      refine wpAnyH_take (i := 23) (oi := { dst := some 94, op := Op.indexAddr 22 (Operand.tmp 93) (Operand.const (Value.int IntKind.i64 0)), type := 0, pos := "record.go:124", after := #[{ on := 22, ground := Ground.data }, { on := 20, ground := Ground.guard }], guard := some (20, true) }) rfl (by kernel_rfl) (by kernel_rfl) (by kernel_rfl) (fun _ _ _ h => h) (Or.inr ⟨by rfl, rfl⟩) hHeld ?_
      (try simp only [Act.put, List.setIfInBounds_toArray, List.set_cons_zero, List.set_cons_succ])
      refine wpAnyH_take (i := 24) (oi := { dst := some 95, op := Op.load 5 (Operand.tmp 94), type := 5, pos := "record.go:124", after := #[{ on := 23, ground := Ground.data }, { on := 20, ground := Ground.guard }], guard := some (20, true) }) rfl (by kernel_rfl) (by kernel_rfl) (by kernel_rfl) (fun _ _ _ h => h) (Or.inr ⟨by rfl, rfl⟩) hHeld ?_
      (try simp only [Act.put, List.setIfInBounds_toArray, List.set_cons_zero, List.set_cons_succ])
      refine wpAnyH_take (i := 25) (oi := { dst := some 96, op := Op.fieldAddr 26 (Operand.tmp 1) 7, type := 0, pos := "record.go:124", after := #[{ on := 20, ground := Ground.guard }], guard := some (20, true) }) rfl (by kernel_rfl) (by kernel_rfl) (by kernel_rfl) (fun _ _ _ h => h) (Or.inr ⟨by rfl, rfl⟩) hHeld ?_
      (try simp only [Act.put, List.setIfInBounds_toArray, List.set_cons_zero, List.set_cons_succ])
      refine wpAnyH_take (i := 26) (oi := { dst := some 97, op := Op.load 22 (Operand.tmp 96), type := 22, pos := "record.go:124", after := #[{ on := 25, ground := Ground.data }, { on := 20, ground := Ground.guard }], guard := some (20, true) }) rfl (by kernel_rfl) (by kernel_rfl) (by kernel_rfl) (fun _ _ _ h => h) (Or.inr ⟨by rfl, rfl⟩) hHeld ?_
      (try simp only [Act.put, List.setIfInBounds_toArray, List.set_cons_zero, List.set_cons_succ])
      refine wpAnyH_take (i := 27) (oi := { dst := some 98, op := Op.indexAddr 22 (Operand.tmp 97) (Operand.const (Value.int IntKind.i64 0)), type := 0, pos := "record.go:124", after := #[{ on := 26, ground := Ground.data }, { on := 20, ground := Ground.guard }], guard := some (20, true) }) rfl (by kernel_rfl) (by kernel_rfl) (by kernel_rfl) (fun _ _ _ h => h) (Or.inr ⟨by rfl, rfl⟩) hHeld ?_
      (try simp only [Act.put, List.setIfInBounds_toArray, List.set_cons_zero, List.set_cons_succ])
      refine wpAnyH_take (i := 28) (oi := { dst := some 99, op := Op.load 5 (Operand.tmp 98), type := 5, pos := "record.go:124", after := #[{ on := 27, ground := Ground.data }, { on := 20, ground := Ground.guard }], guard := some (20, true) }) rfl (by kernel_rfl) (by kernel_rfl) (by kernel_rfl) (fun _ _ _ h => h) (Or.inr ⟨by rfl, rfl⟩) hHeld ?_
      (try simp only [Act.put, List.setIfInBounds_toArray, List.set_cons_zero, List.set_cons_succ])
      refine wpAnyH_take (i := 29) (oi := { dst := some 100, op := Op.binOp BinOp.neq 5 (Operand.tmp 95) (Operand.tmp 99) 5, type := 4, pos := "record.go:124", after := #[{ on := 24, ground := Ground.data }, { on := 28, ground := Ground.data }, { on := 20, ground := Ground.guard }], guard := some (20, true) }) rfl (by kernel_rfl) (by kernel_rfl) (by kernel_rfl) (fun _ _ _ h => h) (Or.inr ⟨by rfl, rfl⟩) hHeld ?_
      (try simp only [Act.put, List.setIfInBounds_toArray, List.set_cons_zero, List.set_cons_succ])
      refine wpAnyH_take (i := 30) (oi := { dst := some 101, op := Op.pick (Operand.tmp 91) (Operand.tmp 100) (Operand.const (Value.bool false)), type := 4, pos := "record.go:124", after := #[{ on := 20, ground := Ground.data }, { on := 29, ground := Ground.data }], guard := none }) (v := ?vp327) rfl (by kernel_rfl) (by kernel_rfl) (by kernel_rfl) (fun _ _ _ h => h) (Or.inl ⟨by rfl, ?hp327⟩) hHeld ?rp327
      case hp327 => ((intro w hSw); (try dsimp only at hSw); go_simp; (try with_reducible rfl))
      (try simp only [Act.put, List.setIfInBounds_toArray, List.set_cons_zero, List.set_cons_succ])
      refine wpAnyH_take (i := 31) (oi := { dst := some 102, op := Op.move (Operand.tmp 101), type := 4, pos := "record.go:124", after := #[{ on := 30, ground := Ground.data }, { on := 20, ground := Ground.chain }], guard := none }) (v := ?vp328) rfl (by kernel_rfl) (by kernel_rfl) (by kernel_rfl) (fun _ _ _ h => h) (Or.inl ⟨by rfl, ?hp328⟩) hHeld ?rp328
      case hp328 => ((intro w hSw); (try dsimp only at hSw); go_simp; (try with_reducible rfl))
      (try simp only [Act.put, List.setIfInBounds_toArray, List.set_cons_zero, List.set_cons_succ])
      refine wpAnyH_take (i := 32) (oi := { dst := some 103, op := Op.fieldAddr 26 (Operand.tmp 1) 6, type := 0, pos := "record.go:124", after := #[{ on := 31, ground := Ground.guard }], guard := some (31, true) }) rfl (by kernel_rfl) (by kernel_rfl) (by kernel_rfl) (fun _ _ _ h => h) (Or.inr ⟨by rfl, rfl⟩) hHeld ?_
      (try simp only [Act.put, List.setIfInBounds_toArray, List.set_cons_zero, List.set_cons_succ])
      refine wpAnyH_take (i := 33) (oi := { dst := some 104, op := Op.load 22 (Operand.tmp 103), type := 22, pos := "record.go:124", after := #[{ on := 32, ground := Ground.data }, { on := 31, ground := Ground.guard }], guard := some (31, true) }) rfl (by kernel_rfl) (by kernel_rfl) (by kernel_rfl) (fun _ _ _ h => h) (Or.inr ⟨by rfl, rfl⟩) hHeld ?_
      (try simp only [Act.put, List.setIfInBounds_toArray, List.set_cons_zero, List.set_cons_succ])
      refine wpAnyH_take (i := 34) (oi := { dst := some 105, op := Op.move (Operand.tmp 3), type := 3, pos := "record.go:124", after := #[{ on := 31, ground := Ground.guard }], guard := some (31, true) }) rfl (by kernel_rfl) (by kernel_rfl) (by kernel_rfl) (fun _ _ _ h => h) (Or.inr ⟨by rfl, rfl⟩) hHeld ?_
      (try simp only [Act.put, List.setIfInBounds_toArray, List.set_cons_zero, List.set_cons_succ])
      refine wpAnyH_take (i := 35) (oi := { dst := some 106, op := Op.binOp BinOp.sub 3 (Operand.tmp 105) (Operand.const (Value.int IntKind.i64 1)) 3, type := 3, pos := "record.go:124", after := #[{ on := 34, ground := Ground.data }, { on := 31, ground := Ground.guard }], guard := some (31, true) }) rfl (by kernel_rfl) (by kernel_rfl) (by kernel_rfl) (fun _ _ _ h => h) (Or.inr ⟨by rfl, rfl⟩) hHeld ?_
      (try simp only [Act.put, List.setIfInBounds_toArray, List.set_cons_zero, List.set_cons_succ])
      refine wpAnyH_take (i := 36) (oi := { dst := some 107, op := Op.indexAddr 22 (Operand.tmp 104) (Operand.tmp 106), type := 0, pos := "record.go:124", after := #[{ on := 33, ground := Ground.data }, { on := 35, ground := Ground.data }, { on := 31, ground := Ground.guard }], guard := some (31, true) }) rfl (by kernel_rfl) (by kernel_rfl) (by kernel_rfl) (fun _ _ _ h => h) (Or.inr ⟨by rfl, rfl⟩) hHeld ?_
      (try simp only [Act.put, List.setIfInBounds_toArray, List.set_cons_zero, List.set_cons_succ])
      refine wpAnyH_take (i := 37) (oi := { dst := some 108, op := Op.load 5 (Operand.tmp 107), type := 5, pos := "record.go:124", after := #[{ on := 36, ground := Ground.data }, { on := 31, ground := Ground.guard }], guard := some (31, true) }) rfl (by kernel_rfl) (by kernel_rfl) (by kernel_rfl) (fun _ _ _ h => h) (Or.inr ⟨by rfl, rfl⟩) hHeld ?_
      (try simp only [Act.put, List.setIfInBounds_toArray, List.set_cons_zero, List.set_cons_succ])
      refine wpAnyH_take (i := 38) (oi := { dst := some 109, op := Op.fieldAddr 26 (Operand.tmp 1) 7, type := 0, pos := "record.go:124", after := #[{ on := 31, ground := Ground.guard }], guard := some (31, true) }) rfl (by kernel_rfl) (by kernel_rfl) (by kernel_rfl) (fun _ _ _ h => h) (Or.inr ⟨by rfl, rfl⟩) hHeld ?_
      (try simp only [Act.put, List.setIfInBounds_toArray, List.set_cons_zero, List.set_cons_succ])
      refine wpAnyH_take (i := 39) (oi := { dst := some 110, op := Op.load 22 (Operand.tmp 109), type := 22, pos := "record.go:124", after := #[{ on := 38, ground := Ground.data }, { on := 31, ground := Ground.guard }], guard := some (31, true) }) rfl (by kernel_rfl) (by kernel_rfl) (by kernel_rfl) (fun _ _ _ h => h) (Or.inr ⟨by rfl, rfl⟩) hHeld ?_
      (try simp only [Act.put, List.setIfInBounds_toArray, List.set_cons_zero, List.set_cons_succ])
      refine wpAnyH_take (i := 40) (oi := { dst := some 111, op := Op.move (Operand.tmp 3), type := 3, pos := "record.go:124", after := #[{ on := 31, ground := Ground.guard }], guard := some (31, true) }) rfl (by kernel_rfl) (by kernel_rfl) (by kernel_rfl) (fun _ _ _ h => h) (Or.inr ⟨by rfl, rfl⟩) hHeld ?_
      (try simp only [Act.put, List.setIfInBounds_toArray, List.set_cons_zero, List.set_cons_succ])
      refine wpAnyH_take (i := 41) (oi := { dst := some 112, op := Op.binOp BinOp.sub 3 (Operand.tmp 111) (Operand.const (Value.int IntKind.i64 1)) 3, type := 3, pos := "record.go:124", after := #[{ on := 40, ground := Ground.data }, { on := 31, ground := Ground.guard }], guard := some (31, true) }) rfl (by kernel_rfl) (by kernel_rfl) (by kernel_rfl) (fun _ _ _ h => h) (Or.inr ⟨by rfl, rfl⟩) hHeld ?_
      (try simp only [Act.put, List.setIfInBounds_toArray, List.set_cons_zero, List.set_cons_succ])
      refine wpAnyH_take (i := 42) (oi := { dst := some 113, op := Op.indexAddr 22 (Operand.tmp 110) (Operand.tmp 112), type := 0, pos := "record.go:124", after := #[{ on := 39, ground := Ground.data }, { on := 41, ground := Ground.data }, { on := 31, ground := Ground.guard }], guard := some (31, true) }) rfl (by kernel_rfl) (by kernel_rfl) (by kernel_rfl) (fun _ _ _ h => h) (Or.inr ⟨by rfl, rfl⟩) hHeld ?_
      (try simp only [Act.put, List.setIfInBounds_toArray, List.set_cons_zero, List.set_cons_succ])
      refine wpAnyH_take (i := 43) (oi := { dst := some 114, op := Op.load 5 (Operand.tmp 113), type := 5, pos := "record.go:124", after := #[{ on := 42, ground := Ground.data }, { on := 31, ground := Ground.guard }], guard := some (31, true) }) rfl (by kernel_rfl) (by kernel_rfl) (by kernel_rfl) (fun _ _ _ h => h) (Or.inr ⟨by rfl, rfl⟩) hHeld ?_
      (try simp only [Act.put, List.setIfInBounds_toArray, List.set_cons_zero, List.set_cons_succ])
      refine wpAnyH_take (i := 44) (oi := { dst := some 115, op := Op.binOp BinOp.neq 5 (Operand.tmp 108) (Operand.tmp 114) 5, type := 4, pos := "record.go:124", after := #[{ on := 37, ground := Ground.data }, { on := 43, ground := Ground.data }, { on := 31, ground := Ground.guard }], guard := some (31, true) }) rfl (by kernel_rfl) (by kernel_rfl) (by kernel_rfl) (fun _ _ _ h => h) (Or.inr ⟨by rfl, rfl⟩) hHeld ?_
      (try simp only [Act.put, List.setIfInBounds_toArray, List.set_cons_zero, List.set_cons_succ])
      refine wpAnyH_take (i := 45) (oi := { dst := some 116, op := Op.pick (Operand.tmp 102) (Operand.tmp 115) (Operand.const (Value.bool false)), type := 4, pos := "record.go:124", after := #[{ on := 31, ground := Ground.data }, { on := 44, ground := Ground.data }], guard := none }) (v := ?vp342) rfl (by kernel_rfl) (by kernel_rfl) (by kernel_rfl) (fun _ _ _ h => h) (Or.inl ⟨by rfl, ?hp342⟩) hHeld ?rp342
      case hp342 => ((intro w hSw); (try dsimp only at hSw); go_simp; (try with_reducible rfl))
      (try simp only [Act.put, List.setIfInBounds_toArray, List.set_cons_zero, List.set_cons_succ])
      refine wpAnyH_take (i := 46) (oi := { dst := some 2, op := Op.assign (Operand.tmp 116), type := 4, pos := "record.go:124", after := #[{ on := 45, ground := Ground.data }, { on := 31, ground := Ground.chain }, { on := 0, ground := Ground.phase }, { on := 1, ground := Ground.phase }, { on := 2, ground := Ground.phase }, { on := 3, ground := Ground.phase }, { on := 4, ground := Ground.phase }, { on := 5, ground := Ground.phase }, { on := 6, ground := Ground.phase }, { on := 7, ground := Ground.phase }, { on := 8, ground := Ground.phase }, { on := 9, ground := Ground.phase }, { on := 10, ground := Ground.phase }, { on := 11, ground := Ground.phase }, { on := 12, ground := Ground.phase }, { on := 13, ground := Ground.phase }, { on := 14, ground := Ground.phase }, { on := 15, ground := Ground.phase }, { on := 16, ground := Ground.phase }, { on := 17, ground := Ground.phase }, { on := 18, ground := Ground.phase }, { on := 19, ground := Ground.phase }, { on := 20, ground := Ground.phase }, { on := 21, ground := Ground.phase }, { on := 22, ground := Ground.phase }, { on := 23, ground := Ground.phase }, { on := 24, ground := Ground.phase }, { on := 25, ground := Ground.phase }, { on := 26, ground := Ground.phase }, { on := 27, ground := Ground.phase }, { on := 28, ground := Ground.phase }, { on := 29, ground := Ground.phase }, { on := 30, ground := Ground.phase }, { on := 31, ground := Ground.phase }, { on := 32, ground := Ground.phase }, { on := 33, ground := Ground.phase }, { on := 34, ground := Ground.phase }, { on := 35, ground := Ground.phase }, { on := 36, ground := Ground.phase }, { on := 37, ground := Ground.phase }, { on := 38, ground := Ground.phase }, { on := 39, ground := Ground.phase }, { on := 40, ground := Ground.phase }, { on := 41, ground := Ground.phase }, { on := 42, ground := Ground.phase }, { on := 43, ground := Ground.phase }, { on := 44, ground := Ground.phase }, { on := 45, ground := Ground.phase }], guard := none }) (v := ?vp343) rfl (by kernel_rfl) (by kernel_rfl) (by kernel_rfl) (fun _ _ _ h => h) (Or.inl ⟨by rfl, ?hp343⟩) hHeld ?rp343
      case hp343 => ((intro w hSw); (try dsimp only at hSw); go_simp; (try with_reducible rfl))
      (try simp only [Act.put, List.setIfInBounds_toArray, List.set_cons_zero, List.set_cons_succ])
      refine wpAnyH_done (by kernel_rfl) ?_ _
      go_wp2_with fail
      go_ret
      exact ⟨retB (by rw [HR.out]; rfl), HE2.out⟩
    | true =>
    have hna := HW0.out rfl
    by_cases he : nb = na
    · subst he
      obtain ⟨b1, o1, b2, o2, M, rfl, rfl, hM, hby⟩ := HBY.out hna rfl
      have HBC := Lib.hid hby
      have HEN2 := Lib.hid (HEN.out M hM)
      have i1 : IntKind.i64.wrap ((nb : Int) - 1) = (M : Int) := by rw [IntWalk.i64_in _ (by omega)]; omega
      have i2 : (0 : Int) ≤ (M : Int) := by omega
      have i3 : (M : Int) < (nb : Int) := by omega
      have i4 : (0 : Int) < (nb : Int) := by omega
      clear hM hby HBY HEN HW0
      by_cases h0 : gB 0 0 = gA 0 0
      · have b0 : (((gB 0 0).toNat : Int) != ((gA 0 0).toNat : Int)) = false := by rw [h0]; simp
        have H00 := Lib.hid h0
        clear h0
        go_enter Try.func27, Try.ntmps27
        go_wp2_with (first | (go_at_call 48; ((with_reducible refine (HLB.out _).mono ?_); rintro e w2 ⟨rfl, rfl⟩)) | (go_at_call 48; ((with_reducible refine (HLP.out _).mono ?_); rintro e w2 ⟨rfl, rfl⟩)))
        refine wp_region_held_drew (S := (fun w' => w'.cell? ⟨w.heap.size, 0, none⟩ = some (.int .i64 2) ∧ w'.cell? ⟨w.heap.size, 1, none⟩ = some (.int .i64 bi) ∧ w'.cell? ⟨w.heap.size, 2, none⟩ = some (.int .i64 pr) ∧ w'.cell? ⟨w.heap.size, 3, none⟩ = some (.int .i64 id) ∧ w'.cell? ⟨w.heap.size, 4, none⟩ = some (.int .i64 pg) ∧ w'.cell? ⟨w.heap.size, 5, none⟩ = some (.int .i64 fr) ∧ w'.cell? ⟨w.heap.size, 6, none⟩ = some (.slice (some ⟨b1, o1, none⟩) nb c1) ∧ w'.cell? ⟨w.heap.size, 7, none⟩ = some (.slice (some ⟨b2, o2, none⟩) nb c2) ∧ w'.cell? ⟨w.heap.size, 8, none⟩ = some (.int .i64 nx) ∧ w'.cell? ⟨w.heap.size, 9, none⟩ = some (.slice A3 nr c3) ∧ w'.cell? ⟨w.heap.size, 10, none⟩ = some (.slice A4 nd c4) ∧ w'.cell? ⟨b1, o1, none⟩ = some (.int .u8 ((gB 0 0).toNat : Int)) ∧ w'.cell? ⟨b2, o2, none⟩ = some (.int .u8 ((gA 0 0).toNat : Int)) ∧ w'.cell? ⟨b1, o1 + M, none⟩ = some (.int .u8 ((gB M 0).toNat : Int)) ∧ w'.cell? ⟨b2, o2 + M, none⟩ = some (.int .u8 ((gA M 0).toNat : Int)))) (by kernel_rfl) (⟨HROd.out.cell (j := 0) rfl, HROd.out.cell (j := 1) rfl, HROd.out.cell (j := 2) rfl, HROd.out.cell (j := 3) rfl, HROd.out.cell (j := 4) rfl, HROd.out.cell (j := 5) rfl, HROd.out.cell (j := 6) rfl, HROd.out.cell (j := 7) rfl, HROd.out.cell (j := 8) rfl, HROd.out.cell (j := 9) rfl, HROd.out.cell (j := 10) rfl, (HBC.out _ HBD.out).1, (HBC.out _ HBD.out).2.1, (HBC.out _ HBD.out).2.2.1, (HBC.out _ HBD.out).2.2.2⟩) (fun hHeld => ?_)
        refine wpAnyH_take (i := 0) (oi := { dst := some 71, op := Op.load 26 (Operand.tmp 1), type := 26, pos := "record.go:124", after := #[], guard := none }) (v := ?vp40) rfl (by kernel_rfl) (by kernel_rfl) (by kernel_rfl) (fun _ _ _ h => h) (Or.inl ⟨by rfl, ?hp40⟩) hHeld ?rp40
        case hp40 => ((intro w hSw); (try dsimp only at hSw); go_simp; (try with_reducible rfl))
        (try simp only [Act.put, List.setIfInBounds_toArray, List.set_cons_zero, List.set_cons_succ])
        refine wpAnyH_ready (rs := [1]) (by kernel_rfl) (by simp) ?_
        refine AllReadyH.cons (o := { dst := some 72, op := Op.call { callee := Callee.value (Operand.func 45), args := #[Operand.tmp 71, Operand.const (Value.bool false), Operand.const (Value.bool true), Operand.const (Value.bool true), Operand.const (Value.bool false), Operand.const (Value.bool false)], argTypes := #[26, 4, 4, 4, 4, 4] }, type := 4, pos := "record.go:124", after := #[{ on := 0, ground := Ground.data }], guard := none }) rfl (fun K hK => ?_) AllReadyH.nil
        go_simp
        go_at_call 45
        refine (HB1.out _ _ _ _).mono ?_
        rintro e w2 ⟨rfl, hb2⟩
        have R2 := Lib.hid (HROd.out.below hb2)
        have HE2 := Lib.hid (below_then HBD.out hb2)
        try go_wp2_with fail
        refine hK.out _ _ ?_ (fun hHeld => ?_)
        · exact ⟨R2.out.cell (j := 0) rfl, R2.out.cell (j := 1) rfl, R2.out.cell (j := 2) rfl, R2.out.cell (j := 3) rfl, R2.out.cell (j := 4) rfl, R2.out.cell (j := 5) rfl, R2.out.cell (j := 6) rfl, R2.out.cell (j := 7) rfl, R2.out.cell (j := 8) rfl, R2.out.cell (j := 9) rfl, R2.out.cell (j := 10) rfl, (HBC.out _ HE2.out).1, (HBC.out _ HE2.out).2.1, (HBC.out _ HE2.out).2.2.1, (HBC.out _ HE2.out).2.2.2⟩
        clear hK K
        (try simp only [Act.put, List.setIfInBounds_toArray, List.set_cons_zero, List.set_cons_succ])
        refine wpAnyH_take (i := 2) (oi := { dst := some 73, op := Op.move (Operand.tmp 72), type := 4, pos := "record.go:124", after := #[{ on := 1, ground := Ground.data }, { on := 1, ground := Ground.chain }], guard := none }) (v := ?vp41) rfl (by kernel_rfl) (by kernel_rfl) (by kernel_rfl) (fun _ _ _ h => h) (Or.inl ⟨by rfl, ?hp41⟩) hHeld ?rp41
        case hp41 => ((intro w hSw); (try dsimp only at hSw); go_simp; (try with_reducible rfl))
        (try simp only [Act.put, List.setIfInBounds_toArray, List.set_cons_zero, List.set_cons_succ])
        refine wpAnyH_take (i := 3) (oi := { dst := some 74, op := Op.fieldAddr 26 (Operand.tmp 1) 4, type := 0, pos := "record.go:124", after := #[{ on := 2, ground := Ground.guard }], guard := some (2, true) }) (v := ?vp42) rfl (by kernel_rfl) (by kernel_rfl) (by kernel_rfl) (fun _ _ _ h => h) (Or.inl ⟨by rfl, ?hp42⟩) hHeld ?rp42
        case hp42 => ((intro w hSw); (try dsimp only at hSw); go_simp; (try with_reducible rfl))
        (try simp only [Act.put, List.setIfInBounds_toArray, List.set_cons_zero, List.set_cons_succ])
        refine wpAnyH_take (i := 4) (oi := { dst := some 75, op := Op.load 3 (Operand.tmp 74), type := 3, pos := "record.go:124", after := #[{ on := 3, ground := Ground.data }, { on := 2, ground := Ground.guard }], guard := some (2, true) }) (v := ?vp43) rfl (by kernel_rfl) (by kernel_rfl) (by kernel_rfl) (fun _ _ _ h => h) (Or.inl ⟨by rfl, ?hp43⟩) hHeld ?rp43
        case hp43 => ((intro w hSw); (try dsimp only at hSw); go_simp; (try with_reducible rfl))
        (try simp only [Act.put, List.setIfInBounds_toArray, List.set_cons_zero, List.set_cons_succ])
        refine wpAnyH_ready (rs := [5]) (by kernel_rfl) (by simp) ?_
        refine AllReadyH.cons (o := { dst := some 76, op := Op.call { callee := Callee.value (Operand.func 49), args := #[Operand.tmp 75], argTypes := #[3] }, type := 4, pos := "record.go:124", after := #[{ on := 4, ground := Ground.data }, { on := 2, ground := Ground.chain }, { on := 2, ground := Ground.guard }], guard := some (2, true) }) rfl (fun K hK => ?_) AllReadyH.nil
        go_simp
        go_at_call 49
        refine (HPG.out _).mono ?_
        rintro e wn ⟨rfl, rfl⟩
        try go_wp2_with fail
        refine hK.out _ _ ?_ (fun hHeld => ?_)
        · exact hHeld
        clear hK K
        (try simp only [Act.put, List.setIfInBounds_toArray, List.set_cons_zero, List.set_cons_succ])
        refine wpAnyH_take (i := 6) (oi := { dst := some 77, op := Op.pick (Operand.tmp 73) (Operand.tmp 76) (Operand.const (Value.bool false)), type := 4, pos := "record.go:124", after := #[{ on := 2, ground := Ground.data }, { on := 5, ground := Ground.data }], guard := none }) (v := ?vp44) rfl (by kernel_rfl) (by kernel_rfl) (by kernel_rfl) (fun _ _ _ h => h) (Or.inl ⟨by rfl, ?hp44⟩) hHeld ?rp44
        case hp44 => ((intro w hSw); (try dsimp only at hSw); go_simp; (try with_reducible rfl))
        (try simp only [Act.put, List.setIfInBounds_toArray, List.set_cons_zero, List.set_cons_succ])
        refine wpAnyH_take (i := 7) (oi := { dst := some 78, op := Op.move (Operand.tmp 77), type := 4, pos := "record.go:124", after := #[{ on := 6, ground := Ground.data }, { on := 5, ground := Ground.chain }], guard := none }) (v := ?vp45) rfl (by kernel_rfl) (by kernel_rfl) (by kernel_rfl) (fun _ _ _ h => h) (Or.inl ⟨by rfl, ?hp45⟩) hHeld ?rp45
        case hp45 => ((intro w hSw); (try dsimp only at hSw); go_simp; (try with_reducible rfl))
        (try simp only [Act.put, List.setIfInBounds_toArray, List.set_cons_zero, List.set_cons_succ])
        refine wpAnyH_take (i := 8) (oi := { dst := some 79, op := Op.fieldAddr 26 (Operand.tmp 1) 5, type := 0, pos := "record.go:124", after := #[{ on := 7, ground := Ground.guard }], guard := some (7, true) }) (v := ?vp46) rfl (by kernel_rfl) (by kernel_rfl) (by kernel_rfl) (fun _ _ _ h => h) (Or.inl ⟨by rfl, ?hp46⟩) hHeld ?rp46
        case hp46 => ((intro w hSw); (try dsimp only at hSw); go_simp; (try with_reducible rfl))
        (try simp only [Act.put, List.setIfInBounds_toArray, List.set_cons_zero, List.set_cons_succ])
        refine wpAnyH_take (i := 9) (oi := { dst := some 80, op := Op.load 3 (Operand.tmp 79), type := 3, pos := "record.go:124", after := #[{ on := 8, ground := Ground.data }, { on := 7, ground := Ground.guard }], guard := some (7, true) }) (v := ?vp47) rfl (by kernel_rfl) (by kernel_rfl) (by kernel_rfl) (fun _ _ _ h => h) (Or.inl ⟨by rfl, ?hp47⟩) hHeld ?rp47
        case hp47 => ((intro w hSw); (try dsimp only at hSw); go_simp; (try with_reducible rfl))
        (try simp only [Act.put, List.setIfInBounds_toArray, List.set_cons_zero, List.set_cons_succ])
        refine wpAnyH_take (i := 10) (oi := { dst := some 81, op := Op.move (Operand.tmp 3), type := 3, pos := "record.go:124", after := #[{ on := 7, ground := Ground.guard }], guard := some (7, true) }) (v := ?vp48) rfl (by kernel_rfl) (by kernel_rfl) (by kernel_rfl) (fun _ _ _ h => h) (Or.inl ⟨by rfl, ?hp48⟩) hHeld ?rp48
        case hp48 => ((intro w hSw); (try dsimp only at hSw); go_simp; (try with_reducible rfl))
        (try simp only [Act.put, List.setIfInBounds_toArray, List.set_cons_zero, List.set_cons_succ])
        refine wpAnyH_ready (rs := [11]) (by kernel_rfl) (by simp) ?_
        refine AllReadyH.cons (o := { dst := some 82, op := Op.call { callee := Callee.value (Operand.func 50), args := #[Operand.tmp 80, Operand.tmp 81], argTypes := #[3, 3] }, type := 4, pos := "record.go:124", after := #[{ on := 9, ground := Ground.data }, { on := 10, ground := Ground.data }, { on := 7, ground := Ground.chain }, { on := 7, ground := Ground.guard }], guard := some (7, true) }) rfl (fun K hK => ?_) AllReadyH.nil
        go_simp
        go_at_call 50
        refine (HWI.out _).mono ?_
        rintro e wn ⟨rfl, rfl⟩
        try go_wp2_with fail
        refine hK.out _ _ ?_ (fun hHeld => ?_)
        · exact hHeld
        clear hK K
        (try simp only [Act.put, List.setIfInBounds_toArray, List.set_cons_zero, List.set_cons_succ])
        refine wpAnyH_take (i := 12) (oi := { dst := some 83, op := Op.pick (Operand.tmp 78) (Operand.tmp 82) (Operand.const (Value.bool false)), type := 4, pos := "record.go:124", after := #[{ on := 7, ground := Ground.data }, { on := 11, ground := Ground.data }], guard := none }) (v := ?vp49) rfl (by kernel_rfl) (by kernel_rfl) (by kernel_rfl) (fun _ _ _ h => h) (Or.inl ⟨by rfl, ?hp49⟩) hHeld ?rp49
        case hp49 => ((intro w hSw); (try dsimp only at hSw); go_simp; (try with_reducible rfl))
        (try simp only [Act.put, List.setIfInBounds_toArray, List.set_cons_zero, List.set_cons_succ])
        refine wpAnyH_take (i := 13) (oi := { dst := some 84, op := Op.move (Operand.tmp 83), type := 4, pos := "record.go:124", after := #[{ on := 12, ground := Ground.data }, { on := 11, ground := Ground.chain }], guard := none }) (v := ?vp410) rfl (by kernel_rfl) (by kernel_rfl) (by kernel_rfl) (fun _ _ _ h => h) (Or.inl ⟨by rfl, ?hp410⟩) hHeld ?rp410
        case hp410 => ((intro w hSw); (try dsimp only at hSw); go_simp; (try with_reducible rfl))
        (try simp only [Act.put, List.setIfInBounds_toArray, List.set_cons_zero, List.set_cons_succ])
        refine wpAnyH_take (i := 14) (oi := { dst := some 85, op := Op.fieldAddr 26 (Operand.tmp 1) 6, type := 0, pos := "record.go:124", after := #[{ on := 13, ground := Ground.guard }], guard := some (13, true) }) (v := ?vp411) rfl (by kernel_rfl) (by kernel_rfl) (by kernel_rfl) (fun _ _ _ h => h) (Or.inl ⟨by rfl, ?hp411⟩) hHeld ?rp411
        case hp411 => ((intro w hSw); (try dsimp only at hSw); go_simp; (try with_reducible rfl))
        (try simp only [Act.put, List.setIfInBounds_toArray, List.set_cons_zero, List.set_cons_succ])
        refine wpAnyH_take (i := 15) (oi := { dst := some 86, op := Op.load 22 (Operand.tmp 85), type := 22, pos := "record.go:124", after := #[{ on := 14, ground := Ground.data }, { on := 13, ground := Ground.guard }], guard := some (13, true) }) (v := ?vp412) rfl (by kernel_rfl) (by kernel_rfl) (by kernel_rfl) (fun _ _ _ h => h) (Or.inl ⟨by rfl, ?hp412⟩) hHeld ?rp412
        case hp412 => ((intro w hSw); (try dsimp only at hSw); go_simp; (try with_reducible rfl))
        (try simp only [Act.put, List.setIfInBounds_toArray, List.set_cons_zero, List.set_cons_succ])
        refine wpAnyH_take (i := 16) (oi := { dst := some 87, op := Op.call { callee := Callee.builtin Builtin.len, args := #[Operand.tmp 86], argTypes := #[22] }, type := 3, pos := "record.go:124", after := #[{ on := 15, ground := Ground.data }, { on := 13, ground := Ground.guard }], guard := some (13, true) }) (v := ?vp413) rfl (by kernel_rfl) (by kernel_rfl) (by kernel_rfl) (fun _ _ _ h => h) (Or.inl ⟨by rfl, ?hp413⟩) hHeld ?rp413
        case hp413 => ((intro w hSw); (try dsimp only at hSw); go_simp; (try with_reducible rfl))
        (try simp only [Act.put, List.setIfInBounds_toArray, List.set_cons_zero, List.set_cons_succ])
        refine wpAnyH_take (i := 17) (oi := { dst := some 88, op := Op.move (Operand.tmp 3), type := 3, pos := "record.go:124", after := #[{ on := 13, ground := Ground.guard }], guard := some (13, true) }) (v := ?vp414) rfl (by kernel_rfl) (by kernel_rfl) (by kernel_rfl) (fun _ _ _ h => h) (Or.inl ⟨by rfl, ?hp414⟩) hHeld ?rp414
        case hp414 => ((intro w hSw); (try dsimp only at hSw); go_simp; (try with_reducible rfl))
        (try simp only [Act.put, List.setIfInBounds_toArray, List.set_cons_zero, List.set_cons_succ])
        refine wpAnyH_take (i := 18) (oi := { dst := some 89, op := Op.binOp BinOp.eql 3 (Operand.tmp 87) (Operand.tmp 88) 3, type := 4, pos := "record.go:124", after := #[{ on := 16, ground := Ground.data }, { on := 17, ground := Ground.data }, { on := 13, ground := Ground.guard }], guard := some (13, true) }) (v := ?vp415) rfl (by kernel_rfl) (by kernel_rfl) (by kernel_rfl) (fun _ _ _ h => h) (Or.inl ⟨by rfl, ?hp415⟩) hHeld ?rp415
        case hp415 => ((intro w hSw); (try dsimp only at hSw); go_simp; (try with_reducible rfl))
        (try simp only [Act.put, List.setIfInBounds_toArray, List.set_cons_zero, List.set_cons_succ])
        refine wpAnyH_take (i := 19) (oi := { dst := some 90, op := Op.pick (Operand.tmp 84) (Operand.tmp 89) (Operand.const (Value.bool false)), type := 4, pos := "record.go:124", after := #[{ on := 13, ground := Ground.data }, { on := 18, ground := Ground.data }], guard := none }) (v := ?vp416) rfl (by kernel_rfl) (by kernel_rfl) (by kernel_rfl) (fun _ _ _ h => h) (Or.inl ⟨by rfl, ?hp416⟩) hHeld ?rp416
        case hp416 => ((intro w hSw); (try dsimp only at hSw); go_simp; (try with_reducible rfl))
        (try simp only [Act.put, List.setIfInBounds_toArray, List.set_cons_zero, List.set_cons_succ])
        refine wpAnyH_take (i := 20) (oi := { dst := some 91, op := Op.move (Operand.tmp 90), type := 4, pos := "record.go:124", after := #[{ on := 19, ground := Ground.data }, { on := 13, ground := Ground.chain }], guard := none }) (v := ?vp417) rfl (by kernel_rfl) (by kernel_rfl) (by kernel_rfl) (fun _ _ _ h => h) (Or.inl ⟨by rfl, ?hp417⟩) hHeld ?rp417
        case hp417 => ((intro w hSw); (try dsimp only at hSw); go_simp; (try with_reducible rfl))
        (try simp only [Act.put, List.setIfInBounds_toArray, List.set_cons_zero, List.set_cons_succ])
        refine wpAnyH_take (i := 21) (oi := { dst := some 92, op := Op.fieldAddr 26 (Operand.tmp 1) 6, type := 0, pos := "record.go:124", after := #[{ on := 20, ground := Ground.guard }], guard := some (20, true) }) (v := ?vp418) rfl (by kernel_rfl) (by kernel_rfl) (by kernel_rfl) (fun _ _ _ h => h) (Or.inl ⟨by rfl, ?hp418⟩) hHeld ?rp418
        case hp418 => ((intro w hSw); (try dsimp only at hSw); go_simp; (try with_reducible rfl))
        (try simp only [Act.put, List.setIfInBounds_toArray, List.set_cons_zero, List.set_cons_succ])
        refine wpAnyH_take (i := 22) (oi := { dst := some 93, op := Op.load 22 (Operand.tmp 92), type := 22, pos := "record.go:124", after := #[{ on := 21, ground := Ground.data }, { on := 20, ground := Ground.guard }], guard := some (20, true) }) (v := ?vp419) rfl (by kernel_rfl) (by kernel_rfl) (by kernel_rfl) (fun _ _ _ h => h) (Or.inl ⟨by rfl, ?hp419⟩) hHeld ?rp419
        case hp419 => ((intro w hSw); (try dsimp only at hSw); go_simp; (try with_reducible rfl))
        (try simp only [Act.put, List.setIfInBounds_toArray, List.set_cons_zero, List.set_cons_succ])
        refine wpAnyH_take (i := 23) (oi := { dst := some 94, op := Op.indexAddr 22 (Operand.tmp 93) (Operand.const (Value.int IntKind.i64 0)), type := 0, pos := "record.go:124", after := #[{ on := 22, ground := Ground.data }, { on := 20, ground := Ground.guard }], guard := some (20, true) }) (v := ?vp420) rfl (by kernel_rfl) (by kernel_rfl) (by kernel_rfl) (fun _ _ _ h => h) (Or.inl ⟨by rfl, ?hp420⟩) hHeld ?rp420
        case hp420 => ((intro w hSw); (try dsimp only at hSw); go_simp; (try with_reducible rfl))
        (try simp only [Act.put, List.setIfInBounds_toArray, List.set_cons_zero, List.set_cons_succ])
        refine wpAnyH_take (i := 24) (oi := { dst := some 95, op := Op.load 5 (Operand.tmp 94), type := 5, pos := "record.go:124", after := #[{ on := 23, ground := Ground.data }, { on := 20, ground := Ground.guard }], guard := some (20, true) }) (v := ?vp421) rfl (by kernel_rfl) (by kernel_rfl) (by kernel_rfl) (fun _ _ _ h => h) (Or.inl ⟨by rfl, ?hp421⟩) hHeld ?rp421
        case hp421 => ((intro w hSw); (try dsimp only at hSw); go_simp; (try with_reducible rfl))
        (try simp only [Act.put, List.setIfInBounds_toArray, List.set_cons_zero, List.set_cons_succ])
        refine wpAnyH_take (i := 25) (oi := { dst := some 96, op := Op.fieldAddr 26 (Operand.tmp 1) 7, type := 0, pos := "record.go:124", after := #[{ on := 20, ground := Ground.guard }], guard := some (20, true) }) (v := ?vp422) rfl (by kernel_rfl) (by kernel_rfl) (by kernel_rfl) (fun _ _ _ h => h) (Or.inl ⟨by rfl, ?hp422⟩) hHeld ?rp422
        case hp422 => ((intro w hSw); (try dsimp only at hSw); go_simp; (try with_reducible rfl))
        (try simp only [Act.put, List.setIfInBounds_toArray, List.set_cons_zero, List.set_cons_succ])
        refine wpAnyH_take (i := 26) (oi := { dst := some 97, op := Op.load 22 (Operand.tmp 96), type := 22, pos := "record.go:124", after := #[{ on := 25, ground := Ground.data }, { on := 20, ground := Ground.guard }], guard := some (20, true) }) (v := ?vp423) rfl (by kernel_rfl) (by kernel_rfl) (by kernel_rfl) (fun _ _ _ h => h) (Or.inl ⟨by rfl, ?hp423⟩) hHeld ?rp423
        case hp423 => ((intro w hSw); (try dsimp only at hSw); go_simp; (try with_reducible rfl))
        (try simp only [Act.put, List.setIfInBounds_toArray, List.set_cons_zero, List.set_cons_succ])
        refine wpAnyH_take (i := 27) (oi := { dst := some 98, op := Op.indexAddr 22 (Operand.tmp 97) (Operand.const (Value.int IntKind.i64 0)), type := 0, pos := "record.go:124", after := #[{ on := 26, ground := Ground.data }, { on := 20, ground := Ground.guard }], guard := some (20, true) }) (v := ?vp424) rfl (by kernel_rfl) (by kernel_rfl) (by kernel_rfl) (fun _ _ _ h => h) (Or.inl ⟨by rfl, ?hp424⟩) hHeld ?rp424
        case hp424 => ((intro w hSw); (try dsimp only at hSw); go_simp; (try with_reducible rfl))
        (try simp only [Act.put, List.setIfInBounds_toArray, List.set_cons_zero, List.set_cons_succ])
        refine wpAnyH_take (i := 28) (oi := { dst := some 99, op := Op.load 5 (Operand.tmp 98), type := 5, pos := "record.go:124", after := #[{ on := 27, ground := Ground.data }, { on := 20, ground := Ground.guard }], guard := some (20, true) }) (v := ?vp425) rfl (by kernel_rfl) (by kernel_rfl) (by kernel_rfl) (fun _ _ _ h => h) (Or.inl ⟨by rfl, ?hp425⟩) hHeld ?rp425
        case hp425 => ((intro w hSw); (try dsimp only at hSw); go_simp; (try with_reducible rfl))
        (try simp only [Act.put, List.setIfInBounds_toArray, List.set_cons_zero, List.set_cons_succ])
        refine wpAnyH_take (i := 29) (oi := { dst := some 100, op := Op.binOp BinOp.neq 5 (Operand.tmp 95) (Operand.tmp 99) 5, type := 4, pos := "record.go:124", after := #[{ on := 24, ground := Ground.data }, { on := 28, ground := Ground.data }, { on := 20, ground := Ground.guard }], guard := some (20, true) }) (v := ?vp426) rfl (by kernel_rfl) (by kernel_rfl) (by kernel_rfl) (fun _ _ _ h => h) (Or.inl ⟨by rfl, ?hp426⟩) hHeld ?rp426
        case hp426 => ((intro w hSw); (try dsimp only at hSw); go_simp; (try with_reducible rfl))
        (try simp only [Act.put, List.setIfInBounds_toArray, List.set_cons_zero, List.set_cons_succ])
        refine wpAnyH_take (i := 30) (oi := { dst := some 101, op := Op.pick (Operand.tmp 91) (Operand.tmp 100) (Operand.const (Value.bool false)), type := 4, pos := "record.go:124", after := #[{ on := 20, ground := Ground.data }, { on := 29, ground := Ground.data }], guard := none }) (v := ?vp427) rfl (by kernel_rfl) (by kernel_rfl) (by kernel_rfl) (fun _ _ _ h => h) (Or.inl ⟨by rfl, ?hp427⟩) hHeld ?rp427
        case hp427 => ((intro w hSw); (try dsimp only at hSw); go_simp; (try with_reducible rfl))
        (try simp only [Act.put, List.setIfInBounds_toArray, List.set_cons_zero, List.set_cons_succ])
        refine wpAnyH_take (i := 31) (oi := { dst := some 102, op := Op.move (Operand.tmp 101), type := 4, pos := "record.go:124", after := #[{ on := 30, ground := Ground.data }, { on := 20, ground := Ground.chain }], guard := none }) (v := ?vp428) rfl (by kernel_rfl) (by kernel_rfl) (by kernel_rfl) (fun _ _ _ h => h) (Or.inl ⟨by rfl, ?hp428⟩) hHeld ?rp428
        case hp428 => ((intro w hSw); (try dsimp only at hSw); go_simp; (try with_reducible rfl))
        (try simp only [Act.put, List.setIfInBounds_toArray, List.set_cons_zero, List.set_cons_succ])
        refine wpAnyH_take (i := 32) (oi := { dst := some 103, op := Op.fieldAddr 26 (Operand.tmp 1) 6, type := 0, pos := "record.go:124", after := #[{ on := 31, ground := Ground.guard }], guard := some (31, true) }) rfl (by kernel_rfl) (by kernel_rfl) (by kernel_rfl) (fun _ _ _ h => h) (Or.inr ⟨by rfl, rfl⟩) hHeld ?_
        (try simp only [Act.put, List.setIfInBounds_toArray, List.set_cons_zero, List.set_cons_succ])
        refine wpAnyH_take (i := 33) (oi := { dst := some 104, op := Op.load 22 (Operand.tmp 103), type := 22, pos := "record.go:124", after := #[{ on := 32, ground := Ground.data }, { on := 31, ground := Ground.guard }], guard := some (31, true) }) rfl (by kernel_rfl) (by kernel_rfl) (by kernel_rfl) (fun _ _ _ h => h) (Or.inr ⟨by rfl, rfl⟩) hHeld ?_
        (try simp only [Act.put, List.setIfInBounds_toArray, List.set_cons_zero, List.set_cons_succ])
        refine wpAnyH_take (i := 34) (oi := { dst := some 105, op := Op.move (Operand.tmp 3), type := 3, pos := "record.go:124", after := #[{ on := 31, ground := Ground.guard }], guard := some (31, true) }) rfl (by kernel_rfl) (by kernel_rfl) (by kernel_rfl) (fun _ _ _ h => h) (Or.inr ⟨by rfl, rfl⟩) hHeld ?_
        (try simp only [Act.put, List.setIfInBounds_toArray, List.set_cons_zero, List.set_cons_succ])
        refine wpAnyH_take (i := 35) (oi := { dst := some 106, op := Op.binOp BinOp.sub 3 (Operand.tmp 105) (Operand.const (Value.int IntKind.i64 1)) 3, type := 3, pos := "record.go:124", after := #[{ on := 34, ground := Ground.data }, { on := 31, ground := Ground.guard }], guard := some (31, true) }) rfl (by kernel_rfl) (by kernel_rfl) (by kernel_rfl) (fun _ _ _ h => h) (Or.inr ⟨by rfl, rfl⟩) hHeld ?_
        (try simp only [Act.put, List.setIfInBounds_toArray, List.set_cons_zero, List.set_cons_succ])
        refine wpAnyH_take (i := 36) (oi := { dst := some 107, op := Op.indexAddr 22 (Operand.tmp 104) (Operand.tmp 106), type := 0, pos := "record.go:124", after := #[{ on := 33, ground := Ground.data }, { on := 35, ground := Ground.data }, { on := 31, ground := Ground.guard }], guard := some (31, true) }) rfl (by kernel_rfl) (by kernel_rfl) (by kernel_rfl) (fun _ _ _ h => h) (Or.inr ⟨by rfl, rfl⟩) hHeld ?_
        (try simp only [Act.put, List.setIfInBounds_toArray, List.set_cons_zero, List.set_cons_succ])
        refine wpAnyH_take (i := 37) (oi := { dst := some 108, op := Op.load 5 (Operand.tmp 107), type := 5, pos := "record.go:124", after := #[{ on := 36, ground := Ground.data }, { on := 31, ground := Ground.guard }], guard := some (31, true) }) rfl (by kernel_rfl) (by kernel_rfl) (by kernel_rfl) (fun _ _ _ h => h) (Or.inr ⟨by rfl, rfl⟩) hHeld ?_
        (try simp only [Act.put, List.setIfInBounds_toArray, List.set_cons_zero, List.set_cons_succ])
        refine wpAnyH_take (i := 38) (oi := { dst := some 109, op := Op.fieldAddr 26 (Operand.tmp 1) 7, type := 0, pos := "record.go:124", after := #[{ on := 31, ground := Ground.guard }], guard := some (31, true) }) rfl (by kernel_rfl) (by kernel_rfl) (by kernel_rfl) (fun _ _ _ h => h) (Or.inr ⟨by rfl, rfl⟩) hHeld ?_
        (try simp only [Act.put, List.setIfInBounds_toArray, List.set_cons_zero, List.set_cons_succ])
        refine wpAnyH_take (i := 39) (oi := { dst := some 110, op := Op.load 22 (Operand.tmp 109), type := 22, pos := "record.go:124", after := #[{ on := 38, ground := Ground.data }, { on := 31, ground := Ground.guard }], guard := some (31, true) }) rfl (by kernel_rfl) (by kernel_rfl) (by kernel_rfl) (fun _ _ _ h => h) (Or.inr ⟨by rfl, rfl⟩) hHeld ?_
        (try simp only [Act.put, List.setIfInBounds_toArray, List.set_cons_zero, List.set_cons_succ])
        refine wpAnyH_take (i := 40) (oi := { dst := some 111, op := Op.move (Operand.tmp 3), type := 3, pos := "record.go:124", after := #[{ on := 31, ground := Ground.guard }], guard := some (31, true) }) rfl (by kernel_rfl) (by kernel_rfl) (by kernel_rfl) (fun _ _ _ h => h) (Or.inr ⟨by rfl, rfl⟩) hHeld ?_
        (try simp only [Act.put, List.setIfInBounds_toArray, List.set_cons_zero, List.set_cons_succ])
        refine wpAnyH_take (i := 41) (oi := { dst := some 112, op := Op.binOp BinOp.sub 3 (Operand.tmp 111) (Operand.const (Value.int IntKind.i64 1)) 3, type := 3, pos := "record.go:124", after := #[{ on := 40, ground := Ground.data }, { on := 31, ground := Ground.guard }], guard := some (31, true) }) rfl (by kernel_rfl) (by kernel_rfl) (by kernel_rfl) (fun _ _ _ h => h) (Or.inr ⟨by rfl, rfl⟩) hHeld ?_
        (try simp only [Act.put, List.setIfInBounds_toArray, List.set_cons_zero, List.set_cons_succ])
        refine wpAnyH_take (i := 42) (oi := { dst := some 113, op := Op.indexAddr 22 (Operand.tmp 110) (Operand.tmp 112), type := 0, pos := "record.go:124", after := #[{ on := 39, ground := Ground.data }, { on := 41, ground := Ground.data }, { on := 31, ground := Ground.guard }], guard := some (31, true) }) rfl (by kernel_rfl) (by kernel_rfl) (by kernel_rfl) (fun _ _ _ h => h) (Or.inr ⟨by rfl, rfl⟩) hHeld ?_
        (try simp only [Act.put, List.setIfInBounds_toArray, List.set_cons_zero, List.set_cons_succ])
        refine wpAnyH_take (i := 43) (oi := { dst := some 114, op := Op.load 5 (Operand.tmp 113), type := 5, pos := "record.go:124", after := #[{ on := 42, ground := Ground.data }, { on := 31, ground := Ground.guard }], guard := some (31, true) }) rfl (by kernel_rfl) (by kernel_rfl) (by kernel_rfl) (fun _ _ _ h => h) (Or.inr ⟨by rfl, rfl⟩) hHeld ?_
        (try simp only [Act.put, List.setIfInBounds_toArray, List.set_cons_zero, List.set_cons_succ])
        refine wpAnyH_take (i := 44) (oi := { dst := some 115, op := Op.binOp BinOp.neq 5 (Operand.tmp 108) (Operand.tmp 114) 5, type := 4, pos := "record.go:124", after := #[{ on := 37, ground := Ground.data }, { on := 43, ground := Ground.data }, { on := 31, ground := Ground.guard }], guard := some (31, true) }) rfl (by kernel_rfl) (by kernel_rfl) (by kernel_rfl) (fun _ _ _ h => h) (Or.inr ⟨by rfl, rfl⟩) hHeld ?_
        (try simp only [Act.put, List.setIfInBounds_toArray, List.set_cons_zero, List.set_cons_succ])
        refine wpAnyH_take (i := 45) (oi := { dst := some 116, op := Op.pick (Operand.tmp 102) (Operand.tmp 115) (Operand.const (Value.bool false)), type := 4, pos := "record.go:124", after := #[{ on := 31, ground := Ground.data }, { on := 44, ground := Ground.data }], guard := none }) (v := ?vp442) rfl (by kernel_rfl) (by kernel_rfl) (by kernel_rfl) (fun _ _ _ h => h) (Or.inl ⟨by rfl, ?hp442⟩) hHeld ?rp442
        case hp442 => ((intro w hSw); (try dsimp only at hSw); go_simp; (try with_reducible rfl))
        (try simp only [Act.put, List.setIfInBounds_toArray, List.set_cons_zero, List.set_cons_succ])
        refine wpAnyH_take (i := 46) (oi := { dst := some 2, op := Op.assign (Operand.tmp 116), type := 4, pos := "record.go:124", after := #[{ on := 45, ground := Ground.data }, { on := 31, ground := Ground.chain }, { on := 0, ground := Ground.phase }, { on := 1, ground := Ground.phase }, { on := 2, ground := Ground.phase }, { on := 3, ground := Ground.phase }, { on := 4, ground := Ground.phase }, { on := 5, ground := Ground.phase }, { on := 6, ground := Ground.phase }, { on := 7, ground := Ground.phase }, { on := 8, ground := Ground.phase }, { on := 9, ground := Ground.phase }, { on := 10, ground := Ground.phase }, { on := 11, ground := Ground.phase }, { on := 12, ground := Ground.phase }, { on := 13, ground := Ground.phase }, { on := 14, ground := Ground.phase }, { on := 15, ground := Ground.phase }, { on := 16, ground := Ground.phase }, { on := 17, ground := Ground.phase }, { on := 18, ground := Ground.phase }, { on := 19, ground := Ground.phase }, { on := 20, ground := Ground.phase }, { on := 21, ground := Ground.phase }, { on := 22, ground := Ground.phase }, { on := 23, ground := Ground.phase }, { on := 24, ground := Ground.phase }, { on := 25, ground := Ground.phase }, { on := 26, ground := Ground.phase }, { on := 27, ground := Ground.phase }, { on := 28, ground := Ground.phase }, { on := 29, ground := Ground.phase }, { on := 30, ground := Ground.phase }, { on := 31, ground := Ground.phase }, { on := 32, ground := Ground.phase }, { on := 33, ground := Ground.phase }, { on := 34, ground := Ground.phase }, { on := 35, ground := Ground.phase }, { on := 36, ground := Ground.phase }, { on := 37, ground := Ground.phase }, { on := 38, ground := Ground.phase }, { on := 39, ground := Ground.phase }, { on := 40, ground := Ground.phase }, { on := 41, ground := Ground.phase }, { on := 42, ground := Ground.phase }, { on := 43, ground := Ground.phase }, { on := 44, ground := Ground.phase }, { on := 45, ground := Ground.phase }], guard := none }) (v := ?vp443) rfl (by kernel_rfl) (by kernel_rfl) (by kernel_rfl) (fun _ _ _ h => h) (Or.inl ⟨by rfl, ?hp443⟩) hHeld ?rp443
        case hp443 => ((intro w hSw); (try dsimp only at hSw); go_simp; (try with_reducible rfl))
        (try simp only [Act.put, List.setIfInBounds_toArray, List.set_cons_zero, List.set_cons_succ])
        refine wpAnyH_done (by kernel_rfl) ?_ _
        go_wp2_with fail
        go_ret
        exact ⟨retB (by rw [HR.out]; rw [HEN2.out, H00.out]; simp), HE2.out⟩
      · have b0 : (((gB 0 0).toNat : Int) != ((gA 0 0).toNat : Int)) = true := by rw [bne_iff_ne]; intro e; exact h0 (UInt8.toNat_inj.1 (by omega))
        have H00 := Lib.hid h0
        clear h0
        go_enter Try.func27, Try.ntmps27
        go_wp2_with (first | (go_at_call 48; ((with_reducible refine (HLB.out _).mono ?_); rintro e w2 ⟨rfl, rfl⟩)) | (go_at_call 48; ((with_reducible refine (HLP.out _).mono ?_); rintro e w2 ⟨rfl, rfl⟩)))
        refine wp_region_held_drew (S := (fun w' => w'.cell? ⟨w.heap.size, 0, none⟩ = some (.int .i64 2) ∧ w'.cell? ⟨w.heap.size, 1, none⟩ = some (.int .i64 bi) ∧ w'.cell? ⟨w.heap.size, 2, none⟩ = some (.int .i64 pr) ∧ w'.cell? ⟨w.heap.size, 3, none⟩ = some (.int .i64 id) ∧ w'.cell? ⟨w.heap.size, 4, none⟩ = some (.int .i64 pg) ∧ w'.cell? ⟨w.heap.size, 5, none⟩ = some (.int .i64 fr) ∧ w'.cell? ⟨w.heap.size, 6, none⟩ = some (.slice (some ⟨b1, o1, none⟩) nb c1) ∧ w'.cell? ⟨w.heap.size, 7, none⟩ = some (.slice (some ⟨b2, o2, none⟩) nb c2) ∧ w'.cell? ⟨w.heap.size, 8, none⟩ = some (.int .i64 nx) ∧ w'.cell? ⟨w.heap.size, 9, none⟩ = some (.slice A3 nr c3) ∧ w'.cell? ⟨w.heap.size, 10, none⟩ = some (.slice A4 nd c4) ∧ w'.cell? ⟨b1, o1, none⟩ = some (.int .u8 ((gB 0 0).toNat : Int)) ∧ w'.cell? ⟨b2, o2, none⟩ = some (.int .u8 ((gA 0 0).toNat : Int)) ∧ w'.cell? ⟨b1, o1 + M, none⟩ = some (.int .u8 ((gB M 0).toNat : Int)) ∧ w'.cell? ⟨b2, o2 + M, none⟩ = some (.int .u8 ((gA M 0).toNat : Int)))) (by kernel_rfl) (⟨HROd.out.cell (j := 0) rfl, HROd.out.cell (j := 1) rfl, HROd.out.cell (j := 2) rfl, HROd.out.cell (j := 3) rfl, HROd.out.cell (j := 4) rfl, HROd.out.cell (j := 5) rfl, HROd.out.cell (j := 6) rfl, HROd.out.cell (j := 7) rfl, HROd.out.cell (j := 8) rfl, HROd.out.cell (j := 9) rfl, HROd.out.cell (j := 10) rfl, (HBC.out _ HBD.out).1, (HBC.out _ HBD.out).2.1, (HBC.out _ HBD.out).2.2.1, (HBC.out _ HBD.out).2.2.2⟩) (fun hHeld => ?_)
        refine wpAnyH_take (i := 0) (oi := { dst := some 71, op := Op.load 26 (Operand.tmp 1), type := 26, pos := "record.go:124", after := #[], guard := none }) (v := ?vp50) rfl (by kernel_rfl) (by kernel_rfl) (by kernel_rfl) (fun _ _ _ h => h) (Or.inl ⟨by rfl, ?hp50⟩) hHeld ?rp50
        case hp50 => ((intro w hSw); (try dsimp only at hSw); go_simp; (try with_reducible rfl))
        (try simp only [Act.put, List.setIfInBounds_toArray, List.set_cons_zero, List.set_cons_succ])
        refine wpAnyH_ready (rs := [1]) (by kernel_rfl) (by simp) ?_
        refine AllReadyH.cons (o := { dst := some 72, op := Op.call { callee := Callee.value (Operand.func 45), args := #[Operand.tmp 71, Operand.const (Value.bool false), Operand.const (Value.bool true), Operand.const (Value.bool true), Operand.const (Value.bool false), Operand.const (Value.bool false)], argTypes := #[26, 4, 4, 4, 4, 4] }, type := 4, pos := "record.go:124", after := #[{ on := 0, ground := Ground.data }], guard := none }) rfl (fun K hK => ?_) AllReadyH.nil
        go_simp
        go_at_call 45
        refine (HB1.out _ _ _ _).mono ?_
        rintro e w2 ⟨rfl, hb2⟩
        have R2 := Lib.hid (HROd.out.below hb2)
        have HE2 := Lib.hid (below_then HBD.out hb2)
        try go_wp2_with fail
        refine hK.out _ _ ?_ (fun hHeld => ?_)
        · exact ⟨R2.out.cell (j := 0) rfl, R2.out.cell (j := 1) rfl, R2.out.cell (j := 2) rfl, R2.out.cell (j := 3) rfl, R2.out.cell (j := 4) rfl, R2.out.cell (j := 5) rfl, R2.out.cell (j := 6) rfl, R2.out.cell (j := 7) rfl, R2.out.cell (j := 8) rfl, R2.out.cell (j := 9) rfl, R2.out.cell (j := 10) rfl, (HBC.out _ HE2.out).1, (HBC.out _ HE2.out).2.1, (HBC.out _ HE2.out).2.2.1, (HBC.out _ HE2.out).2.2.2⟩
        clear hK K
        (try simp only [Act.put, List.setIfInBounds_toArray, List.set_cons_zero, List.set_cons_succ])
        refine wpAnyH_take (i := 2) (oi := { dst := some 73, op := Op.move (Operand.tmp 72), type := 4, pos := "record.go:124", after := #[{ on := 1, ground := Ground.data }, { on := 1, ground := Ground.chain }], guard := none }) (v := ?vp51) rfl (by kernel_rfl) (by kernel_rfl) (by kernel_rfl) (fun _ _ _ h => h) (Or.inl ⟨by rfl, ?hp51⟩) hHeld ?rp51
        case hp51 => ((intro w hSw); (try dsimp only at hSw); go_simp; (try with_reducible rfl))
        (try simp only [Act.put, List.setIfInBounds_toArray, List.set_cons_zero, List.set_cons_succ])
        refine wpAnyH_take (i := 3) (oi := { dst := some 74, op := Op.fieldAddr 26 (Operand.tmp 1) 4, type := 0, pos := "record.go:124", after := #[{ on := 2, ground := Ground.guard }], guard := some (2, true) }) (v := ?vp52) rfl (by kernel_rfl) (by kernel_rfl) (by kernel_rfl) (fun _ _ _ h => h) (Or.inl ⟨by rfl, ?hp52⟩) hHeld ?rp52
        case hp52 => ((intro w hSw); (try dsimp only at hSw); go_simp; (try with_reducible rfl))
        (try simp only [Act.put, List.setIfInBounds_toArray, List.set_cons_zero, List.set_cons_succ])
        refine wpAnyH_take (i := 4) (oi := { dst := some 75, op := Op.load 3 (Operand.tmp 74), type := 3, pos := "record.go:124", after := #[{ on := 3, ground := Ground.data }, { on := 2, ground := Ground.guard }], guard := some (2, true) }) (v := ?vp53) rfl (by kernel_rfl) (by kernel_rfl) (by kernel_rfl) (fun _ _ _ h => h) (Or.inl ⟨by rfl, ?hp53⟩) hHeld ?rp53
        case hp53 => ((intro w hSw); (try dsimp only at hSw); go_simp; (try with_reducible rfl))
        (try simp only [Act.put, List.setIfInBounds_toArray, List.set_cons_zero, List.set_cons_succ])
        refine wpAnyH_ready (rs := [5]) (by kernel_rfl) (by simp) ?_
        refine AllReadyH.cons (o := { dst := some 76, op := Op.call { callee := Callee.value (Operand.func 49), args := #[Operand.tmp 75], argTypes := #[3] }, type := 4, pos := "record.go:124", after := #[{ on := 4, ground := Ground.data }, { on := 2, ground := Ground.chain }, { on := 2, ground := Ground.guard }], guard := some (2, true) }) rfl (fun K hK => ?_) AllReadyH.nil
        go_simp
        go_at_call 49
        refine (HPG.out _).mono ?_
        rintro e wn ⟨rfl, rfl⟩
        try go_wp2_with fail
        refine hK.out _ _ ?_ (fun hHeld => ?_)
        · exact hHeld
        clear hK K
        (try simp only [Act.put, List.setIfInBounds_toArray, List.set_cons_zero, List.set_cons_succ])
        refine wpAnyH_take (i := 6) (oi := { dst := some 77, op := Op.pick (Operand.tmp 73) (Operand.tmp 76) (Operand.const (Value.bool false)), type := 4, pos := "record.go:124", after := #[{ on := 2, ground := Ground.data }, { on := 5, ground := Ground.data }], guard := none }) (v := ?vp54) rfl (by kernel_rfl) (by kernel_rfl) (by kernel_rfl) (fun _ _ _ h => h) (Or.inl ⟨by rfl, ?hp54⟩) hHeld ?rp54
        case hp54 => ((intro w hSw); (try dsimp only at hSw); go_simp; (try with_reducible rfl))
        (try simp only [Act.put, List.setIfInBounds_toArray, List.set_cons_zero, List.set_cons_succ])
        refine wpAnyH_take (i := 7) (oi := { dst := some 78, op := Op.move (Operand.tmp 77), type := 4, pos := "record.go:124", after := #[{ on := 6, ground := Ground.data }, { on := 5, ground := Ground.chain }], guard := none }) (v := ?vp55) rfl (by kernel_rfl) (by kernel_rfl) (by kernel_rfl) (fun _ _ _ h => h) (Or.inl ⟨by rfl, ?hp55⟩) hHeld ?rp55
        case hp55 => ((intro w hSw); (try dsimp only at hSw); go_simp; (try with_reducible rfl))
        (try simp only [Act.put, List.setIfInBounds_toArray, List.set_cons_zero, List.set_cons_succ])
        refine wpAnyH_take (i := 8) (oi := { dst := some 79, op := Op.fieldAddr 26 (Operand.tmp 1) 5, type := 0, pos := "record.go:124", after := #[{ on := 7, ground := Ground.guard }], guard := some (7, true) }) (v := ?vp56) rfl (by kernel_rfl) (by kernel_rfl) (by kernel_rfl) (fun _ _ _ h => h) (Or.inl ⟨by rfl, ?hp56⟩) hHeld ?rp56
        case hp56 => ((intro w hSw); (try dsimp only at hSw); go_simp; (try with_reducible rfl))
        (try simp only [Act.put, List.setIfInBounds_toArray, List.set_cons_zero, List.set_cons_succ])
        refine wpAnyH_take (i := 9) (oi := { dst := some 80, op := Op.load 3 (Operand.tmp 79), type := 3, pos := "record.go:124", after := #[{ on := 8, ground := Ground.data }, { on := 7, ground := Ground.guard }], guard := some (7, true) }) (v := ?vp57) rfl (by kernel_rfl) (by kernel_rfl) (by kernel_rfl) (fun _ _ _ h => h) (Or.inl ⟨by rfl, ?hp57⟩) hHeld ?rp57
        case hp57 => ((intro w hSw); (try dsimp only at hSw); go_simp; (try with_reducible rfl))
        (try simp only [Act.put, List.setIfInBounds_toArray, List.set_cons_zero, List.set_cons_succ])
        refine wpAnyH_take (i := 10) (oi := { dst := some 81, op := Op.move (Operand.tmp 3), type := 3, pos := "record.go:124", after := #[{ on := 7, ground := Ground.guard }], guard := some (7, true) }) (v := ?vp58) rfl (by kernel_rfl) (by kernel_rfl) (by kernel_rfl) (fun _ _ _ h => h) (Or.inl ⟨by rfl, ?hp58⟩) hHeld ?rp58
        case hp58 => ((intro w hSw); (try dsimp only at hSw); go_simp; (try with_reducible rfl))
        (try simp only [Act.put, List.setIfInBounds_toArray, List.set_cons_zero, List.set_cons_succ])
        refine wpAnyH_ready (rs := [11]) (by kernel_rfl) (by simp) ?_
        refine AllReadyH.cons (o := { dst := some 82, op := Op.call { callee := Callee.value (Operand.func 50), args := #[Operand.tmp 80, Operand.tmp 81], argTypes := #[3, 3] }, type := 4, pos := "record.go:124", after := #[{ on := 9, ground := Ground.data }, { on := 10, ground := Ground.data }, { on := 7, ground := Ground.chain }, { on := 7, ground := Ground.guard }], guard := some (7, true) }) rfl (fun K hK => ?_) AllReadyH.nil
        go_simp
        go_at_call 50
        refine (HWI.out _).mono ?_
        rintro e wn ⟨rfl, rfl⟩
        try go_wp2_with fail
        refine hK.out _ _ ?_ (fun hHeld => ?_)
        · exact hHeld
        clear hK K
        (try simp only [Act.put, List.setIfInBounds_toArray, List.set_cons_zero, List.set_cons_succ])
        refine wpAnyH_take (i := 12) (oi := { dst := some 83, op := Op.pick (Operand.tmp 78) (Operand.tmp 82) (Operand.const (Value.bool false)), type := 4, pos := "record.go:124", after := #[{ on := 7, ground := Ground.data }, { on := 11, ground := Ground.data }], guard := none }) (v := ?vp59) rfl (by kernel_rfl) (by kernel_rfl) (by kernel_rfl) (fun _ _ _ h => h) (Or.inl ⟨by rfl, ?hp59⟩) hHeld ?rp59
        case hp59 => ((intro w hSw); (try dsimp only at hSw); go_simp; (try with_reducible rfl))
        (try simp only [Act.put, List.setIfInBounds_toArray, List.set_cons_zero, List.set_cons_succ])
        refine wpAnyH_take (i := 13) (oi := { dst := some 84, op := Op.move (Operand.tmp 83), type := 4, pos := "record.go:124", after := #[{ on := 12, ground := Ground.data }, { on := 11, ground := Ground.chain }], guard := none }) (v := ?vp510) rfl (by kernel_rfl) (by kernel_rfl) (by kernel_rfl) (fun _ _ _ h => h) (Or.inl ⟨by rfl, ?hp510⟩) hHeld ?rp510
        case hp510 => ((intro w hSw); (try dsimp only at hSw); go_simp; (try with_reducible rfl))
        (try simp only [Act.put, List.setIfInBounds_toArray, List.set_cons_zero, List.set_cons_succ])
        refine wpAnyH_take (i := 14) (oi := { dst := some 85, op := Op.fieldAddr 26 (Operand.tmp 1) 6, type := 0, pos := "record.go:124", after := #[{ on := 13, ground := Ground.guard }], guard := some (13, true) }) (v := ?vp511) rfl (by kernel_rfl) (by kernel_rfl) (by kernel_rfl) (fun _ _ _ h => h) (Or.inl ⟨by rfl, ?hp511⟩) hHeld ?rp511
        case hp511 => ((intro w hSw); (try dsimp only at hSw); go_simp; (try with_reducible rfl))
        (try simp only [Act.put, List.setIfInBounds_toArray, List.set_cons_zero, List.set_cons_succ])
        refine wpAnyH_take (i := 15) (oi := { dst := some 86, op := Op.load 22 (Operand.tmp 85), type := 22, pos := "record.go:124", after := #[{ on := 14, ground := Ground.data }, { on := 13, ground := Ground.guard }], guard := some (13, true) }) (v := ?vp512) rfl (by kernel_rfl) (by kernel_rfl) (by kernel_rfl) (fun _ _ _ h => h) (Or.inl ⟨by rfl, ?hp512⟩) hHeld ?rp512
        case hp512 => ((intro w hSw); (try dsimp only at hSw); go_simp; (try with_reducible rfl))
        (try simp only [Act.put, List.setIfInBounds_toArray, List.set_cons_zero, List.set_cons_succ])
        refine wpAnyH_take (i := 16) (oi := { dst := some 87, op := Op.call { callee := Callee.builtin Builtin.len, args := #[Operand.tmp 86], argTypes := #[22] }, type := 3, pos := "record.go:124", after := #[{ on := 15, ground := Ground.data }, { on := 13, ground := Ground.guard }], guard := some (13, true) }) (v := ?vp513) rfl (by kernel_rfl) (by kernel_rfl) (by kernel_rfl) (fun _ _ _ h => h) (Or.inl ⟨by rfl, ?hp513⟩) hHeld ?rp513
        case hp513 => ((intro w hSw); (try dsimp only at hSw); go_simp; (try with_reducible rfl))
        (try simp only [Act.put, List.setIfInBounds_toArray, List.set_cons_zero, List.set_cons_succ])
        refine wpAnyH_take (i := 17) (oi := { dst := some 88, op := Op.move (Operand.tmp 3), type := 3, pos := "record.go:124", after := #[{ on := 13, ground := Ground.guard }], guard := some (13, true) }) (v := ?vp514) rfl (by kernel_rfl) (by kernel_rfl) (by kernel_rfl) (fun _ _ _ h => h) (Or.inl ⟨by rfl, ?hp514⟩) hHeld ?rp514
        case hp514 => ((intro w hSw); (try dsimp only at hSw); go_simp; (try with_reducible rfl))
        (try simp only [Act.put, List.setIfInBounds_toArray, List.set_cons_zero, List.set_cons_succ])
        refine wpAnyH_take (i := 18) (oi := { dst := some 89, op := Op.binOp BinOp.eql 3 (Operand.tmp 87) (Operand.tmp 88) 3, type := 4, pos := "record.go:124", after := #[{ on := 16, ground := Ground.data }, { on := 17, ground := Ground.data }, { on := 13, ground := Ground.guard }], guard := some (13, true) }) (v := ?vp515) rfl (by kernel_rfl) (by kernel_rfl) (by kernel_rfl) (fun _ _ _ h => h) (Or.inl ⟨by rfl, ?hp515⟩) hHeld ?rp515
        case hp515 => ((intro w hSw); (try dsimp only at hSw); go_simp; (try with_reducible rfl))
        (try simp only [Act.put, List.setIfInBounds_toArray, List.set_cons_zero, List.set_cons_succ])
        refine wpAnyH_take (i := 19) (oi := { dst := some 90, op := Op.pick (Operand.tmp 84) (Operand.tmp 89) (Operand.const (Value.bool false)), type := 4, pos := "record.go:124", after := #[{ on := 13, ground := Ground.data }, { on := 18, ground := Ground.data }], guard := none }) (v := ?vp516) rfl (by kernel_rfl) (by kernel_rfl) (by kernel_rfl) (fun _ _ _ h => h) (Or.inl ⟨by rfl, ?hp516⟩) hHeld ?rp516
        case hp516 => ((intro w hSw); (try dsimp only at hSw); go_simp; (try with_reducible rfl))
        (try simp only [Act.put, List.setIfInBounds_toArray, List.set_cons_zero, List.set_cons_succ])
        refine wpAnyH_take (i := 20) (oi := { dst := some 91, op := Op.move (Operand.tmp 90), type := 4, pos := "record.go:124", after := #[{ on := 19, ground := Ground.data }, { on := 13, ground := Ground.chain }], guard := none }) (v := ?vp517) rfl (by kernel_rfl) (by kernel_rfl) (by kernel_rfl) (fun _ _ _ h => h) (Or.inl ⟨by rfl, ?hp517⟩) hHeld ?rp517
        case hp517 => ((intro w hSw); (try dsimp only at hSw); go_simp; (try with_reducible rfl))
        (try simp only [Act.put, List.setIfInBounds_toArray, List.set_cons_zero, List.set_cons_succ])
        refine wpAnyH_take (i := 21) (oi := { dst := some 92, op := Op.fieldAddr 26 (Operand.tmp 1) 6, type := 0, pos := "record.go:124", after := #[{ on := 20, ground := Ground.guard }], guard := some (20, true) }) (v := ?vp518) rfl (by kernel_rfl) (by kernel_rfl) (by kernel_rfl) (fun _ _ _ h => h) (Or.inl ⟨by rfl, ?hp518⟩) hHeld ?rp518
        case hp518 => ((intro w hSw); (try dsimp only at hSw); go_simp; (try with_reducible rfl))
        (try simp only [Act.put, List.setIfInBounds_toArray, List.set_cons_zero, List.set_cons_succ])
        refine wpAnyH_take (i := 22) (oi := { dst := some 93, op := Op.load 22 (Operand.tmp 92), type := 22, pos := "record.go:124", after := #[{ on := 21, ground := Ground.data }, { on := 20, ground := Ground.guard }], guard := some (20, true) }) (v := ?vp519) rfl (by kernel_rfl) (by kernel_rfl) (by kernel_rfl) (fun _ _ _ h => h) (Or.inl ⟨by rfl, ?hp519⟩) hHeld ?rp519
        case hp519 => ((intro w hSw); (try dsimp only at hSw); go_simp; (try with_reducible rfl))
        (try simp only [Act.put, List.setIfInBounds_toArray, List.set_cons_zero, List.set_cons_succ])
        refine wpAnyH_take (i := 23) (oi := { dst := some 94, op := Op.indexAddr 22 (Operand.tmp 93) (Operand.const (Value.int IntKind.i64 0)), type := 0, pos := "record.go:124", after := #[{ on := 22, ground := Ground.data }, { on := 20, ground := Ground.guard }], guard := some (20, true) }) (v := ?vp520) rfl (by kernel_rfl) (by kernel_rfl) (by kernel_rfl) (fun _ _ _ h => h) (Or.inl ⟨by rfl, ?hp520⟩) hHeld ?rp520
        case hp520 => ((intro w hSw); (try dsimp only at hSw); go_simp; (try with_reducible rfl))
        (try simp only [Act.put, List.setIfInBounds_toArray, List.set_cons_zero, List.set_cons_succ])
        refine wpAnyH_take (i := 24) (oi := { dst := some 95, op := Op.load 5 (Operand.tmp 94), type := 5, pos := "record.go:124", after := #[{ on := 23, ground := Ground.data }, { on := 20, ground := Ground.guard }], guard := some (20, true) }) (v := ?vp521) rfl (by kernel_rfl) (by kernel_rfl) (by kernel_rfl) (fun _ _ _ h => h) (Or.inl ⟨by rfl, ?hp521⟩) hHeld ?rp521
        case hp521 => ((intro w hSw); (try dsimp only at hSw); go_simp; (try with_reducible rfl))
        (try simp only [Act.put, List.setIfInBounds_toArray, List.set_cons_zero, List.set_cons_succ])
        refine wpAnyH_take (i := 25) (oi := { dst := some 96, op := Op.fieldAddr 26 (Operand.tmp 1) 7, type := 0, pos := "record.go:124", after := #[{ on := 20, ground := Ground.guard }], guard := some (20, true) }) (v := ?vp522) rfl (by kernel_rfl) (by kernel_rfl) (by kernel_rfl) (fun _ _ _ h => h) (Or.inl ⟨by rfl, ?hp522⟩) hHeld ?rp522
        case hp522 => ((intro w hSw); (try dsimp only at hSw); go_simp; (try with_reducible rfl))
        (try simp only [Act.put, List.setIfInBounds_toArray, List.set_cons_zero, List.set_cons_succ])
        refine wpAnyH_take (i := 26) (oi := { dst := some 97, op := Op.load 22 (Operand.tmp 96), type := 22, pos := "record.go:124", after := #[{ on := 25, ground := Ground.data }, { on := 20, ground := Ground.guard }], guard := some (20, true) }) (v := ?vp523) rfl (by kernel_rfl) (by kernel_rfl) (by kernel_rfl) (fun _ _ _ h => h) (Or.inl ⟨by rfl, ?hp523⟩) hHeld ?rp523
        case hp523 => ((intro w hSw); (try dsimp only at hSw); go_simp; (try with_reducible rfl))
        (try simp only [Act.put, List.setIfInBounds_toArray, List.set_cons_zero, List.set_cons_succ])
        refine wpAnyH_take (i := 27) (oi := { dst := some 98, op := Op.indexAddr 22 (Operand.tmp 97) (Operand.const (Value.int IntKind.i64 0)), type := 0, pos := "record.go:124", after := #[{ on := 26, ground := Ground.data }, { on := 20, ground := Ground.guard }], guard := some (20, true) }) (v := ?vp524) rfl (by kernel_rfl) (by kernel_rfl) (by kernel_rfl) (fun _ _ _ h => h) (Or.inl ⟨by rfl, ?hp524⟩) hHeld ?rp524
        case hp524 => ((intro w hSw); (try dsimp only at hSw); go_simp; (try with_reducible rfl))
        (try simp only [Act.put, List.setIfInBounds_toArray, List.set_cons_zero, List.set_cons_succ])
        refine wpAnyH_take (i := 28) (oi := { dst := some 99, op := Op.load 5 (Operand.tmp 98), type := 5, pos := "record.go:124", after := #[{ on := 27, ground := Ground.data }, { on := 20, ground := Ground.guard }], guard := some (20, true) }) (v := ?vp525) rfl (by kernel_rfl) (by kernel_rfl) (by kernel_rfl) (fun _ _ _ h => h) (Or.inl ⟨by rfl, ?hp525⟩) hHeld ?rp525
        case hp525 => ((intro w hSw); (try dsimp only at hSw); go_simp; (try with_reducible rfl))
        (try simp only [Act.put, List.setIfInBounds_toArray, List.set_cons_zero, List.set_cons_succ])
        refine wpAnyH_take (i := 29) (oi := { dst := some 100, op := Op.binOp BinOp.neq 5 (Operand.tmp 95) (Operand.tmp 99) 5, type := 4, pos := "record.go:124", after := #[{ on := 24, ground := Ground.data }, { on := 28, ground := Ground.data }, { on := 20, ground := Ground.guard }], guard := some (20, true) }) (v := ?vp526) rfl (by kernel_rfl) (by kernel_rfl) (by kernel_rfl) (fun _ _ _ h => h) (Or.inl ⟨by rfl, ?hp526⟩) hHeld ?rp526
        case hp526 => ((intro w hSw); (try dsimp only at hSw); go_simp; (try with_reducible rfl))
        (try simp only [Act.put, List.setIfInBounds_toArray, List.set_cons_zero, List.set_cons_succ])
        refine wpAnyH_take (i := 30) (oi := { dst := some 101, op := Op.pick (Operand.tmp 91) (Operand.tmp 100) (Operand.const (Value.bool false)), type := 4, pos := "record.go:124", after := #[{ on := 20, ground := Ground.data }, { on := 29, ground := Ground.data }], guard := none }) (v := ?vp527) rfl (by kernel_rfl) (by kernel_rfl) (by kernel_rfl) (fun _ _ _ h => h) (Or.inl ⟨by rfl, ?hp527⟩) hHeld ?rp527
        case hp527 => ((intro w hSw); (try dsimp only at hSw); go_simp; (try with_reducible rfl))
        (try simp only [Act.put, List.setIfInBounds_toArray, List.set_cons_zero, List.set_cons_succ])
        refine wpAnyH_take (i := 31) (oi := { dst := some 102, op := Op.move (Operand.tmp 101), type := 4, pos := "record.go:124", after := #[{ on := 30, ground := Ground.data }, { on := 20, ground := Ground.chain }], guard := none }) (v := ?vp528) rfl (by kernel_rfl) (by kernel_rfl) (by kernel_rfl) (fun _ _ _ h => h) (Or.inl ⟨by rfl, ?hp528⟩) hHeld ?rp528
        case hp528 => ((intro w hSw); (try dsimp only at hSw); go_simp; (try with_reducible rfl))
        (try simp only [Act.put, List.setIfInBounds_toArray, List.set_cons_zero, List.set_cons_succ])
        refine wpAnyH_take (i := 32) (oi := { dst := some 103, op := Op.fieldAddr 26 (Operand.tmp 1) 6, type := 0, pos := "record.go:124", after := #[{ on := 31, ground := Ground.guard }], guard := some (31, true) }) (v := ?vp529) rfl (by kernel_rfl) (by kernel_rfl) (by kernel_rfl) (fun _ _ _ h => h) (Or.inl ⟨by rfl, ?hp529⟩) hHeld ?rp529
        case hp529 => ((intro w hSw); (try dsimp only at hSw); go_simp; (try with_reducible rfl))
        (try simp only [Act.put, List.setIfInBounds_toArray, List.set_cons_zero, List.set_cons_succ])
        refine wpAnyH_take (i := 33) (oi := { dst := some 104, op := Op.load 22 (Operand.tmp 103), type := 22, pos := "record.go:124", after := #[{ on := 32, ground := Ground.data }, { on := 31, ground := Ground.guard }], guard := some (31, true) }) (v := ?vp530) rfl (by kernel_rfl) (by kernel_rfl) (by kernel_rfl) (fun _ _ _ h => h) (Or.inl ⟨by rfl, ?hp530⟩) hHeld ?rp530
        case hp530 => ((intro w hSw); (try dsimp only at hSw); go_simp; (try with_reducible rfl))
        (try simp only [Act.put, List.setIfInBounds_toArray, List.set_cons_zero, List.set_cons_succ])
        refine wpAnyH_take (i := 34) (oi := { dst := some 105, op := Op.move (Operand.tmp 3), type := 3, pos := "record.go:124", after := #[{ on := 31, ground := Ground.guard }], guard := some (31, true) }) (v := ?vp531) rfl (by kernel_rfl) (by kernel_rfl) (by kernel_rfl) (fun _ _ _ h => h) (Or.inl ⟨by rfl, ?hp531⟩) hHeld ?rp531
        case hp531 => ((intro w hSw); (try dsimp only at hSw); go_simp; (try with_reducible rfl))
        (try simp only [Act.put, List.setIfInBounds_toArray, List.set_cons_zero, List.set_cons_succ])
        refine wpAnyH_take (i := 35) (oi := { dst := some 106, op := Op.binOp BinOp.sub 3 (Operand.tmp 105) (Operand.const (Value.int IntKind.i64 1)) 3, type := 3, pos := "record.go:124", after := #[{ on := 34, ground := Ground.data }, { on := 31, ground := Ground.guard }], guard := some (31, true) }) (v := ?vp532) rfl (by kernel_rfl) (by kernel_rfl) (by kernel_rfl) (fun _ _ _ h => h) (Or.inl ⟨by rfl, ?hp532⟩) hHeld ?rp532
        case hp532 => ((intro w hSw); (try dsimp only at hSw); go_simp; (try with_reducible rfl))
        (try simp only [Act.put, List.setIfInBounds_toArray, List.set_cons_zero, List.set_cons_succ])
        refine wpAnyH_take (i := 36) (oi := { dst := some 107, op := Op.indexAddr 22 (Operand.tmp 104) (Operand.tmp 106), type := 0, pos := "record.go:124", after := #[{ on := 33, ground := Ground.data }, { on := 35, ground := Ground.data }, { on := 31, ground := Ground.guard }], guard := some (31, true) }) (v := ?vp533) rfl (by kernel_rfl) (by kernel_rfl) (by kernel_rfl) (fun _ _ _ h => h) (Or.inl ⟨by rfl, ?hp533⟩) hHeld ?rp533
        case hp533 => ((intro w hSw); (try dsimp only at hSw); go_simp; (try with_reducible rfl))
        (try simp only [Act.put, List.setIfInBounds_toArray, List.set_cons_zero, List.set_cons_succ])
        refine wpAnyH_take (i := 37) (oi := { dst := some 108, op := Op.load 5 (Operand.tmp 107), type := 5, pos := "record.go:124", after := #[{ on := 36, ground := Ground.data }, { on := 31, ground := Ground.guard }], guard := some (31, true) }) (v := ?vp534) rfl (by kernel_rfl) (by kernel_rfl) (by kernel_rfl) (fun _ _ _ h => h) (Or.inl ⟨by rfl, ?hp534⟩) hHeld ?rp534
        case hp534 => ((intro w hSw); (try dsimp only at hSw); go_simp; (try with_reducible rfl))
        (try simp only [Act.put, List.setIfInBounds_toArray, List.set_cons_zero, List.set_cons_succ])
        refine wpAnyH_take (i := 38) (oi := { dst := some 109, op := Op.fieldAddr 26 (Operand.tmp 1) 7, type := 0, pos := "record.go:124", after := #[{ on := 31, ground := Ground.guard }], guard := some (31, true) }) (v := ?vp535) rfl (by kernel_rfl) (by kernel_rfl) (by kernel_rfl) (fun _ _ _ h => h) (Or.inl ⟨by rfl, ?hp535⟩) hHeld ?rp535
        case hp535 => ((intro w hSw); (try dsimp only at hSw); go_simp; (try with_reducible rfl))
        (try simp only [Act.put, List.setIfInBounds_toArray, List.set_cons_zero, List.set_cons_succ])
        refine wpAnyH_take (i := 39) (oi := { dst := some 110, op := Op.load 22 (Operand.tmp 109), type := 22, pos := "record.go:124", after := #[{ on := 38, ground := Ground.data }, { on := 31, ground := Ground.guard }], guard := some (31, true) }) (v := ?vp536) rfl (by kernel_rfl) (by kernel_rfl) (by kernel_rfl) (fun _ _ _ h => h) (Or.inl ⟨by rfl, ?hp536⟩) hHeld ?rp536
        case hp536 => ((intro w hSw); (try dsimp only at hSw); go_simp; (try with_reducible rfl))
        (try simp only [Act.put, List.setIfInBounds_toArray, List.set_cons_zero, List.set_cons_succ])
        refine wpAnyH_take (i := 40) (oi := { dst := some 111, op := Op.move (Operand.tmp 3), type := 3, pos := "record.go:124", after := #[{ on := 31, ground := Ground.guard }], guard := some (31, true) }) (v := ?vp537) rfl (by kernel_rfl) (by kernel_rfl) (by kernel_rfl) (fun _ _ _ h => h) (Or.inl ⟨by rfl, ?hp537⟩) hHeld ?rp537
        case hp537 => ((intro w hSw); (try dsimp only at hSw); go_simp; (try with_reducible rfl))
        (try simp only [Act.put, List.setIfInBounds_toArray, List.set_cons_zero, List.set_cons_succ])
        refine wpAnyH_take (i := 41) (oi := { dst := some 112, op := Op.binOp BinOp.sub 3 (Operand.tmp 111) (Operand.const (Value.int IntKind.i64 1)) 3, type := 3, pos := "record.go:124", after := #[{ on := 40, ground := Ground.data }, { on := 31, ground := Ground.guard }], guard := some (31, true) }) (v := ?vp538) rfl (by kernel_rfl) (by kernel_rfl) (by kernel_rfl) (fun _ _ _ h => h) (Or.inl ⟨by rfl, ?hp538⟩) hHeld ?rp538
        case hp538 => ((intro w hSw); (try dsimp only at hSw); go_simp; (try with_reducible rfl))
        (try simp only [Act.put, List.setIfInBounds_toArray, List.set_cons_zero, List.set_cons_succ])
        refine wpAnyH_take (i := 42) (oi := { dst := some 113, op := Op.indexAddr 22 (Operand.tmp 110) (Operand.tmp 112), type := 0, pos := "record.go:124", after := #[{ on := 39, ground := Ground.data }, { on := 41, ground := Ground.data }, { on := 31, ground := Ground.guard }], guard := some (31, true) }) (v := ?vp539) rfl (by kernel_rfl) (by kernel_rfl) (by kernel_rfl) (fun _ _ _ h => h) (Or.inl ⟨by rfl, ?hp539⟩) hHeld ?rp539
        case hp539 => ((intro w hSw); (try dsimp only at hSw); go_simp; (try with_reducible rfl))
        (try simp only [Act.put, List.setIfInBounds_toArray, List.set_cons_zero, List.set_cons_succ])
        refine wpAnyH_take (i := 43) (oi := { dst := some 114, op := Op.load 5 (Operand.tmp 113), type := 5, pos := "record.go:124", after := #[{ on := 42, ground := Ground.data }, { on := 31, ground := Ground.guard }], guard := some (31, true) }) (v := ?vp540) rfl (by kernel_rfl) (by kernel_rfl) (by kernel_rfl) (fun _ _ _ h => h) (Or.inl ⟨by rfl, ?hp540⟩) hHeld ?rp540
        case hp540 => ((intro w hSw); (try dsimp only at hSw); go_simp; (try with_reducible rfl))
        (try simp only [Act.put, List.setIfInBounds_toArray, List.set_cons_zero, List.set_cons_succ])
        refine wpAnyH_take (i := 44) (oi := { dst := some 115, op := Op.binOp BinOp.neq 5 (Operand.tmp 108) (Operand.tmp 114) 5, type := 4, pos := "record.go:124", after := #[{ on := 37, ground := Ground.data }, { on := 43, ground := Ground.data }, { on := 31, ground := Ground.guard }], guard := some (31, true) }) (v := ?vp541) rfl (by kernel_rfl) (by kernel_rfl) (by kernel_rfl) (fun _ _ _ h => h) (Or.inl ⟨by rfl, ?hp541⟩) hHeld ?rp541
        case hp541 => ((intro w hSw); (try dsimp only at hSw); go_simp; (try with_reducible rfl))
        (try simp only [Act.put, List.setIfInBounds_toArray, List.set_cons_zero, List.set_cons_succ])
        refine wpAnyH_take (i := 45) (oi := { dst := some 116, op := Op.pick (Operand.tmp 102) (Operand.tmp 115) (Operand.const (Value.bool false)), type := 4, pos := "record.go:124", after := #[{ on := 31, ground := Ground.data }, { on := 44, ground := Ground.data }], guard := none }) (v := ?vp542) rfl (by kernel_rfl) (by kernel_rfl) (by kernel_rfl) (fun _ _ _ h => h) (Or.inl ⟨by rfl, ?hp542⟩) hHeld ?rp542
        case hp542 => ((intro w hSw); (try dsimp only at hSw); go_simp; (try with_reducible rfl))
        (try simp only [Act.put, List.setIfInBounds_toArray, List.set_cons_zero, List.set_cons_succ])
        refine wpAnyH_take (i := 46) (oi := { dst := some 2, op := Op.assign (Operand.tmp 116), type := 4, pos := "record.go:124", after := #[{ on := 45, ground := Ground.data }, { on := 31, ground := Ground.chain }, { on := 0, ground := Ground.phase }, { on := 1, ground := Ground.phase }, { on := 2, ground := Ground.phase }, { on := 3, ground := Ground.phase }, { on := 4, ground := Ground.phase }, { on := 5, ground := Ground.phase }, { on := 6, ground := Ground.phase }, { on := 7, ground := Ground.phase }, { on := 8, ground := Ground.phase }, { on := 9, ground := Ground.phase }, { on := 10, ground := Ground.phase }, { on := 11, ground := Ground.phase }, { on := 12, ground := Ground.phase }, { on := 13, ground := Ground.phase }, { on := 14, ground := Ground.phase }, { on := 15, ground := Ground.phase }, { on := 16, ground := Ground.phase }, { on := 17, ground := Ground.phase }, { on := 18, ground := Ground.phase }, { on := 19, ground := Ground.phase }, { on := 20, ground := Ground.phase }, { on := 21, ground := Ground.phase }, { on := 22, ground := Ground.phase }, { on := 23, ground := Ground.phase }, { on := 24, ground := Ground.phase }, { on := 25, ground := Ground.phase }, { on := 26, ground := Ground.phase }, { on := 27, ground := Ground.phase }, { on := 28, ground := Ground.phase }, { on := 29, ground := Ground.phase }, { on := 30, ground := Ground.phase }, { on := 31, ground := Ground.phase }, { on := 32, ground := Ground.phase }, { on := 33, ground := Ground.phase }, { on := 34, ground := Ground.phase }, { on := 35, ground := Ground.phase }, { on := 36, ground := Ground.phase }, { on := 37, ground := Ground.phase }, { on := 38, ground := Ground.phase }, { on := 39, ground := Ground.phase }, { on := 40, ground := Ground.phase }, { on := 41, ground := Ground.phase }, { on := 42, ground := Ground.phase }, { on := 43, ground := Ground.phase }, { on := 44, ground := Ground.phase }, { on := 45, ground := Ground.phase }], guard := none }) (v := ?vp543) rfl (by kernel_rfl) (by kernel_rfl) (by kernel_rfl) (fun _ _ _ h => h) (Or.inl ⟨by rfl, ?hp543⟩) hHeld ?rp543
        case hp543 => ((intro w hSw); (try dsimp only at hSw); go_simp; (try with_reducible rfl))
        (try simp only [Act.put, List.setIfInBounds_toArray, List.set_cons_zero, List.set_cons_succ])
        refine wpAnyH_done (by kernel_rfl) ?_ _
        go_wp2_with fail
        go_ret
        exact ⟨retB (by rw [HR.out]; rw [HEN2.out, decide_eq_true H00.out, u8_ne]; simp), HE2.out⟩
    · have e0 : ((nb : Int) == (na : Int)) = false := by rw [beq_eq_false_iff_ne]; omega
      have HNE := Lib.hid he
      clear he HBY HEN HW0
      go_enter Try.func27, Try.ntmps27
      go_wp2_with (first | (go_at_call 48; ((with_reducible refine (HLB.out _).mono ?_); rintro e w2 ⟨rfl, rfl⟩)) | (go_at_call 48; ((with_reducible refine (HLP.out _).mono ?_); rintro e w2 ⟨rfl, rfl⟩)))
      refine wp_region_held_drew (S := (fun w' => w'.cell? ⟨w.heap.size, 0, none⟩ = some (.int .i64 2) ∧ w'.cell? ⟨w.heap.size, 1, none⟩ = some (.int .i64 bi) ∧ w'.cell? ⟨w.heap.size, 2, none⟩ = some (.int .i64 pr) ∧ w'.cell? ⟨w.heap.size, 3, none⟩ = some (.int .i64 id) ∧ w'.cell? ⟨w.heap.size, 4, none⟩ = some (.int .i64 pg) ∧ w'.cell? ⟨w.heap.size, 5, none⟩ = some (.int .i64 fr) ∧ w'.cell? ⟨w.heap.size, 6, none⟩ = some (.slice A1 nb c1) ∧ w'.cell? ⟨w.heap.size, 7, none⟩ = some (.slice A2 na c2) ∧ w'.cell? ⟨w.heap.size, 8, none⟩ = some (.int .i64 nx) ∧ w'.cell? ⟨w.heap.size, 9, none⟩ = some (.slice A3 nr c3) ∧ w'.cell? ⟨w.heap.size, 10, none⟩ = some (.slice A4 nd c4))) (by kernel_rfl) (⟨HROd.out.cell (j := 0) rfl, HROd.out.cell (j := 1) rfl, HROd.out.cell (j := 2) rfl, HROd.out.cell (j := 3) rfl, HROd.out.cell (j := 4) rfl, HROd.out.cell (j := 5) rfl, HROd.out.cell (j := 6) rfl, HROd.out.cell (j := 7) rfl, HROd.out.cell (j := 8) rfl, HROd.out.cell (j := 9) rfl, HROd.out.cell (j := 10) rfl⟩) (fun hHeld => ?_)
      refine wpAnyH_take (i := 0) (oi := { dst := some 71, op := Op.load 26 (Operand.tmp 1), type := 26, pos := "record.go:124", after := #[], guard := none }) (v := ?vp60) rfl (by kernel_rfl) (by kernel_rfl) (by kernel_rfl) (fun _ _ _ h => h) (Or.inl ⟨by rfl, ?hp60⟩) hHeld ?rp60
      case hp60 => ((intro w hSw); (try dsimp only at hSw); go_simp; (try with_reducible rfl))
      (try simp only [Act.put, List.setIfInBounds_toArray, List.set_cons_zero, List.set_cons_succ])
      refine wpAnyH_ready (rs := [1]) (by kernel_rfl) (by simp) ?_
      refine AllReadyH.cons (o := { dst := some 72, op := Op.call { callee := Callee.value (Operand.func 45), args := #[Operand.tmp 71, Operand.const (Value.bool false), Operand.const (Value.bool true), Operand.const (Value.bool true), Operand.const (Value.bool false), Operand.const (Value.bool false)], argTypes := #[26, 4, 4, 4, 4, 4] }, type := 4, pos := "record.go:124", after := #[{ on := 0, ground := Ground.data }], guard := none }) rfl (fun K hK => ?_) AllReadyH.nil
      go_simp
      go_at_call 45
      refine (HB1.out _ _ _ _).mono ?_
      rintro e w2 ⟨rfl, hb2⟩
      have R2 := Lib.hid (HROd.out.below hb2)
      have HE2 := Lib.hid (below_then HBD.out hb2)
      try go_wp2_with fail
      refine hK.out _ _ ?_ (fun hHeld => ?_)
      · exact ⟨R2.out.cell (j := 0) rfl, R2.out.cell (j := 1) rfl, R2.out.cell (j := 2) rfl, R2.out.cell (j := 3) rfl, R2.out.cell (j := 4) rfl, R2.out.cell (j := 5) rfl, R2.out.cell (j := 6) rfl, R2.out.cell (j := 7) rfl, R2.out.cell (j := 8) rfl, R2.out.cell (j := 9) rfl, R2.out.cell (j := 10) rfl⟩
      clear hK K
      (try simp only [Act.put, List.setIfInBounds_toArray, List.set_cons_zero, List.set_cons_succ])
      refine wpAnyH_take (i := 2) (oi := { dst := some 73, op := Op.move (Operand.tmp 72), type := 4, pos := "record.go:124", after := #[{ on := 1, ground := Ground.data }, { on := 1, ground := Ground.chain }], guard := none }) (v := ?vp61) rfl (by kernel_rfl) (by kernel_rfl) (by kernel_rfl) (fun _ _ _ h => h) (Or.inl ⟨by rfl, ?hp61⟩) hHeld ?rp61
      case hp61 => ((intro w hSw); (try dsimp only at hSw); go_simp; (try with_reducible rfl))
      (try simp only [Act.put, List.setIfInBounds_toArray, List.set_cons_zero, List.set_cons_succ])
      refine wpAnyH_take (i := 3) (oi := { dst := some 74, op := Op.fieldAddr 26 (Operand.tmp 1) 4, type := 0, pos := "record.go:124", after := #[{ on := 2, ground := Ground.guard }], guard := some (2, true) }) (v := ?vp62) rfl (by kernel_rfl) (by kernel_rfl) (by kernel_rfl) (fun _ _ _ h => h) (Or.inl ⟨by rfl, ?hp62⟩) hHeld ?rp62
      case hp62 => ((intro w hSw); (try dsimp only at hSw); go_simp; (try with_reducible rfl))
      (try simp only [Act.put, List.setIfInBounds_toArray, List.set_cons_zero, List.set_cons_succ])
      refine wpAnyH_take (i := 4) (oi := { dst := some 75, op := Op.load 3 (Operand.tmp 74), type := 3, pos := "record.go:124", after := #[{ on := 3, ground := Ground.data }, { on := 2, ground := Ground.guard }], guard := some (2, true) }) (v := ?vp63) rfl (by kernel_rfl) (by kernel_rfl) (by kernel_rfl) (fun _ _ _ h => h) (Or.inl ⟨by rfl, ?hp63⟩) hHeld ?rp63
      case hp63 => ((intro w hSw); (try dsimp only at hSw); go_simp; (try with_reducible rfl))
      (try simp only [Act.put, List.setIfInBounds_toArray, List.set_cons_zero, List.set_cons_succ])
      refine wpAnyH_ready (rs := [5]) (by kernel_rfl) (by simp) ?_
      refine AllReadyH.cons (o := { dst := some 76, op := Op.call { callee := Callee.value (Operand.func 49), args := #[Operand.tmp 75], argTypes := #[3] }, type := 4, pos := "record.go:124", after := #[{ on := 4, ground := Ground.data }, { on := 2, ground := Ground.chain }, { on := 2, ground := Ground.guard }], guard := some (2, true) }) rfl (fun K hK => ?_) AllReadyH.nil
      go_simp
      go_at_call 49
      refine (HPG.out _).mono ?_
      rintro e wn ⟨rfl, rfl⟩
      try go_wp2_with fail
      refine hK.out _ _ ?_ (fun hHeld => ?_)
      · exact hHeld
      clear hK K
      (try simp only [Act.put, List.setIfInBounds_toArray, List.set_cons_zero, List.set_cons_succ])
      refine wpAnyH_take (i := 6) (oi := { dst := some 77, op := Op.pick (Operand.tmp 73) (Operand.tmp 76) (Operand.const (Value.bool false)), type := 4, pos := "record.go:124", after := #[{ on := 2, ground := Ground.data }, { on := 5, ground := Ground.data }], guard := none }) (v := ?vp64) rfl (by kernel_rfl) (by kernel_rfl) (by kernel_rfl) (fun _ _ _ h => h) (Or.inl ⟨by rfl, ?hp64⟩) hHeld ?rp64
      case hp64 => ((intro w hSw); (try dsimp only at hSw); go_simp; (try with_reducible rfl))
      (try simp only [Act.put, List.setIfInBounds_toArray, List.set_cons_zero, List.set_cons_succ])
      refine wpAnyH_take (i := 7) (oi := { dst := some 78, op := Op.move (Operand.tmp 77), type := 4, pos := "record.go:124", after := #[{ on := 6, ground := Ground.data }, { on := 5, ground := Ground.chain }], guard := none }) (v := ?vp65) rfl (by kernel_rfl) (by kernel_rfl) (by kernel_rfl) (fun _ _ _ h => h) (Or.inl ⟨by rfl, ?hp65⟩) hHeld ?rp65
      case hp65 => ((intro w hSw); (try dsimp only at hSw); go_simp; (try with_reducible rfl))
      (try simp only [Act.put, List.setIfInBounds_toArray, List.set_cons_zero, List.set_cons_succ])
      refine wpAnyH_take (i := 8) (oi := { dst := some 79, op := Op.fieldAddr 26 (Operand.tmp 1) 5, type := 0, pos := "record.go:124", after := #[{ on := 7, ground := Ground.guard }], guard := some (7, true) }) (v := ?vp66) rfl (by kernel_rfl) (by kernel_rfl) (by kernel_rfl) (fun _ _ _ h => h) (Or.inl ⟨by rfl, ?hp66⟩) hHeld ?rp66
      case hp66 => ((intro w hSw); (try dsimp only at hSw); go_simp; (try with_reducible rfl))
      (try simp only [Act.put, List.setIfInBounds_toArray, List.set_cons_zero, List.set_cons_succ])
      refine wpAnyH_take (i := 9) (oi := { dst := some 80, op := Op.load 3 (Operand.tmp 79), type := 3, pos := "record.go:124", after := #[{ on := 8, ground := Ground.data }, { on := 7, ground := Ground.guard }], guard := some (7, true) }) (v := ?vp67) rfl (by kernel_rfl) (by kernel_rfl) (by kernel_rfl) (fun _ _ _ h => h) (Or.inl ⟨by rfl, ?hp67⟩) hHeld ?rp67
      case hp67 => ((intro w hSw); (try dsimp only at hSw); go_simp; (try with_reducible rfl))
      (try simp only [Act.put, List.setIfInBounds_toArray, List.set_cons_zero, List.set_cons_succ])
      refine wpAnyH_take (i := 10) (oi := { dst := some 81, op := Op.move (Operand.tmp 3), type := 3, pos := "record.go:124", after := #[{ on := 7, ground := Ground.guard }], guard := some (7, true) }) (v := ?vp68) rfl (by kernel_rfl) (by kernel_rfl) (by kernel_rfl) (fun _ _ _ h => h) (Or.inl ⟨by rfl, ?hp68⟩) hHeld ?rp68
      case hp68 => ((intro w hSw); (try dsimp only at hSw); go_simp; (try with_reducible rfl))
      (try simp only [Act.put, List.setIfInBounds_toArray, List.set_cons_zero, List.set_cons_succ])
      refine wpAnyH_ready (rs := [11]) (by kernel_rfl) (by simp) ?_
      refine AllReadyH.cons (o := { dst := some 82, op := Op.call { callee := Callee.value (Operand.func 50), args := #[Operand.tmp 80, Operand.tmp 81], argTypes := #[3, 3] }, type := 4, pos := "record.go:124", after := #[{ on := 9, ground := Ground.data }, { on := 10, ground := Ground.data }, { on := 7, ground := Ground.chain }, { on := 7, ground := Ground.guard }], guard := some (7, true) }) rfl (fun K hK => ?_) AllReadyH.nil
      go_simp
      go_at_call 50
      refine (HWI.out _).mono ?_
      rintro e wn ⟨rfl, rfl⟩
      try go_wp2_with fail
      refine hK.out _ _ ?_ (fun hHeld => ?_)
      · exact hHeld
      clear hK K
      (try simp only [Act.put, List.setIfInBounds_toArray, List.set_cons_zero, List.set_cons_succ])
      refine wpAnyH_take (i := 12) (oi := { dst := some 83, op := Op.pick (Operand.tmp 78) (Operand.tmp 82) (Operand.const (Value.bool false)), type := 4, pos := "record.go:124", after := #[{ on := 7, ground := Ground.data }, { on := 11, ground := Ground.data }], guard := none }) (v := ?vp69) rfl (by kernel_rfl) (by kernel_rfl) (by kernel_rfl) (fun _ _ _ h => h) (Or.inl ⟨by rfl, ?hp69⟩) hHeld ?rp69
      case hp69 => ((intro w hSw); (try dsimp only at hSw); go_simp; (try with_reducible rfl))
      (try simp only [Act.put, List.setIfInBounds_toArray, List.set_cons_zero, List.set_cons_succ])
      refine wpAnyH_take (i := 13) (oi := { dst := some 84, op := Op.move (Operand.tmp 83), type := 4, pos := "record.go:124", after := #[{ on := 12, ground := Ground.data }, { on := 11, ground := Ground.chain }], guard := none }) (v := ?vp610) rfl (by kernel_rfl) (by kernel_rfl) (by kernel_rfl) (fun _ _ _ h => h) (Or.inl ⟨by rfl, ?hp610⟩) hHeld ?rp610
      case hp610 => ((intro w hSw); (try dsimp only at hSw); go_simp; (try with_reducible rfl))
      (try simp only [Act.put, List.setIfInBounds_toArray, List.set_cons_zero, List.set_cons_succ])
      refine wpAnyH_take (i := 14) (oi := { dst := some 85, op := Op.fieldAddr 26 (Operand.tmp 1) 6, type := 0, pos := "record.go:124", after := #[{ on := 13, ground := Ground.guard }], guard := some (13, true) }) (v := ?vp611) rfl (by kernel_rfl) (by kernel_rfl) (by kernel_rfl) (fun _ _ _ h => h) (Or.inl ⟨by rfl, ?hp611⟩) hHeld ?rp611
      case hp611 => ((intro w hSw); (try dsimp only at hSw); go_simp; (try with_reducible rfl))
      (try simp only [Act.put, List.setIfInBounds_toArray, List.set_cons_zero, List.set_cons_succ])
      refine wpAnyH_take (i := 15) (oi := { dst := some 86, op := Op.load 22 (Operand.tmp 85), type := 22, pos := "record.go:124", after := #[{ on := 14, ground := Ground.data }, { on := 13, ground := Ground.guard }], guard := some (13, true) }) (v := ?vp612) rfl (by kernel_rfl) (by kernel_rfl) (by kernel_rfl) (fun _ _ _ h => h) (Or.inl ⟨by rfl, ?hp612⟩) hHeld ?rp612
      case hp612 => ((intro w hSw); (try dsimp only at hSw); go_simp; (try with_reducible rfl))
      (try simp only [Act.put, List.setIfInBounds_toArray, List.set_cons_zero, List.set_cons_succ])
      refine wpAnyH_take (i := 16) (oi := { dst := some 87, op := Op.call { callee := Callee.builtin Builtin.len, args := #[Operand.tmp 86], argTypes := #[22] }, type := 3, pos := "record.go:124", after := #[{ on := 15, ground := Ground.data }, { on := 13, ground := Ground.guard }], guard := some (13, true) }) (v := ?vp613) rfl (by kernel_rfl) (by kernel_rfl) (by kernel_rfl) (fun _ _ _ h => h) (Or.inl ⟨by rfl, ?hp613⟩) hHeld ?rp613
      case hp613 => ((intro w hSw); (try dsimp only at hSw); go_simp; (try with_reducible rfl))
      (try simp only [Act.put, List.setIfInBounds_toArray, List.set_cons_zero, List.set_cons_succ])
      refine wpAnyH_take (i := 17) (oi := { dst := some 88, op := Op.move (Operand.tmp 3), type := 3, pos := "record.go:124", after := #[{ on := 13, ground := Ground.guard }], guard := some (13, true) }) (v := ?vp614) rfl (by kernel_rfl) (by kernel_rfl) (by kernel_rfl) (fun _ _ _ h => h) (Or.inl ⟨by rfl, ?hp614⟩) hHeld ?rp614
      case hp614 => ((intro w hSw); (try dsimp only at hSw); go_simp; (try with_reducible rfl))
      (try simp only [Act.put, List.setIfInBounds_toArray, List.set_cons_zero, List.set_cons_succ])
      refine wpAnyH_take (i := 18) (oi := { dst := some 89, op := Op.binOp BinOp.eql 3 (Operand.tmp 87) (Operand.tmp 88) 3, type := 4, pos := "record.go:124", after := #[{ on := 16, ground := Ground.data }, { on := 17, ground := Ground.data }, { on := 13, ground := Ground.guard }], guard := some (13, true) }) (v := ?vp615) rfl (by kernel_rfl) (by kernel_rfl) (by kernel_rfl) (fun _ _ _ h => h) (Or.inl ⟨by rfl, ?hp615⟩) hHeld ?rp615
      case hp615 => ((intro w hSw); (try dsimp only at hSw); go_simp; (try with_reducible rfl))
      (try simp only [Act.put, List.setIfInBounds_toArray, List.set_cons_zero, List.set_cons_succ])
      refine wpAnyH_take (i := 19) (oi := { dst := some 90, op := Op.pick (Operand.tmp 84) (Operand.tmp 89) (Operand.const (Value.bool false)), type := 4, pos := "record.go:124", after := #[{ on := 13, ground := Ground.data }, { on := 18, ground := Ground.data }], guard := none }) (v := ?vp616) rfl (by kernel_rfl) (by kernel_rfl) (by kernel_rfl) (fun _ _ _ h => h) (Or.inl ⟨by rfl, ?hp616⟩) hHeld ?rp616
      case hp616 => ((intro w hSw); (try dsimp only at hSw); go_simp; (try with_reducible rfl))
      (try simp only [Act.put, List.setIfInBounds_toArray, List.set_cons_zero, List.set_cons_succ])
      refine wpAnyH_take (i := 20) (oi := { dst := some 91, op := Op.move (Operand.tmp 90), type := 4, pos := "record.go:124", after := #[{ on := 19, ground := Ground.data }, { on := 13, ground := Ground.chain }], guard := none }) (v := ?vp617) rfl (by kernel_rfl) (by kernel_rfl) (by kernel_rfl) (fun _ _ _ h => h) (Or.inl ⟨by rfl, ?hp617⟩) hHeld ?rp617
      case hp617 => ((intro w hSw); (try dsimp only at hSw); go_simp; (try with_reducible rfl))
      (try simp only [Act.put, List.setIfInBounds_toArray, List.set_cons_zero, List.set_cons_succ])
      refine wpAnyH_take (i := 21) (oi := { dst := some 92, op := Op.fieldAddr 26 (Operand.tmp 1) 6, type := 0, pos := "record.go:124", after := #[{ on := 20, ground := Ground.guard }], guard := some (20, true) }) rfl (by kernel_rfl) (by kernel_rfl) (by kernel_rfl) (fun _ _ _ h => h) (Or.inr ⟨by rfl, rfl⟩) hHeld ?_
      (try simp only [Act.put, List.setIfInBounds_toArray, List.set_cons_zero, List.set_cons_succ])
      refine wpAnyH_take (i := 22) (oi := { dst := some 93, op := Op.load 22 (Operand.tmp 92), type := 22, pos := "record.go:124", after := #[{ on := 21, ground := Ground.data }, { on := 20, ground := Ground.guard }], guard := some (20, true) }) rfl (by kernel_rfl) (by kernel_rfl) (by kernel_rfl) (fun _ _ _ h => h) (Or.inr ⟨by rfl, rfl⟩) hHeld ?_
      (try simp only [Act.put, List.setIfInBounds_toArray, List.set_cons_zero, List.set_cons_succ])
      refine wpAnyH_take (i := 23) (oi := { dst := some 94, op := Op.indexAddr 22 (Operand.tmp 93) (Operand.const (Value.int IntKind.i64 0)), type := 0, pos := "record.go:124", after := #[{ on := 22, ground := Ground.data }, { on := 20, ground := Ground.guard }], guard := some (20, true) }) rfl (by kernel_rfl) (by kernel_rfl) (by kernel_rfl) (fun _ _ _ h => h) (Or.inr ⟨by rfl, rfl⟩) hHeld ?_
      (try simp only [Act.put, List.setIfInBounds_toArray, List.set_cons_zero, List.set_cons_succ])
      refine wpAnyH_take (i := 24) (oi := { dst := some 95, op := Op.load 5 (Operand.tmp 94), type := 5, pos := "record.go:124", after := #[{ on := 23, ground := Ground.data }, { on := 20, ground := Ground.guard }], guard := some (20, true) }) rfl (by kernel_rfl) (by kernel_rfl) (by kernel_rfl) (fun _ _ _ h => h) (Or.inr ⟨by rfl, rfl⟩) hHeld ?_
      (try simp only [Act.put, List.setIfInBounds_toArray, List.set_cons_zero, List.set_cons_succ])
      refine wpAnyH_take (i := 25) (oi := { dst := some 96, op := Op.fieldAddr 26 (Operand.tmp 1) 7, type := 0, pos := "record.go:124", after := #[{ on := 20, ground := Ground.guard }], guard := some (20, true) }) rfl (by kernel_rfl) (by kernel_rfl) (by kernel_rfl) (fun _ _ _ h => h) (Or.inr ⟨by rfl, rfl⟩) hHeld ?_
      (try simp only [Act.put, List.setIfInBounds_toArray, List.set_cons_zero, List.set_cons_succ])
      refine wpAnyH_take (i := 26) (oi := { dst := some 97, op := Op.load 22 (Operand.tmp 96), type := 22, pos := "record.go:124", after := #[{ on := 25, ground := Ground.data }, { on := 20, ground := Ground.guard }], guard := some (20, true) }) rfl (by kernel_rfl) (by kernel_rfl) (by kernel_rfl) (fun _ _ _ h => h) (Or.inr ⟨by rfl, rfl⟩) hHeld ?_
      (try simp only [Act.put, List.setIfInBounds_toArray, List.set_cons_zero, List.set_cons_succ])
      refine wpAnyH_take (i := 27) (oi := { dst := some 98, op := Op.indexAddr 22 (Operand.tmp 97) (Operand.const (Value.int IntKind.i64 0)), type := 0, pos := "record.go:124", after := #[{ on := 26, ground := Ground.data }, { on := 20, ground := Ground.guard }], guard := some (20, true) }) rfl (by kernel_rfl) (by kernel_rfl) (by kernel_rfl) (fun _ _ _ h => h) (Or.inr ⟨by rfl, rfl⟩) hHeld ?_
      (try simp only [Act.put, List.setIfInBounds_toArray, List.set_cons_zero, List.set_cons_succ])
      refine wpAnyH_take (i := 28) (oi := { dst := some 99, op := Op.load 5 (Operand.tmp 98), type := 5, pos := "record.go:124", after := #[{ on := 27, ground := Ground.data }, { on := 20, ground := Ground.guard }], guard := some (20, true) }) rfl (by kernel_rfl) (by kernel_rfl) (by kernel_rfl) (fun _ _ _ h => h) (Or.inr ⟨by rfl, rfl⟩) hHeld ?_
      (try simp only [Act.put, List.setIfInBounds_toArray, List.set_cons_zero, List.set_cons_succ])
      refine wpAnyH_take (i := 29) (oi := { dst := some 100, op := Op.binOp BinOp.neq 5 (Operand.tmp 95) (Operand.tmp 99) 5, type := 4, pos := "record.go:124", after := #[{ on := 24, ground := Ground.data }, { on := 28, ground := Ground.data }, { on := 20, ground := Ground.guard }], guard := some (20, true) }) rfl (by kernel_rfl) (by kernel_rfl) (by kernel_rfl) (fun _ _ _ h => h) (Or.inr ⟨by rfl, rfl⟩) hHeld ?_
      (try simp only [Act.put, List.setIfInBounds_toArray, List.set_cons_zero, List.set_cons_succ])
      refine wpAnyH_take (i := 30) (oi := { dst := some 101, op := Op.pick (Operand.tmp 91) (Operand.tmp 100) (Operand.const (Value.bool false)), type := 4, pos := "record.go:124", after := #[{ on := 20, ground := Ground.data }, { on := 29, ground := Ground.data }], guard := none }) (v := ?vp627) rfl (by kernel_rfl) (by kernel_rfl) (by kernel_rfl) (fun _ _ _ h => h) (Or.inl ⟨by rfl, ?hp627⟩) hHeld ?rp627
      case hp627 => ((intro w hSw); (try dsimp only at hSw); go_simp; (try with_reducible rfl))
      (try simp only [Act.put, List.setIfInBounds_toArray, List.set_cons_zero, List.set_cons_succ])
      refine wpAnyH_take (i := 31) (oi := { dst := some 102, op := Op.move (Operand.tmp 101), type := 4, pos := "record.go:124", after := #[{ on := 30, ground := Ground.data }, { on := 20, ground := Ground.chain }], guard := none }) (v := ?vp628) rfl (by kernel_rfl) (by kernel_rfl) (by kernel_rfl) (fun _ _ _ h => h) (Or.inl ⟨by rfl, ?hp628⟩) hHeld ?rp628
      case hp628 => ((intro w hSw); (try dsimp only at hSw); go_simp; (try with_reducible rfl))
      (try simp only [Act.put, List.setIfInBounds_toArray, List.set_cons_zero, List.set_cons_succ])
      refine wpAnyH_take (i := 32) (oi := { dst := some 103, op := Op.fieldAddr 26 (Operand.tmp 1) 6, type := 0, pos := "record.go:124", after := #[{ on := 31, ground := Ground.guard }], guard := some (31, true) }) rfl (by kernel_rfl) (by kernel_rfl) (by kernel_rfl) (fun _ _ _ h => h) (Or.inr ⟨by rfl, rfl⟩) hHeld ?_
      (try simp only [Act.put, List.setIfInBounds_toArray, List.set_cons_zero, List.set_cons_succ])
      refine wpAnyH_take (i := 33) (oi := { dst := some 104, op := Op.load 22 (Operand.tmp 103), type := 22, pos := "record.go:124", after := #[{ on := 32, ground := Ground.data }, { on := 31, ground := Ground.guard }], guard := some (31, true) }) rfl (by kernel_rfl) (by kernel_rfl) (by kernel_rfl) (fun _ _ _ h => h) (Or.inr ⟨by rfl, rfl⟩) hHeld ?_
      (try simp only [Act.put, List.setIfInBounds_toArray, List.set_cons_zero, List.set_cons_succ])
      refine wpAnyH_take (i := 34) (oi := { dst := some 105, op := Op.move (Operand.tmp 3), type := 3, pos := "record.go:124", after := #[{ on := 31, ground := Ground.guard }], guard := some (31, true) }) rfl (by kernel_rfl) (by kernel_rfl) (by kernel_rfl) (fun _ _ _ h => h) (Or.inr ⟨by rfl, rfl⟩) hHeld ?_
      (try simp only [Act.put, List.setIfInBounds_toArray, List.set_cons_zero, List.set_cons_succ])
      refine wpAnyH_take (i := 35) (oi := { dst := some 106, op := Op.binOp BinOp.sub 3 (Operand.tmp 105) (Operand.const (Value.int IntKind.i64 1)) 3, type := 3, pos := "record.go:124", after := #[{ on := 34, ground := Ground.data }, { on := 31, ground := Ground.guard }], guard := some (31, true) }) rfl (by kernel_rfl) (by kernel_rfl) (by kernel_rfl) (fun _ _ _ h => h) (Or.inr ⟨by rfl, rfl⟩) hHeld ?_
      (try simp only [Act.put, List.setIfInBounds_toArray, List.set_cons_zero, List.set_cons_succ])
      refine wpAnyH_take (i := 36) (oi := { dst := some 107, op := Op.indexAddr 22 (Operand.tmp 104) (Operand.tmp 106), type := 0, pos := "record.go:124", after := #[{ on := 33, ground := Ground.data }, { on := 35, ground := Ground.data }, { on := 31, ground := Ground.guard }], guard := some (31, true) }) rfl (by kernel_rfl) (by kernel_rfl) (by kernel_rfl) (fun _ _ _ h => h) (Or.inr ⟨by rfl, rfl⟩) hHeld ?_
      (try simp only [Act.put, List.setIfInBounds_toArray, List.set_cons_zero, List.set_cons_succ])
      refine wpAnyH_take (i := 37) (oi := { dst := some 108, op := Op.load 5 (Operand.tmp 107), type := 5, pos := "record.go:124", after := #[{ on := 36, ground := Ground.data }, { on := 31, ground := Ground.guard }], guard := some (31, true) }) rfl (by kernel_rfl) (by kernel_rfl) (by kernel_rfl) (fun _ _ _ h => h) (Or.inr ⟨by rfl, rfl⟩) hHeld ?_
      (try simp only [Act.put, List.setIfInBounds_toArray, List.set_cons_zero, List.set_cons_succ])
      refine wpAnyH_take (i := 38) (oi := { dst := some 109, op := Op.fieldAddr 26 (Operand.tmp 1) 7, type := 0, pos := "record.go:124", after := #[{ on := 31, ground := Ground.guard }], guard := some (31, true) }) rfl (by kernel_rfl) (by kernel_rfl) (by kernel_rfl) (fun _ _ _ h => h) (Or.inr ⟨by rfl, rfl⟩) hHeld ?_
      (try simp only [Act.put, List.setIfInBounds_toArray, List.set_cons_zero, List.set_cons_succ])
      refine wpAnyH_take (i := 39) (oi := { dst := some 110, op := Op.load 22 (Operand.tmp 109), type := 22, pos := "record.go:124", after := #[{ on := 38, ground := Ground.data }, { on := 31, ground := Ground.guard }], guard := some (31, true) }) rfl (by kernel_rfl) (by kernel_rfl) (by kernel_rfl) (fun _ _ _ h => h) (Or.inr ⟨by rfl, rfl⟩) hHeld ?_
      (try simp only [Act.put, List.setIfInBounds_toArray, List.set_cons_zero, List.set_cons_succ])
      refine wpAnyH_take (i := 40) (oi := { dst := some 111, op := Op.move (Operand.tmp 3), type := 3, pos := "record.go:124", after := #[{ on := 31, ground := Ground.guard }], guard := some (31, true) }) rfl (by kernel_rfl) (by kernel_rfl) (by kernel_rfl) (fun _ _ _ h => h) (Or.inr ⟨by rfl, rfl⟩) hHeld ?_
      (try simp only [Act.put, List.setIfInBounds_toArray, List.set_cons_zero, List.set_cons_succ])
      refine wpAnyH_take (i := 41) (oi := { dst := some 112, op := Op.binOp BinOp.sub 3 (Operand.tmp 111) (Operand.const (Value.int IntKind.i64 1)) 3, type := 3, pos := "record.go:124", after := #[{ on := 40, ground := Ground.data }, { on := 31, ground := Ground.guard }], guard := some (31, true) }) rfl (by kernel_rfl) (by kernel_rfl) (by kernel_rfl) (fun _ _ _ h => h) (Or.inr ⟨by rfl, rfl⟩) hHeld ?_
      (try simp only [Act.put, List.setIfInBounds_toArray, List.set_cons_zero, List.set_cons_succ])
      refine wpAnyH_take (i := 42) (oi := { dst := some 113, op := Op.indexAddr 22 (Operand.tmp 110) (Operand.tmp 112), type := 0, pos := "record.go:124", after := #[{ on := 39, ground := Ground.data }, { on := 41, ground := Ground.data }, { on := 31, ground := Ground.guard }], guard := some (31, true) }) rfl (by kernel_rfl) (by kernel_rfl) (by kernel_rfl) (fun _ _ _ h => h) (Or.inr ⟨by rfl, rfl⟩) hHeld ?_
      (try simp only [Act.put, List.setIfInBounds_toArray, List.set_cons_zero, List.set_cons_succ])
      refine wpAnyH_take (i := 43) (oi := { dst := some 114, op := Op.load 5 (Operand.tmp 113), type := 5, pos := "record.go:124", after := #[{ on := 42, ground := Ground.data }, { on := 31, ground := Ground.guard }], guard := some (31, true) }) rfl (by kernel_rfl) (by kernel_rfl) (by kernel_rfl) (fun _ _ _ h => h) (Or.inr ⟨by rfl, rfl⟩) hHeld ?_
      (try simp only [Act.put, List.setIfInBounds_toArray, List.set_cons_zero, List.set_cons_succ])
      refine wpAnyH_take (i := 44) (oi := { dst := some 115, op := Op.binOp BinOp.neq 5 (Operand.tmp 108) (Operand.tmp 114) 5, type := 4, pos := "record.go:124", after := #[{ on := 37, ground := Ground.data }, { on := 43, ground := Ground.data }, { on := 31, ground := Ground.guard }], guard := some (31, true) }) rfl (by kernel_rfl) (by kernel_rfl) (by kernel_rfl) (fun _ _ _ h => h) (Or.inr ⟨by rfl, rfl⟩) hHeld ?_
      (try simp only [Act.put, List.setIfInBounds_toArray, List.set_cons_zero, List.set_cons_succ])
      refine wpAnyH_take (i := 45) (oi := { dst := some 116, op := Op.pick (Operand.tmp 102) (Operand.tmp 115) (Operand.const (Value.bool false)), type := 4, pos := "record.go:124", after := #[{ on := 31, ground := Ground.data }, { on := 44, ground := Ground.data }], guard := none }) (v := ?vp642) rfl (by kernel_rfl) (by kernel_rfl) (by kernel_rfl) (fun _ _ _ h => h) (Or.inl ⟨by rfl, ?hp642⟩) hHeld ?rp642
      case hp642 => ((intro w hSw); (try dsimp only at hSw); go_simp; (try with_reducible rfl))
      (try simp only [Act.put, List.setIfInBounds_toArray, List.set_cons_zero, List.set_cons_succ])
      refine wpAnyH_take (i := 46) (oi := { dst := some 2, op := Op.assign (Operand.tmp 116), type := 4, pos := "record.go:124", after := #[{ on := 45, ground := Ground.data }, { on := 31, ground := Ground.chain }, { on := 0, ground := Ground.phase }, { on := 1, ground := Ground.phase }, { on := 2, ground := Ground.phase }, { on := 3, ground := Ground.phase }, { on := 4, ground := Ground.phase }, { on := 5, ground := Ground.phase }, { on := 6, ground := Ground.phase }, { on := 7, ground := Ground.phase }, { on := 8, ground := Ground.phase }, { on := 9, ground := Ground.phase }, { on := 10, ground := Ground.phase }, { on := 11, ground := Ground.phase }, { on := 12, ground := Ground.phase }, { on := 13, ground := Ground.phase }, { on := 14, ground := Ground.phase }, { on := 15, ground := Ground.phase }, { on := 16, ground := Ground.phase }, { on := 17, ground := Ground.phase }, { on := 18, ground := Ground.phase }, { on := 19, ground := Ground.phase }, { on := 20, ground := Ground.phase }, { on := 21, ground := Ground.phase }, { on := 22, ground := Ground.phase }, { on := 23, ground := Ground.phase }, { on := 24, ground := Ground.phase }, { on := 25, ground := Ground.phase }, { on := 26, ground := Ground.phase }, { on := 27, ground := Ground.phase }, { on := 28, ground := Ground.phase }, { on := 29, ground := Ground.phase }, { on := 30, ground := Ground.phase }, { on := 31, ground := Ground.phase }, { on := 32, ground := Ground.phase }, { on := 33, ground := Ground.phase }, { on := 34, ground := Ground.phase }, { on := 35, ground := Ground.phase }, { on := 36, ground := Ground.phase }, { on := 37, ground := Ground.phase }, { on := 38, ground := Ground.phase }, { on := 39, ground := Ground.phase }, { on := 40, ground := Ground.phase }, { on := 41, ground := Ground.phase }, { on := 42, ground := Ground.phase }, { on := 43, ground := Ground.phase }, { on := 44, ground := Ground.phase }, { on := 45, ground := Ground.phase }], guard := none }) (v := ?vp643) rfl (by kernel_rfl) (by kernel_rfl) (by kernel_rfl) (fun _ _ _ h => h) (Or.inl ⟨by rfl, ?hp643⟩) hHeld ?rp643
      case hp643 => ((intro w hSw); (try dsimp only at hSw); go_simp; (try with_reducible rfl))
      (try simp only [Act.put, List.setIfInBounds_toArray, List.set_cons_zero, List.set_cons_succ])
      refine wpAnyH_done (by kernel_rfl) ?_ _
      go_wp2_with fail
      go_ret
      exact ⟨retB (by rw [HR.out]; rw [decide_eq_false HNE.out]; rfl), HE2.out⟩
  by_cases k3 : kd = 3
  · subst k3
    have HR := Lib.hid (H3.out rfl)
    simp only [Bool.true_and] at HR
    clear H2 H3 H4 H0 HRW HRC k1 k7 k1b k7b HBY HEN HW0
    have HB1 := Lib.hid (fun (W : World) (kd bi pr : Int) => HBA.out W kd bi pr false true false true false (by simp))
    clear HBA
    generalize bareN id pg fr na nb nx nr nd false true false true false = BB at HR HB1
    cases BB <;> cases PG <;> cases WI
    all_goals
      go_enter Try.func27, Try.ntmps27
      go_wp2_with (first | (go_at_call 48; ((with_reducible refine (HLB.out _).mono ?_); rintro e w2 ⟨rfl, rfl⟩)) | (go_at_call 48; ((with_reducible refine (HLP.out _).mono ?_); rintro e w2 ⟨rfl, rfl⟩)) | (go_at_call 45; ((with_reducible refine (HB1.out _ _ _ _).mono ?_); rintro e w2 ⟨rfl, hb2⟩; have R2 := HRO.out.below hb2; have d4 := R2.cell (j := 4) rfl; have d5 := R2.cell (j := 5) rfl; have d8 := R2.cell (j := 8) rfl; have hb2' := below_then HBX.out hb2)) | (go_at_call 49; ((with_reducible refine (HPG.out _).mono ?_); rintro e wn ⟨rfl, rfl⟩)) | (go_at_call 50; ((with_reducible refine (HWI.out _).mono ?_); rintro e wn ⟨rfl, rfl⟩)) | (go_at_call 51; ((with_reducible refine (HNX.out _).mono ?_); rintro e wn ⟨rfl, rfl⟩)))
      go_ret
      exact ⟨retB (by rw [HR.out]; simp), hb2'⟩
  by_cases k4 : kd = 4 ∨ kd = 5 ∨ kd = 6
  · have HR := Lib.hid (H4.out k4)
    simp only [Bool.true_and] at HR
    clear H2 H3 H4 H0 HRW HRC HBY HEN HW0 HPG HWI HNX
    have HB1 := Lib.hid (fun (W : World) (kd bi pr : Int) => HBA.out W kd bi pr false false false false false (by simp))
    clear HBA
    generalize bareN id pg fr na nb nx nr nd false false false false false = BB at HR HB1
    rcases k4 with rfl | rfl | rfl
    all_goals
      clear k1 k7 k1b k7b k2 k3
      go_enter Try.func27, Try.ntmps27
      go_wp2_with (first | (go_at_call 48; ((with_reducible refine (HLB.out _).mono ?_); rintro e w2 ⟨rfl, rfl⟩)) | (go_at_call 48; ((with_reducible refine (HLP.out _).mono ?_); rintro e w2 ⟨rfl, rfl⟩)) | (go_at_call 45; ((with_reducible refine (HB1.out _ _ _ _).mono ?_); rintro e w2 ⟨rfl, hb2⟩; have hb2' := below_then HBX.out hb2)))
      go_ret
      exact ⟨retB HR.out.symm, hb2'⟩
  · have HR := Lib.hid (H0.out (by omega))
    have k2b : (kd == 2) = false := by simpa using k2
    have k3b : (kd == 3) = false := by simpa using k3
    have k4b : (kd == 4) = false := by rw [beq_eq_false_iff_ne]; omega
    have k5b : (kd == 5) = false := by rw [beq_eq_false_iff_ne]; omega
    have k6b : (kd == 6) = false := by rw [beq_eq_false_iff_ne]; omega
    clear H2 H3 H4 H0 HRW HRC HBY HEN HW0 HPG HWI HNX HBA HBX HRO k1 k7 k2 k3 k4
    go_enter Try.func27, Try.ntmps27
    go_wp2_with (first | (go_at_call 48; ((with_reducible refine (HLB.out _).mono ?_); rintro e w2 ⟨rfl, rfl⟩)) | (go_at_call 48; ((with_reducible refine (HLP.out _).mono ?_); rintro e w2 ⟨rfl, rfl⟩)))
    go_ret
    exact ⟨retB HR.out.symm, (Below.refl _ _).alloc (Nat.le_refl _) _⟩
end Go.Proofs.Ytiaehoppdihbdaa
