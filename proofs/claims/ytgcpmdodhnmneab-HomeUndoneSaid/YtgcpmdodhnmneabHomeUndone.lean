import Derived.Test.YtgcpmdodhnmneabLaw5
import Derived.Test.YtgcpmdodhnmneabRow
import Derived.Test.YtgcpmdodhnmneabHomePure2
import Derived.Test.YtgcpmdodhnmneabActs5
import Derived.Deep.RegionHeld3
import Derived.Deep.DrawnRows
/- HomeUndone: the walk. -/
set_option linter.unusedVariables false
set_option linter.unusedSimpArgs false
namespace Go.Proofs.Ytgcpmdodhnmneab
open Go.RowKit Go.Tm Go.ChangeShapes Go.WideShapes Go.ChangeAt
set_option maxHeartbeats 400000
set_option maxRecDepth 100000
attribute [local go_sem ↓] Go.wp_at_zero Go.wp_at_succ

set_option maxHeartbeats 1600000 in
theorem homeUndone_any {w : World} {SA : Option Addr} {sn sc : Nat} {l : List (Bool × Int × Int)} (hS : ActsR w SA sc l) (hsn : sn = l.length) (slots key0 val : Int) (hv0 : 0 ≤ val) (hv1 : val < 18446744073709551616) :
    Calls Try.prog 6 #[.int .i64 slots, .slice SA sn sc, .int .i64 key0, .int .u64 val] w fun e w' => e = .returned (.bool true) ∧ Below w.heap.size w w' := by
  subst hsn
  have HI1 := Lib.hid (fun W => into5_any slots 8 (by decide) (by decide) W)
  have HI2 := Lib.hid (fun W => into5_any key0 4294967296 (by decide) (by decide) W)
  obtain ⟨n0, hn0⟩ : ∃ n0, slots % 8 = n0 := ⟨_, rfl⟩
  obtain ⟨key, hkey⟩ : ∃ key, key0 % 4294967296 = key := ⟨_, rfl⟩
  have l0 : 0 ≤ n0 := by omega
  have l1 : n0 < 8 := by omega
  have k0 : 0 ≤ key := by omega
  have k1 : key ≤ 4294967295 := by omega
  rw [hn0] at HI1
  rw [hkey] at HI2
  clear hn0 hkey
  obtain ⟨m, hm⟩ : ∃ m : Nat, (m : Int) = 1 + n0 := ⟨(1 + n0).toNat, by omega⟩
  have m1 : 1 ≤ m := by omega
  have m8 : m ≤ 8 := by omega
  have hwz := well_zero m1 m8
  have hZl := zeroL_length (24 + 16 * m)
  obtain ⟨Z, hZ⟩ : ∃ Z, zeroL (24 + 16 * m) = Z := ⟨_, rfl⟩
  rw [hZ] at hwz hZl
  obtain ⟨N, hNm⟩ : ∃ N : Nat, 24 + 16 * m = N := ⟨_, rfl⟩
  rw [hNm] at hZ hZl
  have hlenN : ∀ b, WellP m b → b.length = N := fun b hb => by rw [hb.page.len, hNm]
  have hN152 : N ≤ 152 := by omega
  have hNN : (N : Int) = 24 + 16 * (1 + n0) := by omega
  have HV : Lt64 val := ⟨hv0, hv1⟩
  have HZL := Lib.hid hZl
  have HZ := Lib.hid hZ
  have HL := Lib.hid hlenN
  have hmax := hS.max
  have hcap := hS.cap
  unfold maxLen at hmax
  clear hNm hZ hm m1 m8 hv1 hZl hlenN
  go_enter Try.func6, Try.ntmps6
  go_wp2_with fail
  refine (HI1.out _).mono ?_
  rintro e wx ⟨rfl, rfl⟩
  go_wp2_with (with_reducible refine wpList_make8 rfl _ _ rfl tU8 N rfl rfl (by omega) (by omega) (by omega) ?_)
  intro w1 hW hb1
  rw [HZ.out] at hW
  have r1 := hW.rda (by rw [HZL.out]; omega)
  rw [HZL.out] at r1
  clear hW hNN
  go_wp2_with fail
  go_loopw [10, 11] (fun x i wr => ∃ (k : Nat) (A : Option Addr) (c : Nat) (bb : List UInt8), k ≤ l.length ∧ x = .slice A N c ∧ i = .int .i64 k ∧ Rda wr A c bb ∧ WellP m bb ∧ Below w.heap.size w wr) (fun _ i _ => l.length - (intOf i).toNat)
  case atStart => exact ⟨0, _, _, Z, by omega, rfl, rfl, r1, hwz, hb1⟩
  case round =>
    obtain ⟨k, A, c, bb, hk, rfl, rfl, hr, hwp, hb⟩ := hrel
    obtain ⟨wo, rfl⟩ : ∃ wo : World, wo = wr := ⟨_, rfl⟩
    by_cases hkt : k < l.length
    · obtain ⟨g, o, rfl, hc⟩ := (hS.below hb).cells (by omega)
      obtain ⟨z1, z2, z3⟩ := hc k l[k] (List.getElem?_eq_getElem hkt)
      obtain ⟨y1, y2, y3, y4⟩ := hS.vals l[k] (List.getElem_mem hkt)
      obtain ⟨⟨D, K, V⟩, hx⟩ : ∃ x, l[k] = x := ⟨_, rfl⟩
      rw [hx] at z1 z2 z3 y1 y2 y3 y4
      clear hc hx
      go_wp2_with fail
      have HI3 := into5_any K 4294967296 (by decide) (by decide)
      obtain ⟨kk, hkk⟩ : ∃ kk, K % 4294967296 = kk := ⟨_, rfl⟩
      have kk0 : 0 ≤ kk := by omega
      have kk1 : kk ≤ 4294967295 := by omega
      rw [hkk] at HI3
      have PP := fun (W : World) (hr : Rda W A c bb) => put_any hr (n := N) (HL.out _ hwp).symm (by rw [HL.out _ hwp]; omega) kk V y1 y2
      have HP := Lib.hid PP
      have hbw := (Below.refl wo.heap.size wo).drew
      clear hkk PP
      go_region_held3 (fun w' => w'.cell? ⟨g, o + k * 3 + 1, none⟩ = some (.int .i64 K) ∧ w'.cell? ⟨g, o + k * 3 + 2, none⟩ = some (.int .u64 V)) (first | go_keep | exact ⟨z2, z3⟩ | exact ⟨hs1, hs2⟩)
        (first
          | (go_at_call 21; refine (HI3 _).mono ?_; rintro e w2 ⟨rfl, rfl⟩)
          | (go_at_call 16; refine (HP.out _ (hr.below hbw)).mono ?_; rintro e w3 ⟨A3, c3, rfl, hN⟩; have hb3 := below_then hbw hN.below; have hs1 := (hb3.cell (p := ⟨g, o + k * 3 + 1, none⟩) (World.block_lt_of_cell? _ _ z2)).trans z2; have hs2 := (hb3.cell (p := ⟨g, o + k * 3 + 2, none⟩) (World.block_lt_of_cell? _ _ z3)).trans z3))
      have b3 := below_then hb hb3
      have q1 := (hb3.cell (p := ⟨g, o + k * 3, none⟩) (World.block_lt_of_cell? _ _ z1)).trans z1
      have r3 := hN.rda
      have rb3 := hr.below hb3
      rcases put_err hwp.page kk0 kk1 with hE | hE
      · have hwq := hwp.put kk0 kk1 y1 y2 hE
        rw [hE, HL.out _ hwq]
        obtain ⟨bq, hbq⟩ : ∃ bq, putV bb kk V = bq := ⟨_, rfl⟩
        rw [hbq] at hwq r3
        clear hN HP hE hbq z1 z2 z3 hb3 hbw
        cases D with
        | true =>
          go_wp2_with fail
          refine (into5_any (wrap64 (K + 1)) 4294967296 (by decide) (by decide) _).mono ?_
          rintro e wx ⟨rfl, rfl⟩
          obtain ⟨kq, hkq⟩ : ∃ kq, wrap64 (K + 1) % 4294967296 = kq := ⟨_, rfl⟩
          rw [hkq]
          clear hkq
          have PD := delete_any r3 (n := N) (HL.out _ hwq).symm (by rw [HL.out _ hwq]; omega) kq
          cases hG : delB bq kq with
          | true =>
            have hwd := hwq.del hG
            rw [hG, HL.out _ hwd] at PD
            have HPD := Lib.hid PD
            clear PD hG
            go_wp2_with fail
            refine HPD.out.mono ?_
            rintro e w5 ⟨A5, c5, rfl, hN5⟩
            have b5 := below_then b3 hN5.below
            have r5 := hN5.rda
            clear hN5
            go_wp2_with fail
            go_roundw
            case rel => exact ⟨k + 1, A5, c5, _, by omega, rfl, by go_num, r5, hwd, b5⟩
            case measure => simp [intOf]; omega
          | false =>
            rw [hG] at PD
            obtain ⟨DV, hDV⟩ : ∃ DV, delV bq kq = DV := ⟨_, rfl⟩
            rw [hDV] at PD
            have HPD := Lib.hid PD
            clear PD hG hDV
            go_wp2_with fail
            refine HPD.out.mono ?_
            rintro e w5 ⟨A5, c5, rfl, hN5⟩
            have b5 := below_then b3 hN5.below
            have r5 := r3.below hN5.below
            clear hN5
            go_wp2_with fail
            go_roundw
            case rel => exact ⟨k + 1, A3, c3, _, by omega, rfl, by go_num, r5, hwq, b5⟩
            case measure => simp [intOf]; omega
        | false =>
          go_wp2_with fail
          go_roundw
          case rel => exact ⟨k + 1, A3, c3, _, by omega, rfl, by go_num, r3, hwq, b3⟩
          case measure => simp [intOf]; omega
      · rw [hE]
        obtain ⟨bq, hbq⟩ : ∃ bq, putV bb kk V = bq := ⟨_, rfl⟩
        rw [hbq]
        clear hN HP hE hbq z1 z2 z3 hb3 hbw r3
        cases D with
        | true =>
          go_wp2_with fail
          refine (into5_any (wrap64 (K + 1)) 4294967296 (by decide) (by decide) _).mono ?_
          rintro e wx ⟨rfl, rfl⟩
          obtain ⟨kq, hkq⟩ : ∃ kq, wrap64 (K + 1) % 4294967296 = kq := ⟨_, rfl⟩
          rw [hkq]
          clear hkq
          have PD := delete_any rb3 (n := N) (HL.out _ hwp).symm (by rw [HL.out _ hwp]; omega) kq
          cases hG : delB bb kq with
          | true =>
            have hwd := hwp.del hG
            rw [hG, HL.out _ hwd] at PD
            have HPD := Lib.hid PD
            clear PD hG
            go_wp2_with fail
            refine HPD.out.mono ?_
            rintro e w5 ⟨A5, c5, rfl, hN5⟩
            have b5 := below_then b3 hN5.below
            have r5 := hN5.rda
            clear hN5
            go_wp2_with fail
            go_roundw
            case rel => exact ⟨k + 1, A5, c5, _, by omega, rfl, by go_num, r5, hwd, b5⟩
            case measure => simp [intOf]; omega
          | false =>
            rw [hG] at PD
            obtain ⟨DV, hDV⟩ : ∃ DV, delV bb kq = DV := ⟨_, rfl⟩
            rw [hDV] at PD
            have HPD := Lib.hid PD
            clear PD hG hDV
            go_wp2_with fail
            refine HPD.out.mono ?_
            rintro e w5 ⟨A5, c5, rfl, hN5⟩
            have b5 := below_then b3 hN5.below
            have r5 := rb3.below hN5.below
            clear hN5
            go_wp2_with fail
            go_roundw
            case rel => exact ⟨k + 1, A, c, _, by omega, rfl, by go_num, r5, hwp, b5⟩
            case measure => simp [intOf]; omega
        | false =>
          go_wp2_with fail
          go_roundw
          case rel => exact ⟨k + 1, A, c, _, by omega, rfl, by go_num, rb3, hwp, b3⟩
          case measure => simp [intOf]; omega
    · have he : k = l.length := by omega
      subst he
      have PV := value_any hr (n := N) (HL.out _ hwp).symm (by rw [HL.out _ hwp]; omega) key
      have PP := fun (W : World) (hr : Rda W A c bb) => put_any hr (n := N) (HL.out _ hwp).symm (by rw [HL.out _ hwp]; omega) key val HV.lo HV.hi
      cases hF : findB bb key with
      | false =>
        rw [hF] at PV
        obtain ⟨old, hold⟩ : ∃ old, valueI bb key = old := ⟨_, rfl⟩
        rw [hold] at PV
        rcases put_err hwp.page k0 k1 with hE | hE
        · obtain ⟨u1, u2⟩ := undo_new hwp (val := val) k0 k1 hE hF
          have hwq := hwp.put k0 k1 HV.lo HV.hi hE
          have hql := HL.out _ hwq
          rw [hE, hql] at PP
          obtain ⟨bq, hbq⟩ : ∃ bq, putV bb key val = bq := ⟨_, rfl⟩
          rw [hbq] at PP u1 u2 hwq hql
          have PD := fun (W : World) (A : Option Addr) (c : Nat) (hr : Rda W A c bq) => delete_any hr (n := N) hql.symm (by rw [hql]; omega) key
          rw [u1, u2, HL.out _ hwp] at PD
          have HBL := Lib.hid (HL.out _ hwp)
          have H1 := Lib.hid PV
          have H2 := Lib.hid PP
          have H3 := Lib.hid PD
          clear PV PP PD u1 u2 hbq hE hold hF hql
          go_wp2_with fail
          refine (HI2.out _).mono ?_
          rintro e wx ⟨rfl, rfl⟩
          go_wp2_with fail
          refine H1.out.mono ?_
          rintro e w4 ⟨rfl, hN⟩
          have b4 := below_then hb hN
          have r4 := hr.below hN
          clear hN
          go_wp2_with fail
          refine (H2.out _ r4).mono ?_
          rintro e w5 ⟨A5, c5, rfl, hN⟩
          have b5 := below_then b4 hN.below
          have r5 := r4.below hN.below
          have s5 := hN.rda
          clear hN b4 r4
          go_wp2_with fail
          refine known5_any.mono ?_
          rintro e w6 ⟨rfl, hN⟩
          have b6 := below_then b5 hN
          have r6 := r5.below hN
          have s6 := s5.below hN
          clear hN b5 r5 s5
          go_wp2_with fail
          refine (H3.out _ _ _ s6).mono ?_
          rintro e w7 ⟨A7, c7, rfl, hN⟩
          have b7 := below_then b6 hN.below
          have r7 := r6.below hN.below
          have t7 := hN.rda
          clear hN b6 r6 s6
          go_wp2_with fail
          refine (same5_yes t7 r7 HBL.out.symm HBL.out.symm rfl).mono ?_
          rintro e wx ⟨rfl, rfl⟩
          go_wp2_with fail
          go_ret
          exact ⟨rfl, b7⟩
        · rw [hE] at PP
          obtain ⟨bq, hbq⟩ : ∃ bq, putV bb key val = bq := ⟨_, rfl⟩
          rw [hbq] at PP
          have H1 := Lib.hid PV
          have H2 := Lib.hid PP
          clear PV PP hbq hE hold hF
          go_wp2_with fail
          refine (HI2.out _).mono ?_
          rintro e wx ⟨rfl, rfl⟩
          go_wp2_with fail
          refine H1.out.mono ?_
          rintro e w4 ⟨rfl, hN⟩
          have b4 := below_then hb hN
          have r4 := hr.below hN
          clear hN
          go_wp2_with fail
          refine (H2.out _ r4).mono ?_
          rintro e w5 ⟨A5, c5, rfl, hN⟩
          have b5 := below_then b4 hN.below
          clear hN b4 r4
          go_wp2_with fail
          refine known5_any.mono ?_
          rintro e w6 ⟨rfl, hN⟩
          have b6 := below_then b5 hN
          clear hN b5
          go_wp2_with fail
          refine known5_any.mono ?_
          rintro e w7 ⟨rfl, hN⟩
          have b7 := below_then b6 hN
          clear hN b6
          go_wp2_with fail
          go_ret
          exact ⟨rfl, b7⟩
      | true =>
        obtain ⟨hE, u1, u2, o1, o2⟩ := undo_old hwp (val := val) k0 k1 hF
        have hwq := hwp.put k0 k1 HV.lo HV.hi hE
        have hql := HL.out _ hwq
        rw [hF] at PV
        rw [hE, hql] at PP
        obtain ⟨bq, hbq⟩ : ∃ bq, putV bb key val = bq := ⟨_, rfl⟩
        rw [hbq] at PP u1 u2 hwq hql
        obtain ⟨old, hold⟩ : ∃ old, valueI bb key = old := ⟨_, rfl⟩
        rw [hold] at PV u2 o1 o2
        have PD := fun (W : World) (A : Option Addr) (c : Nat) (hr : Rda W A c bq) => put_any hr (n := N) hql.symm (by rw [hql]; omega) key old o1 o2
        rw [u1, u2, HL.out _ hwp] at PD
        have HBL := Lib.hid (HL.out _ hwp)
        have H1 := Lib.hid PV
        have H2 := Lib.hid PP
        have H3 := Lib.hid PD
        clear PV PP PD u1 u2 hbq hE hold hF hql o2
        go_wp2_with fail
        refine (HI2.out _).mono ?_
        rintro e wx ⟨rfl, rfl⟩
        go_wp2_with fail
        refine H1.out.mono ?_
        rintro e w4 ⟨rfl, hN⟩
        have b4 := below_then hb hN
        have r4 := hr.below hN
        clear hN
        go_wp2_with fail
        refine (H2.out _ r4).mono ?_
        rintro e w5 ⟨A5, c5, rfl, hN⟩
        have b5 := below_then b4 hN.below
        have r5 := r4.below hN.below
        have s5 := hN.rda
        clear hN b4 r4
        go_wp2_with fail
        refine known5_any.mono ?_
        rintro e w6 ⟨rfl, hN⟩
        have b6 := below_then b5 hN
        have r6 := r5.below hN
        have s6 := s5.below hN
        clear hN b5 r5 s5
        go_wp2_with fail
        refine (H3.out _ _ _ s6).mono ?_
        rintro e w7 ⟨A7, c7, rfl, hN⟩
        have b7 := below_then b6 hN.below
        have r7 := r6.below hN.below
        have t7 := hN.rda
        clear hN b6 r6 s6
        go_wp2_with fail
        refine (same5_yes t7 r7 HBL.out.symm HBL.out.symm rfl).mono ?_
        rintro e wx ⟨rfl, rfl⟩
        go_wp2_with fail
        go_ret
        exact ⟨rfl, b7⟩

theorem homeUndone_contract (H : Type) (enc : TypeId × Value → H) (W : World) (base : Nat) (args : Array Value) (ds gs : List (DataW H)) (before : List MemPlace)
    (hval0 : ∀ (j : Nat) t v, Try.f6.params[j]? = some t → args[j]? = some v → Value.okWide Try.prog W .any base t v)
    (hW : DataW.Whole enc Try.prog Try.f6.params.toList Rows.homeUndoneSpec.vars false W args.toList ds gs before) (hsz : (DataW.weightsEach Try.checked.prog (Try.f6.params.toList ++ Rows.homeUndoneSpec.plain.varTypes Try.checked.prog) (ds ++ gs)).all (· ≤ reachBytes) = true) :
    Calls Try.prog 6 args W fun e W' => ∃ v, e = .returned v ∧ Rows.homeUndoneSpec.post enc Try.prog Try.f6 false true false false W args v W' := by
  have hval : ∀ (j : Nat) t v, Try.f6.params[j]? = some t → args[j]? = some v → Value.okWide Try.prog W .any base t v := hval0
  have hW' := hW
  obtain ⟨p, q, hA0, hV, rfl, hfz, hnd⟩ := hW
  have hA : DataW.TrodAll enc Try.prog W 0 (fun _ => true) true Try.f6.params.toList args.toList ds p := hA0
  rw [Try.params6] at hA hval
  obtain ⟨v0, vs0, d0, ds0, p0, q0, hargs, rfl, rfl, h0, rr0⟩ := trodAll_cons hA
  obtain ⟨v1, vs1, d1, ds1, p1, q1, rfl, rfl, rfl, h1, rr1⟩ := trodAll_cons rr0
  obtain ⟨v2, vs2, d2, ds2, p2, q2, rfl, rfl, rfl, h2, rr2⟩ := trodAll_cons rr1
  obtain ⟨v3, vs3, d3, ds3, p3, q3, rfl, rfl, rfl, h3, rr3⟩ := trodAll_cons rr2
  obtain ⟨rfl, rfl, rfl⟩ := trodAll_nil rr3
  obtain rfl : args = #[v0, v1, v2, v3] := by cases args; simp_all
  obtain ⟨rfl, rfl⟩ := trodVars_none hV
  obtain ⟨x0, rfl, rfl, rfl, w0⟩ := open_int Try.underlying3 (hval 0 3 v0 rfl rfl) h0
  have b0 := bounds_i64 w0
  obtain ⟨a1, len1, cap1, rfl⟩ := okWide_slice Try.underlying43 (hval 1 43 v1 rfl rfl)
  have k1 := h1
  have lt1 : ∀ x ∈ p1, x.block < W.heap.size := by obtain ⟨m, hm⟩ := k1; exact DataW.trod_lt m _ _ _ hm
  obtain ⟨l1, n1, r1⟩ : ∃ l : List (Bool × Int × Int), len1 = l.length ∧ ActsR W a1 cap1 l := by
    obtain ⟨fuel, hf⟩ := h1
    obtain ⟨A, l, c, hv, hr⟩ := open_acts Try.underlying43 Try.underlying47 (by kernel_rfl) rfl rfl rfl (by kernel_rfl) (by kernel_rfl) (by kernel_rfl) Try.underlying4 Try.underlying3 Try.underlying30 (by simpa [Value.cells] using hf)
    obtain ⟨rfl, rfl, rfl⟩ : a1 = A ∧ len1 = l.length ∧ cap1 = c := by simpa using hv
    exact ⟨l, rfl, hr⟩
  obtain ⟨x2, rfl, rfl, rfl, w2⟩ := open_int Try.underlying3 (hval 2 3 v2 rfl rfl) h2
  have b2 := bounds_i64 w2
  obtain ⟨x3, rfl, rfl, rfl, w3⟩ := open_int Try.underlying30 (hval 3 30 v3 rfl rfl) h3
  have b3 := bounds_u64 w3
  clear hA0 hval0
  refine (homeUndone_any r1 n1 x0 x2 x3 b3.1 (by omega)).mono fun e W' ⟨he, bel⟩ => ?_
  subst he
  exact ⟨_, rfl, _, _, _, [], _, [], hW', trodAll_mk1 (shut_bool Try.underlying4 _), (trodAll_cons_mk (shut_int Try.underlying3 w0) (trodAll_cons_mk (Below.trod laid_out (by kernel_rfl) (of_decide_eq_true (by kernel_rfl)) k1 bel lt1) (trodAll_cons_mk (shut_int Try.underlying3 w2) (trodAll_cons_mk (shut_int Try.underlying30 w3) trodAll_mk0)))), rfl, bel.frame _, fun h => by cases h⟩

theorem homeUndone_lifted (os : Os) (started : os.Started) (H : Type) (enc : TypeId × Value → H) :
    ReturnsInHanded {} Try.checked os 6 .any (Rows.homeUndoneSpec.pre6 enc Try.prog Try.f6 Rows.homeUndoneRow.domain false) (Rows.homeUndoneSpec.post enc Try.prog Try.f6 false true false false) := by
  refine returnsInHanded_of_change_sized (C := Try.checked) own_knob started (by kernel_rfl) Try.func6
    (ChangeSpec.witness6 (enc := enc) (C := Try.checked) false ⟨#[], #[.int .i64 0, .slice none 0 0, .int .i64 0, .int .u64 0], []⟩ 8 (by kernel_rfl) (by kernel_rfl) (by kernel_rfl) (by kernel_rfl)) ?_
  intro W base args ds gs before hval hW _ hsz _
  exact homeUndone_contract H enc W base args ds gs before hval hW hsz

theorem homeUndone_holds : Rows.HomeUndoneSaid :=
  OpenClaim.holds_of_wide 6 Try.f6 rfl rfl rfl rfl rfl rfl rfl ⟨rfl, rfl, rfl, rfl, rfl⟩ rfl rfl rfl rfl rfl (by kernel_rfl) Try.func6 (by kernel_rfl)
    (of_decide_eq_true (by kernel_rfl)) (by unfold Func.isWrapper; first | (rw [if_pos (by decide +kernel)]; kernel_rfl) | (rw [if_neg (by decide +kernel)]; exact ⟨rfl, rfl⟩))
    (fun os started H enc _ => homeUndone_lifted os started H enc)
#print axioms homeUndone_holds
end Go.Proofs.Ytgcpmdodhnmneab
