import Derived.Test.YtaldpngilgaciabDoorCrc
import Derived.Test.YtaldpngilgaciabDoorOctJn
import Derived.Test.YtaldpngilgaciabDoorOctGet
import Derived.Test.YtaldpngilgaciabDoorRef1
import Derived.Test.YtaldpngilgaciabDoorFramePure
/- The contracts of package frame. -/
set_option linter.unusedVariables false
set_option linter.unusedSimpArgs false
namespace Go.Proofs.YtaldpngilgaciabDoor
open Go.RowKit Go.Tm
set_option maxHeartbeats 400000
set_option maxRecDepth 100000

theorem size_any (n : Int) (h : n ≤ 9223372036854775807) (w : World) : Calls Tryd.prog 12 #[.int .i64 n] w fun e w' => e = .returned (.int .i64 (sizeF n)) ∧ w = w' := by
  by_cases h1 : n < 1
  · have e : sizeF n = 0 := if_pos (.inl h1)
    rw [e]
    clear e
    go_enter Tryd.func12, Tryd.ntmps12
    go_wp2
    go_ret
    exact ⟨rfl, rfl⟩
  · by_cases h2 : 1024 < n
    · have e : sizeF n = 0 := if_pos (.inr h2)
      rw [e]
      clear e
      go_enter Tryd.func12, Tryd.ntmps12
      go_wp2
      go_ret
      exact ⟨rfl, rfl⟩
    · have e : sizeF n = 12 + n + 4 := by unfold sizeF; rw [if_neg (by omega)]; omega
      rw [e]
      clear e
      have h3 : 1 ≤ n := by omega
      have h4 : n ≤ 1024 := by omega
      clear h1 h2
      go_enter Tryd.func12, Tryd.ntmps12
      go_wp2
      go_ret
      exact ⟨rfl, rfl⟩

theorem isLsn_any (n : Int) (w : World) : Calls Tryd.prog 20 #[.int .i64 n] w fun e w' => e = .returned (.bool (okLsn n)) ∧ w = w' := by
  by_cases h1 : 1 ≤ n
  · by_cases h2 : n ≤ 1152921504606846976
    · have e : okLsn n = true := (okLsn_iff n).2 ⟨h1, h2⟩
      rw [e]
      clear e
      go_enter Tryd.func20, Tryd.ntmps20
      go_wp2
      go_ret
      exact ⟨rfl, rfl⟩
    · have e : okLsn n = false := by simp [okLsn, h2]
      rw [e]
      clear e
      go_enter Tryd.func20, Tryd.ntmps20
      go_wp2
      go_ret
      exact ⟨rfl, rfl⟩
  · have e : okLsn n = false := by simp [okLsn, h1]
    rw [e]
    clear e
    go_enter Tryd.func20, Tryd.ntmps20
    go_wp2
    go_ret
    exact ⟨rfl, rfl⟩

theorem wrap_any {w : World} (hT : Tb w) {A : Option Addr} {n c : Nat} {l : List UInt8} (h : Rda w A c l) (hn : n = l.length) (hl : l.length ≤ 140737488355328) (lsn : Int) :
    Calls Tryd.prog 9 #[.int .i64 lsn, .slice A n c] w fun e w' => ∃ A' c', e = .returned (.tuple #[.slice A' (wrapV lsn l).length c', .int .i64 (wrapE lsn l)]) ∧ New 5 w w' A' c' (wrapV lsn l) := by
  subst hn
  cases hb : okBody l.length with
  | false =>
    have e1 : wrapE lsn l = 81 := if_pos hb
    have e2 : wrapV lsn l = [] := if_neg (by rw [e1]; decide)
    have e3 := sizeF_no l.length hb
    have HS := size_any (l.length : Int) (by omega)
    rw [e3] at HS
    have HS' := Lib.hid HS
    rw [e1, e2]
    clear e1 e2 e3 HS
    go_enter Tryd.func9, Tryd.ntmps9
    go_wp2_with fail
    refine (HS'.out _).mono ?_
    rintro e w1 ⟨rfl, rfl⟩
    go_wp2_with fail
    go_ret2
    exact ⟨none, 0, rfl, ⟨Own8.nilRow _ _ _, Below.refl _ _⟩⟩
  | true =>
    have hbb := (okBody_iff _).1 hb
    have e3 := sizeF_ok l.length hb
    have HS := size_any (l.length : Int) (by omega)
    rw [e3] at HS
    have HS' := Lib.hid HS
    clear e3 HS
    cases hL : okLsn lsn with
    | false =>
      have e1 : wrapE lsn l = 30 := by unfold wrapE; rw [if_neg (by rw [hb]; decide), if_pos hL]
      have e2 : wrapV lsn l = [] := if_neg (by rw [e1]; decide)
      have HI := isLsn_any lsn
      rw [hL] at HI
      have HI' := Lib.hid HI
      rw [e1, e2]
      clear e1 e2 HI hb hL
      go_enter Tryd.func9, Tryd.ntmps9
      go_wp2_with fail
      refine (HS'.out _).mono ?_
      rintro e w1 ⟨rfl, rfl⟩
      go_wp2_with fail
      refine (HI'.out _).mono ?_
      rintro e w1 ⟨rfl, rfl⟩
      go_wp2_with fail
      go_ret2
      exact ⟨none, 0, rfl, ⟨Own8.nilRow _ _ _, Below.refl _ _⟩⟩
    | true =>
      have hll := (okLsn_iff lsn).1 hL
      have e1 : wrapE lsn l = 0 := by unfold wrapE; rw [if_neg (by rw [hb]; decide), if_neg (by rw [hL]; decide)]
      have e2 : wrapV lsn l = frameL lsn.toNat l := if_pos e1
      have HI := isLsn_any lsn
      rw [hL] at HI
      have HI' := Lib.hid HI
      rw [e1, e2]
      clear e1 e2 HI hb hL
      obtain ⟨hl1, hl2⟩ := hll
      obtain ⟨hb1, hb2⟩ := hbb
      go_enter Tryd.func9, Tryd.ntmps9
      go_wp2_with fail
      refine (HS'.out _).mono ?_
      rintro e w1 ⟨rfl, rfl⟩
      go_wp2_with fail
      refine (HI'.out _).mono ?_
      rintro e w1 ⟨rfl, rfl⟩
      go_wp2_with fail
      have P1 := put4_any (l := []) (Rda.nilRow w) (n := 0) rfl (by simp) (l.length : Int) (by omega) (by omega)
      rw [Int.toNat_natCast, List.nil_append] at P1
      refine P1.mono ?_
      clear P1
      rintro e w1 ⟨A1, c1, rfl, hN1⟩
      have h1 := h.below hN1.below
      have T1 := hT.below hN1.below
      go_wp2_with fail
      refine (put8_any hN1.rda (by simp) (by simp) lsn (by omega) (by omega)).mono ?_
      rintro e w2 ⟨A2, c2, rfl, hN2⟩
      have h2 := h1.below hN2.below
      have T2 := T1.below hN2.below
      have B2 := below_then hN1.below hN2.below
      have r2 := hN2.rda
      clear h1 hN1 hN2
      go_wp2_with fail
      have hcat : cat [leB 4 l.length ++ leB 8 lsn.toNat, l] = frontL lsn.toNat l := by simp [cat, frontL]
      have P3 := join_any ((((RowVals.nil w2).cons h2 rfl).cons r2 (n := 12) (by simp)).rows 22 2 rfl (by simp) rfl) (n := 2) rfl (by rw [hcat, frontL_length]; omega)
      rw [hcat] at P3
      refine P3.mono ?_
      clear P3 hcat
      rintro e w3 ⟨A3, c3, rfl, hN3⟩
      have B3' : Below w2.heap.size w2 w3 := below_then ((Below.refl _ _).alloc (Nat.le_refl _) _) hN3.below
      have T3 := T2.below B3'
      have B3 := below_then B2 B3'
      have r3 := hN3.rda
      clear hN3 r2 h2 T2 B2 B3' T1
      go_wp2_with fail
      have hcat : cat [frontL lsn.toNat l] = frontL lsn.toNat l := by simp [cat]
      have P4 := crcSum_any (T3.below ((Below.refl _ _).alloc (Nat.le_refl _) _)) (((RowVals.nil w3).cons r3 rfl).rows 22 1 rfl (by simp) rfl) (n := 1) rfl
      rw [hcat] at P4
      refine P4.mono ?_
      clear P4 hcat
      rintro e w4 ⟨rfl, rfl⟩
      have hcb := crcM_lt 0 (frontL lsn.toNat l) (by omega)
      go_wp2_with fail
      have P5 := put4_any (r3.alloc (.cells #[Value.slice A3 (frontL lsn.toNat l).length c3] 22)) rfl (by rw [frontL_length]; omega) ((crcM 0 (frontL lsn.toNat l) : Nat) : Int) (by omega) (by omega)
      rw [Int.toNat_natCast, ← frameL] at P5
      refine P5.mono ?_
      clear P5
      rintro e w5 ⟨A5, c5, rfl, hN5⟩
      have B5 := below_then (B3.alloc B3.size _) hN5.below
      go_wp2_with fail
      go_ret2
      exact ⟨A5, c5, rfl, ⟨hN5.own.mono (by have := B3.size; simp; omega), B5⟩⟩

theorem open_any {w : World} (hT : Tb w) {A : Option Addr} {n c : Nat} {l : List UInt8} (h : Rda w A c l) (hn : n = l.length) (hl : l.length ≤ 140737488355328) (lsn : Int) :
    Calls Tryd.prog 15 #[.slice A n c, .int .i64 lsn] w fun e w' => ∃ A' c', e = .returned (.tuple #[.slice A' (openV l lsn).length c', .int .i64 (openN l lsn), .int .i64 (openE l lsn)]) ∧ New 5 w w' A' c' (openV l lsn) := by
  subst hn
  have hcap := h.cap
  have hmax := h.max
  unfold maxLen at hmax
  have HG := get4_any (n := l.length) h rfl
  have hVb := getV_lt 4 l
  obtain ⟨V, hV⟩ : ∃ V, getV 4 l = V := ⟨_, rfl⟩
  obtain ⟨E, hE⟩ : ∃ E, getE 4 l = E := ⟨_, rfl⟩
  rw [hV, hE] at HG
  rw [hV] at hVb
  have HG' := Lib.hid HG
  have hVb' : V < 4294967296 := by simpa using hVb
  have HS := size_any (V : Int) (by omega)
  have HI := isLsn_any lsn
  clear HG hE hVb
  cases hL : okLsn lsn with
  | false =>
    obtain ⟨e1, e2, e3⟩ := open_none (openB_no (b := l) (lsn := lsn) (by rw [hL]; simp))
    rw [e1, e2, e3]
    rw [hL] at HI
    have HI' := Lib.hid HI
    have HS' := Lib.hid HS
    obtain ⟨Z, hZ⟩ : ∃ Z, sizeF (V : Int) = Z := ⟨_, rfl⟩
    clear e1 e2 e3 HI HS hL hV
    go_enter Tryd.func15, Tryd.ntmps15
    go_wp2_with fail
    refine HG'.out.mono ?_
    rintro e w1 ⟨rfl, rfl⟩
    go_wp2_with fail
    refine (HS'.out _).mono ?_
    rintro e w1 ⟨rfl, rfl⟩
    go_wp2_with fail
    refine (HI'.out _).mono ?_
    rintro e w1 ⟨rfl, rfl⟩
    go_wp2_with fail
    go_ret3
    exact ⟨none, 0, rfl, ⟨Own8.nilRow _ _ _, Below.refl _ _⟩⟩
  | true =>
    have hll := (okLsn_iff lsn).1 hL
    rw [hL] at HI
    have HI' := Lib.hid HI
    clear HI
    cases hb : okBody V with
    | false =>
      obtain ⟨e1, e2, e3⟩ := open_none (openB_no (b := l) (lsn := lsn) (by rw [hV, hb]; simp))
      rw [e1, e2, e3]
      rw [sizeF_no V hb] at HS
      have HS' := Lib.hid HS
      clear e1 e2 e3 HS hL hV hb
      go_enter Tryd.func15, Tryd.ntmps15
      go_wp2_with fail
      refine HG'.out.mono ?_
      rintro e w1 ⟨rfl, rfl⟩
      go_wp2_with fail
      refine (HS'.out _).mono ?_
      rintro e w1 ⟨rfl, rfl⟩
      go_wp2_with fail
      refine (HI'.out _).mono ?_
      rintro e w1 ⟨rfl, rfl⟩
      go_wp2_with fail
      go_ret3
      exact ⟨none, 0, rfl, ⟨Own8.nilRow _ _ _, Below.refl _ _⟩⟩
    | true =>
      have hbb := (okBody_iff V).1 hb
      rw [sizeF_ok V hb] at HS
      have HS' := Lib.hid HS
      clear HS
      have hne : ((V : Int) + 16 == 0) = false := by rw [beq_eq_false_iff_ne]; omega
      by_cases hlen : V + 16 ≤ l.length
      · obtain ⟨hb1, hb2⟩ := hbb
        obtain ⟨hl1, hl2⟩ := hll
        have hF := h.pieceAt 0 (V + 12) (V + 12) (by omega) (by omega) (by omega) (by omega)
        rw [pieceAt_zero, List.drop_zero, Nat.sub_zero] at hF
        have hFl : (l.take (V + 12)).length = V + 12 := by simp; omega
        have hI4 := hF.drop 4 (by rw [hFl]; omega)
        have hS4 := h.drop (V + 12) (by omega)
        have gi := get8_any (n := V + 12 - 4) hI4 (by simp; omega)
        have gs := get4_any (n := l.length - (V + 12)) hS4 (by simp)
        have e1 : getV 8 ((l.take (V + 12)).drop 4) = leN ((l.drop 4).take 8) := by
          unfold getV
          rw [if_neg (by rw [List.length_drop, hFl]; omega), List.drop_take, List.take_take, Nat.min_eq_left (by omega)]
        have e2 : getE 8 ((l.take (V + 12)).drop 4) = 0 := if_neg (by rw [List.length_drop, hFl]; omega)
        have e3 : getV 4 (l.drop (V + 12)) = leN ((l.drop (V + 12)).take 4) := if_neg (by rw [List.length_drop]; omega)
        have e4 : getE 4 (l.drop (V + 12)) = 0 := if_neg (by rw [List.length_drop]; omega)
        rw [e1, e2] at gi
        rw [e3, e4] at gs
        obtain ⟨IS, hIS⟩ : ∃ IS, leN ((l.drop 4).take 8) = IS := ⟨_, rfl⟩
        obtain ⟨SU, hSU⟩ : ∃ SU, leN ((l.drop (V + 12)).take 4) = SU := ⟨_, rfl⟩
        obtain ⟨CR, hCR⟩ : ∃ CR, crcM 0 (l.take (V + 12)) = CR := ⟨_, rfl⟩
        rw [hIS] at gi
        rw [hSU] at gs
        have GI := Lib.hid gi
        have GS := Lib.hid gs
        have hcat : cat [l.take (V + 12)] = l.take (V + 12) := by simp [cat]
        have hPS : ∀ g, g = w.heap.size → Calls Tryd.prog 24 #[.slice (some ⟨g, 0, none⟩) 1 1] (w.alloc (.cells #[.slice A (V + 12) (V + 12)] 22)) fun e w' => e = .returned (.int .u32 (CR : Nat)) ∧ (w.alloc (.cells #[.slice A (V + 12) (V + 12)] 22)) = w' := by
          intro g hg
          have := crcSum_any (hT.below ((Below.refl _ _).alloc (Nat.le_refl _) _)) (((RowVals.nil w).cons hF hFl.symm).rows 22 1 rfl (by simp) hg) (n := 1) rfl
          rwa [hcat, hCR] at this
        have HPS := Lib.hid hPS
        have f0 := Lib.hid (show V + 16 - 4 = V + 12 by omega)
        have hlenI : (V : Int) + 16 ≤ (l.length : Int) := by omega
        have p1 : (0 : Int) ≤ (V : Int) + 16 - 4 := by omega
        have p2 : (V : Int) + 16 - 4 ≤ (l.length : Int) := by omega
        have p3 : (12 : Int) ≤ (V : Int) + 16 - 4 := by omega
        have p4 : (4 : Int) ≤ (V : Int) + 16 - 4 := by omega
        have p5 : (V : Int) + 16 - 4 ≤ (c : Int) := by omega
        clear e1 e2 e3 e4 gi gs hI4 hcat hPS
        by_cases t1 : (IS : Int) = lsn
        · have b1 : ((IS : Int) != lsn) = false := by simpa using t1
          by_cases t2 : SU = CR
          · obtain ⟨q1, q2, q3⟩ := open_some (openB_yes (b := l) (lsn := lsn) (by rw [hV, hIS, hSU, hCR]; exact ⟨hL, hb, hlen, by omega, t2⟩))
            rw [q1, q2, q3, hV]
            have b2 : ((SU : Int) != (CR : Int)) = false := by rw [t2]; simp
            have hbl : ((l.drop 12).take V).length = V := by simp; omega
            have hBd := hF.pieceAt 12 (V + 12) (V + 12) (by omega) (by rw [hFl]; exact Nat.le_refl _) (by omega) (by omega)
            rw [List.take_of_length_le (by rw [hFl]; omega), show (l.take (V + 12)).drop 12 = (l.drop 12).take V by rw [List.drop_take]; rfl] at hBd
            have HBL := Lib.hid hbl
            clear t1 t2 q1 q2 q3 hL hV hb hIS hSU hCR hFl hS4 hbl
            go_enter Tryd.func15, Tryd.ntmps15
            go_wp2_with fail
            refine HG'.out.mono ?_
            rintro e w1 ⟨rfl, rfl⟩
            go_wp2_with fail
            refine (HS'.out _).mono ?_
            rintro e w1 ⟨rfl, rfl⟩
            go_wp2_with fail
            refine (HI'.out _).mono ?_
            rintro e w1 ⟨rfl, rfl⟩
            go_wp2_with fail
            rw [f0.out]
            refine GI.out.mono ?_
            rintro e w1 ⟨rfl, rfl⟩
            go_wp2_with ((with_reducible refine at_slice ?_); refine wpList_sliceAny (L := V + 12) (H := l.length) (M := c) rfl _ _ _ _ rfl tU8 rfl rfl rfl rfl (.at _ _ _ _ (by omega)) (.no _) (.no _) (.inl rfl) (by omega) (by omega) (by omega) ?_)
            refine GS.out.mono ?_
            rintro e w1 ⟨rfl, rfl⟩
            go_wp2_with fail
            try rw [f0.out]
            refine (HPS.out _ rfl).mono ?_
            rintro e w1 ⟨rfl, rfl⟩
            go_wp2_with fail
            have hpe : Option.map (fun x : Addr => { block := x.block, off := x.off + 12 }) A = pieceAt A 12 (V + 12) := by
              unfold pieceAt
              rw [if_neg (by omega)]
              rfl
            refine (show Calls Tryd.prog 29 #[.slice (Option.map (fun x : Addr => { block := x.block, off := x.off + 12 }) A) V V] _ _ from ?_)
            rw [hpe]
            have hcl := clone_any (n := V) (hBd.alloc (.cells #[.slice A (V + 12) (V + 12)] 22)) HBL.out.symm (by rw [HBL.out]; omega)
            rw [show V + 12 - 12 = V by omega, HBL.out] at hcl
            refine hcl.mono ?_
            rintro e w1 ⟨A1, c1, rfl, hN⟩
            go_wp2_with fail
            go_ret3
            exact ⟨A1, c1, by rw [HBL.out]; rfl, ⟨hN.own.mono (by simp), below_then ((Below.refl _ _).alloc (Nat.le_refl _) _) hN.below⟩⟩
          · obtain ⟨q1, q2, q3⟩ := open_none (openB_no (b := l) (lsn := lsn) (by rw [hV, hSU, hCR]; rintro ⟨_, _, _, _, h5⟩; exact t2 h5))
            rw [q1, q2, q3]
            have b2 : ((SU : Int) != (CR : Int)) = true := by rw [bne_iff_ne]; omega
            clear t1 t2 q1 q2 q3 hL hV hb hIS hSU hCR hF hFl hS4
            go_enter Tryd.func15, Tryd.ntmps15
            go_wp2_with fail
            refine HG'.out.mono ?_
            rintro e w1 ⟨rfl, rfl⟩
            go_wp2_with fail
            refine (HS'.out _).mono ?_
            rintro e w1 ⟨rfl, rfl⟩
            go_wp2_with fail
            refine (HI'.out _).mono ?_
            rintro e w1 ⟨rfl, rfl⟩
            go_wp2_with fail
            rw [f0.out]
            refine GI.out.mono ?_
            rintro e w1 ⟨rfl, rfl⟩
            go_wp2_with ((with_reducible refine at_slice ?_); refine wpList_sliceAny (L := V + 12) (H := l.length) (M := c) rfl _ _ _ _ rfl tU8 rfl rfl rfl rfl (.at _ _ _ _ (by omega)) (.no _) (.no _) (.inl rfl) (by omega) (by omega) (by omega) ?_)
            refine GS.out.mono ?_
            rintro e w1 ⟨rfl, rfl⟩
            go_wp2_with fail
            try rw [f0.out]
            refine (HPS.out _ rfl).mono ?_
            rintro e w1 ⟨rfl, rfl⟩
            go_wp2_with fail
            go_ret3
            exact ⟨none, 0, rfl, ⟨Own8.nilRow _ _ _, (Below.refl _ _).alloc (Nat.le_refl _) _⟩⟩
        · obtain ⟨q1, q2, q3⟩ := open_none (openB_no (b := l) (lsn := lsn) (by rw [hV, hIS]; rintro ⟨_, _, _, h4, _⟩; omega))
          rw [q1, q2, q3]
          have b1 : ((IS : Int) != lsn) = true := by simpa using t1
          clear t1 q1 q2 q3 hL hV hb hIS hSU hCR hF hFl hS4
          go_enter Tryd.func15, Tryd.ntmps15
          go_wp2_with fail
          refine HG'.out.mono ?_
          rintro e w1 ⟨rfl, rfl⟩
          go_wp2_with fail
          refine (HS'.out _).mono ?_
          rintro e w1 ⟨rfl, rfl⟩
          go_wp2_with fail
          refine (HI'.out _).mono ?_
          rintro e w1 ⟨rfl, rfl⟩
          go_wp2_with fail
          rw [f0.out]
          refine GI.out.mono ?_
          rintro e w1 ⟨rfl, rfl⟩
          go_wp2_with ((with_reducible refine at_slice ?_); refine wpList_sliceAny (L := V + 12) (H := l.length) (M := c) rfl _ _ _ _ rfl tU8 rfl rfl rfl rfl (.at _ _ _ _ (by omega)) (.no _) (.no _) (.inl rfl) (by omega) (by omega) (by omega) ?_)
          refine GS.out.mono ?_
          rintro e w1 ⟨rfl, rfl⟩
          go_wp2_with fail
          go_ret3
          exact ⟨none, 0, rfl, ⟨Own8.nilRow _ _ _, Below.refl _ _⟩⟩
      · obtain ⟨e1, e2, e3⟩ := open_none (openB_no (b := l) (lsn := lsn) (by rw [hV]; exact fun hh => hlen hh.2.2.1))
        rw [e1, e2, e3]
        have hlen' : (l.length : Int) < (V : Int) + 16 := by omega
        clear e1 e2 e3 hL hV hb
        go_enter Tryd.func15, Tryd.ntmps15
        go_wp2_with fail
        refine HG'.out.mono ?_
        rintro e w1 ⟨rfl, rfl⟩
        go_wp2_with fail
        refine (HS'.out _).mono ?_
        rintro e w1 ⟨rfl, rfl⟩
        go_wp2_with fail
        refine (HI'.out _).mono ?_
        rintro e w1 ⟨rfl, rfl⟩
        go_wp2_with fail
        go_ret3
        exact ⟨none, 0, rfl, ⟨Own8.nilRow _ _ _, Below.refl _ _⟩⟩
end Go.Proofs.YtaldpngilgaciabDoor
