import Derived.Test.YtpmcdooplnmjnaaLaw6b
import Derived.Test.YtpmcdooplnmjnaaGuard
/- written; the document's examples. -/
set_option linter.unusedVariables false
set_option linter.unusedSimpArgs false
namespace Go.Proofs.Ytpmcdooplnmjnaa
open Go.RowKit Go.Tm
set_option maxHeartbeats 400000
set_option maxRecDepth 100000
attribute [local go_sem ↓] Go.wp_at_zero Go.wp_at_succ

theorem IsDisk.below {w w' : World} {χ χ' : Col} {j p : Nat} {s : DSt} (h : IsDisk w χ j p s) (hx : Ext w.heap.size χ χ') (hb : Below w.heap.size w w') : IsDisk w' χ' j p s := by
  obtain ⟨q, h⟩ := h
  exact ⟨q, h.below hx hb⟩
/-- A disk that an act on another one leaves. -/
theorem IsDisk.touch {w w' : World} {χ χ' : Col} {j i p : Nat} {s : DSt} (h : IsDisk w χ j p s) (ht : Touch w w' χ χ' i) (hij : i ≠ j) (hi : 0 < i) : IsDisk w' χ' j p s := by
  obtain ⟨q, h⟩ := h
  exact ⟨q, h.ext ht.ext fun x hx hc => ht.kept.block x hx (fun e => by have e' : (χ x).1 = i := e; rcases hc with hc | hc <;> omega)⟩
theorem IsDisk.ok {w : World} {χ : Col} {j p : Nat} {s : DSt} (h : IsDisk w χ j p s) : DOk s := by
  obtain ⟨q, h⟩ := h
  exact h.ok
/-- What lay there when a statement began, and has colour 0. -/
structure Fr (wB w : World) (χ : Col) : Prop where
  below : Below wB.heap.size wB w
  zero : ∀ k, k < wB.heap.size → (χ k).1 = 0
theorem Fr.touch {wB w w' : World} {χ χ' : Col} {j : Nat} (h : Fr wB w χ) (ht : Touch w w' χ χ' j) (hj : 0 < j) : Fr wB w' χ' :=
  ⟨⟨ht.kept.os.trans h.below.os, ht.kept.tape.trans h.below.tape, ht.kept.output.trans h.below.output, Nat.le_trans h.below.size ht.kept.size, fun k hk => (ht.kept.block k (Nat.lt_of_lt_of_le hk h.below.size) (fun e => by have := h.zero k hk; have e' : (χ k).1 = j := e; omega)).trans (h.below.block k hk)⟩,
    fun k hk => by rw [ht.ext k (Nat.lt_of_lt_of_le hk h.below.size)]; exact h.zero k hk⟩
theorem Fr.new {wB w w' : World} {χ χ' : Col} (h : Fr wB w χ) (hb : Below w.heap.size w w') (hx : Ext w.heap.size χ χ') : Fr wB w' χ' := h.touch (j := 1) (Touch.of_below hx hb) (by omega)
theorem Fr.start (w : World) : Fr w w (fun _ => (0, 7)) := ⟨Below.refl _ _, fun _ _ => rfl⟩

theorem field_shape (w : World) (a b c : Int) : (Instr.field 23 (.agg #[.int .i64 a, .int .i64 b, .int .i64 c]) 0).run Try.prog w = .ok (.int .i64 a) w := by kernel_rfl

set_option maxHeartbeats 1600000 in
theorem written_any {w : World} {χ : Col} {j p : Nat} {s : DSt} (hd : IsDisk w χ j p s) (ha : s.acts < 4611686018427387904) (hlo : s.loose.length < 5000000000000) (pl : Nat) (hpl : pl ≤ 3) {A : Option Addr} {c : Nat} {b : List UInt8} (hb : Rda w A c b) (hbl : b.length ≤ 140737488351232) (hA : ∀ a, A = some a → χ a.block ≠ (j, 1)) {L : Nat} (hL : L = b.length) :
    Calls Try.prog 11 #[.pointer (some ⟨p, 0, none⟩), .int .i64 pl, .slice A L c] w fun e w' => ∃ χ', e = .returned (.int .i64 (writeE s (plN s.P pl : Nat) b)) ∧ ActD w w' χ χ' j p (writeS s (plN s.P pl : Nat) b) := by
  have hp0 := hd.ok.p0
  have hp1 := hd.ok.p1
  have hcase : pl = 0 ∨ pl = 1 ∨ pl = 2 ∨ pl = 3 := by omega
  rcases hcase with rfl | rfl | rfl | rfl
  · have HS := Lib.hid (shape_any hd)
    have hpi : pageI s.P ((s.P : Int) - 1) = ((plN s.P 0 : Nat) : Int) := by unfold pageI plN; rw [if_pos (by omega)]; omega
    have HW : Hid (∀ w1, Below w.heap.size w w1 → Calls Try.prog 47 #[.pointer (some ⟨p, 0, none⟩), .int .i64 ((s.P : Int) - 1), .slice A L c] w1 fun e w' => ∃ χ', e = .returned (.int .i64 (writeE s (plN s.P 0 : Nat) b)) ∧ ActD w w' χ χ' j p (writeS s (plN s.P 0 : Nat) b)) := Lib.hid fun w1 hb1 => by
      have h1 := writePage_any (hd.below (Ext.refl _ _) hb1) ha hlo ((s.P : Int) - 1) (hb.below hb1) hbl hA hL
      rw [hpi] at h1
      exact h1.mono fun e w' ⟨χ', he, hD⟩ => ⟨χ', he, hD.disk, (Touch.of_below (Ext.refl _ _) hb1).trans hD.touch⟩
    have hi : IntKind.i64.wrap ((s.P : Int) - 1) = (s.P : Int) - 1 := IntWalk.i64_in _ (by omega)
    obtain ⟨E, hE⟩ : ∃ E, writeE s (plN s.P 0 : Nat) b = E := ⟨_, rfl⟩
    obtain ⟨S, hS⟩ : ∃ S, writeS s (plN s.P 0 : Nat) b = S := ⟨_, rfl⟩
    rw [hE, hS] at HW ⊢
    have hfs := fun w => field_shape w (s.P : Int) (s.K : Int) (s.M : Int)
    clear hd ha hlo hb hbl hA hL hE hS hpi
    go_enter Try.func11, Try.ntmps11
    go_wp2_with fail
    refine HS.out.mono ?_
    rintro e w1 ⟨rfl, hb1⟩
    go_wp2_with fail
    refine (HW.out w1 hb1).mono ?_
    rintro e w2 ⟨χ', rfl, hD⟩
    have HD := Lib.hid hD
    clear hD hb1
    go_wp2_with fail
    go_ret
    exact ⟨χ', rfl, HD.out⟩
  · have hpi : (s.P : Int) = ((plN s.P 1 : Nat) : Int) := by unfold plN; omega
    have HW := writePair_any hd ha hlo hb hbl hA hL
    rw [hpi] at HW
    have HW := Lib.hid HW
    obtain ⟨E, hE⟩ : ∃ E, writeE s (plN s.P 1 : Nat) b = E := ⟨_, rfl⟩
    obtain ⟨S, hS⟩ : ∃ S, writeS s (plN s.P 1 : Nat) b = S := ⟨_, rfl⟩
    rw [hE, hS] at HW ⊢
    clear hd ha hlo hb hbl hA hL hE hS hpi
    go_enter Try.func11, Try.ntmps11
    go_wp2_with fail
    refine HW.out.mono ?_
    rintro e w2 ⟨χ', rfl, hD⟩
    have HD := Lib.hid hD
    clear hD
    go_wp2_with fail
    go_ret
    exact ⟨χ', rfl, HD.out⟩
  · have hpi : masterI s.P 0 = ((plN s.P 2 : Nat) : Int) := by unfold masterI plN; rw [if_pos (by omega)]; omega
    have HW := writeMaster_any hd ha hlo 0 hb hbl hA hL
    rw [hpi] at HW
    have HW := Lib.hid HW
    obtain ⟨E, hE⟩ : ∃ E, writeE s (plN s.P 2 : Nat) b = E := ⟨_, rfl⟩
    obtain ⟨S, hS⟩ : ∃ S, writeS s (plN s.P 2 : Nat) b = S := ⟨_, rfl⟩
    rw [hE, hS] at HW ⊢
    clear hd ha hlo hb hbl hA hL hE hS hpi
    go_enter Try.func11, Try.ntmps11
    go_wp2_with fail
    refine HW.out.mono ?_
    rintro e w2 ⟨χ', rfl, hD⟩
    have HD := Lib.hid hD
    clear hD
    go_wp2_with fail
    go_ret
    exact ⟨χ', rfl, HD.out⟩
  · have hpi : masterI s.P 1 = ((plN s.P 3 : Nat) : Int) := by unfold masterI plN; rw [if_pos (by omega)]; omega
    have HW := writeMaster_any hd ha hlo 1 hb hbl hA hL
    rw [hpi] at HW
    have HW := Lib.hid HW
    obtain ⟨E, hE⟩ : ∃ E, writeE s (plN s.P 3 : Nat) b = E := ⟨_, rfl⟩
    obtain ⟨S, hS⟩ : ∃ S, writeS s (plN s.P 3 : Nat) b = S := ⟨_, rfl⟩
    rw [hE, hS] at HW ⊢
    clear hd ha hlo hb hbl hA hL hE hS hpi
    go_enter Try.func11, Try.ntmps11
    go_wp2_with fail
    refine HW.out.mono ?_
    rintro e w2 ⟨χ', rfl, hD⟩
    have HD := Lib.hid hD
    clear hD
    go_wp2_with fail
    go_ret
    exact ⟨χ', rfl, HD.out⟩

/-! The document's examples. -/
def hx0 : DSt := blankS 2 1 1024
def hx1 : DSt := actS hx0
def hx2 : DSt := writeS hx1 0 (repB 40 1)
def hx3 : DSt := appendS hx2 [4, 5]
def hx4 : DSt := crashS hx3 1 [3]
def hx5 : DSt := actS hx4
theorem hx_1 : readE hx0 (pageI 2 2) = 61 ∧ readV hx0 (pageI 2 2) = [] := by decide +kernel
theorem hx_2 : writeE hx1 0 (repB 40 1) = 0 := by decide +kernel
theorem hx_3 : appendE hx2 [4, 5] = 0 := by decide +kernel
theorem hx_4 : hx3.acts = 3 ∧ hx3.log.length = 2 := by decide +kernel
theorem hx_5 : readE hx4 (pageI 2 0) = 0 ∧ readV hx4 (pageI 2 0) = repB 2 1 ++ repB 38 0 := by decide +kernel
theorem hx_6 : readLogE hx5 0 9 = 0 ∧ readLogV hx5 0 9 = [4] := by decide +kernel
theorem hx_s : shapeB 2 1 1024 = true := by decide +kernel

theorem own8_ge {w : World} {base : Nat} {e : TypeId} {v : Value} {l : List UInt8} (h : Own8 w base e v l) {q : Nat} (hq : v.ownBlock = some q) : base ≤ q := (World.ownsRow.lt h q hq).1
/-- A row of a colour is read behind an act on a disk of another. -/
theorem rda_touch {w w' : World} {χ χ' : Col} {j base : Nat} {x : Nat × Nat} {A : Option Addr} {c n : Nat} {l : List UInt8} (h : Own8 w base 5 (.slice A n c) l) (hx : ∀ k, base ≤ k → χ k = x) (ht : Touch w w' χ χ' j) (hj : x.1 ≠ j) : Rda w' A c l := by
  obtain ⟨hn, hr⟩ := own_at h
  refine ht.kept.rda hr fun a ha e => hj ?_
  subst ha
  rcases h.2 with ⟨e1, _⟩ | ⟨g, cap, cur, e1, hbg, _⟩
  · injection e1 with e1; cases e1
  · injection e1 with e1
    injection e1 with e1
    subst e1
    rw [hx g hbg] at e
    exact e

set_option maxHeartbeats 4000000 in
theorem head_any {w : World} : Calls Try.prog 8 #[] w fun e w' => e = .returned (.bool true) ∧ Below w.heap.size w w' := by
  have F0 := Fr.start w
  have PN := diskNew_any (w := w) 2 1 1024 (fun _ => (0, 7)) 1 (by omega)
  have HPN : Hid (Calls Try.prog 9 #[.agg #[.int .i64 2, .int .i64 1, .int .i64 1024]] w fun e w' => ∃ p χ', e = .returned (.tuple #[.pointer (some ⟨p, 0, none⟩), .int .i64 0]) ∧ NewD w w' (fun _ => (0, 7)) χ' 1 p hx0) := Lib.hid (PN.mono fun e w' h => by
    rcases h with ⟨h, _⟩ | ⟨_, h⟩
    · rw [hx_s] at h; cases h
    · exact h)
  have HF0 := Lib.hid F0
  clear PN F0
  go_enter Try.func8, Try.ntmps8
  go_wp2_with fail
  refine HPN.out.mono ?_
  rintro e w1 ⟨p, χ1, rfl, N1⟩
  have HF1 := Lib.hid (HF0.out.new N1.below N1.ext)
  have PR := readPage_any N1.disk (by decide +kernel) 2 (0, 8)
  rw [show hx0.P = 2 from rfl, hx_1.1, hx_1.2] at PR
  have HPR := Lib.hid PR
  clear N1 PR
  go_wp2_with fail
  refine HPR.out.mono ?_
  rintro e w2 ⟨A2, c2, rfl, D2⟩
  have HF2 := Lib.hid (HF1.out.touch D2.touch (by omega))
  have HD2 := Lib.hid D2.disk
  clear D2
  go_wp2_with fail
  refine (row_any 40 (by omega) 1 rfl rfl).mono ?_
  rintro e w3 ⟨g3, rfl, N3⟩
  have HF3 := Lib.hid (HF2.out.new N3.below (paint_ext w2.heap.size _ (0, 8)))
  have PW := writePage_any (HD2.out.below (paint_ext w2.heap.size _ (0, 8)) N3.below) (by decide +kernel) (by decide +kernel) 0 N3.rda (by rw [repB_length]; omega) (fun a ha => by
    injection ha with ha
    have := (World.ownsRow.lt N3.own g3 rfl).1
    rw [← ha, paint_new this]
    decide) (repB_length 40 1).symm
  rw [show pageI (actS hx0).P 0 = 0 from rfl, show writeE (actS hx0) 0 (repB 40 1) = 0 from hx_2] at PW
  have HPW := Lib.hid PW
  clear PW N3
  go_wp2_with fail
  refine HPW.out.mono ?_
  rintro e w4 ⟨χ4, rfl, D4⟩
  have HF4 := Lib.hid (HF3.out.touch D4.touch (by omega))
  have HD4 := Lib.hid D4.disk
  clear D4
  have hb5 := (Below.refl w4.heap.size w4).alloc (Nat.le_refl _) (.cells #[.int .u8 4, .int .u8 5] 5)
  have rd5 : Rda (w4.alloc (.cells #[.int .u8 4, .int .u8 5] 5)) (some ⟨w4.heap.size, 0, none⟩) 2 [4, 5] := Rda_lit w4 5 [4, 5] 2 rfl (by decide) rfl
  have HF5 := Lib.hid (HF4.out.new hb5 (paint_ext w4.heap.size _ (0, 8)))
  have PA := append_any (HD4.out.below (paint_ext w4.heap.size _ (0, 8)) hb5) (by decide +kernel) rd5 (by decide) (fun a ha => by
    injection ha with ha
    rw [← ha, paint_new (Nat.le_refl _)]
    decide) (L := 2) rfl
  rw [show appendE (writeS (actS hx0) 0 (repB 40 1)) [4, 5] = 0 from hx_3] at PA
  have HPA := Lib.hid PA
  clear PA hb5 rd5
  go_wp2_with fail
  refine HPA.out.mono ?_
  rintro e w6 ⟨χ6, rfl, D6⟩
  have HF6 := Lib.hid (HF5.out.touch D6.touch (by omega))
  have HD6 : Hid (IsDisk w6 χ6 1 p hx3) := Lib.hid D6.disk
  clear D6
  have Q1 := acts_any HD6.out
  have Q2 := logLen_any HD6.out
  rw [hx_4.1] at Q1
  rw [hx_4.2] at Q2
  have HQ1 := Lib.hid Q1
  have HQ2 := Lib.hid Q2
  clear Q1 Q2
  go_wp2_with fail
  refine HQ1.out.mono ?_
  rintro e w7 ⟨rfl, rfl⟩
  go_wp2_with fail
  refine HQ2.out.mono ?_
  rintro e w7 ⟨rfl, rfl⟩
  have hb7 := (Below.refl w6.heap.size w6).alloc (Nat.le_refl _) (.cells #[.int .i64 3] 3)
  have rd7 : RdI (w6.alloc (.cells #[.int .i64 3] 3)) (some ⟨w6.heap.size, 0, none⟩) 1 [3] := ⟨by decide, by unfold maxLen; omega, fun _ => ⟨w6.heap.size, 0, rfl, fun j hj => by
    have : j = 0 := by simpa using hj
    subst this
    have hr : RowC (w6.alloc (.cells #[.int .i64 3] 3)) w6.heap.size 3 [.int .i64 3] := heap_alloc_new _ _
    exact hr.cell rfl⟩⟩
  have HF7 := Lib.hid (HF6.out.new hb7 (paint_ext w6.heap.size _ (0, 8)))
  have HPC := Lib.hid (crash_any (HD6.out.below (paint_ext w6.heap.size _ (0, 8)) hb7) (by decide +kernel) rd7 (by decide) (by decide) 1 (by omega) (by omega) 2 (by omega) (KL := 1) rfl)
  clear hb7 rd7
  go_wp2_with fail
  refine HPC.out.mono ?_
  rintro e w8 ⟨p8, χ8, rfl, N8⟩
  have HF8 := Lib.hid (HF7.out.new N8.below N8.ext)
  have PR8 := readPage_any (s := hx4) N8.disk (by decide +kernel) 0 (3, 8)
  rw [show hx4.P = 2 from rfl, hx_5.1, hx_5.2] at PR8
  rw [show (repB 2 1 ++ repB 38 0).length = 40 by decide +kernel] at PR8
  have HPR8 := Lib.hid PR8
  clear N8 PR8
  go_wp2_with fail
  refine HPR8.out.mono ?_
  rintro e w9 ⟨A9, c9, rfl, D9⟩
  have HF9 := Lib.hid (HF8.out.touch D9.touch (by omega))
  have HR9 := Lib.hid D9.rda
  have PL9 := readLog_any (s := hx5) D9.disk (by decide +kernel) 0 9 (3, 8)
  rw [hx_6.1, hx_6.2] at PL9
  have HPL9 := Lib.hid PL9
  have HD9 := Lib.hid D9
  clear D9 PL9
  go_wp2_with fail
  refine HPL9.out.mono ?_
  rintro e w10 ⟨A10, c10, rfl, D10⟩
  have HF10 := Lib.hid (HF9.out.touch D10.touch (by omega))
  have HR9' := Lib.hid (rda_touch HD9.out.own (fun k hk => paint_new hk) D10.touch (by decide))
  have HR10 := Lib.hid D10.rda
  clear D10
  go_wp2_with fail
  refine (row_any 2 (by omega) 1 rfl rfl).mono ?_
  rintro e w11 ⟨g11, rfl, N11⟩
  go_wp2_with fail
  refine (row_any 38 (by omega) 0 rfl rfl).mono ?_
  rintro e w12 ⟨g12, rfl, N12⟩
  have hb12 := below_then N11.below N12.below
  have ho11 := N11.own.below N12.below
  have hr12 := N12.rda
  have HB12 := Lib.hid hb12
  have hsz : w10.heap.size ≤ w12.heap.size := hb12.size
  clear N11 N12 hb12
  rw [show (repB 2 1).length = 2 from rfl] at ho11
  go_wp2_with (at_builtin; go_loud (skip; refine wpList_appG (by rfl) _ _ rfl tU8 rfl ho11 rfl (repB_length 38 0).symm hr12 (by rw [repB_length, repB_length]; omega) hsz ?_))
  intro v13 w13 hO hg
  obtain ⟨A13, c13, rfl, hr13⟩ := own_rda hO
  have hb13 : Below w10.heap.size w10 w13 := HB12.out.grown hg HB12.out.size (fun q hq => (own8_ge ho11 hq))
  have HR13 := Lib.hid hr13
  have h9 := HR9'.out.below hb13
  have h10 := HR10.out.below hb13
  have HF13 := Lib.hid (HF10.out.new hb13 (paint_ext w10.heap.size _ (0, 8)))
  rw [show (repB 2 1 ++ repB 38 0).length = 40 by decide +kernel]
  have PS := same_yes h9 hr13 (n := 40) (m := 40) (by decide +kernel) (by decide +kernel) rfl
  have HPS := Lib.hid PS
  have H10 := Lib.hid h10
  clear hO hg hb13 hr13 h9 h10 PS ho11 hr12
  go_wp2_with fail
  refine HPS.out.mono ?_
  rintro e w14 ⟨rfl, rfl⟩
  have hb14 := (Below.refl w13.heap.size w13).alloc (Nat.le_refl _) (.cells #[.int .u8 4] 5)
  have rd14 : Rda (w13.alloc (.cells #[.int .u8 4] 5)) (some ⟨w13.heap.size, 0, none⟩) 1 [4] := Rda_lit w13 5 [4] 1 rfl (by decide) rfl
  have PS2 := same_yes (H10.out.below hb14) rd14 (n := 1) (m := 1) rfl rfl rfl
  have HPS2 := Lib.hid PS2
  have HF14 := Lib.hid (HF13.out.new hb14 (paint_ext w13.heap.size _ (0, 8)))
  clear PS2 hb14 rd14
  go_wp2_with fail
  refine HPS2.out.mono ?_
  rintro e w15 ⟨rfl, rfl⟩
  go_wp2_with fail
  go_ret
  exact ⟨rfl, HF14.out.below⟩
end Go.Proofs.Ytpmcdooplnmjnaa
