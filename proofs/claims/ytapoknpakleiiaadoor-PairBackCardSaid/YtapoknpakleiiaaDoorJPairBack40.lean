import Derived.Test.YtapoknpakleiiaaDoorPair1
import Derived.Test.YtapoknpakleiiaaDoorJPairBack39
import Derived.Deep.RegionHeld3
import Derived.Deep.DrawnRows
/- The contracts of package pair: Write. -/
set_option linter.unusedVariables false
set_option linter.unusedSimpArgs false
namespace Go.Proofs.YtapoknpakleiiaaDoor
open Go.RowKit Go.Tm
set_option maxHeartbeats 400000
set_option maxRecDepth 100000
attribute [local go_sem ↓] Go.wp_at_zero Go.wp_at_succ

theorem isDisk_below {w w' : World} {χ χ' : Col} {j p : Nat} {s : DSt} (h : IsDisk w χ j p s) (hx : Ext w.heap.size χ χ') (hb : Below w.heap.size w w') : IsDisk w' χ' j p s := by
  obtain ⟨q, h⟩ := h
  exact ⟨q, h.below hx hb⟩
theorem isDisk_ok {w : World} {χ : Col} {j p : Nat} {s : DSt} (h : IsDisk w χ j p s) : DOk s := by
  obtain ⟨q, h⟩ := h
  exact h.ok
theorem isDisk_pos {w : World} {χ : Col} {j p : Nat} {s : DSt} (h : IsDisk w χ j p s) : 0 < j ∧ p < w.heap.size ∧ χ p = (j, 1) := by
  obtain ⟨q, h⟩ := h
  exact ⟨h.pos, h.row.lt, h.col⟩
theorem rowc_touch {w w' : World} {χ χ' : Col} {i b : Nat} {T : TypeId} {cs : List Value} (h : RowC w b T cs) (ht : Touch w w' χ χ' i) (hb : (χ b).1 ≠ i) : RowC w' b T cs := (ht.kept.block b h.lt hb).trans h
theorem tb_touch {w w' : World} {χ χ' : Col} {i : Nat} (hT : Tb w) (ht : Touch w w' χ χ' i) (hc : (χ 0).1 ≠ i) : Tb w' := by
  have hg : 0 < w.heap.size := World.block_lt_of_cell? w _ (hT.at_ 0 (by omega))
  exact ⟨fun k hk => (World.cell?_of_block (ht.kept.block _ hg hc)).trans (hT.at_ k hk)⟩
theorem rda_touch {w w' : World} {χ χ' : Col} {i : Nat} {A : Option Addr} {c : Nat} {l : List UInt8} (h : Rda w A c l) (ht : Touch w w' χ χ' i) (hA : ∀ a, A = some a → (χ a.block).1 ≠ i) : Rda w' A c l := ht.kept.rda h hA
theorem rda_lt {w : World} {A : Option Addr} {c : Nat} {l : List UInt8} (h : Rda w A c l) (hl : 0 < l.length) : ∀ a, A = some a → a.block < w.heap.size := by
  obtain ⟨g, o, e, hc⟩ := h.cells hl
  intro a ha
  rw [e] at ha
  injection ha with ha
  subst ha
  exact World.block_lt_of_cell? _ _ (hc 0 hl)
theorem chain_cases (s : DSt) (n : Int) (p b : List UInt8) {s1 s2 s3 s4 : DSt} {e1 e2 e3 e4 : Int} (h1 : writeS s s.P p = s1) (h2 : syncS s1 false = s2) (h3 : writeS s2 n b = s3) (h4 : syncS s3 false = s4) (f1 : writeE s s.P p = e1) (f2 : syncE s1 = e2) (f3 : writeE s2 n b = e3) (f4 : syncE s3 = e4) :
    wrChain s n p b = if e1 ≠ 0 then (e1, s1) else if e2 ≠ 0 then (e2, s2) else if e3 ≠ 0 then (e3, s3) else (e4, s4) := by
  unfold wrChain
  rw [h1, f1, h2, f2, h3, f3, h4, f4]

def stC (s s1 s2 s3 s4 : DSt) (k : Nat) : DSt := match k with
  | 0 => s
  | 1 => s1
  | 2 => s2
  | 3 => s3
  | _ => s4
/-- What lies under the four acts of Write. -/
structure WrBox (w : World) (χ : Col) (j p : Nat) (bd bn bb bp G : Nat) (number : Int) (A Ap : Option Addr) (c cp : Nat) (b pv : List UInt8) : Prop where
  rd : RowC w bd 46 [.pointer (some ⟨p, 0, none⟩)]
  rn : RowC w bn 3 [.int .i64 number]
  rb : RowC w bb 22 [.slice A b.length c]
  rp : RowC w bp 24 [.slice Ap pv.length cp]
  rl : RowC w G 105 [.func (.func 57) #[] #[.pointer (some ⟨bd, 0, none⟩), .pointer (some ⟨bp, 0, none⟩)], .func (.func 59) #[.pointer (some ⟨p, 0, none⟩)] #[], .func (.func 60) #[] #[.pointer (some ⟨bd, 0, none⟩), .pointer (some ⟨bn, 0, none⟩), .pointer (some ⟨bb, 0, none⟩)], .func (.func 59) #[.pointer (some ⟨p, 0, none⟩)] #[]]
  rdb : Rda w A c b
  rdp : Rda w Ap cp pv
  cols : (χ bd).1 ≠ j ∧ (χ bn).1 ≠ j ∧ (χ bb).1 ≠ j ∧ (χ bp).1 ≠ j ∧ (χ G).1 ≠ j
  cb : ∀ a, A = some a → (χ a.block).1 ≠ j ∧ a.block < w.heap.size
  cp : ∀ a, Ap = some a → (χ a.block).1 ≠ j ∧ a.block < w.heap.size
theorem WrBox.touch {w w' : World} {χ χ' : Col} {j p bd bn bb bp G : Nat} {number : Int} {A Ap : Option Addr} {c cp : Nat} {b pv : List UInt8} (h : WrBox w χ j p bd bn bb bp G number A Ap c cp b pv) (ht : Touch w w' χ χ' j) : WrBox w' χ' j p bd bn bb bp G number A Ap c cp b pv := by
  obtain ⟨c1, c2, c3, c4, c5⟩ := h.cols
  refine ⟨rowc_touch h.rd ht c1, rowc_touch h.rn ht c2, rowc_touch h.rb ht c3, rowc_touch h.rp ht c4, rowc_touch h.rl ht c5, rda_touch h.rdb ht fun a ha => (h.cb a ha).1, rda_touch h.rdp ht fun a ha => (h.cp a ha).1, ?_, fun a ha => ?_, fun a ha => ?_⟩
  · rw [ht.ext _ h.rd.lt, ht.ext _ h.rn.lt, ht.ext _ h.rb.lt, ht.ext _ h.rp.lt, ht.ext _ h.rl.lt]
    exact h.cols
  · obtain ⟨x1, x2⟩ := h.cb a ha
    rw [ht.ext _ x2]
    exact ⟨x1, Nat.lt_of_lt_of_le x2 ht.kept.size⟩
  · obtain ⟨x1, x2⟩ := h.cp a ha
    rw [ht.ext _ x2]
    exact ⟨x1, Nat.lt_of_lt_of_le x2 ht.kept.size⟩

section
variable {w : World} {χ : Col} {j p bd bn bb bp G : Nat} {number : Int} {A Ap : Option Addr} {c cp : Nat} {b pv : List UInt8}
theorem write1_any (h : WrBox w χ j p bd bn bb bp G number A Ap c cp b pv) {s : DSt} (hd : IsDisk w χ j p s) (ha : s.acts < 4611686018427387904) (hlo : s.loose.length < 5000000000000) (hpl : pv.length ≤ 140737488351232) :
    Calls Tryd.prog 57 #[.pointer (some ⟨bd, 0, none⟩), .pointer (some ⟨bp, 0, none⟩)] w fun e w' => ∃ χ', e = .returned (.int .i64 (writeE s s.P pv)) ∧ ActD w w' χ χ' j p (writeS s s.P pv) := by
  have P := Lib.hid (writePair_any hd ha hlo h.rdp hpl (fun a ha e => (h.cp a ha).1 (by rw [e])) rfl)
  have x0 := h.rd.cell (j := 0) (v := .pointer (some ⟨p, 0, none⟩)) rfl
  have x1 := h.rp.cell (j := 0) (v := .slice Ap pv.length cp) rfl
  obtain ⟨E, hE⟩ : ∃ E, writeE s s.P pv = E := ⟨_, rfl⟩
  obtain ⟨S, hS⟩ : ∃ S, writeS s s.P pv = S := ⟨_, rfl⟩
  rw [hE, hS] at P
  rw [hE, hS]
  clear hE hS h
  go_enter Tryd.func57, Tryd.ntmps57
  go_wp2_with fail
  refine P.out.mono ?_
  rintro e w1 ⟨χ', rfl, hD⟩
  go_wp2_with fail
  go_ret
  exact ⟨χ', rfl, hD⟩
theorem write2_any (h : WrBox w χ j p bd bn bb bp G number A Ap c cp b pv) {s : DSt} (hd : IsDisk w χ j p s) (ha : s.acts < 4611686018427387904) (hlo : s.loose.length < 5000000000000) (hpl : b.length ≤ 140737488351232) (hn : 0 ≤ number ∧ number < (s.P : Int)) :
    Calls Tryd.prog 60 #[.pointer (some ⟨bd, 0, none⟩), .pointer (some ⟨bn, 0, none⟩), .pointer (some ⟨bb, 0, none⟩)] w fun e w' => ∃ χ', e = .returned (.int .i64 (writeE s number b)) ∧ ActD w w' χ χ' j p (writeS s number b) := by
  have P := writePage_any hd ha hlo number h.rdb hpl (fun a ha e => (h.cb a ha).1 (by rw [e])) rfl
  rw [show pageI s.P number = number from if_pos hn] at P
  have P := Lib.hid P
  have x0 := h.rd.cell (j := 0) (v := .pointer (some ⟨p, 0, none⟩)) rfl
  have x1 := h.rn.cell (j := 0) (v := .int .i64 number) rfl
  have x2 := h.rb.cell (j := 0) (v := .slice A b.length c) rfl
  obtain ⟨E, hE⟩ : ∃ E, writeE s number b = E := ⟨_, rfl⟩
  obtain ⟨S, hS⟩ : ∃ S, writeS s number b = S := ⟨_, rfl⟩
  rw [hE, hS] at P
  rw [hE, hS]
  clear hE hS h hn
  go_enter Tryd.func60, Tryd.ntmps60
  go_wp2_with fail
  refine P.out.mono ?_
  rintro e w1 ⟨χ', rfl, hD⟩
  go_wp2_with fail
  go_ret
  exact ⟨χ', rfl, hD⟩
end

set_option maxHeartbeats 4000000 in
theorem pWrite_any {w : World} {χ : Col} {j p : Nat} {s : DSt} (hT : Tb w) (hTc : (χ 0).1 ≠ j) (hd : IsDisk w χ j p s) (ha : s.acts < 4611686018427387000) (hlo : s.loose.length < 4900000000000) (number : Int) {A : Option Addr} {c : Nat} {b : List UInt8} (hb : Rda w A c b) (hbl : b.length ≤ 140737488351232) (hA : ∀ a, A = some a → (χ a.block).1 ≠ j) {L : Nat} (hL : L = b.length) :
    Calls Tryd.prog 27 #[.pointer (some ⟨p, 0, none⟩), .int .i64 number, .slice A L c] w fun e w' => ∃ χ', e = .returned (.int .i64 (pairW s number b).1) ∧ ActD w w' χ χ' j p (pairW s number b).2 := by
  subst hL
  have hb0 : Below w.heap.size w (((w.alloc (.cells #[.pointer (some ⟨p, 0, none⟩)] 46)).alloc (.cells #[.int .i64 number] 3)).alloc (.cells #[.slice A b.length c] 22)) := (((Below.refl _ _).alloc (Nat.le_refl _) _).alloc (by simp) _).alloc (by simp; omega) _
  have rd0 : RowC (((w.alloc (.cells #[.pointer (some ⟨p, 0, none⟩)] 46)).alloc (.cells #[.int .i64 number] 3)).alloc (.cells #[.slice A b.length c] 22)) w.heap.size 46 [.pointer (some ⟨p, 0, none⟩)] :=
    ((show RowC (w.alloc (.cells #[.pointer (some ⟨p, 0, none⟩)] 46)) w.heap.size 46 [.pointer (some ⟨p, 0, none⟩)] from heap_alloc_new _ _).below ((Below.refl _ _).alloc (Nat.le_refl _) _)).below ((Below.refl _ _).alloc (Nat.le_refl _) _)
  have rn0 : RowC (((w.alloc (.cells #[.pointer (some ⟨p, 0, none⟩)] 46)).alloc (.cells #[.int .i64 number] 3)).alloc (.cells #[.slice A b.length c] 22)) (w.heap.size + 1) 3 [.int .i64 number] := by
    have h := (show RowC ((w.alloc (.cells #[.pointer (some ⟨p, 0, none⟩)] 46)).alloc (.cells #[.int .i64 number] 3)) _ 3 [.int .i64 number] from heap_alloc_new _ _).below ((Below.refl _ _).alloc (Nat.le_refl _) (.cells #[.slice A b.length c] 22))
    simpa using h
  have rb0 : RowC (((w.alloc (.cells #[.pointer (some ⟨p, 0, none⟩)] 46)).alloc (.cells #[.int .i64 number] 3)).alloc (.cells #[.slice A b.length c] 22)) (w.heap.size + 1 + 1) 22 [.slice A b.length c] := by
    have h : RowC (((w.alloc (.cells #[.pointer (some ⟨p, 0, none⟩)] 46)).alloc (.cells #[.int .i64 number] 3)).alloc (.cells #[.slice A b.length c] 22)) _ 22 [.slice A b.length c] := heap_alloc_new _ _
    simpa using h
  have PSH := shape_any (isDisk_below hd (Ext.refl _ _) hb0)
  have hok := isDisk_ok hd
  obtain ⟨hj, hpw, hpc⟩ := isDisk_pos hd
  obtain ⟨w0, hw0⟩ : ∃ w0, (((w.alloc (.cells #[.pointer (some ⟨p, 0, none⟩)] 46)).alloc (.cells #[.int .i64 number] 3)).alloc (.cells #[.slice A b.length c] 22)) = w0 := ⟨_, rfl⟩
  rw [hw0] at hb0 rd0 rn0 rb0 PSH
  have y0 := rd0.cell (j := 0) (v := .pointer (some ⟨p, 0, none⟩)) rfl
  obtain ⟨SZ, hSZ⟩ : ∃ SZ, w.heap.size = SZ := ⟨_, rfl⟩
  have HSZ := Lib.hid hSZ
  rw [hSZ] at rd0 rn0 rb0 y0
  have HSH := Lib.hid PSH
  clear PSH
  have HF : Hid (∀ w', Below w.heap.size w w' → ActD w w' χ χ j p s) := Lib.hid fun w' hb => ⟨isDisk_below hd (Ext.refl _ _) hb, Touch.of_below (Ext.refl _ _) hb⟩
  have hpw : pairW s number b = if number < 0 ∨ (s.P : Int) ≤ number then (61, s) else if pmE number b ≠ 0 ∨ (b.length : Int) ≠ bytesP s.K then (40, s) else wrChain s number (pmV number b) b := rfl
  have HM : Hid (∀ W, Below w.heap.size w W → Calls Tryd.prog 9 #[.int .i64 number, .slice A b.length c] W fun e w' => ∃ A' c', e = .returned (.tuple #[.slice A' (pmV number b).length c', .int .i64 (pmE number b)]) ∧ New 5 W w' A' c' (pmV number b)) := Lib.hid fun W hB => pMake_any (hT.below hB) (hb.below hB) rfl hbl number
  by_cases hn0 : number < 0
  · rw [if_pos (.inl hn0)] at hpw
    rw [hpw]
    clear hpw
    go_enter Tryd.func27, Tryd.ntmps27
    go_wp2_with fail
    refine HSH.out.mono ?_
    rintro e w1 ⟨rfl, hb1⟩
    have hba := (Below.refl w1.heap.size w1).alloc (Nat.le_refl _) (.cells #[.int .i64 s.P, .int .i64 s.K, .int .i64 s.M] 50)
    have z1 := ((rn0.below hb1).below hba).cell (j := 0) (v := .int .i64 number) rfl
    have HF1 := Lib.hid (HF.out _ (below_then (below_then hb0 hb1) hba))
    clear hba hb hd hb0
    go_wp2_with fail
    go_ret
    exact ⟨χ, rfl, HF1.out⟩
  · by_cases hn1 : (s.P : Int) ≤ number
    · rw [if_pos (.inr hn1)] at hpw
      rw [hpw]
      clear hpw
      go_enter Tryd.func27, Tryd.ntmps27
      go_wp2_with fail
      refine HSH.out.mono ?_
      rintro e w1 ⟨rfl, hb1⟩
      have hba := (Below.refl w1.heap.size w1).alloc (Nat.le_refl _) (.cells #[.int .i64 s.P, .int .i64 s.K, .int .i64 s.M] 50)
      have z1 := ((rn0.below hb1).below hba).cell (j := 0) (v := .int .i64 number) rfl
      have z2 := (show RowC (w1.alloc (.cells #[.int .i64 s.P, .int .i64 s.K, .int .i64 s.M] 50)) w1.heap.size 50 [.int .i64 s.P, .int .i64 s.K, .int .i64 s.M] from heap_alloc_new _ _).cell (j := 0) (v := .int .i64 s.P) rfl
      have HF1 := Lib.hid (HF.out _ (below_then (below_then hb0 hb1) hba))
      clear hba hb hd hb0
      go_wp2_with fail
      go_ret
      exact ⟨χ, rfl, HF1.out⟩
    · rw [if_neg (by omega)] at hpw
      have hn2 : 0 ≤ number := by omega
      have hn3 : number < (s.P : Int) := by omega
      clear hn0 hn1
      obtain ⟨E, hE⟩ : ∃ E, pmE number b = E := ⟨_, rfl⟩
      obtain ⟨pv, hpv⟩ : ∃ pv, pmV number b = pv := ⟨_, rfl⟩
      rw [hE, hpv] at HM hpw
      by_cases he : E = 0
      · obtain ⟨BK, hBK⟩ : ∃ BK, bytesP (s.K : Int) = BK := ⟨_, rfl⟩
        rw [hBK] at hpw
        have HBY : Hid (∀ W, Calls Tryd.prog 56 #[.int .i64 (s.K : Int)] W fun e w' => e = .returned (.int .i64 BK) ∧ W = w') := Lib.hid fun W => by rw [← hBK]; exact bytes_any _ W
        have hb40 : (b.length : Int) = BK → 40 ≤ b.length := fun h => by
          have hk := bytesP_ok (s.K : Int) (by have := hok.k0; omega) (by have := hok.k1; omega)
          have := hok.k0
          omega
        subst he
        by_cases hlen : (b.length : Int) = BK
        · rw [if_neg (by rintro (h | h); exact h rfl; exact h hlen)] at hpw
          have hbl40 := hb40 hlen
          have hcb : ∀ a, A = some a → (χ a.block).1 ≠ j ∧ a.block < w.heap.size := fun a ha' => ⟨hA a ha', rda_lt hb (by omega) a ha'⟩
          have hnb : ((b.length : Int) != BK) = false := by simp [hlen]
          have hpl2 : pv.length ≤ 140737488351232 := by
            rw [← hpv]
            unfold pmV
            rw [if_pos hE, pairL_length]
            have hk := bytesP_ok (s.K : Int) (by have := hok.k0; omega) (by have := hok.k1; omega)
            have := hok.k1
            omega
          obtain ⟨s1, h1⟩ : ∃ x, writeS s s.P pv = x := ⟨_, rfl⟩
          obtain ⟨s2, h2⟩ : ∃ x, syncS s1 false = x := ⟨_, rfl⟩
          obtain ⟨s3, h3⟩ : ∃ x, writeS s2 number b = x := ⟨_, rfl⟩
          obtain ⟨s4, h4⟩ : ∃ x, syncS s3 false = x := ⟨_, rfl⟩
          obtain ⟨e1, f1⟩ : ∃ x, writeE s s.P pv = x := ⟨_, rfl⟩
          obtain ⟨e2, f2⟩ : ∃ x, syncE s1 = x := ⟨_, rfl⟩
          obtain ⟨e3, f3⟩ : ∃ x, writeE s2 number b = x := ⟨_, rfl⟩
          obtain ⟨e4, f4⟩ : ∃ x, syncE s3 = x := ⟨_, rfl⟩
          rw [chain_cases s number pv b h1 h2 h3 h4 f1 f2 f3 f4] at hpw
          have HPW := Lib.hid hpw
          have a1 := writeS_some s s.P pv
          have a2 := syncS_some s1 false
          have a3 := writeS_some s2 number b
          rw [h1] at a1
          rw [h2] at a2
          rw [h3] at a3
          have hsP : number < (s2.P : Int) := by have := a1.2.2.1; have := a2.2.2.1; omega
          have HK1 : Hid (∀ (W : World) (X : Col) (bd bn bb bp G : Nat) (Ap : Option Addr) (cp : Nat), WrBox W X j p bd bn bb bp G number A Ap c cp b pv → IsDisk W X j p s → Calls Tryd.prog 57 #[.pointer (some ⟨bd, 0, none⟩), .pointer (some ⟨bp, 0, none⟩)] W fun e w' => ∃ χ', e = .returned (.int .i64 e1) ∧ ActD W w' X χ' j p s1) := Lib.hid fun W X bd bn bb bp G Ap cp hx hD => by
            have := write1_any hx hD (by omega) (by omega) hpl2
            rwa [h1, f1] at this
          have HK2 : Hid (∀ (W : World) (X : Col), IsDisk W X j p s1 → Calls Tryd.prog 59 #[.pointer (some ⟨p, 0, none⟩)] W fun e w' => ∃ χ', e = .returned (.int .i64 e2) ∧ ActD W w' X χ' j p s2) := Lib.hid fun W X hD => by
            have := sync_any hD (by omega) (by omega)
            rwa [h2, f2] at this
          have HK3 : Hid (∀ (W : World) (X : Col) (bd bn bb bp G : Nat) (Ap : Option Addr) (cp : Nat), WrBox W X j p bd bn bb bp G number A Ap c cp b pv → IsDisk W X j p s2 → Calls Tryd.prog 60 #[.pointer (some ⟨bd, 0, none⟩), .pointer (some ⟨bn, 0, none⟩), .pointer (some ⟨bb, 0, none⟩)] W fun e w' => ∃ χ', e = .returned (.int .i64 e3) ∧ ActD W w' X χ' j p s3) := Lib.hid fun W X bd bn bb bp G Ap cp hx hD => by
            have := write2_any hx hD (by omega) (by omega) hbl ⟨hn2, hsP⟩
            rwa [h3, f3] at this
          have HK4 : Hid (∀ (W : World) (X : Col), IsDisk W X j p s3 → Calls Tryd.prog 59 #[.pointer (some ⟨p, 0, none⟩)] W fun e w' => ∃ χ', e = .returned (.int .i64 e4) ∧ ActD W w' X χ' j p s4) := Lib.hid fun W X hD => by
            have := sync_any hD (by omega) (by omega)
            rwa [h4, f4] at this
          have HD := Lib.hid hd
          have HRD := Lib.hid rd0
          have HRN := Lib.hid rn0
          have HRB := Lib.hid rb0
          have HB0 := Lib.hid hb0
          have HRDA := Lib.hid hb
          have HJ := Lib.hid (And.intro hj hcb)
          clear a1 a2 a3 hpw h1 h2 h3 h4 f1 f2 f3 f4 hsP hpl2 hE hpv hBK hb40 hbl40 hlen ha hlo hT hTc hA hok hpc hj hcb
          go_enter Tryd.func27, Tryd.ntmps27
          go_wp2_with fail
          refine HSH.out.mono ?_
          rintro e w1 ⟨rfl, hb1⟩
          have hba := (Below.refl w1.heap.size w1).alloc (Nat.le_refl _) (.cells #[.int .i64 s.P, .int .i64 s.K, .int .i64 s.M] 50)
          have hRS : RowC (w1.alloc (.cells #[.int .i64 s.P, .int .i64 s.K, .int .i64 s.M] 50)) w1.heap.size 50 [.int .i64 s.P, .int .i64 s.K, .int .i64 s.M] := heap_alloc_new _ _
          have z1 := ((rn0.below hb1).below hba).cell (j := 0) (v := .int .i64 number) rfl
          have z3 := ((rb0.below hb1).below hba).cell (j := 0) (v := .slice A b.length c) rfl
          have z2 := hRS.cell (j := 0) (v := .int .i64 s.P) rfl
          have HM1 := Lib.hid (HM.out _ (below_then (below_then hb0 hb1) hba))
          have HB1 := Lib.hid (below_then (below_then hb0 hb1) hba)
          have HB01 := Lib.hid (below_then hb1 hba)
          have HRS := Lib.hid hRS
          clear hba hRS
          go_wp2_with fail
          refine HM1.out.mono ?_
          rintro e w2 ⟨Ap, cp, rfl, hN⟩
          have hba := (Below.refl w2.heap.size w2).alloc (Nat.le_refl _) (.cells #[.slice Ap pv.length cp] 24)
          have hbd := below_then hba (Below.refl (w2.alloc (.cells #[.slice Ap pv.length cp] 24)).heap.size _).drew
          have x3 := ((rb0.below HB01.out).below (below_then hN.below hba)).cell (j := 0) (v := .slice A b.length c) rfl
          have x4 := ((HRS.out.below hN.below).below hba).cell (j := 1) (v := .int .i64 s.K) rfl
          have HRP : Hid (RowC (w2.alloc (.cells #[.slice Ap pv.length cp] 24)).drew w2.heap.size 24 [.slice Ap pv.length cp]) := Lib.hid (show RowC (w2.alloc (.cells #[.slice Ap pv.length cp] 24)) w2.heap.size 24 [.slice Ap pv.length cp] from heap_alloc_new _ _)
          have HB2 := Lib.hid (below_then (below_then HB1.out hN.below) hbd)
          have HN := Lib.hid hN
          have HBD := Lib.hid hbd
          clear hba hN hbd
          go_wp2_with fail
          go_region_held3 (fun w' => w'.cell? ⟨SZ + 1 + 1, 0, none⟩ = some (.slice A b.length c) ∧ w'.cell? ⟨w1.heap.size, 1, none⟩ = some (.int .i64 s.K)) (first | (with_reducible exact ⟨x3, x4⟩) | go_keep)
            (first | (go_at_call 56; refine (HBY.out _).mono ?_; rintro e w3 ⟨rfl, rfl⟩))
          obtain ⟨w4, hw4⟩ : ∃ w4, (w2.alloc (.cells #[.slice Ap pv.length cp] 24)).drew = w4 := ⟨_, rfl⟩
          have HW4 := Lib.hid hw4
          rw [hw4] at HRP HB2 HBD ⊢
          clear hw4 x3 x4 z1 z2 z3
          have HB04 := Lib.hid (below_then (below_then HB01.out HN.out.below) HBD.out)
          have y4 := (HRD.out.below HB04.out).cell (j := 0) (v := .pointer (some ⟨p, 0, none⟩)) rfl
          obtain ⟨S8, hS8⟩ : ∃ S8, w2.heap.size = S8 := ⟨_, rfl⟩
          rw [hS8] at HRP
          have hS8w : w.heap.size ≤ S8 := by have := (below_then HB1.out HN.out.below).size; omega
          obtain ⟨S9, hS9⟩ : ∃ S9, w4.heap.size = S9 := ⟨_, rfl⟩
          have hS9w : w.heap.size ≤ S9 := by have := HB2.out.size; omega
          have hwBe := Lib.hid (show ∃ wB, w4.alloc (.cells #[.func (.func 57) #[] #[.pointer (some ⟨SZ, 0, none⟩), .pointer (some ⟨S8, 0, none⟩)], .func (.func 59) #[.pointer (some ⟨p, 0, none⟩)] #[], .func (.func 60) #[] #[.pointer (some ⟨SZ, 0, none⟩), .pointer (some ⟨SZ + 1, 0, none⟩), .pointer (some ⟨SZ + 1 + 1, 0, none⟩)], .func (.func 59) #[.pointer (some ⟨p, 0, none⟩)] #[]] 105) = wB from ⟨_, rfl⟩)
          have hbB := (Below.refl w4.heap.size w4).alloc (Nat.le_refl _) (.cells #[.func (.func 57) #[] #[.pointer (some ⟨SZ, 0, none⟩), .pointer (some ⟨S8, 0, none⟩)], .func (.func 59) #[.pointer (some ⟨p, 0, none⟩)] #[], .func (.func 60) #[] #[.pointer (some ⟨SZ, 0, none⟩), .pointer (some ⟨SZ + 1, 0, none⟩), .pointer (some ⟨SZ + 1 + 1, 0, none⟩)], .func (.func 59) #[.pointer (some ⟨p, 0, none⟩)] #[]] 105)
          have hGB := heap_alloc_new w4 (.cells #[.func (.func 57) #[] #[.pointer (some ⟨SZ, 0, none⟩), .pointer (some ⟨S8, 0, none⟩)], .func (.func 59) #[.pointer (some ⟨p, 0, none⟩)] #[], .func (.func 60) #[] #[.pointer (some ⟨SZ, 0, none⟩), .pointer (some ⟨SZ + 1, 0, none⟩), .pointer (some ⟨SZ + 1 + 1, 0, none⟩)], .func (.func 59) #[.pointer (some ⟨p, 0, none⟩)] #[]] 105)
          rw [hS9] at hGB
          have HBB := Lib.hid hbB
          have HGB := Lib.hid hGB
          clear hbB hGB
          go_wp2_with fail
          obtain ⟨wB, hwB⟩ := hwBe.out
          rw [hwB] at HBB HGB
          rw [hwB]
          have hxB : Ext w.heap.size χ (paint w.heap.size χ (0, 9)) := paint_ext _ _ _
          have HBwB := Lib.hid (below_then HB2.out HBB.out)
          have HB0B := Lib.hid (below_then HB04.out HBB.out)
          have hAp : ∀ a, Ap = some a → w.heap.size ≤ a.block := fun a ha => by
            subst ha
            have h1 := World.ownsRow.lt HN.out.own a.block rfl
            have h2 := HB1.out.size
            omega
          have hXB : WrBox wB (paint w.heap.size χ (0, 9)) j p SZ (SZ + 1) (SZ + 1 + 1) S8 S9 number A Ap c cp b pv := by
            have hj0 := HJ.out.1
            have hpn : ∀ k, w.heap.size ≤ k → (paint w.heap.size χ (0, 9) k).1 ≠ j := fun k hk => by rw [paint_new hk]; show (0 : Nat) ≠ j; omega
            have hs2 := HSZ.out
            refine ⟨HRD.out.below HB0B.out, HRN.out.below HB0B.out, HRB.out.below HB0B.out, HRP.out.below HBB.out, HGB.out, HRDA.out.below HBwB.out, (HN.out.rda.below HBD.out).below HBB.out, ⟨hpn _ (by omega), hpn _ (by omega), hpn _ (by omega), hpn _ hS8w, hpn _ hS9w⟩, fun a ha => ?_, fun a ha => ?_⟩
            · obtain ⟨x1, x2⟩ := HJ.out.2 a ha
              rw [hxB _ x2]
              exact ⟨x1, Nat.lt_of_lt_of_le x2 HBwB.out.size⟩
            · exact ⟨hpn _ (hAp a ha), by
                obtain ⟨x1, x2⟩ := World.ownsRow.lt HN.out.own a.block (by subst ha; rfl)
                exact Nat.lt_of_lt_of_le x2 (Nat.le_trans HBD.out.size HBB.out.size)⟩
          have HXB := Lib.hid hXB
          have HDB := Lib.hid (isDisk_below HD.out hxB HBwB.out)
          have HFIN : Hid (∀ (wr : World) (χr : Col) (e0 : Int) (st0 : DSt), pairW s number b = (e0, st0) → IsDisk wr χr j p st0 → Touch wB wr (paint w.heap.size χ (0, 9)) χr j → ∃ χ', Ending.returned (.int .i64 e0) = Ending.returned (.int .i64 (pairW s number b).1) ∧ ActD w wr χ χ' j p (pairW s number b).2) := Lib.hid fun wr χr e0 st0 h hD hT => by
            rw [h]
            exact ⟨χr, rfl, hD, (Touch.of_below hxB HBwB.out).trans hT⟩
          obtain ⟨χB, hχB⟩ : ∃ χB, paint w.heap.size χ (0, 9) = χB := ⟨_, rfl⟩
          rw [hχB] at HXB HDB HFIN
          clear hXB hχB hxB hAp hwBe hwB HBB HGB HBwB HB0B hS8w hS9w hS8 hS9 y4 HB04 hw0 hSZ
          go_loopw [47] (fun i wr => ∃ (k : Nat) (χr : Col), k ≤ 4 ∧ i = .int .i64 k ∧ Touch wB wr χB χr j ∧ IsDisk wr χr j p (stC s s1 s2 s3 s4 k) ∧ Hid ((0 < k → e1 = 0) ∧ (1 < k → e2 = 0) ∧ (2 < k → e3 = 0) ∧ (3 < k → e4 = 0))) (fun i _ => 4 - (intOf i).toNat)
          case atStart => exact ⟨0, χB, by omega, rfl, ⟨KeptBut.refl _ _, Ext.refl _ _⟩, HDB.out, Lib.hid ⟨fun h => by omega, fun h => by omega, fun h => by omega, fun h => by omega⟩⟩
          case round =>
            obtain ⟨k, χr, hk, rfl, hTr, hDr, hz⟩ := hrel
            have HX := Lib.hid (HXB.out.touch hTr)
            have HTR := Lib.hid hTr
            clear hTr
            by_cases hkt : k < 4
            · have hcase : k = 0 ∨ k = 1 ∨ k = 2 ∨ k = 3 := by omega
              clear hk hkt
              rcases hcase with rfl | rfl | rfl | rfl
              · have hDr : IsDisk wr χr j p s := hDr
                have HC := Lib.hid (HK1.out _ _ SZ (SZ + 1) (SZ + 1 + 1) S8 S9 Ap cp HX.out hDr)
                have cG := HX.out.rl.cell (j := 0) (v := .func (.func 57) #[] #[.pointer (some ⟨SZ, 0, none⟩), .pointer (some ⟨S8, 0, none⟩)]) rfl
                rw [show ((0 : Nat) : Int) = 0 from rfl]
                by_cases he : e1 = 0
                · have hee : (e1 != 0) = false := by simp [he]
                  have HZ := Lib.hid (show (0 < 1 → e1 = 0) ∧ (1 < 1 → e2 = 0) ∧ (2 < 1 → e3 = 0) ∧ (3 < 1 → e4 = 0) from ⟨fun _ => he, fun h => by omega, fun h => by omega, fun h => by omega⟩)
                  have HE0 := Lib.hid he
                  clear he hz hDr
                  go_wp2_with fail
                  refine HC.out.mono ?_
                  rintro e w5 ⟨χ5, rfl, hD5⟩
                  have HT5 := Lib.hid (HTR.out.trans hD5.touch)
                  have HD5 := Lib.hid hD5.disk
                  clear hD5
                  go_wp2_with fail
                  go_roundw
                  case rel => exact ⟨1, χ5, by omega, rfl, HT5.out, HD5.out, HZ⟩
                  case measure => simp [intOf]
                · have hee : (e1 != 0) = true := by rw [bne_iff_ne]; exact he
                  
                  have HPE : Hid (pairW s number b = (e1, s1)) := Lib.hid (by rw [HPW.out, if_pos he])
                  
                  clear he hz hDr
                  go_wp2_with fail
                  refine HC.out.mono ?_
                  rintro e w5 ⟨χ5, rfl, hD5⟩
                  have HF5 := Lib.hid (HFIN.out _ _ _ _ HPE.out hD5.disk (HTR.out.trans hD5.touch))
                  clear hD5
                  go_wp2_with fail
                  go_ret
                  exact HF5.out
              · have hDr : IsDisk wr χr j p s1 := hDr
                have HC := Lib.hid (HK2.out _ _ hDr)
                have cG := HX.out.rl.cell (j := 1) (v := .func (.func 59) #[.pointer (some ⟨p, 0, none⟩)] #[]) rfl
                rw [show ((1 : Nat) : Int) = 1 from rfl]
                by_cases he : e2 = 0
                · have hee : (e2 != 0) = false := by simp [he]
                  have HZ := Lib.hid (show (0 < 2 → e1 = 0) ∧ (1 < 2 → e2 = 0) ∧ (2 < 2 → e3 = 0) ∧ (3 < 2 → e4 = 0) from ⟨fun _ => hz.out.1 (by omega), fun _ => he, fun h => by omega, fun h => by omega⟩)
                  have HE0 := Lib.hid he
                  clear he hz hDr
                  go_wp2_with fail
                  refine HC.out.mono ?_
                  rintro e w5 ⟨χ5, rfl, hD5⟩
                  have HT5 := Lib.hid (HTR.out.trans hD5.touch)
                  have HD5 := Lib.hid hD5.disk
                  clear hD5
                  go_wp2_with fail
                  go_roundw
                  case rel => exact ⟨2, χ5, by omega, rfl, HT5.out, HD5.out, HZ⟩
                  case measure => simp [intOf]
                · have hee : (e2 != 0) = true := by rw [bne_iff_ne]; exact he
                  have z1 : e1 = 0 := hz.out.1 (by omega);
                  have HPE : Hid (pairW s number b = (e2, s2)) := Lib.hid (by rw [HPW.out, if_neg (by rw [z1]; decide), if_pos he])
                  clear z1;
                  clear he hz hDr
                  go_wp2_with fail
                  refine HC.out.mono ?_
                  rintro e w5 ⟨χ5, rfl, hD5⟩
                  have HF5 := Lib.hid (HFIN.out _ _ _ _ HPE.out hD5.disk (HTR.out.trans hD5.touch))
                  clear hD5
                  go_wp2_with fail
                  go_ret
                  exact HF5.out
              · have hDr : IsDisk wr χr j p s2 := hDr
                have HC := Lib.hid (HK3.out _ _ SZ (SZ + 1) (SZ + 1 + 1) S8 S9 Ap cp HX.out hDr)
                have cG := HX.out.rl.cell (j := 2) (v := .func (.func 60) #[] #[.pointer (some ⟨SZ, 0, none⟩), .pointer (some ⟨SZ + 1, 0, none⟩), .pointer (some ⟨SZ + 1 + 1, 0, none⟩)]) rfl
                rw [show ((2 : Nat) : Int) = 2 from rfl]
                by_cases he : e3 = 0
                · have hee : (e3 != 0) = false := by simp [he]
                  have HZ := Lib.hid (show (0 < 3 → e1 = 0) ∧ (1 < 3 → e2 = 0) ∧ (2 < 3 → e3 = 0) ∧ (3 < 3 → e4 = 0) from ⟨fun _ => hz.out.1 (by omega), fun _ => hz.out.2.1 (by omega), fun _ => he, fun h => by omega⟩)
                  have HE0 := Lib.hid he
                  clear he hz hDr
                  go_wp2_with fail
                  refine HC.out.mono ?_
                  rintro e w5 ⟨χ5, rfl, hD5⟩
                  have HT5 := Lib.hid (HTR.out.trans hD5.touch)
                  have HD5 := Lib.hid hD5.disk
                  clear hD5
                  go_wp2_with fail
                  go_roundw
                  case rel => exact ⟨3, χ5, by omega, rfl, HT5.out, HD5.out, HZ⟩
                  case measure => simp [intOf]
                · have hee : (e3 != 0) = true := by rw [bne_iff_ne]; exact he
                  have z1 : e1 = 0 := hz.out.1 (by omega); have z2 : e2 = 0 := hz.out.2.1 (by omega);
                  have HPE : Hid (pairW s number b = (e3, s3)) := Lib.hid (by rw [HPW.out, if_neg (by rw [z1]; decide), if_neg (by rw [z2]; decide), if_pos he])
                  clear z1; clear z2;
                  clear he hz hDr
                  go_wp2_with fail
                  refine HC.out.mono ?_
                  rintro e w5 ⟨χ5, rfl, hD5⟩
                  have HF5 := Lib.hid (HFIN.out _ _ _ _ HPE.out hD5.disk (HTR.out.trans hD5.touch))
                  clear hD5
                  go_wp2_with fail
                  go_ret
                  exact HF5.out
              · have hDr : IsDisk wr χr j p s3 := hDr
                have HC := Lib.hid (HK4.out _ _ hDr)
                have cG := HX.out.rl.cell (j := 3) (v := .func (.func 59) #[.pointer (some ⟨p, 0, none⟩)] #[]) rfl
                rw [show ((3 : Nat) : Int) = 3 from rfl]
                by_cases he : e4 = 0
                · have hee : (e4 != 0) = false := by simp [he]
                  have HZ := Lib.hid (show (0 < 4 → e1 = 0) ∧ (1 < 4 → e2 = 0) ∧ (2 < 4 → e3 = 0) ∧ (3 < 4 → e4 = 0) from ⟨fun _ => hz.out.1 (by omega), fun _ => hz.out.2.1 (by omega), fun _ => hz.out.2.2.1 (by omega), fun _ => he⟩)
                  have HE0 := Lib.hid he
                  clear he hz hDr
                  go_wp2_with fail
                  refine HC.out.mono ?_
                  rintro e w5 ⟨χ5, rfl, hD5⟩
                  have HT5 := Lib.hid (HTR.out.trans hD5.touch)
                  have HD5 := Lib.hid hD5.disk
                  clear hD5
                  go_wp2_with fail
                  go_roundw
                  case rel => exact ⟨4, χ5, by omega, rfl, HT5.out, HD5.out, HZ⟩
                  case measure => simp [intOf]
                · have hee : (e4 != 0) = true := by rw [bne_iff_ne]; exact he
                  have z1 : e1 = 0 := hz.out.1 (by omega); have z2 : e2 = 0 := hz.out.2.1 (by omega); have z3 : e3 = 0 := hz.out.2.2.1 (by omega);
                  have HPE : Hid (pairW s number b = (e4, s4)) := Lib.hid (by rw [HPW.out, if_neg (by rw [z1]; decide), if_neg (by rw [z2]; decide), if_neg (by rw [z3]; decide)])
                  clear z1; clear z2; clear z3;
                  clear he hz hDr
                  go_wp2_with fail
                  refine HC.out.mono ?_
                  rintro e w5 ⟨χ5, rfl, hD5⟩
                  have HF5 := Lib.hid (HFIN.out _ _ _ _ HPE.out hD5.disk (HTR.out.trans hD5.touch))
                  clear hD5
                  go_wp2_with fail
                  go_ret
                  exact HF5.out
            · have hk4 : k = 4 := by omega
              subst hk4
              rw [show ((4 : Nat) : Int) = 4 from rfl]
              have z1 : e1 = 0 := hz.out.1 (by omega)
              have z2 : e2 = 0 := hz.out.2.1 (by omega)
              have z3 : e3 = 0 := hz.out.2.2.1 (by omega)
              have z4 : e4 = 0 := hz.out.2.2.2 (by omega)
              have HPE : Hid (pairW s number b = (0, s4)) := Lib.hid (by rw [HPW.out, if_neg (by rw [z1]; decide), if_neg (by rw [z2]; decide), if_neg (by rw [z3]; decide), z4])
              have HF5 := Lib.hid (HFIN.out _ _ _ _ HPE.out hDr HTR.out)
              clear z1 z2 z3 z4 hz hDr hkt hk
              go_wp2_with fail
              go_ret
              exact HF5.out
        · rw [if_pos (.inr hlen)] at hpw
          rw [hpw]
          have hnb : ((b.length : Int) != BK) = true := by rw [bne_iff_ne]; exact hlen
          clear hpw hE hpv hBK hb40 hlen
          go_enter Tryd.func27, Tryd.ntmps27
          go_wp2_with fail
          refine HSH.out.mono ?_
          rintro e w1 ⟨rfl, hb1⟩
          have hba := (Below.refl w1.heap.size w1).alloc (Nat.le_refl _) (.cells #[.int .i64 s.P, .int .i64 s.K, .int .i64 s.M] 50)
          have hRS : RowC (w1.alloc (.cells #[.int .i64 s.P, .int .i64 s.K, .int .i64 s.M] 50)) w1.heap.size 50 [.int .i64 s.P, .int .i64 s.K, .int .i64 s.M] := heap_alloc_new _ _
          have z1 := ((rn0.below hb1).below hba).cell (j := 0) (v := .int .i64 number) rfl
          have z3 := ((rb0.below hb1).below hba).cell (j := 0) (v := .slice A b.length c) rfl
          have z2 := hRS.cell (j := 0) (v := .int .i64 s.P) rfl
          have HM1 := Lib.hid (HM.out _ (below_then (below_then hb0 hb1) hba))
          have HB1 := Lib.hid (below_then (below_then hb0 hb1) hba)
          have HB01 := Lib.hid (below_then hb1 hba)
          have HRS := Lib.hid hRS
          clear hba hRS
          go_wp2_with fail
          refine HM1.out.mono ?_
          rintro e w2 ⟨Ap, cp, rfl, hN⟩
          have hba := (Below.refl w2.heap.size w2).alloc (Nat.le_refl _) (.cells #[.slice Ap pv.length cp] 24)
          have hbd := below_then hba (Below.refl (w2.alloc (.cells #[.slice Ap pv.length cp] 24)).heap.size _).drew
          have x3 := ((rb0.below HB01.out).below (below_then hN.below hba)).cell (j := 0) (v := .slice A b.length c) rfl
          have x4 := ((HRS.out.below hN.below).below hba).cell (j := 1) (v := .int .i64 s.K) rfl
          have HRP : Hid (RowC (w2.alloc (.cells #[.slice Ap pv.length cp] 24)).drew w2.heap.size 24 [.slice Ap pv.length cp]) := Lib.hid (show RowC (w2.alloc (.cells #[.slice Ap pv.length cp] 24)) w2.heap.size 24 [.slice Ap pv.length cp] from heap_alloc_new _ _)
          have HB2 := Lib.hid (below_then (below_then HB1.out hN.below) hbd)
          have HN := Lib.hid hN
          have HBD := Lib.hid hbd
          clear hba hN hbd
          go_wp2_with fail
          go_region_held3 (fun w' => w'.cell? ⟨SZ + 1 + 1, 0, none⟩ = some (.slice A b.length c) ∧ w'.cell? ⟨w1.heap.size, 1, none⟩ = some (.int .i64 s.K)) (first | (with_reducible exact ⟨x3, x4⟩) | go_keep)
            (first | (go_at_call 56; refine (HBY.out _).mono ?_; rintro e w3 ⟨rfl, rfl⟩))
          have HF2 := Lib.hid (HF.out _ HB2.out)
          go_wp2_with fail
          go_ret
          exact ⟨χ, rfl, HF2.out⟩
      · rw [if_pos (.inl he)] at hpw
        rw [hpw]
        have hne : (E != 0) = true := by rw [bne_iff_ne]; exact he
        clear hpw hE hpv
        go_enter Tryd.func27, Tryd.ntmps27
        go_wp2_with fail
        refine HSH.out.mono ?_
        rintro e w1 ⟨rfl, hb1⟩
        have hba := (Below.refl w1.heap.size w1).alloc (Nat.le_refl _) (.cells #[.int .i64 s.P, .int .i64 s.K, .int .i64 s.M] 50)
        have z1 := ((rn0.below hb1).below hba).cell (j := 0) (v := .int .i64 number) rfl
        have z3 := ((rb0.below hb1).below hba).cell (j := 0) (v := .slice A b.length c) rfl
        have z2 := (show RowC (w1.alloc (.cells #[.int .i64 s.P, .int .i64 s.K, .int .i64 s.M] 50)) w1.heap.size 50 [.int .i64 s.P, .int .i64 s.K, .int .i64 s.M] from heap_alloc_new _ _).cell (j := 0) (v := .int .i64 s.P) rfl
        have HM1 := Lib.hid (HM.out _ (below_then (below_then hb0 hb1) hba))
        have HB1 := Lib.hid (below_then (below_then hb0 hb1) hba)
        clear hba hb hd hb0
        go_wp2_with fail
        refine HM1.out.mono ?_
        rintro e w2 ⟨Ap, cp, rfl, hN⟩
        have hba := (Below.refl w2.heap.size w2).alloc (Nat.le_refl _) (.cells #[.slice Ap pv.length cp] 24)
        have HF1 := Lib.hid (HF.out _ (below_then (below_then HB1.out hN.below) hba))
        have HF2 : Hid (∀ q, ActD w ((w2.alloc (.cells #[.slice Ap pv.length cp] 24)).drewN q) χ χ j p s) := Lib.hid fun q => HF.out _ (below_then (below_then (below_then HB1.out hN.below) hba) (drewN_below _ q))
        clear hba hN
        go_wp2_with fail
        go_quiet (fail)
        go_wp2_with fail
        go_ret
        exact ⟨χ, rfl, HF2.out _⟩
end Go.Proofs.YtapoknpakleiiaaDoor
