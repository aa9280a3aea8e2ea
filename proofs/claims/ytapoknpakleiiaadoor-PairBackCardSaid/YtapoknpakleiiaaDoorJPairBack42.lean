import Derived.Test.YtapoknpakleiiaaDoorJPairBack27
import Derived.Test.YtapoknpakleiiaaDoorJPairBack41
import Derived.Test.YtapoknpakleiiaaDoorJPairBack23
/- The contracts of the law's helpers for layer 13: whole, blank, alive. -/
set_option linter.unusedVariables false
set_option linter.unusedSimpArgs false
namespace Go.Proofs.YtapoknpakleiiaaDoor
open Go.RowKit Go.Tm
set_option maxHeartbeats 400000
set_option maxRecDepth 100000
attribute [local go_sem ↓] Go.wp_at_zero Go.wp_at_succ

set_option maxHeartbeats 1000000 in
theorem whole_any {w : World} {A B : Option Addr} {n c m d : Nat} {l p : List UInt8} (ha : Rda w A c l) (hb : Rda w B d p) (hn : n = l.length) (hm : m = p.length) (hl : p.length ≤ 140737488351232) :
    Calls Tryd.prog 13 #[.slice A n c, .slice B m d] w fun e w' => e = .returned (.bool (decide (l = lentL p))) ∧ Below w.heap.size w w' := by
  subst hn
  have hbd := (Below.refl w.heap.size w).drew
  have h1 := fun dst hd => run_conv_rd (P := Tryd.prog) w.drew tU8 (ha.below hbd) _ rfl dst hd
  have HL := Lib.hid (lent_any (hb.below hbd) hm hl)
  have HLL := Lib.hid (lentL_length p)
  have HM := Lib.hid hm
  have HA := Lib.hid ha
  clear hm hl hb ha
  go_enter Tryd.func13, Tryd.ntmps13
  go_wp2_with fail
  go_region_law
    (first | (go_simp; go_at_call 8; refine HL.out.mono ?_; rintro e w3 ⟨g, rfl, hN⟩; have hb3 := below_then hbd hN.below; have h2 := fun dst hd => run_conv_rd (P := Tryd.prog) w3 tU8 hN.rda (m + 120) (by rw [HLL.out, ← HM.out]) dst hd; have h3 := fun dst hd => run_conv_rd (P := Tryd.prog) w3 tU8 (HA.out.below hb3) _ rfl dst hd; clear hN))
  all_goals
    go_wp2_with fail
    go_ret
    exact ⟨rfl, hb3⟩

theorem blank13_any {w : World} (lsn : Int) (h0 : 0 ≤ lsn) (h1 : lsn ≤ 1152921504606846976) : Calls Tryd.prog 42 #[.int .i64 lsn] w fun e w' => ∃ A c, e = .returned (.slice A 40 c) ∧ New 5 w w' A c (stampP (zeroL 40) 1 lsn.toNat) := by
  have HZ := Lib.hid (zeroL_length 40)
  have HP : Hid (∀ (W : World) (B : Nat), Rda W (some ⟨B, 0, none⟩) 40 (zeroL 40) → Calls Tryd.prog 83 #[.slice (some ⟨B, 0, none⟩) 40 40, .int .i64 1, .int .i64 lsn] W fun e w' => ∃ A' c', e = .returned (.slice A' 40 c') ∧ New 5 W w' A' c' (stampP (zeroL 40) 1 lsn.toNat)) := Lib.hid fun W B hr => by
    have := refStamped_any hr (n := 40) HZ.out.symm (by rw [HZ.out]; omega) (by rw [HZ.out]; omega) 1 lsn (by omega) (by omega) h0 h1
    rwa [HZ.out] at this
  go_enter Tryd.func42, Tryd.ntmps42
  go_wp2_with (with_reducible refine wpList_make8 rfl _ _ rfl tU8 40 rfl rfl rfl rfl (by omega) ?_)
  intro w1 hW hb1
  have hr := hW.rda (by rw [HZ.out]; omega)
  rw [HZ.out] at hr
  have HP1 := Lib.hid (HP.out _ _ hr)
  clear hW hr
  go_wp2_with fail
  refine HP1.out.mono ?_
  rintro e w2 ⟨A, c, rfl, hN⟩
  go_wp2_with fail
  go_ret
  exact ⟨A, c, rfl, ⟨hN.own.mono hb1.size, below_then hb1 hN.below⟩⟩

def bl258 : List UInt8 := stampP (zeroL 40) 1 258
def bl5 : List UInt8 := stampP (zeroL 40) 1 5
def alP : List UInt8 := pmV 1 bl258
def al0 : DSt := blankS 2 1 1024
def al1 : DSt := (pairW al0 1 bl5).2
def al2 : DSt := (pairR al1).2.2
theorem al_1 : pmE 1 bl258 = 0 ∧ alP.length = 56 ∧ pLsn alP = 258 ∧ pNum alP = 1 ∧ pPage alP = bl258 ∧ bl258.length = 40 ∧ bl5.length = 40 := by decide +kernel
theorem al_2 : (pairW al0 1 bl5).1 = 0 := by decide +kernel
theorem al_3 : (pairR al1).1 = 1 ∧ (pairR al1).2.1 = 0 := by decide +kernel
theorem al_4 : readE al2 1 = 0 ∧ readV al2 1 = bl5 ∧ pageI al2.P 1 = 1 ∧ (actS al2).acts = 8 := by decide +kernel
theorem al_5 : al0.acts = 0 ∧ al0.loose.length = 0 ∧ al1.acts = 4 ∧ al1.loose.length = 0 ∧ al2.acts = 7 ∧ al2.loose.length = 0 := by decide +kernel
theorem al_6 : shapeB 2 1 1024 = true := by decide +kernel
end Go.Proofs.YtapoknpakleiiaaDoor
