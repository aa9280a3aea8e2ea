import Derived.Test.YtiaehoppdihbdaaOctRs
import Derived.Test.YtiaehoppdihbdaaOctJn
import Derived.Test.YtiaehoppdihbdaaRecPure
import Derived.Test.YtiaehoppdihbdaaMem
import Derived.Test.YtiaehoppdihbdaaOwnLe
import Derived.Test.YtiaehoppdihbdaaOpen
import Derived.Recover
import Derived.WalkLawsBesides
/- The contracts of package record: a source. -/
set_option linter.unusedVariables false
set_option linter.unusedSimpArgs false
namespace Go.Proofs.Ytiaehoppdihbdaa
open Go.RowKit Go.Tm
set_option maxHeartbeats 400000
set_option maxRecDepth 100000

/-- What bytes that do not say a record give up with. -/
abbrev early : Ending := .panicked [{ v := .iface 70 (.agg #[]), recovered := false }]
abbrev srcV (r : Nat) : Value := .agg #[.pointer (some ⟨r, 0, none⟩)]
structure NumP (w0 : World) (o : Option (Int × List UInt8)) (r : Nat) (w : World) (e : Ending) (w' : World) : Prop where
  kept : KeptBut (fun q => q = r) w w'
  no : o = none → e = early
  yes : ∀ v m, o = some (v, m) → e = .returned (.int .i64 v) ∧ IsRs w0 w' r 95 m
theorem kept_of_grown {w w0 w1 : World} {r : Nat} (hb : Below w.heap.size w w0) (hg : w0.grownBy w1 (some r)) : KeptBut (fun q => q = r) w w1 :=
  ((KeptBut.refl _ w).below hb).grown hg fun k hk => by injection hk with hk; exact .inl hk.symm

set_option maxHeartbeats 1000000 in
theorem srcNumber_any {w0 w : World} {r : Nat} {l : List UInt8} (h : IsRs w0 w r 95 l) (k : Nat) (hk : k = 1 ∨ k = 2) {kk : Int} (hkk : kk = (k : Int)) (hl : l.length ≤ 140737488355328) :
    Calls Try.prog 37 #[srcV r, .int .i64 kk] w (NumP w0 (gN k l) r w) := by
  subst hkk
  unfold srcV
  have hb0 := (Below.refl w.heap.size w).alloc (Nat.le_refl _) (.cells #[.pointer (some ⟨r, 0, none⟩)] 75)
  have PN := numberS_any (h.below hb0) (k : Int) hl
  have hw : isW (k : Int) = true := by rcases hk with rfl | rfl <;> rfl
  by_cases hlt : l.length < k
  · have e1 : numE (k : Int) l = 10 := by unfold numE rowE; rw [if_pos hw, if_neg (by omega), if_pos (by omega)]
    rw [e1] at PN
    have HPN := Lib.hid PN
    have hg : gN k l = none := if_pos hlt
    rw [hg]
    clear PN hw e1 hg
    go_enter Try.func37, Try.ntmps37
    go_wp2_with fail
    refine HPN.out.mono ?_
    rintro e w1 ⟨rfl, hg1, hR1⟩
    have HK := Lib.hid (kept_of_grown hb0 hg1)
    clear hg1 hR1
    go_wp2_with fail
    exact ⟨rfl, HK.out, fun _ => rfl, fun v m e => (by cases e)⟩
  · have e1 : numE (k : Int) l = 0 := by unfold numE rowE; rw [if_pos hw, if_neg (by omega), if_neg (by omega)]
    have e2 : numL (k : Int) l = l.drop k := by unfold numL; rw [if_pos e1, Int.toNat_natCast]
    have e3 : numV (k : Int) l = leN (l.take k) := by unfold numV; rw [if_pos e1, Int.toNat_natCast]
    rw [e1, e2, e3] at PN
    have HPN := Lib.hid PN
    have hg : gN k l = some ((leN (l.take k) : Int), l.drop k) := if_neg hlt
    rw [hg]
    have hv : leN (l.take k) < 65536 := by
      have := leN_lt (l.take k)
      rw [List.length_take, Nat.min_eq_left (by omega)] at this
      rcases hk with rfl | rfl <;> omega
    obtain ⟨V, hV⟩ : ∃ V, leN (l.take k) = V := ⟨_, rfl⟩
    rw [hV] at HPN hv ⊢
    have hw2 : IntKind.i64.wrap (V : Int) = (V : Int) := i64_id _ (by omega) (by omega)
    have hz : (0 : Int) ≤ (V : Int) := by omega
    clear PN hw e1 e2 e3 hg hV
    go_enter Try.func37, Try.ntmps37
    go_wp2_with fail
    refine HPN.out.mono ?_
    rintro e w1 ⟨rfl, hg1, hR1⟩
    have HK := Lib.hid (kept_of_grown hb0 hg1)
    have HR := Lib.hid hR1
    clear hg1 hR1
    go_wp2_with fail
    go_ret
    exact ⟨HK.out, fun e => (by cases e), fun v m e => by injection e with e; injection e with e1 e2; subst e1 e2; exact ⟨rfl, HR.out⟩⟩

set_option maxHeartbeats 1000000 in
theorem srcLsn_any {w0 w : World} {r : Nat} {l : List UInt8} (h : IsRs w0 w r 95 l) :
    Calls Try.prog 38 #[srcV r] w (NumP w0 (gL l) r w) := by
  unfold srcV
  have hb0 := (Below.refl w.heap.size w).alloc (Nat.le_refl _) (.cells #[.pointer (some ⟨r, 0, none⟩)] 75)
  have PN := intS_any (h.below hb0)
  by_cases hok : l.length < 8 ∨ 1152921504606846976 < leN (l.take 8)
  · have hg : gL l = none := by
      unfold gL
      rcases hok with hok | hok
      · rw [if_pos hok]
      · split
        · rfl
        · first | rfl | rw [if_pos hok]
    obtain ⟨E, hE, hne⟩ : ∃ E, intE l = E ∧ E ≠ 0 := by
      unfold intE
      by_cases h8 : l.length < 8
      · exact ⟨10, if_pos h8, by decide⟩
      · exact ⟨30, by rw [if_neg h8, if_pos (by omega)], by decide⟩
    rw [hE] at PN
    rw [hg]
    have HPN := Lib.hid PN
    have hb : (E != 0) = true := by simpa using hne
    have hb2 : (E == 0) = false := by simpa using hne
    clear PN hE hg hok hne
    go_enter Try.func38, Try.ntmps38
    go_wp2_with fail
    refine HPN.out.mono ?_
    rintro e w1 ⟨rfl, hg1, hR1⟩
    have HK := Lib.hid (kept_of_grown hb0 hg1)
    clear hg1 hR1
    go_wp2_with fail
    exact ⟨rfl, HK.out, fun _ => rfl, fun v m e => (by cases e)⟩
  · have h8 : ¬ l.length < 8 := fun e => hok (.inl e)
    have hx : ¬ 1152921504606846976 < leN (l.take 8) := fun e => hok (.inr e)
    have e1 : intE l = 0 := by unfold intE; rw [if_neg h8, if_neg hx]
    have e2 : intL l = l.drop 8 := by unfold intL; rw [if_pos e1]
    have e3 : intV l = leN (l.take 8) := by unfold intV; rw [if_pos e1]
    have hg : gL l = some ((leN (l.take 8) : Int), l.drop 8) := by unfold gL; rw [if_neg h8, if_neg hx]
    rw [e1, e2, e3] at PN
    rw [hg]
    have HPN := Lib.hid PN
    obtain ⟨V, hV⟩ : ∃ V, leN (l.take 8) = V := ⟨_, rfl⟩
    rw [hV] at HPN ⊢
    clear PN e1 e2 e3 hg hV hok h8 hx
    go_enter Try.func38, Try.ntmps38
    go_wp2_with fail
    refine HPN.out.mono ?_
    rintro e w1 ⟨rfl, hg1, hR1⟩
    have HK := Lib.hid (kept_of_grown hb0 hg1)
    have HR := Lib.hid hR1
    clear hg1 hR1
    go_wp2_with fail
    go_ret
    exact ⟨HK.out, fun e => (by cases e), fun v m e => by injection e with e; injection e with e1 e2; subst e1 e2; exact ⟨rfl, HR.out⟩⟩

structure RowP (w0 : World) (o : Option (List UInt8 × List UInt8)) (r : Nat) (w : World) (e : Ending) (w' : World) : Prop where
  kept : KeptBut (fun q => q = r) w w'
  no : o = none → e = early
  yes : ∀ x m, o = some (x, m) → ∃ A c, e = .returned (.slice A x.length c) ∧ IsRs w0 w' r 95 m ∧ Own8 w' w.heap.size 5 (.slice A x.length c) x

set_option maxHeartbeats 1000000 in
theorem srcRow_any {w0 w : World} {r : Nat} {l : List UInt8} (h : IsRs w0 w r 95 l) (n : Nat) (hn : n < 65536) {nn : Int} (hnn : nn = (n : Int)) (hl : l.length ≤ 140737488355328) :
    Calls Try.prog 74 #[srcV r, .int .i64 nn] w (RowP w0 (gR n l) r w) := by
  subst hnn
  unfold srcV
  have hb0 := (Below.refl w.heap.size w).alloc (Nat.le_refl _) (.cells #[.pointer (some ⟨r, 0, none⟩)] 75)
  have PN := rowS_any (h.below hb0) (n : Int) hl (by omega)
  by_cases hlt : l.length < n
  · have e1 : rowE (n : Int) l = 10 := by unfold rowE; rw [if_neg (by omega), if_pos (by omega)]
    have hg : gR n l = none := if_pos hlt
    rw [e1] at PN
    rw [hg]
    have HPN := Lib.hid PN
    clear PN e1 hg
    go_enter Try.func74, Try.ntmps74
    go_wp2_with fail
    refine HPN.out.mono ?_
    rintro e w1 ⟨A1, c1, rfl, hN, hR1⟩
    have HK := Lib.hid (kept_of_grown hb0 hN.grown)
    clear hN hR1
    go_wp2_with fail
    exact ⟨rfl, HK.out, fun _ => rfl, fun v m e => (by cases e)⟩
  · have e1 : rowE (n : Int) l = 0 := by unfold rowE; rw [if_neg (by omega), if_neg (by omega)]
    have e2 : rowL (n : Int) l = l.drop n := by unfold rowL; rw [if_pos e1, Int.toNat_natCast]
    have e3 : rowV (n : Int) l = l.take n := by unfold rowV; rw [if_pos e1, Int.toNat_natCast]
    have hg : gR n l = some (l.take n, l.drop n) := if_neg hlt
    rw [e1, e2, e3] at PN
    rw [hg]
    obtain ⟨V, hV⟩ : ∃ V, l.take n = V := ⟨_, rfl⟩
    obtain ⟨D, hD⟩ : ∃ D, l.drop n = D := ⟨_, rfl⟩
    rw [hV, hD] at PN ⊢
    have HPN := Lib.hid PN
    obtain ⟨L, hL⟩ : ∃ L, V.length = L := ⟨_, rfl⟩
    rw [hL] at HPN
    have HL := Lib.hid hL
    clear PN e1 e2 e3 hg hV hD hL
    go_enter Try.func74, Try.ntmps74
    go_wp2_with fail
    refine HPN.out.mono ?_
    rintro e w1 ⟨A1, c1, rfl, hN, hR1⟩
    have HK := Lib.hid (kept_of_grown hb0 hN.grown)
    have HR := Lib.hid hR1
    have HO := Lib.hid (Own8.mono hN.own hb0.size)
    clear hN hR1
    go_wp2_with fail
    go_ret
    exact ⟨HK.out, fun e => (by cases e), fun v m e => by injection e with e; injection e with e1 e2; subst e1 e2; exact ⟨A1, c1, by rw [HL.out]; rfl, HR.out, HO.out⟩⟩
end Go.Proofs.Ytiaehoppdihbdaa
