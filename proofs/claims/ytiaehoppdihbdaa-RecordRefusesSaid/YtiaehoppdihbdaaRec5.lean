import Derived.Test.YtiaehoppdihbdaaRec4
/- The contracts of package record: a checkpoint's recs; what is bare. -/
set_option linter.unusedVariables false
set_option linter.unusedSimpArgs false
namespace Go.Proofs.Ytiaehoppdihbdaa
open Go.RowKit Go.Tm
set_option maxHeartbeats 400000
set_option maxRecDepth 100000

set_option maxHeartbeats 4000000 in
theorem recRecs_any {w : World} {A : Option Addr} {n c : Nat} {l : List (Int × Int)} (h : RdS 2 rDirt w A c l) (hn : n = l.length) (hl : l.length ≤ 140737488351232) :
    Calls Try.prog 47 #[.slice A n c] w fun e w' => e = .returned (.bool (dirtB (-1) l && decide (l.length ≤ 16))) ∧ Below w.heap.size w w' := by
  subst hn
  have HR := Lib.hid h
  have hcap := h.cap
  obtain ⟨N, hN⟩ : ∃ N, l.length = N := ⟨_, rfl⟩
  rw [hN] at hl hcap ⊢
  have HN := Lib.hid hN
  clear h hN
  go_enter Try.func47, Try.ntmps47
  go_wp2_with fail
  go_loopw [3, 8] (fun lv iv wr => ∃ (k : Nat) (p : Int), k ≤ N ∧ iv = .int .i64 k ∧ lv = .int .i64 p ∧ dirtB (-1) l = dirtB p (l.drop k) ∧ Below w.heap.size w wr) (fun _ i _ => N - (intOf i).toNat)
  case atStart => exact ⟨0, -1, by omega, rfl, rfl, rfl, Below.refl _ _⟩
  case round =>
    obtain ⟨k, p, hk, rfl, rfl, hrel, hb⟩ := hrel
    have HRel := Lib.hid hrel
    clear hrel
    by_cases hlt : k < N
    · obtain ⟨x, hx⟩ : ∃ x, l[k]? = some x := ⟨l[k]'(by rw [HN.out]; exact hlt), by simp [HN.out, hlt]⟩
      obtain ⟨g, o, rfl, hat⟩ := dirt_at (HR.out.below keeps_dirt hb) hx
      have HX : Hid (dirtB (-1) l = (dirtB1 x && decide (p < x.1) && dirtB x.1 (l.drop (k + 1)))) := Lib.hid (by rw [HRel.out, drop_cons hx]; rfl)
      obtain ⟨xa, xb⟩ := x
      have c0 := hat.c0
      have c1 := hat.c1
      dsimp only at c0 c1
      have q1 : (0 : Int) ≤ (k : Int) := by omega
      have q2 : (k : Int) < (N : Int) := by omega
      have HB := Lib.hid (hb.alloc hb.size (.cells #[.int .i64 xa, .int .i64 xb] 60))
      have HXB : Hid (dirtB1 (xa, xb) = (pageB xa && lsnB xb)) := Lib.hid (by simp [dirtB1, pageB, Bool.and_assoc])
      have L1 := fun W => isPage_any (w := W) xa
      have L2 := fun W => isLsn_any (w := W) xb
      obtain ⟨b1, hb1⟩ : ∃ b, pageB xa = b := ⟨_, rfl⟩
      obtain ⟨b2, hb2⟩ : ∃ b, lsnB xb = b := ⟨_, rfl⟩
      rw [hb1, hb2] at HXB
      have H1 : Hid (∀ W, Calls Try.prog 49 #[.int .i64 xa] W fun e w' => e = .returned (.bool b1) ∧ W = w') := Lib.hid fun W => by rw [← hb1]; exact L1 W
      have H2 : Hid (∀ W, Calls Try.prog 48 #[.int .i64 xb] W fun e w' => e = .returned (.bool b2) ∧ W = w') := Lib.hid fun W => by rw [← hb2]; exact L2 W
      clear L1 L2 hb1 hb2 hat hb hx
      have dec : ∀ {a : Prop} [Decidable a], ¬ a → decide a = false := fun h => decide_eq_false h
      cases b1 with
      | false =>
        go_wp2_with (first | (go_at_call 49; ((with_reducible refine (H1.out _).mono ?_); rintro e w' ⟨rfl, rfl⟩)) | (go_at_call 48; ((with_reducible refine (H2.out _).mono ?_); rintro e w' ⟨rfl, rfl⟩)))
        go_ret
        exact ⟨retB (by rw [HX.out, HXB.out]; simp []), HB.out⟩
      | true =>
        by_cases k2 : p < xa
        · cases b2 with
          | false =>
            go_wp2_with (first | (go_at_call 49; ((with_reducible refine (H1.out _).mono ?_); rintro e w' ⟨rfl, rfl⟩)) | (go_at_call 48; ((with_reducible refine (H2.out _).mono ?_); rintro e w' ⟨rfl, rfl⟩)))
            go_ret
            exact ⟨retB (by rw [HX.out, HXB.out]; simp []), HB.out⟩
          | true =>
            go_wp2_with (first | (go_at_call 49; ((with_reducible refine (H1.out _).mono ?_); rintro e w' ⟨rfl, rfl⟩)) | (go_at_call 48; ((with_reducible refine (H2.out _).mono ?_); rintro e w' ⟨rfl, rfl⟩)))
            go_roundw
            case rel => exact ⟨k + 1, xa, by omega, by go_num, rfl, (by rw [HX.out, HXB.out]; simp [k2]), HB.out⟩
            case measure => simp [intOf]; omega
        · have k2' : xa ≤ p := by omega
          go_wp2_with (first | (go_at_call 49; ((with_reducible refine (H1.out _).mono ?_); rintro e w' ⟨rfl, rfl⟩)) | (go_at_call 48; ((with_reducible refine (H2.out _).mono ?_); rintro e w' ⟨rfl, rfl⟩)))
          go_ret
          exact ⟨retB (by rw [HX.out, HXB.out]; simp [dec (show ¬ p < xa by omega)]), HB.out⟩
    · have he : k = N := by omega
      subst he
      have HE : Hid (dirtB (-1) l = true) := Lib.hid (by rw [HRel.out, List.drop_of_length_le (by rw [HN.out]; exact Nat.le_refl _)]; rfl)
      have HB := Lib.hid hb
      clear hb
      go_wp2_with fail
      go_ret
      refine ⟨retB ?_, HB.out⟩
      rw [HE.out, Bool.true_and, decide_eq_decide]
      omega
def bareN (i g f : Int) (na nb : Nat) (nx : Int) (nr nd : Nat) (id laid before next lists : Bool) : Bool := (id || decide (i = 0)) && (laid || (decide (g = 0) && decide (f = 0) && decide (na = 0))) && (before || decide (nb = 0)) && (next || decide (nx = 0)) && (lists || (decide (nr = 0) && decide (nd = 0)))
theorem bareB_N (r : RecD) (a b c d e : Bool) : bareB r a b c d e = bareN r.id r.page r.frm r.after.length r.before.length r.next r.rows.length r.dirty.length a b c d e := rfl
set_option maxHeartbeats 4000000 in
theorem bare_any {w : World} (k b p i g f nx : Int) (Ab Aa Ar Ad : Option Addr) (nb cb na ca nr cr nd cd : Nat) (f1 f2 f3 f4 f5 : Bool) (hf : (f1, f2, f3, f4, f5) ∈ [(true, false, false, false, false), (false, false, false, false, true), (false, true, true, false, false), (false, true, false, true, false), (false, false, false, false, false)]) :
    Calls Try.prog 45 #[.agg #[.int .i64 k, .int .i64 b, .int .i64 p, .int .i64 i, .int .i64 g, .int .i64 f, .slice Ab nb cb, .slice Aa na ca, .int .i64 nx, .slice Ar nr cr, .slice Ad nd cd], .bool f1, .bool f2, .bool f3, .bool f4, .bool f5] w
      fun e w' => e = .returned (.bool (bareN i g f na nb nx nr nd f1 f2 f3 f4 f5)) ∧ Below w.heap.size w w' := by
  simp only [List.mem_cons, Prod.mk.injEq, List.not_mem_nil, or_false] at hf
  have hna : (0 : Int) ≤ (na : Int) := by omega
  rcases hf with ⟨rfl, rfl, rfl, rfl, rfl⟩ | ⟨rfl, rfl, rfl, rfl, rfl⟩ | ⟨rfl, rfl, rfl, rfl, rfl⟩ | ⟨rfl, rfl, rfl, rfl, rfl⟩ | ⟨rfl, rfl, rfl, rfl, rfl⟩
  all_goals
    go_enter Try.func45, Try.ntmps45
    go_wp2
    all_goals
      go_ret
      refine ⟨retB ?_, (Below.refl _ _).alloc (Nat.le_refl _) _⟩
      first
        | (simp_all [bareN]; done)
        | (simp_all [bareN]; rw [Bool.eq_iff_iff]; simp; done)
        | (simp_all [bareN]; rw [Bool.eq_iff_iff]; simp; omega)
end Go.Proofs.Ytiaehoppdihbdaa
