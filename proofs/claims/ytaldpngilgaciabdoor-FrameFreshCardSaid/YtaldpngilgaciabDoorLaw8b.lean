import Derived.Test.YtaldpngilgaciabDoorLaw8
/- 'into' and 'bodied' of the laws of layer 8. -/
set_option linter.unusedVariables false
set_option linter.unusedSimpArgs false
namespace Go.Proofs.YtaldpngilgaciabDoor
open Go.RowKit Go.Tm
set_option maxHeartbeats 400000
set_option maxRecDepth 100000

theorem into_any (n top : Int) (h0 : 0 < top) (h1 : top ≤ 4611686018427387904) (w : World) :
    Calls Tryd.prog 17 #[.int .i64 n, .int .i64 top] w fun e w' => e = .returned (.int .i64 (n % top)) ∧ w = w' := by
  have hz : ¬ top = 0 := by omega
  have hz2 : (top == 0) = false := by rw [beq_eq_false_iff_ne]; omega
  have hm : n % top = if n.tmod top < 0 then n.tmod top + top else n.tmod top := by
    rw [Int.emod_eq_tmod]
    have hlt := Int.tmod_lt_of_pos n h0
    have hab : (top.natAbs : Int) = top := by omega
    by_cases hn : 0 ≤ n
    · have := Int.tmod_nonneg top hn
      rw [if_pos (.inl hn), if_neg (by omega)]
      omega
    · by_cases hd : top ∣ n
      · rw [if_pos (.inr hd), Int.tmod_eq_zero_of_dvd hd, if_neg (by omega)]
        omega
      · have h2 : n.tmod top ≠ 0 := fun h => hd (Int.dvd_of_tmod_eq_zero h)
        have h3 : n.tmod top ≤ 0 := by
          have := Int.tmod_nonneg top (a := -n) (by omega)
          rw [Int.neg_tmod] at this
          omega
        rw [if_neg (by rintro (h | h) <;> contradiction), if_pos (by omega), hab]
  have hlo : -top < n.tmod top := by
    have := Int.lt_tmod_of_pos n h0
    omega
  have hhi : n.tmod top < top := Int.tmod_lt_of_pos n h0
  rw [hm]
  clear hm
  obtain ⟨r, hr⟩ : ∃ r, n.tmod top = r := ⟨_, rfl⟩
  rw [hr] at hlo hhi ⊢
  by_cases hneg : r < 0
  · rw [if_pos hneg]
    go_enter Tryd.func17, Tryd.ntmps17
    go_wp2
    go_ret
    exact ⟨rfl, rfl⟩
  · rw [if_neg hneg]
    go_enter Tryd.func17, Tryd.ntmps17
    go_wp2
    go_ret
    exact ⟨rfl, rfl⟩

/-- What 'bodied' answers. -/
def bodyL (l : List UInt8) : List UInt8 := if l = [] then [0] else l.take 1024
theorem bodyL_ok (l : List UInt8) : okBody (bodyL l).length = true := by
  rw [okBody_iff]
  unfold bodyL
  split
  · simp
  · rename_i h
    have : l.length ≠ 0 := fun h' => h (List.eq_nil_of_length_eq_zero h')
    simp
    omega

theorem bodied_any {w : World} {A : Option Addr} {n c : Nat} {l : List UInt8} (h : Rda w A c l) (hn : n = l.length) :
    Calls Tryd.prog 18 #[.slice A n c] w fun e w' => ∃ A' c', e = .returned (.slice A' (bodyL l).length c') ∧ Rda w' A' c' (bodyL l) ∧ Below w.heap.size w w' := by
  subst hn
  by_cases h0 : l = []
  · have e : bodyL l = [0] := if_pos h0
    rw [e, h0]
    go_enter Tryd.func18, Tryd.ntmps18
    go_wp2
    go_ret
    exact ⟨_, _, rfl, Rda_lit w 5 [0] 1 rfl (by simp) rfl, (Below.refl _ _).alloc (Nat.le_refl _) _⟩
  · have e : bodyL l = l.take 1024 := if_neg h0
    have hl0 : ((l.length : Int) == 0) = false := by
      rw [beq_eq_false_iff_ne]
      have : l.length ≠ 0 := fun h' => h0 (List.eq_nil_of_length_eq_zero h')
      omega
    have hcap := h.cap
    rw [e]
    by_cases hlt : l.length ≤ 1024
    · have hr := h.take l.length (Nat.le_refl _)
      rw [List.take_length] at hr
      rw [List.take_of_length_le (by omega)]
      have hmin : (l.length : Int) ≤ 1024 := by omega
      clear e h0 h hlt
      go_enter Tryd.func18, Tryd.ntmps18
      go_wp2_with fail
      go_ret
      exact ⟨_, _, rfl, hr, Below.refl _ _⟩
    · have hr := h.take 1024 (by omega)
      have hl : (l.take 1024).length = 1024 := by simp; omega
      rw [hl]
      have hmin : (1024 : Int) < (l.length : Int) := by omega
      clear e h0 h hl hlt
      go_enter Tryd.func18, Tryd.ntmps18
      go_wp2_with fail
      go_ret
      exact ⟨_, _, rfl, hr, Below.refl _ _⟩
end Go.Proofs.YtaldpngilgaciabDoor
