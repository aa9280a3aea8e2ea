import Derived.Test.YtiaehoppdihbdaaRecPure
/- Records that were read: how far their numbers go. -/
set_option linter.unusedVariables false
set_option linter.unusedSimpArgs false
namespace Go.Tm
def Num60 (n : Int) : Prop := 0 ≤ n ∧ n ≤ 1152921504606846976
structure RecIn (x : RecD) : Prop where
  ii : Num60 x.kind ∧ Num60 x.birth ∧ Num60 x.prev ∧ Num60 x.id ∧ Num60 x.page ∧ Num60 x.frm ∧ Num60 x.next
  rr : ∀ y ∈ x.rows, Num60 y.1 ∧ Num60 y.2.1 ∧ Num60 y.2.2.1 ∧ Num60 y.2.2.2.1 ∧ Num60 y.2.2.2.2
  dd : ∀ y ∈ x.dirty, Num60 y.1 ∧ Num60 y.2
  nn : x.before.length ≤ 65535 ∧ x.after.length ≤ 65535 ∧ x.rows.length ≤ 255 ∧ x.dirty.length ≤ 255
theorem zero60 : Num60 0 := ⟨by omega, by omega⟩
theorem recZ_in : RecIn recZ := ⟨⟨zero60, zero60, zero60, zero60, zero60, zero60, zero60⟩, fun y h => (by cases h), fun y h => (by cases h), by simp [recZ]⟩
theorem gN_60 {k : Nat} (hk : k = 1 ∨ k = 2) {l m : List UInt8} {v : Int} (h : gN k l = some (v, m)) : Num60 v ∧ v.toNat < 65536 ∧ (k = 1 → v.toNat < 256) := by
  obtain ⟨_, h1, h2⟩ := gN_is h
  rcases hk with rfl | rfl
  · exact ⟨⟨h1, by omega⟩, by omega, fun _ => by omega⟩
  · exact ⟨⟨h1, by omega⟩, by omega, fun e => by omega⟩
theorem gL_60 {l m : List UInt8} {v : Int} (h : gL l = some (v, m)) : Num60 v := (gL_is h).2
theorem gRow9_60 {l m : List UInt8} {y : Row9} (h : gRow9 l = some (y, m)) : Num60 y.1 ∧ Num60 y.2.1 ∧ Num60 y.2.2.1 ∧ Num60 y.2.2.2.1 ∧ Num60 y.2.2.2.2 := by
  unfold gRow9 at h
  simp only [Option.bind_eq_some_iff, Option.map_eq_some_iff] at h
  obtain ⟨a, ha, b, hb, c, hc, d, hd, e, he, hx⟩ := h
  injection hx with hx hm
  subst hx
  exact ⟨gL_60 ha, (gN_60 (.inl rfl) hb).1, (gN_60 (.inl rfl) hc).1, gL_60 hd, gL_60 he⟩
theorem gDirt_60 {l m : List UInt8} {y : Int × Int} (h : gDirt l = some (y, m)) : Num60 y.1 ∧ Num60 y.2 := by
  unfold gDirt at h
  simp only [Option.bind_eq_some_iff, Option.map_eq_some_iff] at h
  obtain ⟨a, ha, b, hb, hx⟩ := h
  injection hx with hx hm
  subst hx
  exact ⟨(gN_60 (.inl rfl) ha).1, gL_60 hb⟩
theorem gMany_all {α : Type} {f : List UInt8 → Option (α × List UInt8)} {p : α → Prop} (hf : ∀ l x m, f l = some (x, m) → p x) : ∀ (n : Nat) (l : List UInt8) (xs : List α) (m : List UInt8), gMany f n l = some (xs, m) → ∀ x ∈ xs, p x
  | 0, l, xs, m, h => by
    simp only [gMany, Option.some.injEq, Prod.mk.injEq] at h
    rw [← h.1]
    intro x hx
    cases hx
  | n + 1, l, xs, m, h => by
    unfold gMany at h
    simp only [Option.bind_eq_some_iff, Option.map_eq_some_iff] at h
    obtain ⟨a, ha, b, hb, hx⟩ := h
    injection hx with hx hm
    rw [← hx]
    intro x hx
    rcases List.mem_cons.1 hx with rfl | hx
    · exact hf _ _ _ ha
    · exact gMany_all hf n _ _ _ hb x hx
theorem pTail_in {z x : RecD} {l m : List UInt8} (hz : RecIn z) (h : pTail z l = some (x, m)) : RecIn x := by
  obtain ⟨⟨i1, i2, i3, i4, i5, i6, i7⟩, hr, hd, n1, n2, n3, n4⟩ := hz
  unfold pTail at h
  split at h
  · unfold pBegin at h
    simp only [Option.map_eq_some_iff] at h
    obtain ⟨a, ha, hx⟩ := h
    injection hx with hx hm
    subst hx
    exact ⟨⟨i1, i2, i3, (gN_60 (.inl rfl) ha).1, i5, i6, i7⟩, hr, hd, n1, n2, n3, n4⟩
  · split at h
    · unfold pUpdate at h
      simp only [Option.bind_eq_some_iff, Option.map_eq_some_iff] at h
      obtain ⟨a, ha, b, hb, c, hc, d, hd', e, he, hx⟩ := h
      injection hx with hx hm
      subst hx
      have hc2 := (gN_60 (.inr rfl) hc).2.1
      exact ⟨⟨i1, i2, i3, i4, (gN_60 (.inl rfl) ha).1, (gN_60 (.inr rfl) hb).1, i7⟩, hr, hd, by have := (gR_is hd').2; show d.1.length ≤ _; omega, by have := (gR_is he).2; show e.1.length ≤ _; omega, n3, n4⟩
    · split at h
      · unfold pUndo at h
        simp only [Option.bind_eq_some_iff, Option.map_eq_some_iff] at h
        obtain ⟨a, ha, b, hb, c, hc, d, hd', e, he, hx⟩ := h
        injection hx with hx hm
        subst hx
        have hc2 := (gN_60 (.inr rfl) hc).2.1
        exact ⟨⟨i1, i2, i3, i4, (gN_60 (.inl rfl) ha).1, (gN_60 (.inr rfl) hb).1, gL_60 he⟩, hr, hd, n1, by have := (gR_is hd').2; show d.1.length ≤ _; omega, n3, n4⟩
      · split at h
        · unfold pCheck at h
          simp only [Option.bind_eq_some_iff, Option.map_eq_some_iff] at h
          obtain ⟨a, ha, b, hb, c, hc, d, hd', hx⟩ := h
          injection hx with hx hm
          subst hx
          have ha2 := (gN_60 (.inl rfl) ha).2.2 rfl
          have hc2 := (gN_60 (.inl rfl) hc).2.2 rfl
          exact ⟨⟨i1, i2, i3, i4, i5, i6, i7⟩, gMany_all (fun _ _ _ => gRow9_60) _ _ _ _ hb, gMany_all (fun _ _ _ => gDirt_60) _ _ _ _ hd', n1, n2, by have := gMany_len _ _ _ _ hb; show b.1.length ≤ _; omega, by have := gMany_len _ _ _ _ hd'; show d.1.length ≤ _; omega⟩
        · injection h with h
          injection h with h _
          subst h
          exact ⟨⟨i1, i2, i3, i4, i5, i6, i7⟩, hr, hd, n1, n2, n3, n4⟩
/-- How a reading fails or goes on, step by step. -/
theorem pRec_head {l m1 m2 m3 : List UInt8} {a b c : Int} (h1 : gN 1 l = some (a, m1)) (h2 : gL m1 = some (b, m2)) (h3 : gL m2 = some (c, m3)) : pRec l = (if 1 ≤ a ∧ a ≤ 7 then pTail { recZ with kind := a, birth := b, prev := c } m3 else none).bind fun y => if y.2.length = 0 ∧ rgtB y.1 = true then some y.1 else none := by
  unfold pRec pAll pHead
  simp only [h1, h2, h3, Option.bind_some, Option.map_some]
theorem pRec_no1 {l : List UInt8} (h1 : gN 1 l = none) : pRec l = none := by unfold pRec pAll pHead; rw [h1]; rfl
theorem pRec_no2 {l m1 : List UInt8} {a : Int} (h1 : gN 1 l = some (a, m1)) (h2 : gL m1 = none) : pRec l = none := by unfold pRec pAll pHead; simp only [h1, h2, Option.bind_some, Option.bind_none]
theorem pRec_no3 {l m1 m2 : List UInt8} {a b : Int} (h1 : gN 1 l = some (a, m1)) (h2 : gL m1 = some (b, m2)) (h3 : gL m2 = none) : pRec l = none := by unfold pRec pAll pHead; simp only [h1, h2, h3, Option.bind_some, Option.map_none, Option.bind_none]
theorem headZ_in {l m1 m2 m3 : List UInt8} {a b c : Int} (h1 : gN 1 l = some (a, m1)) (h2 : gL m1 = some (b, m2)) (h3 : gL m2 = some (c, m3)) : RecIn { recZ with kind := a, birth := b, prev := c } :=
  ⟨⟨(gN_60 (.inl rfl) h1).1, gL_60 h2, gL_60 h3, zero60, zero60, zero60, zero60⟩, fun y h => (by cases h), fun y h => (by cases h), by simp [recZ]⟩
end Go.Tm
