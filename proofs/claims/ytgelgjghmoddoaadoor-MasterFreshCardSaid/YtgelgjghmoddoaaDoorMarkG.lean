import Derived.Test.YtgelgjghmoddoaaDoorMark
/- As Marks1 and Marks2, for any marks mk, each row lengthened by M of its own. -/
set_option linter.unusedVariables false
set_option linter.unusedSimpArgs false
namespace Go.Tm
open Go.RowKit
section
variable {mk : Nat → UInt8}
/-- The row full of its mark, and m more of it. -/
def fullG (mk : Nat → UInt8) (l : Nat → List UInt8) (m j : Nat) : List UInt8 := List.replicate ((l j).length + m) (mk j)
theorem fullG_length (l : Nat → List UInt8) (m j : Nat) : (fullG mk l m j).length = (l j).length + m := by simp [fullG]
theorem fullG_snoc (l : Nat → List UInt8) (m j : Nat) : fullG mk l m j ++ [mk j] = fullG mk l (m + 1) j := by
  unfold fullG
  rw [← Nat.add_assoc, List.replicate_succ']
theorem fullG_take (l : Nat → List UInt8) (m j : Nat) : (fullG mk l m j).take (l j).length = fullG mk l 0 j := by
  unfold fullG
  rw [List.take_replicate, Nat.min_eq_left (by omega), Nat.add_zero]
theorem fullG_get (l : Nat → List UInt8) (m j i : Nat) (h : i < (l j).length + m) : (fullG mk l m j).getD i 0 = mk j := by
  simp [fullG, List.getD, h]
/-- The rows in the midst of the first loop. -/
def phG (mk : Nat → UInt8) (l : Nat → List UInt8) (k i j : Nat) : List UInt8 := if j < k then fullG mk l 0 j else if j = k then (fullG mk l 0 j).take i ++ (l j).drop i else l j
theorem phG_length (l : Nat → List UInt8) (k i j : Nat) (hi : i ≤ (l k).length) : (phG mk l k i j).length = (l j).length := by
  unfold phG
  split
  · rw [fullG_length]; omega
  · split
    · rename_i h; subst h; simp [fullG_length]; omega
    · rfl
theorem phG_next (l : Nat → List UInt8) (k j : Nat) : phG mk l k (l k).length j = phG mk l (k + 1) 0 j := by
  unfold phG
  by_cases h1 : j < k
  · rw [if_pos h1, if_pos (by omega)]
  · by_cases h2 : j = k
    · subst h2
      rw [if_neg h1, if_pos rfl, if_pos (by omega), List.drop_length, List.append_nil, List.take_of_length_le (by rw [fullG_length]; omega)]
    · rw [if_neg h1, if_neg h2, if_neg (by omega)]
      split
      · simp
      · rfl
theorem phG_start (l : Nat → List UInt8) (j : Nat) : phG mk l 0 0 j = l j := by
  unfold phG
  rw [if_neg (by omega)]
  split <;> simp
theorem phG_set (l : Nat → List UInt8) (k i : Nat) (hi : i < (l k).length) : (phG mk l k i k).set i (mk k) = phG mk l k (i + 1) k := by
  have e1 : phG mk l k i k = (fullG mk l 0 k).take i ++ (l k).drop i := by unfold phG; rw [if_neg (Nat.lt_irrefl k), if_pos rfl]
  have e2 : phG mk l k (i + 1) k = (fullG mk l 0 k).take (i + 1) ++ (l k).drop (i + 1) := by unfold phG; rw [if_neg (Nat.lt_irrefl k), if_pos rfl]
  rw [e1, e2]
  have h1 : ((fullG mk l 0 k).take i).length = i := by rw [List.length_take, fullG_length]; omega
  rw [List.set_append_right _ _ (by omega), h1, Nat.sub_self, List.drop_eq_getElem_cons hi, List.set_cons_zero, List.take_succ_eq_append_getElem (by rw [fullG_length]; omega), List.append_assoc]
  simp [fullG]

end
section
variable (mk : Nat → UInt8) (M : Nat) (base : Nat) (e : TypeId) (N : Nat) (A : Nat → Option Addr) (c : Nat → Nat) (l : Nat → List UInt8)
structure MarksA (w0 wr : World) (k i : Nat) : Prop where
  own : ∀ j, j < N → Own8 wr base e (mrV A c l j) (phG mk l k i j)
  kept : KeptBut (mrS N A c l) w0 wr
structure MarksB (w1 wr : World) (V : Nat → Value) (k i : Nat) : Prop where
  own : ∀ j, j < N → Own8 wr base e (V j) (fullG mk l (if j < k then M else if j = k then i else 0) j)
  at_ : ∀ j, j < N → (V j).ownBlock = (mrV A c l j).ownBlock ∨ ∃ g, w1.heap.size ≤ g ∧ (V j).ownBlock = some g
  apart : ∀ i j, i < N → j < N → i ≠ j → Aprt (V i) (V j)
  rda : ∀ j, j < N → Rda wr (A j) (c j) (fullG mk l 0 j)
  kept : KeptBut (mrS N A c l) w1 wr
end
section
variable {mk : Nat → UInt8} {M : Nat} {base : Nat} {e : TypeId} {N : Nat} {A : Nat → Option Addr} {c : Nat → Nat} {l : Nat → List UInt8} {w0 w1 wr : World} {k i : Nat}
theorem MarksA.start (h : ∀ j, j < N → Own8 w0 base e (mrV A c l j) (l j)) : MarksA mk base e N A c l w0 w0 0 0 :=
  ⟨fun j hj => by rw [phG_start]; exact h j hj, KeptBut.refl _ _⟩
theorem MarksA.next (h : MarksA mk base e N A c l w0 wr k (l k).length) : MarksA mk base e N A c l w0 wr (k + 1) 0 :=
  ⟨fun j hj => by rw [← phG_next]; exact h.own j hj, h.kept⟩
theorem MarksA.step (h : MarksA mk base e N A c l w0 wr k i) (hap : ∀ i j, i < N → j < N → i ≠ j → Aprt (mrV A c l i) (mrV A c l j)) (hk : k < N) (hi : i < (l k).length) :
    ∃ g x, A k = some ⟨g, 0, none⟩ ∧ wr.cell? ⟨g, i, none⟩ = some (.int .u8 x) ∧ wr.frozen? ⟨g, i, none⟩ = false ∧
      ∀ y : Int, y = ((mk k).toNat : Int) → MarksA mk base e N A c l w0 (wr.setCell ⟨g, i, none⟩ (.int .u8 y)) k (i + 1) := by
  have hlen := phG_length (mk := mk) l k i k (by omega)
  have ho := h.own k hk
  obtain ⟨g, hA, hg⟩ := Own8.block (show Own8 wr base e (.slice (A k) (l k).length (c k)) (phG mk l k i k) from ho) (by omega)
  have ho' : Own8 wr base e (.slice (some ⟨g, 0, none⟩) (l k).length (c k)) (phG mk l k i k) := by rw [← hA]; exact ho
  have hb : (mrV A c l k).ownBlock = some g := by simp [mrV, hA, Value.ownBlock]
  refine ⟨g, _, hA, ho'.cellAt hlen.symm i (by omega), ho'.unfrozen hlen.symm i, ?_⟩
  rintro y rfl
  obtain ⟨s1, s2⟩ := ho'.stored hlen.symm i (mk k)
  refine ⟨fun j hj => ?_, h.kept.grown s2 (fun b hb' => by injection hb' with hb'; subst hb'; exact .inl ⟨k, hk, hb⟩)⟩
  by_cases hjk : j = k
  · subst hjk
    rw [← phG_set l j i hi]
    show Own8 _ _ _ (.slice (A j) (l j).length (c j)) _
    rw [hA]
    exact s1
  · have e1 : phG mk l k (i + 1) j = phG mk l k i j := by unfold phG; rw [if_neg hjk, if_neg hjk]
    rw [e1]
    refine (h.own j hj).keptBy s2 (fun b hb' => ?_)
    intro hcon
    injection hcon with hcon
    subst hcon
    exact hap k j hk hj (fun e => hjk e.symm) g hb hb'

theorem MarksB.start (h : MarksA mk base e N A c l w0 wr N 0) (hap : ∀ i j, i < N → j < N → i ≠ j → Aprt (mrV A c l i) (mrV A c l j)) : MarksB mk M base e N A c l wr wr (mrV A c l) 0 0 := by
  have ho : ∀ j, j < N → Own8 wr base e (mrV A c l j) (fullG mk l 0 j) := fun j hj => by
    have := h.own j hj
    unfold phG at this
    rwa [if_pos hj] at this
  refine ⟨fun j hj => ?_, fun j hj => .inl rfl, hap, fun j hj => (own_at (ho j hj)).2, KeptBut.refl _ _⟩
  rw [if_neg (by omega)]
  split <;> exact ho j hj
theorem MarksB.next {V : Nat → Value} (h : MarksB mk M base e N A c l w1 wr V k M) : MarksB mk M base e N A c l w1 wr V (k + 1) 0 :=
  ⟨fun j hj => by
    have := h.own j hj
    by_cases h1 : j < k
    · rw [if_pos h1] at this; rw [if_pos (by omega)]; exact this
    · by_cases h2 : j = k
      · rw [if_neg h1, if_pos h2] at this; rw [if_pos (by omega)]; exact this
      · rw [if_neg h1, if_neg h2] at this; rw [if_neg (by omega)]; split <;> exact this, h.at_, h.apart, h.rda, h.kept⟩
theorem MarksB.below {V : Nat → Value} (h : MarksB mk M base e N A c l w1 wr V k i) {w' : World} (hb : Below wr.heap.size wr w') : MarksB mk M base e N A c l w1 w' V k i :=
  ⟨fun j hj => (h.own j hj).below hb, h.at_, h.apart, fun j hj => (h.rda j hj).below hb, h.kept.below hb⟩
theorem MarksB.step {V : Nat → Value} (h : MarksB mk M base e N A c l w1 wr V k i) (h1 : ∀ j, j < N → Own8 w1 base e (mrV A c l j) (fullG mk l 0 j)) (hap : ∀ i j, i < N → j < N → i ≠ j → Aprt (mrV A c l i) (mrV A c l j)) (hk : k < N) {v' : Value} {w' : World}
    (ho : Own8 w' base e v' (fullG mk l i k ++ [mk k])) (hw : AppTwo wr w' (V k) v') :
    MarksB mk M base e N A c l w1 w' (fun j => if j = k then v' else V j) k (i + 1) := by
  rw [fullG_snoc] at ho
  have hg : wr.grownBy w' (V k).ownBlock := by rcases hw with hw | hw; exact hw.2; exact below_grown hw.2 _
  have hat : v'.ownBlock = (V k).ownBlock ∨ v'.ownBlock = some wr.heap.size := by rcases hw with hw | hw; exact .inl hw.1; exact .inr hw.1
  have hlt : ∀ j, j < N → ∀ g, (V j).ownBlock = some g → g < wr.heap.size := fun j hj g hg => own_lt (h.own j hj) hg
  have hapk : ∀ j, j < N → j ≠ k → Aprt v' (V j) := by
    intro j hj hjk b hb hb'
    rcases hat with ha | ha
    · exact h.apart k j hk hj (fun e => hjk e.symm) b (ha ▸ hb) hb'
    · have := hlt j hj b hb'
      rw [ha] at hb
      injection hb with hb
      omega
  refine ⟨fun j hj => ?_, fun j hj => ?_, fun a b ha hb hab => ?_, fun j hj => ?_, ?_⟩
  · by_cases hjk : j = k
    · subst hjk
      simp only [if_pos, Nat.lt_irrefl, if_false]
      exact ho
    · simp only [if_neg hjk]
      have := h.own j hj
      rw [if_neg hjk] at this
      exact this.keptBy hg (fun b hb hb' => h.apart k j hk hj (fun e => hjk e.symm) b hb' hb)
  · by_cases hjk : j = k
    · subst hjk
      simp only [if_pos]
      rcases hat with ha | ha
      · rw [ha]; exact h.at_ j hj
      · exact .inr ⟨_, h.kept.size, ha⟩
    · simp only [if_neg hjk]; exact h.at_ j hj
  · by_cases hak : a = k
    · subst hak
      have hba : ¬ b = a := fun e => hab e.symm
      simp only [if_pos, if_neg hba]
      exact hapk b hb (fun e => hab e.symm)
    · by_cases hbk : b = k
      · subst hbk
        simp only [if_neg hak, if_pos]
        exact (hapk a ha hak).symm
      · simp only [if_neg hak, if_neg hbk]; exact h.apart a b ha hb hab
  · by_cases hin : ∀ g, (V k).ownBlock = some g → (mrV A c l j).ownBlock ≠ some g
    · refine (h.rda j hj).grown hg (fun a ha hcon => ?_)
      refine hin a.block hcon.symm ?_
      simp [mrV, ha, Value.ownBlock]
    · -- the row's own block is the one that is written
      have hex : ∃ g, (V k).ownBlock = some g ∧ (mrV A c l j).ownBlock = some g := by
        refine Classical.byContradiction fun hno => hin fun g h1 h2 => hno ⟨g, h1, h2⟩
      obtain ⟨g, hg1, hg2⟩ := hex
      have hjk : j = k := by
        rcases h.at_ k hk with ha | ⟨g', hg', ha⟩
        · refine Classical.byContradiction fun hne => ?_
          exact hap k j hk hj (fun e => hne e.symm) g (ha ▸ hg1) hg2
        · have := own_lt (h1 j hj) hg2
          rw [hg1] at ha
          injection ha with ha
          omega
      subst hjk
      rcases hw with hw | hw
      · -- in place
        have hA : A j = some ⟨g, 0, none⟩ := by
          rcases (h1 j hj).2 with ⟨h', _⟩ | ⟨g', cap, cur, h', _⟩
          · rw [h'] at hg2; simp [Value.ownBlock] at hg2
          · have : (mrV A c l j).ownBlock = some g' := by rw [h']; rfl
            rw [this] at hg2
            injection hg2 with hg2
            subst hg2
            unfold mrV at h'
            injection h'
        have hv' : v'.ownBlock = some g := hw.1.trans hg1
        obtain ⟨A', c', he, hr⟩ := own_rda ho
        have hA' : A' = some ⟨g, 0, none⟩ := by
          rcases ho.2 with ⟨h', _⟩ | ⟨g', cap, cur, h', _⟩
          · rw [h'] at hv'; simp [Value.ownBlock] at hv'
          · have e1 : v'.ownBlock = some g' := by rw [h']; rfl
            rw [e1] at hv'
            injection hv' with hv'
            subst hv'
            rw [he] at h'
            injection h'
        subst hA'
        rw [hA]
        have hp := h.rda j hj
        rw [hA] at hp
        refine ⟨hp.cap, hp.max, fun e => (by cases e), fun hl => ?_⟩
        obtain ⟨b, o, he2, hc⟩ := hr.cells (by rw [fullG_length] at hl ⊢; omega)
        injection he2 with he2
        injection he2 with e1 e2
        subst e1 e2
        refine ⟨_, _, rfl, fun x hx => ?_⟩
        rw [fullG_length] at hx
        have := hc x (by rw [fullG_length]; omega)
        rw [fullG_get _ _ _ _ (by omega)] at this ⊢
        exact this
      · exact (h.rda j hj).below hw.2
  · refine h.kept.grown hg (fun g hg' => ?_)
    rcases h.at_ k hk with ha | ⟨g', hg'', ha⟩
    · exact .inl ⟨k, hk, ha ▸ hg'⟩
    · rw [ha] at hg'
      injection hg' with hg'
      exact .inr (by omega)
/-- A row of another kind turns. -/
theorem MarksB.other {V : Nat → Value} (h : MarksB mk M base e N A c l w1 wr V k i) (h1 : ∀ j, j < N → Own8 w1 base e (mrV A c l j) (fullG mk l 0 j)) {T : TypeId} (hT : T ≠ e) {v : Value} {n : Nat} {xs : List Value} (ho : wr.ownsRow w1.heap.size T 1 v n xs) {w' : World} (hg : wr.grownBy w' v.ownBlock) :
    MarksB mk M base e N A c l w1 w' V k i := by
  have hne : ∀ g, v.ownBlock = some g → w1.heap.size ≤ g ∧ ∃ cur, wr.heap[g]? = some (.cells cur T (0, 0)) := by
    intro g hg
    rcases ho.2 with ⟨rfl, _⟩ | ⟨g', cap, cur, rfl, hb, hh, _⟩
    · simp [Value.ownBlock] at hg
    · have : g' = g := by simpa [Value.ownBlock] using hg
      subst this
      exact ⟨hb, cur, hh⟩
  refine ⟨fun j hj => (h.own j hj).keptBy hg (fun b hb hcon => ?_), h.at_, h.apart, fun j hj => (h.rda j hj).grown hg (fun a ha hcon => ?_), h.kept.grown hg (fun g hg' => .inr (hne g hg').1)⟩
  · obtain ⟨_, cur, hh⟩ := hne b hcon
    obtain ⟨cu, hh2⟩ := own8_block_type (h.own j hj) hb
    rw [hh] at hh2
    injection hh2 with hh2
    injection hh2 with _ hh2
    exact hT hh2
  · have h3 := (hne a.block hcon.symm).1
    have h4 := own_lt (h1 j hj) (g := a.block) (by simp [mrV, ha, Value.ownBlock])
    omega
theorem MarksA.full (h : MarksA mk base e N A c l w0 wr N 0) : ∀ j, j < N → Own8 wr base e (mrV A c l j) (fullG mk l 0 j) := fun j hj => by
  have := h.own j hj
  unfold phG at this
  rwa [if_pos hj] at this
/-- The row of rows, lengthened by another's: it is of another kind, so it stays. -/
theorem long_keptG {V : Nat → Value} (h : MarksB mk M base e N A c l w1 wr V k i) (hk : k < N) {T : TypeId} (hT : T ≠ e) {v : Value} {n : Nat} {xs : List Value} (ho : wr.ownsRow w1.heap.size T 1 v n xs) {w' : World} (hg : wr.grownBy w' (V k).ownBlock) :
    w'.ownsRow w1.heap.size T 1 v n xs := by
  refine ho.kept hg ?_
  cases hv : v.ownBlock with
  | none => exact .inl rfl
  | some g =>
    refine .inr fun hcon => ?_
    obtain ⟨cu, hh2⟩ := own8_block_type (h.own k hk) hcon.symm
    rcases ho.2 with ⟨rfl, _⟩ | ⟨g', cap, cur, rfl, hb, hh, _⟩
    · simp [Value.ownBlock] at hv
    · have : g' = g := by simpa [Value.ownBlock] using hv
      subst this
      rw [hh] at hh2
      injection hh2 with hh2
      injection hh2 with _ hh2
      exact hT hh2
end
end Go.Tm
