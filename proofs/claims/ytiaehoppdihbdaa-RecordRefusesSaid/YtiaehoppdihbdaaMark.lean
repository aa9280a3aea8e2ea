import Derived.Test.YtiaehoppdihbdaaMem
import Derived.Test.YtiaehoppdihbdaaStore
/- What 'marked' does to rows of one's own: the steps, in plain words of memory. -/
set_option linter.unusedVariables false
set_option linter.unusedSimpArgs false
namespace Go.Tm
open Go.RowKit

def mark (j : Nat) : UInt8 := UInt8.ofNat (j + 1)
theorem mark_nat (j : Nat) (h : j < 255) : ((mark j).toNat : Int) = (j : Int) + 1 := by
  unfold mark
  rw [UInt8.toNat_ofNat_of_lt' (by simp [UInt8.size]; omega)]
  omega
/-- The row full of its mark, and m more of it. -/
def fullL (l : Nat → List UInt8) (m j : Nat) : List UInt8 := List.replicate ((l j).length + m) (mark j)
theorem fullL_length (l : Nat → List UInt8) (m j : Nat) : (fullL l m j).length = (l j).length + m := by simp [fullL]
theorem fullL_snoc (l : Nat → List UInt8) (m j : Nat) : fullL l m j ++ [mark j] = fullL l (m + 1) j := by
  unfold fullL
  rw [← Nat.add_assoc, List.replicate_succ']
theorem fullL_take (l : Nat → List UInt8) (m j : Nat) : (fullL l m j).take (l j).length = fullL l 0 j := by
  unfold fullL
  rw [List.take_replicate, Nat.min_eq_left (by omega), Nat.add_zero]
theorem fullL_get (l : Nat → List UInt8) (m j i : Nat) (h : i < (l j).length + m) : (fullL l m j).getD i 0 = mark j := by
  simp [fullL, List.getD, h]
/-- The rows in the midst of the first loop. -/
def phL (l : Nat → List UInt8) (k i j : Nat) : List UInt8 := if j < k then fullL l 0 j else if j = k then (fullL l 0 j).take i ++ (l j).drop i else l j
theorem phL_length (l : Nat → List UInt8) (k i j : Nat) (hi : i ≤ (l k).length) : (phL l k i j).length = (l j).length := by
  unfold phL
  split
  · rw [fullL_length]; omega
  · split
    · rename_i h; subst h; simp [fullL_length]; omega
    · rfl
theorem phL_next (l : Nat → List UInt8) (k j : Nat) : phL l k (l k).length j = phL l (k + 1) 0 j := by
  unfold phL
  by_cases h1 : j < k
  · rw [if_pos h1, if_pos (by omega)]
  · by_cases h2 : j = k
    · subst h2
      rw [if_neg h1, if_pos rfl, if_pos (by omega), List.drop_length, List.append_nil, List.take_of_length_le (by rw [fullL_length]; omega)]
    · rw [if_neg h1, if_neg h2, if_neg (by omega)]
      split
      · simp
      · rfl
theorem phL_start (l : Nat → List UInt8) (j : Nat) : phL l 0 0 j = l j := by
  unfold phL
  rw [if_neg (by omega)]
  split <;> simp
theorem phL_set (l : Nat → List UInt8) (k i : Nat) (hi : i < (l k).length) : (phL l k i k).set i (mark k) = phL l k (i + 1) k := by
  have e1 : phL l k i k = (fullL l 0 k).take i ++ (l k).drop i := by unfold phL; rw [if_neg (Nat.lt_irrefl k), if_pos rfl]
  have e2 : phL l k (i + 1) k = (fullL l 0 k).take (i + 1) ++ (l k).drop (i + 1) := by unfold phL; rw [if_neg (Nat.lt_irrefl k), if_pos rfl]
  rw [e1, e2]
  have h1 : ((fullL l 0 k).take i).length = i := by rw [List.length_take, fullL_length]; omega
  rw [List.set_append_right _ _ (by omega), h1, Nat.sub_self, List.drop_eq_getElem_cons hi, List.set_cons_zero, List.take_succ_eq_append_getElem (by rw [fullL_length]; omega), List.append_assoc]
  simp [fullL]

section
variable (base : Nat) (e : TypeId) (N : Nat) (A : Nat → Option Addr) (c : Nat → Nat) (l : Nat → List UInt8)
/-- The rows' values. -/
def mrV (j : Nat) : Value := .slice (A j) (l j).length (c j)
/-- The rows' blocks. -/
def mrS (g : Nat) : Prop := ∃ j, j < N ∧ (mrV A c l j).ownBlock = some g

structure Marks1 (w0 wr : World) (k i : Nat) : Prop where
  own : ∀ j, j < N → Own8 wr base e (mrV A c l j) (phL l k i j)
  kept : KeptBut (mrS N A c l) w0 wr
structure Marks2 (w1 wr : World) (V : Nat → Value) (k i : Nat) : Prop where
  own : ∀ j, j < N → Own8 wr base e (V j) (fullL l (if j < k then 40 else if j = k then i else 0) j)
  at_ : ∀ j, j < N → (V j).ownBlock = (mrV A c l j).ownBlock ∨ ∃ g, w1.heap.size ≤ g ∧ (V j).ownBlock = some g
  apart : ∀ i j, i < N → j < N → i ≠ j → Aprt (V i) (V j)
  rda : ∀ j, j < N → Rda wr (A j) (c j) (fullL l 0 j)
  kept : KeptBut (mrS N A c l) w1 wr
end
section
variable {base : Nat} {e : TypeId} {N : Nat} {A : Nat → Option Addr} {c : Nat → Nat} {l : Nat → List UInt8} {w0 w1 wr : World} {k i : Nat}

theorem Marks1.start (h : ∀ j, j < N → Own8 w0 base e (mrV A c l j) (l j)) : Marks1 base e N A c l w0 w0 0 0 :=
  ⟨fun j hj => by rw [phL_start]; exact h j hj, KeptBut.refl _ _⟩
theorem Marks1.next (h : Marks1 base e N A c l w0 wr k (l k).length) : Marks1 base e N A c l w0 wr (k + 1) 0 :=
  ⟨fun j hj => by rw [← phL_next]; exact h.own j hj, h.kept⟩
theorem Marks1.step (h : Marks1 base e N A c l w0 wr k i) (hap : ∀ i j, i < N → j < N → i ≠ j → Aprt (mrV A c l i) (mrV A c l j)) (hk : k < N) (hi : i < (l k).length) :
    ∃ g x, A k = some ⟨g, 0, none⟩ ∧ wr.cell? ⟨g, i, none⟩ = some (.int .u8 x) ∧ wr.frozen? ⟨g, i, none⟩ = false ∧
      ∀ y : Int, y = ((mark k).toNat : Int) → Marks1 base e N A c l w0 (wr.setCell ⟨g, i, none⟩ (.int .u8 y)) k (i + 1) := by
  have hlen := phL_length l k i k (by omega)
  have ho := h.own k hk
  obtain ⟨g, hA, hg⟩ := Own8.block (show Own8 wr base e (.slice (A k) (l k).length (c k)) (phL l k i k) from ho) (by omega)
  have ho' : Own8 wr base e (.slice (some ⟨g, 0, none⟩) (l k).length (c k)) (phL l k i k) := by rw [← hA]; exact ho
  have hb : (mrV A c l k).ownBlock = some g := by simp [mrV, hA, Value.ownBlock]
  refine ⟨g, _, hA, ho'.cellAt hlen.symm i (by omega), ho'.unfrozen hlen.symm i, ?_⟩
  rintro y rfl
  obtain ⟨s1, s2⟩ := ho'.stored hlen.symm i (mark k)
  refine ⟨fun j hj => ?_, h.kept.grown s2 (fun b hb' => by injection hb' with hb'; subst hb'; exact .inl ⟨k, hk, hb⟩)⟩
  by_cases hjk : j = k
  · subst hjk
    rw [← phL_set l j i hi]
    show Own8 _ _ _ (.slice (A j) (l j).length (c j)) _
    rw [hA]
    exact s1
  · have e1 : phL l k (i + 1) j = phL l k i j := by unfold phL; rw [if_neg hjk, if_neg hjk]
    rw [e1]
    refine (h.own j hj).keptBy s2 (fun b hb' => ?_)
    intro hcon
    injection hcon with hcon
    subst hcon
    exact hap k j hk hj (fun e => hjk e.symm) g hb hb'

theorem Marks2.start (h : Marks1 base e N A c l w0 wr N 0) (hap : ∀ i j, i < N → j < N → i ≠ j → Aprt (mrV A c l i) (mrV A c l j)) : Marks2 base e N A c l wr wr (mrV A c l) 0 0 := by
  have ho : ∀ j, j < N → Own8 wr base e (mrV A c l j) (fullL l 0 j) := fun j hj => by
    have := h.own j hj
    unfold phL at this
    rwa [if_pos hj] at this
  refine ⟨fun j hj => ?_, fun j hj => .inl rfl, hap, fun j hj => (own_at (ho j hj)).2, KeptBut.refl _ _⟩
  rw [if_neg (by omega)]
  split <;> exact ho j hj
theorem Marks2.next {V : Nat → Value} (h : Marks2 base e N A c l w1 wr V k 40) : Marks2 base e N A c l w1 wr V (k + 1) 0 :=
  ⟨fun j hj => by
    have := h.own j hj
    by_cases h1 : j < k
    · rw [if_pos h1] at this; rw [if_pos (by omega)]; exact this
    · by_cases h2 : j = k
      · rw [if_neg h1, if_pos h2] at this; rw [if_pos (by omega)]; exact this
      · rw [if_neg h1, if_neg h2] at this; rw [if_neg (by omega)]; split <;> exact this, h.at_, h.apart, h.rda, h.kept⟩
theorem Marks2.below {V : Nat → Value} (h : Marks2 base e N A c l w1 wr V k i) {w' : World} (hb : Below wr.heap.size wr w') : Marks2 base e N A c l w1 w' V k i :=
  ⟨fun j hj => (h.own j hj).below hb, h.at_, h.apart, fun j hj => (h.rda j hj).below hb, h.kept.below hb⟩
theorem own_lt {w : World} {base : Nat} {e : TypeId} {v : Value} {l : List UInt8} (h : Own8 w base e v l) {g : Nat} (hg : v.ownBlock = some g) : g < w.heap.size := (World.ownsRow.lt h g hg).2
theorem Marks2.step {V : Nat → Value} (h : Marks2 base e N A c l w1 wr V k i) (h1 : ∀ j, j < N → Own8 w1 base e (mrV A c l j) (fullL l 0 j)) (hap : ∀ i j, i < N → j < N → i ≠ j → Aprt (mrV A c l i) (mrV A c l j)) (hk : k < N) {v' : Value} {w' : World}
    (ho : Own8 w' base e v' (fullL l i k ++ [mark k])) (hw : AppTwo wr w' (V k) v') :
    Marks2 base e N A c l w1 w' (fun j => if j = k then v' else V j) k (i + 1) := by
  rw [fullL_snoc] at ho
  have hg : wr.grownBy w' (V k).ownBlock := by rcases hw with hw | hw; exact hw.2; exact below_grown hw.2 _
  have hat : v'.ownBlock = (V k).ownBlock ∨ v'.ownBlock = some wr.heap.size := by rcases hw with hw | hw; exact .inl hw.1; exact .inr hw.1
  have hlt : ∀ j, j < N → ∀ g, (V j).ownBlock = some g → g < wr.heap.size := fun j hj g hg => own_lt (h.own j hj) hg
  have hapk : ∀ j, j < N → j ≠ k → Aprt v' (V j) := by
    intro j hj hjk b hb hb'
    rcases hat with ha | ha
    · exact h.apart k j hk hj (fun e => hjk e.symm) b (ha ▸ hb) hb'
    · have := hlt j hj b hb'
      rw [ha] at hb
      injection hb with hb
      omega
  refine ⟨fun j hj => ?_, fun j hj => ?_, fun a b ha hb hab => ?_, fun j hj => ?_, ?_⟩
  · by_cases hjk : j = k
    · subst hjk
      simp only [if_pos, Nat.lt_irrefl, if_false]
      exact ho
    · simp only [if_neg hjk]
      have := h.own j hj
      rw [if_neg hjk] at this
      exact this.keptBy hg (fun b hb hb' => h.apart k j hk hj (fun e => hjk e.symm) b hb' hb)
  · by_cases hjk : j = k
    · subst hjk
      simp only [if_pos]
      rcases hat with ha | ha
      · rw [ha]; exact h.at_ j hj
      · exact .inr ⟨_, h.kept.size, ha⟩
    · simp only [if_neg hjk]; exact h.at_ j hj
  · by_cases hak : a = k
    · subst hak
      have hba : ¬ b = a := fun e => hab e.symm
      simp only [if_pos, if_neg hba]
      exact hapk b hb (fun e => hab e.symm)
    · by_cases hbk : b = k
      · subst hbk
        simp only [if_neg hak, if_pos]
        exact (hapk a ha hak).symm
      · simp only [if_neg hak, if_neg hbk]; exact h.apart a b ha hb hab
  · by_cases hin : ∀ g, (V k).ownBlock = some g → (mrV A c l j).ownBlock ≠ some g
    · refine (h.rda j hj).grown hg (fun a ha hcon => ?_)
      refine hin a.block hcon.symm ?_
      simp [mrV, ha, Value.ownBlock]
    · -- the row's own block is the one that is written
      have hex : ∃ g, (V k).ownBlock = some g ∧ (mrV A c l j).ownBlock = some g := by
        refine Classical.byContradiction fun hno => hin fun g h1 h2 => hno ⟨g, h1, h2⟩
      obtain ⟨g, hg1, hg2⟩ := hex
      have hjk : j = k := by
        rcases h.at_ k hk with ha | ⟨g', hg', ha⟩
        · refine Classical.byContradiction fun hne => ?_
          exact hap k j hk hj (fun e => hne e.symm) g (ha ▸ hg1) hg2
        · have := own_lt (h1 j hj) hg2
          rw [hg1] at ha
          injection ha with ha
          omega
      subst hjk
      rcases hw with hw | hw
      · -- in place
        have hA : A j = some ⟨g, 0, none⟩ := by
          rcases (h1 j hj).2 with ⟨h', _⟩ | ⟨g', cap, cur, h', _⟩
          · rw [h'] at hg2; simp [Value.ownBlock] at hg2
          · have : (mrV A c l j).ownBlock = some g' := by rw [h']; rfl
            rw [this] at hg2
            injection hg2 with hg2
            subst hg2
            unfold mrV at h'
            injection h'
        have hv' : v'.ownBlock = some g := hw.1.trans hg1
        obtain ⟨A', c', he, hr⟩ := own_rda ho
        have hA' : A' = some ⟨g, 0, none⟩ := by
          rcases ho.2 with ⟨h', _⟩ | ⟨g', cap, cur, h', _⟩
          · rw [h'] at hv'; simp [Value.ownBlock] at hv'
          · have e1 : v'.ownBlock = some g' := by rw [h']; rfl
            rw [e1] at hv'
            injection hv' with hv'
            subst hv'
            rw [he] at h'
            injection h'
        subst hA'
        rw [hA]
        have hp := h.rda j hj
        rw [hA] at hp
        refine ⟨hp.cap, hp.max, fun e => (by cases e), fun hl => ?_⟩
        obtain ⟨b, o, he2, hc⟩ := hr.cells (by rw [fullL_length] at hl ⊢; omega)
        injection he2 with he2
        injection he2 with e1 e2
        subst e1 e2
        refine ⟨_, _, rfl, fun x hx => ?_⟩
        rw [fullL_length] at hx
        have := hc x (by rw [fullL_length]; omega)
        rw [fullL_get _ _ _ _ (by omega)] at this ⊢
        exact this
      · exact (h.rda j hj).below hw.2
  · refine h.kept.grown hg (fun g hg' => ?_)
    rcases h.at_ k hk with ha | ⟨g', hg'', ha⟩
    · exact .inl ⟨k, hk, ha ▸ hg'⟩
    · rw [ha] at hg'
      injection hg' with hg'
      exact .inr (by omega)
theorem KeptBut.trans {S : Nat → Prop} {w w1 w2 : World} (h : KeptBut S w w1) (k : KeptBut S w1 w2) : KeptBut S w w2 :=
  ⟨k.os.trans h.os, k.tape.trans h.tape, k.output.trans h.output, Nat.le_trans h.size k.size, fun i hi hS => (k.block i (Nat.lt_of_lt_of_le hi h.size) hS).trans (h.block i hi hS)⟩
/-- A row of another kind turns. -/
theorem Marks2.other {V : Nat → Value} (h : Marks2 base e N A c l w1 wr V k i) (h1 : ∀ j, j < N → Own8 w1 base e (mrV A c l j) (fullL l 0 j)) {T : TypeId} (hT : T ≠ e) {v : Value} {n : Nat} {xs : List Value} (ho : wr.ownsRow w1.heap.size T 1 v n xs) {w' : World} (hg : wr.grownBy w' v.ownBlock) :
    Marks2 base e N A c l w1 w' V k i := by
  have hne : ∀ g, v.ownBlock = some g → w1.heap.size ≤ g ∧ ∃ cur, wr.heap[g]? = some (.cells cur T (0, 0)) := by
    intro g hg
    rcases ho.2 with ⟨rfl, _⟩ | ⟨g', cap, cur, rfl, hb, hh, _⟩
    · simp [Value.ownBlock] at hg
    · have : g' = g := by simpa [Value.ownBlock] using hg
      subst this
      exact ⟨hb, cur, hh⟩
  refine ⟨fun j hj => (h.own j hj).keptBy hg (fun b hb hcon => ?_), h.at_, h.apart, fun j hj => (h.rda j hj).grown hg (fun a ha hcon => ?_), h.kept.grown hg (fun g hg' => .inr (hne g hg').1)⟩
  · obtain ⟨_, cur, hh⟩ := hne b hcon
    obtain ⟨cu, hh2⟩ := own8_block_type (h.own j hj) hb
    rw [hh] at hh2
    injection hh2 with hh2
    injection hh2 with _ hh2
    exact hT hh2
  · have h3 := (hne a.block hcon.symm).1
    have h4 := own_lt (h1 j hj) (g := a.block) (by simp [mrV, ha, Value.ownBlock])
    omega
theorem Marks1.full (h : Marks1 base e N A c l w0 wr N 0) : ∀ j, j < N → Own8 wr base e (mrV A c l j) (fullL l 0 j) := fun j hj => by
  have := h.own j hj
  unfold phL at this
  rwa [if_pos hj] at this
/-- The row of rows, lengthened by another's: it is of another kind, so it stays. -/
theorem long_kept {V : Nat → Value} (h : Marks2 base e N A c l w1 wr V k i) (hk : k < N) {T : TypeId} (hT : T ≠ e) {v : Value} {n : Nat} {xs : List Value} (ho : wr.ownsRow w1.heap.size T 1 v n xs) {w' : World} (hg : wr.grownBy w' (V k).ownBlock) :
    w'.ownsRow w1.heap.size T 1 v n xs := by
  refine ho.kept hg ?_
  cases hv : v.ownBlock with
  | none => exact .inl rfl
  | some g =>
    refine .inr fun hcon => ?_
    obtain ⟨cu, hh2⟩ := own8_block_type (h.own k hk) hcon.symm
    rcases ho.2 with ⟨rfl, _⟩ | ⟨g', cap, cur, rfl, hb, hh, _⟩
    · simp [Value.ownBlock] at hv
    · have : g' = g := by simpa [Value.ownBlock] using hv
      subst this
      rw [hh] at hh2
      injection hh2 with hh2
      injection hh2 with _ hh2
      exact hT hh2
theorem range_map_upd {V : Nat → Value} (k : Nat) (v : Value) : (List.range k).map (fun j => if j = k then v else V j) = (List.range k).map V := by
  refine List.map_congr_left fun j hj => ?_
  have : j < k := by simpa using hj
  rw [if_neg (by omega)]
end
end Go.Tm
