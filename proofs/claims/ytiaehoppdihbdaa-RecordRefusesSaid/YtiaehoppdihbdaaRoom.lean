import Derived.Test.YtiaehoppdihbdaaPool
import Derived.ArgAppend
import Derived.Lib.ConvBytes
import Derived.Deep.Upon
/- A row with room: '[]byte(s)', and an append onto it. -/
set_option linter.unusedVariables false
set_option linter.unusedSimpArgs false
namespace Go.Tm
open Go.RowKit

/-- The slice lies at the head of block g (from base on), reads as l, and all its cells may be written. -/
structure RoomR (w : World) (base g c : Nat) (l : List UInt8) : Prop where
  base_ : base ≤ g
  lt : g < w.heap.size
  cap : l.length ≤ c
  max : c ≤ maxLen
  cells : ∀ j, j < l.length → w.cell? ⟨g, j, none⟩ = some (.int .u8 ((l.getD j 0).toNat : Int))
  there : ∀ j, j < c → (w.cell? ⟨g, j, none⟩).isSome = true ∧ w.frozen? ⟨g, j, none⟩ = false
section
variable {w w' : World} {base g c : Nat} {l : List UInt8}
theorem RoomR.rda (h : RoomR w base g c l) : Rda w (some ⟨g, 0, none⟩) c l :=
  ⟨h.cap, h.max, fun e => (by cases e), fun _ => ⟨g, 0, rfl, fun j hj => by rw [Nat.zero_add]; exact h.cells j hj⟩⟩
theorem RoomR.grown (h : RoomR w base g c l) {row : Option Nat} (hg : w.grownBy w' row) (hne : row ≠ some g) : RoomR w' base g c l := by
  have hb := hg.block g h.lt (fun e => hne e.symm)
  have hc : ∀ j, w'.cell? ⟨g, j, none⟩ = w.cell? ⟨g, j, none⟩ := fun j => World.cell?_of_block (a := ⟨g, j, none⟩) hb
  have hf : ∀ j, w'.frozen? ⟨g, j, none⟩ = w.frozen? ⟨g, j, none⟩ := fun j => World.frozen?_of_block (a := ⟨g, j, none⟩) hb
  exact ⟨h.base_, Nat.lt_of_lt_of_le h.lt hg.size, h.cap, h.max, fun j hj => (hc j).trans (h.cells j hj), fun j hj => by rw [hc, hf]; exact h.there j hj⟩
theorem RoomR.below (h : RoomR w base g c l) (hb : Below w.heap.size w w') : RoomR w' base g c l := h.grown (below_grown hb none) (by simp)
theorem RoomR.keptBut (h : RoomR w base g c l) {S : Nat → Prop} (hk : KeptBut S w w') (hS : ¬ S g) : RoomR w' base g c l := by
  have hb := hk.block g h.lt hS
  have hc : ∀ j, w'.cell? ⟨g, j, none⟩ = w.cell? ⟨g, j, none⟩ := fun j => World.cell?_of_block (a := ⟨g, j, none⟩) hb
  have hf : ∀ j, w'.frozen? ⟨g, j, none⟩ = w.frozen? ⟨g, j, none⟩ := fun j => World.frozen?_of_block (a := ⟨g, j, none⟩) hb
  exact ⟨h.base_, Nat.lt_of_lt_of_le h.lt hk.size, h.cap, h.max, fun j hj => (hc j).trans (h.cells j hj), fun j hj => by rw [hc, hf]; exact h.there j hj⟩
theorem RoomR.of_own {e : TypeId} (h : Own8 w base e (.slice (some ⟨g, 0, none⟩) l.length c) l) : RoomR w base g c l := by
  have hr := (own_at h).2
  rcases h.2 with ⟨h', _⟩ | ⟨g', cap, cur, h', hb, hh, hnc, hcm, hcs, ht⟩
  · cases h'
  · injection h' with h1 h2 h3
    injection h1 with h1
    injection h1 with h1
    subst h1 h3
    refine ⟨hb, (Array.getElem?_eq_some_iff.1 hh).1, hnc, hcm, fun j hj => h.cellAt rfl j hj, fun j hj => ⟨?_, ?_⟩⟩
    · rw [cell_of_row w g j cur e (0, 0) hh, Array.getElem?_eq_getElem (by rw [hcs]; omega)]
      rfl
    · simp [World.frozen?, hh]
theorem RoomR.stored (h : RoomR w base g c l) (j : Nat) (hj : j < l.length) (b : UInt8) :
    RoomR (w.setCell ⟨g, j, none⟩ (.int .u8 (b.toNat : Int))) base g c (l.set j b) ∧ w.grownBy (w.setCell ⟨g, j, none⟩ (.int .u8 (b.toNat : Int))) (some g) := by
  refine ⟨⟨h.base_, by simpa [World.setCell] using h.lt, by simpa using h.cap, h.max, fun i hi => ?_, fun i hi => ⟨?_, ?_⟩⟩, cell_grown w g j _⟩
  · rw [List.length_set] at hi
    by_cases hij : i = j
    · subst hij
      rw [World.cell?_setCell_same' _ _ _ (h.there i (Nat.lt_of_lt_of_le hi h.cap)).1]
      simp [List.getD, hi]
    · rw [World.cell?_setCell_other _ _ _ _ (by simp [hij]), h.cells i hi]
      simp [List.getD, List.getElem?_set, Ne.symm hij]
  · by_cases hij : i = j
    · subst hij
      rw [World.cell?_setCell_same' _ _ _ (h.there i hi).1]
      rfl
    · rw [World.cell?_setCell_other _ _ _ _ (by simp [hij])]
      exact (h.there i hi).1
  · rw [World.frozen?_setCell]
    exact (h.there i hi).2
end

theorem wpList_convBytes {P : Program} {w : World} {ops : Array Oper} {rest : List Oper} {o : Oper} {a : Act} {Q : Exit → Act → World → Prop} (hgd : o.guard = none) (x : Operand) {t e ts : TypeId}
    (ho : o.op = .convert ts t x) (hU : U8 P t e) (hs : P.underlying ts = some .string) {l : List UInt8} (hx : a.eval x = .string (S8 l)) (hl : l.length ≤ 140737488355328)
    (h : ∀ c w', RoomR w' w.heap.size w.heap.size c l → Below w.heap.size w w' → wpList P ops Q rest (a.put o.dst (.slice (some ⟨w.heap.size, 0, none⟩) l.length c)) w') : wpList P ops Q (o :: rest) a w := by
  refine wpList_plain hgd fun K hK => ?_
  have hrun := Lib.run_convert_string_bytes (P := P) w ts t e (S8 l) hs hU.slice hU.int
  have hsz : (S8 l).size = l.length := by simp [S8, ByteArray.size]
  rw [hsz] at hrun
  have hge := grownCap_ge w l.length 0 e
  have hle := grownCap_le_maxLen w l.length 0 e (by unfold maxLen; omega)
  unfold Oper.wp
  simp [execOp, ho, hx, hrun, Result.andThen]
  have hnew := Lib.bytesWorld_at_new w e (S8 l)
  have hcsz : (Lib.bytesCells w e (S8 l)).size = grownCap w l.length 0 e := by
    simp only [Lib.bytesCells, Array.size_append, Array.size_map, Array.size_replicate, hsz]
    have : (S8 l).data.size = l.length := by simp [S8]
    omega
  refine hK _ _ (h _ _ ⟨Nat.le_refl _, by rw [Lib.bytesWorld_size]; omega, hge, hle, fun j hj => ?_, fun j hj => ⟨?_, ?_⟩⟩ ?_)
  · rw [Lib.bytesWorld_cell w e (S8 l) j (by rw [hsz]; exact hj)]
    simp [S8]
  · simp only [World.cell?, hnew]
    rw [Array.getElem?_eq_getElem (by rw [hcsz]; exact hj)]
    rfl
  · simp only [World.frozen?, hnew, hcsz]
    simp
    omega
  · refine ⟨?_, ?_, ?_, by rw [Lib.bytesWorld_size]; omega, fun k hk => Lib.bytesWorld_at_old w e (S8 l) k hk⟩ <;> (unfold Lib.bytesWorld World.freeze; rw [if_neg (by decide)]; rfl)

theorem wpList_appRoom {P : Program} {w : World} {ops : Array Oper} {rest : List Oper} {o : Oper} {a : Act} {Q : Exit → Act → World → Prop} (hgd : o.guard = none) (s x : Operand) {t e : TypeId}
    (ho : o.op = .call { callee := .builtin .append, args := #[s, x], argTypes := #[t, t] }) (hU : U8 P t e)
    {base g cp : Nat} {l m : List UInt8} (hs : a.eval s = .slice (some ⟨g, 0, none⟩) l.length cp) (hown : RoomR w base g cp l) {A : Option Addr} {n c : Nat} (hx : a.eval x = .slice A n c) (hn : n = m.length) (hm : Rda w A c m) (hm0 : 0 < m.length)
    (hb : l.length + m.length ≤ 140737488355328) (hbase : base ≤ w.heap.size)
    (h : ∀ g' c' w', RoomR w' base g' c' (l ++ m) → (g' = g ∨ w.heap.size ≤ g') → w.grownBy w' (some g) → wpList P ops Q rest (a.put o.dst (.slice (some ⟨g', 0, none⟩) (l.length + m.length) c')) w') : wpList P ops Q (o :: rest) a w := by
  subst hn
  obtain ⟨i, hi, hz, hsz, hby⟩ := hU.info
  obtain ⟨b, o', rfl, _⟩ := hm.cells hm0
  refine wpList_append_arg (P := P) w hgd s x t ho e i _ 1 1 hU.slice hi hz hsz hby rfl (by omega) g 0 l.length cp (B8 l) hs (by simp [B8_length]) (fun j u hj => ?_) ⟨b, o', none⟩ m.length c (B8 m) hx (by simp [B8_length]) hm.news (B8_one m) (fun hr j hj => ?_) (by unfold maxLen; omega) (by omega) (fun hr => ?_) (fun hr v' w' hown' hg => ?_)
  · obtain ⟨hjl, rfl⟩ := B8_get l j u hj
    rw [Nat.zero_add]
    exact hown.cells j hjl
  · rw [B8_length] at hj
    have := hown.there (l.length + j) (by omega)
    rw [show 0 + l.length * 1 + j = l.length + j by omega]
    exact this
  · have hth : ∀ j, j < (B8 m).length → (w.cell? ⟨g, l.length + j, none⟩).isSome = true := fun j hj => by rw [B8_length] at hj; exact (hown.there (l.length + j) (by omega)).1
    have e0 : 0 + l.length * 1 = l.length := by omega
    rw [e0]
    refine h g cp _ ⟨hown.base_, ?_, by rw [List.length_append]; exact hr, hown.max, fun j hj => ?_, fun j hj => ⟨?_, ?_⟩⟩ (.inl rfl) ⟨?_, ?_, ?_, ?_, fun k hk hne => World.heap_setCells_other w g _ _ hk (fun e => hne (by rw [e]))⟩
    · have hsz2 : ∀ (vs : List Value) (k : Nat) (W : World), (W.setCells g k vs).heap.size = W.heap.size := by
        intro vs
        induction vs with
        | nil => intro k W; rfl
        | cons v r ih => intro k W; rw [World.setCells, ih]; simp [World.setCell]
      rw [hsz2]; exact hown.lt
    · by_cases hjl : j < l.length
      · rw [World.cell?_setCells_out g (B8 m) l.length w ⟨g, j, none⟩ (fun _ _ => .inl hjl), hown.cells j hjl]
        simp [List.getD, List.getElem?_append_left hjl]
      · rw [List.length_append] at hj
        obtain ⟨q, rfl⟩ : ∃ q, j = l.length + q := ⟨j - l.length, by omega⟩
        rw [World.cell?_setCells_in g (B8 m) l.length w hth q (by rw [B8_length]; omega), getD_append_right]
        have := B8_at m q (by omega)
        rw [List.getElem?_eq_getElem (by rw [B8_length]; omega)] at this
        exact this
    · have h1 := (hown.there j hj).1
      by_cases hin : l.length ≤ j ∧ j < l.length + (B8 m).length
      · obtain ⟨q, rfl⟩ : ∃ q, j = l.length + q := ⟨j - l.length, by omega⟩
        rw [World.cell?_setCells_in g (B8 m) l.length w hth q (by omega)]
        rfl
      · rw [World.cell?_setCells_out g (B8 m) l.length w ⟨g, j, none⟩ (fun _ _ => by show j < l.length ∨ _ ≤ j; omega)]
        exact h1
    · rw [World.frozen?_setCells]
      exact (hown.there j hj).2
    · exact World.os_setCells _ _ _ _
    · have ht : ∀ (vs : List Value) (k : Nat) (W : World), (W.setCells g k vs).tape = W.tape := by
        intro vs
        induction vs with
        | nil => intro k W; rfl
        | cons v r ih => intro k W; rw [World.setCells, ih]; rfl
      exact ht _ _ _
    · exact World.output_setCells _ _ _ _
    · have hsz2 : ∀ (vs : List Value) (k : Nat) (W : World), (W.setCells g k vs).heap.size = W.heap.size := by
        intro vs
        induction vs with
        | nil => intro k W; rfl
        | cons v r ih => intro k W; rw [World.setCells, ih]; simp [World.setCell]
      rw [hsz2]; exact Nat.le_refl _
  · have hO : Own8 w' w.heap.size e v' (l ++ m) := by unfold Own8; rw [List.length_append, B8_append]; exact hown'
    obtain ⟨A', c', rfl, hr'⟩ := own_rda hO
    obtain ⟨g', rfl, hgb⟩ := Own8.block hO (by rw [List.length_append]; omega)
    have hR := RoomR.of_own hO
    rw [List.length_append]
    refine h g' c' w' ⟨Nat.le_trans hbase hR.base_, hR.lt, hR.cap, hR.max, hR.cells, hR.there⟩ (.inr hgb) ⟨hg.os, hg.tape, hg.output, hg.size, fun k hk hne => hg.block k hk (by simp)⟩
end Go.Tm
