import Derived.WalkKit
import Derived.IntWalk
import Derived.Lib.Hide
import Derived.Laws.BytesArg
import Derived.Laws.AppendOwnNone
import Derived.KernelRfl
import Derived.Lib.EndianBits
import Derived.Lib.AppendZeros
import Derived.StillTailTactics
import Derived.Deep.QuietTactic
import Derived.BigQuiet
import Derived.WalkSpells
import Derived.WalkLawsBesides
/- Bytes that a slice reads as, and rows of bytes that a call owns: the words and laws of this seat's walks. Nothing of the program stands here. -/
set_option linter.unusedVariables false
set_option linter.unusedSimpArgs false
namespace Go.Tm
open Go.RowKit

/-- The cells of a list of bytes. -/
def B8 (l : List UInt8) : List Value := l.map fun b => .int .u8 (b.toNat : Int)
theorem B8_length (l : List UInt8) : (B8 l).length = l.length := by simp [B8]
theorem B8_append (l m : List UInt8) : B8 (l ++ m) = B8 l ++ B8 m := by simp [B8]
theorem B8_get (l : List UInt8) (j : Nat) (u : Value) (h : (B8 l)[j]? = some u) : j < l.length ∧ u = .int .u8 ((l.getD j 0).toNat : Int) := by
  have hj : j < l.length := by
    rcases Nat.lt_or_ge j l.length with h' | h'
    · exact h'
    · rw [List.getElem?_eq_none (by rw [B8_length]; exact h')] at h; cases h
  refine ⟨hj, ?_⟩
  simp [B8, List.getElem?_eq_getElem hj] at h
  simp [List.getD, List.getElem?_eq_getElem hj, h]
theorem B8_at (l : List UInt8) (j : Nat) (hj : j < l.length) : (B8 l)[j]? = some (.int .u8 ((l.getD j 0).toNat : Int)) := by
  simp [B8, List.getElem?_eq_getElem hj, List.getD]
theorem B8_one (l : List UInt8) : ∀ u ∈ B8 l, u.oneCell' = true := by
  intro u hu
  obtain ⟨b, _, rfl⟩ := List.mem_map.1 hu
  rfl
theorem B8_set (l : List UInt8) (j : Nat) (b : UInt8) : B8 (l.set j b) = (B8 l).set j (.int .u8 (b.toNat : Int)) := by simp [B8, List.map_set]
theorem B8_inj {l m : List UInt8} (h : B8 l = B8 m) : l = m := by
  have hf : Function.Injective (fun b : UInt8 => Value.int .u8 (b.toNat : Int)) := by
    intro a b hab
    simp at hab
    exact UInt8.toNat_inj.1 (by omega)
  unfold B8 at h
  exact (List.map_inj_right (fun a b hab => hf hab)).1 h

/-- The string of a list of bytes. -/
def S8 (l : List UInt8) : ByteArray := ⟨l.toArray⟩
theorem S8_inj {l m : List UInt8} (h : S8 l = S8 m) : l = m := by
  unfold S8 at h
  injection h with h
  exact List.toArray_inj h

theorem S8_toList (l : List UInt8) : (S8 l).toList = l := by
  rw [ByteArray.toList_eq]
  rfl
@[go_sem] theorem s8_beq (l k : List UInt8) : ((S8 l).toList == (S8 k).toList) = decide (l = k) := by
  rw [S8_toList, S8_toList]
  by_cases h : l = k
  · simp [h]
  · simp [h]
/-- 'The slice of address A, length l.length and capacity c reads as the bytes l.' -/
structure Rda (w : World) (A : Option Addr) (c : Nat) (l : List UInt8) : Prop where
  cap : l.length ≤ c
  max : c ≤ maxLen
  nil : A = none → c = 0
  cells : 0 < l.length → ∃ b o, A = some ⟨b, o, none⟩ ∧ ∀ j, j < l.length → w.cell? ⟨b, o + j, none⟩ = some (.int .u8 ((l.getD j 0).toNat : Int))

theorem add_plain (g o j : Nat) : (⟨g, o, none⟩ : Addr).add j = ⟨g, o + j, none⟩ := by unfold Addr.add; split <;> simp_all

theorem Rda.news {w : World} {a : Addr} {c : Nat} {l : List UInt8} (h : Rda w (some a) c l) : ∀ j u, (B8 l)[j]? = some u → w.cell? (a.add j) = some u := by
  intro j u hu
  obtain ⟨hj, rfl⟩ := B8_get l j u hu
  obtain ⟨b, o, e, hc⟩ := h.cells (by omega)
  obtain rfl : a = ⟨b, o, none⟩ := by simpa using e
  rw [add_plain]
  exact hc j hj

theorem Rda.kept {w w' : World} {A : Option Addr} {c : Nat} {l : List UInt8} (h : Rda w A c l) (hk : ∀ b o, A = some ⟨b, o, none⟩ → ∀ (j : Nat) (v : Value), w.cell? ⟨b, j, none⟩ = some v → w'.cell? ⟨b, j, none⟩ = some v) : Rda w' A c l :=
  ⟨h.cap, h.max, h.nil, fun hl => by
    obtain ⟨b, o, e, hc⟩ := h.cells hl
    exact ⟨b, o, e, fun j hj => hk b o e (o + j) _ (hc j hj)⟩⟩
theorem Rda.below {w w' : World} {A : Option Addr} {c : Nat} {l : List UInt8} (h : Rda w A c l) (hb : Below w.heap.size w w') : Rda w' A c l :=
  h.kept fun b o _ j v hj => (hb.cell (p := ⟨b, j, none⟩) (World.block_lt_of_cell? w _ hj)).trans hj
theorem Rda.grown {w w' : World} {A : Option Addr} {c : Nat} {l : List UInt8} (h : Rda w A c l) {row : Option Nat} (hg : w.grownBy w' row) (hne : ∀ a, A = some a → some a.block ≠ row) : Rda w' A c l :=
  h.kept fun b o e j v hj => hg.cell hj (hne ⟨b, o, none⟩ e)
theorem Rda.alloc {w : World} {A : Option Addr} {c : Nat} {l : List UInt8} (h : Rda w A c l) (o : Obj) : Rda (w.alloc o) A c l := h.below ((Below.refl _ _).alloc (Nat.le_refl _) o)
theorem Rda.drew {w : World} {A : Option Addr} {c : Nat} {l : List UInt8} (h : Rda w A c l) : Rda w.drew A c l := h.below (Below.refl _ _).drew
theorem Rda.nilRow (w : World) : Rda w none 0 [] := ⟨Nat.le_refl _, by unfold maxLen; omega, fun _ => rfl, fun h => by simp at h⟩
/-- A piece of a slice. -/
theorem Rda.piece {w : World} {b o c : Nat} {l : List UInt8} (h : Rda w (some ⟨b, o, none⟩) c l) (lo hi mx : Nat) (h1 : lo ≤ hi) (h2 : hi ≤ l.length) (h3 : hi ≤ mx) (h4 : mx ≤ c) (o' : Nat) (ho : lo < hi → o' = o + lo) :
    Rda w (some ⟨b, o', none⟩) (mx - lo) ((l.take hi).drop lo) := by
  have hlen : ((l.take hi).drop lo).length = hi - lo := by simp; omega
  have hm := h.max
  refine ⟨by omega, by omega, fun e => (by cases e), fun hp => ⟨b, o', rfl, fun j hj => ?_⟩⟩
  rw [hlen] at hj hp
  rw [ho (by omega)]
  obtain ⟨b', o'', e, hc⟩ := h.cells (by omega)
  obtain ⟨rfl, rfl⟩ : b = b' ∧ o = o'' := by simpa using e
  rw [Nat.add_assoc, hc _ (by omega)]
  simp [List.getD, List.getElem?_drop, List.getElem?_take, show lo + j < hi by omega]

/-- The one byte that 'append(out, c)' lays into a block of its own. -/
theorem Rda.box (w : World) (e : TypeId) (n : Int) (b : UInt8) (h : n = (b.toNat : Int)) : Rda (w.alloc (.cells #[.int .u8 n] e)) (some ⟨w.heap.size, 0, none⟩) 1 [b] := by
  subst h
  refine ⟨Nat.le_refl _, by unfold maxLen; omega, fun e => (by cases e), fun _ => ⟨w.heap.size, 0, rfl, fun j hj => ?_⟩⟩
  have : j = 0 := by simpa using hj
  subst this
  rw [World.cell?_alloc_at _ _ _ _ rfl]
  rfl
theorem tmByte (x : Int) (h0 : 0 ≤ x) (k : Nat) : x / 256 ^ k % 256 = ((UInt8.ofNat (x.toNat / 256 ^ k % 256)).toNat : Int) := by
  obtain ⟨n, rfl⟩ := Int.eq_ofNat_of_zero_le h0
  rw [UInt8.toNat_ofNat_of_lt' (by have := Nat.mod_lt (n / 256 ^ k) (show 0 < 256 by omega); simpa [UInt8.size] using this)]
  simp
theorem div_step (x : Int) (k : Nat) : x / 256 ^ k / 256 = x / 256 ^ (k + 1) := by
  rw [Int.pow_succ, Int.ediv_ediv_of_nonneg (Int.pow_nonneg (by omega))]
theorem tmByte0 (x : Int) (h0 : 0 ≤ x) (h1 : x < 256) : x = ((UInt8.ofNat x.toNat).toNat : Int) := by
  rw [UInt8.toNat_ofNat_of_lt' (by simp [UInt8.size]; omega)]
  omega

/-- What is known of the type '[]byte'. -/
structure U8 (P : Program) (t e : TypeId) : Prop where
  slice : P.underlying t = some (.slice e)
  int : P.underlying e = some (.int .u8)
  info : ∃ i, P.info? e = some i ∧ i.zero = some (.int .u8 0) ∧ i.size = 1 ∧ i.bytes = 1

section
variable {P : Program} (w : World)

@[go_sem] theorem run_eql_sl_nil (t : TypeId) (a : Option Addr) (n c : Nat) (h : P.underlying t = some (.slice (P.elem t))) :
    (binOp .eql t (.slice a n c) (.slice none 0 0)).run P w = .ok (.bool a.isNone) w := Lib.run_eql_slice_nil w _ _ a n c 0 0 h
@[go_sem] theorem run_neq_sl_nil (t : TypeId) (a : Option Addr) (n c : Nat) (h : P.underlying t = some (.slice (P.elem t))) :
    (binOp .neq t (.slice a n c) (.slice none 0 0)).run P w = .ok (.bool (!a.isNone)) w := run_neq_slice_nil_any w _ _ a n c 0 0 h

theorem run_conv_rd {t e : TypeId} (hU : U8 P t e) {A : Option Addr} {c : Nat} {l : List UInt8} (h : Rda w A c l) (n : Nat) (hn : n = l.length) :
    ∀ dst, P.underlying dst = some .string → (convert t dst (.slice A n c)).run P w = .ok (.string (S8 l)) w := by
  subst hn
  intro dst hd
  cases A with
  | none =>
    have h0 := h.nil rfl
    have hl : l = [] := List.eq_nil_of_length_eq_zero (by have := h.cap; omega)
    subst hl
    rw [run_convert_bytes_nil w t e hU.slice hU.int _ _ dst hd]
    rfl
  | some a =>
    by_cases h0 : l = []
    · subst h0
      rw [run_convert_bytes_string w t dst e _ _ c hU.slice hU.int hd]
      have := run_bytesToString (P := P) w a 0 c [] (by simp [loadCells, loadCellsFrom])
      rw [List.length_nil, this]
      rfl
    · obtain ⟨b, o, e', hc⟩ := h.cells (List.length_pos_iff.2 h0)
      obtain rfl : a = ⟨b, o, none⟩ := by simpa using e'
      rw [run_convert_bytes_arg w t e hU.slice hU.int b o l.length c (l.map fun u => (u.toNat : Int)) (by simp) (fun i hi => by rw [hc i hi]; simp [List.getD, List.getElem?_eq_getElem hi]) dst hd]
      congr 2
      unfold strOfNums S8
      congr 2
      simp [Function.comp_def]

/-- The bytes l, in a row of one's own (from block base on). -/
def Own8 (w : World) (base : Nat) (e : TypeId) (v : Value) (l : List UInt8) : Prop := w.ownsRow base e 1 v l.length (B8 l)

theorem ownNone {base : Nat} {e : TypeId} {v : Value} {n : Nat} {xs : List Value} (h : w.ownsRow base e 1 v n xs) : v.ownBlock = none ∨ ∃ k, v.ownBlock = some k ∧ base ≤ k ∧ k < w.heap.size := by
  cases hv : v.ownBlock with
  | none => exact .inl rfl
  | some k => exact .inr ⟨k, rfl, h.lt k hv⟩

/-- append of what a slice reads as, onto a row of one's own. -/
theorem run_app {t e ty : TypeId} (hU : U8 P t e) {base : Nat} {v : Value} {l m : List UInt8} (hown : Own8 w base e v l) {A : Option Addr} {c : Nat} (hm : Rda w A c m)
    (hb : l.length + m.length ≤ 140737488355328) (hbase : base ≤ w.heap.size) :
    ∃ v' w', (Builtin.append_ #[t, t] ty #[v, .slice A m.length c]).run P w = .ok v' w' ∧ Own8 w' base e v' (l ++ m) ∧ w.grownBy w' v.ownBlock := by
  obtain ⟨i, hi, hz, hs, hby⟩ := hU.info
  cases A with
  | none =>
    have h0 := hm.nil rfl
    subst h0
    have hl : m = [] := List.eq_nil_of_length_eq_zero (by have := hm.cap; omega)
    subst hl
    refine ⟨v, w, run_append_owned_none w base t ty e i 1 hU.slice hi v _ _ hown, by simpa using hown, ⟨rfl, rfl, rfl, Nat.le_refl _, fun _ _ _ => rfl⟩⟩
  | some a =>
    obtain ⟨v', w', h1, h2, h3, _⟩ := run_append_own (P := P) w base t ty e i _ 1 1 hU.slice hi hz hs hby rfl (by omega) v l.length (B8 l) hown a m.length c (B8 m) (by simp [B8_length]) hm.news (B8_one m) (by unfold maxLen; omega) (by omega) hbase
    exact ⟨v', w', h1, by unfold Own8; rw [List.length_append, B8_append]; exact h2, h3⟩

theorem wpList_app {ops : Array Oper} {rest : List Oper} {o : Oper} {a : Act} {Q : Exit → Act → World → Prop} (hgd : o.guard = none) (s x : Operand) {t e : TypeId}
    (ho : o.op = .call { callee := .builtin .append, args := #[s, x], argTypes := #[t, t] }) (hU : U8 P t e)
    {base : Nat} {v : Value} {l m : List UInt8} (hs : a.eval s = v) (hown : Own8 w base e v l) {A : Option Addr} {n c : Nat} (hx : a.eval x = .slice A n c) (hn : n = m.length) (hm : Rda w A c m)
    (hb : l.length + m.length ≤ 140737488355328) (hbase : base ≤ w.heap.size)
    (h : ∀ v' w', Own8 w' base e v' (l ++ m) → w.grownBy w' v.ownBlock → wpList P ops Q rest (a.put o.dst v') w') : wpList P ops Q (o :: rest) a w := by
  subst hn
  refine wpList_plain hgd fun K hK => ?_
  obtain ⟨v', w', hrun, h2, h3⟩ := run_app (P := P) w (ty := o.type) hU hown hm hb hbase
  unfold Oper.wp execOp
  simp only [ho, resolve, invoke, builtin, Sem.run_bind, Sem.run_pure, Result.andThen_ok, List.map_toArray, List.map_cons, List.map_nil, hs, hx, hrun]
  exact hK _ _ (h v' w' h2 h3)
end

/-- A bound of a slice expression: left out, or a number. -/
inductive Bd : Option Value → Nat → Nat → Prop
  | no (d : Nat) : Bd none d d
  | at (k : IntKind) (x : Int) (d n : Nat) (h : x = (n : Int)) : Bd (some (.int k x)) d n

/-- A piece of a slice, whatever its address: the address, the block kept. -/
def pieceAt (A : Option Addr) (lo mx : Nat) : Option Addr := if mx = lo then A else A.map (·.add lo)
theorem sliced_one (A : Option Addr) (l h m : Nat) : sliced A l h m 1 = .slice (pieceAt A l m) (h - l) (m - l) := by simp [sliced, pieceAt]
theorem sliced_head (A : Option Addr) (h m : Nat) : sliced A 0 h m 1 = .slice A h m := by
  unfold sliced
  split
  · simp
  · cases A <;> simp [Addr.add]
section
variable {P : Program} (w : World) (t : TypeId) (a : Option Addr) (len cap : Nat)
/-- The model's own laws on a slice expression over one-cell elements, without an 'if'. -/
@[go_sem high] theorem slice1_lh (hs : (sizeOf (P.elem t)).run P w = .ok 1 w) (kl kh : IntKind) (l h : Int) (h0 : 0 ≤ l) (h1 : l ≤ h) (h2 : h ≤ cap) (ht : P.underlying t = some (.slice (P.elem t))) :
    (Instr.sliceAt t (.slice a len cap) (some (.int kl l)) (some (.int kh h)) none).run P w = .ok (.slice (pieceAt a l.toNat cap) (h.toNat - l.toNat) (cap - l.toNat)) w := by
  rw [run_sliceAt_slice w t _ _ _ _ ht, run_slice_lh w t a len cap ht kl kh l h h0 h1 h2, hs, ← sliced_one]
  rfl
@[go_sem high] theorem slice1_h (hs : (sizeOf (P.elem t)).run P w = .ok 1 w) (kh : IntKind) (h : Int) (h0 : 0 ≤ h) (h2 : h ≤ cap) (ht : P.underlying t = some (.slice (P.elem t))) :
    (Instr.sliceAt t (.slice a len cap) none (some (.int kh h)) none).run P w = .ok (.slice a h.toNat cap) w := by
  rw [run_sliceAt_slice w t _ _ _ _ ht, run_slice_h w t a len cap ht kh h h0 h2, hs, ← sliced_head]
  rfl
@[go_sem high] theorem slice1_l (hs : (sizeOf (P.elem t)).run P w = .ok 1 w) (kl : IntKind) (l : Int) (h0 : 0 ≤ l) (h1 : l ≤ len) (ht : P.underlying t = some (.slice (P.elem t))) :
    (Instr.sliceAt t (.slice a len cap) (some (.int kl l)) none none).run P w = .ok (.slice (pieceAt a l.toNat cap) (len - l.toNat) (cap - l.toNat)) w := by
  rw [run_sliceAt_slice w t _ _ _ _ ht, run_slice_l w t a len cap ht kl l h0 h1, hs, ← sliced_one]
  rfl
@[go_sem high] theorem slice1_all (hs : (sizeOf (P.elem t)).run P w = .ok 1 w) (ht : P.underlying t = some (.slice (P.elem t))) :
    (Instr.sliceAt t (.slice a len cap) none none none).run P w = .ok (.slice a len cap) w := by
  rw [run_sliceAt_slice w t _ _ _ _ ht, run_slice_all w t a len cap ht, hs, ← sliced_head]
  rfl
@[go_sem high] theorem slice1_lhm (hs : (sizeOf (P.elem t)).run P w = .ok 1 w) (kl kh km : IntKind) (l h m : Int) (h0 : 0 ≤ l) (h1 : l ≤ h) (h2 : h ≤ m) (h3 : m ≤ cap) (ht : P.underlying t = some (.slice (P.elem t))) :
    (Instr.sliceAt t (.slice a len cap) (some (.int kl l)) (some (.int kh h)) (some (.int km m))).run P w = .ok (.slice (pieceAt a l.toNat m.toNat) (h.toNat - l.toNat) (m.toNat - l.toNat)) w := by
  rw [run_sliceAt_slice w t _ _ _ _ ht, run_slice_lhm w t a len cap ht kl kh km l h m h0 h1 h2 h3, hs, ← sliced_one]
  rfl
@[go_sem high] theorem slice1_hm (hs : (sizeOf (P.elem t)).run P w = .ok 1 w) (kh km : IntKind) (h m : Int) (h0 : 0 ≤ h) (h2 : h ≤ m) (h3 : m ≤ cap) (ht : P.underlying t = some (.slice (P.elem t))) :
    (Instr.sliceAt t (.slice a len cap) none (some (.int kh h)) (some (.int km m))).run P w = .ok (.slice a h.toNat m.toNat) w := by
  rw [run_sliceAt_slice w t _ _ _ _ ht, run_slice_hm w t a len cap ht kh km h m h0 h2 h3, hs, ← sliced_head]
  rfl
end
theorem Rda.pieceAt {w : World} {A : Option Addr} {c : Nat} {l : List UInt8} (h : Rda w A c l) (lo hi mx : Nat) (h1 : lo ≤ hi) (h2 : hi ≤ l.length) (h3 : hi ≤ mx) (h4 : mx ≤ c) :
    Rda w (pieceAt A lo mx) (mx - lo) ((l.take hi).drop lo) := by
  have hlen : ((l.take hi).drop lo).length = hi - lo := by simp; omega
  have hm := h.max
  refine ⟨by omega, by omega, fun e => ?_, fun hp => ?_⟩
  · unfold Tm.pieceAt at e
    split at e
    · omega
    · cases A with
      | none => have := h.nil rfl; omega
      | some a => simp at e
  · rw [hlen] at hp
    obtain ⟨b, o, rfl, hc⟩ := h.cells (by omega)
    refine ⟨b, o + lo, ?_, fun j hj => ?_⟩
    · unfold Tm.pieceAt
      rw [if_neg (by omega)]
      simp [add_plain]
    · rw [hlen] at hj
      rw [Nat.add_assoc, hc _ (by omega)]
      simp [List.getD, List.getElem?_drop, List.getElem?_take, show lo + j < hi by omega]
theorem Rda.take {w : World} {A : Option Addr} {c : Nat} {l : List UInt8} (h : Rda w A c l) (m : Nat) (hm : m ≤ l.length) : Rda w A c (l.take m) := by
  have hc := h.cap
  have hlen : (l.take m).length = m := by simp; omega
  refine ⟨by omega, h.max, h.nil, fun hp => ?_⟩
  obtain ⟨b, o, e, hc⟩ := h.cells (by omega)
  refine ⟨b, o, e, fun j hj => ?_⟩
  rw [hlen] at hj
  rw [hc j (by omega)]
  simp [List.getD, List.getElem?_take, hj]
theorem Rda.drop {w : World} {A : Option Addr} {c : Nat} {l : List UInt8} (h : Rda w A c l) (k : Nat) (hk : k ≤ l.length) : Rda w (Tm.pieceAt A k c) (c - k) (l.drop k) := by
  have := h.pieceAt k l.length c hk (Nat.le_refl _) h.cap (Nat.le_refl _)
  simpa using this
theorem pieceAt_block {A : Option Addr} {lo mx : Nat} {a : Addr} (h : pieceAt A lo mx = some a) : ∃ a0, A = some a0 ∧ a.block = a0.block := by
  unfold pieceAt at h
  split at h
  · exact ⟨a, h, rfl⟩
  · cases A with
    | none => simp at h
    | some a0 =>
      simp at h
      subst h
      exact ⟨a0, rfl, by unfold Addr.add; split <;> rfl⟩

theorem run_slice8 {P : Program} {t e : TypeId} (hU : U8 P t e) (w : World) {A : Option Addr} {n c : Nat} (lv hv mv : Option Value) (L H M : Nat) (bL : Bd lv 0 L) (bH : Bd hv n H) (bM : Bd mv c M) (hmh : mv = none ∨ hv ≠ none)
    (h1 : L ≤ H) (h2 : H ≤ M) (h3 : M ≤ c) : (Instr.slice t (.slice A n c) lv hv mv).run P w = .ok (.slice (pieceAt A L M) (H - L) (M - L)) w := by
  obtain ⟨i, hi, hz, hs, hby⟩ := hU.info
  have hsz : (sizeOf e).run P w = .ok 1 w := by simp [sizeOf, typeInfo, hi, hs]
  have c1 : (L : Int) ≤ (H : Int) := by omega
  have c2 : (H : Int) ≤ (M : Int) := by omega
  have c3 : (M : Int) ≤ (c : Int) := by omega
  have c4 : (H : Int) ≤ (c : Int) := by omega
  cases bL <;> cases bH <;> cases bM <;>
    first
    | (simp at hmh; done)
    | (subst_vars
       simp [Instr.slice, run_underlying hU.slice, Instr.sliceBounds, run_sliceBound, hsz, c1, c2, c3, c4, pieceAt])

theorem wpList_slice8 {P : Program} {w : World} {ops : Array Oper} {rest : List Oper} {o : Oper} {a : Act} {Q : Exit → Act → World → Prop} (hgd : o.guard = none) {t e : TypeId} (x : Operand) (lo hi mx : Option Operand)
    (ho : o.op = .slice t x lo hi mx) (hU : U8 P t e) {A : Option Addr} {n c : Nat} {l : List UInt8} (hx : a.eval x = .slice A n c) (hn : n = l.length) (hA : Rda w A c l)
    {lv hv mv : Option Value} (hlo : lo.map a.eval = lv) (hhi : hi.map a.eval = hv) (hmx : mx.map a.eval = mv) {L H M : Nat} (bL : Bd lv 0 L) (bH : Bd hv n H) (bM : Bd mv c M) (hmh : mv = none ∨ hv ≠ none)
    (h1 : L ≤ H) (h2 : H ≤ l.length) (h3 : H ≤ M) (h4 : M ≤ c)
    (h : Rda w (pieceAt A L M) (M - L) ((l.take H).drop L) → wpList P ops Q rest (a.put o.dst (.slice (pieceAt A L M) (H - L) (M - L))) w) : wpList P ops Q (o :: rest) a w := by
  refine wpList_plain hgd fun K hK => ?_
  have hrun := run_slice8 (P := P) hU w (A := A) lv hv mv L H M bL bH bM hmh h1 h3 h4
  have hrun2 : (Instr.sliceAt t (.slice A n c) lv hv mv).run P w = .ok (.slice (pieceAt A L M) (H - L) (M - L)) w := by
    rw [← hrun]
    simp [Instr.sliceAt, run_underlying hU.slice]
  subst hlo hhi hmx
  unfold Oper.wp
  simp [execOp, ho, hx, hrun2, Result.andThen]
  exact hK _ _ (h (hA.pieceAt L H M h1 h2 h3 h4))

/-- The walk's guard at a slice expression. -/
theorem at_slice {P : Program} {w : World} {ops : Array Oper} {rest : List Oper} {d : Option Tmp} {t ty : TypeId} {x : Operand} {lo hi mx : Option Operand} {pos : String} {af : Array Edge} {g : Option (Nat × Bool)} {a : Act} {Q : Exit → Act → World → Prop}
    (h : wpList P ops Q ({ dst := d, op := .slice t x lo hi mx, type := ty, pos := pos, after := af, guard := g } :: rest) a w) : wpList P ops Q ({ dst := d, op := .slice t x lo hi mx, type := ty, pos := pos, after := af, guard := g } :: rest) a w := h

/-- A row that is owned reads as its bytes. -/
theorem own_rda {w : World} {base : Nat} {e : TypeId} {v : Value} {l : List UInt8} (h : Own8 w base e v l) : ∃ A c, v = .slice A l.length c ∧ Rda w A c l := by
  rcases h.2 with ⟨rfl, h0⟩ | ⟨g, cap, cur, rfl, _, _, h1, h2, _⟩
  · have : l = [] := List.eq_nil_of_length_eq_zero h0
    subst this
    exact ⟨none, 0, rfl, Rda.nilRow w⟩
  · refine ⟨_, cap, rfl, ⟨h1, h2, fun e => (by cases e), fun _ => ⟨g, 0, rfl, fun j hj => ?_⟩⟩⟩
    rw [Nat.zero_add, h.cellAt j (by omega), B8_at l j hj]
theorem own_at {w : World} {base : Nat} {e : TypeId} {A : Option Addr} {m c : Nat} {l : List UInt8} (h : Own8 w base e (.slice A m c) l) : m = l.length ∧ Rda w A c l := by
  obtain ⟨A', c', hv, hr⟩ := own_rda h
  simp at hv
  obtain ⟨rfl, rfl, rfl⟩ := hv
  exact ⟨rfl, hr⟩
theorem Own8.below {w w' : World} {base : Nat} {e : TypeId} {v : Value} {l : List UInt8} (h : Own8 w base e v l) (hb : Below w.heap.size w w') : Own8 w' base e v l :=
  World.ownsRow.kept (row := none) h ⟨hb.os, hb.tape, hb.output, hb.size, fun i hi _ => hb.block i hi⟩ (by cases v.ownBlock <;> simp)
theorem Own8.alloc {w : World} {base : Nat} {e : TypeId} {v : Value} {l : List UInt8} (h : Own8 w base e v l) (o : Obj) : Own8 (w.alloc o) base e v l := World.ownsRow.alloc h o
theorem Own8.nilRow (w : World) (base : Nat) (e : TypeId) : Own8 w base e (.slice none 0 0) [] := World.ownsRow_nil _ _ _ _
theorem Own8.none_ (w : World) (base : Nat) (e : TypeId) (hb : base ≤ w.heap.size) : Own8 (w.alloc (.cells #[] e)) base e (.slice (some ⟨w.heap.size, 0, none⟩) 0 0) [] :=
  World.ownsRow_lit (base := base) (e := e) (size := 1) w #[] 0 hb (by unfold maxLen; omega) rfl
theorem own_below {w w' : World} {base n size : Nat} {e : TypeId} {v : Value} {xs : List Value} (h : w.ownsRow base e size v n xs) (hb : Below w.heap.size w w') : w'.ownsRow base e size v n xs :=
  h.kept (row := none) ⟨hb.os, hb.tape, hb.output, hb.size, fun i hi _ => hb.block i hi⟩ (by cases v.ownBlock <;> simp)
theorem own_mono {w : World} {base base' n size : Nat} {e : TypeId} {v : Value} {xs : List Value} (h : w.ownsRow base e size v n xs) (hb : base' ≤ base) : w.ownsRow base' e size v n xs := by
  refine ⟨h.1, ?_⟩
  rcases h.2 with h | ⟨g, cap, cur, hv, hg, r⟩
  · exact .inl h
  · exact .inr ⟨g, cap, cur, hv, Nat.le_trans hb hg, r⟩
theorem below_of {B : Nat} {w w1 w2 : World} (h : Below B w w1) (hB : B ≤ w1.heap.size) (k : Below w1.heap.size w1 w2) : Below B w w2 :=
  h.trans (k.mono hB)
theorem below_then {w w1 w2 : World} (h : Below w.heap.size w w1) (k : Below w1.heap.size w1 w2) : Below w.heap.size w w2 := below_of h h.size k
theorem Own8.mono {w : World} {base base' : Nat} {e : TypeId} {v : Value} {l : List UInt8} (h : Own8 w base e v l) (hb : base' ≤ base) : Own8 w base' e v l := own_mono h hb
theorem Own8.grown {B base : Nat} {w w1 w2 : World} {e : TypeId} {v : Value} {l : List UInt8} (hown : Own8 w1 base e v l) (hg : w1.grownBy w2 v.ownBlock) (h : Below B w w1) (hB : B ≤ w1.heap.size) (hbb : B ≤ base) : Below B w w2 :=
  h.grown hg hB fun k hk => Nat.le_trans hbb (World.ownsRow.lt hown k hk).1
theorem below_own {w w1 w2 : World} {base n size : Nat} {e : TypeId} {v : Value} {xs : List Value} (h : Below base w w1) (hB : base ≤ w1.heap.size) (hown : w1.ownsRow base e size v n xs) (hg : w1.grownBy w2 v.ownBlock) : Below base w w2 :=
  h.grown hg hB fun k hk => (hown.lt k hk).1

/-- The slice is new memory of a call that began in w: it owns its row; nothing that was there has turned. -/
structure New (e : TypeId) (w w' : World) (A : Option Addr) (c : Nat) (l : List UInt8) : Prop where
  own : Own8 w' w.heap.size e (.slice A l.length c) l
  below : Below w.heap.size w w'
theorem New.rda {e : TypeId} {w w' : World} {A : Option Addr} {c : Nat} {l : List UInt8} (h : New e w w' A c l) : Rda w' A c l := (own_at h.own).2

/-- Below 2^64, the numeral out of the walk's sight. -/
structure Lt64 (x : Int) : Prop where
  lo : 0 ≤ x
  hi : x < 18446744073709551616
/-- A fact that the walk does not look into. -/
structure Box (p : Prop) : Prop where
  out : p

/-! ### Numbers as bytes, the lowest first -/
def leB (k v : Nat) : List UInt8 := (List.range k).map fun i => UInt8.ofNat (v / 256 ^ i % 256)
@[simp, go_sem] theorem leB_length (k v : Nat) : (leB k v).length = k := by simp [leB]
theorem leB_succ (k v : Nat) : leB (k + 1) v = leB k v ++ [UInt8.ofNat (v / 256 ^ k % 256)] := by simp [leB, List.range_succ]
def leN : List UInt8 → Nat
  | [] => 0
  | b :: r => b.toNat + 256 * leN r
theorem leN_lt : ∀ l : List UInt8, leN l < 256 ^ l.length
  | [] => by simp [leN]
  | b :: r => by
    have h := leN_lt r
    have hb := b.toNat_lt
    simp only [leN, List.length_cons, Nat.pow_succ]
    omega
theorem leB_cons (k v : Nat) : leB (k + 1) v = UInt8.ofNat (v % 256) :: leB k (v / 256) := by
  unfold leB
  rw [List.range_succ_eq_map, List.map_cons, List.map_map]
  simp only [Nat.pow_zero, Nat.div_one, List.cons.injEq, true_and]
  refine List.map_congr_left fun i _ => ?_
  simp only [Function.comp]
  rw [Nat.pow_succ, Nat.mul_comm, Nat.div_div_eq_div_mul]
theorem leN_leB : ∀ k v : Nat, leN (leB k v) = v % 256 ^ k
  | 0, v => by simp [leB, leN, Nat.mod_one]
  | k + 1, v => by
    rw [leB_cons, leN, leN_leB k, UInt8.toNat_ofNat_of_lt' (by have := Nat.mod_lt v (show 0 < 256 by omega); simpa [UInt8.size] using this)]
    rw [Nat.pow_succ, Nat.mul_comm (256 ^ k) 256, Nat.mod_mul]
theorem leB_leN : ∀ l : List UInt8, leB l.length (leN l) = l
  | [] => by simp [leB]
  | b :: r => by
    rw [List.length_cons, leB_cons, leN]
    have hb := b.toNat_lt
    rw [show (b.toNat + 256 * leN r) % 256 = b.toNat by omega, show (b.toNat + 256 * leN r) / 256 = leN r by omega, leB_leN r]
    simp
theorem u64_join8 (x y : Int) (hx0 : 0 ≤ x) (hx : x % 256 = 0) (hx1 : x < 18446744073709551616) (hy0 : 0 ≤ y) (hy : y < 256) : bits .or .u64 x y = x + y :=
  bits_join .u64 64 (by decide) wraps_u64 8 x y hx0 hx hx1 hy0 hy (by omega)
theorem u64_div256 (q : Int) (h0 : 0 ≤ q) (h1 : q < 18446744073709551616) : IntKind.u64.wrap (q.tdiv 256) = q / 256 := by
  rw [Int.tdiv_eq_ediv_of_nonneg h0]
  exact wraps_u64 _ (by omega) (by omega)
theorem leN_step (l : List UInt8) (k : Nat) (h : k < l.length) : leN (l.drop k) = (l.getD k 0).toNat + 256 * leN (l.drop (k + 1)) := by
  rw [List.drop_eq_getElem_cons h, leN]
  simp [List.getD, List.getElem?_eq_getElem h]
theorem leN_lt8 (l : List UInt8) (h : l.length ≤ 8) : leN l < 18446744073709551616 :=
  Nat.lt_of_lt_of_le (leN_lt l) (by
    have : l.length = 0 ∨ l.length = 1 ∨ l.length = 2 ∨ l.length = 3 ∨ l.length = 4 ∨ l.length = 5 ∨ l.length = 6 ∨ l.length = 7 ∨ l.length = 8 := by omega
    rcases this with h | h | h | h | h | h | h | h | h <;> rw [h] <;> decide)
theorem leN_or (l : List UInt8) (k : Nat) (h : k < l.length) (hl : l.length ≤ 8) :
    bits BinOp.or IntKind.u64 (IntKind.u64.wrap ((leN (l.drop (k + 1)) : Int) * 256)) (IntKind.u64.wrap ((l.getD k 0).toNat : Int)) = (leN (l.drop k) : Int) := by
  have h1 := leN_step l k h
  have h2 := leN_lt8 (l.drop k) (by simp; omega)
  have h3 := (l.getD k 0).toNat_lt
  have e1 : IntKind.u64.wrap ((leN (l.drop (k + 1)) : Int) * 256) = (leN (l.drop (k + 1)) : Int) * 256 := wraps_u64 _ (by omega) (by omega)
  have e2 : IntKind.u64.wrap ((l.getD k 0).toNat : Int) = ((l.getD k 0).toNat : Int) := wraps_u64 _ (by omega) (by omega)
  rw [e1, e2, u64_join8 _ _ (by omega) (by omega) (by omega) (by omega) (by omega)]
  omega

/-! ### A number at the beginning -/
def getV (K : Nat) (l : List UInt8) : Nat := if l.length < K then 0 else leN (l.take K)
def getE (K : Nat) (l : List UInt8) : Int := if l.length < K then 10 else 0
theorem getV_lt (K : Nat) (l : List UInt8) : getV K l < 256 ^ K := by
  unfold getV
  split
  · exact Nat.pow_pos (by omega)
  · have := leN_lt (l.take K)
    rwa [List.length_take, Nat.min_eq_left (by omega)] at this

/-! ### A box: one cell that holds a slice of bytes (a reader) -/
structure IsR (w : World) (r : Nat) (T : TypeId) (l : List UInt8) : Prop where
  is : ∃ A c, w.heap[r]? = some (.cells #[.slice A l.length c] T (0, 0)) ∧ Rda w A c l
theorem IsR.below {w w' : World} {r : Nat} {T : TypeId} {l : List UInt8} (h : IsR w r T l) (hb : Below w.heap.size w w') : IsR w' r T l := by
  obtain ⟨A, c, h1, h2⟩ := h.is
  exact ⟨A, c, (hb.block r (Array.getElem?_eq_some_iff.1 h1).1).trans h1, h2.below hb⟩
theorem IsR.lt {w : World} {r : Nat} {T : TypeId} {l : List UInt8} (h : IsR w r T l) : r < w.heap.size := by
  obtain ⟨A, c, h1, h2⟩ := h.is
  exact (Array.getElem?_eq_some_iff.1 h1).1
theorem box_cell {w : World} {r : Nat} {T : TypeId} {v : Value} (h : w.heap[r]? = some (.cells #[v] T (0, 0))) : w.cell? ⟨r, 0, none⟩ = some v := by simp [World.cell?, h]
theorem box_free {w : World} {r : Nat} {T : TypeId} {v : Value} (h : w.heap[r]? = some (.cells #[v] T (0, 0))) : w.frozen? ⟨r, 0, none⟩ = false := by simp [World.frozen?, h]
theorem box_store {w : World} {r : Nat} {T : TypeId} {v : Value} (h : w.heap[r]? = some (.cells #[v] T (0, 0))) (u : Value) : (w.setCell ⟨r, 0, none⟩ u).heap[r]? = some (.cells #[u] T (0, 0)) := by
  simp [World.setCell, Array.getElem?_modify, h]
theorem box_grown (w : World) (r : Nat) (u : Value) : w.grownBy (w.setCell ⟨r, 0, none⟩ u) (some r) :=
  ⟨rfl, rfl, rfl, by simp [World.setCell], fun k _ hk => Below.heap_setCell _ _ _ _ (fun e => hk (by simp [e]))⟩
/-- The bytes lie elsewhere than the box. -/
theorem Rda.apart {w : World} {A : Option Addr} {c : Nat} {l : List UInt8} (h : Rda w A c l) {r : Nat} {T : TypeId} {A' : Option Addr} {n' c' : Nat} (hr : w.heap[r]? = some (.cells #[.slice A' n' c'] T (0, 0))) (u : Value) :
    Rda (w.setCell ⟨r, 0, none⟩ u) A c l := by
  refine ⟨h.cap, h.max, h.nil, fun hl => ?_⟩
  obtain ⟨b, o, e, hc⟩ := h.cells hl
  refine ⟨b, o, e, fun j hj => ?_⟩
  have hcj := hc j hj
  have hne : b ≠ r := by
    rintro rfl
    simp only [World.cell?, hr] at hcj
    have : o + j = 0 ∨ 0 < o + j := by omega
    rcases this with h0 | h0
    · simp [h0] at hcj
    · simp [Array.getElem?_eq_none (show (#[Value.slice A' n' c'] : Array Value).size ≤ o + j by simp; omega)] at hcj
  rw [← hcj]
  exact World.cell?_of_block (w := w) (Below.heap_setCell _ _ _ _ (by simpa using hne))
theorem grown_refl (w : World) (row : Option Nat) : w.grownBy w row := ⟨rfl, rfl, rfl, Nat.le_refl _, fun _ _ _ => rfl⟩
theorem grown_trans {a b c : World} {row : Option Nat} (h : a.grownBy b row) (k : b.grownBy c row) : a.grownBy c row :=
  ⟨k.os.trans h.os, k.tape.trans h.tape, k.output.trans h.output, Nat.le_trans h.size k.size, fun i hi hne => (k.block i (Nat.lt_of_lt_of_le hi h.size) hne).trans (h.block i hi hne)⟩
theorem below_grown {w w' : World} (h : Below w.heap.size w w') (row : Option Nat) : w.grownBy w' row := ⟨h.os, h.tape, h.output, h.size, fun i hi _ => h.block i hi⟩
theorem grown_below {w w' : World} {row : Option Nat} (h : w.grownBy w' row) {B : Nat} (hB : B ≤ w.heap.size) (hr : ∀ k, row = some k → B ≤ k) : Below B w w' :=
  (Below.refl B w).grown h hB hr
theorem Own8.keptBy {w w' : World} {base : Nat} {e : TypeId} {v : Value} {l : List UInt8} (h : Own8 w base e v l) {row : Option Nat} (hg : w.grownBy w' row) (hne : ∀ k, v.ownBlock = some k → row ≠ some k) : Own8 w' base e v l :=
  World.ownsRow.kept h hg (by cases hv : v.ownBlock with
    | none => exact .inl rfl
    | some k => exact .inr (fun e => hne k hv e.symm))

/-- The document's reader: bytes, and how many have been taken. -/
structure IsRR (w : World) (r : Nat) (T : TypeId) (l : List UInt8) : Prop where
  is : ∃ A c full k, w.heap[r]? = some (.cells #[.slice A full.length c, .int .i64 ((k : Nat) : Int)] T (0, 0)) ∧ Rda w A c full ∧ k ≤ full.length ∧ full.length ≤ 140737488355328 ∧ l = full.drop k
theorem IsRR.below {w w' : World} {r : Nat} {T : TypeId} {l : List UInt8} (h : IsRR w r T l) (hb : Below w.heap.size w w') : IsRR w' r T l := by
  obtain ⟨A, c, full, k, h1, h2, h3⟩ := h.is
  exact ⟨A, c, full, k, (hb.block r (Array.getElem?_eq_some_iff.1 h1).1).trans h1, h2.below hb, h3⟩
theorem IsRR.lt {w : World} {r : Nat} {T : TypeId} {l : List UInt8} (h : IsRR w r T l) : r < w.heap.size := by
  obtain ⟨A, c, full, k, h1, _⟩ := h.is
  exact (Array.getElem?_eq_some_iff.1 h1).1
theorem pair_cell0 {w : World} {r : Nat} {T : TypeId} {v u : Value} (h : w.heap[r]? = some (.cells #[v, u] T (0, 0))) : w.cell? ⟨r, 0, none⟩ = some v := by simp [World.cell?, h]
theorem pair_cell1 {w : World} {r : Nat} {T : TypeId} {v u : Value} (h : w.heap[r]? = some (.cells #[v, u] T (0, 0))) : w.cell? ⟨r, 1, none⟩ = some u := by simp [World.cell?, h]
theorem pair_free {w : World} {r : Nat} {T : TypeId} {v u : Value} (h : w.heap[r]? = some (.cells #[v, u] T (0, 0))) (j : Nat) : w.frozen? ⟨r, j, none⟩ = false := by simp [World.frozen?, h]
theorem pair_store1 {w : World} {r : Nat} {T : TypeId} {v u : Value} (h : w.heap[r]? = some (.cells #[v, u] T (0, 0))) (x : Value) : (w.setCell ⟨r, 1, none⟩ x).heap[r]? = some (.cells #[v, x] T (0, 0)) := by
  simp [World.setCell, Array.getElem?_modify, h]
theorem cell_grown (w : World) (r j : Nat) (u : Value) : w.grownBy (w.setCell ⟨r, j, none⟩ u) (some r) :=
  ⟨rfl, rfl, rfl, by simp [World.setCell], fun k _ hk => Below.heap_setCell _ _ _ _ (fun e => hk (by simp [e]))⟩
theorem Rda.apart2 {w : World} {A : Option Addr} {c : Nat} {l : List UInt8} (h : Rda w A c l) {r : Nat} {T : TypeId} {A' : Option Addr} {n' c' : Nat} {x : Int} (hr : w.heap[r]? = some (.cells #[.slice A' n' c', .int .i64 x] T (0, 0))) (u : Value) :
    Rda (w.setCell ⟨r, 1, none⟩ u) A c l := by
  refine ⟨h.cap, h.max, h.nil, fun hl => ?_⟩
  obtain ⟨b, o, e, hc⟩ := h.cells hl
  refine ⟨b, o, e, fun j hj => ?_⟩
  have hcj := hc j hj
  have hne : b ≠ r := by
    rintro rfl
    simp only [World.cell?, hr] at hcj
    have : o + j = 0 ∨ o + j = 1 ∨ 1 < o + j := by omega
    rcases this with h0 | h0 | h0
    · simp [h0] at hcj
    · simp [h0] at hcj
    · simp [Array.getElem?_eq_none (show (#[Value.slice A' n' c', .int .i64 x] : Array Value).size ≤ o + j by simp; omega)] at hcj
  rw [← hcj]
  exact World.cell?_of_block (w := w) (Below.heap_setCell _ _ _ _ (by simpa using hne))
theorem below_drewN {B : Nat} {w W : World} (h : Below B w W) (n : Nat) : Below B w (W.drewN n) := ⟨h.os, h.tape, h.output, h.size, h.block⟩
theorem drewN_below (w : World) (n : Nat) : Below w.heap.size w (w.drewN n) := below_drewN (Below.refl _ _) n
theorem below_drew1 {B : Nat} {w W : World} (h : Below B w W) : Below B w W.drew := ⟨h.os, h.tape, h.output, h.size, h.block⟩
theorem grown_drewN {w W : World} {row : Option Nat} (h : w.grownBy W row) (n : Nat) : w.grownBy (W.drewN n) row := ⟨h.os, h.tape, h.output, h.size, h.block⟩

/-- The slice is new memory of a call that began in w; of what was there only block r has turned. -/
structure NewR (e : TypeId) (r : Nat) (w w' : World) (A : Option Addr) (c : Nat) (l : List UInt8) : Prop where
  own : Own8 w' w.heap.size e (.slice A l.length c) l
  grown : w.grownBy w' (some r)
theorem NewR.rda {e : TypeId} {r : Nat} {w w' : World} {A : Option Addr} {c : Nat} {l : List UInt8} (h : NewR e r w w' A c l) : Rda w' A c l := (own_at h.own).2

theorem pieceAt_zero (A : Option Addr) (mx : Nat) : pieceAt A 0 mx = A := by
  unfold pieceAt
  split
  · rfl
  · cases A <;> simp [Addr.add]

theorem wpList_sliceAny {P : Program} {w : World} {ops : Array Oper} {rest : List Oper} {o : Oper} {a : Act} {Q : Exit → Act → World → Prop} (hgd : o.guard = none) {t e : TypeId} (x : Operand) (lo hi mx : Option Operand)
    (ho : o.op = .slice t x lo hi mx) (hU : U8 P t e) {A : Option Addr} {n c : Nat} (hx : a.eval x = .slice A n c)
    {lv hv mv : Option Value} (hlo : lo.map a.eval = lv) (hhi : hi.map a.eval = hv) (hmx : mx.map a.eval = mv) {L H M : Nat} (bL : Bd lv 0 L) (bH : Bd hv n H) (bM : Bd mv c M) (hmh : mv = none ∨ hv ≠ none)
    (h1 : L ≤ H) (h3 : H ≤ M) (h4 : M ≤ c)
    (h : wpList P ops Q rest (a.put o.dst (.slice (pieceAt A L M) (H - L) (M - L))) w) : wpList P ops Q (o :: rest) a w := by
  refine wpList_plain hgd fun K hK => ?_
  have hrun := run_slice8 (P := P) hU w (A := A) lv hv mv L H M bL bH bM hmh h1 h3 h4
  have hrun2 : (Instr.sliceAt t (.slice A n c) lv hv mv).run P w = .ok (.slice (pieceAt A L M) (H - L) (M - L)) w := by
    rw [← hrun]
    simp [Instr.sliceAt, run_underlying hU.slice]
  subst hlo hhi hmx
  unfold Oper.wp
  simp [execOp, ho, hx, hrun2, Result.andThen]
  exact hK _ _ h

/-- append(nil, make([]byte, n)...), n above 0, cut to nothing: an empty row of one's own with room. -/
theorem zeros_own {P : Program} (w : World) {t e tn ty : TypeId} {kn : IntKind} (hU : U8 P t e) (htn : P.underlying tn = some (.int kn)) (n : Nat) (h0 : 0 < n) (hn : n ≤ 140737488355328) :
    ∃ c w', (Builtin.append_ #[t, tn] ty #[.slice none 0 0, .int .i64 (n : Int)]).run P w = .ok (.slice (some ⟨w.heap.size, 0, none⟩) n c) w' ∧ n ≤ c ∧ Own8 w' w.heap.size e (.slice (some ⟨w.heap.size, 0, none⟩) 0 c) [] ∧ Below w.heap.size w w' := by
  obtain ⟨i, hi, hz, hs, hby⟩ := hU.info
  refine ⟨_, _, Lib.run_append_nil_zeros (P := P) w t tn ty e i _ .i64 kn hU.slice htn hi hz n h0 (by omega) (by omega) (by rw [hby]; omega), grownCap_ge w n 0 e, ?_, ?_⟩
  · have hge := grownCap_ge w n 0 e
    refine ⟨by simp [B8], .inr ⟨w.heap.size, _, _, rfl, Nat.le_refl _, heap_alloc_new w.drew _, Nat.zero_le _, grownCap_le_maxLen w n 0 e (by unfold maxLen; omega), ?_, by simp [B8]⟩⟩
    simp only [Array.size_append, size_zeroCells, Value.cells]
    simp
    omega
  · exact ((Below.refl _ _).drew).alloc (Nat.le_refl _) _

/-! ### Rows of slices of bytes -/
/-- 'The slice of slices at address A, of capacity c, reads as the rows ls.' -/
structure RdRows (w : World) (A : Option Addr) (c : Nat) (ls : List (List UInt8)) : Prop where
  cap : ls.length ≤ c
  max : c ≤ maxLen
  cells : 0 < ls.length → ∃ b o, A = some ⟨b, o, none⟩ ∧ ∀ j, j < ls.length → ∃ Aj cj, w.cell? ⟨b, o + j, none⟩ = some (.slice Aj (ls.getD j []).length cj) ∧ Rda w Aj cj (ls.getD j [])
theorem RdRows.below {w w' : World} {A : Option Addr} {c : Nat} {ls : List (List UInt8)} (h : RdRows w A c ls) (hb : Below w.heap.size w w') : RdRows w' A c ls :=
  ⟨h.cap, h.max, fun hl => by
    obtain ⟨b, o, e, hc⟩ := h.cells hl
    refine ⟨b, o, e, fun j hj => ?_⟩
    obtain ⟨Aj, cj, h1, h2⟩ := hc j hj
    exact ⟨Aj, cj, (hb.cell (p := ⟨b, o + j, none⟩) (World.block_lt_of_cell? w _ h1)).trans h1, h2.below hb⟩⟩
/-- Rows, one behind the other. (A word of its own: the walk's simp writes the length of a 'flatten' anew.) -/
def cat (ls : List (List UInt8)) : List UInt8 := ls.flatten
theorem cat_nil : cat [] = [] := rfl
theorem cat_cons (l : List UInt8) (ls : List (List UInt8)) : cat (l :: ls) = l ++ cat ls := rfl
theorem cat_take_succ (ls : List (List UInt8)) (k : Nat) (h : k < ls.length) : cat (ls.take (k + 1)) = cat (ls.take k) ++ ls.getD k [] := by
  unfold cat
  rw [List.take_succ_eq_append_getElem h, List.flatten_append]
  simp [List.getD, List.getElem?_eq_getElem h]
theorem cat_drop (ls : List (List UInt8)) (k : Nat) (h : k < ls.length) : cat (ls.drop k) = ls.getD k [] ++ cat (ls.drop (k + 1)) := by
  unfold cat
  rw [List.drop_eq_getElem_cons h, List.flatten_cons, List.getD_eq_getElem?_getD, List.getElem?_eq_getElem h]
  rfl
theorem RdRows.at_ {w : World} {b o c : Nat} {ls : List (List UInt8)} (h : RdRows w (some ⟨b, o, none⟩) c ls) (j : Nat) (hj : j < ls.length) : ∃ Aj cj, w.cell? ⟨b, o + j, none⟩ = some (.slice Aj (ls.getD j []).length cj) ∧ Rda w Aj cj (ls.getD j []) := by
  obtain ⟨b', o', e, hc⟩ := h.cells (by omega)
  obtain ⟨rfl, rfl⟩ : b = b' ∧ o = o' := by simpa using e
  exact hc j hj
theorem cat_drop_le (ls : List (List UInt8)) (k : Nat) : (cat (ls.drop k)).length ≤ (cat ls).length := by
  unfold cat
  conv => rhs; rw [← List.take_append_drop k ls, List.flatten_append, List.length_append]
  omega
theorem cat_take_le (ls : List (List UInt8)) (k : Nat) : (cat (ls.take k)).length ≤ (cat ls).length := by
  unfold cat
  conv => rhs; rw [← List.take_append_drop k ls, List.flatten_append, List.length_append]
  omega

theorem i64_id (x : Int) (h0 : -9223372036854775808 ≤ x) (h1 : x ≤ 9223372036854775807) : IntKind.i64.wrap x = x := by
  rw [IntKind.wrap_i64]; omega
/-- A region that draws its order and ends in one forced tail: the world, spelt 'w.drew'. -/
theorem region_tail {P : Program} {id : Nat} {Q : Exit → Act → World → Prop} {a : Act} {w : World} {l : List Oper} (n : Nat) (hm : P.follows .mixedOrders = true) (hB : Region.lexTailB .any l.toArray n = true)
    (h : wpStill P l.toArray w.drew (fun a' => wpList P l.toArray Q (l.drop n) a' w.drew) (l.take n) a) : (Code.region id l.toArray true).wp P Q a w := wp_region_still_tail n hm hB h

/-- The bytes of a literal. -/
theorem Rda_lit (w : World) (e : TypeId) (l : List UInt8) (n : Nat) (hn : n = l.length) (hl : l.length ≤ 100) {g : Nat} (hg : g = w.heap.size) : Rda (w.alloc (.cells (B8 l).toArray e)) (some ⟨g, 0, none⟩) n l := by
  subst hn hg
  refine ⟨Nat.le_refl _, by unfold maxLen; omega, fun e => (by cases e), fun _ => ⟨w.heap.size, 0, rfl, fun j hj => ?_⟩⟩
  rw [World.cell?_alloc_at _ _ _ _ rfl]
  simpa using B8_at l j hj
/-- A literal of rows. -/
structure RowVals (w : World) (vals : List Value) (ls : List (List UInt8)) : Prop where
  len : vals.length = ls.length
  at_ : ∀ j, j < ls.length → ∃ Aj cj, vals[j]? = some (.slice Aj (ls.getD j []).length cj) ∧ Rda w Aj cj (ls.getD j [])
theorem RowVals.nil (w : World) : RowVals w [] [] := ⟨rfl, fun j hj => by simp at hj⟩
theorem RowVals.cons {w : World} {vals : List Value} {ls : List (List UInt8)} (h : RowVals w vals ls) {A : Option Addr} {n c : Nat} {l : List UInt8} (hl : Rda w A c l) (hn : n = l.length) : RowVals w (.slice A n c :: vals) (l :: ls) := by
  subst hn
  refine ⟨by simp [h.len], fun j hj => ?_⟩
  cases j with
  | zero => exact ⟨A, c, by simp, by simpa using hl⟩
  | succ j =>
    obtain ⟨Aj, cj, h1, h2⟩ := h.at_ j (by simpa using hj)
    exact ⟨Aj, cj, by simpa using h1, by simpa using h2⟩
theorem RowVals.below {w w' : World} {vals : List Value} {ls : List (List UInt8)} (h : RowVals w vals ls) (hb : Below w.heap.size w w') : RowVals w' vals ls :=
  ⟨h.len, fun j hj => by
    obtain ⟨Aj, cj, h1, h2⟩ := h.at_ j hj
    exact ⟨Aj, cj, h1, h2.below hb⟩⟩
theorem RowVals.rows {w : World} {vals : List Value} {ls : List (List UInt8)} (h : RowVals w vals ls) (e : TypeId) (n : Nat) (hn : n = ls.length) (hl : ls.length ≤ 100) {g : Nat} (hg : g = w.heap.size) : RdRows (w.alloc (.cells vals.toArray e)) (some ⟨g, 0, none⟩) n ls := by
  subst hn hg
  refine ⟨Nat.le_refl _, by unfold maxLen; omega, fun _ => ⟨w.heap.size, 0, rfl, fun j hj => ?_⟩⟩
  obtain ⟨Aj, cj, h1, h2⟩ := h.at_ j hj
  exact ⟨Aj, cj, by rw [World.cell?_alloc_at _ _ _ _ rfl]; simpa using h1, h2.alloc _⟩

/-- What a slice reads as stays, where only a box of another's is written. -/
theorem Rda.boxed {w w' : World} {A : Option Addr} {c : Nat} {l : List UInt8} (h : Rda w A c l) {r : Nat} {T : TypeId} {A' : Option Addr} {n' c' : Nat} (hr : w.heap[r]? = some (.cells #[.slice A' n' c'] T (0, 0))) (hg : w.grownBy w' (some r)) : Rda w' A c l := by
  refine ⟨h.cap, h.max, h.nil, fun hl => ?_⟩
  obtain ⟨b, o, e, hc⟩ := h.cells hl
  refine ⟨b, o, e, fun j hj => ?_⟩
  have hcj := hc j hj
  have hne : b ≠ r := by
    rintro rfl
    simp only [World.cell?, hr] at hcj
    have : o + j = 0 ∨ 0 < o + j := by omega
    rcases this with h0 | h0
    · simp [h0] at hcj
    · simp [Array.getElem?_eq_none (show (#[Value.slice A' n' c'] : Array Value).size ≤ o + j by simp; omega)] at hcj
  exact hg.cell hcj (by simpa using hne)
theorem IsR.boxed {w w' : World} {t r : Nat} {T T' : TypeId} {l k : List UInt8} (h : IsR w t T l) (hr : IsR w r T' k) (hne : t ≠ r) (hg : w.grownBy w' (some r)) : IsR w' t T l := by
  obtain ⟨A, c, h1, h2⟩ := h.is
  obtain ⟨A', c', h3, _⟩ := hr.is
  exact ⟨A, c, (hg.block t (Array.getElem?_eq_some_iff.1 h1).1 (by simpa using hne)).trans h1, h2.boxed h3 hg⟩

theorem leB_mod (k v : Nat) : leB k (v % 256 ^ k) = leB k v := by
  unfold leB
  refine List.map_congr_left fun i hi => ?_
  have hi' : i < k := by simpa using hi
  congr 1
  obtain ⟨d, rfl⟩ : ∃ d, k = i + (d + 1) := ⟨k - i - 1, by omega⟩
  rw [Nat.pow_add, Nat.mod_mul_right_div_self, Nat.pow_succ, Nat.mul_comm (256 ^ d) 256, Nat.mod_mul_right_mod]
theorem leB_get (k v i : Nat) (hi : i < k) : (leB k v).getD i 0 = UInt8.ofNat (v / 256 ^ i % 256) := by
  simp [leB, List.getD, hi]
theorem getD_append_right (l m : List UInt8) (i : Nat) : (l ++ m).getD (l.length + i) 0 = m.getD i 0 := by
  simp [List.getD, List.getElem?_append_right]
/-- One more byte of a sum of bytes, by a shift and an 'or'. -/
theorem or_step (X i : Nat) (hi : i < 8) : bits BinOp.or IntKind.u64 ((X % 256 ^ i : Nat) : Int) (IntKind.u64.wrap (((UInt8.ofNat (X / 256 ^ i % 256)).toNat : Int) * 2 ^ min ((8 * (i : Int)).toNat) 64)) = ((X % 256 ^ (i + 1) : Nat) : Int) := by
  have hb : (UInt8.ofNat (X / 256 ^ i % 256)).toNat = X / 256 ^ i % 256 := UInt8.toNat_ofNat_of_lt' (by have := Nat.mod_lt (X / 256 ^ i) (show 0 < 256 by omega); simpa [UInt8.size] using this)
  have he : min ((8 * (i : Int)).toNat) 64 = 8 * i := by omega
  have hp : (2 : Int) ^ (8 * i) = ((256 ^ i : Nat) : Int) := by
    rw [Int.pow_mul, Int.natCast_pow]
    rfl
  rw [hb, he, hp]
  have hlt : X % 256 ^ i < 256 ^ i := Nat.mod_lt _ (Nat.pow_pos (by omega))
  have h256 : X / 256 ^ i % 256 < 256 := Nat.mod_lt _ (by omega)
  have hle : 256 ^ (i + 1) ≤ 18446744073709551616 := by
    have := Nat.pow_le_pow_right (show 0 < 256 by omega) (show i + 1 ≤ 8 by omega)
    omega
  have hprod : X / 256 ^ i % 256 * 256 ^ i + X % 256 ^ i = X % 256 ^ (i + 1) := by
    rw [Nat.pow_succ, Nat.mod_mul, Nat.mul_comm]
    omega
  have hbound : X % 256 ^ (i + 1) < 256 ^ (i + 1) := Nat.mod_lt _ (Nat.pow_pos (by omega))
  have hw : IntKind.u64.wrap (((X / 256 ^ i % 256 : Nat) : Int) * ((256 ^ i : Nat) : Int)) = ((X / 256 ^ i % 256 * 256 ^ i : Nat) : Int) := by
    rw [← Int.natCast_mul]
    exact wraps_u64 _ (by omega) (by omega)
  rw [hw, bits_join_low .u64 64 (by decide) wraps_u64 (8 * i) _ _ (by omega) (by rw [hp]; omega) (by omega) (by omega) (by rw [hp, ← Int.natCast_emod, Nat.mul_mod_left]; rfl) (by omega)]
  omega

/-- The number of the first i bytes of X. -/
def sm (X i : Nat) : Int := ((X % 256 ^ i : Nat) : Int)
theorem sm_zero (X : Nat) : sm X 0 = 0 := by simp [sm, Nat.mod_one]
theorem sm_is (X i : Nat) (M : Int) (hM : M = ((256 ^ i : Nat) : Int)) : sm X i = (X : Int) % M := by rw [sm, hM]; omega
theorem sm_all (X : Nat) (h : X < 18446744073709551616) : sm X 8 = (X : Int) := by
  unfold sm
  rw [Nat.mod_eq_of_lt (by simpa using h)]
theorem sm_lt (X i : Nat) (hi : i ≤ 8) : 0 ≤ sm X i ∧ sm X i < 18446744073709551616 := by
  have h1 : X % 256 ^ i < 256 ^ i := Nat.mod_lt _ (Nat.pow_pos (by omega))
  have := Nat.pow_le_pow_right (show 0 < 256 by omega) hi
  unfold sm
  omega
theorem sm_step (X i : Nat) (hi : i < 8) : bits BinOp.or IntKind.u64 (sm X i) (IntKind.u64.wrap (((UInt8.ofNat (X / 256 ^ i % 256)).toNat : Int) * 2 ^ min ((8 * (i : Int)).toNat) 64)) = sm X (i + 1) := or_step X i hi
end Go.Tm
