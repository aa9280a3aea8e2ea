import Derived.Test.YtiaehoppdihbdaaPagePure
import Derived.Laws.CopyOwn
import Derived.OwnWalk
import Derived.Deep.OwnRows
/- Buffers: make([]byte, n), copy. -/
set_option linter.unusedVariables false
set_option linter.unusedSimpArgs false
namespace Go.Tm
open Go.RowKit Go.Deep

theorem Rda.pieceMap {w : World} {A : Option Addr} {c : Nat} {l : List UInt8} (h : Rda w A c l) (lo hi : Nat) (h1 : lo ≤ hi) (h2 : hi ≤ l.length) :
    Rda w (Option.map (fun x : Addr => { block := x.block, off := x.off + lo }) A) (c - lo) ((l.take hi).drop lo) := by
  have hcap := h.cap
  have hlen : ((l.take hi).drop lo).length = hi - lo := by simp; omega
  refine ⟨by omega, by have := h.max; omega, fun e => ?_, fun hp => ?_⟩
  · have : A = none := by simpa using e
    have := h.nil this
    omega
  · rw [hlen] at hp
    obtain ⟨b, o, rfl, hc⟩ := h.cells (by omega)
    refine ⟨b, o + lo, rfl, fun j hj => ?_⟩
    rw [hlen] at hj
    rw [Nat.add_assoc, hc _ (by omega)]
    simp [List.getD, List.getElem?_drop, List.getElem?_take, show lo + j < hi by omega]
theorem Rda.dropMap {w : World} {A : Option Addr} {c : Nat} {l : List UInt8} (h : Rda w A c l) (lo : Nat) (h1 : lo ≤ l.length) :
    Rda w (Option.map (fun x : Addr => { block := x.block, off := x.off + lo }) A) (c - lo) (l.drop lo) := by
  have := h.pieceMap lo l.length h1 (Nat.le_refl _)
  rwa [List.take_length] at this
/-- Block g is just the bytes l. -/
def Whole8 (w : World) (g : Nat) (e : TypeId) (l : List UInt8) : Prop := w.heap[g]? = some (.cells (B8 l).toArray e (0, 0))
theorem Whole8.lt {w : World} {g : Nat} {e : TypeId} {l : List UInt8} (h : Whole8 w g e l) : g < w.heap.size := (Array.getElem?_eq_some_iff.1 h).1
theorem Whole8.own {w : World} {g base : Nat} {e : TypeId} {l : List UInt8} (h : Whole8 w g e l) (hb : base ≤ g) (hl : l.length ≤ 140737488355328) : Own8 w base e (.slice (some ⟨g, 0, none⟩) l.length l.length) l :=
  ⟨by simp [B8_length], .inr ⟨g, l.length, _, rfl, hb, h, Nat.le_refl _, by unfold maxLen; omega, by simp [B8_length], by simp [← B8_length]⟩⟩
theorem Whole8.rda {w : World} {g : Nat} {e : TypeId} {l : List UInt8} (h : Whole8 w g e l) (hl : l.length ≤ 140737488355328) : Rda w (some ⟨g, 0, none⟩) l.length l := (own_at (h.own (Nat.zero_le g) hl)).2
theorem Whole8.below {w w' : World} {g : Nat} {e : TypeId} {l : List UInt8} (h : Whole8 w g e l) (hb : Below w.heap.size w w') : Whole8 w' g e l := (hb.block g h.lt).trans h
theorem Whole8.cell {w : World} {g : Nat} {e : TypeId} {l : List UInt8} (h : Whole8 w g e l) (j : Nat) (hj : j < l.length) : w.cell? ⟨g, j, none⟩ = some (.int .u8 ((l.getD j 0).toNat : Int)) := by
  rw [cell_of_row w g j _ e (0, 0) h, ← B8_at l j hj]
  simp
theorem Whole8.free {w : World} {g : Nat} {e : TypeId} {l : List UInt8} (h : Whole8 w g e l) (j : Nat) : w.frozen? ⟨g, j, none⟩ = false := by
  unfold Whole8 at h
  simp [World.frozen?, h]
theorem Whole8.stored {w : World} {g : Nat} {e : TypeId} {l : List UInt8} (h : Whole8 w g e l) (j : Nat) (b : UInt8) : Whole8 (w.setCell ⟨g, j, none⟩ (.int .u8 (b.toNat : Int))) g e (l.set j b) := by
  unfold Whole8 at h ⊢
  rw [B8_set]
  simp [World.setCell, Array.getElem?_modify, h]
theorem B8_zero (n : Nat) : B8 (zeroL n) = List.replicate n (.int .u8 0) := by simp [B8, zeroL]

theorem made_one (z : Value) (n : Nat) : madeCells #[z] n = Array.replicate n z := by
  refine Array.ext (by simp [madeCells]) fun i h1 h2 => ?_
  simp [madeCells, Nat.mod_one]
theorem wpList_make8 {P : Program} {w : World} {ops : Array Oper} {rest : List Oper} {o : Oper} {a : Act} {Q : Exit → Act → World → Prop} (hgd : o.guard = none) (lo co : Operand) {t e : TypeId}
    (ho : o.op = .makeSlice t lo co) (hU : U8 P t e) {kl kc : IntKind} {L C : Int} (n : Nat) (hl : a.eval lo = .int kl L) (hc : a.eval co = .int kc C) (hL : L = (n : Int)) (hC : C = (n : Int)) (hn : n ≤ 140737488355328)
    (h : ∀ w', Whole8 w' w.heap.size e (zeroL n) → Below w.heap.size w w' → wpList P ops Q rest (a.put o.dst (.slice (some ⟨w.heap.size, 0, none⟩) n n)) w') : wpList P ops Q (o :: rest) a w := by
  refine wpList_plain hgd fun K hK => ?_
  subst hL hC
  obtain ⟨i, hi, hz, hs, hby⟩ := hU.info
  have hrun := run_make_row (P := P) t e i _ hU.slice hi hz hs rfl kl kc n (by rw [hby]; omega) (by omega) w
  unfold Oper.wp
  simp [execOp, ho, hl, hc, hrun, Result.andThen]
  refine hK _ _ (h _ ?_ ((Below.refl _ _).alloc (Nat.le_refl _) _))
  unfold Whole8
  rw [heap_alloc_new, B8_zero, made_one]
  simp

theorem wpList_copy8 {P : Program} {w : World} {ops : Array Oper} {rest : List Oper} {o : Oper} {a : Act} {Q : Exit → Act → World → Prop} (hgd : o.guard = none) (d s : Operand) {t e : TypeId}
    (ho : o.op = .call { callee := .builtin .copy, args := #[d, s], argTypes := #[t, t] }) (hU : U8 P t e) {dp A : Option Addr} {dl dc n c : Nat} (hd : a.eval d = .slice dp dl dc) (hs : a.eval s = .slice A n c)
    (g off : Nat) {l m : List UInt8} (hW : Whole8 w g e l) (hm : Rda w A c m) (hn : n = m.length) (hdl : m.length ≤ dl) (hoff : 0 < m.length → dp = some ⟨g, off, none⟩) (hfit : off + m.length ≤ l.length)
    {B : Nat} {w0 : World} (hb : Below B w0 w) (hB : B ≤ g)
    (h : ∀ w', Whole8 w' g e (layL l off m) → Below B w0 w' → wpList P ops Q rest (a.put o.dst (goInt m.length)) w') : wpList P ops Q (o :: rest) a w := by
  obtain ⟨i, hi, hz, hsz, hby⟩ := hU.info
  refine wpList_copy_splice (P := P) hgd d s t t ho e hU.slice (by rw [hi]; simp [hsz]) dp A dl dc n c hd hs g off (B8 l) e (by unfold Whole8 at hW; exact hW) (B8 m) (by rw [B8_length, hn]; exact (Nat.min_eq_left hdl).symm) (fun hp => ?_) (by rw [B8_length, B8_length]; exact hfit) (B8_one m) B w0 hb hB (fun w' hw' hb' => ?_)
  · rw [B8_length] at hp
    obtain ⟨b, o', rfl, _⟩ := hm.cells hp
    exact ⟨hoff hp, _, rfl, hm.news⟩
  · rw [B8_length]
    refine h w' ?_ hb'
    have := hw'.out
    unfold Whole8
    rw [this]
    congr 3
    unfold splice layL
    rw [B8_append, B8_append, B8_length]
    simp [B8]
end Go.Tm
