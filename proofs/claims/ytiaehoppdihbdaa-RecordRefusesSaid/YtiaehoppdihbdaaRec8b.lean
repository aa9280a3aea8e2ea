import Derived.Test.YtiaehoppdihbdaaRec8
import Derived.Test.YtiaehoppdihbdaaRecIn
/- The contracts of package record: a record of one's own, read; the readers, kind by kind. -/
set_option linter.unusedVariables false
set_option linter.unusedSimpArgs false
namespace Go.Proofs.Ytiaehoppdihbdaa
open Go.RowKit Go.Tm
set_option maxHeartbeats 400000
set_option maxRecDepth 100000
attribute [local go_sem ↓] Go.wp_at_zero Go.wp_at_succ

theorem in64_60 {n : Int} (h : Num60 n) : In64 n := ⟨by have := h.1; omega, by have := h.2; omega⟩
theorem flat_get {α : Type} {f : α → List Value} {size : Nat} (hf : ∀ x, (f x).length = size) : ∀ (l : List α) (k i : Nat) (x : α) (v : Value), l[k]? = some x → (f x)[i]? = some v → (l.flatMap f)[k * size + i]? = some v
  | [], k, i, x, v, h, _ => by simp at h
  | y :: r, 0, i, x, v, h, hv => by
    simp at h
    subst h
    have hi := (List.getElem?_eq_some_iff.1 hv).1
    rw [List.flatMap_cons, Nat.zero_mul, Nat.zero_add, List.getElem?_append_left hi]
    exact hv
  | y :: r, k + 1, i, x, v, h, hv => by
    have := flat_get hf r k i x v (by simpa using h) hv
    rw [List.flatMap_cons, List.getElem?_append_right (by rw [hf, Nat.succ_mul]; omega), hf]
    rw [show (k + 1) * size + i - size = k * size + i by rw [Nat.succ_mul]; omega]
    exact this
theorem ownLe_rdS {α : Type} {R : Rdr α} {f : α → List Value} {size : Nat} (hf : ∀ x, (f x).length = size) {w : World} {B : Nat} {e : TypeId} {l : List α} {v : Value} (h : OwnLe w B e size v l.length (l.flatMap f)) (hs : 0 < size) (hR : ∀ x ∈ l, R w (f x) x) : ∃ A c, v = .slice A l.length c ∧ RdS size R w A c l := by
  rcases h.2 with ⟨rfl, h0⟩ | ⟨g, cap, cur, rfl, hbg, hgg, hnc, hcm, hsz, htk⟩
  · exact ⟨none, 0, by rw [h0], by omega, by unfold maxLen; omega, fun _ => rfl, fun hp => by omega⟩
  · refine ⟨some ⟨g, 0, none⟩, cap, rfl, hnc, hcm, fun e => (by cases e), fun hp => ⟨g, 0, rfl, fun j x hj => ⟨f x, hf x, fun i u hu => ?_, hR x (List.mem_of_getElem? hj)⟩⟩⟩
    have h1 := flat_get hf l j i x u hj hu
    obtain ⟨g', e', hc, _⟩ := ownLe_cell h h1
    injection e' with e'
    injection e' with e' _
    subst e'
    rw [Nat.zero_add]
    exact hc
theorem RecLs.toR {w : World} {B : Nat} {x : RecD} {q : RPl} (h : RecLs w B x q) (hi : RecIn x) : RecR w x q := by
  obtain ⟨A1, c1, e1, r1⟩ := own_rda h.vb
  obtain ⟨A2, c2, e2, r2⟩ := own_rda h.va
  obtain ⟨A3, c3, e3, r3⟩ := ownLe_rdS (R := rRow9) (f := row9C) (fun _ => rfl) h.vr (by omega) fun y hy => by
    obtain ⟨a, b, c, d, e⟩ := hi.rr y hy
    exact ⟨⟨rfl, in64_60 a⟩, ⟨rfl, in64_60 b⟩, ⟨rfl, in64_60 c⟩, ⟨rfl, in64_60 d⟩, rfl, in64_60 e⟩
  obtain ⟨A4, c4, e4, r4⟩ := ownLe_rdS (R := rDirt) (f := dirtC) (fun _ => rfl) h.vd (by omega) fun y hy => by
    obtain ⟨a, b⟩ := hi.dd y hy
    exact ⟨⟨rfl, in64_60 a⟩, rfl, in64_60 b⟩
  obtain ⟨i1, i2, i3, i4, i5, i6, i7⟩ := hi.ii
  obtain ⟨n1, n2, n3, n4⟩ := hi.nn
  exact ⟨⟨A1, c1, e1, r1⟩, ⟨A2, c2, e2, r2⟩, ⟨A3, c3, e3, r3⟩, ⟨A4, c4, e4, r4⟩, ⟨in64_60 i1, in64_60 i2, in64_60 i3, in64_60 i4, in64_60 i5, in64_60 i6, in64_60 i7⟩, by omega, by omega, by omega, by omega⟩
theorem recLs_nil (w : World) (B : Nat) {x : RecD} (h1 : x.before = []) (h2 : x.after = []) (h3 : x.rows = []) (h4 : x.dirty = []) : RecLs w B x nilQ :=
  ⟨by rw [h1]; exact Own8.nilRow _ _ _, by rw [h2]; exact Own8.nilRow _ _ _, by rw [h3]; exact ownLe_nil _ _ _ _, by rw [h4]; exact ownLe_nil _ _ _ _, fun k hk => by simp [nilQ, Value.ownBlock] at hk⟩

theorem nothing_any {w : World} (r rp : Nat) : Calls Try.prog 64 #[srcV r, .pointer (some ⟨rp, 0, none⟩)] w fun e w' => (∃ v, e = .returned v) ∧ Below w.heap.size w w' := by
  go_enter Try.func64, Try.ntmps64
  go_wp2
  go_end0
  exact ⟨⟨_, rfl⟩, by first | exact Below.refl _ _ | exact (Below.refl _ _).alloc (Nat.le_refl _) _⟩
abbrev fnV (f : Nat) : Value := .func (.func f) #[] #[]
theorem readers_any {w : World} : Calls Try.prog 39 #[] w fun e w' => ∃ g, e = .returned (.slice (some ⟨g, 0, none⟩) 7 7) ∧ Below w.heap.size w w' ∧ RowC w' g 78 [fnV 65, fnV 66, fnV 67, fnV 64, fnV 64, fnV 64, fnV 68] := by
  go_enter Try.func39, Try.ntmps39
  go_wp2
  go_ret
  exact ⟨_, rfl, (Below.refl _ _).alloc (Nat.le_refl _) _, heap_alloc_new w _⟩
/-- What stands behind kind, birth and prev is read. -/
theorem kind_any {w0 w : World} {r rp B : Nat} {l : List UInt8} {z : RecD} (h : IsRs w0 w r 95 l) (hz : RecB w B rp z nilQ) (hl : l.length ≤ 140737488355328) (hB : B ≤ w.heap.size) (hrn : w0.heap.size ≤ rp) (hwn : w0.heap.size ≤ w.heap.size)
    (hzr : z.rows = []) (hzd : z.dirty = []) {K : Nat} (hK : K < 7) (hk : z.kind = (K : Int) + 1) {f : Nat} (hf : ([fnV 65, fnV 66, fnV 67, fnV 64, fnV 64, fnV 64, fnV 68] : List Value)[K]? = some (fnV f)) :
    Calls Try.prog f #[srcV r, .pointer (some ⟨rp, 0, none⟩)] w (RdrP w0 (pTail z l) r rp B w) := by
  have e1 : K = 0 → pTail z l = pBegin z l := fun e => by unfold pTail; rw [if_pos (by omega)]
  have e2 : K = 1 → pTail z l = pUpdate z l := fun e => by unfold pTail; rw [if_neg (by omega), if_pos (by omega)]
  have e3 : K = 2 → pTail z l = pUndo z l := fun e => by unfold pTail; rw [if_neg (by omega), if_neg (by omega), if_pos (by omega)]
  have e7 : K = 6 → pTail z l = pCheck z l := fun e => by unfold pTail; rw [if_neg (by omega), if_neg (by omega), if_neg (by omega), if_pos (by omega)]
  have e4 : K = 3 ∨ K = 4 ∨ K = 5 → pTail z l = some (z, l) := fun e => by unfold pTail; rw [if_neg (by omega), if_neg (by omega), if_neg (by omega), if_neg (by omega)]
  have hno : K = 3 ∨ K = 4 ∨ K = 5 → f = 64 → Calls Try.prog f #[srcV r, .pointer (some ⟨rp, 0, none⟩)] w (RdrP w0 (pTail z l) r rp B w) := fun e hf => by
    subst hf
    rw [e4 e]
    refine (nothing_any r rp).mono ?_
    rintro e w' ⟨⟨v, rfl⟩, hb⟩
    exact ⟨(KeptBut.refl _ w).below hb, fun e => (by cases e), fun x m e => by injection e with e; injection e with e1 e2; subst e1 e2; exact ⟨⟨v, rfl⟩, h.below hb, nilQ, hz.below hb⟩⟩
  have hcase : K = 0 ∨ K = 1 ∨ K = 2 ∨ K = 3 ∨ K = 4 ∨ K = 5 ∨ K = 6 := by omega
  rcases hcase with rfl | rfl | rfl | rfl | rfl | rfl | rfl
  · obtain rfl : 65 = f := by simpa using hf
    rw [e1 rfl]
    exact readBegin_any h hz hl hB hrn hwn
  · obtain rfl : 66 = f := by simpa using hf
    rw [e2 rfl]
    exact readUpdate_any h hz hl hB hrn hwn
  · obtain rfl : 67 = f := by simpa using hf
    rw [e3 rfl]
    exact readUndo_any h hz hl hB hrn hwn
  · exact hno (by omega) (by simpa using hf.symm)
  · exact hno (by omega) (by simpa using hf.symm)
  · exact hno (by omega) (by simpa using hf.symm)
  · obtain rfl : 68 = f := by simpa using hf
    rw [e7 rfl]
    exact readCheck_any h hz hl hB hrn hwn hzr hzd rfl rfl
end Go.Proofs.Ytiaehoppdihbdaa
