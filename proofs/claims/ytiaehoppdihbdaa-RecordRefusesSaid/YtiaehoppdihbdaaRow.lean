import Derived.ProofKit
import Derived.OpenShut
import Derived.ShutString
import Derived.ChangeOld
import Derived.SizedLaws
import Derived.Deep.Slices
import Derived.Deep.CondSized
import Derived.Test.YtiaehoppdihbdaaLib
import Derived.Test.YtiaehoppdihbdaaRows
/- How the arguments of a statement's row are opened: bytes, and rows of bytes. -/
set_option linter.unusedVariables false
set_option linter.unusedSimpArgs false
namespace Go.Tm
open Go.RowKit Go.ChangeShapes Go.WideShapes Go.ChangeAt Go.Deep
section
variable {H : Type} {enc : TypeId × Value → H} {P : Program} {w : World} {base : Nat} {spare : Nat → Bool} {held : Bool}

theorem open_bytes {t e : TypeId} (hU : U8 P t e) (hc : P.cellsOf e = 1) {fuel : Nat} {v : Value} {x : DataW H × List MemPlace} (h : DataW.trod enc P w base spare held fuel t [v] = some x) :
    ∃ A l c, v = .slice A l.length c ∧ Rda w A c l ∧ ((x.1 = .nil ∧ l = []) ∨ ∃ zs sp, x.1 = .slice (lits .u8 zs) sp ∧ zs.length = l.length) := by
  rcases open_ints hU.slice hU.int hc h with ⟨hcs, hx⟩ | ⟨a, len, cap, zs, hcs, _, hl, hm, hz, hx, hcell, hwz⟩
  · obtain rfl : v = .slice none 0 0 := by simpa using hcs
    exact ⟨none, [], 0, rfl, Rda.nilRow w, .inl ⟨by rw [hx], rfl⟩⟩
  · obtain rfl : v = .slice (some a) len cap := by simpa using hcs
    have hlz : len ≤ zs.length := by rw [hz]; split <;> omega
    have hlen : ((zs.take len).map fun n => UInt8.ofNat n.toNat).length = len := by simp; omega
    refine ⟨some a, (zs.take len).map fun n => UInt8.ofNat n.toNat, cap, by rw [hlen], ⟨by rw [hlen]; exact hl, hm, fun e => (by cases e), fun hp => ?_⟩, .inr ⟨zs.take len, _, by rw [hx], by simp⟩⟩
    rw [hlen] at hp
    obtain ⟨b, off, spot⟩ := a
    have hc0 := hcell 0 (by omega)
    have hspot : spot = none := by simpa [Addr.add] using World.cell?_spot hc0
    subst hspot
    refine ⟨b, off, rfl, fun j hj => ?_⟩
    rw [hlen] at hj
    have hcj := hcell j (by omega)
    rw [add_plain] at hcj
    rw [hcj]
    have hw := hwz (zs.getD j 0) (by rw [List.getD_eq_getElem?_getD, List.getElem?_eq_getElem (by omega)]; simp)
    have hb : 0 ≤ zs.getD j 0 ∧ zs.getD j 0 ≤ 255 := bounds_u8 hw
    congr 2
    rw [List.getD_eq_getElem?_getD (l := List.map _ _), List.getElem?_map, List.getElem?_take, if_pos hj, List.getElem?_eq_getElem (by omega)]
    simp only [Option.map_some, Option.getD_some]
    have hg : zs.getD j 0 = zs[j] := by rw [List.getD_eq_getElem?_getD, List.getElem?_eq_getElem (by omega)]; rfl
    rw [hg] at hb ⊢
    exact tmByte0 _ hb.1 (by omega)

/-- The reading d of one row of bytes l. -/
def RowOf (d : DataW H) (l : List UInt8) : Prop := (d = .nil ∧ l = []) ∨ ∃ zs sp, d = .slice (lits .u8 zs) sp ∧ zs.length = l.length
inductive RowsOf : List (DataW H) → List (List UInt8) → Prop
  | nil : RowsOf [] []
  | cons {d : DataW H} {l : List UInt8} {ds : List (DataW H)} {ls : List (List UInt8)} (h : RowOf d l) (t : RowsOf ds ls) : RowsOf (d :: ds) (l :: ls)

theorem rowsOf_range (D : Nat → DataW H) (L : Nat → List UInt8) (n : Nat) (h : ∀ i, i < n → RowOf (D i) (L i)) : RowsOf ((List.range n).map D) ((List.range n).map L) := by
  have : ∀ l : List Nat, (∀ i ∈ l, RowOf (D i) (L i)) → RowsOf (l.map D) (l.map L) := by
    intro l
    induction l with
    | nil => intro _; exact .nil
    | cons x r ih => intro hx; exact .cons (hx x (by simp)) (ih fun i hi => hx i (by simp [hi]))
  exact this _ fun i hi => h i (by simpa using hi)

theorem open_rows {T t e : TypeId} (hT : P.underlying T = some (.slice t)) (hU : U8 P t e) (hc : P.cellsOf e = 1) (hct : P.cellsOf t = 1) {fuel : Nat} {v : Value} {x : DataW H × List MemPlace}
    (h : DataW.trod enc P w base spare held fuel T [v] = some x) :
    ∃ A ls c, v = .slice A ls.length c ∧ RdRows w A c ls ∧ ((x.1 = .nil ∧ ls = []) ∨ ∃ es sp, x.1 = .slice es sp ∧ RowsOf es ls) := by
  rcases open_slice1 hT hct h with ⟨hcs, hx⟩ | ⟨a, len, cap, m, n, V, D, Pl, hcs, _, hl, hm, hmm, hx, hV⟩
  · obtain rfl : v = .slice none 0 0 := by simpa using hcs
    exact ⟨none, [], 0, rfl, ⟨Nat.le_refl _, by unfold maxLen; omega, fun h => by simp at h⟩, .inl ⟨by rw [hx], rfl⟩⟩
  · obtain rfl : v = .slice (some a) len cap := by simpa using hcs
    have hlm : len ≤ m := by rw [hmm]; split <;> omega
    have each : ∀ i, ∃ l : List UInt8, i < len → ∃ Aj cj, V i = .slice Aj l.length cj ∧ Rda w Aj cj l ∧ RowOf (D i) l := by
      intro i
      by_cases hi : i < len
      · obtain ⟨h1, h2⟩ := hV i (by omega)
        obtain ⟨A, l, c, e1, e2, e3⟩ := open_bytes hU hc h2
        exact ⟨l, fun _ => ⟨A, c, e1, e2, e3⟩⟩
      · exact ⟨[], fun h => absurd h hi⟩
    obtain ⟨L, hL⟩ := Classical.axiomOfChoice each
    have hlen : ((List.range len).map L).length = len := by simp
    refine ⟨some a, (List.range len).map L, cap, by rw [hlen], ⟨by rw [hlen]; exact hl, hm, fun hp => ?_⟩, .inr ⟨_, _, by rw [hx], rowsOf_range D L len fun i hi => (hL i hi).choose_spec.choose_spec.2.2⟩⟩
    rw [hlen] at hp
    obtain ⟨b, off, spot⟩ := a
    have hc0 := (hV 0 (by omega)).1
    have hspot : spot = none := by simpa [Addr.add] using World.cell?_spot hc0
    subst hspot
    refine ⟨b, off, rfl, fun j hj => ?_⟩
    rw [hlen] at hj
    obtain ⟨Aj, cj, e1, e2, _⟩ := hL j hj
    have hcj := (hV j (by omega)).1
    rw [add_plain, e1] at hcj
    have hg : ((List.range len).map L).getD j [] = L j := by simp [List.getD, hj]
    rw [hg]
    exact ⟨Aj, cj, hcj, e2⟩
end

section
open Go.Proofs.Ytiaehoppdihbdaa
variable {H : Type}
theorem bulk_one (d : DataW H) : 1 ≤ Rows.uptoBulk d := by
  cases d with
  | lit l => cases l <;> simp [Rows.uptoBulk]
  | nil => simp [Rows.uptoBulk]
  | ptr d => simp [Rows.uptoBulk]
  | slice elems spare => simp [Rows.uptoBulk]
  | agg parts => simp [Rows.uptoBulk]
  | iface t d => simp [Rows.uptoBulk]
  | map entries => simp [Rows.uptoBulk]
  | held h => simp [Rows.uptoBulk]
theorem bulk_length (l : List (DataW H)) : l.length ≤ Rows.uptoBulkAll l := by
  induction l with
  | nil => simp [Rows.uptoBulkAll]
  | cons x r ih => have := bulk_one x; simp only [Rows.uptoBulkAll, List.length_cons]; omega
theorem bulk_part {d : DataW H} {l : List (DataW H)} (h : d ∈ l) : Rows.uptoBulk d ≤ Rows.uptoBulkAll l := by
  induction l with
  | nil => cases h
  | cons x r ih =>
    simp only [Rows.uptoBulkAll]
    cases List.mem_cons.1 h with
    | inl e => subst e; omega
    | inr e => have := ih e; omega
theorem bulk_row {d : DataW H} {l : List UInt8} (h : RowOf d l) : l.length + 1 ≤ Rows.uptoBulk d := by
  rcases h with ⟨rfl, rfl⟩ | ⟨zs, sp, rfl, hl⟩
  · simp [Rows.uptoBulk]
  · have h1 := bulk_length (lits (H := H) .u8 zs)
    unfold lits at h1
    rw [List.length_map] at h1
    simp only [Rows.uptoBulk, lits]
    omega
theorem bulk_rows {ds : List (DataW H)} {ls : List (List UInt8)} (h : RowsOf ds ls) : (cat ls).length + ls.length ≤ Rows.uptoBulkAll ds := by
  induction h with
  | nil => simp [cat_nil, Rows.uptoBulkAll]
  | cons h t ih =>
    have := bulk_row h
    simp only [cat_cons, List.length_append, List.length_cons, Rows.uptoBulkAll]
    omega
theorem bulk_slice {es sp : List (DataW H)} {ls : List (List UInt8)} (h : RowsOf es ls) : (cat ls).length + ls.length ≤ Rows.uptoBulk (.slice es sp) := by
  have := bulk_rows h
  simp only [Rows.uptoBulk]
  omega
theorem bulk_all {ds : List (DataW H)} (hk : Rows.uptoSmall H ds = true) : Rows.uptoBulkAll ds ≤ 1048576 := of_decide_eq_true hk
end
end Go.Tm
