import Derived.ProofKit
import Derived.OpenShut
import Derived.ShutString
import Derived.ChangeOld
import Derived.SizedLaws
import Derived.Deep.Slices
import Derived.Test.YtaldpngilgaciaaLib
/- How the arguments of a statement's row are opened: bytes, and rows of bytes. -/
set_option linter.unusedVariables false
set_option linter.unusedSimpArgs false
namespace Go.Tm
open Go.RowKit Go.ChangeShapes Go.WideShapes Go.ChangeAt Go.Deep
section
variable {H : Type} {enc : TypeId × Value → H} {P : Program} {w : World} {base : Nat} {spare : Nat → Bool} {held : Bool}

theorem open_bytes {t e : TypeId} (hU : U8 P t e) (hc : P.cellsOf e = 1) {fuel : Nat} {v : Value} {x : DataW H × List MemPlace} (h : DataW.trod enc P w base spare held fuel t [v] = some x) :
    ∃ A l c, v = .slice A l.length c ∧ Rda w A c l ∧ ((x.1 = .nil ∧ l = []) ∨ ∃ zs sp, x.1 = .slice (lits .u8 zs) sp ∧ zs.length = l.length) := by
  rcases open_ints hU.slice hU.int hc h with ⟨hcs, hx⟩ | ⟨a, len, cap, zs, hcs, _, hl, hm, hz, hx, hcell, hwz⟩
  · obtain rfl : v = .slice none 0 0 := by simpa using hcs
    exact ⟨none, [], 0, rfl, Rda.nilRow w, .inl ⟨by rw [hx], rfl⟩⟩
  · obtain rfl : v = .slice (some a) len cap := by simpa using hcs
    have hlz : len ≤ zs.length := by rw [hz]; split <;> omega
    have hlen : ((zs.take len).map fun n => UInt8.ofNat n.toNat).length = len := by simp; omega
    refine ⟨some a, (zs.take len).map fun n => UInt8.ofNat n.toNat, cap, by rw [hlen], ⟨by rw [hlen]; exact hl, hm, fun e => (by cases e), fun hp => ?_⟩, .inr ⟨zs.take len, _, by rw [hx], by simp⟩⟩
    rw [hlen] at hp
    obtain ⟨b, off, spot⟩ := a
    have hc0 := hcell 0 (by omega)
    have hspot : spot = none := by simpa [Addr.add] using World.cell?_spot hc0
    subst hspot
    refine ⟨b, off, rfl, fun j hj => ?_⟩
    rw [hlen] at hj
    have hcj := hcell j (by omega)
    rw [add_plain] at hcj
    rw [hcj]
    have hw := hwz (zs.getD j 0) (by rw [List.getD_eq_getElem?_getD, List.getElem?_eq_getElem (by omega)]; simp)
    have hb : 0 ≤ zs.getD j 0 ∧ zs.getD j 0 ≤ 255 := bounds_u8 hw
    congr 2
    rw [List.getD_eq_getElem?_getD (l := List.map _ _), List.getElem?_map, List.getElem?_take, if_pos hj, List.getElem?_eq_getElem (by omega)]
    simp only [Option.map_some, Option.getD_some]
    have hg : zs.getD j 0 = zs[j] := by rw [List.getD_eq_getElem?_getD, List.getElem?_eq_getElem (by omega)]; rfl
    rw [hg] at hb ⊢
    exact tmByte0 _ hb.1 (by omega)
end
end Go.Tm
