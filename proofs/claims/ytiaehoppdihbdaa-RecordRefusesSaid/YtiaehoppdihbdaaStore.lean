import Derived.Test.YtiaehoppdihbdaaLib
import Derived.Laws.OwnMore
import Derived.Laws.BitsAllLaws
/- A byte stored into a row of one's own. -/
set_option linter.unusedVariables false
set_option linter.unusedSimpArgs false
namespace Go.Tm

theorem Own8.stored {w : World} {base : Nat} {e : TypeId} {g n cap : Nat} {l : List UInt8} (h : Own8 w base e (.slice (some ⟨g, 0, none⟩) n cap) l) (hn : n = l.length) (j : Nat) (b : UInt8) :
    Own8 (w.setCell ⟨g, j, none⟩ (.int .u8 (b.toNat : Int))) base e (.slice (some ⟨g, 0, none⟩) n cap) (l.set j b) ∧ w.grownBy (w.setCell ⟨g, j, none⟩ (.int .u8 (b.toNat : Int))) (some g) := by
  subst hn
  have := World.ownsRow.stored h j (.int .u8 (b.toNat : Int))
  unfold Own8
  rw [B8_set, List.length_set]
  exact this
theorem Own8.block {w : World} {base : Nat} {e : TypeId} {A : Option Addr} {n cap : Nat} {l : List UInt8} (h : Own8 w base e (.slice A n cap) l) (h0 : 0 < l.length) :
    ∃ g, A = some ⟨g, 0, none⟩ ∧ base ≤ g := by
  rcases h.2 with ⟨h', h2⟩ | ⟨g, cap', cur, h', hb, _⟩
  · omega
  · injection h' with h1
    exact ⟨g, h1, hb⟩
/-- The byte that a walk's 'a ^ b' is. -/
theorem xor8 (a : UInt8) (x : Int) (h0 : 0 ≤ x) (h1 : x ≤ 255) : bits BinOp.xor IntKind.u8 (a.toNat : Int) x = ((a ^^^ UInt8.ofNat x.toNat).toNat : Int) := by
  obtain ⟨n, rfl⟩ := Int.eq_ofNat_of_zero_le h0
  have ha := a.toNat_lt
  rw [u8_xor_nat a.toNat n (by omega) (by omega), UInt8.toNat_xor, Int.toNat_natCast, UInt8.toNat_ofNat', Nat.mod_eq_of_lt (by omega)]
theorem xor8_zero (x : Int) (h0 : 0 ≤ x) (h1 : x ≤ 255) (a : UInt8) : a ^^^ UInt8.ofNat x.toNat = a ↔ x = 0 := by
  obtain ⟨n, rfl⟩ := Int.eq_ofNat_of_zero_le h0
  constructor
  · intro h
    have h2 := congrArg UInt8.toNat h
    rw [UInt8.toNat_xor, Int.toNat_natCast, UInt8.toNat_ofNat', Nat.mod_eq_of_lt (by omega)] at h2
    have h3 := congrArg (fun t => a.toNat ^^^ t) h2
    simp only [← Nat.xor_assoc, Nat.xor_self, Nat.zero_xor] at h3
    omega
  · intro h
    rw [h]
    simp
theorem Own8.unfrozen {w : World} {base : Nat} {e : TypeId} {g n cap : Nat} {l : List UInt8} (h : Own8 w base e (.slice (some ⟨g, 0, none⟩) n cap) l) (hn : n = l.length) (j : Nat) : w.frozen? ⟨g, j, none⟩ = false := by
  subst hn
  exact World.ownsRow.frozenAt h j
theorem Own8.cellAt {w : World} {base : Nat} {e : TypeId} {g n cap : Nat} {l : List UInt8} (h : Own8 w base e (.slice (some ⟨g, 0, none⟩) n cap) l) (hn : n = l.length) (j : Nat) (hj : j < l.length) :
    w.cell? ⟨g, j, none⟩ = some (.int .u8 ((l.getD j 0).toNat : Int)) := by
  subst hn
  obtain ⟨b, o, hbo, hc⟩ := (own_at h).2.cells (by omega)
  injection hbo with hbo
  injection hbo with e1 e2
  subst e1
  subst e2
  have := hc j hj
  rwa [Nat.zero_add] at this
end Go.Tm
