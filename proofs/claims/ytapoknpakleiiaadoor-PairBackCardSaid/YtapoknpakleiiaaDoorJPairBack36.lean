import Derived.Test.YtapoknpakleiiaaDoorDiskMem2
import Derived.Test.YtapoknpakleiiaaDoorDisk8
/- The disk in memory: the log is another. -/
set_option linter.unusedVariables false
set_option linter.unusedSimpArgs false
namespace Go.Proofs.YtapoknpakleiiaaDoor
open Go.RowKit Go.Tm
set_option maxHeartbeats 400000
set_option maxRecDepth 100000

/-- The log lies elsewhere, or is another. -/
theorem DiskR.relog {w1 w2 w3 : World} {χ : Col} {j p : Nat} {T : DSt} {q : DPl} (hD : DiskR w1 χ j p T q) {v : Value} {l : List UInt8} {la : Nat} (hO : Own8 w2 0 5 v l) (hg : w1.grownBy w2 q.vg.ownBlock) (hv : ∀ k, v.ownBlock = some k → q.vg.ownBlock = some k ∨ w1.heap.size ≤ k)
    (h3 : w2.grownBy w3 (some p)) (hr : RowC w2 p 100 (diskC T q) → RowC w3 p 100 (diskC { T with log := l, lasted := la } { q with vg := v })) (hok : DOk { T with log := l, lasted := la }) :
    DiskR w3 (paint w1.heap.size χ (j, 5)) j p { T with log := l, lasted := la } { q with vg := v } ∧ KeptBut (fun k => (χ k).1 = j) w1 w3 := by
  have hp : p < w1.heap.size := hD.row.lt
  have hx : Ext w1.heap.size χ (paint w1.heap.size χ (j, 5)) := paint_ext _ _ _
  have ht := hD.tags
  have hpos := hD.pos
  have t1 : ∀ k, k < w1.heap.size → χ k ≠ (j, 5) → χ k ≠ (j, 1) → w3.heap[k]? = w1.heap[k]? := fun k hk h5 h1 =>
    (h3.block k (Nat.lt_of_lt_of_le hk hg.size) (fun e => h1 (by injection e with e; rw [e]; exact hD.col))).trans (hg.block k hk (fun e => h5 (hD.log.col k e.symm)))
  have ne0 : ∀ {b k : Nat}, (χ k).1 ≠ j → χ k ≠ (j, b) := fun h1 h2 => h1 (by rw [h2])
  have hp2 : RowC w2 p 100 (diskC T q) := (hg.block p hp (fun e => by have := hD.log.col p e.symm; rw [hD.col] at this; injection this with _ this; omega)).trans hD.row
  have hvc : ∀ k, v.ownBlock = some k → paint w1.heap.size χ (j, 5) k = (j, 5) ∧ k ≠ p := fun k hk => by
    rcases hv k hk with h | h
    · have hl := (World.ownsRow.lt hD.log.own k h).2
      have hc := hD.log.col k h
      exact ⟨by rw [hx k hl]; exact hc, fun e => by rw [e, hD.col] at hc; injection hc with _ hc; omega⟩
    · exact ⟨paint_new h, by omega⟩
  refine ⟨⟨hpos, by rw [hx p hp]; exact hD.col, hr hp2, ht, ?_, ?_, ?_, hD.look, ⟨own8_same hO fun k hk => h3.block k (World.ownsRow.lt hO k hk).2 (fun e => (hvc k hk).2 (by injection e)), fun k hk => (hvc k hk).1⟩, hok⟩, ?_⟩
  · exact hD.lasts.ext hx fun k hk hj h1 h2 => t1 k hk (fun e => by rw [e] at h1; dsimp only at h1; omega) (fun e => by rw [e] at h1; dsimp only at h1; omega)
  · exact hD.reads.ext hx fun k hk hj h1 h2 => t1 k hk (fun e => by rw [e] at h1; dsimp only at h1; omega) (fun e => by rw [e] at h1; dsimp only at h1; omega)
  · exact hD.loose.ext hx fun k hk hc => t1 k hk (fun e => by rw [e] at hc; rcases hc with hc | hc; (have : j = 0 := hc; omega); (injection hc with _ hc; omega)) (fun e => by rw [e] at hc; rcases hc with hc | hc; (have : j = 0 := hc; omega); (injection hc with _ hc; omega))
  · exact ⟨h3.os.trans hg.os, h3.tape.trans hg.tape, h3.output.trans hg.output, Nat.le_trans hg.size h3.size, fun k hk hn => t1 k hk (ne0 hn) (ne0 hn)⟩
/-- A shorter beginning of a row of one's own is one. -/
theorem own8_take {w : World} {base : Nat} {e : TypeId} {A : Option Addr} {n c : Nat} {l : List UInt8} (h : Own8 w base e (.slice A n c) l) {m : Nat} (hm : m ≤ l.length) : Own8 w base e (.slice A m c) (l.take m) := by
  have hl : (l.take m).length = m := by rw [List.length_take]; omega
  unfold Own8
  rw [hl]
  refine ⟨by rw [B8_length, hl, Nat.mul_one], ?_⟩
  rcases h.2 with ⟨e1, e2⟩ | ⟨g, cap, cur, e1, hbg, hg, hnc, hcm, hcs, htk⟩
  · injection e1 with ea eb ec
    have : m = 0 := by omega
    subst ea ec this
    exact .inl ⟨rfl, rfl⟩
  · injection e1 with ea eb ec
    subst ea ec
    refine .inr ⟨g, c, cur, rfl, hbg, hg, by omega, hcm, hcs, ?_⟩
    have : (cur.toList.take (l.length * 1)).take (m * 1) = (B8 l).take m := by rw [htk, Nat.mul_one]
    rw [List.take_take, Nat.min_eq_left (by omega)] at this
    rw [this]
    simp [B8, List.map_take]
end Go.Proofs.YtapoknpakleiiaaDoor

/- The contracts of package disk: the log. -/
set_option linter.unusedVariables false
set_option linter.unusedSimpArgs false
namespace Go.Proofs.YtapoknpakleiiaaDoor
open Go.RowKit Go.Tm
set_option maxHeartbeats 400000
set_option maxRecDepth 100000
attribute [local go_sem ↓] Go.wp_at_zero Go.wp_at_succ

theorem ActD.of_act0 {w w1 w2 : World} {χ : Col} {j p : Nat} {s : DSt} {q : DPl} (hD : DiskR w1 χ j p s q) (hK : KeptBut (fun k => k = p) w w1) (hb : Below w1.heap.size w1 w2) : ActD w w2 χ χ j p s :=
  ⟨⟨q, hD.below (Ext.refl _ _) hb⟩, (Touch.of_own hK (by rw [hD.col]) (Ext.refl _ _)).below (Ext.refl _ _) hb⟩
end Go.Proofs.YtapoknpakleiiaaDoor
