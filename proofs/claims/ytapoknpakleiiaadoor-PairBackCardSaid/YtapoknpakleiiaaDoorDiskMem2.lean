import Derived.Test.YtapoknpakleiiaaDoorDiskMem
/- The disk in memory: a write is loose. -/
set_option linter.unusedVariables false
set_option linter.unusedSimpArgs false
namespace Go.Proofs.YtapoknpakleiiaaDoor
open Go.RowKit Go.Tm
set_option maxHeartbeats 400000
set_option maxRecDepth 100000

theorem dok_wrote {T : DSt} (h : DOk T) {x : Wr} (hx : WrOk T.P T.K x) (n : Nat) : DOk { T with reads := layR T.reads x n, loose := T.loose ++ [x] } :=
  ⟨h.p0, h.p1, h.k0, h.k1, h.m0, h.m1, h.lasts, h.reads.lay hx n, fun y hy => by
    rcases List.mem_append.1 hy with hy | hy
    · exact h.loose y hy
    · rw [List.mem_singleton.1 hy]; exact hx, h.log, h.lasted, h.stop⟩

set_option maxHeartbeats 1000000 in
theorem DiskR.wrote {w1 w5 w6 w7 w8 : World} {χ : Col} {j p : Nat} {T : DSt} {q : DPl} (hD : DiskR w1 χ j p T q) {x : Wr} (hx : WrOk T.P T.K x) (bb : Below w1.heap.size w1 w5) (K6 : KeptBut (fun k => χ k = (j, q.t2 + 1 + x.pl)) w5 w6)
    (G6 : GroundK w6 χ j q.t2 q.g2 q.vs2 (layR T.reads x x.bs.length) (T.P + 3)) (b7 : Below w6.heap.size w6 w7) {v f : Value} (hcl : ClosR w7 χ f x)
    (hO : OwnLe w8 0 118 3 v (q.L.length + 1) (wrC (q.L ++ [(x, f)]))) (hg : w7.grownBy w8 q.vo.ownBlock) (hv : v.ownBlock = q.vo.ownBlock ∨ v.ownBlock = some w7.heap.size) :
    DiskR (w8.setCell ⟨p, 5, none⟩ v) (paint w7.heap.size χ (j, 4)) j p { T with reads := layR T.reads x x.bs.length, loose := T.loose ++ [x] } { q with vo := v, L := q.L ++ [(x, f)] } ∧ KeptBut (fun k => (χ k).1 = j) w1 (w8.setCell ⟨p, 5, none⟩ v) := by
  have h9 := cell_grown w8 p 5 v
  have hpl : x.pl < T.P + 3 := hx.pl
  have ht := hD.tags
  have hp1 := hD.ok.p1
  have s5 : w1.heap.size ≤ w5.heap.size := bb.size
  have s6 : w5.heap.size ≤ w6.heap.size := K6.size
  have s7 : w6.heap.size ≤ w7.heap.size := b7.size
  have s8 : w7.heap.size ≤ w8.heap.size := hg.size
  have hvo : ∀ k, q.vo.ownBlock = some k → χ k = (j, 4) := hD.loose.col
  have hpk : χ p = (j, 1) := hD.col
  have hp : p < w1.heap.size := hD.row.lt
  -- from w7 on
  have t7 : ∀ k, k < w7.heap.size → χ k ≠ (j, 4) → χ k ≠ (j, 1) → (w8.setCell ⟨p, 5, none⟩ v).heap[k]? = w7.heap[k]? := fun k hk h4 h1 =>
    (h9.block k (by omega) (fun e => h1 (by injection e with e; rw [e]; exact hpk))).trans (hg.block k hk (fun e => h4 (hvo k e.symm)))
  have t6 : ∀ k, k < w6.heap.size → χ k ≠ (j, 4) → χ k ≠ (j, 1) → (w8.setCell ⟨p, 5, none⟩ v).heap[k]? = w6.heap[k]? := fun k hk h4 h1 => (t7 k (by omega) h4 h1).trans (b7.block k hk)
  have t1 : ∀ k, k < w1.heap.size → χ k ≠ (j, q.t2 + 1 + x.pl) → χ k ≠ (j, 4) → χ k ≠ (j, 1) → (w8.setCell ⟨p, 5, none⟩ v).heap[k]? = w1.heap[k]? := fun k hk hr h4 h1 =>
    (t6 k (by omega) h4 h1).trans ((K6.block k (by omega) hr).trans (bb.block k hk))
  have hx9 : Ext w7.heap.size χ (paint w7.heap.size χ (j, 4)) := paint_ext _ _ _
  have ne : ∀ {a b : Nat} {k : Nat}, a ≠ b → χ k = (j, a) → χ k ≠ (j, b) := fun hab h1 h2 => hab (by rw [h1] at h2; injection h2)
  have ne0 : ∀ {b k : Nat}, (χ k).1 ≠ j → χ k ≠ (j, b) := fun h1 h2 => h1 (by rw [h2])
  have hp8 : RowC w8 p 100 (diskC T q) := by
    refine Eq.trans ?_ hD.row
    refine (hg.block p (by omega) (fun e => ?_)).trans ((b7.block p (by omega)).trans ((K6.block p (by omega) (by rw [hpk]; intro e; injection e with _ e; omega)).trans (bb.block p hp)))
    have := hvo p e.symm
    rw [hpk] at this
    injection this with _ this
    omega
  have hvb : ∀ k, v.ownBlock = some k → k ≠ p ∧ k < w8.heap.size ∧ paint w7.heap.size χ (j, 4) k = (j, 4) := fun k hk => by
    have hlt := (ownLe_block hO hk).2.1
    rcases hv with hv | hv
    · have hc := hvo k (hv ▸ hk)
      have hkl : k < w1.heap.size := (ownLe_block hD.loose.own (hv ▸ hk)).2.1
      exact ⟨fun e => by rw [e, hpk] at hc; injection hc with _ hc; omega, hlt, (hx9 k (by omega)).trans hc⟩
    · have e : w7.heap.size = k := by rw [hv] at hk; injection hk
      exact ⟨by omega, hlt, paint_new (by omega)⟩
  refine ⟨⟨hD.pos, (hx9 p (by omega)).trans hpk, hp8.stored 5 v, hD.tags, ?_, ?_, ⟨?_, fun k hk => (hvb k hk).2.2, ?_⟩, ?_, ?_, dok_wrote hD.ok hx _⟩, ?_⟩
  · refine hD.lasts.ext (fun k hk => hx9 k (by omega)) fun k hk hj h1 h2 => t1 k hk (fun e => ?_) (fun e => ?_) (fun e => ?_) <;> (rw [e] at h1 h2; dsimp only at h1 h2; omega)
  · refine G6.ext (fun k hk => hx9 k (by omega)) fun k hk hj h1 h2 => t6 k hk (fun e => ?_) (fun e => ?_) <;> (rw [e] at h1 h2; dsimp only at h1 h2; omega)
  · show OwnLe _ 0 118 3 v (q.L ++ [(x, f)]).length (wrC (q.L ++ [(x, f)]))
    rw [List.length_append]
    exact ownLe_same hO fun k hk => h9.block k (hvb k hk).2.1 (fun e => (hvb k hk).1 (by injection e))
  · intro y hy
    rcases List.mem_append.1 hy with hy | hy
    · exact (hD.loose.clos y hy).ext (fun k hk => hx9 k (by omega)) fun k hk h0 => t1 k hk (ne0 (by have := hD.pos; omega)) (ne0 (by have := hD.pos; omega)) (ne0 (by have := hD.pos; omega))
    · rw [List.mem_singleton.1 hy]
      exact hcl.ext hx9 fun k hk h0 => t7 k hk (ne0 (by have := hD.pos; omega)) (ne0 (by have := hD.pos; omega))
  · show T.loose ++ [x] = (q.L ++ [(x, f)]).map Prod.fst
    rw [List.map_append, ← hD.look]
    rfl
  · exact hD.log.ext (fun k hk => hx9 k (by omega)) fun k hk h5 => t1 k hk (by rw [h5]; intro e; injection e with _ e; omega) (by rw [h5]; intro e; injection e with _ e; omega) (by rw [h5]; intro e; injection e with _ e; omega)
  · exact ⟨h9.os.trans (hg.os.trans (b7.os.trans (K6.os.trans bb.os))), h9.tape.trans (hg.tape.trans (b7.tape.trans (K6.tape.trans bb.tape))), h9.output.trans (hg.output.trans (b7.output.trans (K6.output.trans bb.output))), by have := h9.size; omega, fun k hk hn => t1 k hk (ne0 hn) (ne0 hn) (ne0 hn)⟩

theorem touch_of {w wb w1 w9 : World} {χ χ1 : Col} {j p : Nat} (hbx : Below w.heap.size w wb) (hK : KeptBut (fun k => k = p) wb w1) (hpj : (χ p).1 = j) (hx1 : Ext w.heap.size χ χ1) (K9 : KeptBut (fun k => (χ1 k).1 = j) w1 w9) : KeptBut (fun k => (χ k).1 = j) w w9 :=
  ⟨K9.os.trans (hK.os.trans hbx.os), K9.tape.trans (hK.tape.trans hbx.tape), K9.output.trans (hK.output.trans hbx.output), Nat.le_trans hbx.size (Nat.le_trans hK.size K9.size), fun k hk hn =>
    (K9.block k (Nat.lt_of_lt_of_le hk (Nat.le_trans hbx.size hK.size)) (fun e => hn (by rw [hx1 k hk] at e; exact e))).trans
      ((hK.block k (Nat.lt_of_lt_of_le hk hbx.size) (fun e => hn (by rw [e]; exact hpj))).trans (hbx.block k hk))⟩
end Go.Proofs.YtapoknpakleiiaaDoor
