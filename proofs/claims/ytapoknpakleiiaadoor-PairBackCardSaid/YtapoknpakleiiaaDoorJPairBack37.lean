import Derived.Test.YtapoknpakleiiaaDoorJPairBack36
/- The disk in memory: a sync; grounds under other colours. -/
set_option linter.unusedVariables false
set_option linter.unusedSimpArgs false
namespace Go.Proofs.YtapoknpakleiiaaDoor
open Go.RowKit Go.Tm
set_option maxHeartbeats 400000
set_option maxRecDepth 100000

/-- What lies in the rows of the last ground. -/
def lastS (χ : Col) (j t P : Nat) (k : Nat) : Prop := (χ k).1 = j ∧ t < (χ k).2 ∧ (χ k).2 ≤ t + (P + 3)
theorem DiskR.synced {w1 w2 : World} {χ : Col} {j p : Nat} {T : DSt} {q : DPl} (hD : DiskR w1 χ j p T q) {rows : List (List UInt8)} (G : GroundK w2 (paint w1.heap.size χ (j, 4)) j q.t1 q.g1 q.vs1 rows (T.P + 3)) (K : KeptBut (lastS χ j q.t1 T.P) w1 w2)
    {v : Value} {B : List (Wr × Value)} (hO : OwnLe w2 w1.heap.size 118 3 v B.length (wrC B)) (hB : ∀ x ∈ B, x ∈ q.L) {ls : List Wr} (hls : ls = B.map Prod.fst) (ok : DOk { T with lasts := rows, loose := ls }) :
    DiskR (w2.setCell ⟨p, 5, none⟩ v) (paint w1.heap.size χ (j, 4)) j p { T with lasts := rows, loose := ls } { q with vo := v, L := B } ∧ KeptBut (fun k => (χ k).1 = j) w1 (w2.setCell ⟨p, 5, none⟩ v) := by
  have h3 := cell_grown w2 p 5 v
  have hp : p < w1.heap.size := hD.row.lt
  have hx : Ext w1.heap.size χ (paint w1.heap.size χ (j, 4)) := paint_ext _ _ _
  have ht := hD.tags
  have hp1 := hD.ok.p1
  have hpos := hD.pos
  have hpS : ¬ lastS χ j q.t1 T.P p := fun h => by have := h.2.1; rw [hD.col] at this; dsimp only at this; omega
  have hpc : ∀ k, χ k ≠ (j, 1) → k ≠ p := fun k h e => h (by rw [e]; exact hD.col)
  have t1 : ∀ k, k < w1.heap.size → ¬ lastS χ j q.t1 T.P k → χ k ≠ (j, 1) → (w2.setCell ⟨p, 5, none⟩ v).heap[k]? = w1.heap[k]? := fun k hk hn h1 =>
    (h3.block k (Nat.lt_of_lt_of_le hk K.size) (fun e => hpc k h1 (by injection e with e))).trans (K.block k hk hn)
  have hr : RowC w2 p 100 (diskC T q) := (K.block p hp hpS).trans hD.row
  have hvc : ∀ k, v.ownBlock = some k → w1.heap.size ≤ k := fun k hk => (ownLe_block hO hk).1
  refine ⟨⟨hpos, (hx p hp).trans hD.col, hr.stored 5 v, ht, ?_, ?_, ⟨?_, fun k hk => paint_new (hvc k hk), ?_⟩, hls, ?_, ok⟩, ?_⟩
  · refine G.ext (Ext.refl _ _) fun k hk hj h1 h2 => h3.block k hk (fun e => ?_)
    injection e with e
    rw [e, hx p hp, hD.col] at h1
    dsimp only at h1
    omega
  · refine hD.reads.ext hx fun k hk hj h1 h2 => t1 k hk (fun h => ?_) (fun e => ?_)
    · have := h.2.1
      have := h.2.2
      omega
    · rw [e] at h1
      dsimp only at h1
      omega
  · refine ownLe_same (hO.1 |> fun h => ⟨h, ?_⟩ : OwnLe w2 0 118 3 v B.length (wrC B)) fun k hk => h3.block k (ownLe_block hO hk).2.1 (fun e => by injection e with e; have := hvc k hk; omega)
    rcases hO.2 with h0 | ⟨g, cap, cur, a1, a2, a3⟩
    · exact .inl h0
    · exact .inr ⟨g, cap, cur, a1, Nat.zero_le _, a3⟩
  · intro x hxB
    refine (hD.loose.clos x (hB x hxB)).ext hx fun k hk h0 => t1 k hk (fun h => by have := h.1; omega) (fun e => by rw [e] at h0; have : j = 0 := h0; omega)
  · exact hD.log.ext hx fun k hk h5 => t1 k hk (fun h => by have := h.2.1; rw [h5] at this; dsimp only at this; omega) (fun e => by rw [h5] at e; injection e with _ e; omega)
  · exact ⟨h3.os.trans K.os, h3.tape.trans K.tape, h3.output.trans K.output, Nat.le_trans K.size h3.size, fun k hk hn => t1 k hk (fun h => hn h.1) (fun e => hn (by rw [e]))⟩
theorem lastS_mono {w w' : World} {χ : Col} {j t P i : Nat} (hi : i < P + 3) {χ1 : Col} (hx : Ext w.heap.size χ χ1) {wb : World} (hb : KeptBut (lastS χ j t P) w wb) (h : KeptBut (fun q => χ1 q = (j, t + 1 + i)) wb w') : KeptBut (lastS χ j t P) w w' :=
  ⟨h.os.trans hb.os, h.tape.trans hb.tape, h.output.trans hb.output, Nat.le_trans hb.size h.size, fun k hk hn =>
    (h.block k (Nat.lt_of_lt_of_le hk hb.size) (fun e => hn (by
      rw [hx k hk] at e
      refine ⟨by rw [e], by rw [e]; dsimp only; omega, by rw [e]; dsimp only; omega⟩))).trans (hb.block k hk hn)⟩
theorem GroundK.recol {w : World} {χ χ' : Col} {j t g k : Nat} {vs : List Value} {rows : List (List UInt8)} (h : GroundK w χ j t g vs rows k) (hx : ∀ q, (χ q).1 = j → χ' q = χ q) : GroundK w χ' j t g vs rows k :=
  ⟨(hx g (by rw [h.col])).trans h.col, h.row, h.len, fun i hi => by
    obtain ⟨r, b, c, h1, h2, h3, h4⟩ := h.each i hi
    exact ⟨r, b, c, h1, h2, (hx b (by rw [h3])).trans h3, h4⟩⟩
/-- The closures that a sync keeps, and lays. -/
def leftL (L : List (Wr × Value)) (m : Bool) (k : Nat) : List (Wr × Value) := (L.take k).filter fun x => x.1.m != m
def laidL (L : List (Wr × Value)) (m : Bool) (k : Nat) : List Wr := ((L.take k).map Prod.fst).filter fun x => x.m == m
theorem leftL_yes {L : List (Wr × Value)} {m : Bool} {k : Nat} {x : Wr × Value} (hx : L[k]? = some x) (hm : x.1.m ≠ m) : leftL L m (k + 1) = leftL L m k ++ [x] := by
  unfold leftL
  rw [List.take_add_one, hx, Option.toList_some, List.filter_append]
  simp [hm]
theorem leftL_no {L : List (Wr × Value)} {m : Bool} {k : Nat} {x : Wr × Value} (hx : L[k]? = some x) (hm : x.1.m = m) : leftL L m (k + 1) = leftL L m k := by
  unfold leftL
  rw [List.take_add_one, hx, Option.toList_some, List.filter_append]
  simp [hm]
theorem laidL_yes {L : List (Wr × Value)} {m : Bool} {k : Nat} {x : Wr × Value} (hx : L[k]? = some x) (hm : x.1.m ≠ m) : laidL L m (k + 1) = laidL L m k := by
  unfold laidL
  rw [List.take_add_one, hx, Option.toList_some, List.map_append, List.filter_append]
  simp [hm]
theorem laidL_no {L : List (Wr × Value)} {m : Bool} {k : Nat} {x : Wr × Value} (hx : L[k]? = some x) (hm : x.1.m = m) : laidL L m (k + 1) = laidL L m k ++ [x.1] := by
  unfold laidL
  rw [List.take_add_one, hx, Option.toList_some, List.map_append, List.filter_append]
  simp [hm]
theorem leftL_sub {L : List (Wr × Value)} {m : Bool} {k : Nat} : ∀ x ∈ leftL L m k, x ∈ L := fun x hx => List.mem_of_mem_take (List.mem_filter.1 hx).1
theorem laidL_sub {L : List (Wr × Value)} {m : Bool} {k : Nat} : ∀ x ∈ laidL L m k, x ∈ L.map Prod.fst := fun x hx => by
  obtain ⟨y, hy, rfl⟩ := List.mem_map.1 (List.mem_filter.1 hx).1
  exact List.mem_map.2 ⟨y, List.mem_of_mem_take hy, rfl⟩
theorem leftL_len (L : List (Wr × Value)) (m : Bool) (k : Nat) : (leftL L m k).length ≤ L.length := Nat.le_trans (List.length_filter_le _ _) (by rw [List.length_take]; omega)
theorem leftL_all (L : List (Wr × Value)) (m : Bool) : (L.map Prod.fst).filter (fun x => x.m != m) = (leftL L m L.length).map Prod.fst := by
  unfold leftL
  rw [List.take_length, List.filter_map]
  rfl
theorem laidL_all (L : List (Wr × Value)) (m : Bool) : (L.map Prod.fst).filter (fun x => x.m == m) = laidL L m L.length := by
  unfold laidL
  rw [List.take_length]
end Go.Proofs.YtapoknpakleiiaaDoor
