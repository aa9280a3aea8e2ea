import Derived.Test.YtiaehoppdihbdaaBuf
import Derived.Test.YtiaehoppdihbdaaSlotPure
import Derived.Maps.AppendAt
import Derived.Deep.RegionLaw
import Derived.Deep.QuietTactic
import Derived.BigQuiet
import Derived.IntWalk
/- A row of one's own whose block may be longer than its capacity says; append onto it; where it lies then. copy into a row of one's own. -/
set_option linter.unusedVariables false
set_option linter.unusedSimpArgs false
namespace Go.Tm
open Go Go.RowKit
set_option maxHeartbeats 400000
set_option maxRecDepth 100000

/-- A row of one's own whose block may be longer than the slice's capacity says. -/
def OwnLe (w : World) (base : Nat) (e : TypeId) (size : Nat) (v : Value) (n : Nat) (xs : List Value) : Prop :=
  xs.length = n * size ∧ ((v = .slice none 0 0 ∧ n = 0) ∨ ∃ g cap cur, v = .slice (some ⟨g, 0, none⟩) n cap ∧ base ≤ g ∧ w.heap[g]? = some (.cells cur e (0, 0)) ∧ n ≤ cap ∧ cap ≤ maxLen ∧ cap * size ≤ cur.size ∧ cur.toList.take (n * size) = xs)
theorem ownLe_nil (w : World) (base : Nat) (e : TypeId) (size : Nat) : OwnLe w base e size (.slice none 0 0) 0 [] := ⟨by simp, .inl ⟨rfl, rfl⟩⟩
theorem ownLe_slice {w : World} {base : Nat} {e : TypeId} {size : Nat} {v : Value} {k : Nat} {xs : List Value} (h : OwnLe w base e size v k xs) : ∃ A c, v = .slice A k c := by
  rcases h.2 with ⟨e1, e2⟩ | ⟨g, cap, cur, e1, _⟩
  · exact ⟨none, 0, by rw [e1, e2]⟩
  · exact ⟨some ⟨g, 0, none⟩, cap, e1⟩
theorem ownLe_kept {w w' : World} {base : Nat} {e : TypeId} {size k : Nat} {v : Value} {xs : List Value} (h : OwnLe w base e size v k xs) {row : Option Nat} (hg : w.grownBy w' row) (hne : ∀ g, v.ownBlock = some g → row ≠ some g) : OwnLe w' base e size v k xs := by
  refine ⟨h.1, ?_⟩
  rcases h.2 with h0 | ⟨g, cap, cur, rfl, hbg, hgg, rest⟩
  · exact .inl h0
  · exact .inr ⟨g, cap, cur, rfl, hbg, (hg.block g (Array.getElem?_eq_some_iff.1 hgg).1 (fun e => hne g rfl e.symm)).trans hgg, rest⟩
theorem ownLe_below {w w' : World} {base : Nat} {e : TypeId} {size k : Nat} {v : Value} {xs : List Value} (h : OwnLe w base e size v k xs) (hb : Below w.heap.size w w') : OwnLe w' base e size v k xs :=
  ownLe_kept h (below_grown hb none) (fun _ _ h => by cases h)
theorem ownLe_block {w : World} {base : Nat} {e : TypeId} {size k : Nat} {v : Value} {xs : List Value} (h : OwnLe w base e size v k xs) {g : Nat} (hg : v.ownBlock = some g) : base ≤ g ∧ g < w.heap.size ∧ ∃ cur, w.heap[g]? = some (.cells cur e (0, 0)) := by
  rcases h.2 with ⟨rfl, _⟩ | ⟨g', cap, cur, rfl, hbg, hgg, _⟩
  · simp [Value.ownBlock] at hg
  · have : g' = g := by simpa [Value.ownBlock] using hg
    subst this
    exact ⟨hbg, (Array.getElem?_eq_some_iff.1 hgg).1, cur, hgg⟩
theorem ownLe_cell {w : World} {base : Nat} {e : TypeId} {size k c : Nat} {A : Option Addr} {xs : List Value} (h : OwnLe w base e size (.slice A k c) k xs) {q : Nat} {x : Value} (hq : xs[q]? = some x) : ∃ g, A = some ⟨g, 0, none⟩ ∧ w.cell? ⟨g, q, none⟩ = some x ∧ w.frozen? ⟨g, q, none⟩ = false ∧ k ≤ c := by
  rcases h.2 with ⟨e1, e2⟩ | ⟨g, cap, cur, e1, hg, hblk, hnc, _, hsz, htk⟩
  · have h1 := h.1
    have := (List.getElem?_eq_some_iff.1 hq).1
    subst e2
    simp at h1
    rw [h1] at this
    simp at this
  · injection e1 with ea eb ec
    subst ea ec
    refine ⟨g, rfl, ?_, by simp [World.frozen?, hblk], hnc⟩
    rw [← htk, List.getElem?_take] at hq
    split at hq
    · unfold World.cell?
      rw [hblk]
      simpa using hq
    · cases hq
/-- A shorter beginning of it, its capacity cut down. -/
theorem ownLe_take {w : World} {base : Nat} {e : TypeId} {size k c : Nat} {A : Option Addr} {xs : List Value} (h : OwnLe w base e size (.slice A k c) k xs) {j : Nat} (hj : j < k) : OwnLe w base e size (.slice A j j) j (xs.take (j * size)) := by
  rcases h.2 with ⟨e1, e2⟩ | ⟨g, cap, cur, e1, hg, hblk, hnc, hcm, hsz, htk⟩
  · omega
  · injection e1 with ea eb ec
    subst ea ec
    have h1 := h.1
    have hle : j * size ≤ k * size := Nat.mul_le_mul_right _ (by omega)
    have hle2 : j * size ≤ c * size := Nat.mul_le_mul_right _ (by omega)
    exact ⟨by rw [List.length_take, h1, Nat.min_eq_left hle], .inr ⟨g, j, cur, rfl, hg, hblk, Nat.le_refl _, by omega, by omega, by rw [← htk, List.take_take, Nat.min_eq_left hle]⟩⟩
theorem run_append_le {P : Program} (w : World) (base : Nat) (t ty e : TypeId) {z : Value} {size bytes : Nat} (ht : P.underlying t = some (.slice e)) (hinfo : (P.info? e).map (fun i => (i.zero, i.size, i.bytes)) = some (some z, size, bytes)) (hzs : z.cells.size = size) (hsz : 0 < size)
    (v : Value) (n : Nat) (xs : List Value) (hown : OwnLe w base e size v n xs)
    (a : Addr) (m c : Nat) (news : List Value) (hl : news.length = m * size) (hnews : ∀ j u, news[j]? = some u → w.cell? (a.add j) = some u) (h1 : ∀ u ∈ news, u.oneCell' = true)
    (h63 : n + m ≤ maxLen) (hbytes : (n + m) * bytes ≤ 140737488355328) (hbase : base ≤ w.heap.size) :
    ∃ v' w', (Builtin.append_ #[t, t] ty #[v, .slice (some a) m c]).run P w = .ok v' w' ∧ OwnLe w' base e size v' (n + m) (xs ++ news) ∧ w.grownBy w' v.ownBlock ∧ (v'.ownBlock = v.ownBlock ∨ v'.ownBlock = some w.heap.size) := by
  obtain ⟨i, hi, hz, hs, hby⟩ := info_parts hinfo
  subst hs
  subst hby
  have hsmall : n + m ≤ 9223372036854775807 := by simp only [maxLen] at h63; omega
  have hlen : (xs ++ news).length = (n + m) * i.size := by rw [List.length_append, hown.1, hl, Nat.add_mul]
  have grown : ∀ (old : Nat), old < n + m → ∀ (row : Option Nat),
      OwnLe (w.drew.alloc (.cells (xs.toArray ++ news.toArray ++ Builtin.zeroCells z.cells (grownCap w (n + m) old e - (n + m))) e)) base e i.size
        (.slice (some ⟨w.heap.size, 0, none⟩) (n + m) (grownCap w (n + m) old e)) (n + m) (xs ++ news) ∧
      w.grownBy (w.drew.alloc (.cells (xs.toArray ++ news.toArray ++ Builtin.zeroCells z.cells (grownCap w (n + m) old e - (n + m))) e)) row := by
    intro old ho row
    have hge := grownCap_ge w (n + m) old e
    have hcm : grownCap w (n + m) old e ≤ maxLen := grownCap_le_maxLen w (n + m) old e h63
    refine ⟨⟨hlen, .inr ⟨w.heap.size, _, _, rfl, hbase, heap_alloc_new w.drew _, hge, hcm, Nat.le_of_eq ?_, ?_⟩⟩, ⟨rfl, rfl, rfl, by simp, fun k hk _ => Below.heap_alloc w.drew _ k hk⟩⟩
    · simp only [Array.size_append, List.size_toArray, size_zeroCells, hzs, hown.1, hl, ← Nat.add_mul]
      congr 1
      omega
    · simp only [Array.toList_append, List.append_assoc]
      rw [← List.append_assoc, ← hlen]
      exact List.take_left
  rcases hown.2 with ⟨rfl, rfl⟩ | ⟨g, cap, cur, rfl, hbg, hg, hnc, hcm, hcs, htake⟩
  · have hx : xs = [] := List.eq_nil_of_length_eq_zero (by simpa using hown.1)
    subst hx
    by_cases hm : m = 0
    · subst hm
      have hn : news = [] := List.eq_nil_of_length_eq_zero (by simpa using hl)
      subst hn
      refine ⟨.slice none 0 0, w, ?_, ownLe_nil w base e i.size, ⟨rfl, rfl, rfl, Nat.le_refl _, fun _ _ _ => rfl⟩, .inl rfl⟩
      simp [Builtin.append_, run_underlying ht, sizeOf, typeInfo, hi, Builtin.lenOf, Builtin.firstCells, loadCells, loadCellsFrom]
    · have hr := run_append_nil (P := P) w t ty e i z ht hi hz a m c news hl hnews (by omega) (by omega) (by have hb := hbytes; simp only [Nat.zero_add] at hb; omega)
      have hgr := grown 0 (by omega) (Value.ownBlock (.slice none 0 0))
      simp only [Nat.zero_add, List.nil_append, Array.empty_append] at hgr ⊢
      exact ⟨_, _, hr, hgr.1, hgr.2, .inr rfl⟩
  · by_cases hroom : n + m ≤ cap
    · have hfit : n * i.size + news.length ≤ cur.size := by
        rw [hl, ← Nat.add_mul]
        exact Nat.le_trans (Nat.mul_le_mul_right _ hroom) hcs
      have hr := run_append_room (P := P) w t ty e i ht hi g n cap cur hg a m c news hl hnews h1 hroom hfit
      refine ⟨_, _, hr, ⟨hlen, .inr ⟨g, cap, _, rfl, hbg, setRow_heap w g cur _ e _ hg, hroom, hcm, ?_, ?_⟩⟩, ⟨rfl, rfl, rfl, by simp, fun k _ hk => setRow_other w g k _ (fun e => hk (by simp [Value.ownBlock, e]))⟩, .inl rfl⟩
      · simp only [List.size_toArray, List.length_append, List.length_take, List.length_drop, Array.length_toList]
        omega
      · rw [htake, ← hlen]
        exact List.take_left
    · have holds : ∀ j u, xs[j]? = some u → w.cell? ((⟨g, 0, none⟩ : Addr).add j) = some u := fun j u hj => by
        obtain ⟨g', e', hc, _⟩ := ownLe_cell hown hj
        injection e' with e'
        injection e' with e' _
        subst e'
        rw [Addr.add_lit, Nat.zero_add]
        exact hc
      have hr := run_append_grow (P := P) w t ty e i z ht hi hz ⟨g, 0, none⟩ n cap xs hown.1 holds a m c news hl hnews (by omega) (by omega) (growslice_fits (by omega) hbytes)
      have hgr := grown cap (by omega) (Value.ownBlock (.slice (some ⟨g, 0, none⟩) n cap))
      exact ⟨_, _, hr, hgr.1, hgr.2, .inr rfl⟩
theorem wpList_appLe {P : Program} {w : World} {ops : Array Oper} {rest : List Oper} {o : Oper} {a : Act} {Q : Exit → Act → World → Prop}
    (hg : o.guard = none) (s x : Operand) (t : TypeId) (hop : o.op = Op.call { callee := Callee.builtin Builtin.append, args := #[s, x], argTypes := #[t, t] })
    (base : Nat) (e : TypeId) {z : Value} {size bytes : Nat} (h1 : P.underlying t = some (.slice e)) (hinfo : (P.info? e).map (fun i => (i.zero, i.size, i.bytes)) = some (some z, size, bytes)) (h6 : z.cells.size = size) (h7 : 0 < size)
    (v : Value) (k : Nat) (xs : List Value) (hs : a.eval s = v) (hown : OwnLe w base e size v k xs) (ad : Addr) (m c : Nat) (news : List Value) (hx : a.eval x = .slice (some ad) m c) (hn : news.length = m * size)
    (hc : ∀ j u, news[j]? = some u → w.cell? (ad.add j) = some u) (h1c : ∀ u ∈ news, u.oneCell' = true) (b1 : k + m ≤ maxLen) (b2 : (k + m) * bytes ≤ 140737488355328) (b3 : base ≤ w.heap.size)
    (hK : ∀ v' w', OwnLe w' base e size v' (k + m) (xs ++ news) → w.grownBy w' v.ownBlock → (v'.ownBlock = v.ownBlock ∨ v'.ownBlock = some w.heap.size) → wpList P ops Q rest (a.put o.dst v') w') :
    wpList P ops Q (o :: rest) a w := by
  refine wpList_plain hg fun K hK' => ?_
  obtain ⟨v', w', hrun, r1, r2, r3⟩ := run_append_le (P := P) w base t o.type e h1 hinfo h6 h7 v k xs hown ad m c news hn hc h1c b1 b2 b3
  unfold Oper.wp execOp
  simp only [hop, resolve, invoke, builtin, Sem.run_bind, Sem.run_pure, Result.andThen_ok, List.map_toArray, List.map_cons, List.map_nil, hs, hx, hrun]
  exact hK' _ _ (hK v' w' r1 r2 r3)


theorem ownLe_stored {w : World} {base : Nat} {e : TypeId} {size k c g : Nat} {xs : List Value} (h : OwnLe w base e size (.slice (some ⟨g, 0, none⟩) k c) k xs) (j : Nat) (u : Value) : OwnLe (w.setCell ⟨g, j, none⟩ u) base e size (.slice (some ⟨g, 0, none⟩) k c) k (xs.set j u) := by
  refine ⟨by rw [List.length_set]; exact h.1, ?_⟩
  rcases h.2 with ⟨e1, e2⟩ | ⟨g', cap, cur, e1, hg, hblk, hnc, hcm, hsz, htk⟩
  · cases e1
  · injection e1 with ea eb ec
    injection ea with ea
    injection ea with ea
    subst ea ec
    refine .inr ⟨g, c, cur.setIfInBounds j u, rfl, hg, by simp [World.setCell, Array.getElem?_modify, hblk], hnc, hcm, by simpa using hsz, ?_⟩
    rw [← htk]
    simp [List.take_set]

/-- copy over the beginning of a row of bytes of one's own. -/
theorem wpList_copyOwn8 {P : Program} {w : World} {ops : Array Oper} {rest : List Oper} {o : Oper} {a : Act} {Q : Exit → Act → World → Prop} (hgd : o.guard = none) (d s : Operand) {t e : TypeId}
    (ho : o.op = .call { callee := .builtin .copy, args := #[d, s], argTypes := #[t, t] }) (hU : U8 P t e) {g N dc n c : Nat} {A : Option Addr} {l m : List UInt8} {base : Nat}
    (hd : a.eval d = .slice (some ⟨g, 0, none⟩) N dc) (hs : a.eval s = .slice A n c) (hO : Own8 w base e (.slice (some ⟨g, 0, none⟩) N dc) l) (hm : Rda w A c m) (hn : n = m.length) (hl : m.length ≤ l.length)
    (h : ∀ w', Own8 w' base e (.slice (some ⟨g, 0, none⟩) N dc) (layL l 0 m) → w.grownBy w' (some g) → wpList P ops Q rest (a.put o.dst (goInt m.length)) w') : wpList P ops Q (o :: rest) a w := by
  obtain ⟨i, hi, hz, hsz, hby⟩ := hU.info
  have hN : N = l.length := (own_at hO).1
  subst hN hn
  by_cases h0 : m.length = 0
  · have hm0 : m = [] := List.eq_nil_of_length_eq_zero h0
    subst hm0
    refine wpList_copy_nothing hgd d s t t ho e hU.slice (by rw [hi]; simp [hsz]) _ _ _ _ _ _ hd hs (by simp) ?_
    exact h w (by simpa [layL] using hO) (grown_refl _ _)
  · obtain ⟨b, o', rfl, _⟩ := hm.cells (by omega)
    rcases hO.2 with ⟨h1, _⟩ | ⟨g', cap, cur, h1, hb, hblk, h2, h3, h4, h5⟩
    · cases h1
    · injection h1 with ea eb ec
      injection ea with ea
      injection ea with ea
      subst ea ec
      have h6 : cur.toList.take l.length = B8 l := by simpa using h5
      have hcs : l.length ≤ cur.size := by simp at h4; omega
      refine wpList_copy_own hgd d s t t ho e hU.slice (by rw [hi]; simp [hsz]) g 0 _ _ _ _ _ hd hs cur e hblk (B8 m) (by rw [B8_length]; exact (Nat.min_eq_left hl).symm) hm.news (by rw [B8_length]; omega) (B8_one m) ?_
      rw [B8_length]
      refine h _ ⟨by rw [B8_length, layL_length _ _ _ (by omega)]; simp, .inr ⟨g, dc, _, ?_, hb, setRow_heap w g cur _ e _ hblk, by rw [layL_length _ _ _ (by omega)]; exact h2, h3, ?_, ?_⟩⟩ ⟨rfl, rfl, rfl, by simp [World.setRow], fun k hk hne => setRow_other w g k _ (fun e => hne (by rw [e]))⟩
      · rw [layL_length _ _ _ (by omega)]
      · simp only [List.take_zero, List.nil_append, List.size_toArray, List.length_append, List.length_drop, Array.length_toList, B8_length]
        omega
      · rw [layL_length _ _ _ (by omega)]
        simp only [List.take_zero, List.nil_append, Nat.zero_add, Nat.mul_one]
        rw [List.take_append, List.take_of_length_le (by rw [B8_length]; exact hl), B8_length, ← List.drop_take, h6]
        unfold layL
        simp [B8]
/-- make, of any elements. -/
theorem wpList_makeRow {P : Program} {w : World} {ops : Array Oper} {rest : List Oper} {o : Oper} {a : Act} {Q : Exit → Act → World → Prop} (hgd : o.guard = none) (lo co : Operand) {t e : TypeId}
    (ho : o.op = .makeSlice t lo co) (ht : P.underlying t = some (.slice e)) {z : Value} {size bytes : Nat} (hinfo : (P.info? e).map (fun i => (i.zero, i.size, i.bytes)) = some (some z, size, bytes)) {kl kc : IntKind} {L C : Int} (n : Nat)
    (hl : a.eval lo = .int kl L) (hc : a.eval co = .int kc C) (hL : L = (n : Int)) (hC : C = (n : Int)) (hn : (bytes : Int) * n ≤ 281474976710656) (h63 : (n : Int) ≤ 9223372036854775807) (cs : List Value) (hcs : madeCells z.cells (n * size) = cs.toArray)
    (h : ∀ w', RowC w' w.heap.size e cs → Below w.heap.size w w' → wpList P ops Q rest (a.put o.dst (.slice (some ⟨w.heap.size, 0, none⟩) n n)) w') : wpList P ops Q (o :: rest) a w := by
  refine wpList_plain hgd fun K hK => ?_
  subst hL hC
  obtain ⟨i, hi, hz, hs, hby⟩ := info_parts hinfo
  have hrun := run_make (P := P) w t e i z ht hi hz kl kc n n (by omega) (Int.le_refl _) (by rw [hby]; exact hn) h63
  rw [Int.toNat_natCast, hs, hcs] at hrun
  unfold Oper.wp
  simp [execOp, ho, hl, hc, hrun, Result.andThen]
  exact hK _ _ (h _ (heap_alloc_new w _) ((Below.refl _ _).alloc (Nat.le_refl _) _))

/-- append onto such a row, as one step of a region that draws its order. -/
theorem step_appLe {P : Program} {ops : Array Oper} {o : Oper} {a : Act} {w : World} {K : Act → World → Prop} {Q : Exit → Act → World → Prop} {E : Prop}
    (hg : o.guard = none) (s x : Operand) (t : TypeId) (hop : o.op = Op.call { callee := Callee.builtin Builtin.append, args := #[s, x], argTypes := #[t, t] })
    (base : Nat) (e : TypeId) {z : Value} {size bytes : Nat} (h1 : P.underlying t = some (.slice e)) (hinfo : (P.info? e).map (fun i => (i.zero, i.size, i.bytes)) = some (some z, size, bytes)) (h6 : z.cells.size = size) (h7 : 0 < size)
    (v : Value) (k : Nat) (xs : List Value) (hs : a.eval s = v) (hown : OwnLe w base e size v k xs) (ad : Addr) (m c : Nat) (news : List Value) (hx : a.eval x = .slice (some ad) m c) (hn : news.length = m * size)
    (hc : ∀ j u, news[j]? = some u → w.cell? (ad.add j) = some u) (h1c : ∀ u ∈ news, u.oneCell' = true) (b1 : k + m ≤ maxLen) (b2 : (k + m) * bytes ≤ 140737488355328) (b3 : base ≤ w.heap.size)
    (hK : ∀ v' w', OwnLe w' base e size v' (k + m) (xs ++ news) → w.grownBy w' v.ownBlock → (v'.ownBlock = v.ownBlock ∨ v'.ownBlock = some w.heap.size) → K (a.put o.dst v') w') :
    if Region.wanted o (yielded ops a.tmps) = true then Oper.wp P o a w K Q else E := by
  have hw : Region.wanted o (yielded ops a.tmps) = true := by simp [Region.wanted, hg]
  rw [if_pos hw]
  obtain ⟨v', w', hrun, r1, r2, r3⟩ := run_append_le (P := P) w base t o.type e h1 hinfo h6 h7 v k xs hown ad m c news hn hc h1c b1 b2 b3
  unfold Oper.wp
  simp [execOp, hop, resolve, invoke, builtin, hs, hx, hrun, Result.andThen]
  exact hK v' w' r1 r2 r3
end Go.Tm
