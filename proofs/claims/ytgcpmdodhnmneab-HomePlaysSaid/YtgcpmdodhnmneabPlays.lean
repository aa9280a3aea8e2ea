import Derived.Test.YtgcpmdodhnmneabPlaysPure
import Derived.Test.YtgcpmdodhnmneabStore
import Derived.Maps.AppendAt
import Derived.Deep.QuietTactic
import Derived.BigQuiet
import Derived.IntWalk
/- HomePlays: the list of what is held, in memory; spot, taken, outside, tells. -/
set_option linter.unusedVariables false
set_option linter.unusedSimpArgs false
namespace Go.Proofs.Ytgcpmdodhnmneab
open Go.RowKit Go.Tm
set_option maxHeartbeats 400000
set_option maxRecDepth 100000

/-- A row of one's own whose block may be longer than the slice's capacity says. -/
def OwnLe (w : World) (base : Nat) (e : TypeId) (size : Nat) (v : Value) (n : Nat) (xs : List Value) : Prop :=
  xs.length = n * size ∧ ((v = .slice none 0 0 ∧ n = 0) ∨ ∃ g cap cur, v = .slice (some ⟨g, 0, none⟩) n cap ∧ base ≤ g ∧ w.heap[g]? = some (.cells cur e (0, 0)) ∧ n ≤ cap ∧ cap ≤ maxLen ∧ cap * size ≤ cur.size ∧ cur.toList.take (n * size) = xs)
theorem ownLe_nil (w : World) (base : Nat) (e : TypeId) (size : Nat) : OwnLe w base e size (.slice none 0 0) 0 [] := ⟨by simp, .inl ⟨rfl, rfl⟩⟩
theorem ownLe_slice {w : World} {base : Nat} {e : TypeId} {size : Nat} {v : Value} {k : Nat} {xs : List Value} (h : OwnLe w base e size v k xs) : ∃ A c, v = .slice A k c := by
  rcases h.2 with ⟨e1, e2⟩ | ⟨g, cap, cur, e1, _⟩
  · exact ⟨none, 0, by rw [e1, e2]⟩
  · exact ⟨some ⟨g, 0, none⟩, cap, e1⟩
theorem ownLe_kept {w w' : World} {base : Nat} {e : TypeId} {size k : Nat} {v : Value} {xs : List Value} (h : OwnLe w base e size v k xs) {row : Option Nat} (hg : w.grownBy w' row) (hne : ∀ g, v.ownBlock = some g → row ≠ some g) : OwnLe w' base e size v k xs := by
  refine ⟨h.1, ?_⟩
  rcases h.2 with h0 | ⟨g, cap, cur, rfl, hbg, hgg, rest⟩
  · exact .inl h0
  · exact .inr ⟨g, cap, cur, rfl, hbg, (hg.block g (Array.getElem?_eq_some_iff.1 hgg).1 (fun e => hne g rfl e.symm)).trans hgg, rest⟩
theorem ownLe_below {w w' : World} {base : Nat} {e : TypeId} {size k : Nat} {v : Value} {xs : List Value} (h : OwnLe w base e size v k xs) (hb : Below w.heap.size w w') : OwnLe w' base e size v k xs :=
  ownLe_kept h (below_grown hb none) (fun _ _ h => by cases h)
theorem ownLe_block {w : World} {base : Nat} {e : TypeId} {size k : Nat} {v : Value} {xs : List Value} (h : OwnLe w base e size v k xs) {g : Nat} (hg : v.ownBlock = some g) : base ≤ g ∧ g < w.heap.size ∧ ∃ cur, w.heap[g]? = some (.cells cur e (0, 0)) := by
  rcases h.2 with ⟨rfl, _⟩ | ⟨g', cap, cur, rfl, hbg, hgg, _⟩
  · simp [Value.ownBlock] at hg
  · have : g' = g := by simpa [Value.ownBlock] using hg
    subst this
    exact ⟨hbg, (Array.getElem?_eq_some_iff.1 hgg).1, cur, hgg⟩
theorem ownLe_cell {w : World} {base : Nat} {e : TypeId} {size k c : Nat} {A : Option Addr} {xs : List Value} (h : OwnLe w base e size (.slice A k c) k xs) {q : Nat} {x : Value} (hq : xs[q]? = some x) : ∃ g, A = some ⟨g, 0, none⟩ ∧ w.cell? ⟨g, q, none⟩ = some x ∧ w.frozen? ⟨g, q, none⟩ = false ∧ k ≤ c := by
  rcases h.2 with ⟨e1, e2⟩ | ⟨g, cap, cur, e1, hg, hblk, hnc, _, hsz, htk⟩
  · have h1 := h.1
    have := (List.getElem?_eq_some_iff.1 hq).1
    subst e2
    simp at h1
    rw [h1] at this
    simp at this
  · injection e1 with ea eb ec
    subst ea ec
    refine ⟨g, rfl, ?_, by simp [World.frozen?, hblk], hnc⟩
    rw [← htk, List.getElem?_take] at hq
    split at hq
    · unfold World.cell?
      rw [hblk]
      simpa using hq
    · cases hq
/-- A shorter beginning of it, its capacity cut down. -/
theorem ownLe_take {w : World} {base : Nat} {e : TypeId} {size k c : Nat} {A : Option Addr} {xs : List Value} (h : OwnLe w base e size (.slice A k c) k xs) {j : Nat} (hj : j < k) : OwnLe w base e size (.slice A j j) j (xs.take (j * size)) := by
  rcases h.2 with ⟨e1, e2⟩ | ⟨g, cap, cur, e1, hg, hblk, hnc, hcm, hsz, htk⟩
  · omega
  · injection e1 with ea eb ec
    subst ea ec
    have h1 := h.1
    have hle : j * size ≤ k * size := Nat.mul_le_mul_right _ (by omega)
    have hle2 : j * size ≤ c * size := Nat.mul_le_mul_right _ (by omega)
    exact ⟨by rw [List.length_take, h1, Nat.min_eq_left hle], .inr ⟨g, j, cur, rfl, hg, hblk, Nat.le_refl _, by omega, by omega, by rw [← htk, List.take_take, Nat.min_eq_left hle]⟩⟩
theorem run_append_le {P : Program} (w : World) (base : Nat) (t ty e : TypeId) {z : Value} {size bytes : Nat} (ht : P.underlying t = some (.slice e)) (hinfo : (P.info? e).map (fun i => (i.zero, i.size, i.bytes)) = some (some z, size, bytes)) (hzs : z.cells.size = size) (hsz : 0 < size)
    (v : Value) (n : Nat) (xs : List Value) (hown : OwnLe w base e size v n xs)
    (a : Addr) (m c : Nat) (news : List Value) (hl : news.length = m * size) (hnews : ∀ j u, news[j]? = some u → w.cell? (a.add j) = some u) (h1 : ∀ u ∈ news, u.oneCell' = true)
    (h63 : n + m ≤ maxLen) (hbytes : (n + m) * bytes ≤ 140737488355328) (hbase : base ≤ w.heap.size) :
    ∃ v' w', (Builtin.append_ #[t, t] ty #[v, .slice (some a) m c]).run P w = .ok v' w' ∧ OwnLe w' base e size v' (n + m) (xs ++ news) ∧ w.grownBy w' v.ownBlock := by
  obtain ⟨i, hi, hz, hs, hby⟩ := info_parts hinfo
  subst hs
  subst hby
  have hsmall : n + m ≤ 9223372036854775807 := by simp only [maxLen] at h63; omega
  have hlen : (xs ++ news).length = (n + m) * i.size := by rw [List.length_append, hown.1, hl, Nat.add_mul]
  have grown : ∀ (old : Nat), old < n + m → ∀ (row : Option Nat),
      OwnLe (w.drew.alloc (.cells (xs.toArray ++ news.toArray ++ Builtin.zeroCells z.cells (grownCap w (n + m) old e - (n + m))) e)) base e i.size
        (.slice (some ⟨w.heap.size, 0, none⟩) (n + m) (grownCap w (n + m) old e)) (n + m) (xs ++ news) ∧
      w.grownBy (w.drew.alloc (.cells (xs.toArray ++ news.toArray ++ Builtin.zeroCells z.cells (grownCap w (n + m) old e - (n + m))) e)) row := by
    intro old ho row
    have hge := grownCap_ge w (n + m) old e
    have hcm : grownCap w (n + m) old e ≤ maxLen := grownCap_le_maxLen w (n + m) old e h63
    refine ⟨⟨hlen, .inr ⟨w.heap.size, _, _, rfl, hbase, heap_alloc_new w.drew _, hge, hcm, Nat.le_of_eq ?_, ?_⟩⟩, ⟨rfl, rfl, rfl, by simp, fun k hk _ => Below.heap_alloc w.drew _ k hk⟩⟩
    · simp only [Array.size_append, List.size_toArray, size_zeroCells, hzs, hown.1, hl, ← Nat.add_mul]
      congr 1
      omega
    · simp only [Array.toList_append, List.append_assoc]
      rw [← List.append_assoc, ← hlen]
      exact List.take_left
  rcases hown.2 with ⟨rfl, rfl⟩ | ⟨g, cap, cur, rfl, hbg, hg, hnc, hcm, hcs, htake⟩
  · have hx : xs = [] := List.eq_nil_of_length_eq_zero (by simpa using hown.1)
    subst hx
    by_cases hm : m = 0
    · subst hm
      have hn : news = [] := List.eq_nil_of_length_eq_zero (by simpa using hl)
      subst hn
      refine ⟨.slice none 0 0, w, ?_, ownLe_nil w base e i.size, ⟨rfl, rfl, rfl, Nat.le_refl _, fun _ _ _ => rfl⟩⟩
      simp [Builtin.append_, run_underlying ht, sizeOf, typeInfo, hi, Builtin.lenOf, Builtin.firstCells, loadCells, loadCellsFrom]
    · have hr := run_append_nil (P := P) w t ty e i z ht hi hz a m c news hl hnews (by omega) (by omega) (by have hb := hbytes; simp only [Nat.zero_add] at hb; omega)
      have hgr := grown 0 (by omega) (Value.ownBlock (.slice none 0 0))
      simp only [Nat.zero_add, List.nil_append, Array.empty_append] at hgr ⊢
      exact ⟨_, _, hr, hgr.1, hgr.2⟩
  · by_cases hroom : n + m ≤ cap
    · have hfit : n * i.size + news.length ≤ cur.size := by
        rw [hl, ← Nat.add_mul]
        exact Nat.le_trans (Nat.mul_le_mul_right _ hroom) hcs
      have hr := run_append_room (P := P) w t ty e i ht hi g n cap cur hg a m c news hl hnews h1 hroom hfit
      refine ⟨_, _, hr, ⟨hlen, .inr ⟨g, cap, _, rfl, hbg, setRow_heap w g cur _ e _ hg, hroom, hcm, ?_, ?_⟩⟩, ⟨rfl, rfl, rfl, by simp, fun k _ hk => setRow_other w g k _ (fun e => hk (by simp [Value.ownBlock, e]))⟩⟩
      · simp only [List.size_toArray, List.length_append, List.length_take, List.length_drop, Array.length_toList]
        omega
      · rw [htake, ← hlen]
        exact List.take_left
    · have holds : ∀ j u, xs[j]? = some u → w.cell? ((⟨g, 0, none⟩ : Addr).add j) = some u := fun j u hj => by
        obtain ⟨g', e', hc, _⟩ := ownLe_cell hown hj
        injection e' with e'
        injection e' with e' _
        subst e'
        rw [Addr.add_lit, Nat.zero_add]
        exact hc
      have hr := run_append_grow (P := P) w t ty e i z ht hi hz ⟨g, 0, none⟩ n cap xs hown.1 holds a m c news hl hnews (by omega) (by omega) (growslice_fits (by omega) hbytes)
      have hgr := grown cap (by omega) (Value.ownBlock (.slice (some ⟨g, 0, none⟩) n cap))
      exact ⟨_, _, hr, hgr.1, hgr.2⟩
theorem wpList_appLe {P : Program} {w : World} {ops : Array Oper} {rest : List Oper} {o : Oper} {a : Act} {Q : Exit → Act → World → Prop}
    (hg : o.guard = none) (s x : Operand) (t : TypeId) (hop : o.op = Op.call { callee := Callee.builtin Builtin.append, args := #[s, x], argTypes := #[t, t] })
    (base : Nat) (e : TypeId) {z : Value} {size bytes : Nat} (h1 : P.underlying t = some (.slice e)) (hinfo : (P.info? e).map (fun i => (i.zero, i.size, i.bytes)) = some (some z, size, bytes)) (h6 : z.cells.size = size) (h7 : 0 < size)
    (v : Value) (k : Nat) (xs : List Value) (hs : a.eval s = v) (hown : OwnLe w base e size v k xs) (ad : Addr) (m c : Nat) (news : List Value) (hx : a.eval x = .slice (some ad) m c) (hn : news.length = m * size)
    (hc : ∀ j u, news[j]? = some u → w.cell? (ad.add j) = some u) (h1c : ∀ u ∈ news, u.oneCell' = true) (b1 : k + m ≤ maxLen) (b2 : (k + m) * bytes ≤ 140737488355328) (b3 : base ≤ w.heap.size)
    (hK : ∀ v' w', OwnLe w' base e size v' (k + m) (xs ++ news) → w.grownBy w' v.ownBlock → wpList P ops Q rest (a.put o.dst v') w') :
    wpList P ops Q (o :: rest) a w := by
  refine wpList_plain hg fun K hK' => ?_
  obtain ⟨v', w', hrun, r1, r2⟩ := run_append_le (P := P) w base t o.type e h1 hinfo h6 h7 v k xs hown ad m c news hn hc h1c b1 b2 b3
  unfold Oper.wp execOp
  simp only [hop, resolve, invoke, builtin, Sem.run_bind, Sem.run_pure, Result.andThen_ok, List.map_toArray, List.map_cons, List.map_nil, hs, hx, hrun]
  exact hK' _ _ (hK v' w' r1 r2)

/-- What is held, as cells. -/
def hldC (L : List Hd) : List Value := L.flatMap fun e => [.int .i64 e.1, .int .u64 e.2.1, .int .i64 (e.2.2 : Int)]
theorem hldC_cons (x : Hd) (L : List Hd) : hldC (x :: L) = .int .i64 x.1 :: .int .u64 x.2.1 :: .int .i64 (x.2.2 : Int) :: hldC L := rfl
theorem hldC_app (L M : List Hd) : hldC (L ++ M) = hldC L ++ hldC M := by simp [hldC]
theorem hldC_length (L : List Hd) : (hldC L).length = L.length * 3 := by
  induction L with
  | nil => rfl
  | cons x r ih => rw [hldC_cons]; simp [ih]; omega
theorem hldC_get (L : List Hd) (k : Nat) (x : Hd) (h : L[k]? = some x) : (hldC L)[k * 3]? = some (.int .i64 x.1) ∧ (hldC L)[k * 3 + 1]? = some (.int .u64 x.2.1) ∧ (hldC L)[k * 3 + 2]? = some (.int .i64 (x.2.2 : Int)) := by
  induction L generalizing k with
  | nil => simp at h
  | cons y r ih =>
    rw [hldC_cons]
    cases k with
    | zero => simp at h; subst h; exact ⟨rfl, rfl, rfl⟩
    | succ k =>
      have := ih k (by simpa using h)
      rw [show (k + 1) * 3 = k * 3 + 1 + 1 + 1 by omega]
      exact ⟨this.1, this.2.1, this.2.2⟩
theorem hldC_take (L : List Hd) (k : Nat) : hldC (L.take k) = (hldC L).take (k * 3) := by
  induction L generalizing k with
  | nil => simp [hldC]
  | cons y r ih =>
    cases k with
    | zero => simp [hldC]
    | succ k =>
      rw [List.take_succ_cons, hldC_cons, hldC_cons, ih, show (k + 1) * 3 = k * 3 + 1 + 1 + 1 by omega]
      rfl
theorem hldC_drop (L : List Hd) (k : Nat) : hldC (L.drop k) = (hldC L).drop (k * 3) := by
  induction L generalizing k with
  | nil => simp [hldC]
  | cons y r ih =>
    cases k with
    | zero => simp
    | succ k =>
      rw [List.drop_succ_cons, hldC_cons, ih, show (k + 1) * 3 = k * 3 + 1 + 1 + 1 by omega]
      rfl
theorem hldC_set (L : List Hd) (k : Nat) (x : Hd) (v : Int) (h : L[k]? = some x) : hldC (L.set k (x.1, v, x.2.2)) = (hldC L).set (k * 3 + 1) (.int .u64 v) := by
  induction L generalizing k with
  | nil => simp at h
  | cons y r ih =>
    cases k with
    | zero => simp at h; subst h; rfl
    | succ k =>
      rw [List.set_cons_succ, hldC_cons, hldC_cons, ih k (by simpa using h), show (k + 1) * 3 + 1 = k * 3 + 1 + 1 + 1 + 1 by omega]
      rfl
theorem hldC_one (L : List Hd) : ∀ u ∈ hldC L, u.oneCell' = true := by
  intro u hu
  obtain ⟨e, _, he⟩ := List.mem_flatMap.1 hu
  simp at he
  rcases he with rfl | rfl | rfl <;> rfl

/-- A slice that reads as what is held. -/
structure HoldR (w : World) (A : Option Addr) (c : Nat) (L : List Hd) : Prop where
  cap : L.length ≤ c
  cells : ∀ (q : Nat) (x : Hd), L[q]? = some x → ∃ g, A = some ⟨g, 0, none⟩ ∧ w.cell? ⟨g, q * 3, none⟩ = some (.int .i64 x.1) ∧ w.cell? ⟨g, q * 3 + 1, none⟩ = some (.int .u64 x.2.1) ∧ w.cell? ⟨g, q * 3 + 2, none⟩ = some (.int .i64 (x.2.2 : Int)) ∧ w.frozen? ⟨g, q * 3 + 1, none⟩ = false
theorem HoldR.of_own {w : World} {base : Nat} {e : TypeId} {A : Option Addr} {c : Nat} {L : List Hd} (h : OwnLe w base e 3 (.slice A L.length c) L.length (hldC L)) : HoldR w A c L := by
  refine ⟨?_, fun q x hq => ?_⟩
  · rcases h.2 with ⟨e1, e2⟩ | ⟨g, cap, cur, e1, _, _, hnc, _⟩
    · omega
    · injection e1 with _ _ ec
      omega
  · obtain ⟨u0, u1, u2⟩ := hldC_get L q x hq
    obtain ⟨g, e0, c0, _, _⟩ := ownLe_cell h u0
    obtain ⟨g1, e1, c1, f1, _⟩ := ownLe_cell h u1
    obtain ⟨g2, e2, c2, _, _⟩ := ownLe_cell h u2
    have q1 : g1 = g := by rw [e0] at e1; injection e1 with e1; injection e1 with e1 _; exact e1.symm
    have q2 : g2 = g := by rw [e0] at e2; injection e2 with e2; injection e2 with e2 _; exact e2.symm
    rw [q1] at c1 f1
    rw [q2] at c2
    exact ⟨g, e0, c0, c1, c2, f1⟩
theorem HoldR.below {w w' : World} {A : Option Addr} {c : Nat} {L : List Hd} (h : HoldR w A c L) (hb : Below w.heap.size w w') : HoldR w' A c L :=
  ⟨h.cap, fun q x hq => by
    obtain ⟨g, e, a, b, d, f⟩ := h.cells q x hq
    have hl := World.block_lt_of_cell? _ _ a
    exact ⟨g, e, (hb.cell (p := ⟨g, q * 3, none⟩) hl).trans a, (hb.cell (p := ⟨g, q * 3 + 1, none⟩) hl).trans b, (hb.cell (p := ⟨g, q * 3 + 2, none⟩) hl).trans d, (World.frozen?_of_block (a := ⟨g, q * 3 + 1, none⟩) (hb.block g hl)).trans f⟩⟩

/-- Where a key stands in the list. -/
def spotO (L : List Hd) (key : Int) : Option Nat := (List.range L.length).find? fun i => decide ((L.getD i (0, 0, 0)).1 = key)
def spotI (L : List Hd) (key : Int) : Int := match spotO L key with | some i => (i : Int) | none => -1
theorem spot_some {L : List Hd} {key : Int} {i : Nat} (h : spotO L key = some i) : ∃ e, L[i]? = some e ∧ e.1 = key := by
  unfold spotO at h
  rw [List.find?_range_eq_some] at h
  obtain ⟨a, b, _⟩ := h
  have hi : i < L.length := by simpa using b
  refine ⟨L[i], List.getElem?_eq_getElem hi, ?_⟩
  simpa [List.getD, hi] using a
theorem spot_none {L : List Hd} {key : Int} (h : spotO L key = none) : ∀ e ∈ L, e.1 ≠ key := by
  unfold spotO at h
  rw [List.find?_eq_none] at h
  intro e he hk
  obtain ⟨i, hi, rfl⟩ := List.mem_iff_getElem.1 he
  have := h i (by simpa using hi)
  simp [List.getD, hi, hk] at this

theorem spot_any {w : World} {A : Option Addr} {c : Nat} {L : List Hd} (h : HoldR w A c L) (hL : L.length ≤ 8) (key : Int) :
    Calls Try.prog 22 #[.slice A L.length c, .int .i64 key] w fun e w' => e = .returned (.int .i64 (spotI L key)) ∧ w = w' := by
  have hc := h.cap
  have HC := Lib.hid h.cells
  have HS : Hid (∀ k, k < L.length → (∀ j, j < k → decide ((L.getD j (0, 0, 0)).1 = key) = false) → (L.getD k (0, 0, 0)).1 = key → spotI L key = (k : Int)) := Lib.hid fun k hk hj he => by
    unfold spotI spotO
    rw [range_find _ k _ hk hj (decide_eq_true he)]
  have HN : Hid ((∀ j, j < L.length → decide ((L.getD j (0, 0, 0)).1 = key) = false) → spotI L key = -1) := Lib.hid fun hj => by
    unfold spotI spotO
    rw [range_find_none _ _ hj]
  have HG : Hid (∀ k, k < L.length → L[k]? = some (L.getD k (0, 0, 0))) := Lib.hid fun k hk => by simp [List.getD, hk]
  obtain ⟨M, hM⟩ : ∃ M, L.length = M := ⟨_, rfl⟩
  rw [hM] at HS HN HG hL hc ⊢
  clear hM h
  go_enter Try.func22, Try.ntmps22
  go_wp2_with fail
  go_loop [5] (fun i => ∃ k : Nat, k ≤ M ∧ i = .int .i64 k ∧ ∀ j, j < k → decide ((L.getD j (0, 0, 0)).1 = key) = false) (fun i => M - (intOf i).toNat)
  case atStart => exact ⟨0, by omega, rfl, fun j hj => by omega⟩
  case round =>
    obtain ⟨k, hk, rfl, hj⟩ := hrel
    by_cases hkt : k < M
    · obtain ⟨g, rfl, a0, a1, a2, _⟩ := HC.out k _ (HG.out k hkt)
      obtain ⟨x, hx⟩ : ∃ x, (L.getD k (0, 0, 0)).1 = x := ⟨_, rfl⟩
      rw [hx] at a0
      have m0 : (0 : Int) ≤ (k : Int) := by omega
      have m1 : (k : Int) < (M : Int) := by omega
      by_cases hxk : x = key
      · have hb : (x == key) = true := beq_iff_eq.2 hxk
        have hr := HS.out k hkt hj (hx.trans hxk)
        have HR := Lib.hid hr
        clear hr hj hx hxk a1 a2
        go_wp2_with fail
        go_ret
        exact ⟨by rw [HR.out]; rfl, rfl⟩
      · have hb : (x == key) = false := beq_eq_false_iff_ne.2 hxk
        have HJ : Hid (∀ j, j < k + 1 → decide ((L.getD j (0, 0, 0)).1 = key) = false) := Lib.hid fun j hj' => by
          by_cases he : j = k
          · subst he
            exact decide_eq_false (by rw [hx]; exact hxk)
          · exact hj j (by omega)
        clear hj hx hxk a1 a2
        go_wp2_with fail
        go_round
        case rel => exact ⟨k + 1, by omega, by go_num, HJ.out⟩
        case measure => simp [intOf]; omega
    · have he : k = M := by omega
      subst he
      have HR := Lib.hid (HN.out hj)
      clear hj
      go_wp2_with fail
      go_ret
      exact ⟨by rw [HR.out]; rfl, rfl⟩

theorem taken_any {w : World} {A : Option Addr} {c : Nat} {L : List Hd} (h : HoldR w A c L) (hL : L.length ≤ 8) (s : Int) :
    Calls Try.prog 24 #[.slice A L.length c, .int .i64 s] w fun e w' => e = .returned (.bool (takenB L s)) ∧ w = w' := by
  have hc := h.cap
  have HC := Lib.hid h.cells
  have HS : Hid (∀ k, k < L.length → ((L.getD k (0, 0, 0)).2.2 : Int) = s → takenB L s = true) := Lib.hid fun k hk he => by
    have : L.getD k (0, 0, 0) ∈ L := by simp [List.getD, hk]
    rw [← he]
    exact takenB_yes this
  have HN : Hid ((∀ j, j < L.length → ((L.getD j (0, 0, 0)).2.2 : Int) ≠ s) → takenB L s = false) := Lib.hid fun hj => by
    unfold takenB
    rw [List.any_eq_false]
    intro e he
    obtain ⟨i, hi, rfl⟩ := List.mem_iff_getElem.1 he
    have := hj i hi
    simpa [List.getD, hi] using this
  have HG : Hid (∀ k, k < L.length → L[k]? = some (L.getD k (0, 0, 0))) := Lib.hid fun k hk => by simp [List.getD, hk]
  obtain ⟨M, hM⟩ : ∃ M, L.length = M := ⟨_, rfl⟩
  rw [hM] at HS HN HG hL hc ⊢
  clear hM h
  go_enter Try.func24, Try.ntmps24
  go_wp2_with fail
  go_loop [5] (fun i => ∃ k : Nat, k ≤ M ∧ i = .int .i64 k ∧ ∀ j, j < k → ((L.getD j (0, 0, 0)).2.2 : Int) ≠ s) (fun i => M - (intOf i).toNat)
  case atStart => exact ⟨0, by omega, rfl, fun j hj => by omega⟩
  case round =>
    obtain ⟨k, hk, rfl, hj⟩ := hrel
    by_cases hkt : k < M
    · obtain ⟨g, rfl, a0, a1, a2, _⟩ := HC.out k _ (HG.out k hkt)
      obtain ⟨x, hx⟩ : ∃ x : Int, ((L.getD k (0, 0, 0)).2.2 : Int) = x := ⟨_, rfl⟩
      rw [hx] at a2
      have m0 : (0 : Int) ≤ (k : Int) := by omega
      have m1 : (k : Int) < (M : Int) := by omega
      by_cases hxk : x = s
      · have hb : (x == s) = true := beq_iff_eq.2 hxk
        have HR := Lib.hid (HS.out k hkt (hx.trans hxk))
        clear hj hx hxk a1 a0
        go_wp2_with fail
        go_ret
        exact ⟨by rw [HR.out]; rfl, rfl⟩
      · have hb : (x == s) = false := beq_eq_false_iff_ne.2 hxk
        have HJ : Hid (∀ j, j < k + 1 → ((L.getD j (0, 0, 0)).2.2 : Int) ≠ s) := Lib.hid fun j hj' => by
          by_cases he : j = k
          · subst he
            rw [hx]
            exact hxk
          · exact hj j (by omega)
        clear hj hx hxk a1 a0
        go_wp2_with fail
        go_round
        case rel => exact ⟨k + 1, by omega, by go_num, HJ.out⟩
        case measure => simp [intOf]; omega
    · have he : k = M := by omega
      subst he
      have HR := Lib.hid (HN.out hj)
      clear hj
      go_wp2_with fail
      go_ret
      exact ⟨by rw [HR.out]; rfl, rfl⟩
end Go.Proofs.Ytgcpmdodhnmneab
