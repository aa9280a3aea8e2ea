import Derived.Test.YtapoknpakleiiaaDoorSlotPure
/- The disk, in plain lists. -/
set_option linter.unusedVariables false
set_option linter.unusedSimpArgs false
namespace Go.Tm
/-- A loose write: is it of a master? its place, its bytes. -/
structure Wr where
  m : Bool
  pl : Nat
  bs : List UInt8
/-- A disk. -/
structure DSt where
  P : Nat
  K : Nat
  M : Nat
  lasts : List (List UInt8)
  reads : List (List UInt8)
  loose : List Wr
  log : List UInt8
  lasted : Nat
  acts : Nat
  stop : Nat
  dead : Bool
def sizeD (P K i : Nat) : Nat := if i < P then 24 + 16 * K else if i = P then 40 + 16 * K else 40
theorem sizeD_lo (P K i : Nat) : 24 ≤ sizeD P K i := by unfold sizeD; split <;> (try split) <;> omega
theorem sizeD_hi (P K i : Nat) : sizeD P K i ≤ 40 + 16 * K := by unfold sizeD; split <;> (try split) <;> omega
structure RowsOk (P K : Nat) (rows : List (List UInt8)) : Prop where
  len : rows.length = P + 3
  each : ∀ i r, rows[i]? = some r → r.length = sizeD P K i
structure WrOk (P K : Nat) (x : Wr) : Prop where
  pl : x.pl < P + 3
  len : x.bs.length = sizeD P K x.pl
  m : x.m = decide (P < x.pl)
structure DOk (s : DSt) : Prop where
  p0 : 1 ≤ s.P
  p1 : s.P ≤ 16
  k0 : 1 ≤ s.K
  k1 : s.K ≤ 8
  m0 : 1024 ≤ s.M
  m1 : s.M ≤ 65536
  lasts : RowsOk s.P s.K s.lasts
  reads : RowsOk s.P s.K s.reads
  loose : ∀ x ∈ s.loose, WrOk s.P s.K x
  log : s.log.length ≤ s.M
  lasted : s.lasted ≤ s.log.length
  stop : s.stop ≤ 9223372036854775807
/-- The first n bytes of a write, laid over rows. -/
def layR (rows : List (List UInt8)) (x : Wr) (n : Nat) : List (List UInt8) := rows.set x.pl (layL (rows.getD x.pl []) 0 (x.bs.take n))
theorem layR_length (rows : List (List UInt8)) (x : Wr) (n : Nat) : (layR rows x n).length = rows.length := by simp [layR]
theorem RowsOk.getD {P K : Nat} {rows : List (List UInt8)} (h : RowsOk P K rows) {i : Nat} (hi : i < P + 3) : rows[i]? = some (rows.getD i []) ∧ (rows.getD i []).length = sizeD P K i := by
  have hl : i < rows.length := by rw [h.len]; exact hi
  have e : rows[i]? = some (rows.getD i []) := by simp [List.getD, hl]
  exact ⟨e, h.each i _ e⟩
theorem RowsOk.lay {P K : Nat} {rows : List (List UInt8)} (h : RowsOk P K rows) {x : Wr} (hx : WrOk P K x) (n : Nat) : RowsOk P K (layR rows x n) := by
  refine ⟨by rw [layR_length]; exact h.len, fun i r hr => ?_⟩
  unfold layR at hr
  rw [List.getElem?_set] at hr
  split at hr
  · rename_i e
    subst e
    split at hr
    · injection hr with hr
      subst hr
      have hl := (h.getD hx.pl).2
      have hb := hx.len
      rw [layL_length _ _ _ (by rw [List.length_take]; omega)]
      exact hl
    · cases hr
  · exact h.each i r hr
def layAll (rows : List (List UInt8)) (ws : List Wr) : List (List UInt8) := ws.foldl (fun r x => layR r x x.bs.length) rows
theorem layAll_nil (rows : List (List UInt8)) : layAll rows [] = rows := rfl
theorem layAll_snoc (rows : List (List UInt8)) (ws : List Wr) (x : Wr) : layAll rows (ws ++ [x]) = layR (layAll rows ws) x x.bs.length := by simp [layAll]
theorem RowsOk.layAll {P K : Nat} {rows : List (List UInt8)} (h : RowsOk P K rows) : ∀ ws : List Wr, (∀ x ∈ ws, WrOk P K x) → RowsOk P K (layAll rows ws) := by
  intro ws
  induction ws generalizing rows with
  | nil => intro _; exact h
  | cons x r ih =>
    intro hx
    exact ih (h.lay (hx x (by simp)) _) (fun y hy => hx y (by simp [hy]))
/-- Is an act done? -/
def actB (s : DSt) : Bool := !(s.dead || (decide (0 < s.stop) && decide (s.stop ≤ s.acts + 1)))
def actS (s : DSt) : DSt := if actB s then { s with acts := s.acts + 1 } else { s with dead := true }
theorem DOk.act {s : DSt} (h : DOk s) : DOk (actS s) := by
  unfold actS
  split
  · exact ⟨h.p0, h.p1, h.k0, h.k1, h.m0, h.m1, h.lasts, h.reads, h.loose, h.log, h.lasted, h.stop⟩
  · exact ⟨h.p0, h.p1, h.k0, h.k1, h.m0, h.m1, h.lasts, h.reads, h.loose, h.log, h.lasted, h.stop⟩
theorem actS_same (s : DSt) : (actS s).P = s.P ∧ (actS s).K = s.K ∧ (actS s).M = s.M ∧ (actS s).lasts = s.lasts ∧ (actS s).reads = s.reads ∧ (actS s).loose = s.loose ∧ (actS s).log = s.log ∧ (actS s).lasted = s.lasted ∧ (actS s).stop = s.stop := by
  unfold actS
  split <;> simp
/-- The places. -/
def pageI (P : Nat) (n : Int) : Int := if 0 ≤ n ∧ n < (P : Int) then n else -1
def masterI (P : Nat) (k : Int) : Int := if 0 ≤ k ∧ k ≤ 1 then (P : Int) + 1 + k else -1
theorem pageI_or (P : Nat) (n : Int) : pageI P n = -1 ∨ ∃ i : Nat, pageI P n = (i : Int) ∧ i < P := by
  unfold pageI
  split
  · exact .inr ⟨n.toNat, by omega, by omega⟩
  · exact .inl rfl
theorem masterI_or (P : Nat) (k : Int) : masterI P k = -1 ∨ ∃ i : Nat, masterI P k = (i : Int) ∧ P < i ∧ i < P + 3 := by
  unfold masterI
  split
  · exact .inr ⟨((P : Int) + 1 + k).toNat, by omega, by omega, by omega⟩
  · exact .inl rfl
/-- Read a place. -/
def readE (s : DSt) (pl : Int) : Int := if actB s = false then 1 else if pl < 0 then 61 else 0
def readV (s : DSt) (pl : Int) : List UInt8 := if actB s = true ∧ 0 ≤ pl then s.reads.getD pl.toNat [] else []
/-- Write a place. -/
def wrX (s : DSt) (pl : Int) (b : List UInt8) : Wr := ⟨decide ((s.P : Int) < pl), pl.toNat, b⟩
def writeE (s : DSt) (pl : Int) (b : List UInt8) : Int := if actB s = false then 1 else if pl < 0 then 61 else if b.length ≠ sizeD s.P s.K pl.toNat then 62 else 0
def writeS (s : DSt) (pl : Int) (b : List UInt8) : DSt := if writeE s pl b = 0 then { actS s with reads := layR s.reads (wrX s pl b) b.length, loose := s.loose ++ [wrX s pl b] } else actS s
def blankR (P K : Nat) : List (List UInt8) := (List.range (P + 3)).map fun i => zeroL (sizeD P K i)
theorem blankR_ok (P K : Nat) : RowsOk P K (blankR P K) := by
  refine ⟨by simp [blankR], fun i r hr => ?_⟩
  simp only [blankR, List.getElem?_map, List.getElem?_range'] at hr
  by_cases hi : i < P + 3
  · rw [List.getElem?_range hi] at hr
    injection hr with hr
    subst hr
    exact zeroL_length _
  · rw [List.getElem?_eq_none (by simp; omega)] at hr
    cases hr
theorem blankR_get {P K i : Nat} (hi : i < P + 3) : (blankR P K)[i]? = some (zeroL (sizeD P K i)) := by
  simp [blankR, List.getElem?_range hi]
def blankS (P K M : Nat) : DSt := ⟨P, K, M, blankR P K, blankR P K, [], [], 0, 0, 0, false⟩
/-- May a disk have this shape? -/
def shapeB (P K M : Int) : Bool := decide (1 ≤ P) && decide (P ≤ 16) && decide (1 ≤ K) && decide (K ≤ 8) && decide (1024 ≤ M) && decide (M ≤ 65536)
theorem shapeB_yes {P K M : Int} (h : shapeB P K M = true) : 1 ≤ P ∧ P ≤ 16 ∧ 1 ≤ K ∧ K ≤ 8 ∧ 1024 ≤ M ∧ M ≤ 65536 := by simpa [shapeB, and_assoc] using h
theorem blankS_ok {P K M : Nat} (h : shapeB P K M = true) : DOk (blankS P K M) := by
  obtain ⟨a, b, c, d, e, f⟩ := shapeB_yes h
  refine ⟨?_, ?_, ?_, ?_, ?_, ?_, blankR_ok P K, blankR_ok P K, fun x hx => (by cases hx), Nat.zero_le _, Nat.le_refl _, Nat.zero_le _⟩ <;> (simp only [blankS]; omega)
/-- The log. -/
def readLogE (s : DSt) (f n : Int) : Int := if actB s = false then 1 else if f < 0 ∨ (s.log.length : Int) < f ∨ n < 0 then 61 else 0
def readLogV (s : DSt) (f n : Int) : List UInt8 := if readLogE s f n = 0 then (s.log.drop f.toNat).take (min n.toNat (s.log.length - f.toNat)) else []
def appendE (s : DSt) (b : List UInt8) : Int := if actB s = false then 1 else if s.M - s.log.length < b.length then 63 else 0
def appendS (s : DSt) (b : List UInt8) : DSt := if appendE s b = 0 then { actS s with log := s.log ++ b } else actS s
def syncLogE (s : DSt) : Int := if actB s = false then 1 else 0
def syncLogS (s : DSt) : DSt := if actB s = false then actS s else { actS s with lasted := s.log.length }
def cutE (s : DSt) (n : Int) : Int := if actB s = false then 1 else if n < 0 ∨ (s.log.length : Int) < n then 61 else 0
def cutS (s : DSt) (n : Int) : DSt := if cutE s n = 0 then { actS s with log := s.log.take n.toNat, lasted := min s.lasted n.toNat } else actS s
def stopN (s : DSt) (n : Int) : Nat := if n < 1 then 0 else if n ≤ 4611686018427387904 then n.toNat + s.acts else n.toNat
def stopS (s : DSt) (n : Int) : DSt := if s.dead then s else { s with stop := stopN s n }
theorem appendS_ok {s : DSt} (h : DOk s) (b : List UInt8) : DOk (appendS s b) := by
  unfold appendS
  split
  · rename_i he
    have ha := h.act
    obtain ⟨e1, e2, e3, e4, e5, e6, e7, e8, e9⟩ := actS_same s
    refine ⟨ha.p0, ha.p1, ha.k0, ha.k1, ha.m0, ha.m1, ha.lasts, ha.reads, ha.loose, ?_, ?_, ha.stop⟩
    · show (s.log ++ b).length ≤ (actS s).M
      unfold appendE at he
      rw [List.length_append, e3]
      have := h.log
      split at he
      · cases he
      · split at he
        · cases he
        · omega
    · show (actS s).lasted ≤ (s.log ++ b).length
      rw [List.length_append, e8]
      have := h.lasted
      omega
  · exact h.act
theorem syncLogS_ok {s : DSt} (h : DOk s) : DOk (syncLogS s) := by
  unfold syncLogS
  split
  · exact h.act
  · have ha := h.act
    obtain ⟨e1, e2, e3, e4, e5, e6, e7, e8, e9⟩ := actS_same s
    exact ⟨ha.p0, ha.p1, ha.k0, ha.k1, ha.m0, ha.m1, ha.lasts, ha.reads, ha.loose, ha.log, by show s.log.length ≤ (actS s).log.length; rw [e7]; exact Nat.le_refl _, ha.stop⟩
theorem cutS_ok {s : DSt} (h : DOk s) (n : Int) : DOk (cutS s n) := by
  unfold cutS
  split
  · rename_i he
    have ha := h.act
    obtain ⟨e1, e2, e3, e4, e5, e6, e7, e8, e9⟩ := actS_same s
    refine ⟨ha.p0, ha.p1, ha.k0, ha.k1, ha.m0, ha.m1, ha.lasts, ha.reads, ha.loose, ?_, ?_, ha.stop⟩
    · show (s.log.take n.toNat).length ≤ (actS s).M
      rw [List.length_take, e3]
      have := h.log
      omega
    · show min s.lasted n.toNat ≤ (s.log.take n.toNat).length
      rw [List.length_take]
      have := h.lasted
      omega
  · exact h.act
theorem stopS_ok {s : DSt} (h : DOk s) (n : Int) (hn : n ≤ 9223372036854775807) (ha : s.acts < 4611686018427387904) : DOk (stopS s n) := by
  unfold stopS
  split
  · exact h
  · refine ⟨h.p0, h.p1, h.k0, h.k1, h.m0, h.m1, h.lasts, h.reads, h.loose, h.log, h.lasted, ?_⟩
    show stopN s n ≤ 9223372036854775807
    unfold stopN
    split
    · omega
    · split <;> omega
/-- The syncs: the loose writes of masters, or of the others, last. -/
def syncE (s : DSt) : Int := if actB s = false then 1 else 0
def syncS (s : DSt) (m : Bool) : DSt := if actB s = false then actS s else { actS s with lasts := layAll s.lasts (s.loose.filter fun x => x.m == m), loose := s.loose.filter fun x => x.m != m }
theorem syncS_ok {s : DSt} (h : DOk s) (m : Bool) : DOk (syncS s m) := by
  unfold syncS
  split
  · exact h.act
  · have ha := h.act
    obtain ⟨e1, e2, e3, e4, e5, e6, e7, e8, e9⟩ := actS_same s
    refine ⟨ha.p0, ha.p1, ha.k0, ha.k1, ha.m0, ha.m1, ?_, ha.reads, ?_, ha.log, ha.lasted, ha.stop⟩
    · show RowsOk (actS s).P (actS s).K _
      rw [e1, e2]
      exact h.lasts.layAll _ fun x hx => h.loose x (List.mem_filter.1 hx).1
    · intro x hx
      show WrOk (actS s).P (actS s).K x
      rw [e1, e2]
      exact h.loose x (List.mem_filter.1 hx).1
/-- A crash. -/
def restI (n : Int) (m : Nat) : Nat := (n % (m : Int)).toNat
def keepI (ks : List Int) (i : Nat) : Int := if ks.length = 0 then 0 else ks.getD (i % ks.length) 0
def keepN (k : Int) (n : Nat) : Nat := if k < 1 then 0 else if k = 1 then n else (k - 1).toNat % (n + 1)
def crashR (rows : List (List UInt8)) (ws : List Wr) (ks : List Int) (i : Nat) : List (List UInt8) := match ws with
  | [] => rows
  | x :: r => crashR (layR rows x (keepN (keepI ks i) x.bs.length)) r ks (i + 1)
def crashN (s : DSt) (n : Int) : Nat := s.lasted + restI n (s.log.length - s.lasted + 1)
def crashS (s : DSt) (n : Int) (ks : List Int) : DSt := ⟨s.P, s.K, s.M, crashR s.lasts s.loose ks 0, crashR s.lasts s.loose ks 0, [], s.log.take (crashN s n), crashN s n, 0, 0, false⟩
theorem crashN_le {s : DSt} (h : DOk s) (n : Int) : s.lasted ≤ crashN s n ∧ crashN s n ≤ s.log.length := by
  have := h.lasted
  have h1 : n % ((s.log.length - s.lasted + 1 : Nat) : Int) < ((s.log.length - s.lasted + 1 : Nat) : Int) := Int.emod_lt_of_pos _ (by omega)
  unfold crashN restI
  omega
theorem RowsOk.crash {P K : Nat} {rows : List (List UInt8)} (h : RowsOk P K rows) (ks : List Int) : ∀ (ws : List Wr) (i : Nat), (∀ x ∈ ws, WrOk P K x) → RowsOk P K (crashR rows ws ks i) := by
  intro ws
  induction ws generalizing rows with
  | nil => intro i _; exact h
  | cons x r ih =>
    intro i hx
    exact ih (h.lay (hx x (by simp)) _) (i + 1) (fun y hy => hx y (by simp [hy]))
theorem crashS_ok {s : DSt} (h : DOk s) (n : Int) (ks : List Int) : DOk (crashS s n ks) := by
  have h1 := crashN_le h n
  have h2 := h.log
  exact ⟨h.p0, h.p1, h.k0, h.k1, h.m0, h.m1, h.lasts.crash ks _ _ h.loose, h.lasts.crash ks _ _ h.loose, fun x hx => (by cases hx), by show (s.log.take _).length ≤ s.M; rw [List.length_take]; omega, by show crashN s n ≤ (s.log.take _).length; rw [List.length_take]; omega, Nat.zero_le _⟩
def copyS (s : DSt) : DSt := { s with acts := 0, stop := 0, dead := false }
theorem copyS_ok {s : DSt} (h : DOk s) : DOk (copyS s) := ⟨h.p0, h.p1, h.k0, h.k1, h.m0, h.m1, h.lasts, h.reads, h.loose, h.log, h.lasted, Nat.zero_le _⟩
/-- A crash, from behind. -/
theorem crashR_snoc (rows : List (List UInt8)) (ws : List Wr) (x : Wr) (ks : List Int) : ∀ i, crashR rows (ws ++ [x]) ks i = layR (crashR rows ws ks i) x (keepN (keepI ks (i + ws.length)) x.bs.length) := by
  induction ws generalizing rows with
  | nil => intro i; rfl
  | cons y r ih => intro i; simp only [List.cons_append, crashR, ih, List.length_cons]; rw [show i + 1 + r.length = i + (r.length + 1) by omega]
end Go.Tm
