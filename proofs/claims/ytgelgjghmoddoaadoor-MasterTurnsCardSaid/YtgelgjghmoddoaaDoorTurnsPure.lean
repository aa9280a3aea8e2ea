import Derived.Test.YtgelgjghmoddoaaDoorMasterPure2
/- The turns of masters, cut by crashes, in plain lists. -/
set_option linter.unusedVariables false
set_option linter.unusedSimpArgs false
namespace Go.Tm
def nv (x y : List UInt8) : Nat × Nat × Nat := selM (halfM 0 x) (halfM 1 y)
/-- The turn stands at both ends, and is at most T. -/
structure Sane (T : Nat) (o : List UInt8) : Prop where
  len : o.length = 40
  ends : o.drop 32 = o.take 8
  turn : leN (o.take 8) ≤ T
theorem Sane.mono {T U : Nat} {o : List UInt8} (h : Sane T o) (hu : T ≤ U) : Sane U o := ⟨h.len, h.ends, Nat.le_trans h.turn hu⟩
theorem sane_zero (T : Nat) : Sane T (zeroL 40) := ⟨by decide, by decide, by rw [show leN ((zeroL 40).take 8) = 0 by decide]; omega⟩
theorem mastL_ends (t b c : Nat) : (mastL t b c).take 8 = leB 8 t ∧ (mastL t b c).drop 32 = leB 8 t := by
  constructor
  · unfold mastL frontM
    simp only [List.append_assoc]
    exact List.take_left' (leB_length 8 t)
  · unfold mastL
    exact List.drop_left' (by simp [frontM_length])
theorem sane_mast {T t : Nat} (b c : Nat) (ht : t < 256 ^ 8) (hT : t ≤ T) : Sane T (mastL t b c) := by
  obtain ⟨e1, e2⟩ := mastL_ends t b c
  exact ⟨mastL_length _ _ _, by rw [e1, e2], by rw [e1, leN_leB, Nat.mod_eq_of_lt ht]; exact hT⟩
theorem isM_ends {l : List UInt8} (h : isM l = true) : l.drop 32 = l.take 8 := by
  obtain ⟨_, _, h3⟩ := (isM_iff l).1 h
  obtain ⟨e1, e2⟩ := mastL_ends (mT l) (mB l) (mC l)
  rw [h3] at e1 e2
  rw [e1, e2]
theorem list40 {a b : List UInt8} (ha : a.length = 40) (hb : b.length = 40) (h : ∀ i, i < 40 → a.getD i 0 = b.getD i 0) : a = b := by
  apply List.ext_getElem (by omega)
  intro i h1 h2
  have := h i (by omega)
  simpa [List.getD, h1, h2] using this
theorem ends_get {o : List UInt8} (h : o.drop 32 = o.take 8) (i : Nat) (hi : i < 8) : o.getD (32 + i) 0 = o.getD i 0 := by
  have h1 : (o.drop 32).getD i 0 = o.getD (32 + i) 0 := by simp [List.getD, List.getElem?_drop]
  have h2 : (o.take 8).getD i 0 = o.getD i 0 := by simp [List.getD, List.getElem?_take, hi]
  rw [← h1, ← h2, h]
theorem mix_get (v o : List UInt8) (n i : Nat) (hn : n ≤ v.length) : (v.take n ++ o.drop n).getD i 0 = if i < n then v.getD i 0 else o.getD i 0 := by
  simp only [List.getD, List.getElem?_append, List.length_take, List.getElem?_take, List.getElem?_drop]
  rw [Nat.min_eq_left hn]
  split
  · rfl
  · rw [show n + (i - n) = i by omega]
/-- A torn master: the old one, the new one, or none. -/
theorem tear {o v : List UInt8} (ho : o.length = 40) (hv : v.length = 40) (so : o.drop 32 = o.take 8) (sv : v.drop 32 = v.take 8) (hne : v.take 8 ≠ o.take 8) (n : Nat) (hn : n ≤ 40) (h : isM (v.take n ++ o.drop n) = true) :
    v.take n ++ o.drop n = o ∨ v.take n ++ o.drop n = v := by
  have hr := isM_ends h
  have hl : (v.take n ++ o.drop n).length = 40 := by rw [List.length_append, List.length_take, List.length_drop]; omega
  have g := fun i => mix_get v o n i (by omega)
  obtain ⟨r, hr0⟩ : ∃ r, v.take n ++ o.drop n = r := ⟨_, rfl⟩
  rw [hr0] at hr hl g ⊢
  have er := fun i hi => ends_get hr i hi
  have eo := fun i hi => ends_get so i hi
  have ev := fun i hi => ends_get sv i hi
  by_cases h1 : n ≤ 8
  · refine .inl (list40 hl ho fun i hi => ?_)
    by_cases h2 : i < 8
    · rw [← er i h2, g, if_neg (by omega), eo i h2]
    · rw [g, if_neg (by omega)]
  · by_cases h2 : n ≤ 32
    · refine absurd ?_ hne
      have hx : ∀ i, i < 8 → v.getD i 0 = o.getD i 0 := fun i hi => by
        have a := er i hi
        rw [g, g, if_neg (by omega), if_pos (by omega), eo i hi] at a
        exact a.symm
      apply List.ext_getElem (by rw [List.length_take, List.length_take]; omega)
      intro i a1 a2
      rw [List.length_take] at a1
      have := hx i (by omega)
      simpa [List.getD, show i < v.length by omega, show i < o.length by omega] using this
    · refine .inr (list40 hl hv fun i hi => ?_)
      by_cases h3 : i < 32
      · rw [g, if_pos (by omega)]
      · obtain ⟨j, rfl⟩ : ∃ j, i = 32 + j := ⟨i - 32, by omega⟩
        rw [er j (by omega), g, if_pos (by omega), ev j (by omega)]
theorem halfM_par {k : Nat} {b : List UInt8} (h : 1 ≤ (halfM k b).1) : (halfM k b).1 % 2 = k := by
  by_cases hc : isM b = true ∧ mT b % 2 = k
  · have h2 : halfM k b = pM b := if_pos hc
    rw [h2]
    have : (pM b).1 = mT b := by unfold pM; rw [if_pos hc.1]
    rw [this]
    exact hc.2
  · have : halfM k b = (0, 0, 0) := if_neg hc
    rw [this] at h
    exact absurd h (by decide)
theorem halfM_mast {t b c : Nat} (hm : mayB t b c = true) : halfM (t % 2) (mastL t b c) = (t, b, c) := by
  obtain ⟨h1, h2⟩ := mast_is hm
  simp only [Int.toNat_natCast] at h1 h2
  rw [halfM_yes h1 (by rw [h2]), h2]
theorem selM_le {x y v : Nat × Nat × Nat} (h : selM x y = v) : x.1 ≤ v.1 ∧ y.1 ≤ v.1 ∧ (v = x ∨ v = y) := by
  unfold selM at h
  split at h
  · subst h; exact ⟨by omega, Nat.le_refl _, .inr rfl⟩
  · subst h; exact ⟨Nat.le_refl _, by omega, .inl rfl⟩
theorem nv_write0 {x y : List UInt8} {T B C b c : Nat} (h : nv x y = (T, B, C)) (hm : mayB ((T + 1 : Nat) : Int) b c = true) (hk : (T + 1) % 2 = 0) : nv (mastL (T + 1) b c) y = (T + 1, b, c) := by
  have h1 := halfM_mast hm
  rw [hk] at h1
  have h2 := (selM_le h).2.1
  unfold nv selM
  rw [h1, if_neg (by show ¬ T + 1 < _; dsimp only at h2; omega)]
theorem nv_write1 {x y : List UInt8} {T B C b c : Nat} (h : nv x y = (T, B, C)) (hm : mayB ((T + 1 : Nat) : Int) b c = true) (hk : (T + 1) % 2 = 1) : nv x (mastL (T + 1) b c) = (T + 1, b, c) := by
  have h1 := halfM_mast hm
  rw [hk] at h1
  have h2 := (selM_le h).1
  unfold nv selM
  rw [h1, if_pos (by show _ < T + 1; dsimp only at h2; omega)]
theorem nv_none0 {x y r : List UInt8} {T B C : Nat} (h : nv x y = (T, B, C)) (hk : (T + 1) % 2 = 0) (hr : halfM 0 r = (0, 0, 0)) : nv r y = (T, B, C) := by
  obtain ⟨h1, h2, h3⟩ := selM_le h
  have hy : halfM 1 y = (T, B, C) := by
    rcases h3 with h3 | h3
    · have := halfM_par (k := 0) (b := x) (by rw [← h3]; show 1 ≤ T; omega)
      rw [← h3] at this
      dsimp only at this
      omega
    · exact h3.symm
  unfold nv selM
  rw [hr, hy, if_pos (by show 0 < T; omega)]
theorem nv_none1 {x y r : List UInt8} {T B C : Nat} (h : nv x y = (T, B, C)) (hk : (T + 1) % 2 = 1) (hr : halfM 1 r = (0, 0, 0)) : nv x r = (T, B, C) := by
  obtain ⟨h1, h2, h3⟩ := selM_le h
  have hx : halfM 0 x = (T, B, C) := by
    rcases h3 with h3 | h3
    · exact h3.symm
    · by_cases hT : 1 ≤ T
      · have := halfM_par (k := 1) (b := y) (by rw [← h3]; exact hT)
        rw [← h3] at this
        dsimp only at this
        omega
      · dsimp only at h1 h2
        have e1 := halfM_zero (k := 0) (b := x) (by omega)
        have e2 := halfM_zero (k := 1) (b := y) (by omega)
        rw [e1, h3, e2]
  unfold nv selM
  rw [hr, hx, if_neg (by show ¬ T < 0; omega)]
/-! ### On disks -/
structure Clean (s : DSt) : Prop where
  ok : DOk s
  loose : s.loose = []
  same : s.reads = s.lasts
  dead : s.dead = false
  stop : s.stop = 0
/-- What is newest of a row of rows. -/
def nvR (P : Nat) (rows : List (List UInt8)) : Nat × Nat × Nat := nv (rows.getD (P + 1) []) (rows.getD (P + 2) [])
def putM (P : Nat) (rows : List (List UInt8)) (k : Nat) (v : List UInt8) : List (List UInt8) := rows.set (P + 1 + k) v
structure SaneR (P T : Nat) (rows : List (List UInt8)) : Prop where
  len : rows.length = P + 3
  m0 : Sane T (rows.getD (P + 1) [])
  m1 : Sane T (rows.getD (P + 2) [])
theorem putM_0 {P : Nat} {rows : List (List UInt8)} (h : rows.length = P + 3) (v : List UInt8) : (putM P rows 0 v).getD (P + 1) [] = v ∧ (putM P rows 0 v).getD (P + 2) [] = rows.getD (P + 2) [] := by
  unfold putM
  constructor
  · simp [List.getD, List.getElem?_set, h]
  · simp [List.getD, List.getElem?_set]
theorem putM_1 {P : Nat} {rows : List (List UInt8)} (h : rows.length = P + 3) (v : List UInt8) : (putM P rows 1 v).getD (P + 1) [] = rows.getD (P + 1) [] ∧ (putM P rows 1 v).getD (P + 2) [] = v := by
  unfold putM
  constructor
  · simp [List.getD, List.getElem?_set]
  · simp [List.getD, List.getElem?_set, h]
theorem par_cases (n : Nat) : n % 2 = 0 ∨ n % 2 = 1 := by omega
/-- The next one, written. -/
theorem nvR_put {P : Nat} {rows : List (List UInt8)} {T B C b c : Nat} (hl : rows.length = P + 3) (h : nvR P rows = (T, B, C)) (hm : mayB ((T + 1 : Nat) : Int) b c = true) : nvR P (putM P rows ((T + 1) % 2) (mastL (T + 1) b c)) = (T + 1, b, c) := by
  rcases par_cases (T + 1) with hk | hk
  · unfold nvR
    rw [hk, (putM_0 hl _).1, (putM_0 hl _).2]
    exact nv_write0 h hm hk
  · unfold nvR
    rw [hk, (putM_1 hl _).1, (putM_1 hl _).2]
    exact nv_write1 h hm hk
theorem saneR_put {P T b c : Nat} {rows : List (List UInt8)} (h : SaneR P T rows) (ht : T + 1 < 256 ^ 8) : SaneR P (T + 1) (putM P rows ((T + 1) % 2) (mastL (T + 1) b c)) := by
  have hs := sane_mast (T := T + 1) b c ht (Nat.le_refl _)
  rcases par_cases (T + 1) with hk | hk
  · rw [hk]
    exact ⟨by simp [putM, h.len], by rw [(putM_0 h.len _).1]; exact hs, by rw [(putM_0 h.len _).2]; exact h.m1.mono (by omega)⟩
  · rw [hk]
    exact ⟨by simp [putM, h.len], by rw [(putM_1 h.len _).1]; exact h.m0.mono (by omega), by rw [(putM_1 h.len _).2]; exact hs⟩
/-- The next one, torn. -/
theorem nvR_torn {P : Nat} {rows : List (List UInt8)} {T B C b c : Nat} (hS : SaneR P T rows) (h : nvR P rows = (T, B, C)) (hm : mayB ((T + 1 : Nat) : Int) b c = true) (n : Nat) (hn : n ≤ 40) :
    nvR P (putM P rows ((T + 1) % 2) ((mastL (T + 1) b c).take n ++ (rows.getD (P + 1 + (T + 1) % 2) []).drop n)) = (T, B, C) ∨ nvR P (putM P rows ((T + 1) % 2) ((mastL (T + 1) b c).take n ++ (rows.getD (P + 1 + (T + 1) % 2) []).drop n)) = (T + 1, b, c) := by
  have hw := nvR_put hS.len h hm
  have hT : T + 1 ≤ 1152921504606846976 := by have := (mayB_iff _ _ _).1 hm; omega
  obtain ⟨e1, e2⟩ := mastL_ends (T + 1) b c
  have ml := mastL_length (T + 1) b c
  have hsane : Sane T (rows.getD (P + 1 + (T + 1) % 2) []) := by
    rcases par_cases (T + 1) with hk | hk
    · rw [hk]; exact hS.m0
    · rw [hk]; exact hS.m1
  have hne : (mastL (T + 1) b c).take 8 ≠ (rows.getD (P + 1 + (T + 1) % 2) []).take 8 := by
    intro he
    have := hsane.turn
    rw [← he, e1, leN_leB, Nat.mod_eq_of_lt (by omega)] at this
    omega
  obtain ⟨v, hv⟩ : ∃ v, mastL (T + 1) b c = v := ⟨_, rfl⟩
  rw [hv] at e1 e2 ml hne hw ⊢
  by_cases hi : isM (v.take n ++ (rows.getD (P + 1 + (T + 1) % 2) []).drop n) = true
  · rcases tear hsane.len ml hsane.ends (by rw [e1, e2]) hne n hn hi with ht | ht
    · left
      rw [ht]
      rcases par_cases (T + 1) with hk | hk
      · unfold nvR
        rw [hk, (putM_0 hS.len _).1, (putM_0 hS.len _).2]
        exact h
      · unfold nvR
        rw [hk, (putM_1 hS.len _).1, (putM_1 hS.len _).2]
        exact h
    · right
      rw [ht]
      exact hw
  · left
    have hi' : isM (v.take n ++ (rows.getD (P + 1 + (T + 1) % 2) []).drop n) = false := by simpa using hi
    rcases par_cases (T + 1) with hk | hk
    · unfold nvR
      rw [hk] at hi' ⊢
      rw [(putM_0 hS.len _).1, (putM_0 hS.len _).2]
      exact nv_none0 h hk (halfM_no1 hi')
    · unfold nvR
      rw [hk] at hi' ⊢
      rw [(putM_1 hS.len _).1, (putM_1 hS.len _).2]
      exact nv_none1 h hk (halfM_no1 hi')
/-! Acts. -/
theorem clean_act {s : DSt} (h : Clean s) : actB s = true ∧ actS s = { s with acts := s.acts + 1 } ∧ Clean (actS s) := by
  have e : actB s = true := by unfold actB; rw [h.dead, h.stop]; rfl
  have e2 : actS s = { s with acts := s.acts + 1 } := by unfold actS; rw [if_pos e]
  refine ⟨e, e2, ?_⟩
  have := h.ok.act
  rw [e2] at this ⊢
  exact ⟨this, h.loose, h.same, h.dead, h.stop⟩
theorem clean_newest {s : DSt} (h : Clean s) : newE s = 0 ∧ newV s = nvR s.P s.reads ∧ newS s = { s with acts := s.acts + 2 } ∧ Clean (newS s) := by
  obtain ⟨a1, a2, a3⟩ := clean_act h
  obtain ⟨b1, b2, b3⟩ := clean_act a3
  have e0 : newE s = 0 := by unfold newE; rw [if_neg (by rw [a1]; decide), if_neg (by rw [b1]; decide)]
  have e1 : newS s = actS (actS s) := by unfold newS; rw [if_neg (by rw [a1]; decide)]
  have e2 : newS s = { s with acts := s.acts + 2 } := by rw [e1, b2, a2]
  exact ⟨e0, by unfold newV; rw [if_pos e0]; rfl, e2, by rw [e1]; exact b3⟩
theorem place_nat (P t : Nat) : ((P : Int) + 1 + ((t : Int) + 1) % 2) = ((P + 1 + (t + 1) % 2 : Nat) : Int) := by omega
theorem sizeD_m {P K k : Nat} (hk : k < 2) : sizeD P K (P + 1 + k) = 40 := by unfold sizeD; rw [if_neg (by omega), if_neg (by omega)]
theorem layR_whole {rows : List (List UInt8)} {x : Wr} (h : (rows.getD x.pl []).length = x.bs.length) : layR rows x x.bs.length = rows.set x.pl x.bs := by
  unfold layR layL
  rw [List.take_length, List.take_zero, List.nil_append, Nat.zero_add, ← h, List.drop_length, List.append_nil]
theorem layR_part {rows : List (List UInt8)} {x : Wr} {n : Nat} (hn : n ≤ x.bs.length) : layR rows x n = rows.set x.pl (x.bs.take n ++ (rows.getD x.pl []).drop n) := by
  unfold layR layL
  rw [List.take_zero, List.nil_append, Nat.zero_add, List.length_take, Nat.min_eq_left hn]
/-- A write of a master on a clean disk (an act is done). -/
theorem clean_write {s : DSt} (ok : DOk s) (hl : s.loose = []) (ha : actB s = true) {k : Nat} (hk : k < 2) {v : List UInt8} (hv : v.length = 40) :
    writeE s ((s.P + 1 + k : Nat) : Int) v = 0 ∧ writeS s ((s.P + 1 + k : Nat) : Int) v = { s with acts := s.acts + 1, reads := putM s.P s.reads k v, loose := [⟨true, s.P + 1 + k, v⟩] } := by
  have e : writeE s ((s.P + 1 + k : Nat) : Int) v = 0 := by
    unfold writeE
    rw [if_neg (by rw [ha]; decide), if_neg (by omega), if_neg]
    rw [Int.toNat_natCast, sizeD_m hk, hv]
    simp
  have hx : wrX s ((s.P + 1 + k : Nat) : Int) v = ⟨true, s.P + 1 + k, v⟩ := by
    unfold wrX
    rw [Int.toNat_natCast]
    congr
    simp only [decide_eq_true_eq]
    omega
  have e2 : actS s = { s with acts := s.acts + 1 } := by unfold actS; rw [if_pos ha]
  refine ⟨e, ?_⟩
  unfold writeS
  rw [if_pos e, hx, hl, e2]
  have hlr : layR s.reads ⟨true, s.P + 1 + k, v⟩ v.length = putM s.P s.reads k v := by
    refine layR_whole (x := ⟨true, s.P + 1 + k, v⟩) ?_
    show (s.reads.getD (s.P + 1 + k) []).length = v.length
    rw [(ok.reads.getD (by omega)).2, sizeD_m hk, hv]
  rw [hlr]
  rfl
theorem clean_next {s : DSt} (h : Clean s) {T b c : Nat} (hm : mayB ((T + 1 : Nat) : Int) b c = true) :
    nextE s T b c = 0 ∧ nextV s T b c = ((T : Int) + 1, (b : Int), (c : Int)) ∧ nextS s T b c = { s with acts := s.acts + 2, reads := putM s.P s.reads ((T + 1) % 2) (mastL (T + 1) b c), lasts := putM s.P s.reads ((T + 1) % 2) (mastL (T + 1) b c), loose := [] } ∧ Clean (nextS s T b c) := by
  obtain ⟨a1, a2, a3⟩ := clean_act h
  have hm' : mayB ((T : Int) + 1) b c = true := by simpa using hm
  have hb := (mayB_iff _ _ _).1 hm'
  have hv : mastV ((T : Int) + 1) b c = mastL (T + 1) b c := by unfold mastV; rw [if_pos hm']; congr
  have hk : (T + 1) % 2 < 2 := Nat.mod_lt _ (by omega)
  obtain ⟨w1, w2⟩ := clean_write h.ok h.loose a1 hk (mastL_length (T + 1) b c)
  have c1 : ¬ ((T : Int) < 0 ∨ 1152921504606846976 ≤ (T : Int)) := by omega
  have c2 : ¬ mayB ((T : Int) + 1) b c = false := by rw [hm']; decide
  obtain ⟨s1, hs1⟩ : ∃ s1, writeS s ((s.P : Int) + 1 + ((T : Int) + 1) % 2) (mastV ((T : Int) + 1) b c) = s1 := ⟨_, rfl⟩
  have hs1' : s1 = { s with acts := s.acts + 1, reads := putM s.P s.reads ((T + 1) % 2) (mastL (T + 1) b c), loose := [⟨true, s.P + 1 + (T + 1) % 2, mastL (T + 1) b c⟩] } := by
    rw [← hs1, place_nat, hv, w2]
  have hw0 : writeE s ((s.P : Int) + 1 + ((T : Int) + 1) % 2) (mastV ((T : Int) + 1) b c) = 0 := by rw [place_nat, hv, w1]
  have b1 : actB s1 = true := by rw [hs1']; unfold actB; dsimp only; rw [h.dead, h.stop]; rfl
  have hE : nextE s T b c = 0 := by
    unfold nextE
    rw [if_neg c1, if_neg c2]
    simp only [hw0, hs1]
    rw [if_neg (by simp)]
    unfold syncE
    rw [if_neg (by rw [b1]; decide)]
  have hS : nextS s T b c = syncS s1 true := by
    unfold nextS
    rw [if_neg c1, if_neg c2]
    simp only [hw0, hs1]
    rw [if_neg (by simp)]
  have hlast : layAll s.lasts [⟨true, s.P + 1 + (T + 1) % 2, mastL (T + 1) b c⟩] = putM s.P s.reads ((T + 1) % 2) (mastL (T + 1) b c) := by
    show layR s.lasts ⟨true, s.P + 1 + (T + 1) % 2, mastL (T + 1) b c⟩ (mastL (T + 1) b c).length = _
    rw [← h.same]
    refine layR_whole (x := ⟨true, s.P + 1 + (T + 1) % 2, mastL (T + 1) b c⟩) ?_
    show (s.reads.getD (s.P + 1 + (T + 1) % 2) []).length = (mastL (T + 1) b c).length
    rw [(h.ok.reads.getD (by omega)).2, sizeD_m hk, mastL_length]
  have hS2 : nextS s T b c = { s with acts := s.acts + 2, reads := putM s.P s.reads ((T + 1) % 2) (mastL (T + 1) b c), lasts := putM s.P s.reads ((T + 1) % 2) (mastL (T + 1) b c), loose := [] } := by
    have b2 : actS s1 = { s1 with acts := s1.acts + 1 } := by unfold actS; rw [if_pos b1]
    rw [hS]
    unfold syncS
    rw [if_neg (by rw [b1]; decide), b2, hs1']
    simp only [List.filter, hlast]
    congr
  refine ⟨hE, by unfold nextV; rw [if_pos hE], hS2, ?_⟩
  have hok : DOk (nextS s T b c) := by
    have o1 : DOk s1 := by
      rw [hs1']
      have := h.ok
      have hro : RowsOk s.P s.K (putM s.P s.reads ((T + 1) % 2) (mastL (T + 1) b c)) := by
        refine ⟨by simp [putM, h.ok.reads.len], fun i r hr => ?_⟩
        unfold putM at hr
        rw [List.getElem?_set] at hr
        split at hr
        · rename_i e
          split at hr
          · injection hr with hr
            rw [← hr, ← e, sizeD_m hk, mastL_length]
          · cases hr
        · exact h.ok.reads.each i r hr
      exact ⟨this.p0, this.p1, this.k0, this.k1, this.m0, this.m1, this.lasts, hro, fun x hx => by
        rw [List.mem_singleton.1 hx]
        exact ⟨by show s.P + 1 + (T + 1) % 2 < s.P + 3; omega, by show (mastL (T + 1) b c).length = _; rw [sizeD_m hk, mastL_length], by show true = decide (s.P < s.P + 1 + (T + 1) % 2); simp; omega⟩, this.log, this.lasted, this.stop⟩
    rw [hS]
    exact syncS_ok o1 true
  rw [hS2] at hok ⊢
  exact ⟨hok, rfl, rfl, h.dead, h.stop⟩
theorem clean_crash {s : DSt} (ok : DOk s) (hl : s.loose = []) (n : Int) (ks : List Int) : (crashS s n ks).reads = s.lasts ∧ (crashS s n ks).P = s.P ∧ (crashS s n ks).acts = 0 ∧ Clean (crashS s n ks) := by
  have e : crashR s.lasts s.loose ks 0 = s.lasts := by rw [hl]; rfl
  exact ⟨e, rfl, rfl, ⟨crashS_ok ok n ks, rfl, rfl, rfl, rfl⟩⟩
theorem putM_same {P k : Nat} {rows : List (List UInt8)} (h : P + 1 + k < rows.length) : putM P rows k (rows.getD (P + 1 + k) []) = rows := by
  unfold putM
  apply List.ext_getElem?
  intro i
  rw [List.getElem?_set]
  split
  · rename_i e
    subst e
    simp [List.getD, h]
  · rfl
theorem keepN_le (k : Int) (n : Nat) : keepN k n ≤ n := by
  unfold keepN
  split
  · omega
  · split
    · omega
    · have := Nat.mod_lt (k - 1).toNat (show 0 < n + 1 by omega)
      omega
/-- Next, cut at its first or second act, and what a crash leaves. -/
theorem cut_turn {s : DSt} (h : Clean s) {T B C b c : Nat} (hS : SaneR s.P T s.reads) (hv : nvR s.P s.reads = (T, B, C)) (hm : mayB ((T + 1 : Nat) : Int) b c = true) (st : Nat) (h1 : st = 1 ∨ st = 2) (CL : Int) (ks : List Int) :
    nextE (stopS (copyS s) st) T b c = 1 ∧ Clean (crashS (nextS (stopS (copyS s) st) T b c) CL ks) ∧ (crashS (nextS (stopS (copyS s) st) T b c) CL ks).acts = 0 ∧
      (newV (crashS (nextS (stopS (copyS s) st) T b c) CL ks) = (T, B, C) ∨ newV (crashS (nextS (stopS (copyS s) st) T b c) CL ks) = (T + 1, b, c)) ∧ (nextS (stopS (copyS s) st) T b c).loose.length ≤ 1 := by
  have hm' : mayB ((T : Int) + 1) b c = true := by simpa using hm
  have hb := (mayB_iff _ _ _).1 hm'
  have hvv : mastV ((T : Int) + 1) b c = mastL (T + 1) b c := by unfold mastV; rw [if_pos hm']; congr
  have hk : (T + 1) % 2 < 2 := Nat.mod_lt _ (by omega)
  have c1 : ¬ ((T : Int) < 0 ∨ 1152921504606846976 ≤ (T : Int)) := by omega
  have c2 : ¬ mayB ((T : Int) + 1) b c = false := by rw [hm']; decide
  obtain ⟨c0, hc0⟩ : ∃ c0, stopS (copyS s) st = c0 := ⟨_, rfl⟩
  have hc : c0 = { s with acts := 0, stop := st, dead := false } := by
    rw [← hc0]
    unfold stopS copyS stopN
    simp only
    rw [if_neg (by simp), if_neg (by omega), if_pos (by omega)]
    simp
  have okc : DOk c0 := by
    rw [← hc0]
    exact stopS_ok (copyS_ok h.ok) st (by omega) (by show 0 < _; omega)
  have e1 : c0.P = s.P := by rw [hc]
  have e2 : c0.loose = [] := by rw [hc]; exact h.loose
  have e3 : c0.reads = s.reads := by rw [hc]
  have e4 : c0.lasts = s.reads := by rw [hc]; exact h.same.symm
  have hlen := h.ok.reads.len
  rw [hc0]
  rcases h1 with h1 | h1
  · have ha : actB c0 = false := by rw [hc, h1]; rfl
    have hw : writeE c0 ((c0.P : Int) + 1 + ((T : Int) + 1) % 2) (mastV ((T : Int) + 1) b c) = 1 := by unfold writeE; rw [if_pos ha]
    have hE : nextE c0 T b c = 1 := by
      unfold nextE
      rw [if_neg c1, if_neg c2]
      simp only [hw]
      rw [if_pos (by decide)]
    have hSS : nextS c0 T b c = { c0 with dead := true } := by
      unfold nextS
      rw [if_neg c1, if_neg c2]
      simp only [hw]
      rw [if_pos (by decide)]
      unfold writeS
      rw [if_neg (by rw [hw]; decide)]
      unfold actS
      rw [if_neg (by rw [ha]; decide)]
    have okd : DOk (nextS c0 T b c) := by rw [hSS]; exact ⟨okc.p0, okc.p1, okc.k0, okc.k1, okc.m0, okc.m1, okc.lasts, okc.reads, okc.loose, okc.log, okc.lasted, okc.stop⟩
    have hl2 : (nextS c0 T b c).loose = [] := by rw [hSS]; exact e2
    obtain ⟨r1, r2, r3, r4⟩ := clean_crash okd hl2 CL ks
    obtain ⟨n1, n2, _⟩ := clean_newest r4
    refine ⟨hE, r4, r3, .inl ?_, by rw [hl2]; decide⟩
    rw [n2, r1, r2]
    have : (nextS c0 T b c).lasts = s.reads := by rw [hSS]; exact e4
    rw [this]
    have : (nextS c0 T b c).P = s.P := by rw [hSS]; exact e1
    rw [this]
    exact hv
  · have ha : actB c0 = true := by rw [hc, h1]; rfl
    obtain ⟨w1, w2⟩ := clean_write okc e2 ha hk (mastL_length (T + 1) b c)
    have hw : writeE c0 ((c0.P : Int) + 1 + ((T : Int) + 1) % 2) (mastV ((T : Int) + 1) b c) = 0 := by rw [place_nat, hvv, w1]
    obtain ⟨s1, hs1⟩ : ∃ s1, writeS c0 ((c0.P : Int) + 1 + ((T : Int) + 1) % 2) (mastV ((T : Int) + 1) b c) = s1 := ⟨_, rfl⟩
    have hs1' : s1 = { c0 with acts := c0.acts + 1, reads := putM c0.P c0.reads ((T + 1) % 2) (mastL (T + 1) b c), loose := [⟨true, c0.P + 1 + (T + 1) % 2, mastL (T + 1) b c⟩] } := by
      rw [← hs1, place_nat, hvv, w2]
    have hb1 : actB s1 = false := by rw [hs1', hc, h1]; rfl
    have hE : nextE c0 T b c = 1 := by
      unfold nextE
      rw [if_neg c1, if_neg c2]
      simp only [hw, hs1]
      rw [if_neg (by simp)]
      unfold syncE
      rw [if_pos hb1]
    have hSS : nextS c0 T b c = { s1 with dead := true } := by
      unfold nextS
      rw [if_neg c1, if_neg c2]
      simp only [hw, hs1]
      rw [if_neg (by simp)]
      unfold syncS
      rw [if_pos hb1]
      unfold actS
      rw [if_neg (by rw [hb1]; decide)]
    have hloose : (nextS c0 T b c).loose = [⟨true, s.P + 1 + (T + 1) % 2, mastL (T + 1) b c⟩] := by rw [hSS, hs1']; dsimp only; rw [e1]
    have hlasts : (nextS c0 T b c).lasts = s.reads := by rw [hSS, hs1']; exact e4
    have hP : (nextS c0 T b c).P = s.P := by rw [hSS, hs1']; exact e1
    have hro : RowsOk s.P s.K (putM s.P s.reads ((T + 1) % 2) (mastL (T + 1) b c)) := by
      refine ⟨by simp [putM, h.ok.reads.len], fun i r hr => ?_⟩
      unfold putM at hr
      rw [List.getElem?_set] at hr
      split at hr
      · rename_i e
        split at hr
        · injection hr with hr
          rw [← hr, ← e, sizeD_m hk, mastL_length]
        · cases hr
      · exact h.ok.reads.each i r hr
    have okd : DOk (nextS c0 T b c) := by
      rw [hSS, hs1', e3, e1, hc]
      have := h.ok
      exact ⟨this.p0, this.p1, this.k0, this.k1, this.m0, this.m1, this.lasts, hro, fun x hx => by
        rw [List.mem_singleton.1 hx]
        exact ⟨by show s.P + 1 + (T + 1) % 2 < s.P + 3; omega, by show (mastL (T + 1) b c).length = _; rw [sizeD_m hk, mastL_length], by show true = decide (s.P < s.P + 1 + (T + 1) % 2); simp; omega⟩, this.log, this.lasted, by show st ≤ _; omega⟩
    have hcr : crashR (nextS c0 T b c).lasts (nextS c0 T b c).loose ks 0 = putM s.P s.reads ((T + 1) % 2) ((mastL (T + 1) b c).take (keepN (keepI ks 0) 40) ++ (s.reads.getD (s.P + 1 + (T + 1) % 2) []).drop (keepN (keepI ks 0) 40)) := by
      rw [hloose, hlasts]
      show layR s.reads ⟨true, s.P + 1 + (T + 1) % 2, mastL (T + 1) b c⟩ (keepN (keepI ks 0) (mastL (T + 1) b c).length) = _
      rw [mastL_length]
      exact layR_part (x := ⟨true, s.P + 1 + (T + 1) % 2, mastL (T + 1) b c⟩) (by show _ ≤ (mastL (T + 1) b c).length; rw [mastL_length]; exact keepN_le _ _)
    have hcl : Clean (crashS (nextS c0 T b c) CL ks) := ⟨crashS_ok okd CL ks, rfl, rfl, rfl, rfl⟩
    obtain ⟨n1, n2, _⟩ := clean_newest hcl
    refine ⟨hE, hcl, rfl, ?_, by rw [hloose]; exact Nat.le_refl _⟩
    rw [n2]
    show nvR (nextS c0 T b c).P (crashR (nextS c0 T b c).lasts (nextS c0 T b c).loose ks 0) = _ ∨ nvR (nextS c0 T b c).P (crashR (nextS c0 T b c).lasts (nextS c0 T b c).loose ks 0) = _
    rw [hcr, hP]
    exact nvR_torn hS hv hm _ (keepN_le _ _)
/-- A blank disk. -/
theorem clean_blank {P K M : Nat} (h : shapeB P K M = true) : Clean (blankS P K M) ∧ SaneR P 0 (blankS P K M).reads ∧ nvR P (blankS P K M).reads = (0, 0, 0) := by
  have hok := blankS_ok h
  have g : ∀ k, k < 2 → (blankR P K).getD (P + 1 + k) [] = zeroL 40 := fun k hk => by
    have := blankR_get (P := P) (K := K) (i := P + 1 + k) (by omega)
    rw [sizeD_m hk] at this
    simp [List.getD, this]
  refine ⟨⟨hok, rfl, rfl, rfl, rfl⟩, ⟨hok.reads.len, ?_, ?_⟩, ?_⟩
  · have := g 0 (by omega); show Sane 0 ((blankR P K).getD (P + 1) []); rw [this]; exact sane_zero 0
  · have := g 1 (by omega); show Sane 0 ((blankR P K).getD (P + 2) []); rw [this]; exact sane_zero 0
  · show nv ((blankR P K).getD (P + 1) []) ((blankR P K).getD (P + 2) []) = _
    rw [g 0 (by omega), g 1 (by omega)]
    decide +kernel
end Go.Tm
