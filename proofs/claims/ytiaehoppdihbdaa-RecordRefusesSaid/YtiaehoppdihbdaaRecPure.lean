import Derived.Test.YtiaehoppdihbdaaLib
/- Records, in plain lists. -/
set_option linter.unusedVariables false
set_option linter.unusedSimpArgs false
namespace Go.Tm
abbrev Row9 := Int × Int × Int × Int × Int
structure RecD where
  kind : Int
  birth : Int
  prev : Int
  id : Int
  page : Int
  frm : Int
  before : List UInt8
  after : List UInt8
  next : Int
  rows : List Row9
  dirty : List (Int × Int)
def recZ : RecD := ⟨0, 0, 0, 0, 0, 0, [], [], 0, [], []⟩
def lsnB (n : Int) : Bool := decide (1 ≤ n) && decide (n ≤ 1152921504606846976)
def nxtB (n : Int) : Bool := decide (0 ≤ n) && decide (n ≤ 1152921504606846976)
theorem lsnB_iff (n : Int) : lsnB n = true ↔ 1 ≤ n ∧ n ≤ 1152921504606846976 := by simp [lsnB]
theorem nxtB_iff (n : Int) : nxtB n = true ↔ 0 ≤ n ∧ n ≤ 1152921504606846976 := by simp [nxtB]
def rowB9 (x : Row9) : Bool := lsnB x.1 && (decide (1 ≤ x.2.1) && decide (x.2.1 ≤ 64)) && (decide (x.2.2.1 = 1) || decide (x.2.2.1 = 2)) && lsnB x.2.2.2.1 && nxtB x.2.2.2.2
def rowsB : Int → List Row9 → Bool
  | _, [] => true
  | p, x :: r => rowB9 x && decide (p < x.1) && rowsB x.1 r
def dirtB1 (x : Int × Int) : Bool := decide (0 ≤ x.1) && decide (x.1 < 16) && lsnB x.2
def dirtB : Int → List (Int × Int) → Bool
  | _, [] => true
  | p, x :: r => dirtB1 x && decide (p < x.1) && dirtB x.1 r
def rangB (page frm : Int) (n : Nat) : Bool := decide (0 ≤ page) && decide (page < 16) && decide (1 ≤ n) && decide (n ≤ 128) && decide (16 ≤ frm) && decide (frm ≤ 144 - (n : Int))
def endsB (b a : List UInt8) : Bool := decide (b.getD 0 0 ≠ a.getD 0 0) && decide (b.getD (a.length - 1) 0 ≠ a.getD (a.length - 1) 0)
def bareB (r : RecD) (id laid before next lists : Bool) : Bool := (id || decide (r.id = 0)) && (laid || (decide (r.page = 0) && decide (r.frm = 0) && decide (r.after.length = 0))) && (before || decide (r.before.length = 0)) && (next || decide (r.next = 0)) && (lists || (decide (r.rows.length = 0) && decide (r.dirty.length = 0)))
def listsB (r : RecD) : Bool := decide (r.rows.length ≤ 8) && decide (r.dirty.length ≤ 16) && rowsB 0 r.rows && dirtB (-1) r.dirty
def rgtB (r : RecD) : Bool :=
  if r.kind = 1 then decide (r.birth = 0) && decide (r.prev = 0) && decide (1 ≤ r.id) && decide (r.id ≤ 64) && bareB r true false false false false
  else if r.kind = 7 then decide (r.birth = 0) && decide (r.prev = 0) && bareB r false false false false true && listsB r
  else if lsnB r.birth && lsnB r.prev then
    if r.kind = 2 then bareB r false true true false false && rangB r.page r.frm r.after.length && decide (r.before.length = r.after.length) && endsB r.before r.after
    else if r.kind = 3 then bareB r false true false true false && rangB r.page r.frm r.after.length && nxtB r.next
    else if r.kind = 4 ∨ r.kind = 5 ∨ r.kind = 6 then bareB r false false false false false
    else false
  else false
/-! ### Bytes -/
def nB (k : Nat) (x : Int) : List UInt8 := leB k x.toNat
@[simp] theorem nB_length (k : Nat) (x : Int) : (nB k x).length = k := by simp [nB]
def row9L (x : Row9) : List UInt8 := nB 8 x.1 ++ nB 1 x.2.1 ++ nB 1 x.2.2.1 ++ nB 8 x.2.2.2.1 ++ nB 8 x.2.2.2.2
def dirtL (x : Int × Int) : List UInt8 := nB 1 x.1 ++ nB 8 x.2
theorem row9L_length (x : Row9) : (row9L x).length = 26 := by simp [row9L]
theorem dirtL_length (x : Int × Int) : (dirtL x).length = 9 := by simp [dirtL]
def laidR (r : RecD) : List UInt8 := nB 1 r.page ++ nB 2 r.frm ++ leB 2 r.after.length ++ r.before ++ r.after
def tailR (r : RecD) : List UInt8 :=
  if r.kind = 1 then nB 1 r.id
  else if r.kind = 2 then laidR r
  else if r.kind = 3 then laidR r ++ nB 8 r.next
  else if r.kind = 7 then leB 1 r.rows.length ++ cat (r.rows.map row9L) ++ (leB 1 r.dirty.length ++ cat (r.dirty.map dirtL))
  else []
def headR (r : RecD) : List UInt8 := nB 1 r.kind ++ nB 8 r.birth ++ nB 8 r.prev
def recL (r : RecD) : List UInt8 := headR r ++ tailR r
def recE (r : RecD) : Int := if rgtB r = true then 0 else 90
def recV (r : RecD) : List UInt8 := if rgtB r = true then recL r else []
/-! ### Reading -/
def gN (k : Nat) (l : List UInt8) : Option (Int × List UInt8) := if l.length < k then none else some ((leN (l.take k) : Int), l.drop k)
def gL (l : List UInt8) : Option (Int × List UInt8) := if l.length < 8 then none else if 1152921504606846976 < leN (l.take 8) then none else some ((leN (l.take 8) : Int), l.drop 8)
def gR (n : Nat) (l : List UInt8) : Option (List UInt8 × List UInt8) := if l.length < n then none else some (l.take n, l.drop n)
def gRow9 (l : List UInt8) : Option (Row9 × List UInt8) := (gL l).bind fun a => (gN 1 a.2).bind fun b => (gN 1 b.2).bind fun c => (gL c.2).bind fun d => (gL d.2).map fun e => ((a.1, b.1, c.1, d.1, e.1), e.2)
def gDirt (l : List UInt8) : Option ((Int × Int) × List UInt8) := (gN 1 l).bind fun a => (gL a.2).map fun b => ((a.1, b.1), b.2)
def gMany {α : Type} (f : List UInt8 → Option (α × List UInt8)) : Nat → List UInt8 → Option (List α × List UInt8)
  | 0, l => some ([], l)
  | n + 1, l => (f l).bind fun a => (gMany f n a.2).map fun b => (a.1 :: b.1, b.2)
def pBegin (r : RecD) (l : List UInt8) : Option (RecD × List UInt8) := (gN 1 l).map fun a => ({ r with id := a.1 }, a.2)
def pUpdate (r : RecD) (l : List UInt8) : Option (RecD × List UInt8) := (gN 1 l).bind fun a => (gN 2 a.2).bind fun b => (gN 2 b.2).bind fun c => (gR c.1.toNat c.2).bind fun d => (gR c.1.toNat d.2).map fun e => ({ r with page := a.1, frm := b.1, before := d.1, after := e.1 }, e.2)
def pUndo (r : RecD) (l : List UInt8) : Option (RecD × List UInt8) := (gN 1 l).bind fun a => (gN 2 a.2).bind fun b => (gN 2 b.2).bind fun c => (gR c.1.toNat c.2).bind fun d => (gL d.2).map fun e => ({ r with page := a.1, frm := b.1, after := d.1, next := e.1 }, e.2)
def pCheck (r : RecD) (l : List UInt8) : Option (RecD × List UInt8) := (gN 1 l).bind fun a => (gMany gRow9 a.1.toNat a.2).bind fun b => (gN 1 b.2).bind fun c => (gMany gDirt c.1.toNat c.2).map fun d => ({ r with rows := b.1, dirty := d.1 }, d.2)
def pTail (r : RecD) (l : List UInt8) : Option (RecD × List UInt8) :=
  if r.kind = 1 then pBegin r l else if r.kind = 2 then pUpdate r l else if r.kind = 3 then pUndo r l else if r.kind = 7 then pCheck r l else some (r, l)
def pHead (l : List UInt8) : Option (RecD × List UInt8) := (gN 1 l).bind fun a => (gL a.2).bind fun b => (gL b.2).map fun c => ({ recZ with kind := a.1, birth := b.1, prev := c.1 }, c.2)
def pAll (l : List UInt8) : Option (RecD × List UInt8) := (pHead l).bind fun a => if 1 ≤ a.1.kind ∧ a.1.kind ≤ 7 then pTail a.1 a.2 else none
def pRec (l : List UInt8) : Option RecD := (pAll l).bind fun a => if a.2.length = 0 ∧ rgtB a.1 = true then some a.1 else none
/-! ### A reading takes what a writing lays, and nothing else -/
theorem gN_lay (k : Nat) (x : Int) (h0 : 0 ≤ x) (h1 : x.toNat < 256 ^ k) (m : List UInt8) : gN k (nB k x ++ m) = some (x, m) := by
  have e1 : (nB k x ++ m).take k = nB k x := List.take_left' (nB_length k x)
  have e2 : (nB k x ++ m).drop k = m := List.drop_left' (nB_length k x)
  unfold gN
  rw [if_neg (by rw [List.length_append, nB_length]; omega), e1, e2]
  unfold nB
  rw [leN_leB, Nat.mod_eq_of_lt h1]
  simp [Int.toNat_of_nonneg h0]
theorem gL_lay (x : Int) (h0 : 0 ≤ x) (h1 : x ≤ 1152921504606846976) (m : List UInt8) : gL (nB 8 x ++ m) = some (x, m) := by
  have e1 : (nB 8 x ++ m).take 8 = nB 8 x := List.take_left' (nB_length 8 x)
  have e2 : (nB 8 x ++ m).drop 8 = m := List.drop_left' (nB_length 8 x)
  have e3 : leN (nB 8 x) = x.toNat := by unfold nB; rw [leN_leB]; exact Nat.mod_eq_of_lt (by omega)
  unfold gL
  rw [if_neg (by rw [List.length_append, nB_length]; omega), e1, e2, e3, if_neg (by omega)]
  simp [Int.toNat_of_nonneg h0]
theorem gR_lay (n : Nat) (l m : List UInt8) (h : l.length = n) : gR n (l ++ m) = some (l, m) := by
  unfold gR
  rw [if_neg (by rw [List.length_append]; omega), List.take_left' h, List.drop_left' h]
theorem gN_is {k : Nat} {l m : List UInt8} {x : Int} (h : gN k l = some (x, m)) : l = nB k x ++ m ∧ 0 ≤ x ∧ x.toNat < 256 ^ k := by
  unfold gN at h
  split at h
  · cases h
  · rename_i hl
    injection h with h
    injection h with h1 h2
    have hk : (l.take k).length = k := by rw [List.length_take]; omega
    have hlt := leN_lt (l.take k)
    rw [hk] at hlt
    refine ⟨?_, by omega, by omega⟩
    rw [← h1, ← h2]
    unfold nB
    rw [Int.toNat_natCast]
    have := leB_leN (l.take k)
    rw [hk] at this
    rw [this, List.take_append_drop]
theorem gL_is {l m : List UInt8} {x : Int} (h : gL l = some (x, m)) : l = nB 8 x ++ m ∧ 0 ≤ x ∧ x ≤ 1152921504606846976 := by
  have h' : gN 8 l = some (x, m) ∧ x ≤ 1152921504606846976 := by
    unfold gL at h
    unfold gN
    split at h
    · cases h
    · rename_i hl
      rw [if_neg hl]
      split at h
      · cases h
      · rename_i hx
        refine ⟨h, ?_⟩
        injection h with h
        injection h with h1 h2
        omega
  exact ⟨(gN_is h'.1).1, (gN_is h'.1).2.1, h'.2⟩
theorem gR_is {n : Nat} {l m x : List UInt8} (h : gR n l = some (x, m)) : l = x ++ m ∧ x.length = n := by
  unfold gR at h
  split at h
  · cases h
  · injection h with h
    injection h with h1 h2
    exact ⟨by rw [← h1, ← h2, List.take_append_drop], by rw [← h1, List.length_take]; omega⟩
theorem rowB9_iff (x : Row9) : rowB9 x = true ↔ (1 ≤ x.1 ∧ x.1 ≤ 1152921504606846976) ∧ (1 ≤ x.2.1 ∧ x.2.1 ≤ 64) ∧ (x.2.2.1 = 1 ∨ x.2.2.1 = 2) ∧ (1 ≤ x.2.2.2.1 ∧ x.2.2.2.1 ≤ 1152921504606846976) ∧ (0 ≤ x.2.2.2.2 ∧ x.2.2.2.2 ≤ 1152921504606846976) := by
  simp [rowB9, lsnB, nxtB, and_assoc]
theorem dirtB1_iff (x : Int × Int) : dirtB1 x = true ↔ (0 ≤ x.1 ∧ x.1 < 16) ∧ (1 ≤ x.2 ∧ x.2 ≤ 1152921504606846976) := by simp [dirtB1, lsnB, and_assoc]
theorem gRow9_lay (x : Row9) (h : rowB9 x = true) (m : List UInt8) : gRow9 (row9L x ++ m) = some (x, m) := by
  obtain ⟨⟨a1, a2⟩, ⟨b1, b2⟩, c, ⟨d1, d2⟩, e1, e2⟩ := (rowB9_iff x).1 h
  obtain ⟨xa, xb, xc, xd, xe⟩ := x
  dsimp only at a1 a2 b1 b2 c d1 d2 e1 e2
  unfold gRow9 row9L
  simp only [List.append_assoc]
  rw [gL_lay xa (by omega) a2, Option.bind_some, gN_lay 1 xb (by omega) (by omega), Option.bind_some, gN_lay 1 xc (by omega) (by omega), Option.bind_some, gL_lay xd (by omega) d2, Option.bind_some, gL_lay xe e1 e2]
  rfl
theorem gDirt_lay (x : Int × Int) (h : dirtB1 x = true) (m : List UInt8) : gDirt (dirtL x ++ m) = some (x, m) := by
  obtain ⟨⟨a1, a2⟩, b1, b2⟩ := (dirtB1_iff x).1 h
  obtain ⟨xa, xb⟩ := x
  dsimp only at a1 a2 b1 b2
  unfold gDirt dirtL
  simp only [List.append_assoc]
  rw [gN_lay 1 xa a1 (by omega), Option.bind_some, gL_lay xb (by omega) b2]
  rfl
theorem gRow9_is {l m : List UInt8} {x : Row9} (h : gRow9 l = some (x, m)) : l = row9L x ++ m := by
  unfold gRow9 at h
  simp only [Option.bind_eq_some_iff, Option.map_eq_some_iff] at h
  obtain ⟨a, ha, b, hb, c, hc, d, hd, e, he, hx⟩ := h
  injection hx with hx hm
  rw [(gL_is ha).1, (gN_is hb).1, (gN_is hc).1, (gL_is hd).1, (gL_is he).1, ← hx, ← hm]
  simp [row9L]
theorem gDirt_is {l m : List UInt8} {x : Int × Int} (h : gDirt l = some (x, m)) : l = dirtL x ++ m := by
  unfold gDirt at h
  simp only [Option.bind_eq_some_iff, Option.map_eq_some_iff] at h
  obtain ⟨a, ha, b, hb, hx⟩ := h
  injection hx with hx hm
  rw [(gN_is ha).1, (gL_is hb).1, ← hx, ← hm]
  simp [dirtL]
theorem gMany_lay {α : Type} {f : List UInt8 → Option (α × List UInt8)} {w : α → List UInt8} : ∀ (xs : List α), (∀ x ∈ xs, ∀ m, f (w x ++ m) = some (x, m)) → ∀ m, gMany f xs.length (cat (xs.map w) ++ m) = some (xs, m)
  | [], _, m => by simp [gMany, cat]
  | x :: r, h, m => by
    rw [List.length_cons, List.map_cons, cat_cons, List.append_assoc]
    unfold gMany
    rw [h x (by simp), Option.bind_some, gMany_lay r (fun y hy => h y (by simp [hy]))]
    rfl
theorem gMany_is {α : Type} {f : List UInt8 → Option (α × List UInt8)} {w : α → List UInt8} (hf : ∀ l x m, f l = some (x, m) → l = w x ++ m) : ∀ (n : Nat) (l : List UInt8) (xs : List α) (m : List UInt8), gMany f n l = some (xs, m) → l = cat (xs.map w) ++ m ∧ xs.length = n
  | 0, l, xs, m, h => by
    simp only [gMany, Option.some.injEq, Prod.mk.injEq] at h
    rw [← h.1, ← h.2]
    simp [cat]
  | n + 1, l, xs, m, h => by
    unfold gMany at h
    simp only [Option.bind_eq_some_iff, Option.map_eq_some_iff] at h
    obtain ⟨a, ha, b, hb, hx⟩ := h
    injection hx with hx hm
    obtain ⟨i1, i2⟩ := gMany_is hf n a.2 b.1 b.2 hb
    refine ⟨?_, by rw [← hx, List.length_cons, i2]⟩
    rw [hf l a.1 a.2 ha, ← hx, List.map_cons, cat_cons, List.append_assoc, ← hm, ← i1]
theorem rowsB_all : ∀ (p : Int) (l : List Row9), rowsB p l = true → ∀ x ∈ l, rowB9 x = true
  | _, [], _, x, hx => by cases hx
  | p, y :: r, h, x, hx => by
    simp only [rowsB, Bool.and_eq_true] at h
    rcases List.mem_cons.1 hx with rfl | hx
    · exact h.1.1
    · exact rowsB_all _ r h.2 x hx
theorem dirtB_all : ∀ (p : Int) (l : List (Int × Int)), dirtB p l = true → ∀ x ∈ l, dirtB1 x = true
  | _, [], _, x, hx => by cases hx
  | p, y :: r, h, x, hx => by
    simp only [dirtB, Bool.and_eq_true] at h
    rcases List.mem_cons.1 hx with rfl | hx
    · exact h.1.1
    · exact dirtB_all _ r h.2 x hx
theorem leB_nB (k n : Nat) : leB k n = nB k (n : Int) := by simp [nB]
/-- What is right, kind by kind. -/
theorem right_cases {r : RecD} (h : rgtB r = true) :
    (r.kind = 1 ∧ r.birth = 0 ∧ r.prev = 0 ∧ (1 ≤ r.id ∧ r.id ≤ 64) ∧ r.page = 0 ∧ r.frm = 0 ∧ r.after = [] ∧ r.before = [] ∧ r.next = 0 ∧ r.rows = [] ∧ r.dirty = []) ∨
    (r.kind = 2 ∧ lsnB r.birth = true ∧ lsnB r.prev = true ∧ r.id = 0 ∧ rangB r.page r.frm r.after.length = true ∧ r.before.length = r.after.length ∧ endsB r.before r.after = true ∧ r.next = 0 ∧ r.rows = [] ∧ r.dirty = []) ∨
    (r.kind = 3 ∧ lsnB r.birth = true ∧ lsnB r.prev = true ∧ r.id = 0 ∧ rangB r.page r.frm r.after.length = true ∧ r.before = [] ∧ nxtB r.next = true ∧ r.rows = [] ∧ r.dirty = []) ∨
    ((r.kind = 4 ∨ r.kind = 5 ∨ r.kind = 6) ∧ lsnB r.birth = true ∧ lsnB r.prev = true ∧ r.id = 0 ∧ r.page = 0 ∧ r.frm = 0 ∧ r.after = [] ∧ r.before = [] ∧ r.next = 0 ∧ r.rows = [] ∧ r.dirty = []) ∨
    (r.kind = 7 ∧ r.birth = 0 ∧ r.prev = 0 ∧ r.id = 0 ∧ r.page = 0 ∧ r.frm = 0 ∧ r.after = [] ∧ r.before = [] ∧ r.next = 0 ∧ listsB r = true) := by
  unfold rgtB at h
  split at h
  · rename_i hk
    simp only [bareB, Bool.and_eq_true, Bool.or_eq_true, decide_eq_true_eq, Bool.true_or, Bool.false_or, List.length_eq_zero_iff] at h
    exact .inl ⟨hk, by simp_all⟩
  · split at h
    · rename_i hk
      simp only [bareB, Bool.and_eq_true, Bool.or_eq_true, decide_eq_true_eq, Bool.true_or, Bool.false_or, List.length_eq_zero_iff] at h
      exact .inr (.inr (.inr (.inr ⟨hk, by simp_all⟩)))
    · split at h
      · rename_i hl
        simp only [Bool.and_eq_true] at hl
        split at h
        · rename_i hk
          simp only [bareB, Bool.and_eq_true, Bool.or_eq_true, decide_eq_true_eq, Bool.true_or, Bool.false_or, List.length_eq_zero_iff] at h
          exact .inr (.inl ⟨hk, by simp_all⟩)
        · split at h
          · rename_i hk
            simp only [bareB, Bool.and_eq_true, Bool.or_eq_true, decide_eq_true_eq, Bool.true_or, Bool.false_or, List.length_eq_zero_iff] at h
            exact .inr (.inr (.inl ⟨hk, by simp_all⟩))
          · split at h
            · rename_i hk
              simp only [bareB, Bool.and_eq_true, Bool.or_eq_true, decide_eq_true_eq, Bool.true_or, Bool.false_or, List.length_eq_zero_iff] at h
              exact .inr (.inr (.inr (.inl ⟨hk, by simp_all⟩)))
            · cases h
      · cases h
theorem RecD.ext {a b : RecD} (h1 : a.kind = b.kind) (h2 : a.birth = b.birth) (h3 : a.prev = b.prev) (h4 : a.id = b.id) (h5 : a.page = b.page) (h6 : a.frm = b.frm) (h7 : a.before = b.before) (h8 : a.after = b.after) (h9 : a.next = b.next) (h10 : a.rows = b.rows) (h11 : a.dirty = b.dirty) : a = b := by
  cases a; cases b; simp_all
theorem rangB_iff (p f : Int) (n : Nat) : rangB p f n = true ↔ (0 ≤ p ∧ p < 16) ∧ (1 ≤ n ∧ n ≤ 128) ∧ 16 ≤ f ∧ f ≤ 144 - (n : Int) := by simp [rangB, and_assoc]
theorem pHead_lay (k b p : Int) (k0 : 0 ≤ k) (k1 : k < 256) (b0 : 0 ≤ b) (b1 : b ≤ 1152921504606846976) (p0 : 0 ≤ p) (p1 : p ≤ 1152921504606846976) (m : List UInt8) :
    pHead (nB 1 k ++ (nB 8 b ++ (nB 8 p ++ m))) = some ({ recZ with kind := k, birth := b, prev := p }, m) := by
  unfold pHead
  rw [gN_lay 1 k k0 (by omega), Option.bind_some, gL_lay b b0 b1, Option.bind_some, gL_lay p p0 p1]
  rfl
/-- The bytes of a right record, read, whatever is behind them. -/
theorem pAll_lay {r : RecD} (h : rgtB r = true) (m : List UInt8) : pAll (recL r ++ m) = some (r, m) := by
  obtain ⟨kind, birth, prev, id, page, frm, before, after, next, rows, dirty⟩ := r
  have hh : recL ⟨kind, birth, prev, id, page, frm, before, after, next, rows, dirty⟩ ++ m = nB 1 kind ++ (nB 8 birth ++ (nB 8 prev ++ (tailR ⟨kind, birth, prev, id, page, frm, before, after, next, rows, dirty⟩ ++ m))) := by simp [recL, headR]
  rw [hh]
  unfold pAll
  rcases right_cases h with h | h | h | h | h
  · obtain ⟨h1, h2, h3, ⟨h4, h4'⟩, h5, h6, h7, h8, h9, h10, h11⟩ := h
    dsimp only at h1 h2 h3 h4 h4' h5 h6 h7 h8 h9 h10 h11
    subst h1 h2 h3 h5 h6 h7 h8 h9 h10 h11
    rw [pHead_lay 1 0 0 (by omega) (by omega) (by omega) (by omega) (by omega) (by omega), Option.bind_some, if_pos ⟨by show (1 : Int) ≤ 1; omega, by show (1 : Int) ≤ 7; omega⟩]
    have e : tailR ⟨1, 0, 0, id, 0, 0, [], [], 0, [], []⟩ = nB 1 id := rfl
    have e2 : ∀ r l, r.kind = 1 → pTail r l = pBegin r l := fun r l h => if_pos h
    rw [e, e2 _ _ rfl]
    unfold pBegin
    rw [gN_lay 1 id (by omega) (by omega)]
    rfl
  · obtain ⟨h1, h2, h3, h4, h5, h6, _, h9, h10, h11⟩ := h
    dsimp only at h1 h2 h3 h4 h5 h6 h9 h10 h11
    obtain ⟨b0, b1⟩ := (lsnB_iff _).1 h2
    obtain ⟨p0, p1⟩ := (lsnB_iff _).1 h3
    obtain ⟨⟨g0, g1⟩, ⟨n0, n1⟩, f0, f1⟩ := (rangB_iff _ _ _).1 h5
    subst h1 h4 h9 h10 h11
    rw [pHead_lay 2 birth prev (by omega) (by omega) (by omega) b1 (by omega) p1, Option.bind_some, if_pos ⟨by show (1 : Int) ≤ 2; omega, by show (2 : Int) ≤ 7; omega⟩]
    have e : tailR ⟨2, birth, prev, 0, page, frm, before, after, 0, [], []⟩ = nB 1 page ++ nB 2 frm ++ leB 2 after.length ++ before ++ after := rfl
    have e2 : ∀ r l, r.kind = 2 → pTail r l = pUpdate r l := fun r l h => by unfold pTail; rw [if_neg (by omega), if_pos h]
    rw [e, e2 _ _ rfl, leB_nB]
    unfold pUpdate
    simp only [List.append_assoc]
    rw [gN_lay 1 page g0 (by omega), Option.bind_some, gN_lay 2 frm (by omega) (by omega), Option.bind_some, gN_lay 2 _ (by omega) (by omega), Option.bind_some]
    simp only [Int.toNat_natCast]
    rw [gR_lay _ before _ h6, Option.bind_some]
    simp only
    rw [gR_lay _ after _ rfl]
    rfl
  · obtain ⟨h1, h2, h3, h4, h5, h6, h9, h10, h11⟩ := h
    dsimp only at h1 h2 h3 h4 h5 h6 h9 h10 h11
    obtain ⟨b0, b1⟩ := (lsnB_iff _).1 h2
    obtain ⟨p0, p1⟩ := (lsnB_iff _).1 h3
    obtain ⟨x0, x1⟩ := (nxtB_iff _).1 h9
    obtain ⟨⟨g0, g1⟩, ⟨n0, n1⟩, f0, f1⟩ := (rangB_iff _ _ _).1 h5
    subst h1 h4 h6 h10 h11
    rw [pHead_lay 3 birth prev (by omega) (by omega) (by omega) b1 (by omega) p1, Option.bind_some, if_pos ⟨by show (1 : Int) ≤ 3; omega, by show (3 : Int) ≤ 7; omega⟩]
    have e : tailR ⟨3, birth, prev, 0, page, frm, [], after, next, [], []⟩ = nB 1 page ++ nB 2 frm ++ leB 2 after.length ++ [] ++ after ++ nB 8 next := rfl
    have e2 : ∀ r l, r.kind = 3 → pTail r l = pUndo r l := fun r l h => by unfold pTail; rw [if_neg (by omega), if_neg (by omega), if_pos h]
    rw [e, e2 _ _ rfl, leB_nB]
    unfold pUndo
    simp only [List.append_assoc, List.nil_append]
    rw [gN_lay 1 page g0 (by omega), Option.bind_some, gN_lay 2 frm (by omega) (by omega), Option.bind_some, gN_lay 2 _ (by omega) (by omega), Option.bind_some]
    simp only [Int.toNat_natCast]
    rw [gR_lay _ after _ rfl, Option.bind_some]
    simp only
    rw [gL_lay next x0 x1]
    rfl
  · obtain ⟨h1, h2, h3, h4, h5, h6, h7, h8, h9, h10, h11⟩ := h
    dsimp only at h1 h2 h3 h4 h5 h6 h7 h8 h9 h10 h11
    obtain ⟨b0, b1⟩ := (lsnB_iff _).1 h2
    obtain ⟨p0, p1⟩ := (lsnB_iff _).1 h3
    subst h4 h5 h6 h7 h8 h9 h10 h11
    rw [pHead_lay kind birth prev (by omega) (by omega) (by omega) b1 (by omega) p1, Option.bind_some, if_pos ⟨by show 1 ≤ kind; omega, by show kind ≤ 7; omega⟩]
    have e : tailR ⟨kind, birth, prev, 0, 0, 0, [], [], 0, [], []⟩ = [] := by unfold tailR; rw [if_neg (by show ¬ kind = 1; omega), if_neg (by show ¬ kind = 2; omega), if_neg (by show ¬ kind = 3; omega), if_neg (by show ¬ kind = 7; omega)]
    rw [e]
    unfold pTail
    rw [if_neg (by show ¬ kind = 1; omega), if_neg (by show ¬ kind = 2; omega), if_neg (by show ¬ kind = 3; omega), if_neg (by show ¬ kind = 7; omega)]
    rfl
  · obtain ⟨h1, h2, h3, h4, h5, h6, h7, h8, h9, h10⟩ := h
    dsimp only at h1 h2 h3 h4 h5 h6 h7 h8 h9
    simp only [listsB, Bool.and_eq_true, decide_eq_true_eq] at h10
    obtain ⟨⟨⟨l1, l2⟩, l3⟩, l4⟩ := h10
    subst h1 h2 h3 h4 h5 h6 h7 h8 h9
    rw [pHead_lay 7 0 0 (by omega) (by omega) (by omega) (by omega) (by omega) (by omega), Option.bind_some, if_pos ⟨by show (1 : Int) ≤ 7; omega, by show (7 : Int) ≤ 7; omega⟩]
    have e : tailR ⟨7, 0, 0, 0, 0, 0, [], [], 0, rows, dirty⟩ = leB 1 rows.length ++ cat (rows.map row9L) ++ (leB 1 dirty.length ++ cat (dirty.map dirtL)) := rfl
    have e2 : ∀ r l, r.kind = 7 → pTail r l = pCheck r l := fun r l h => by unfold pTail; rw [if_neg (by omega), if_neg (by omega), if_neg (by omega), if_pos h]
    rw [e, e2 _ _ rfl, leB_nB, leB_nB]
    unfold pCheck
    simp only [List.append_assoc]
    rw [gN_lay 1 _ (by omega) (by omega), Option.bind_some]
    simp only [Int.toNat_natCast]
    rw [gMany_lay rows (fun x hx m => gRow9_lay x (rowsB_all _ _ l3 x hx) m), Option.bind_some]
    simp only
    rw [gN_lay 1 _ (by omega) (by omega), Option.bind_some]
    simp only [Int.toNat_natCast]
    rw [gMany_lay dirty (fun x hx m => gDirt_lay x (dirtB_all _ _ l4 x hx) m)]
    rfl
theorem pHead_is {l m : List UInt8} {r : RecD} (h : pHead l = some (r, m)) : l = headR r ++ m ∧ r = { recZ with kind := r.kind, birth := r.birth, prev := r.prev } ∧ (0 ≤ r.kind ∧ r.kind < 256) ∧ (0 ≤ r.birth ∧ r.birth ≤ 1152921504606846976) ∧ (0 ≤ r.prev ∧ r.prev ≤ 1152921504606846976) := by
  unfold pHead at h
  simp only [Option.bind_eq_some_iff, Option.map_eq_some_iff] at h
  obtain ⟨a, ha, b, hb, c, hc, hx⟩ := h
  injection hx with hx hm
  subst hx hm
  obtain ⟨a1, a2, a3⟩ := gN_is ha
  obtain ⟨b1, b2, b3⟩ := gL_is hb
  obtain ⟨c1, c2, c3⟩ := gL_is hc
  refine ⟨?_, rfl, ⟨a2, by show a.1 < 256; omega⟩, ⟨b2, b3⟩, ⟨c2, c3⟩⟩
  rw [a1, b1, c1]
  simp [headR]
set_option maxHeartbeats 1000000 in
theorem pTail_is {l m : List UInt8} {k b p : Int} {r : RecD} (hk : 1 ≤ k ∧ k ≤ 7) (h : pTail { recZ with kind := k, birth := b, prev := p } l = some (r, m)) : l = tailR r ++ m ∧ r.kind = k ∧ r.birth = b ∧ r.prev = p := by
  unfold pTail at h
  dsimp only at h
  split at h
  · rename_i h1
    subst h1
    unfold pBegin at h
    simp only [Option.map_eq_some_iff] at h
    obtain ⟨a, ha, hx⟩ := h
    injection hx with hx hm
    subst hx hm
    exact ⟨by rw [(gN_is ha).1]; rfl, rfl, rfl, rfl⟩
  · split at h
    · rename_i h1
      subst h1
      unfold pUpdate at h
      simp only [Option.bind_eq_some_iff, Option.map_eq_some_iff] at h
      obtain ⟨a, ha, b, hb, c, hc, d, hd, e, he, hx⟩ := h
      injection hx with hx hm
      subst hx hm
      refine ⟨?_, rfl, rfl, rfl⟩
      obtain ⟨c1, c2, _⟩ := gN_is hc
      obtain ⟨d1, d2⟩ := gR_is hd
      obtain ⟨e1, e2⟩ := gR_is he
      rw [(gN_is ha).1, (gN_is hb).1, c1, d1, e1]
      show _ = nB 1 a.1 ++ nB 2 b.1 ++ leB 2 e.1.length ++ d.1 ++ e.1 ++ e.2
      rw [e2]
      simp [nB]
    · split at h
      · rename_i h1
        subst h1
        unfold pUndo at h
        simp only [Option.bind_eq_some_iff, Option.map_eq_some_iff] at h
        obtain ⟨a, ha, b, hb, c, hc, d, hd, e, he, hx⟩ := h
        injection hx with hx hm
        subst hx hm
        refine ⟨?_, rfl, rfl, rfl⟩
        obtain ⟨c1, c2, _⟩ := gN_is hc
        obtain ⟨d1, d2⟩ := gR_is hd
        rw [(gN_is ha).1, (gN_is hb).1, c1, d1, (gL_is he).1]
        show _ = nB 1 a.1 ++ nB 2 b.1 ++ leB 2 d.1.length ++ [] ++ d.1 ++ nB 8 e.1 ++ e.2
        rw [d2]
        simp [nB]
      · split at h
        · rename_i h1
          subst h1
          unfold pCheck at h
          simp only [Option.bind_eq_some_iff, Option.map_eq_some_iff] at h
          obtain ⟨a, ha, b, hb, c, hc, d, hd, hx⟩ := h
          injection hx with hx hm
          subst hx hm
          refine ⟨?_, rfl, rfl, rfl⟩
          obtain ⟨a1, a2, _⟩ := gN_is ha
          obtain ⟨c1, c2, _⟩ := gN_is hc
          obtain ⟨b1, b2⟩ := gMany_is (fun l x m => gRow9_is) _ _ _ _ hb
          obtain ⟨d1, d2⟩ := gMany_is (fun l x m => gDirt_is) _ _ _ _ hd
          rw [a1, b1, c1, d1]
          show _ = leB 1 b.1.length ++ cat (b.1.map row9L) ++ (leB 1 d.1.length ++ cat (d.1.map dirtL)) ++ d.2
          rw [b2, d2]
          simp [nB]
        · rename_i n1 n2 n3 n7
          injection h with h
          injection h with h hm
          subst h hm
          refine ⟨?_, rfl, rfl, rfl⟩
          have e : tailR { recZ with kind := k, birth := b, prev := p } = [] := by
            unfold tailR
            rw [if_neg n1, if_neg n2, if_neg n3, if_neg n7]
          rw [e]
          rfl
theorem pAll_is {l m : List UInt8} {r : RecD} (h : pAll l = some (r, m)) : l = recL r ++ m := by
  unfold pAll at h
  simp only [Option.bind_eq_some_iff] at h
  obtain ⟨a, ha, hx⟩ := h
  obtain ⟨h1, h2, h3, h4, h5⟩ := pHead_is ha
  split at hx
  · rename_i hk
    rw [h2] at hx
    obtain ⟨t1, t2, t3, t4⟩ := pTail_is hk hx
    rw [h1, t1]
    unfold recL headR
    rw [t2, t3, t4]
    simp
  · cases hx
theorem pRec_iff (l : List UInt8) (r : RecD) : pRec l = some r ↔ rgtB r = true ∧ recL r = l := by
  unfold pRec
  rw [Option.bind_eq_some_iff]
  constructor
  · rintro ⟨a, ha, hx⟩
    split at hx
    · rename_i hc
      injection hx with hx
      subst hx
      have := pAll_is ha
      rw [List.eq_nil_of_length_eq_zero hc.1, List.append_nil] at this
      exact ⟨hc.2, this.symm⟩
    · cases hx
  · rintro ⟨h1, rfl⟩
    have := pAll_lay h1 []
    rw [List.append_nil] at this
    exact ⟨_, this, if_pos ⟨rfl, h1⟩⟩
/-! ### Consequences -/
theorem recL_inj {a b : RecD} (ha : rgtB a = true) (hb : rgtB b = true) (h : recL a = recL b) : a = b := by
  have h1 := (pRec_iff (recL a) a).2 ⟨ha, rfl⟩
  have h2 := (pRec_iff (recL a) b).2 ⟨hb, h.symm⟩
  rw [h1] at h2
  injection h2
/-- No record's bytes begin another's. -/
theorem recL_prefix {a b : RecD} (ha : rgtB a = true) (hb : rgtB b = true) {m : List UInt8} (h : recL b = recL a ++ m) : m = [] := by
  have h1 := pAll_lay ha m
  have h2 := pAll_lay hb []
  rw [List.append_nil, h, h1] at h2
  exact (Prod.mk.inj (Option.some.inj h2)).2
theorem recL_pos (r : RecD) : 17 ≤ (recL r).length := by
  unfold recL headR
  simp only [List.length_append, nB_length]
  omega
theorem row9L_cat (l : List Row9) : (cat (l.map row9L)).length = 26 * l.length := by
  induction l with
  | nil => rfl
  | cons x r ih => rw [List.map_cons, cat_cons, List.length_append, row9L_length, ih, List.length_cons]; omega
theorem dirtL_cat (l : List (Int × Int)) : (cat (l.map dirtL)).length = 9 * l.length := by
  induction l with
  | nil => rfl
  | cons x r ih => rw [List.map_cons, cat_cons, List.length_append, dirtL_length, ih, List.length_cons]; omega
/-- How many bytes, by the table. -/
def sizeR (r : RecD) : Nat := if r.kind = 1 then 18 else if r.kind = 2 then 22 + 2 * r.after.length else if r.kind = 3 then 30 + r.after.length else if r.kind = 7 then 19 + 26 * r.rows.length + 9 * r.dirty.length else 17
theorem recL_length {r : RecD} (h : rgtB r = true) : (recL r).length = sizeR r := by
  unfold recL headR sizeR tailR laidR
  simp only [List.length_append, nB_length]
  split
  · simp
  · split
    · rcases right_cases h with h | h | h | h | h <;> (try omega)
      simp only [List.length_append, nB_length, leB_length, h.2.2.2.2.2.1]
      omega
    · split
      · rcases right_cases h with h | h | h | h | h <;> (try omega)
        simp only [List.length_append, nB_length, leB_length, h.2.2.2.2.2.1, List.length_nil]
        omega
      · split
        · simp only [List.length_append, leB_length, row9L_cat, dirtL_cat]
          omega
        · simp
theorem recL_le {r : RecD} (h : rgtB r = true) : (recL r).length ≤ 371 := by
  rw [recL_length h]
  unfold sizeR
  rcases right_cases h with h | h | h | h | h
  · rw [if_pos h.1]; omega
  · have := (rangB_iff _ _ _).1 h.2.2.2.2.1
    rw [if_neg (by omega), if_pos h.1]; omega
  · have := (rangB_iff _ _ _).1 h.2.2.2.2.1
    rw [if_neg (by omega), if_neg (by omega), if_pos h.1]; omega
  · rw [if_neg (by omega), if_neg (by omega), if_neg (by omega), if_neg (by omega)]; omega
  · have h10 := h.2.2.2.2.2.2.2.2.2
    simp only [listsB, Bool.and_eq_true, decide_eq_true_eq] at h10
    rw [if_neg (by omega), if_neg (by omega), if_neg (by omega), if_pos h.1]; omega
/-! ### One more -/
theorem gMany_snoc {α : Type} {f : List UInt8 → Option (α × List UInt8)} : ∀ (k : Nat) (l : List UInt8) (xs : List α) (m m' : List UInt8) (x : α), gMany f k l = some (xs, m) → f m = some (x, m') → gMany f (k + 1) l = some (xs ++ [x], m')
  | 0, l, xs, m, m', x, h, h2 => by
    simp only [gMany, Option.some.injEq, Prod.mk.injEq] at h
    obtain ⟨rfl, rfl⟩ := h
    unfold gMany
    rw [h2]
    rfl
  | k + 1, l, xs, m, m', x, h, h2 => by
    unfold gMany at h
    simp only [Option.bind_eq_some_iff, Option.map_eq_some_iff] at h
    obtain ⟨a, ha, b, hb, hx⟩ := h
    injection hx with hx hm
    subst hx hm
    have := gMany_snoc k a.2 b.1 b.2 m' x hb h2
    show (f l).bind (fun a => (gMany f (k + 1) a.2).map fun b => (a.1 :: b.1, b.2)) = _
    rw [ha, Option.bind_some, this]
    rfl
theorem gMany_none {α : Type} {f : List UInt8 → Option (α × List UInt8)} : ∀ (k n : Nat) (l : List UInt8) (xs : List α) (m : List UInt8), gMany f k l = some (xs, m) → f m = none → k < n → gMany f n l = none
  | 0, n + 1, l, xs, m, h, h2, _ => by
    simp only [gMany, Option.some.injEq, Prod.mk.injEq] at h
    obtain ⟨rfl, rfl⟩ := h
    unfold gMany
    rw [h2]
    rfl
  | k + 1, n + 1, l, xs, m, h, h2, hk => by
    unfold gMany at h
    simp only [Option.bind_eq_some_iff, Option.map_eq_some_iff] at h
    obtain ⟨a, ha, b, hb, hx⟩ := h
    injection hx with hx hm
    subst hm
    have := gMany_none k n a.2 b.1 b.2 hb h2 (by omega)
    unfold gMany
    rw [ha, Option.bind_some, this]
    rfl
theorem gMany_len {α : Type} {f : List UInt8 → Option (α × List UInt8)} : ∀ (n : Nat) (l : List UInt8) (xs : List α) (m : List UInt8), gMany f n l = some (xs, m) → xs.length = n
  | 0, l, xs, m, h => by
    simp only [gMany, Option.some.injEq, Prod.mk.injEq] at h
    rw [← h.1]
    rfl
  | n + 1, l, xs, m, h => by
    unfold gMany at h
    simp only [Option.bind_eq_some_iff, Option.map_eq_some_iff] at h
    obtain ⟨a, ha, b, hb, hx⟩ := h
    injection hx with hx hm
    rw [← hx, List.length_cons, gMany_len n a.2 b.1 b.2 hb]
end Go.Tm
