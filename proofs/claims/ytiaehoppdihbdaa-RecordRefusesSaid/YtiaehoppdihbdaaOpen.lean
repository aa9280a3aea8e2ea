import Derived.Test.YtiaehoppdihbdaaRow
import Derived.Deep.Strs
import Derived.ChangeArms
/- Arguments of any build, opened: structs, slices of structs, structs in structs, part by part. -/
set_option linter.unusedVariables false
set_option linter.unusedSimpArgs false
namespace Go.Tm
open Go.RowKit Go.ChangeShapes Go.WideShapes Go.ChangeAt Go.Deep

/-- A way to read cells as plain data. -/
abbrev Rdr (α : Type) := World → List Value → α → Prop
def rInt : Rdr Int := fun _ cs n => cs = [.int .i64 n] ∧ -9223372036854775808 ≤ n ∧ n ≤ 9223372036854775807
def rU8 : Rdr Int := fun _ cs n => cs = [.int .u8 n] ∧ 0 ≤ n ∧ n ≤ 255
def rBool : Rdr Bool := fun _ cs b => cs = [.bool b]
def rBytes : Rdr (List UInt8) := fun w cs l => ∃ A c, cs = [.slice A l.length c] ∧ Rda w A c l ∧ l.length ≤ 140737488351232
/-- A slice of elements of so many cells. -/
structure RdS {α : Type} (size : Nat) (R : Rdr α) (w : World) (A : Option Addr) (c : Nat) (l : List α) : Prop where
  cap : l.length ≤ c
  max : c ≤ maxLen
  nil : A = none → c = 0
  cells : 0 < l.length → ∃ g o, A = some ⟨g, o, none⟩ ∧ ∀ j x, l[j]? = some x → ∃ cs : List Value, cs.length = size ∧ (∀ i v, cs[i]? = some v → w.cell? ⟨g, o + j * size + i, none⟩ = some v) ∧ R w cs x
def rSlice {α : Type} (size bytes : Nat) (R : Rdr α) : Rdr (List α) := fun w cs l => ∃ A c, cs = [.slice A l.length c] ∧ RdS size R w A c l ∧ l.length * bytes ≤ 140737488351232
def rThen {α β : Type} (n : Nat) (R : Rdr α) (S : Rdr β) : Rdr (α × β) := fun w cs x => R w (cs.take n) x.1 ∧ S w (cs.drop n) x.2

/-- What is read stays, where nothing that was there turns. -/
def Keeps {α : Type} (R : Rdr α) : Prop := ∀ w w' cs a, Below w.heap.size w w' → R w cs a → R w' cs a
theorem keeps_int : Keeps rInt := fun _ _ _ _ _ h => h
theorem keeps_u8 : Keeps rU8 := fun _ _ _ _ _ h => h
theorem keeps_bool : Keeps rBool := fun _ _ _ _ _ h => h
theorem keeps_bytes : Keeps rBytes := fun _ _ _ _ hb ⟨A, c, e, hr, hl⟩ => ⟨A, c, e, hr.below hb, hl⟩
theorem RdS.below {α : Type} {size : Nat} {R : Rdr α} (hR : Keeps R) {w w' : World} {A : Option Addr} {c : Nat} {l : List α} (h : RdS size R w A c l) (hb : Below w.heap.size w w') : RdS size R w' A c l :=
  ⟨h.cap, h.max, h.nil, fun hp => by
    obtain ⟨g, o, e, hc⟩ := h.cells hp
    refine ⟨g, o, e, fun j x hj => ?_⟩
    obtain ⟨cs, h1, h2, h3⟩ := hc j x hj
    exact ⟨cs, h1, fun i v hv => (hb.cell (p := ⟨g, _, none⟩) (World.block_lt_of_cell? _ _ (h2 i v hv))).trans (h2 i v hv), hR _ _ _ _ hb h3⟩⟩
theorem keeps_slice {α : Type} {size bytes : Nat} {R : Rdr α} (hR : Keeps R) : Keeps (rSlice size bytes R) := fun _ _ _ _ hb ⟨A, c, e, hr, hl⟩ => ⟨A, c, e, hr.below hR hb, hl⟩
theorem keeps_then {α β : Type} {n : Nat} {R : Rdr α} {S : Rdr β} (hR : Keeps R) (hS : Keeps S) : Keeps (rThen n R S) := fun _ _ _ _ hb h => ⟨hR _ _ _ _ hb h.1, hS _ _ _ _ hb h.2⟩

/-- Each datum of a type that is within the reach reads so. -/
structure Opens {α : Type} (P : Program) (T : TypeId) (size : Nat) (R : Rdr α) : Prop where
  cells : P.cellsOf T = size
  open_ : ∀ {H : Type} {enc : TypeId × Value → H} {w : World} {base : Nat} {spare : Nat → Bool} {held : Bool} {fuel : Nat} {cs : List Value} {x : DataW H × List MemPlace},
    DataW.trod enc P w base spare held fuel T cs = some x → (DataW.weights P T x.1).all (· ≤ reachBytes) = true → ∃ a, R w cs a
theorem reach47 : reachBytes = 140737488351232 := rfl
section
variable {P : Program} {T : TypeId}
theorem opens_int (ht : P.underlying T = some (.int .i64)) (hc : P.cellsOf T = 1) : Opens P T 1 rInt :=
  ⟨hc, fun h _ => by
    obtain ⟨n, e, _, hw⟩ := DataW.trod_int ht h
    exact ⟨n, e, bounds_i64 hw⟩⟩
theorem opens_u8 (ht : P.underlying T = some (.int .u8)) (hc : P.cellsOf T = 1) : Opens P T 1 rU8 :=
  ⟨hc, fun h _ => by
    obtain ⟨n, e, _, hw⟩ := DataW.trod_int ht h
    exact ⟨n, e, bounds_u8 hw⟩⟩
theorem opens_bool (ht : P.underlying T = some .bool) (hc : P.cellsOf T = 1) : Opens P T 1 rBool :=
  ⟨hc, fun h _ => by
    obtain ⟨b, e, _⟩ := DataW.trod_bool ht h
    exact ⟨b, e⟩⟩
theorem weights_slice {H : Type} {t e : TypeId} {elems spare : List (DataW H)} (hu : P.underlying t = some (.slice e)) (h : (DataW.weights P t (.slice elems spare)).all (· ≤ reachBytes) = true) :
    (elems.length + spare.length) * P.bytesOf e ≤ reachBytes ∧ ∀ d ∈ elems, (DataW.weights P e d).all (· ≤ reachBytes) = true := by
  simp only [DataW.weights, hu, List.all_cons, List.all_append, Bool.and_eq_true, decide_eq_true_eq] at h
  refine ⟨h.1, ?_⟩
  have h2 := h.2.1
  clear h
  induction elems with
  | nil => intro d hd; cases hd
  | cons x r ih =>
    simp only [DataW.weightsAll, List.all_append, Bool.and_eq_true] at h2
    intro d hd
    rcases List.mem_cons.1 hd with rfl | hd
    · exact h2.1
    · exact ih h2.2 d hd
theorem opens_bytes {e : TypeId} (hU : U8 P T e) (hc : P.cellsOf T = 1) (hce : P.cellsOf e = 1) (hby : P.bytesOf e = 1) : Opens P T 1 rBytes :=
  ⟨hc, fun {H enc w base spare held fuel cs x} h hz => by
    rcases open_slice hU.slice h with ⟨hcs, hx⟩ | ⟨a, len, cap, m, n, D, Pl, hcs, _, hl, hm, hmm, hx, _⟩
    · exact ⟨[], none, 0, hcs, Rda.nilRow w, by simp⟩
    · subst hcs
      obtain ⟨A, l, c, e1, e2, _⟩ := open_bytes hU hce h
      refine ⟨l, A, c, by rw [e1], e2, ?_⟩
      have : l.length = len := by injection e1 with _ e1 _; exact e1.symm
      rw [hx] at hz
      have h1 := (weights_slice hU.slice hz).1
      rw [hby, reach47] at h1
      simp only [List.length_map, List.length_range] at h1
      omega⟩
theorem opens_slice {α : Type} {e : TypeId} {size bytes : Nat} {R : Rdr α} (hT : P.underlying T = some (.slice e)) (hc : P.cellsOf T = 1) (hby : P.bytesOf e = bytes) (hR : Opens P e size R) (hi : Inhabited α) (hs : 0 < size) : Opens P T 1 (rSlice size bytes R) :=
  ⟨hc, fun {H enc w base spare held fuel cs x} h hz => by
    rcases open_slice hT h with ⟨hcs, hx⟩ | ⟨a, len, cap, m, n, D, Pl, hcs, _, hl, hm, hmm, hx, hV⟩
    · exact ⟨[], none, 0, hcs, ⟨Nat.le_refl _, by unfold maxLen; omega, fun _ => rfl, fun h => by simp at h⟩, by simp⟩
    · have hlm : len ≤ m := by rw [hmm]; split <;> omega
      rw [hx] at hz
      obtain ⟨z1, z2⟩ := weights_slice hT hz
      rw [hby, reach47] at z1
      simp only [List.length_map, List.length_range] at z1
      have each : ∀ i, ∃ q : α, i < len → ∃ cs : List Value, cs.length = size ∧ (∀ j v, cs[j]? = some v → w.cell? (a.add (i * size + j)) = some v) ∧ R w cs q := by
        intro i
        by_cases hi' : i < len
        · obtain ⟨cs', h1, h2⟩ := hV i (by omega)
          rw [hR.cells] at h1
          obtain ⟨_, hlen, hcell⟩ := World.cells?_some h1
          obtain ⟨q, hq⟩ := hR.open_ h2 (z2 _ (List.mem_map.2 ⟨i, by simpa using hi', rfl⟩))
          refine ⟨q, fun _ => ⟨cs', hlen, fun j v hv => ?_, hq⟩⟩
          have hj : j < cs'.length := (List.getElem?_eq_some_iff.1 hv).1
          have := hcell j (by omega)
          rw [Go.Deep.add_add] at this
          rw [this, hv]
        · exact ⟨default, fun h => absurd h hi'⟩
      obtain ⟨L, hL⟩ := Classical.axiomOfChoice each
      have hlen : ((List.range len).map L).length = len := by simp
      refine ⟨(List.range len).map L, some a, cap, by rw [hlen]; exact hcs, ⟨by rw [hlen]; exact hl, hm, fun e => (by cases e), fun hp => ?_⟩, by rw [hlen]; exact Nat.le_trans (Nat.mul_le_mul_right _ (by omega)) z1⟩
      rw [hlen] at hp
      obtain ⟨g, o, spot⟩ := a
      obtain ⟨cs0, c1, c2, c3⟩ := hL 0 hp
      have hspot : spot = none := by
        have := c2 0 (cs0[0]'(by omega)) (List.getElem?_eq_getElem _)
        simpa [Addr.add] using World.cell?_spot this
      subst hspot
      refine ⟨g, o, rfl, fun j y hj => ?_⟩
      have hj' : j < len := by have := (List.getElem?_eq_some_iff.1 hj).1; simpa using this
      have : y = L j := by simpa [List.getElem?_map, List.getElem?_range hj'] using hj.symm
      subst this
      obtain ⟨cs', d1, d2, d3⟩ := hL j hj'
      refine ⟨cs', d1, fun i v hv => ?_, d3⟩
      have := d2 i v hv
      rw [add_plain] at this
      rw [Nat.add_assoc]
      exact this⟩
/-- The fields of a struct from an offset on. -/
structure OpensF {α : Type} (P : Program) (fs : List Field) (off tot : Nat) (R : Rdr α) : Prop where
  go : ∀ {H : Type} {enc : TypeId × Value → H} {w : World} {base : Nat} {spare : Nat → Bool} {held : Bool} {n : Nat} {cs : List Value} {xs : List (DataW H × List MemPlace)},
    cs.length = tot → xs.length = fs.length → (∀ (i : Nat) (f : Field), fs[i]? = some f → DataW.trod enc P w base spare held n f.type ((cs.drop f.offset).take (P.cellsOf f.type)) = xs[i]?) →
    (DataW.weightsEach P (fs.map (·.type)) (xs.map (·.1))).all (· ≤ reachBytes) = true → ∃ a, R w (cs.drop off) a
theorem opensF_one {α : Type} {f : Field} {off tot n : Nat} {R : Rdr α} (ho : f.offset = off) (h : Opens P f.type n R) (ht : off + n = tot) : OpensF P [f] off tot R := by
  refine ⟨?_⟩
  intro H enc w base spare held fu cs xs hl hx hg hz
  match xs, hx with
  | [y], _ =>
    have h0 := hg 0 f rfl
    rw [ho, h.cells] at h0
    have : (cs.drop off).take n = cs.drop off := List.take_of_length_le (by rw [List.length_drop]; omega)
    rw [this] at h0
    exact h.open_ h0 (by simpa [DataW.weightsEach] using hz)
theorem opensF_cons {α β : Type} {f : Field} {fs : List Field} {off tot n : Nat} {R : Rdr α} {S : Rdr β} (ho : f.offset = off) (h : Opens P f.type n R) (k : OpensF P fs (off + n) tot S) : OpensF P (f :: fs) off tot (rThen n R S) := by
  refine ⟨?_⟩
  intro H enc w base spare held fu cs xs hl hx hg hz
  match xs, hx with
  | y :: r, hx =>
    simp only [List.map_cons, DataW.weightsEach, List.all_append, Bool.and_eq_true] at hz
    have h0 := hg 0 f rfl
    rw [ho, h.cells] at h0
    obtain ⟨a, ha⟩ := h.open_ h0 hz.1
    obtain ⟨b, hb⟩ := k.go (enc := enc) (w := w) (base := base) (spare := spare) (held := held) (n := fu) (cs := cs) (xs := r) hl (by simpa using hx) (fun i f' hf => by simpa using hg (i + 1) f' (by simpa using hf)) hz.2
    exact ⟨(a, b), ha, by rw [List.drop_drop]; exact hb⟩
theorem opens_struct {α : Type} {fs : Array Field} {tot : Nat} {R : Rdr α} (hs : P.underlying T = some (.struct fs)) (hc : P.cellsOf T = tot) (hF : OpensF P fs.toList 0 tot R) : Opens P T tot R :=
  ⟨hc, fun {H enc w base spare held fuel cs x} h hz => by
    obtain ⟨xs, n, _, hx, hlen, hxl, hg⟩ := DataW.trod_struct hs h
    rw [hx] at hz
    simp only [DataW.weights, hs] at hz
    have := hF.go (enc := enc) (w := w) (base := base) (spare := spare) (held := held) (n := n) (cs := cs) (xs := xs) (hlen.trans hc) (by simpa using hxl) (fun i f hf => hg i f (by simpa using hf)) hz
    simpa using this⟩
theorem weights_all {H : Type} {e : TypeId} : ∀ {l : List (DataW H)}, (DataW.weightsAll P e l).all (· ≤ reachBytes) = true → ∀ d ∈ l, (DataW.weights P e d).all (· ≤ reachBytes) = true
  | [], _, d, hd => by cases hd
  | x :: r, h, d, hd => by
    simp only [DataW.weightsAll, List.all_append, Bool.and_eq_true] at h
    rcases List.mem_cons.1 hd with rfl | hd
    · exact h.1
    · exact weights_all h.2 d hd
theorem opens_array2 {α : Type} {e : TypeId} {n : Nat} {R : Rdr α} (ht : P.underlying T = some (.array 2 e)) (hc : P.cellsOf T = n + n) (h : Opens P e n R) : Opens P T (n + n) (rThen n R R) :=
  ⟨hc, fun {H enc w base spare held fuel cs x} hx hz => by
    obtain ⟨xs, m, _, hx', hlen, hxl, hg⟩ := DataW.trod_array ht hx
    rw [hx'] at hz
    simp only [DataW.weights, ht] at hz
    have hw := weights_all hz
    match xs, hxl with
    | [y0, y1], _ =>
      have g0 := hg 0 (by omega)
      have g1 := hg 1 (by omega)
      rw [h.cells] at g0 g1
      obtain ⟨a, ha⟩ := h.open_ g0 (hw _ (by simp))
      obtain ⟨b, hb⟩ := h.open_ g1 (hw _ (by simp))
      refine ⟨(a, b), by simpa using ha, ?_⟩
      have : (cs.drop (1 * n)).take n = cs.drop n := by rw [Nat.one_mul]; exact List.take_of_length_le (by rw [List.length_drop, hlen, hc]; omega)
      rw [this] at hb
      exact hb⟩
/-- An argument. -/
theorem open_arg {α : Type} {size : Nat} {R : Rdr α} (hR : Opens P T size R) {H : Type} {enc : TypeId × Value → H} {w : World} {base : Nat} {spare : Nat → Bool} {held : Bool} {v : Value} {d : DataW H} {p : List MemPlace}
    (h : DataW.Trod enc P w base spare held T v d p) (hz : (DataW.weights P T d).all (· ≤ reachBytes) = true) : ∃ a, R w v.cells.toList a := by
  obtain ⟨fuel, hf⟩ := h
  exact hR.open_ hf hz
theorem arg_sized {H : Type} {ts : List TypeId} {ds : List (DataW H)} (h : (DataW.weightsEach P ts ds).all (· ≤ reachBytes) = true) {j : Nat} {t : TypeId} {d : DataW H} (ht : ts[j]? = some t) (hd : ds[j]? = some d) : (DataW.weights P t d).all (· ≤ reachBytes) = true :=
  List.all_eq_true.2 fun n hn => List.all_eq_true.1 h n (DataW.weights_mem_each ht hd n hn)
end
end Go.Tm
