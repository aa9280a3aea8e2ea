import Derived.Test.YtapoknpakleiiaaDoorJPairBack27
import Derived.Test.YtapoknpakleiiaaDoorJPairBack47
import Derived.Test.YtapoknpakleiiaaDoorMem
/- The contracts of the law's helpers for layer 13: rest, fitted. -/
set_option linter.unusedVariables false
set_option linter.unusedSimpArgs false
namespace Go.Proofs.YtapoknpakleiiaaDoor
open Go.RowKit Go.Tm
set_option maxHeartbeats 400000
set_option maxRecDepth 100000

theorem rest13_any {w : World} (n : Int) (m : Nat) (h0 : -9223372036854775808 ≤ n) (h1 : n ≤ 9223372036854775807) (hm : 0 < m) (hm2 : m ≤ 4611686018427387904) {mm : Int} (hmm : mm = (m : Int)) :
    Calls Tryd.prog 22 #[.int .i64 n, .int .i64 mm] w fun e w' => e = .returned (.int .i64 (restI n m : Nat)) ∧ w = w' := by
  subst hmm
  have hm0 : (m : Int) ≠ 0 := by omega
  have hb : ((m : Int) == 0) = false := beq_eq_false_iff_ne.2 hm0
  have hz : ¬ (m : Int) = 0 := hm0
  have g0 := Int.emod_nonneg n hm0
  have g1 := Int.emod_lt_of_pos n (show (0 : Int) < m by omega)
  have e0 : n.tmod (m : Int) = n % (m : Int) ∧ 0 ≤ n.tmod (m : Int) ∨ n.tmod (m : Int) = n % (m : Int) - (m : Int) := by
    rw [Int.tmod_eq_emod]
    split
    · exact .inl ⟨by omega, by omega⟩
    · exact .inr (by omega)
  have hR : ((restI n m : Nat) : Int) = n % (m : Int) := by unfold restI; omega
  obtain ⟨t, ht⟩ : ∃ t, n.tmod (m : Int) = t := ⟨_, rfl⟩
  obtain ⟨r, hr⟩ : ∃ r, restI n m = r := ⟨_, rfl⟩
  rw [ht] at e0
  rw [hr] at hR ⊢
  have HT := Lib.hid ht
  rcases e0 with ⟨e0, e1⟩ | e0
  · have h2 : ¬ t < 0 := by omega
    have h3 : t = (r : Int) := by omega
    have HE := Lib.hid h3
    clear g0 g1 hR e0 h3
    go_enter Tryd.func22, Tryd.ntmps22
    go_wp2_with fail
    go_ret
    exact ⟨ret_int HE.out, rfl⟩
  · by_cases h2 : t < 0
    · have h3 : t + (m : Int) = (r : Int) := by omega
      have hw : IntKind.i64.wrap (t + (m : Int)) = t + (m : Int) := IntWalk.i64_in _ (by omega)
      have HE := Lib.hid h3
      have b1 : -(m : Int) ≤ t := by omega
      clear g0 g1 hR e0 h3
      go_enter Tryd.func22, Tryd.ntmps22
      go_wp2_with fail
      go_ret
      have hw2 : wrap64 (t + (m : Int)) = t + (m : Int) := (IntWalk.i64_left _).symm.trans hw
      first | exact ⟨ret_int HE.out, rfl⟩ | exact ⟨ret_int (by rw [hw2]; exact HE.out), rfl⟩
    · exact absurd e0 (by omega)

set_option maxHeartbeats 1000000 in
theorem fitted_any {w : World} {A : Option Addr} {n c : Nat} {p : List UInt8} (h : Rda w A c p) (hn : n = p.length) (hl : p.length ≤ 140737488351232) (s : Nat) (hs : s ≤ 8) {ss : Int} (hss : ss = (s : Int)) :
    Calls Tryd.prog 24 #[.slice A n c, .int .i64 ss] w fun e w' => ∃ g, e = .returned (.slice (some ⟨g, 0, none⟩) (24 + 16 * s) (24 + 16 * s)) ∧ New 5 w w' (some ⟨g, 0, none⟩) (24 + 16 * s) (fitL p s) := by
  subst hss
  have HNL := Lib.hid hn
  rw [← hn] at hl
  clear hn
  obtain ⟨Z, hZ⟩ : ∃ Z, 24 + 16 * s = Z := ⟨_, rfl⟩
  have hz2 : (24 : Int) + 16 * (s : Int) = (Z : Int) := by omega
  have hz1 : Z ≤ 152 := by omega
  have HZ2 := Lib.hid hz2
  rw [hZ]
  have HZ := Lib.hid hZ
  have HF0 : Hid (zeroL Z = fitK p Z 0) := Lib.hid (fitK_zero p Z).symm
  have HF1 : Hid (fitL p s = fitK p Z (min Z n)) := Lib.hid (by rw [← hZ]; exact fitK_end p s HNL.out)
  rw [HF1.out]
  clear hZ hz2
  go_enter Tryd.func24, Tryd.ntmps24
  go_wp2_with (with_reducible refine wpList_make8 rfl _ _ rfl tU8 Z rfl rfl HZ2.out HZ2.out (by omega) ?_)
  intro w1 hW hb1
  obtain ⟨SZ, hSZ⟩ : ∃ SZ, w.heap.size = SZ := ⟨_, rfl⟩
  rw [hSZ] at hW ⊢
  have HSZ := Lib.hid hSZ
  clear hSZ
  rw [HF0.out] at hW
  go_wp2_with fail
  go_loopw [6] (fun i wr => ∃ k : Nat, k ≤ Z ∧ k ≤ n ∧ i = .int .i64 k ∧ Whole8 wr SZ 5 (fitK p Z k) ∧ Below w.heap.size w wr) (fun i _ => n - (intOf i).toNat)
  case atStart => exact ⟨0, by omega, by omega, rfl, hW, hb1⟩
  case round =>
    obtain ⟨k, hk, hkn, rfl, hW, hb⟩ := hrel
    have hlen : (fitK p Z k).length = Z := fitK_length p Z k hk (by rw [← HNL.out]; exact hkn)
    by_cases hkt : k < Z
    · by_cases hkn2 : k < n
      · obtain ⟨g, o, rfl, hcc⟩ := h.cells (by rw [← HNL.out]; omega)
        have hck := hcc k (by rw [← HNL.out]; exact hkn2)
        have hck2 := (hb.cell (p := ⟨g, o + k, none⟩) (World.block_lt_of_cell? _ _ hck)).trans hck
        have hc := hW.cell k (by omega)
        have hf := hW.free k
        have m0 : (0 : Int) ≤ (k : Int) := by omega
        have m1 : (k : Int) < (n : Int) := by omega
        have m2 : (k : Int) < (Z : Int) := by omega
        obtain ⟨X, hX⟩ : ∃ X : UInt8, p.getD k 0 = X := ⟨_, rfl⟩
        rw [hX] at hck2
        have hst := hW.stored k X
        have hb2 := hb.grown (cell_grown wr SZ k (.int .u8 (X.toNat : Int))) hb.size (fun q hq => by injection hq with hq; have := HSZ.out; omega)
        rw [fitK_step p Z k X hkt (by rw [← HNL.out]; exact hkn2) hX] at hst
        have HST := Lib.hid hst
        have HB := Lib.hid hb2
        clear hst hW hb hlen hb2 hcc hck hX
        go_wp2_with fail
        go_roundw
        case rel => exact ⟨k + 1, by omega, by omega, by go_num, HST.out, HB.out⟩
        case measure => simp [intOf]; omega
      · have he : k = n := by omega
        subst he
        have hmin := Lib.hid (show min Z k = k by omega)
        have hd : decide ((k : Int) < (k : Int)) = false := by simp
        have hO := hW.own (base := w.heap.size) (by rw [HSZ.out]; exact Nat.le_refl _) (by rw [hlen]; omega)
        rw [hlen] at hO
        have HN : Hid (New 5 w wr (some ⟨SZ, 0, none⟩) Z (fitK p Z k)) := Lib.hid ⟨by rw [hlen]; exact hO, hb⟩
        clear hO hW hb hlen hkn2
        go_wp2_with fail
        go_ret
        exact ⟨SZ, rfl, by rw [hmin.out]; exact HN.out⟩
    · have he : k = Z := by omega
      subst he
      have hmin := Lib.hid (show min k n = k by omega)
      have hd : decide ((k : Int) < (k : Int)) = false := by simp
      have hO := hW.own (base := w.heap.size) (by rw [HSZ.out]; exact Nat.le_refl _) (by rw [hlen]; omega)
      rw [hlen] at hO
      have HN : Hid (New 5 w wr (some ⟨SZ, 0, none⟩) k (fitK p k k)) := Lib.hid ⟨by rw [hlen]; exact hO, hb⟩
      clear hO hW hb hlen hkt
      go_wp2_with fail
      go_ret
      exact ⟨SZ, rfl, by rw [hmin.out]; exact HN.out⟩
end Go.Proofs.YtapoknpakleiiaaDoor

/- append of a named slice of bytes onto a row of bytes of one's own. -/
set_option linter.unusedVariables false
set_option linter.unusedSimpArgs false
namespace Go.Tm
open Go.RowKit
theorem app_type {P : Program} (w : World) {t t2 ty e e2 : TypeId} (h1 : P.underlying t = some (.slice e)) (h2 : P.underlying t2 = some (.slice e2)) (b : Option Addr) (n c : Nat) (x : Value) : (Builtin.append_ #[t, t2] ty #[.slice b n c, x]).run P w = (Builtin.append_ #[t, t] ty #[.slice b n c, x]).run P w := by
  unfold Builtin.append_
  simp [run_underlying h1, run_underlying h2]
theorem wpList_appT {P : Program} {w : World} {ops : Array Oper} {rest : List Oper} {o : Oper} {a : Act} {Q : Exit → Act → World → Prop} (hgd : o.guard = none) (s x : Operand) {t t2 e e2 : TypeId}
    (ho : o.op = .call { callee := .builtin .append, args := #[s, x], argTypes := #[t, t2] }) (hU : U8 P t e) (h2 : P.underlying t2 = some (.slice e2))
    {base : Nat} {v : Value} {l m : List UInt8} (hs : a.eval s = v) (hown : Own8 w base e v l) {A : Option Addr} {n c : Nat} (hx : a.eval x = .slice A n c) (hn : n = m.length) (hm : Rda w A c m)
    (hb : l.length + m.length ≤ 140737488355328) (hbase : base ≤ w.heap.size)
    (h : ∀ v' w', Own8 w' base e v' (l ++ m) → AppTwo w w' v v' → wpList P ops Q rest (a.put o.dst v') w') : wpList P ops Q (o :: rest) a w := by
  subst hn
  refine wpList_plain hgd fun K hK => ?_
  obtain ⟨B, k, rfl, _⟩ := own_rda hown
  obtain ⟨v', w', hrun, h3, h4⟩ := run_app2 (P := P) w (ty := o.type) hU hown hm hb hbase
  rw [← app_type (P := P) w hU.slice h2] at hrun
  unfold Oper.wp execOp
  simp only [ho, resolve, invoke, builtin, Sem.run_bind, Sem.run_pure, Result.andThen_ok, List.map_toArray, List.map_cons, List.map_nil, hs, hx, hrun]
  exact hK _ _ (h v' w' h3 h4)
end Go.Tm
