import Derived.Test.YtpmcdooplnmjnaaLaw6c
/- What a crash leaves of one loose write: in plain lists. -/
set_option linter.unusedVariables false
set_option linter.unusedSimpArgs false
namespace Go.Proofs.Ytpmcdooplnmjnaa
open Go.RowKit Go.Tm
set_option maxHeartbeats 400000
set_option maxRecDepth 100000

theorem layR_set {R : List (List UInt8)} {n : Nat} (hn : n < R.length) (u : List UInt8) (x : Wr) (hx : x.pl = n) (m : Nat) (hm : m ≤ x.bs.length) : layR (R.set n u) x m = R.set n (x.bs.take m ++ u.drop m) := by
  unfold layR
  rw [hx, List.set_set]
  congr 1
  have h1 : (R.set n u).getD n [] = u := by simp [List.getD, hn]
  have h2 : (x.bs.take m).length = m := by rw [List.length_take]; omega
  rw [h1]
  simp [layL, h2]
theorem layR_full {R : List (List UInt8)} {n : Nat} (hn : n < R.length) (x : Wr) (hx : x.pl = n) (hl : x.bs.length = (R.getD n []).length) : layR R x x.bs.length = R.set n x.bs := by
  unfold layR
  rw [hx, List.take_length]
  congr 1
  simp [layL, hl]
/-- The states of the statement. -/
structure TearsS (P K M n SZ : Nat) (a b : UInt8) (s1 s2 s3 s4 : DSt) : Prop where
  e1 : writeE (blankS P K M) (n : Int) (repB SZ a) = 0
  w1 : writeS (blankS P K M) (n : Int) (repB SZ a) = s1
  e2 : syncE s1 = 0
  w2 : syncS s1 false = s2
  e3 : syncE s2 = 0
  w3 : syncS s2 true = s3
  e4 : writeE s3 (n : Int) (repB SZ b) = 0
  w4 : writeS s3 (n : Int) (repB SZ b) = s4
  a1 : s1.acts < 10 ∧ s2.acts < 10 ∧ s3.acts < 10 ∧ s4.acts < 10
  l1 : s1.loose.length < 10 ∧ s2.loose.length < 10 ∧ s3.loose.length < 10 ∧ s4.loose.length < 10
  p1 : s1.P = P ∧ s2.P = P ∧ s3.P = P ∧ s4.P = P
  lasts : s4.lasts = (blankR P K).set n (repB SZ a)
  reads : s4.reads = (blankR P K).set n (repB SZ b)
  loose : s4.loose = [⟨decide (P < n), n, repB SZ b⟩]
  log : s4.log = [] ∧ s4.lasted = 0
theorem tears_pure (P K M n : Nat) (a b : UInt8) (hn : n < P + 3) : ∃ s1 s2 s3 s4, TearsS P K M n (sizeD P K n) a b s1 s2 s3 s4 := by
  obtain ⟨SZ, hSZ⟩ : ∃ SZ, sizeD P K n = SZ := ⟨_, rfl⟩
  have hR := blankR_ok P K
  have hnl : n < (blankR P K).length := by rw [hR.len]; exact hn
  have hg := (hR.getD hn).2
  rw [hSZ] at hg ⊢
  have hw0 : wrX (blankS P K M) (n : Int) (repB SZ a) = ⟨decide (P < n), n, repB SZ a⟩ := by simp [wrX, blankS]
  have act0 : actB (blankS P K M) = true := rfl
  have E1 : writeE (blankS P K M) (n : Int) (repB SZ a) = 0 := by
    unfold writeE
    rw [act0, if_neg (by decide), if_neg (by omega), if_neg (by simp [blankS, hSZ, repB_length])]
  obtain ⟨x, hx⟩ : ∃ x : Wr, x = ⟨decide (P < n), n, repB SZ a⟩ := ⟨_, rfl⟩
  have hxl : x.bs.length = SZ := by rw [hx]; exact repB_length _ _
  have S1 : writeS (blankS P K M) (n : Int) (repB SZ a) = ⟨P, K, M, blankR P K, (blankR P K).set n (repB SZ a), [x], [], 0, 1, 0, false⟩ := by
    unfold writeS
    have hl : layR (blankS P K M).reads x (repB SZ a).length = (blankR P K).set n (repB SZ a) := by
      rw [show (repB SZ a).length = x.bs.length by rw [hxl, repB_length], show (blankS P K M).reads = blankR P K from rfl, layR_full hnl x (by rw [hx]) (by rw [hxl, hg]), hx]
    rw [if_pos E1, hw0, ← hx, hl]
    simp [actS, act0]
    simp [blankS]
  obtain ⟨B, hB⟩ : ∃ B, decide (P < n) = B := ⟨_, rfl⟩
  have hxm : x.m = B := by rw [hx]; exact hB
  have hl1 : layAll (blankR P K) [x] = (blankR P K).set n (repB SZ a) := by
    show layR (blankR P K) x x.bs.length = _
    rw [layR_full hnl x (by rw [hx]) (by rw [hxl, hg]), hx]
  have hsame : ∃ s2 s3, syncS ⟨P, K, M, blankR P K, (blankR P K).set n (repB SZ a), [x], [], 0, 1, 0, false⟩ false = s2 ∧ syncS s2 true = s3 ∧ syncE s2 = 0 ∧ s2.acts = 2 ∧ s2.loose.length ≤ 1 ∧ s2.P = P ∧ s3 = ⟨P, K, M, (blankR P K).set n (repB SZ a), (blankR P K).set n (repB SZ a), [], [], 0, 3, 0, false⟩ := by
    refine ⟨_, _, rfl, rfl, ?_⟩
    cases B with
    | false =>
      have e2 : syncS ⟨P, K, M, blankR P K, (blankR P K).set n (repB SZ a), [x], [], 0, 1, 0, false⟩ false = ⟨P, K, M, (blankR P K).set n (repB SZ a), (blankR P K).set n (repB SZ a), [], [], 0, 2, 0, false⟩ := by
        simp [syncS, actB, actS, hxm, hl1]
      rw [e2]
      refine ⟨rfl, rfl, by simp, rfl, ?_⟩
      simp [syncS, actB, actS, layAll]
    | true =>
      have e2 : syncS ⟨P, K, M, blankR P K, (blankR P K).set n (repB SZ a), [x], [], 0, 1, 0, false⟩ false = ⟨P, K, M, blankR P K, (blankR P K).set n (repB SZ a), [x], [], 0, 2, 0, false⟩ := by
        simp [syncS, actB, actS, hxm, layAll]
      rw [e2]
      refine ⟨rfl, rfl, by simp, rfl, ?_⟩
      simp [syncS, actB, actS, hxm, hl1]
  obtain ⟨s2, s3, S2, S3, E3, A2, L2, P2, H3⟩ := hsame
  have E4 : writeE s3 (n : Int) (repB SZ b) = 0 := by
    rw [H3]
    unfold writeE
    rw [show actB ⟨P, K, M, (blankR P K).set n (repB SZ a), (blankR P K).set n (repB SZ a), [], [], 0, 3, 0, false⟩ = true from rfl, if_neg (by decide), if_neg (by omega), if_neg (by simp [hSZ, repB_length])]
  have hw3 : wrX s3 (n : Int) (repB SZ b) = ⟨decide (P < n), n, repB SZ b⟩ := by rw [H3]; simp [wrX]
  have S4 : writeS s3 (n : Int) (repB SZ b) = ⟨P, K, M, (blankR P K).set n (repB SZ a), (blankR P K).set n (repB SZ b), [⟨decide (P < n), n, repB SZ b⟩], [], 0, 4, 0, false⟩ := by
    unfold writeS
    rw [if_pos E4, hw3, H3]
    have hl : layR ((blankR P K).set n (repB SZ a)) ⟨decide (P < n), n, repB SZ b⟩ (repB SZ b).length = (blankR P K).set n (repB SZ b) := by
      rw [layR_set hnl _ _ rfl _ (Nat.le_refl _)]
      simp [repB]
    rw [hl]
    simp [actS, actB]
  refine ⟨_, s2, s3, _, E1, S1, rfl, S2, E3, S3, E4, S4, ?_, ?_, ?_, rfl, rfl, rfl, rfl, rfl⟩
  · rw [A2, H3]; exact ⟨(by decide : (1 : Nat) < 10), by decide, (by decide : (3 : Nat) < 10), (by decide : (4 : Nat) < 10)⟩
  · rw [H3]; simp; omega
  · rw [H3]; exact ⟨rfl, P2, rfl, rfl⟩
theorem tears_crash {P K M n SZ : Nat} {a b : UInt8} {s1 s2 s3 s4 : DSt} (h : TearsS P K M n SZ a b s1 s2 s3 s4) (hn : n < P + 3) (k : Int) :
    (crashS s4 0 [k]).lasts = (blankR P K).set n (repB (keepN k SZ) b ++ repB (SZ - keepN k SZ) a) ∧ (crashS s4 0 [k]).reads = (crashS s4 0 [k]).lasts ∧ (crashS s4 0 [k]).log = [] ∧ (crashS s4 0 [k]).lasted = 0 ∧ (crashS s4 0 [k]).P = P := by
  have hnl : n < (blankR P K).length := by rw [(blankR_ok P K).len]; exact hn
  refine ⟨?_, rfl, by simp [crashS, h.log.1], ?_, h.p1.2.2.2⟩
  · show crashR s4.lasts s4.loose [k] 0 = _
    rw [h.lasts, h.loose]
    show layR _ _ (keepN (keepI [k] 0) (repB SZ b).length) = _
    have hk : keepI [k] 0 = k := by simp [keepI]
    have hle : keepN k SZ ≤ SZ := by
      unfold keepN
      split
      · omega
      · split
        · omega
        · have : (k - 1).toNat % (SZ + 1) < SZ + 1 := Nat.mod_lt _ (by omega)
          omega
    rw [hk, repB_length, layR_set hnl _ _ rfl _ (by rw [repB_length]; exact hle)]
    congr 1
    simp [repB, Nat.min_eq_left hle]
  · show crashN s4 0 = 0
    simp [crashN, restI, h.log.1, h.log.2]
theorem ImgR.below {w w' : World} {χ χ' : Col} {j P g : Nat} {v lv : Value} {rows : List (List UInt8)} {log : List UInt8} {vs : List Value} (h : ImgR w χ j v P rows log g vs lv) (hx : Ext w.heap.size χ χ') (hb : Below w.heap.size w w') : ImgR w' χ' j v P rows log g vs lv :=
  ⟨h.val, h.len, h.ground.below hx hb, h.log.ext hx fun q hq _ => hb.block q hq⟩
/-- append of bytes onto a row of one's own, as one step of a region that draws its order. -/
theorem step_app8 {P : Program} {ops : Array Oper} {o : Oper} {a : Act} {w : World} {K : Act → World → Prop} {Q : Exit → Act → World → Prop} {E : Prop}
    (hg : o.guard = none) (s x : Operand) {t e : TypeId} (hop : o.op = Op.call { callee := Callee.builtin Builtin.append, args := #[s, x], argTypes := #[t, t] }) (hU : U8 P t e)
    {base : Nat} {v : Value} {l m : List UInt8} (hs : a.eval s = v) (hown : Own8 w base e v l) {A : Option Addr} {n c : Nat} (hx : a.eval x = .slice A n c) (hn : n = m.length) (hm : Rda w A c m)
    (hb : l.length + m.length ≤ 140737488355328) (hbase : base ≤ w.heap.size)
    (hK : ∀ v' w', Own8 w' base e v' (l ++ m) → w.grownBy w' v.ownBlock → K (a.put o.dst v') w') :
    if Region.wanted o (yielded ops a.tmps) = true then Oper.wp P o a w K Q else E := by
  subst hn
  have hw : Region.wanted o (yielded ops a.tmps) = true := by simp [Region.wanted, hg]
  rw [if_pos hw]
  obtain ⟨v', w', hrun, h2, h3⟩ := run_app (P := P) w (ty := o.type) hU hown hm hb hbase
  unfold Oper.wp
  simp [execOp, hop, resolve, invoke, builtin, hs, hx, hrun, Result.andThen]
  exact hK v' w' h2 h3
/-- A row of an image. -/
theorem ImgR.rowAt {w : World} {χ : Col} {j P g n : Nat} {v lv : Value} {R : List (List UInt8)} {u log : List UInt8} {vs : List Value} (h : ImgR w χ j v P (R.set n u) log g vs lv) (hn : n < P + 3) {SZ : Nat} (hu : u.length = SZ) : ∃ b k, vs.getD n undef = .slice (some ⟨b, 0, none⟩) SZ k ∧ vs[n]? = some (.slice (some ⟨b, 0, none⟩) SZ k) ∧ χ b = (j, 100 + 1 + n) ∧ Own8 w 0 5 (.slice (some ⟨b, 0, none⟩) SZ k) u := by
  have hl : n < R.length := by have := h.len; rw [List.length_set] at this; omega
  have hg : (R.set n u).getD n [] = u := by simp [List.getD, hl]
  obtain ⟨b, k, _, h2, h3, h4⟩ := h.ground.cell hn
  rw [hg, hu] at h2 h4
  exact ⟨b, k, by simp [List.getD, h2], h2, h3, h4⟩
theorem mix_set {B O : List UInt8} {q : Nat} (h1 : q < B.length) (h2 : q < O.length) : (B.take q ++ O.drop q).set q (B.getD q 0) = B.take (q + 1) ++ O.drop (q + 1) := by
  have hl : (B.take q).length = q := by rw [List.length_take]; omega
  rw [List.set_append, if_neg (by omega), hl, Nat.sub_self, List.drop_eq_getElem_cons h2, List.set_cons_zero, List.take_succ_eq_append_getElem h1, List.append_assoc]
  simp [List.getD, h1]
theorem touch_row {w w' : World} {χ : Col} {j r : Nat} (hg : w.grownBy w' (some r)) (hr : (χ r).1 = j) : Touch w w' χ χ j :=
  ⟨⟨hg.os, hg.tape, hg.output, hg.size, fun k hk hn => hg.block k hk (fun e => hn (by injection e with e; rw [e]; exact hr))⟩, Ext.refl _ _⟩
theorem ImgR.touch {w w' : World} {χ χ' : Col} {i j P g : Nat} {v lv : Value} {rows : List (List UInt8)} {log : List UInt8} {vs : List Value} (h : ImgR w χ i v P rows log g vs lv) (ht : Touch w w' χ χ' j) (hij : j ≠ i) : ImgR w' χ' i v P rows log g vs lv :=
  ⟨h.val, h.len, h.ground.ext ht.ext fun q hq hc _ _ => ht.kept.block q hq (fun e => hij (e.symm.trans hc)), h.log.ext ht.ext fun q hq hc => ht.kept.block q hq (fun e => hij (e.symm.trans (by rw [hc])))⟩
/-- A row of an image is written over. -/
theorem ImgR.lay {w w' : World} {χ : Col} {j P g n b k SZ : Nat} {v lv : Value} {R : List (List UInt8)} {u r log : List UInt8} {vs : List Value} (h : ImgR w χ j v P (R.set n u) log g vs lv) (hn : n < P + 3) (hu : u.length = SZ) (hv : vs[n]? = some (.slice (some ⟨b, 0, none⟩) SZ k)) (hc : χ b = (j, 100 + 1 + n)) (ho : Own8 w' 0 5 (.slice (some ⟨b, 0, none⟩) SZ k) r) (hg : w.grownBy w' (some b)) :
    ImgR w' χ j v P (R.set n r) log g vs lv := by
  have hl : n < R.length := by have := h.len; rw [List.length_set] at this; exact (by omega : n < R.length)
  have hgd : (R.set n u).getD n [] = u := by simp [List.getD, hl]
  have hG := h.ground.lay (i := n) (r := r) hn (by rw [hgd, hu]; exact hv) (by rw [hgd, hu]; exact ho) hg
  rw [List.set_set] at hG
  exact ⟨h.val, by rw [List.length_set]; have := h.len; rwa [List.length_set] at this, hG, h.log.ext (Ext.refl _ _) fun q hq hq5 => hg.block q hq (fun e => by
    injection e with e
    rw [e, hc] at hq5
    injection hq5 with _ hq5
    omega)⟩
theorem row_type {w w' : World} {r S : Nat} {T T' : TypeId} {n c : Nat} {l : List UInt8} {cs : List Value} (ho : Own8 w 0 T (.slice (some ⟨r, 0, none⟩) n c) l) (hr : RowC w S T' cs) (hT : T' ≠ T) (hg : w.grownBy w' (some r)) : RowC w' S T' cs :=
  hr.grown hg fun e => by
    injection e with e
    obtain ⟨cur, hcur⟩ := own8_block_type ho (g := r) rfl
    unfold RowC at hr
    rw [← e, hcur] at hr
    injection hr with hr
    injection hr with _ hr _
    exact hT hr.symm
end Go.Proofs.Ytpmcdooplnmjnaa
