import Derived.Test.YtaldpngilgaciabDoorFramePure
import Derived.Test.YtaldpngilgaciabDoorCrcInj
/- A frame with one byte turned that is not the length's is none. -/
set_option linter.unusedVariables false
set_option linter.unusedSimpArgs false
namespace Go.Tm

theorem set_split (l : List UInt8) (k : Nat) (b : UInt8) (hk : k < l.length) : l.set k b = l.take k ++ b :: l.drop (k + 1) := by
  rw [List.set_eq_take_append_cons_drop, if_pos hk]
theorem own_split (l : List UInt8) (k : Nat) (hk : k < l.length) : l = l.take k ++ l.getD k 0 :: l.drop (k + 1) := by
  have e : l.getD k 0 = l[k] := by simp [List.getD, hk]
  rw [e, List.getElem_cons_drop hk, List.take_append_drop]
theorem sum_inj {a b : List UInt8} (h : leB 4 (crcM 0 a) = leB 4 (crcM 0 b)) : crcM 0 a = crcM 0 b := by
  have h2 := congrArg leN h
  rw [leN_leB, leN_leB] at h2
  have ha := crcM_lt 0 a (by omega)
  have hb := crcM_lt 0 b (by omega)
  have e : (256 : Nat) ^ 4 = 4294967296 := by decide
  rw [e] at h2
  omega
theorem front_inj {n : Nat} {a b : List UInt8} (hl : a.length = b.length) (h : frontL n a = frontL n b) : a = b := by
  unfold frontL at h
  have h1 := (List.append_inj h (by simp)).2
  exact (List.append_inj h1 (by simp)).2

theorem openB_turned {lsn : Int} {body : List UInt8} (hl : okLsn lsn = true) (hb : okBody body.length = true) (k : Nat) (h4 : 4 ≤ k) (hk : k < body.length + 16) (b : UInt8)
    (hne : b ≠ (frameL lsn.toNat body).getD k 0) : openB ((frameL lsn.toNat body).set k b) lsn = none := by
  cases hh : openB ((frameL lsn.toNat body).set k b) lsn with
  | none => rfl
  | some body' =>
    exfalso
    obtain ⟨_, hb', r, hr⟩ := openB_some hh
    have hfl := frameL_length lsn.toNat body
    have hfl' := frameL_length lsn.toNat body'
    have l1 := frame_len4 lsn.toNat body [] hb
    have l2 := frame_len4 lsn.toNat body' r hb'
    rw [List.append_nil] at l1
    rw [← hr] at l2
    have l3 : getV 4 ((frameL lsn.toNat body).set k b) = getV 4 (frameL lsn.toNat body) := by
      unfold getV
      rw [List.length_set, List.take_set_of_le h4]
    have hlen : body.length = body'.length := by omega
    have hr0 : r = [] := by
      have := congrArg List.length hr
      rw [List.length_set, List.length_append] at this
      exact List.eq_nil_of_length_eq_zero (by omega)
    rw [hr0, List.append_nil] at hr
    have hfr := frontL_length lsn.toNat body
    have hfr' := frontL_length lsn.toNat body'
    rcases Nat.lt_or_ge k (frontL lsn.toNat body).length with hlt | hge
    · rw [frameL, frameL, List.set_append_left _ _ hlt] at hr
      obtain ⟨e1, e2⟩ := List.append_inj hr (by rw [List.length_set]; omega)
      have e3 := sum_inj e2
      rw [← e1, set_split _ _ _ hlt] at e3
      have e4 := own_split (frontL lsn.toNat body) k hlt
      rw [e4] at e3
      have e5 : (frontL lsn.toNat body).take k = ((frontL lsn.toNat body).take k ++ (frontL lsn.toNat body).getD k 0 :: (frontL lsn.toNat body).drop (k + 1)).take k := by rw [← e4]
      have e6 : (frontL lsn.toNat body).drop (k + 1) = ((frontL lsn.toNat body).take k ++ (frontL lsn.toNat body).getD k 0 :: (frontL lsn.toNat body).drop (k + 1)).drop (k + 1) := by rw [← e4]
      rw [← e5, ← e6] at e3
      have e7 := crcM_one _ _ _ _ e3
      apply hne
      rw [← e7, frameL]
      simp [List.getD, List.getElem?_append_left hlt]
    · rw [frameL, frameL, List.set_append_right _ _ hge] at hr
      obtain ⟨e1, e2⟩ := List.append_inj hr (by omega)
      have e3 := front_inj hlen e1
      rw [← e3] at hr
      apply hne
      have e4 := congrArg (fun x => x.getD k 0) hr
      rw [frameL, ← e4]
      simp only [List.getD, List.getElem?_append_right hge]
      rw [List.getElem?_set_self (by rw [leB_length]; omega)]
      rfl
end Go.Tm
