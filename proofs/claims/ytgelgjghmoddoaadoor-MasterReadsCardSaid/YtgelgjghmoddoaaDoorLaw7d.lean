import Derived.Test.YtgelgjghmoddoaaDoorLaw7c
/- What is spoilt: some bytes. -/
set_option linter.unusedVariables false
set_option linter.unusedSimpArgs false
namespace Go.Proofs.YtgelgjghmoddoaaDoor
open Go.RowKit Go.Tm
set_option maxHeartbeats 400000
set_option maxRecDepth 100000

theorem spoilt_any {w : World} (t b c : Int) (at_ more : Int) (sm tn : Bool) {A : Option Addr} {n c' : Nat} {q : List UInt8} (hq : Rda w A c' q) (hn : n = q.length) (hql : q.length ≤ 140737488351232) (ha0 : -9223372036854775808 ≤ at_) (ha1 : at_ ≤ 9223372036854775807) :
    Calls Tryd.prog 14 #[.agg #[.int .i64 t, .int .i64 b, .int .i64 c], .agg #[.int .i64 at_, .int .i64 more, .bool sm, .bool tn, .slice A n c']] w fun e w' => ∃ A' c'' l, e = .returned (.slice A' l.length c'') ∧ l.length ≤ q.length + 40 ∧ New 5 w w' A' c'' l := by
  by_cases hcase : mayB t b c = false ∨ 0 < q.length
  · exact (spoilt_copy t b c at_ more sm tn hq hn hql hcase).mono fun e w' ⟨A', c'', he, hN⟩ => ⟨A', c'', q, he, by omega, hN⟩
  · have hm : mayB t b c = true := by
      cases h : mayB t b c with
      | false => exact absurd (.inl h) hcase
      | true => rfl
    have h0 : n = 0 := by
      have : ¬ 0 < q.length := fun h => hcase (.inr h)
      omega
    subst h0
    exact (spoilt_main t b c at_ more sm tn hm ha0 ha1).mono fun e w' ⟨A', c'', l, he, hl, hN⟩ => ⟨A', c'', l, he, by omega, hN⟩
end Go.Proofs.YtgelgjghmoddoaaDoor
