/-
  No cell of these rows narrows 'for every input' (looked for: loops, veiled, ifaces, maps, wideKeys, modest, calm, conditions, laid).
  DERIVED. THE GIVEN ROWS OF THIS SEAT. 7 by the template 'for every input the law returns true; each argument reads behind the call as it read before'; 0 by the template 'total and deterministic' (their statements: YtaldpngilgaciaaTotals.lean).
  GIVEN WITH THE SEED: the statements are not yours to turn. If you find one false, say at which input.
  Laid BY PROGRAM, IN A SANDBOX (cutbox-rows.mjs): the forced cells as the released guide's own fill.sh prints them over the translation bf1ace73b871c2f7… (all of the seat's roots in one cut). By AI agents, Wed Nov 11 2026. No macro, syntax, notation, axiom, sorry.
-/
import Derived.Test.YtaldpngilgaciaaChecked
import GoSem.Claim
import GoSem.ClaimJoined
import GoSem.ClaimMapViews
import Derived.JoinedTies
import Derived.KernelRfl
namespace Go.Proofs.Ytaldpngilgaciaa
/- THE CELL 'sum', in the pinned program and in every row, IS THE sha256 OF THE DUMP (.gsa) THAT YtaldpngilgaciaaProg.lean LOADS. Nothing in Lean hashes anything: it is a label: what it is worth is what the hold of that sum in a sandbox is worth. -/
noncomputable def Try.pinned : Pinned := { name := "ytaldpngilgaciaa", sum := "bf1ace73b871c2f7c749aec4e6aa493da2ba7cc4f310cb6d43de7595c893b2bc", checked := Try.checked }
namespace Rows
def none {H : Type} : Left H := { results := [], args := [] }

/-- 'tidemarklaw01.OctetPuts': WHATEVER THE INPUT: true; the input reads as it did. -/
def octetPutsSpec : ChangeSpec := { name := "octetPuts", fn := fun _ => fun
  | [d1, d2] => { results := [.lit (.bool true)], args := [d1, d2] }
  | _ => none }
def octetPutsRow : OpenClaim := { program := "ytaldpngilgaciaa", sum := "bf1ace73b871c2f7c749aec4e6aa493da2ba7cc4f310cb6d43de7595c893b2bc", func := "tidemark/tidemarklaw01.OctetPuts", spec := "octetPuts", apart := false }
def OctetPutsSaid : Prop := octetPutsRow.holds Try.pinned (OpenSpec.ofChange octetPutsSpec)

/-- ITS FALSE NEIGHBOUR: 'it returns false'. Refute it at one input. -/
def octetPutsWrong : ChangeSpec := { name := "octetPuts", fn := fun _ => fun
  | [d1, d2] => { results := [.lit (.bool false)], args := [d1, d2] }
  | _ => none }
def OctetPutsWrongFalsely : Prop := octetPutsRow.holds Try.pinned (OpenSpec.ofChange octetPutsWrong)

/-- 'tidemarklaw01.OctetJoins': WHATEVER THE INPUT: true; the input reads as it did. -/
def octetJoinsSpec : ChangeSpec := { name := "octetJoins", fn := fun _ => fun
  | [d] => { results := [.lit (.bool true)], args := [d] }
  | _ => none }
def octetJoinsRow : OpenClaim := { program := "ytaldpngilgaciaa", sum := "bf1ace73b871c2f7c749aec4e6aa493da2ba7cc4f310cb6d43de7595c893b2bc", func := "tidemark/tidemarklaw01.OctetJoins", spec := "octetJoins", apart := false }
def OctetJoinsSaid : Prop := octetJoinsRow.holds Try.pinned (OpenSpec.ofChange octetJoinsSpec)

/-- ITS FALSE NEIGHBOUR: 'it returns false'. Refute it at one input. -/
def octetJoinsWrong : ChangeSpec := { name := "octetJoins", fn := fun _ => fun
  | [d] => { results := [.lit (.bool false)], args := [d] }
  | _ => none }
def OctetJoinsWrongFalsely : Prop := octetJoinsRow.holds Try.pinned (OpenSpec.ofChange octetJoinsWrong)

/-- 'tidemarklaw01.OctetFresh': WHATEVER THE INPUT: true; the input reads as it did. -/
def octetFreshSpec : ChangeSpec := { name := "octetFresh", fn := fun _ => fun
  | [d1, d2, d3] => { results := [.lit (.bool true)], args := [d1, d2, d3] }
  | _ => none }
def octetFreshRow : OpenClaim := { program := "ytaldpngilgaciaa", sum := "bf1ace73b871c2f7c749aec4e6aa493da2ba7cc4f310cb6d43de7595c893b2bc", func := "tidemark/tidemarklaw01.OctetFresh", spec := "octetFresh", apart := false }
def OctetFreshSaid : Prop := octetFreshRow.holds Try.pinned (OpenSpec.ofChange octetFreshSpec)

/-- ITS FALSE NEIGHBOUR: 'it returns false'. Refute it at one input. -/
def octetFreshWrong : ChangeSpec := { name := "octetFresh", fn := fun _ => fun
  | [d1, d2, d3] => { results := [.lit (.bool false)], args := [d1, d2, d3] }
  | _ => none }
def OctetFreshWrongFalsely : Prop := octetFreshRow.holds Try.pinned (OpenSpec.ofChange octetFreshWrong)

/-- 'tidemarklaw01.OctetBack': WHATEVER THE INPUT: true; the input reads as it did. -/
def octetBackSpec : ChangeSpec := { name := "octetBack", fn := fun _ => fun
  | [d1, d2] => { results := [.lit (.bool true)], args := [d1, d2] }
  | _ => none }
def octetBackRow : OpenClaim := { program := "ytaldpngilgaciaa", sum := "bf1ace73b871c2f7c749aec4e6aa493da2ba7cc4f310cb6d43de7595c893b2bc", func := "tidemark/tidemarklaw01.OctetBack", spec := "octetBack", apart := false }
def OctetBackSaid : Prop := octetBackRow.holds Try.pinned (OpenSpec.ofChange octetBackSpec)

/-- ITS FALSE NEIGHBOUR: 'it returns false'. Refute it at one input. -/
def octetBackWrong : ChangeSpec := { name := "octetBack", fn := fun _ => fun
  | [d1, d2] => { results := [.lit (.bool false)], args := [d1, d2] }
  | _ => none }
def OctetBackWrongFalsely : Prop := octetBackRow.holds Try.pinned (OpenSpec.ofChange octetBackWrong)

/-- 'tidemarklaw01.OctetRows': WHATEVER THE INPUT: true; the input reads as it did. -/
def octetRowsSpec : ChangeSpec := { name := "octetRows", fn := fun _ => fun
  | [d] => { results := [.lit (.bool true)], args := [d] }
  | _ => none }
def octetRowsRow : OpenClaim := { program := "ytaldpngilgaciaa", sum := "bf1ace73b871c2f7c749aec4e6aa493da2ba7cc4f310cb6d43de7595c893b2bc", func := "tidemark/tidemarklaw01.OctetRows", spec := "octetRows", apart := false }
def OctetRowsSaid : Prop := octetRowsRow.holds Try.pinned (OpenSpec.ofChange octetRowsSpec)

/-- ITS FALSE NEIGHBOUR: 'it returns false'. Refute it at one input. -/
def octetRowsWrong : ChangeSpec := { name := "octetRows", fn := fun _ => fun
  | [d] => { results := [.lit (.bool false)], args := [d] }
  | _ => none }
def OctetRowsWrongFalsely : Prop := octetRowsRow.holds Try.pinned (OpenSpec.ofChange octetRowsWrong)

/-- 'tidemarklaw01.OctetRefuses': WHATEVER THE INPUT: true; the input reads as it did. -/
def octetRefusesSpec : ChangeSpec := { name := "octetRefuses", fn := fun _ => fun
  | [d1, d2, d3] => { results := [.lit (.bool true)], args := [d1, d2, d3] }
  | _ => none }
def octetRefusesRow : OpenClaim := { program := "ytaldpngilgaciaa", sum := "bf1ace73b871c2f7c749aec4e6aa493da2ba7cc4f310cb6d43de7595c893b2bc", func := "tidemark/tidemarklaw01.OctetRefuses", spec := "octetRefuses", apart := false }
def OctetRefusesSaid : Prop := octetRefusesRow.holds Try.pinned (OpenSpec.ofChange octetRefusesSpec)

/-- ITS FALSE NEIGHBOUR: 'it returns false'. Refute it at one input. -/
def octetRefusesWrong : ChangeSpec := { name := "octetRefuses", fn := fun _ => fun
  | [d1, d2, d3] => { results := [.lit (.bool false)], args := [d1, d2, d3] }
  | _ => none }
def OctetRefusesWrongFalsely : Prop := octetRefusesRow.holds Try.pinned (OpenSpec.ofChange octetRefusesWrong)

/-- 'tidemarklaw01.OctetReads': WHATEVER THE INPUT: true; the input reads as it did. -/
def octetReadsSpec : ChangeSpec := { name := "octetReads", fn := fun _ => fun
  | [d1, d2, d3] => { results := [.lit (.bool true)], args := [d1, d2, d3] }
  | _ => none }
def octetReadsRow : OpenClaim := { program := "ytaldpngilgaciaa", sum := "bf1ace73b871c2f7c749aec4e6aa493da2ba7cc4f310cb6d43de7595c893b2bc", func := "tidemark/tidemarklaw01.OctetReads", spec := "octetReads", apart := false }
def OctetReadsSaid : Prop := octetReadsRow.holds Try.pinned (OpenSpec.ofChange octetReadsSpec)

/-- ITS FALSE NEIGHBOUR: 'it returns false'. Refute it at one input. -/
def octetReadsWrong : ChangeSpec := { name := "octetReads", fn := fun _ => fun
  | [d1, d2, d3] => { results := [.lit (.bool false)], args := [d1, d2, d3] }
  | _ => none }
def OctetReadsWrongFalsely : Prop := octetReadsRow.holds Try.pinned (OpenSpec.ofChange octetReadsWrong)

/- THE SECOND FORM. 'bulk': how many values and letters a reading holds, each counted each time it is reached (what is shared counts as often as it is met; a slice's spare places count too). A statement '..UptoSaid' is the law's where the arguments, and the package variables that the reading takes, are together of bulk at most 1048576: NARROWER than '..Said'. Prove '..Said' where nothing that the law and all that it calls make is longer than what came in: it says more and counts as full. Else prove '..UptoSaid'. A law counts once. -/
mutual
def uptoBulk {H : Type} : DataW H → Nat
  | .lit (.string bytes) => bytes.length + 1
  | .lit _ => 1
  | .nil => 1
  | .ptr d => uptoBulk d + 1
  | .slice elems spare => uptoBulkAll elems + uptoBulkAll spare + 1
  | .agg parts => uptoBulkAll parts + 1
  | .iface _ d => uptoBulk d + 1
  | .map entries => uptoBulkEntries entries + 1
  | .held _ => 1
def uptoBulkAll {H : Type} : List (DataW H) → Nat
  | [] => 0
  | d :: r => uptoBulk d + uptoBulkAll r
def uptoBulkEntries {H : Type} : List (Lit × DataW H) → Nat
  | [] => 0
  | x :: r => uptoBulkEntry x + uptoBulkEntries r
def uptoBulkEntry {H : Type} : Lit × DataW H → Nat
  | (.string bytes, d) => bytes.length + uptoBulk d + 1
  | (_, d) => uptoBulk d + 1
 end
def uptoSmall : (H : Type) → List (DataW H) → Bool := fun _ ds => decide (uptoBulkAll ds ≤ 1048576)
def OpenSpec.upto (s : _root_.Go.ChangeSpec) : _root_.Go.OpenSpec := { _root_.Go.OpenSpec.ofChange s with cond := some uptoSmall }

/-- 'tidemarklaw01.OctetPuts', WHERE WHAT IT READS IS OF BULK AT MOST 1048576: true; the input reads as it did. -/
def octetPutsUptoRow : OpenClaim := { program := "ytaldpngilgaciaa", sum := "bf1ace73b871c2f7c749aec4e6aa493da2ba7cc4f310cb6d43de7595c893b2bc", func := "tidemark/tidemarklaw01.OctetPuts", spec := "octetPuts", apart := false, narrowed := true }
def OctetPutsUptoSaid : Prop := octetPutsUptoRow.holds Try.pinned (OpenSpec.upto octetPutsSpec)

/-- 'tidemarklaw01.OctetJoins', WHERE WHAT IT READS IS OF BULK AT MOST 1048576: true; the input reads as it did. -/
def octetJoinsUptoRow : OpenClaim := { program := "ytaldpngilgaciaa", sum := "bf1ace73b871c2f7c749aec4e6aa493da2ba7cc4f310cb6d43de7595c893b2bc", func := "tidemark/tidemarklaw01.OctetJoins", spec := "octetJoins", apart := false, narrowed := true }
def OctetJoinsUptoSaid : Prop := octetJoinsUptoRow.holds Try.pinned (OpenSpec.upto octetJoinsSpec)

/-- 'tidemarklaw01.OctetFresh', WHERE WHAT IT READS IS OF BULK AT MOST 1048576: true; the input reads as it did. -/
def octetFreshUptoRow : OpenClaim := { program := "ytaldpngilgaciaa", sum := "bf1ace73b871c2f7c749aec4e6aa493da2ba7cc4f310cb6d43de7595c893b2bc", func := "tidemark/tidemarklaw01.OctetFresh", spec := "octetFresh", apart := false, narrowed := true }
def OctetFreshUptoSaid : Prop := octetFreshUptoRow.holds Try.pinned (OpenSpec.upto octetFreshSpec)

/-- 'tidemarklaw01.OctetBack', WHERE WHAT IT READS IS OF BULK AT MOST 1048576: true; the input reads as it did. -/
def octetBackUptoRow : OpenClaim := { program := "ytaldpngilgaciaa", sum := "bf1ace73b871c2f7c749aec4e6aa493da2ba7cc4f310cb6d43de7595c893b2bc", func := "tidemark/tidemarklaw01.OctetBack", spec := "octetBack", apart := false, narrowed := true }
def OctetBackUptoSaid : Prop := octetBackUptoRow.holds Try.pinned (OpenSpec.upto octetBackSpec)

/-- 'tidemarklaw01.OctetRows', WHERE WHAT IT READS IS OF BULK AT MOST 1048576: true; the input reads as it did. -/
def octetRowsUptoRow : OpenClaim := { program := "ytaldpngilgaciaa", sum := "bf1ace73b871c2f7c749aec4e6aa493da2ba7cc4f310cb6d43de7595c893b2bc", func := "tidemark/tidemarklaw01.OctetRows", spec := "octetRows", apart := false, narrowed := true }
def OctetRowsUptoSaid : Prop := octetRowsUptoRow.holds Try.pinned (OpenSpec.upto octetRowsSpec)

/-- 'tidemarklaw01.OctetRefuses', WHERE WHAT IT READS IS OF BULK AT MOST 1048576: true; the input reads as it did. -/
def octetRefusesUptoRow : OpenClaim := { program := "ytaldpngilgaciaa", sum := "bf1ace73b871c2f7c749aec4e6aa493da2ba7cc4f310cb6d43de7595c893b2bc", func := "tidemark/tidemarklaw01.OctetRefuses", spec := "octetRefuses", apart := false, narrowed := true }
def OctetRefusesUptoSaid : Prop := octetRefusesUptoRow.holds Try.pinned (OpenSpec.upto octetRefusesSpec)

/-- 'tidemarklaw01.OctetReads', WHERE WHAT IT READS IS OF BULK AT MOST 1048576: true; the input reads as it did. -/
def octetReadsUptoRow : OpenClaim := { program := "ytaldpngilgaciaa", sum := "bf1ace73b871c2f7c749aec4e6aa493da2ba7cc4f310cb6d43de7595c893b2bc", func := "tidemark/tidemarklaw01.OctetReads", spec := "octetReads", apart := false, narrowed := true }
def OctetReadsUptoSaid : Prop := octetReadsUptoRow.holds Try.pinned (OpenSpec.upto octetReadsSpec)

end Rows
end Go.Proofs.Ytaldpngilgaciaa
