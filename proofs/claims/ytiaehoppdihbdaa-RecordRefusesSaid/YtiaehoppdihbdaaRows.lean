/-
  No cell of these rows narrows 'for every input' (looked for: loops, veiled, ifaces, maps, wideKeys, modest, calm, conditions, laid).
  DERIVED. THE GIVEN ROWS OF THIS SEAT. 6 by the template 'for every input the law returns true; each argument reads behind the call as it read before'; 0 by the template 'total and deterministic' (their statements: YtiaehoppdihbdaaTotals.lean).
  GIVEN WITH THE SEED: the statements are not yours to turn. If you find one false, say at which input.
  Laid BY PROGRAM, IN A SANDBOX (cutbox-rows.mjs): the forced cells as the released guide's own fill.sh prints them over the translation a880b51b7b399a95… (all of the seat's roots in one cut). By AI agents, Wed Nov 11 2026. No macro, syntax, notation, axiom, sorry.
-/
import Derived.Test.YtiaehoppdihbdaaChecked
import GoSem.Claim
import GoSem.ClaimJoined
import GoSem.ClaimMapViews
import Derived.JoinedTies
import Derived.KernelRfl
namespace Go.Proofs.Ytiaehoppdihbdaa
/- THE CELL 'sum', in the pinned program and in every row, IS THE sha256 OF THE DUMP (.gsa) THAT YtiaehoppdihbdaaProg.lean LOADS. Nothing in Lean hashes anything: it is a label: what it is worth is what the hold of that sum in a sandbox is worth. -/
noncomputable def Try.pinned : Pinned := { name := "ytiaehoppdihbdaa", sum := "a880b51b7b399a95a51e0e739a228126d82cfea51f3f15bc917a3ac20d886351", checked := Try.checked }
namespace Rows
def none {H : Type} : Left H := { results := [], args := [] }

/-- 'tidemarklaw09.RecordForms': WHATEVER THE INPUT: true; the input reads as it did. -/
def recordFormsSpec : ChangeSpec := { name := "recordForms", fn := fun _ => fun
  | [d] => { results := [.lit (.bool true)], args := [d] }
  | _ => none }
def recordFormsRow : OpenClaim := { program := "ytiaehoppdihbdaa", sum := "a880b51b7b399a95a51e0e739a228126d82cfea51f3f15bc917a3ac20d886351", func := "tidemark/tidemarklaw09.RecordForms", spec := "recordForms", unfollowed := true, recurses := true, apart := false }
def RecordFormsSaid : Prop := recordFormsRow.holds Try.pinned (OpenSpec.ofChange recordFormsSpec)

/-- ITS FALSE NEIGHBOUR: 'it returns false'. Refute it at one input. -/
def recordFormsWrong : ChangeSpec := { name := "recordForms", fn := fun _ => fun
  | [d] => { results := [.lit (.bool false)], args := [d] }
  | _ => none }
def RecordFormsWrongFalsely : Prop := recordFormsRow.holds Try.pinned (OpenSpec.ofChange recordFormsWrong)

/-- 'tidemarklaw09.RecordReads': WHATEVER THE INPUT: true; the input reads as it did. -/
def recordReadsSpec : ChangeSpec := { name := "recordReads", fn := fun _ => fun
  | [d] => { results := [.lit (.bool true)], args := [d] }
  | _ => none }
def recordReadsRow : OpenClaim := { program := "ytiaehoppdihbdaa", sum := "a880b51b7b399a95a51e0e739a228126d82cfea51f3f15bc917a3ac20d886351", func := "tidemark/tidemarklaw09.RecordReads", spec := "recordReads", unfollowed := true, recurses := true, apart := false }
def RecordReadsSaid : Prop := recordReadsRow.holds Try.pinned (OpenSpec.ofChange recordReadsSpec)

/-- ITS FALSE NEIGHBOUR: 'it returns false'. Refute it at one input. -/
def recordReadsWrong : ChangeSpec := { name := "recordReads", fn := fun _ => fun
  | [d] => { results := [.lit (.bool false)], args := [d] }
  | _ => none }
def RecordReadsWrongFalsely : Prop := recordReadsRow.holds Try.pinned (OpenSpec.ofChange recordReadsWrong)

/-- 'tidemarklaw09.RecordBack': WHATEVER THE INPUT: true; the input reads as it did. -/
def recordBackSpec : ChangeSpec := { name := "recordBack", fn := fun _ => fun
  | [d1, d2] => { results := [.lit (.bool true)], args := [d1, d2] }
  | _ => none }
def recordBackRow : OpenClaim := { program := "ytiaehoppdihbdaa", sum := "a880b51b7b399a95a51e0e739a228126d82cfea51f3f15bc917a3ac20d886351", func := "tidemark/tidemarklaw09.RecordBack", spec := "recordBack", unfollowed := true, recurses := true, apart := false }
def RecordBackSaid : Prop := recordBackRow.holds Try.pinned (OpenSpec.ofChange recordBackSpec)

/-- ITS FALSE NEIGHBOUR: 'it returns false'. Refute it at one input. -/
def recordBackWrong : ChangeSpec := { name := "recordBack", fn := fun _ => fun
  | [d1, d2] => { results := [.lit (.bool false)], args := [d1, d2] }
  | _ => none }
def RecordBackWrongFalsely : Prop := recordBackRow.holds Try.pinned (OpenSpec.ofChange recordBackWrong)

/-- 'tidemarklaw09.RecordCuts': WHATEVER THE INPUT: true; the input reads as it did. -/
def recordCutsSpec : ChangeSpec := { name := "recordCuts", fn := fun _ => fun
  | [d1, d2, d3] => { results := [.lit (.bool true)], args := [d1, d2, d3] }
  | _ => none }
def recordCutsRow : OpenClaim := { program := "ytiaehoppdihbdaa", sum := "a880b51b7b399a95a51e0e739a228126d82cfea51f3f15bc917a3ac20d886351", func := "tidemark/tidemarklaw09.RecordCuts", spec := "recordCuts", unfollowed := true, recurses := true, apart := false }
def RecordCutsSaid : Prop := recordCutsRow.holds Try.pinned (OpenSpec.ofChange recordCutsSpec)

/-- ITS FALSE NEIGHBOUR: 'it returns false'. Refute it at one input. -/
def recordCutsWrong : ChangeSpec := { name := "recordCuts", fn := fun _ => fun
  | [d1, d2, d3] => { results := [.lit (.bool false)], args := [d1, d2, d3] }
  | _ => none }
def RecordCutsWrongFalsely : Prop := recordCutsRow.holds Try.pinned (OpenSpec.ofChange recordCutsWrong)

/-- 'tidemarklaw09.RecordRefuses': WHATEVER THE INPUT: true; the input reads as it did. -/
def recordRefusesSpec : ChangeSpec := { name := "recordRefuses", fn := fun _ => fun
  | [d1, d2] => { results := [.lit (.bool true)], args := [d1, d2] }
  | _ => none }
def recordRefusesRow : OpenClaim := { program := "ytiaehoppdihbdaa", sum := "a880b51b7b399a95a51e0e739a228126d82cfea51f3f15bc917a3ac20d886351", func := "tidemark/tidemarklaw09.RecordRefuses", spec := "recordRefuses", unfollowed := true, recurses := true, apart := false }
def RecordRefusesSaid : Prop := recordRefusesRow.holds Try.pinned (OpenSpec.ofChange recordRefusesSpec)

/-- ITS FALSE NEIGHBOUR: 'it returns false'. Refute it at one input. -/
def recordRefusesWrong : ChangeSpec := { name := "recordRefuses", fn := fun _ => fun
  | [d1, d2] => { results := [.lit (.bool false)], args := [d1, d2] }
  | _ => none }
def RecordRefusesWrongFalsely : Prop := recordRefusesRow.holds Try.pinned (OpenSpec.ofChange recordRefusesWrong)

/-- 'tidemarklaw09.RecordKeeps': WHATEVER THE INPUT: true; the input reads as it did. -/
def recordKeepsSpec : ChangeSpec := { name := "recordKeeps", fn := fun _ => fun
  | [d1, d2] => { results := [.lit (.bool true)], args := [d1, d2] }
  | _ => none }
def recordKeepsRow : OpenClaim := { program := "ytiaehoppdihbdaa", sum := "a880b51b7b399a95a51e0e739a228126d82cfea51f3f15bc917a3ac20d886351", func := "tidemark/tidemarklaw09.RecordKeeps", spec := "recordKeeps", unfollowed := true, recurses := true, apart := false }
def RecordKeepsSaid : Prop := recordKeepsRow.holds Try.pinned (OpenSpec.ofChange recordKeepsSpec)

/-- ITS FALSE NEIGHBOUR: 'it returns false'. Refute it at one input. -/
def recordKeepsWrong : ChangeSpec := { name := "recordKeeps", fn := fun _ => fun
  | [d1, d2] => { results := [.lit (.bool false)], args := [d1, d2] }
  | _ => none }
def RecordKeepsWrongFalsely : Prop := recordKeepsRow.holds Try.pinned (OpenSpec.ofChange recordKeepsWrong)

/- THE SECOND FORM. 'bulk': how many values and letters a reading holds, each counted each time it is reached (what is shared counts as often as it is met; a slice's spare places count too). A statement '..UptoSaid' is the law's where the arguments, and the package variables that the reading takes, are together of bulk at most 1048576: NARROWER than '..Said'. Prove '..Said' where nothing that the law and all that it calls make is longer than what came in: it says more and counts as full. Else prove '..UptoSaid'. A law counts once. -/
mutual
def uptoBulk {H : Type} : DataW H → Nat
  | .lit (.string bytes) => bytes.length + 1
  | .lit _ => 1
  | .nil => 1
  | .ptr d => uptoBulk d + 1
  | .slice elems spare => uptoBulkAll elems + uptoBulkAll spare + 1
  | .agg parts => uptoBulkAll parts + 1
  | .iface _ d => uptoBulk d + 1
  | .map entries => uptoBulkEntries entries + 1
  | .held _ => 1
def uptoBulkAll {H : Type} : List (DataW H) → Nat
  | [] => 0
  | d :: r => uptoBulk d + uptoBulkAll r
def uptoBulkEntries {H : Type} : List (Lit × DataW H) → Nat
  | [] => 0
  | x :: r => uptoBulkEntry x + uptoBulkEntries r
def uptoBulkEntry {H : Type} : Lit × DataW H → Nat
  | (.string bytes, d) => bytes.length + uptoBulk d + 1
  | (_, d) => uptoBulk d + 1
 end
def uptoSmall : (H : Type) → List (DataW H) → Bool := fun _ ds => decide (uptoBulkAll ds ≤ 1048576)
def OpenSpec.upto (s : _root_.Go.ChangeSpec) : _root_.Go.OpenSpec := { _root_.Go.OpenSpec.ofChange s with cond := some uptoSmall }

/-- 'tidemarklaw09.RecordForms', WHERE WHAT IT READS IS OF BULK AT MOST 1048576: true; the input reads as it did. -/
def recordFormsUptoRow : OpenClaim := { program := "ytiaehoppdihbdaa", sum := "a880b51b7b399a95a51e0e739a228126d82cfea51f3f15bc917a3ac20d886351", func := "tidemark/tidemarklaw09.RecordForms", spec := "recordForms", unfollowed := true, recurses := true, apart := false, narrowed := true }
def RecordFormsUptoSaid : Prop := recordFormsUptoRow.holds Try.pinned (OpenSpec.upto recordFormsSpec)

/-- 'tidemarklaw09.RecordReads', WHERE WHAT IT READS IS OF BULK AT MOST 1048576: true; the input reads as it did. -/
def recordReadsUptoRow : OpenClaim := { program := "ytiaehoppdihbdaa", sum := "a880b51b7b399a95a51e0e739a228126d82cfea51f3f15bc917a3ac20d886351", func := "tidemark/tidemarklaw09.RecordReads", spec := "recordReads", unfollowed := true, recurses := true, apart := false, narrowed := true }
def RecordReadsUptoSaid : Prop := recordReadsUptoRow.holds Try.pinned (OpenSpec.upto recordReadsSpec)

/-- 'tidemarklaw09.RecordBack', WHERE WHAT IT READS IS OF BULK AT MOST 1048576: true; the input reads as it did. -/
def recordBackUptoRow : OpenClaim := { program := "ytiaehoppdihbdaa", sum := "a880b51b7b399a95a51e0e739a228126d82cfea51f3f15bc917a3ac20d886351", func := "tidemark/tidemarklaw09.RecordBack", spec := "recordBack", unfollowed := true, recurses := true, apart := false, narrowed := true }
def RecordBackUptoSaid : Prop := recordBackUptoRow.holds Try.pinned (OpenSpec.upto recordBackSpec)

/-- 'tidemarklaw09.RecordCuts', WHERE WHAT IT READS IS OF BULK AT MOST 1048576: true; the input reads as it did. -/
def recordCutsUptoRow : OpenClaim := { program := "ytiaehoppdihbdaa", sum := "a880b51b7b399a95a51e0e739a228126d82cfea51f3f15bc917a3ac20d886351", func := "tidemark/tidemarklaw09.RecordCuts", spec := "recordCuts", unfollowed := true, recurses := true, apart := false, narrowed := true }
def RecordCutsUptoSaid : Prop := recordCutsUptoRow.holds Try.pinned (OpenSpec.upto recordCutsSpec)

/-- 'tidemarklaw09.RecordRefuses', WHERE WHAT IT READS IS OF BULK AT MOST 1048576: true; the input reads as it did. -/
def recordRefusesUptoRow : OpenClaim := { program := "ytiaehoppdihbdaa", sum := "a880b51b7b399a95a51e0e739a228126d82cfea51f3f15bc917a3ac20d886351", func := "tidemark/tidemarklaw09.RecordRefuses", spec := "recordRefuses", unfollowed := true, recurses := true, apart := false, narrowed := true }
def RecordRefusesUptoSaid : Prop := recordRefusesUptoRow.holds Try.pinned (OpenSpec.upto recordRefusesSpec)

/-- 'tidemarklaw09.RecordKeeps', WHERE WHAT IT READS IS OF BULK AT MOST 1048576: true; the input reads as it did. -/
def recordKeepsUptoRow : OpenClaim := { program := "ytiaehoppdihbdaa", sum := "a880b51b7b399a95a51e0e739a228126d82cfea51f3f15bc917a3ac20d886351", func := "tidemark/tidemarklaw09.RecordKeeps", spec := "recordKeeps", unfollowed := true, recurses := true, apart := false, narrowed := true }
def RecordKeepsUptoSaid : Prop := recordKeepsUptoRow.holds Try.pinned (OpenSpec.upto recordKeepsSpec)

end Rows
end Go.Proofs.Ytiaehoppdihbdaa
