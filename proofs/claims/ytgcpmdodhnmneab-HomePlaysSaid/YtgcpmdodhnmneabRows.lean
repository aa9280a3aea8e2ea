/-
  No cell of these rows narrows 'for every input' (looked for: loops, veiled, ifaces, maps, wideKeys, modest, calm, conditions, laid).
  DERIVED. THE GIVEN ROWS OF THIS SEAT. 6 by the template 'for every input the law returns true; each argument reads behind the call as it read before'; 0 by the template 'total and deterministic' (their statements: YtgcpmdodhnmneabTotals.lean).
  GIVEN WITH THE SEED: the statements are not yours to turn. If you find one false, say at which input.
  Laid BY PROGRAM, IN A SANDBOX (cutbox-rows.mjs): the forced cells as the released guide's own fill.sh prints them over the translation 5b401f219b50d98b… (all of the seat's roots in one cut). By AI agents, Wed Nov 11 2026. No macro, syntax, notation, axiom, sorry.
-/
import Derived.Test.YtgcpmdodhnmneabChecked
import GoSem.Claim
import GoSem.ClaimJoined
import GoSem.ClaimMapViews
import Derived.JoinedTies
import Derived.KernelRfl
namespace Go.Proofs.Ytgcpmdodhnmneab
/- THE CELL 'sum', in the pinned program and in every row, IS THE sha256 OF THE DUMP (.gsa) THAT YtgcpmdodhnmneabProg.lean LOADS. Nothing in Lean hashes anything: it is a label: what it is worth is what the hold of that sum in a sandbox is worth. -/
noncomputable def Try.pinned : Pinned := { name := "ytgcpmdodhnmneab", sum := "5b401f219b50d98b8b4a2d753990649a13b7079a4d5becd74738b5f15e508eb8", checked := Try.checked }
namespace Rows
def none {H : Type} : Left H := { results := [], args := [] }

/-- 'tidemarklaw05.HomeOfs': WHATEVER THE INPUT: true; the input reads as it did. -/
def homeOfsSpec : ChangeSpec := { name := "homeOfs", fn := fun _ => fun
  | [d1, d2, d3] => { results := [.lit (.bool true)], args := [d1, d2, d3] }
  | _ => none }
def homeOfsRow : OpenClaim := { program := "ytgcpmdodhnmneab", sum := "5b401f219b50d98b8b4a2d753990649a13b7079a4d5becd74738b5f15e508eb8", func := "tidemark/tidemarklaw05.HomeOfs", spec := "homeOfs", unfollowed := true, recurses := true, apart := false }
def HomeOfsSaid : Prop := homeOfsRow.holds Try.pinned (OpenSpec.ofChange homeOfsSpec)

/-- ITS FALSE NEIGHBOUR: 'it returns false'. Refute it at one input. -/
def homeOfsWrong : ChangeSpec := { name := "homeOfs", fn := fun _ => fun
  | [d1, d2, d3] => { results := [.lit (.bool false)], args := [d1, d2, d3] }
  | _ => none }
def HomeOfsWrongFalsely : Prop := homeOfsRow.holds Try.pinned (OpenSpec.ofChange homeOfsWrong)

/-- 'tidemarklaw05.HomeDoes': WHATEVER THE INPUT: true; the input reads as it did. -/
def homeDoesSpec : ChangeSpec := { name := "homeDoes", fn := fun _ => fun
  | [d1, d2, d3] => { results := [.lit (.bool true)], args := [d1, d2, d3] }
  | _ => none }
def homeDoesRow : OpenClaim := { program := "ytgcpmdodhnmneab", sum := "5b401f219b50d98b8b4a2d753990649a13b7079a4d5becd74738b5f15e508eb8", func := "tidemark/tidemarklaw05.HomeDoes", spec := "homeDoes", unfollowed := true, recurses := true, apart := false }
def HomeDoesSaid : Prop := homeDoesRow.holds Try.pinned (OpenSpec.ofChange homeDoesSpec)

/-- ITS FALSE NEIGHBOUR: 'it returns false'. Refute it at one input. -/
def homeDoesWrong : ChangeSpec := { name := "homeDoes", fn := fun _ => fun
  | [d1, d2, d3] => { results := [.lit (.bool false)], args := [d1, d2, d3] }
  | _ => none }
def HomeDoesWrongFalsely : Prop := homeDoesRow.holds Try.pinned (OpenSpec.ofChange homeDoesWrong)

/-- 'tidemarklaw05.HomePlays': WHATEVER THE INPUT: true; the input reads as it did. -/
def homePlaysSpec : ChangeSpec := { name := "homePlays", fn := fun _ => fun
  | [d1, d2, d3] => { results := [.lit (.bool true)], args := [d1, d2, d3] }
  | _ => none }
def homePlaysRow : OpenClaim := { program := "ytgcpmdodhnmneab", sum := "5b401f219b50d98b8b4a2d753990649a13b7079a4d5becd74738b5f15e508eb8", func := "tidemark/tidemarklaw05.HomePlays", spec := "homePlays", unfollowed := true, recurses := true, apart := false }
def HomePlaysSaid : Prop := homePlaysRow.holds Try.pinned (OpenSpec.ofChange homePlaysSpec)

/-- ITS FALSE NEIGHBOUR: 'it returns false'. Refute it at one input. -/
def homePlaysWrong : ChangeSpec := { name := "homePlays", fn := fun _ => fun
  | [d1, d2, d3] => { results := [.lit (.bool false)], args := [d1, d2, d3] }
  | _ => none }
def HomePlaysWrongFalsely : Prop := homePlaysRow.holds Try.pinned (OpenSpec.ofChange homePlaysWrong)

/-- 'tidemarklaw05.HomeUndone': WHATEVER THE INPUT: true; the input reads as it did. -/
def homeUndoneSpec : ChangeSpec := { name := "homeUndone", fn := fun _ => fun
  | [d1, d2, d3, d4] => { results := [.lit (.bool true)], args := [d1, d2, d3, d4] }
  | _ => none }
def homeUndoneRow : OpenClaim := { program := "ytgcpmdodhnmneab", sum := "5b401f219b50d98b8b4a2d753990649a13b7079a4d5becd74738b5f15e508eb8", func := "tidemark/tidemarklaw05.HomeUndone", spec := "homeUndone", unfollowed := true, recurses := true, apart := false }
def HomeUndoneSaid : Prop := homeUndoneRow.holds Try.pinned (OpenSpec.ofChange homeUndoneSpec)

/-- ITS FALSE NEIGHBOUR: 'it returns false'. Refute it at one input. -/
def homeUndoneWrong : ChangeSpec := { name := "homeUndone", fn := fun _ => fun
  | [d1, d2, d3, d4] => { results := [.lit (.bool false)], args := [d1, d2, d3, d4] }
  | _ => none }
def HomeUndoneWrongFalsely : Prop := homeUndoneRow.holds Try.pinned (OpenSpec.ofChange homeUndoneWrong)

/-- 'tidemarklaw05.HomeParts': WHATEVER THE INPUT: true; the input reads as it did. -/
def homePartsSpec : ChangeSpec := { name := "homeParts", fn := fun _ => fun
  | [d1, d2, d3, d4] => { results := [.lit (.bool true)], args := [d1, d2, d3, d4] }
  | _ => none }
def homePartsRow : OpenClaim := { program := "ytgcpmdodhnmneab", sum := "5b401f219b50d98b8b4a2d753990649a13b7079a4d5becd74738b5f15e508eb8", func := "tidemark/tidemarklaw05.HomeParts", spec := "homeParts", unfollowed := true, recurses := true, apart := false }
def HomePartsSaid : Prop := homePartsRow.holds Try.pinned (OpenSpec.ofChange homePartsSpec)

/-- ITS FALSE NEIGHBOUR: 'it returns false'. Refute it at one input. -/
def homePartsWrong : ChangeSpec := { name := "homeParts", fn := fun _ => fun
  | [d1, d2, d3, d4] => { results := [.lit (.bool false)], args := [d1, d2, d3, d4] }
  | _ => none }
def HomePartsWrongFalsely : Prop := homePartsRow.holds Try.pinned (OpenSpec.ofChange homePartsWrong)

/-- 'tidemarklaw05.HomeFresh': WHATEVER THE INPUT: true; the input reads as it did. -/
def homeFreshSpec : ChangeSpec := { name := "homeFresh", fn := fun _ => fun
  | [d1, d2, d3] => { results := [.lit (.bool true)], args := [d1, d2, d3] }
  | _ => none }
def homeFreshRow : OpenClaim := { program := "ytgcpmdodhnmneab", sum := "5b401f219b50d98b8b4a2d753990649a13b7079a4d5becd74738b5f15e508eb8", func := "tidemark/tidemarklaw05.HomeFresh", spec := "homeFresh", unfollowed := true, recurses := true, apart := false }
def HomeFreshSaid : Prop := homeFreshRow.holds Try.pinned (OpenSpec.ofChange homeFreshSpec)

/-- ITS FALSE NEIGHBOUR: 'it returns false'. Refute it at one input. -/
def homeFreshWrong : ChangeSpec := { name := "homeFresh", fn := fun _ => fun
  | [d1, d2, d3] => { results := [.lit (.bool false)], args := [d1, d2, d3] }
  | _ => none }
def HomeFreshWrongFalsely : Prop := homeFreshRow.holds Try.pinned (OpenSpec.ofChange homeFreshWrong)

/- THE SECOND FORM. 'bulk': how many values and letters a reading holds, each counted each time it is reached (what is shared counts as often as it is met; a slice's spare places count too). A statement '..UptoSaid' is the law's where the arguments, and the package variables that the reading takes, are together of bulk at most 1048576: NARROWER than '..Said'. Prove '..Said' where nothing that the law and all that it calls make is longer than what came in: it says more and counts as full. Else prove '..UptoSaid'. A law counts once. -/
mutual
def uptoBulk {H : Type} : DataW H → Nat
  | .lit (.string bytes) => bytes.length + 1
  | .lit _ => 1
  | .nil => 1
  | .ptr d => uptoBulk d + 1
  | .slice elems spare => uptoBulkAll elems + uptoBulkAll spare + 1
  | .agg parts => uptoBulkAll parts + 1
  | .iface _ d => uptoBulk d + 1
  | .map entries => uptoBulkEntries entries + 1
  | .held _ => 1
def uptoBulkAll {H : Type} : List (DataW H) → Nat
  | [] => 0
  | d :: r => uptoBulk d + uptoBulkAll r
def uptoBulkEntries {H : Type} : List (Lit × DataW H) → Nat
  | [] => 0
  | x :: r => uptoBulkEntry x + uptoBulkEntries r
def uptoBulkEntry {H : Type} : Lit × DataW H → Nat
  | (.string bytes, d) => bytes.length + uptoBulk d + 1
  | (_, d) => uptoBulk d + 1
 end
def uptoSmall : (H : Type) → List (DataW H) → Bool := fun _ ds => decide (uptoBulkAll ds ≤ 1048576)
def OpenSpec.upto (s : _root_.Go.ChangeSpec) : _root_.Go.OpenSpec := { _root_.Go.OpenSpec.ofChange s with cond := some uptoSmall }

/-- 'tidemarklaw05.HomeOfs', WHERE WHAT IT READS IS OF BULK AT MOST 1048576: true; the input reads as it did. -/
def homeOfsUptoRow : OpenClaim := { program := "ytgcpmdodhnmneab", sum := "5b401f219b50d98b8b4a2d753990649a13b7079a4d5becd74738b5f15e508eb8", func := "tidemark/tidemarklaw05.HomeOfs", spec := "homeOfs", unfollowed := true, recurses := true, apart := false, narrowed := true }
def HomeOfsUptoSaid : Prop := homeOfsUptoRow.holds Try.pinned (OpenSpec.upto homeOfsSpec)

/-- 'tidemarklaw05.HomeDoes', WHERE WHAT IT READS IS OF BULK AT MOST 1048576: true; the input reads as it did. -/
def homeDoesUptoRow : OpenClaim := { program := "ytgcpmdodhnmneab", sum := "5b401f219b50d98b8b4a2d753990649a13b7079a4d5becd74738b5f15e508eb8", func := "tidemark/tidemarklaw05.HomeDoes", spec := "homeDoes", unfollowed := true, recurses := true, apart := false, narrowed := true }
def HomeDoesUptoSaid : Prop := homeDoesUptoRow.holds Try.pinned (OpenSpec.upto homeDoesSpec)

/-- 'tidemarklaw05.HomePlays', WHERE WHAT IT READS IS OF BULK AT MOST 1048576: true; the input reads as it did. -/
def homePlaysUptoRow : OpenClaim := { program := "ytgcpmdodhnmneab", sum := "5b401f219b50d98b8b4a2d753990649a13b7079a4d5becd74738b5f15e508eb8", func := "tidemark/tidemarklaw05.HomePlays", spec := "homePlays", unfollowed := true, recurses := true, apart := false, narrowed := true }
def HomePlaysUptoSaid : Prop := homePlaysUptoRow.holds Try.pinned (OpenSpec.upto homePlaysSpec)

/-- 'tidemarklaw05.HomeUndone', WHERE WHAT IT READS IS OF BULK AT MOST 1048576: true; the input reads as it did. -/
def homeUndoneUptoRow : OpenClaim := { program := "ytgcpmdodhnmneab", sum := "5b401f219b50d98b8b4a2d753990649a13b7079a4d5becd74738b5f15e508eb8", func := "tidemark/tidemarklaw05.HomeUndone", spec := "homeUndone", unfollowed := true, recurses := true, apart := false, narrowed := true }
def HomeUndoneUptoSaid : Prop := homeUndoneUptoRow.holds Try.pinned (OpenSpec.upto homeUndoneSpec)

/-- 'tidemarklaw05.HomeParts', WHERE WHAT IT READS IS OF BULK AT MOST 1048576: true; the input reads as it did. -/
def homePartsUptoRow : OpenClaim := { program := "ytgcpmdodhnmneab", sum := "5b401f219b50d98b8b4a2d753990649a13b7079a4d5becd74738b5f15e508eb8", func := "tidemark/tidemarklaw05.HomeParts", spec := "homeParts", unfollowed := true, recurses := true, apart := false, narrowed := true }
def HomePartsUptoSaid : Prop := homePartsUptoRow.holds Try.pinned (OpenSpec.upto homePartsSpec)

/-- 'tidemarklaw05.HomeFresh', WHERE WHAT IT READS IS OF BULK AT MOST 1048576: true; the input reads as it did. -/
def homeFreshUptoRow : OpenClaim := { program := "ytgcpmdodhnmneab", sum := "5b401f219b50d98b8b4a2d753990649a13b7079a4d5becd74738b5f15e508eb8", func := "tidemark/tidemarklaw05.HomeFresh", spec := "homeFresh", unfollowed := true, recurses := true, apart := false, narrowed := true }
def HomeFreshUptoSaid : Prop := homeFreshUptoRow.holds Try.pinned (OpenSpec.upto homeFreshSpec)

end Rows
end Go.Proofs.Ytgcpmdodhnmneab
