/-
  NARROWER THAN 'FOR EVERY INPUT', by the rows' own cells (each row's printed sentence says how): FrameWraps: laid · FrameOpens: laid · FrameBack: laid · FrameTurned: laid · FrameForm: laid · FrameFresh: laid.
  DERIVED. THE GIVEN ROWS OF THIS SEAT. 6 by the template 'for every input the law returns true; each argument reads behind the call as it read before'; 0 by the template 'total and deterministic' (their statements: YtaldpngilgaciabDoorTotals.lean).
  GIVEN WITH THE SEED: the statements are not yours to turn. If you find one false, say at which input.
  Laid BY PROGRAM, IN A SANDBOX (cutbox-rows.mjs): the forced cells as the released guide's own fill.sh prints them over the translation 4187827073d3de03… (all of the seat's roots in one cut). By AI agents, Wed Nov 11 2026. No macro, syntax, notation, axiom, sorry.
-/
import Derived.Test.YtaldpngilgaciabDoorChecked
import GoSem.Claim
import GoSem.ClaimJoined
import GoSem.ClaimMapViews
import Derived.JoinedTies
import Derived.KernelRfl
namespace Go.Proofs.YtaldpngilgaciabDoor
/- THE CELL 'sum', in the pinned program and in every row, IS THE sha256 OF THE DUMP (.gsa) THAT YtaldpngilgaciabDoorProg.lean LOADS. Nothing in Lean hashes anything: it is a label: what it is worth is what the hold of that sum in a sandbox is worth. -/
noncomputable def Tryd.pinned : Pinned := { name := "ytaldpngilgaciabdoor", sum := "4187827073d3de0332b65e5d31b8f5469541bc293938d5c0751b50835db7f4ef", checked := Tryd.checked }
namespace Rows
def none {H : Type} : Left H := { results := [], args := [] }

/- WHAT THE LISTED PACKAGE-LEVEL VARIABLES READ AS WHEN THE CALL BEGINS. Each datum BY PROGRAM (the guide's laid-datum.mjs) off the statement by which the dump's own 'gosem.cut.vars' lays the variable. In a bare row this is a premise. The card (YtaldpngilgaciabDoorCards.lean) ties it to the program's text. -/
def laid_tidemark_crc_table {H : Type} : DataW H := .agg [.lit (.int .u32 0), .lit (.int .u32 498536548), .lit (.int .u32 997073096), .lit (.int .u32 651767980), .lit (.int .u32 1994146192), .lit (.int .u32 1802195444), .lit (.int .u32 1303535960), .lit (.int .u32 1342533948), .lit (.int .u32 3988292384), .lit (.int .u32 4027552580), .lit (.int .u32 3604390888), .lit (.int .u32 3412177804), .lit (.int .u32 2607071920), .lit (.int .u32 2262029012), .lit (.int .u32 2685067896), .lit (.int .u32 3183342108)]

/-- 'tidemarklaw08.FrameWraps': WHATEVER THE INPUT: true; the input reads as it did. -/
def frameWrapsSpec : ChangeSpec := { name := "frameWraps", fn := fun _ => fun
  | [d1, d2, d3] => { results := [.lit (.bool true)], args := [d1, d2, d3] }
  | _ => none }
def frameWrapsRow : OpenClaim := { program := "ytaldpngilgaciabdoor", sum := "4187827073d3de0332b65e5d31b8f5469541bc293938d5c0751b50835db7f4ef", func := "tidemark/tidemarklaw08.FrameWraps", spec := "frameWraps", named := ["tidemark/crc.table"], apart := false, laid := [("tidemark/crc.table", laid_tidemark_crc_table)] }
def FrameWrapsSaid : Prop := frameWrapsRow.holds Tryd.pinned (OpenSpec.ofChange frameWrapsSpec)

/-- ITS FALSE NEIGHBOUR: 'it returns false'. Refute it at one input. -/
def frameWrapsWrong : ChangeSpec := { name := "frameWraps", fn := fun _ => fun
  | [d1, d2, d3] => { results := [.lit (.bool false)], args := [d1, d2, d3] }
  | _ => none }
def FrameWrapsWrongFalsely : Prop := frameWrapsRow.holds Tryd.pinned (OpenSpec.ofChange frameWrapsWrong)

/-- 'tidemarklaw08.FrameOpens': WHATEVER THE INPUT: true; the input reads as it did. -/
def frameOpensSpec : ChangeSpec := { name := "frameOpens", fn := fun _ => fun
  | [d1, d2] => { results := [.lit (.bool true)], args := [d1, d2] }
  | _ => none }
def frameOpensRow : OpenClaim := { program := "ytaldpngilgaciabdoor", sum := "4187827073d3de0332b65e5d31b8f5469541bc293938d5c0751b50835db7f4ef", func := "tidemark/tidemarklaw08.FrameOpens", spec := "frameOpens", named := ["tidemark/crc.table"], apart := false, laid := [("tidemark/crc.table", laid_tidemark_crc_table)] }
def FrameOpensSaid : Prop := frameOpensRow.holds Tryd.pinned (OpenSpec.ofChange frameOpensSpec)

/-- ITS FALSE NEIGHBOUR: 'it returns false'. Refute it at one input. -/
def frameOpensWrong : ChangeSpec := { name := "frameOpens", fn := fun _ => fun
  | [d1, d2] => { results := [.lit (.bool false)], args := [d1, d2] }
  | _ => none }
def FrameOpensWrongFalsely : Prop := frameOpensRow.holds Tryd.pinned (OpenSpec.ofChange frameOpensWrong)

/-- 'tidemarklaw08.FrameBack': WHATEVER THE INPUT: true; the input reads as it did. -/
def frameBackSpec : ChangeSpec := { name := "frameBack", fn := fun _ => fun
  | [d1, d2, d3, d4] => { results := [.lit (.bool true)], args := [d1, d2, d3, d4] }
  | _ => none }
def frameBackRow : OpenClaim := { program := "ytaldpngilgaciabdoor", sum := "4187827073d3de0332b65e5d31b8f5469541bc293938d5c0751b50835db7f4ef", func := "tidemark/tidemarklaw08.FrameBack", spec := "frameBack", named := ["tidemark/crc.table"], apart := false, laid := [("tidemark/crc.table", laid_tidemark_crc_table)] }
def FrameBackSaid : Prop := frameBackRow.holds Tryd.pinned (OpenSpec.ofChange frameBackSpec)

/-- ITS FALSE NEIGHBOUR: 'it returns false'. Refute it at one input. -/
def frameBackWrong : ChangeSpec := { name := "frameBack", fn := fun _ => fun
  | [d1, d2, d3, d4] => { results := [.lit (.bool false)], args := [d1, d2, d3, d4] }
  | _ => none }
def FrameBackWrongFalsely : Prop := frameBackRow.holds Tryd.pinned (OpenSpec.ofChange frameBackWrong)

/-- 'tidemarklaw08.FrameTurned': WHATEVER THE INPUT: true; the input reads as it did. -/
def frameTurnedSpec : ChangeSpec := { name := "frameTurned", fn := fun _ => fun
  | [d1, d2, d3, d4] => { results := [.lit (.bool true)], args := [d1, d2, d3, d4] }
  | _ => none }
def frameTurnedRow : OpenClaim := { program := "ytaldpngilgaciabdoor", sum := "4187827073d3de0332b65e5d31b8f5469541bc293938d5c0751b50835db7f4ef", func := "tidemark/tidemarklaw08.FrameTurned", spec := "frameTurned", named := ["tidemark/crc.table"], apart := false, laid := [("tidemark/crc.table", laid_tidemark_crc_table)] }
def FrameTurnedSaid : Prop := frameTurnedRow.holds Tryd.pinned (OpenSpec.ofChange frameTurnedSpec)

/-- ITS FALSE NEIGHBOUR: 'it returns false'. Refute it at one input. -/
def frameTurnedWrong : ChangeSpec := { name := "frameTurned", fn := fun _ => fun
  | [d1, d2, d3, d4] => { results := [.lit (.bool false)], args := [d1, d2, d3, d4] }
  | _ => none }
def FrameTurnedWrongFalsely : Prop := frameTurnedRow.holds Tryd.pinned (OpenSpec.ofChange frameTurnedWrong)

/-- 'tidemarklaw08.FrameForm': WHATEVER THE INPUT: true; the input reads as it did. -/
def frameFormSpec : ChangeSpec := { name := "frameForm", fn := fun _ => fun
  | [d1, d2] => { results := [.lit (.bool true)], args := [d1, d2] }
  | _ => none }
def frameFormRow : OpenClaim := { program := "ytaldpngilgaciabdoor", sum := "4187827073d3de0332b65e5d31b8f5469541bc293938d5c0751b50835db7f4ef", func := "tidemark/tidemarklaw08.FrameForm", spec := "frameForm", named := ["tidemark/crc.table"], apart := false, laid := [("tidemark/crc.table", laid_tidemark_crc_table)] }
def FrameFormSaid : Prop := frameFormRow.holds Tryd.pinned (OpenSpec.ofChange frameFormSpec)

/-- ITS FALSE NEIGHBOUR: 'it returns false'. Refute it at one input. -/
def frameFormWrong : ChangeSpec := { name := "frameForm", fn := fun _ => fun
  | [d1, d2] => { results := [.lit (.bool false)], args := [d1, d2] }
  | _ => none }
def FrameFormWrongFalsely : Prop := frameFormRow.holds Tryd.pinned (OpenSpec.ofChange frameFormWrong)

/-- 'tidemarklaw08.FrameFresh': WHATEVER THE INPUT: true; the input reads as it did. -/
def frameFreshSpec : ChangeSpec := { name := "frameFresh", fn := fun _ => fun
  | [d1, d2] => { results := [.lit (.bool true)], args := [d1, d2] }
  | _ => none }
def frameFreshRow : OpenClaim := { program := "ytaldpngilgaciabdoor", sum := "4187827073d3de0332b65e5d31b8f5469541bc293938d5c0751b50835db7f4ef", func := "tidemark/tidemarklaw08.FrameFresh", spec := "frameFresh", named := ["tidemark/crc.table"], apart := false, laid := [("tidemark/crc.table", laid_tidemark_crc_table)] }
def FrameFreshSaid : Prop := frameFreshRow.holds Tryd.pinned (OpenSpec.ofChange frameFreshSpec)

/-- ITS FALSE NEIGHBOUR: 'it returns false'. Refute it at one input. -/
def frameFreshWrong : ChangeSpec := { name := "frameFresh", fn := fun _ => fun
  | [d1, d2] => { results := [.lit (.bool false)], args := [d1, d2] }
  | _ => none }
def FrameFreshWrongFalsely : Prop := frameFreshRow.holds Tryd.pinned (OpenSpec.ofChange frameFreshWrong)

/- THE SECOND FORM. 'bulk': how many values and letters a reading holds, each counted each time it is reached (what is shared counts as often as it is met; a slice's spare places count too). A statement '..UptoSaid' is the law's where the arguments, and the package variables that the reading takes, are together of bulk at most 1048576: NARROWER than '..Said'. Prove '..Said' where nothing that the law and all that it calls make is longer than what came in: it says more and counts as full. Else prove '..UptoSaid'. A law counts once. -/
mutual
def uptoBulk {H : Type} : DataW H → Nat
  | .lit (.string bytes) => bytes.length + 1
  | .lit _ => 1
  | .nil => 1
  | .ptr d => uptoBulk d + 1
  | .slice elems spare => uptoBulkAll elems + uptoBulkAll spare + 1
  | .agg parts => uptoBulkAll parts + 1
  | .iface _ d => uptoBulk d + 1
  | .map entries => uptoBulkEntries entries + 1
  | .held _ => 1
def uptoBulkAll {H : Type} : List (DataW H) → Nat
  | [] => 0
  | d :: r => uptoBulk d + uptoBulkAll r
def uptoBulkEntries {H : Type} : List (Lit × DataW H) → Nat
  | [] => 0
  | x :: r => uptoBulkEntry x + uptoBulkEntries r
def uptoBulkEntry {H : Type} : Lit × DataW H → Nat
  | (.string bytes, d) => bytes.length + uptoBulk d + 1
  | (_, d) => uptoBulk d + 1
 end
def uptoSmall : (H : Type) → List (DataW H) → Bool := fun _ ds => decide (uptoBulkAll ds ≤ 1048576)
def OpenSpec.upto (s : _root_.Go.ChangeSpec) : _root_.Go.OpenSpec := { _root_.Go.OpenSpec.ofChange s with cond := some uptoSmall }

/-- 'tidemarklaw08.FrameWraps', WHERE WHAT IT READS IS OF BULK AT MOST 1048576: true; the input reads as it did. -/
def frameWrapsUptoRow : OpenClaim := { program := "ytaldpngilgaciabdoor", sum := "4187827073d3de0332b65e5d31b8f5469541bc293938d5c0751b50835db7f4ef", func := "tidemark/tidemarklaw08.FrameWraps", spec := "frameWraps", named := ["tidemark/crc.table"], apart := false, laid := [("tidemark/crc.table", laid_tidemark_crc_table)], narrowed := true }
def FrameWrapsUptoSaid : Prop := frameWrapsUptoRow.holds Tryd.pinned (OpenSpec.upto frameWrapsSpec)

/-- 'tidemarklaw08.FrameOpens', WHERE WHAT IT READS IS OF BULK AT MOST 1048576: true; the input reads as it did. -/
def frameOpensUptoRow : OpenClaim := { program := "ytaldpngilgaciabdoor", sum := "4187827073d3de0332b65e5d31b8f5469541bc293938d5c0751b50835db7f4ef", func := "tidemark/tidemarklaw08.FrameOpens", spec := "frameOpens", named := ["tidemark/crc.table"], apart := false, laid := [("tidemark/crc.table", laid_tidemark_crc_table)], narrowed := true }
def FrameOpensUptoSaid : Prop := frameOpensUptoRow.holds Tryd.pinned (OpenSpec.upto frameOpensSpec)

/-- 'tidemarklaw08.FrameBack', WHERE WHAT IT READS IS OF BULK AT MOST 1048576: true; the input reads as it did. -/
def frameBackUptoRow : OpenClaim := { program := "ytaldpngilgaciabdoor", sum := "4187827073d3de0332b65e5d31b8f5469541bc293938d5c0751b50835db7f4ef", func := "tidemark/tidemarklaw08.FrameBack", spec := "frameBack", named := ["tidemark/crc.table"], apart := false, laid := [("tidemark/crc.table", laid_tidemark_crc_table)], narrowed := true }
def FrameBackUptoSaid : Prop := frameBackUptoRow.holds Tryd.pinned (OpenSpec.upto frameBackSpec)

/-- 'tidemarklaw08.FrameTurned', WHERE WHAT IT READS IS OF BULK AT MOST 1048576: true; the input reads as it did. -/
def frameTurnedUptoRow : OpenClaim := { program := "ytaldpngilgaciabdoor", sum := "4187827073d3de0332b65e5d31b8f5469541bc293938d5c0751b50835db7f4ef", func := "tidemark/tidemarklaw08.FrameTurned", spec := "frameTurned", named := ["tidemark/crc.table"], apart := false, laid := [("tidemark/crc.table", laid_tidemark_crc_table)], narrowed := true }
def FrameTurnedUptoSaid : Prop := frameTurnedUptoRow.holds Tryd.pinned (OpenSpec.upto frameTurnedSpec)

/-- 'tidemarklaw08.FrameForm', WHERE WHAT IT READS IS OF BULK AT MOST 1048576: true; the input reads as it did. -/
def frameFormUptoRow : OpenClaim := { program := "ytaldpngilgaciabdoor", sum := "4187827073d3de0332b65e5d31b8f5469541bc293938d5c0751b50835db7f4ef", func := "tidemark/tidemarklaw08.FrameForm", spec := "frameForm", named := ["tidemark/crc.table"], apart := false, laid := [("tidemark/crc.table", laid_tidemark_crc_table)], narrowed := true }
def FrameFormUptoSaid : Prop := frameFormUptoRow.holds Tryd.pinned (OpenSpec.upto frameFormSpec)

/-- 'tidemarklaw08.FrameFresh', WHERE WHAT IT READS IS OF BULK AT MOST 1048576: true; the input reads as it did. -/
def frameFreshUptoRow : OpenClaim := { program := "ytaldpngilgaciabdoor", sum := "4187827073d3de0332b65e5d31b8f5469541bc293938d5c0751b50835db7f4ef", func := "tidemark/tidemarklaw08.FrameFresh", spec := "frameFresh", named := ["tidemark/crc.table"], apart := false, laid := [("tidemark/crc.table", laid_tidemark_crc_table)], narrowed := true }
def FrameFreshUptoSaid : Prop := frameFreshUptoRow.holds Tryd.pinned (OpenSpec.upto frameFreshSpec)

end Rows
end Go.Proofs.YtaldpngilgaciabDoor
