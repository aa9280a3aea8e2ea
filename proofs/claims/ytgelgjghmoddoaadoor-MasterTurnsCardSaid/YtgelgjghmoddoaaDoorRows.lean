/-
  NARROWER THAN 'FOR EVERY INPUT', by the rows' own cells (each row's printed sentence says how): MasterBytes: laid · MasterReads: laid · MasterFresh: laid · MasterTurns: laid · MasterAll: laid.
  DERIVED. THE GIVEN ROWS OF THIS SEAT. 5 by the template 'for every input the law returns true; each argument reads behind the call as it read before'; 0 by the template 'total and deterministic' (their statements: YtgelgjghmoddoaaDoorTotals.lean).
  GIVEN WITH THE SEED: the statements are not yours to turn. If you find one false, say at which input.
  Laid BY PROGRAM, IN A SANDBOX (cutbox-rows.mjs): the forced cells as the released guide's own fill.sh prints them over the translation 65f0137a0748e015… (all of the seat's roots in one cut). By AI agents, Wed Nov 11 2026. No macro, syntax, notation, axiom, sorry.
-/
import Derived.Test.YtgelgjghmoddoaaDoorChecked
import GoSem.Claim
import GoSem.ClaimJoined
import GoSem.ClaimMapViews
import Derived.JoinedTies
import Derived.KernelRfl
namespace Go.Proofs.YtgelgjghmoddoaaDoor
/- THE CELL 'sum', in the pinned program and in every row, IS THE sha256 OF THE DUMP (.gsa) THAT YtgelgjghmoddoaaDoorProg.lean LOADS. Nothing in Lean hashes anything: it is a label: what it is worth is what the hold of that sum in a sandbox is worth. -/
noncomputable def Tryd.pinned : Pinned := { name := "ytgelgjghmoddoaadoor", sum := "65f0137a0748e01524bd9ac6b5fef502ee75cacd376a93b02d009a8fd02f63b0", checked := Tryd.checked }
namespace Rows
def none {H : Type} : Left H := { results := [], args := [] }

/- WHAT THE LISTED PACKAGE-LEVEL VARIABLES READ AS WHEN THE CALL BEGINS. Each datum BY PROGRAM (the guide's laid-datum.mjs) off the statement by which the dump's own 'gosem.cut.vars' lays the variable. In a bare row this is a premise. The card (YtgelgjghmoddoaaDoorCards.lean) ties it to the program's text. -/
def laid_tidemark_crc_table {H : Type} : DataW H := .agg [.lit (.int .u32 0), .lit (.int .u32 498536548), .lit (.int .u32 997073096), .lit (.int .u32 651767980), .lit (.int .u32 1994146192), .lit (.int .u32 1802195444), .lit (.int .u32 1303535960), .lit (.int .u32 1342533948), .lit (.int .u32 3988292384), .lit (.int .u32 4027552580), .lit (.int .u32 3604390888), .lit (.int .u32 3412177804), .lit (.int .u32 2607071920), .lit (.int .u32 2262029012), .lit (.int .u32 2685067896), .lit (.int .u32 3183342108)]

/-- 'tidemarklaw07.MasterBytes': WHATEVER THE INPUT: true; the input reads as it did. -/
def masterBytesSpec : ChangeSpec := { name := "masterBytes", fn := fun _ => fun
  | [d1, d2, d3] => { results := [.lit (.bool true)], args := [d1, d2, d3] }
  | _ => none }
def masterBytesRow : OpenClaim := { program := "ytgelgjghmoddoaadoor", sum := "65f0137a0748e01524bd9ac6b5fef502ee75cacd376a93b02d009a8fd02f63b0", func := "tidemark/tidemarklaw07.MasterBytes", spec := "masterBytes", unfollowed := true, recurses := true, named := ["tidemark/crc.table"], apart := false, laid := [("tidemark/crc.table", laid_tidemark_crc_table)] }
def MasterBytesSaid : Prop := masterBytesRow.holds Tryd.pinned (OpenSpec.ofChange masterBytesSpec)

/-- ITS FALSE NEIGHBOUR: 'it returns false'. Refute it at one input. -/
def masterBytesWrong : ChangeSpec := { name := "masterBytes", fn := fun _ => fun
  | [d1, d2, d3] => { results := [.lit (.bool false)], args := [d1, d2, d3] }
  | _ => none }
def MasterBytesWrongFalsely : Prop := masterBytesRow.holds Tryd.pinned (OpenSpec.ofChange masterBytesWrong)

/-- 'tidemarklaw07.MasterReads': WHATEVER THE INPUT: true; the input reads as it did. -/
def masterReadsSpec : ChangeSpec := { name := "masterReads", fn := fun _ => fun
  | [d1, d2] => { results := [.lit (.bool true)], args := [d1, d2] }
  | _ => none }
def masterReadsRow : OpenClaim := { program := "ytgelgjghmoddoaadoor", sum := "65f0137a0748e01524bd9ac6b5fef502ee75cacd376a93b02d009a8fd02f63b0", func := "tidemark/tidemarklaw07.MasterReads", spec := "masterReads", unfollowed := true, recurses := true, named := ["tidemark/crc.table"], apart := false, laid := [("tidemark/crc.table", laid_tidemark_crc_table)] }
def MasterReadsSaid : Prop := masterReadsRow.holds Tryd.pinned (OpenSpec.ofChange masterReadsSpec)

/-- ITS FALSE NEIGHBOUR: 'it returns false'. Refute it at one input. -/
def masterReadsWrong : ChangeSpec := { name := "masterReads", fn := fun _ => fun
  | [d1, d2] => { results := [.lit (.bool false)], args := [d1, d2] }
  | _ => none }
def MasterReadsWrongFalsely : Prop := masterReadsRow.holds Tryd.pinned (OpenSpec.ofChange masterReadsWrong)

/-- 'tidemarklaw07.MasterFresh': WHATEVER THE INPUT: true; the input reads as it did. -/
def masterFreshSpec : ChangeSpec := { name := "masterFresh", fn := fun _ => fun
  | [d1, d2, d3] => { results := [.lit (.bool true)], args := [d1, d2, d3] }
  | _ => none }
def masterFreshRow : OpenClaim := { program := "ytgelgjghmoddoaadoor", sum := "65f0137a0748e01524bd9ac6b5fef502ee75cacd376a93b02d009a8fd02f63b0", func := "tidemark/tidemarklaw07.MasterFresh", spec := "masterFresh", unfollowed := true, recurses := true, named := ["tidemark/crc.table"], apart := false, laid := [("tidemark/crc.table", laid_tidemark_crc_table)] }
def MasterFreshSaid : Prop := masterFreshRow.holds Tryd.pinned (OpenSpec.ofChange masterFreshSpec)

/-- ITS FALSE NEIGHBOUR: 'it returns false'. Refute it at one input. -/
def masterFreshWrong : ChangeSpec := { name := "masterFresh", fn := fun _ => fun
  | [d1, d2, d3] => { results := [.lit (.bool false)], args := [d1, d2, d3] }
  | _ => none }
def MasterFreshWrongFalsely : Prop := masterFreshRow.holds Tryd.pinned (OpenSpec.ofChange masterFreshWrong)

/-- 'tidemarklaw07.MasterTurns': WHATEVER THE INPUT: true; the input reads as it did. -/
def masterTurnsSpec : ChangeSpec := { name := "masterTurns", fn := fun _ => fun
  | [d1, d2] => { results := [.lit (.bool true)], args := [d1, d2] }
  | _ => none }
def masterTurnsRow : OpenClaim := { program := "ytgelgjghmoddoaadoor", sum := "65f0137a0748e01524bd9ac6b5fef502ee75cacd376a93b02d009a8fd02f63b0", func := "tidemark/tidemarklaw07.MasterTurns", spec := "masterTurns", unfollowed := true, recurses := true, named := ["tidemark/crc.table"], apart := false, laid := [("tidemark/crc.table", laid_tidemark_crc_table)] }
def MasterTurnsSaid : Prop := masterTurnsRow.holds Tryd.pinned (OpenSpec.ofChange masterTurnsSpec)

/-- ITS FALSE NEIGHBOUR: 'it returns false'. Refute it at one input. -/
def masterTurnsWrong : ChangeSpec := { name := "masterTurns", fn := fun _ => fun
  | [d1, d2] => { results := [.lit (.bool false)], args := [d1, d2] }
  | _ => none }
def MasterTurnsWrongFalsely : Prop := masterTurnsRow.holds Tryd.pinned (OpenSpec.ofChange masterTurnsWrong)

/-- 'tidemarklaw07.MasterAll': WHATEVER THE INPUT: true; the input reads as it did. -/
def masterAllSpec : ChangeSpec := { name := "masterAll", fn := fun _ => fun
  | [d] => { results := [.lit (.bool true)], args := [d] }
  | _ => none }
def masterAllRow : OpenClaim := { program := "ytgelgjghmoddoaadoor", sum := "65f0137a0748e01524bd9ac6b5fef502ee75cacd376a93b02d009a8fd02f63b0", func := "tidemark/tidemarklaw07.MasterAll", spec := "masterAll", unfollowed := true, recurses := true, named := ["tidemark/crc.table"], apart := false, laid := [("tidemark/crc.table", laid_tidemark_crc_table)] }
def MasterAllSaid : Prop := masterAllRow.holds Tryd.pinned (OpenSpec.ofChange masterAllSpec)

/-- ITS FALSE NEIGHBOUR: 'it returns false'. Refute it at one input. -/
def masterAllWrong : ChangeSpec := { name := "masterAll", fn := fun _ => fun
  | [d] => { results := [.lit (.bool false)], args := [d] }
  | _ => none }
def MasterAllWrongFalsely : Prop := masterAllRow.holds Tryd.pinned (OpenSpec.ofChange masterAllWrong)

/- THE SECOND FORM. 'bulk': how many values and letters a reading holds, each counted each time it is reached (what is shared counts as often as it is met; a slice's spare places count too). A statement '..UptoSaid' is the law's where the arguments, and the package variables that the reading takes, are together of bulk at most 1048576: NARROWER than '..Said'. Prove '..Said' where nothing that the law and all that it calls make is longer than what came in: it says more and counts as full. Else prove '..UptoSaid'. A law counts once. -/
mutual
def uptoBulk {H : Type} : DataW H → Nat
  | .lit (.string bytes) => bytes.length + 1
  | .lit _ => 1
  | .nil => 1
  | .ptr d => uptoBulk d + 1
  | .slice elems spare => uptoBulkAll elems + uptoBulkAll spare + 1
  | .agg parts => uptoBulkAll parts + 1
  | .iface _ d => uptoBulk d + 1
  | .map entries => uptoBulkEntries entries + 1
  | .held _ => 1
def uptoBulkAll {H : Type} : List (DataW H) → Nat
  | [] => 0
  | d :: r => uptoBulk d + uptoBulkAll r
def uptoBulkEntries {H : Type} : List (Lit × DataW H) → Nat
  | [] => 0
  | x :: r => uptoBulkEntry x + uptoBulkEntries r
def uptoBulkEntry {H : Type} : Lit × DataW H → Nat
  | (.string bytes, d) => bytes.length + uptoBulk d + 1
  | (_, d) => uptoBulk d + 1
 end
def uptoSmall : (H : Type) → List (DataW H) → Bool := fun _ ds => decide (uptoBulkAll ds ≤ 1048576)
def OpenSpec.upto (s : _root_.Go.ChangeSpec) : _root_.Go.OpenSpec := { _root_.Go.OpenSpec.ofChange s with cond := some uptoSmall }

/-- 'tidemarklaw07.MasterBytes', WHERE WHAT IT READS IS OF BULK AT MOST 1048576: true; the input reads as it did. -/
def masterBytesUptoRow : OpenClaim := { program := "ytgelgjghmoddoaadoor", sum := "65f0137a0748e01524bd9ac6b5fef502ee75cacd376a93b02d009a8fd02f63b0", func := "tidemark/tidemarklaw07.MasterBytes", spec := "masterBytes", unfollowed := true, recurses := true, named := ["tidemark/crc.table"], apart := false, laid := [("tidemark/crc.table", laid_tidemark_crc_table)], narrowed := true }
def MasterBytesUptoSaid : Prop := masterBytesUptoRow.holds Tryd.pinned (OpenSpec.upto masterBytesSpec)

/-- 'tidemarklaw07.MasterReads', WHERE WHAT IT READS IS OF BULK AT MOST 1048576: true; the input reads as it did. -/
def masterReadsUptoRow : OpenClaim := { program := "ytgelgjghmoddoaadoor", sum := "65f0137a0748e01524bd9ac6b5fef502ee75cacd376a93b02d009a8fd02f63b0", func := "tidemark/tidemarklaw07.MasterReads", spec := "masterReads", unfollowed := true, recurses := true, named := ["tidemark/crc.table"], apart := false, laid := [("tidemark/crc.table", laid_tidemark_crc_table)], narrowed := true }
def MasterReadsUptoSaid : Prop := masterReadsUptoRow.holds Tryd.pinned (OpenSpec.upto masterReadsSpec)

/-- 'tidemarklaw07.MasterFresh', WHERE WHAT IT READS IS OF BULK AT MOST 1048576: true; the input reads as it did. -/
def masterFreshUptoRow : OpenClaim := { program := "ytgelgjghmoddoaadoor", sum := "65f0137a0748e01524bd9ac6b5fef502ee75cacd376a93b02d009a8fd02f63b0", func := "tidemark/tidemarklaw07.MasterFresh", spec := "masterFresh", unfollowed := true, recurses := true, named := ["tidemark/crc.table"], apart := false, laid := [("tidemark/crc.table", laid_tidemark_crc_table)], narrowed := true }
def MasterFreshUptoSaid : Prop := masterFreshUptoRow.holds Tryd.pinned (OpenSpec.upto masterFreshSpec)

/-- 'tidemarklaw07.MasterTurns', WHERE WHAT IT READS IS OF BULK AT MOST 1048576: true; the input reads as it did. -/
def masterTurnsUptoRow : OpenClaim := { program := "ytgelgjghmoddoaadoor", sum := "65f0137a0748e01524bd9ac6b5fef502ee75cacd376a93b02d009a8fd02f63b0", func := "tidemark/tidemarklaw07.MasterTurns", spec := "masterTurns", unfollowed := true, recurses := true, named := ["tidemark/crc.table"], apart := false, laid := [("tidemark/crc.table", laid_tidemark_crc_table)], narrowed := true }
def MasterTurnsUptoSaid : Prop := masterTurnsUptoRow.holds Tryd.pinned (OpenSpec.upto masterTurnsSpec)

/-- 'tidemarklaw07.MasterAll', WHERE WHAT IT READS IS OF BULK AT MOST 1048576: true; the input reads as it did. -/
def masterAllUptoRow : OpenClaim := { program := "ytgelgjghmoddoaadoor", sum := "65f0137a0748e01524bd9ac6b5fef502ee75cacd376a93b02d009a8fd02f63b0", func := "tidemark/tidemarklaw07.MasterAll", spec := "masterAll", unfollowed := true, recurses := true, named := ["tidemark/crc.table"], apart := false, laid := [("tidemark/crc.table", laid_tidemark_crc_table)], narrowed := true }
def MasterAllUptoSaid : Prop := masterAllUptoRow.holds Tryd.pinned (OpenSpec.upto masterAllSpec)

end Rows
end Go.Proofs.YtgelgjghmoddoaaDoor
