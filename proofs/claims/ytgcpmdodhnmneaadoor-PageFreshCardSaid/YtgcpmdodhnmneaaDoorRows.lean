/-
  NARROWER THAN 'FOR EVERY INPUT', by the rows' own cells (each row's printed sentence says how): PageMakes: laid · PageChecks: laid · PageStamps: laid · PageTears: laid · PageTurned: laid · PageSlots: laid · PageBack: laid · PageFresh: laid.
  DERIVED. THE GIVEN ROWS OF THIS SEAT. 8 by the template 'for every input the law returns true; each argument reads behind the call as it read before'; 0 by the template 'total and deterministic' (their statements: YtgcpmdodhnmneaaDoorTotals.lean).
  GIVEN WITH THE SEED: the statements are not yours to turn. If you find one false, say at which input.
  Laid BY PROGRAM, IN A SANDBOX (cutbox-rows.mjs): the forced cells as the released guide's own fill.sh prints them over the translation c956256fa382e8f6… (all of the seat's roots in one cut). By AI agents, Wed Nov 11 2026. No macro, syntax, notation, axiom, sorry.
-/
import Derived.Test.YtgcpmdodhnmneaaDoorChecked
import GoSem.Claim
import GoSem.ClaimJoined
import GoSem.ClaimMapViews
import Derived.JoinedTies
import Derived.KernelRfl
namespace Go.Proofs.YtgcpmdodhnmneaaDoor
/- THE CELL 'sum', in the pinned program and in every row, IS THE sha256 OF THE DUMP (.gsa) THAT YtgcpmdodhnmneaaDoorProg.lean LOADS. Nothing in Lean hashes anything: it is a label: what it is worth is what the hold of that sum in a sandbox is worth. -/
noncomputable def Tryd.pinned : Pinned := { name := "ytgcpmdodhnmneaadoor", sum := "c956256fa382e8f68833c2417161433bc89b32efe92f2f280a366de132a9c79c", checked := Tryd.checked }
namespace Rows
def none {H : Type} : Left H := { results := [], args := [] }

/- WHAT THE LISTED PACKAGE-LEVEL VARIABLES READ AS WHEN THE CALL BEGINS. Each datum BY PROGRAM (the guide's laid-datum.mjs) off the statement by which the dump's own 'gosem.cut.vars' lays the variable. In a bare row this is a premise. The card (YtgcpmdodhnmneaaDoorCards.lean) ties it to the program's text. -/
def laid_tidemark_crc_table {H : Type} : DataW H := .agg [.lit (.int .u32 0), .lit (.int .u32 498536548), .lit (.int .u32 997073096), .lit (.int .u32 651767980), .lit (.int .u32 1994146192), .lit (.int .u32 1802195444), .lit (.int .u32 1303535960), .lit (.int .u32 1342533948), .lit (.int .u32 3988292384), .lit (.int .u32 4027552580), .lit (.int .u32 3604390888), .lit (.int .u32 3412177804), .lit (.int .u32 2607071920), .lit (.int .u32 2262029012), .lit (.int .u32 2685067896), .lit (.int .u32 3183342108)]

/-- 'tidemarklaw04.PageMakes': WHATEVER THE INPUT: true; the input reads as it did. -/
def pageMakesSpec : ChangeSpec := { name := "pageMakes", fn := fun _ => fun
  | [d1, d2] => { results := [.lit (.bool true)], args := [d1, d2] }
  | _ => none }
def pageMakesRow : OpenClaim := { program := "ytgcpmdodhnmneaadoor", sum := "c956256fa382e8f68833c2417161433bc89b32efe92f2f280a366de132a9c79c", func := "tidemark/tidemarklaw04.PageMakes", spec := "pageMakes", unfollowed := true, recurses := true, named := ["tidemark/crc.table"], apart := false, laid := [("tidemark/crc.table", laid_tidemark_crc_table)] }
def PageMakesSaid : Prop := pageMakesRow.holds Tryd.pinned (OpenSpec.ofChange pageMakesSpec)

/-- ITS FALSE NEIGHBOUR: 'it returns false'. Refute it at one input. -/
def pageMakesWrong : ChangeSpec := { name := "pageMakes", fn := fun _ => fun
  | [d1, d2] => { results := [.lit (.bool false)], args := [d1, d2] }
  | _ => none }
def PageMakesWrongFalsely : Prop := pageMakesRow.holds Tryd.pinned (OpenSpec.ofChange pageMakesWrong)

/-- 'tidemarklaw04.PageChecks': WHATEVER THE INPUT: true; the input reads as it did. -/
def pageChecksSpec : ChangeSpec := { name := "pageChecks", fn := fun _ => fun
  | [d1, d2, d3] => { results := [.lit (.bool true)], args := [d1, d2, d3] }
  | _ => none }
def pageChecksRow : OpenClaim := { program := "ytgcpmdodhnmneaadoor", sum := "c956256fa382e8f68833c2417161433bc89b32efe92f2f280a366de132a9c79c", func := "tidemark/tidemarklaw04.PageChecks", spec := "pageChecks", unfollowed := true, recurses := true, named := ["tidemark/crc.table"], apart := false, laid := [("tidemark/crc.table", laid_tidemark_crc_table)] }
def PageChecksSaid : Prop := pageChecksRow.holds Tryd.pinned (OpenSpec.ofChange pageChecksSpec)

/-- ITS FALSE NEIGHBOUR: 'it returns false'. Refute it at one input. -/
def pageChecksWrong : ChangeSpec := { name := "pageChecks", fn := fun _ => fun
  | [d1, d2, d3] => { results := [.lit (.bool false)], args := [d1, d2, d3] }
  | _ => none }
def PageChecksWrongFalsely : Prop := pageChecksRow.holds Tryd.pinned (OpenSpec.ofChange pageChecksWrong)

/-- 'tidemarklaw04.PageStamps': WHATEVER THE INPUT: true; the input reads as it did. -/
def pageStampsSpec : ChangeSpec := { name := "pageStamps", fn := fun _ => fun
  | [d1, d2, d3] => { results := [.lit (.bool true)], args := [d1, d2, d3] }
  | _ => none }
def pageStampsRow : OpenClaim := { program := "ytgcpmdodhnmneaadoor", sum := "c956256fa382e8f68833c2417161433bc89b32efe92f2f280a366de132a9c79c", func := "tidemark/tidemarklaw04.PageStamps", spec := "pageStamps", unfollowed := true, recurses := true, named := ["tidemark/crc.table"], apart := false, laid := [("tidemark/crc.table", laid_tidemark_crc_table)] }
def PageStampsSaid : Prop := pageStampsRow.holds Tryd.pinned (OpenSpec.ofChange pageStampsSpec)

/-- ITS FALSE NEIGHBOUR: 'it returns false'. Refute it at one input. -/
def pageStampsWrong : ChangeSpec := { name := "pageStamps", fn := fun _ => fun
  | [d1, d2, d3] => { results := [.lit (.bool false)], args := [d1, d2, d3] }
  | _ => none }
def PageStampsWrongFalsely : Prop := pageStampsRow.holds Tryd.pinned (OpenSpec.ofChange pageStampsWrong)

/-- 'tidemarklaw04.PageTears': WHATEVER THE INPUT: true; the input reads as it did. -/
def pageTearsSpec : ChangeSpec := { name := "pageTears", fn := fun _ => fun
  | [d1, d2, d3, d4] => { results := [.lit (.bool true)], args := [d1, d2, d3, d4] }
  | _ => none }
def pageTearsRow : OpenClaim := { program := "ytgcpmdodhnmneaadoor", sum := "c956256fa382e8f68833c2417161433bc89b32efe92f2f280a366de132a9c79c", func := "tidemark/tidemarklaw04.PageTears", spec := "pageTears", unfollowed := true, recurses := true, named := ["tidemark/crc.table"], apart := false, laid := [("tidemark/crc.table", laid_tidemark_crc_table)] }
def PageTearsSaid : Prop := pageTearsRow.holds Tryd.pinned (OpenSpec.ofChange pageTearsSpec)

/-- ITS FALSE NEIGHBOUR: 'it returns false'. Refute it at one input. -/
def pageTearsWrong : ChangeSpec := { name := "pageTears", fn := fun _ => fun
  | [d1, d2, d3, d4] => { results := [.lit (.bool false)], args := [d1, d2, d3, d4] }
  | _ => none }
def PageTearsWrongFalsely : Prop := pageTearsRow.holds Tryd.pinned (OpenSpec.ofChange pageTearsWrong)

/-- 'tidemarklaw04.PageTurned': WHATEVER THE INPUT: true; the input reads as it did. -/
def pageTurnedSpec : ChangeSpec := { name := "pageTurned", fn := fun _ => fun
  | [d1, d2, d3] => { results := [.lit (.bool true)], args := [d1, d2, d3] }
  | _ => none }
def pageTurnedRow : OpenClaim := { program := "ytgcpmdodhnmneaadoor", sum := "c956256fa382e8f68833c2417161433bc89b32efe92f2f280a366de132a9c79c", func := "tidemark/tidemarklaw04.PageTurned", spec := "pageTurned", unfollowed := true, recurses := true, named := ["tidemark/crc.table"], apart := false, laid := [("tidemark/crc.table", laid_tidemark_crc_table)] }
def PageTurnedSaid : Prop := pageTurnedRow.holds Tryd.pinned (OpenSpec.ofChange pageTurnedSpec)

/-- ITS FALSE NEIGHBOUR: 'it returns false'. Refute it at one input. -/
def pageTurnedWrong : ChangeSpec := { name := "pageTurned", fn := fun _ => fun
  | [d1, d2, d3] => { results := [.lit (.bool false)], args := [d1, d2, d3] }
  | _ => none }
def PageTurnedWrongFalsely : Prop := pageTurnedRow.holds Tryd.pinned (OpenSpec.ofChange pageTurnedWrong)

/-- 'tidemarklaw04.PageSlots': WHATEVER THE INPUT: true; the input reads as it did. -/
def pageSlotsSpec : ChangeSpec := { name := "pageSlots", fn := fun _ => fun
  | [d1, d2, d3] => { results := [.lit (.bool true)], args := [d1, d2, d3] }
  | _ => none }
def pageSlotsRow : OpenClaim := { program := "ytgcpmdodhnmneaadoor", sum := "c956256fa382e8f68833c2417161433bc89b32efe92f2f280a366de132a9c79c", func := "tidemark/tidemarklaw04.PageSlots", spec := "pageSlots", unfollowed := true, recurses := true, named := ["tidemark/crc.table"], apart := false, laid := [("tidemark/crc.table", laid_tidemark_crc_table)] }
def PageSlotsSaid : Prop := pageSlotsRow.holds Tryd.pinned (OpenSpec.ofChange pageSlotsSpec)

/-- ITS FALSE NEIGHBOUR: 'it returns false'. Refute it at one input. -/
def pageSlotsWrong : ChangeSpec := { name := "pageSlots", fn := fun _ => fun
  | [d1, d2, d3] => { results := [.lit (.bool false)], args := [d1, d2, d3] }
  | _ => none }
def PageSlotsWrongFalsely : Prop := pageSlotsRow.holds Tryd.pinned (OpenSpec.ofChange pageSlotsWrong)

/-- 'tidemarklaw04.PageBack': WHATEVER THE INPUT: true; the input reads as it did. -/
def pageBackSpec : ChangeSpec := { name := "pageBack", fn := fun _ => fun
  | [d1, d2, d3] => { results := [.lit (.bool true)], args := [d1, d2, d3] }
  | _ => none }
def pageBackRow : OpenClaim := { program := "ytgcpmdodhnmneaadoor", sum := "c956256fa382e8f68833c2417161433bc89b32efe92f2f280a366de132a9c79c", func := "tidemark/tidemarklaw04.PageBack", spec := "pageBack", unfollowed := true, recurses := true, named := ["tidemark/crc.table"], apart := false, laid := [("tidemark/crc.table", laid_tidemark_crc_table)] }
def PageBackSaid : Prop := pageBackRow.holds Tryd.pinned (OpenSpec.ofChange pageBackSpec)

/-- ITS FALSE NEIGHBOUR: 'it returns false'. Refute it at one input. -/
def pageBackWrong : ChangeSpec := { name := "pageBack", fn := fun _ => fun
  | [d1, d2, d3] => { results := [.lit (.bool false)], args := [d1, d2, d3] }
  | _ => none }
def PageBackWrongFalsely : Prop := pageBackRow.holds Tryd.pinned (OpenSpec.ofChange pageBackWrong)

/-- 'tidemarklaw04.PageFresh': WHATEVER THE INPUT: true; the input reads as it did. -/
def pageFreshSpec : ChangeSpec := { name := "pageFresh", fn := fun _ => fun
  | [d1, d2, d3] => { results := [.lit (.bool true)], args := [d1, d2, d3] }
  | _ => none }
def pageFreshRow : OpenClaim := { program := "ytgcpmdodhnmneaadoor", sum := "c956256fa382e8f68833c2417161433bc89b32efe92f2f280a366de132a9c79c", func := "tidemark/tidemarklaw04.PageFresh", spec := "pageFresh", unfollowed := true, recurses := true, named := ["tidemark/crc.table"], apart := false, laid := [("tidemark/crc.table", laid_tidemark_crc_table)] }
def PageFreshSaid : Prop := pageFreshRow.holds Tryd.pinned (OpenSpec.ofChange pageFreshSpec)

/-- ITS FALSE NEIGHBOUR: 'it returns false'. Refute it at one input. -/
def pageFreshWrong : ChangeSpec := { name := "pageFresh", fn := fun _ => fun
  | [d1, d2, d3] => { results := [.lit (.bool false)], args := [d1, d2, d3] }
  | _ => none }
def PageFreshWrongFalsely : Prop := pageFreshRow.holds Tryd.pinned (OpenSpec.ofChange pageFreshWrong)

/- THE SECOND FORM. 'bulk': how many values and letters a reading holds, each counted each time it is reached (what is shared counts as often as it is met; a slice's spare places count too). A statement '..UptoSaid' is the law's where the arguments, and the package variables that the reading takes, are together of bulk at most 1048576: NARROWER than '..Said'. Prove '..Said' where nothing that the law and all that it calls make is longer than what came in: it says more and counts as full. Else prove '..UptoSaid'. A law counts once. -/
mutual
def uptoBulk {H : Type} : DataW H → Nat
  | .lit (.string bytes) => bytes.length + 1
  | .lit _ => 1
  | .nil => 1
  | .ptr d => uptoBulk d + 1
  | .slice elems spare => uptoBulkAll elems + uptoBulkAll spare + 1
  | .agg parts => uptoBulkAll parts + 1
  | .iface _ d => uptoBulk d + 1
  | .map entries => uptoBulkEntries entries + 1
  | .held _ => 1
def uptoBulkAll {H : Type} : List (DataW H) → Nat
  | [] => 0
  | d :: r => uptoBulk d + uptoBulkAll r
def uptoBulkEntries {H : Type} : List (Lit × DataW H) → Nat
  | [] => 0
  | x :: r => uptoBulkEntry x + uptoBulkEntries r
def uptoBulkEntry {H : Type} : Lit × DataW H → Nat
  | (.string bytes, d) => bytes.length + uptoBulk d + 1
  | (_, d) => uptoBulk d + 1
 end
def uptoSmall : (H : Type) → List (DataW H) → Bool := fun _ ds => decide (uptoBulkAll ds ≤ 1048576)
def OpenSpec.upto (s : _root_.Go.ChangeSpec) : _root_.Go.OpenSpec := { _root_.Go.OpenSpec.ofChange s with cond := some uptoSmall }

/-- 'tidemarklaw04.PageMakes', WHERE WHAT IT READS IS OF BULK AT MOST 1048576: true; the input reads as it did. -/
def pageMakesUptoRow : OpenClaim := { program := "ytgcpmdodhnmneaadoor", sum := "c956256fa382e8f68833c2417161433bc89b32efe92f2f280a366de132a9c79c", func := "tidemark/tidemarklaw04.PageMakes", spec := "pageMakes", unfollowed := true, recurses := true, named := ["tidemark/crc.table"], apart := false, laid := [("tidemark/crc.table", laid_tidemark_crc_table)], narrowed := true }
def PageMakesUptoSaid : Prop := pageMakesUptoRow.holds Tryd.pinned (OpenSpec.upto pageMakesSpec)

/-- 'tidemarklaw04.PageChecks', WHERE WHAT IT READS IS OF BULK AT MOST 1048576: true; the input reads as it did. -/
def pageChecksUptoRow : OpenClaim := { program := "ytgcpmdodhnmneaadoor", sum := "c956256fa382e8f68833c2417161433bc89b32efe92f2f280a366de132a9c79c", func := "tidemark/tidemarklaw04.PageChecks", spec := "pageChecks", unfollowed := true, recurses := true, named := ["tidemark/crc.table"], apart := false, laid := [("tidemark/crc.table", laid_tidemark_crc_table)], narrowed := true }
def PageChecksUptoSaid : Prop := pageChecksUptoRow.holds Tryd.pinned (OpenSpec.upto pageChecksSpec)

/-- 'tidemarklaw04.PageStamps', WHERE WHAT IT READS IS OF BULK AT MOST 1048576: true; the input reads as it did. -/
def pageStampsUptoRow : OpenClaim := { program := "ytgcpmdodhnmneaadoor", sum := "c956256fa382e8f68833c2417161433bc89b32efe92f2f280a366de132a9c79c", func := "tidemark/tidemarklaw04.PageStamps", spec := "pageStamps", unfollowed := true, recurses := true, named := ["tidemark/crc.table"], apart := false, laid := [("tidemark/crc.table", laid_tidemark_crc_table)], narrowed := true }
def PageStampsUptoSaid : Prop := pageStampsUptoRow.holds Tryd.pinned (OpenSpec.upto pageStampsSpec)

/-- 'tidemarklaw04.PageTears', WHERE WHAT IT READS IS OF BULK AT MOST 1048576: true; the input reads as it did. -/
def pageTearsUptoRow : OpenClaim := { program := "ytgcpmdodhnmneaadoor", sum := "c956256fa382e8f68833c2417161433bc89b32efe92f2f280a366de132a9c79c", func := "tidemark/tidemarklaw04.PageTears", spec := "pageTears", unfollowed := true, recurses := true, named := ["tidemark/crc.table"], apart := false, laid := [("tidemark/crc.table", laid_tidemark_crc_table)], narrowed := true }
def PageTearsUptoSaid : Prop := pageTearsUptoRow.holds Tryd.pinned (OpenSpec.upto pageTearsSpec)

/-- 'tidemarklaw04.PageTurned', WHERE WHAT IT READS IS OF BULK AT MOST 1048576: true; the input reads as it did. -/
def pageTurnedUptoRow : OpenClaim := { program := "ytgcpmdodhnmneaadoor", sum := "c956256fa382e8f68833c2417161433bc89b32efe92f2f280a366de132a9c79c", func := "tidemark/tidemarklaw04.PageTurned", spec := "pageTurned", unfollowed := true, recurses := true, named := ["tidemark/crc.table"], apart := false, laid := [("tidemark/crc.table", laid_tidemark_crc_table)], narrowed := true }
def PageTurnedUptoSaid : Prop := pageTurnedUptoRow.holds Tryd.pinned (OpenSpec.upto pageTurnedSpec)

/-- 'tidemarklaw04.PageSlots', WHERE WHAT IT READS IS OF BULK AT MOST 1048576: true; the input reads as it did. -/
def pageSlotsUptoRow : OpenClaim := { program := "ytgcpmdodhnmneaadoor", sum := "c956256fa382e8f68833c2417161433bc89b32efe92f2f280a366de132a9c79c", func := "tidemark/tidemarklaw04.PageSlots", spec := "pageSlots", unfollowed := true, recurses := true, named := ["tidemark/crc.table"], apart := false, laid := [("tidemark/crc.table", laid_tidemark_crc_table)], narrowed := true }
def PageSlotsUptoSaid : Prop := pageSlotsUptoRow.holds Tryd.pinned (OpenSpec.upto pageSlotsSpec)

/-- 'tidemarklaw04.PageBack', WHERE WHAT IT READS IS OF BULK AT MOST 1048576: true; the input reads as it did. -/
def pageBackUptoRow : OpenClaim := { program := "ytgcpmdodhnmneaadoor", sum := "c956256fa382e8f68833c2417161433bc89b32efe92f2f280a366de132a9c79c", func := "tidemark/tidemarklaw04.PageBack", spec := "pageBack", unfollowed := true, recurses := true, named := ["tidemark/crc.table"], apart := false, laid := [("tidemark/crc.table", laid_tidemark_crc_table)], narrowed := true }
def PageBackUptoSaid : Prop := pageBackUptoRow.holds Tryd.pinned (OpenSpec.upto pageBackSpec)

/-- 'tidemarklaw04.PageFresh', WHERE WHAT IT READS IS OF BULK AT MOST 1048576: true; the input reads as it did. -/
def pageFreshUptoRow : OpenClaim := { program := "ytgcpmdodhnmneaadoor", sum := "c956256fa382e8f68833c2417161433bc89b32efe92f2f280a366de132a9c79c", func := "tidemark/tidemarklaw04.PageFresh", spec := "pageFresh", unfollowed := true, recurses := true, named := ["tidemark/crc.table"], apart := false, laid := [("tidemark/crc.table", laid_tidemark_crc_table)], narrowed := true }
def PageFreshUptoSaid : Prop := pageFreshUptoRow.holds Tryd.pinned (OpenSpec.upto pageFreshSpec)

end Rows
end Go.Proofs.YtgcpmdodhnmneaaDoor
