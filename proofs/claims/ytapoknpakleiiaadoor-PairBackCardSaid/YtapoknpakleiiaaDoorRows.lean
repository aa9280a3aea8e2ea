/-
  NARROWER THAN 'FOR EVERY INPUT', by the rows' own cells (each row's printed sentence says how): PairForms: laid · PairBack: laid · PairKeeps: laid · PairCrash: laid · PairTwice: laid.
  DERIVED. THE GIVEN ROWS OF THIS SEAT. 5 by the template 'for every input the law returns true; each argument reads behind the call as it read before'; 0 by the template 'total and deterministic' (their statements: YtapoknpakleiiaaDoorTotals.lean).
  GIVEN WITH THE SEED: the statements are not yours to turn. If you find one false, say at which input.
  Laid BY PROGRAM, IN A SANDBOX (cutbox-rows.mjs): the forced cells as the released guide's own fill.sh prints them over the translation 7d4559a2243e2a6a… (all of the seat's roots in one cut). By AI agents, Wed Nov 11 2026. No macro, syntax, notation, axiom, sorry.
-/
import Derived.Test.YtapoknpakleiiaaDoorChecked
import GoSem.Claim
import GoSem.ClaimJoined
import GoSem.ClaimMapViews
import Derived.JoinedTies
import Derived.KernelRfl
namespace Go.Proofs.YtapoknpakleiiaaDoor
/- THE CELL 'sum', in the pinned program and in every row, IS THE sha256 OF THE DUMP (.gsa) THAT YtapoknpakleiiaaDoorProg.lean LOADS. Nothing in Lean hashes anything: it is a label: what it is worth is what the hold of that sum in a sandbox is worth. -/
noncomputable def Tryd.pinned : Pinned := { name := "ytapoknpakleiiaadoor", sum := "7d4559a2243e2a6aa85e4c4955508f689bf899c89ee46ccccf622ab6c10ab8fd", checked := Tryd.checked }
namespace Rows
def none {H : Type} : Left H := { results := [], args := [] }

/- WHAT THE LISTED PACKAGE-LEVEL VARIABLES READ AS WHEN THE CALL BEGINS. Each datum BY PROGRAM (the guide's laid-datum.mjs) off the statement by which the dump's own 'gosem.cut.vars' lays the variable. In a bare row this is a premise. The card (YtapoknpakleiiaaDoorCards.lean) ties it to the program's text. -/
def laid_tidemark_crc_table {H : Type} : DataW H := .agg [.lit (.int .u32 0), .lit (.int .u32 498536548), .lit (.int .u32 997073096), .lit (.int .u32 651767980), .lit (.int .u32 1994146192), .lit (.int .u32 1802195444), .lit (.int .u32 1303535960), .lit (.int .u32 1342533948), .lit (.int .u32 3988292384), .lit (.int .u32 4027552580), .lit (.int .u32 3604390888), .lit (.int .u32 3412177804), .lit (.int .u32 2607071920), .lit (.int .u32 2262029012), .lit (.int .u32 2685067896), .lit (.int .u32 3183342108)]

/-- 'tidemarklaw13.PairForms': WHATEVER THE INPUT: true; the input reads as it did. -/
def pairFormsSpec : ChangeSpec := { name := "pairForms", fn := fun _ => fun
  | [d1, d2, d3, d4, d5] => { results := [.lit (.bool true)], args := [d1, d2, d3, d4, d5] }
  | _ => none }
def pairFormsRow : OpenClaim := { program := "ytapoknpakleiiaadoor", sum := "7d4559a2243e2a6aa85e4c4955508f689bf899c89ee46ccccf622ab6c10ab8fd", func := "tidemark/tidemarklaw13.PairForms", spec := "pairForms", unfollowed := true, recurses := true, named := ["tidemark/crc.table"], apart := false, laid := [("tidemark/crc.table", laid_tidemark_crc_table)] }
def PairFormsSaid : Prop := pairFormsRow.holds Tryd.pinned (OpenSpec.ofChange pairFormsSpec)

/-- ITS FALSE NEIGHBOUR: 'it returns false'. Refute it at one input. -/
def pairFormsWrong : ChangeSpec := { name := "pairForms", fn := fun _ => fun
  | [d1, d2, d3, d4, d5] => { results := [.lit (.bool false)], args := [d1, d2, d3, d4, d5] }
  | _ => none }
def PairFormsWrongFalsely : Prop := pairFormsRow.holds Tryd.pinned (OpenSpec.ofChange pairFormsWrong)

/-- 'tidemarklaw13.PairBack': WHATEVER THE INPUT: true; the input reads as it did. -/
def pairBackSpec : ChangeSpec := { name := "pairBack", fn := fun _ => fun
  | [d1, d2, d3, d4, d5, d6] => { results := [.lit (.bool true)], args := [d1, d2, d3, d4, d5, d6] }
  | _ => none }
def pairBackRow : OpenClaim := { program := "ytapoknpakleiiaadoor", sum := "7d4559a2243e2a6aa85e4c4955508f689bf899c89ee46ccccf622ab6c10ab8fd", func := "tidemark/tidemarklaw13.PairBack", spec := "pairBack", unfollowed := true, recurses := true, named := ["tidemark/crc.table"], apart := false, laid := [("tidemark/crc.table", laid_tidemark_crc_table)] }
def PairBackSaid : Prop := pairBackRow.holds Tryd.pinned (OpenSpec.ofChange pairBackSpec)

/-- ITS FALSE NEIGHBOUR: 'it returns false'. Refute it at one input. -/
def pairBackWrong : ChangeSpec := { name := "pairBack", fn := fun _ => fun
  | [d1, d2, d3, d4, d5, d6] => { results := [.lit (.bool false)], args := [d1, d2, d3, d4, d5, d6] }
  | _ => none }
def PairBackWrongFalsely : Prop := pairBackRow.holds Tryd.pinned (OpenSpec.ofChange pairBackWrong)

/-- 'tidemarklaw13.PairKeeps': WHATEVER THE INPUT: true; the input reads as it did. -/
def pairKeepsSpec : ChangeSpec := { name := "pairKeeps", fn := fun _ => fun
  | [d1, d2, d3] => { results := [.lit (.bool true)], args := [d1, d2, d3] }
  | _ => none }
def pairKeepsRow : OpenClaim := { program := "ytapoknpakleiiaadoor", sum := "7d4559a2243e2a6aa85e4c4955508f689bf899c89ee46ccccf622ab6c10ab8fd", func := "tidemark/tidemarklaw13.PairKeeps", spec := "pairKeeps", unfollowed := true, recurses := true, named := ["tidemark/crc.table"], apart := false, laid := [("tidemark/crc.table", laid_tidemark_crc_table)] }
def PairKeepsSaid : Prop := pairKeepsRow.holds Tryd.pinned (OpenSpec.ofChange pairKeepsSpec)

/-- ITS FALSE NEIGHBOUR: 'it returns false'. Refute it at one input. -/
def pairKeepsWrong : ChangeSpec := { name := "pairKeeps", fn := fun _ => fun
  | [d1, d2, d3] => { results := [.lit (.bool false)], args := [d1, d2, d3] }
  | _ => none }
def PairKeepsWrongFalsely : Prop := pairKeepsRow.holds Tryd.pinned (OpenSpec.ofChange pairKeepsWrong)

/-- 'tidemarklaw13.PairCrash': WHATEVER THE INPUT: true; the input reads as it did. -/
def pairCrashSpec : ChangeSpec := { name := "pairCrash", fn := fun _ => fun
  | [d] => { results := [.lit (.bool true)], args := [d] }
  | _ => none }
def pairCrashRow : OpenClaim := { program := "ytapoknpakleiiaadoor", sum := "7d4559a2243e2a6aa85e4c4955508f689bf899c89ee46ccccf622ab6c10ab8fd", func := "tidemark/tidemarklaw13.PairCrash", spec := "pairCrash", unfollowed := true, recurses := true, named := ["tidemark/crc.table"], apart := false, laid := [("tidemark/crc.table", laid_tidemark_crc_table)] }
def PairCrashSaid : Prop := pairCrashRow.holds Tryd.pinned (OpenSpec.ofChange pairCrashSpec)

/-- ITS FALSE NEIGHBOUR: 'it returns false'. Refute it at one input. -/
def pairCrashWrong : ChangeSpec := { name := "pairCrash", fn := fun _ => fun
  | [d] => { results := [.lit (.bool false)], args := [d] }
  | _ => none }
def PairCrashWrongFalsely : Prop := pairCrashRow.holds Tryd.pinned (OpenSpec.ofChange pairCrashWrong)

/-- 'tidemarklaw13.PairTwice': WHATEVER THE INPUT: true; the input reads as it did. -/
def pairTwiceSpec : ChangeSpec := { name := "pairTwice", fn := fun _ => fun
  | [] => { results := [.lit (.bool true)], args := [] }
  | _ => none }
def pairTwiceRow : OpenClaim := { program := "ytapoknpakleiiaadoor", sum := "7d4559a2243e2a6aa85e4c4955508f689bf899c89ee46ccccf622ab6c10ab8fd", func := "tidemark/tidemarklaw13.PairTwice", spec := "pairTwice", unfollowed := true, recurses := true, named := ["tidemark/crc.table"], apart := false, laid := [("tidemark/crc.table", laid_tidemark_crc_table)] }
def PairTwiceSaid : Prop := pairTwiceRow.holds Tryd.pinned (OpenSpec.ofChange pairTwiceSpec)

/-- ITS FALSE NEIGHBOUR: 'it returns false'. Refute it at one input. -/
def pairTwiceWrong : ChangeSpec := { name := "pairTwice", fn := fun _ => fun
  | [] => { results := [.lit (.bool false)], args := [] }
  | _ => none }
def PairTwiceWrongFalsely : Prop := pairTwiceRow.holds Tryd.pinned (OpenSpec.ofChange pairTwiceWrong)

/- THE SECOND FORM. 'bulk': how many values and letters a reading holds, each counted each time it is reached (what is shared counts as often as it is met; a slice's spare places count too). A statement '..UptoSaid' is the law's where the arguments, and the package variables that the reading takes, are together of bulk at most 1048576: NARROWER than '..Said'. Prove '..Said' where nothing that the law and all that it calls make is longer than what came in: it says more and counts as full. Else prove '..UptoSaid'. A law counts once. -/
mutual
def uptoBulk {H : Type} : DataW H → Nat
  | .lit (.string bytes) => bytes.length + 1
  | .lit _ => 1
  | .nil => 1
  | .ptr d => uptoBulk d + 1
  | .slice elems spare => uptoBulkAll elems + uptoBulkAll spare + 1
  | .agg parts => uptoBulkAll parts + 1
  | .iface _ d => uptoBulk d + 1
  | .map entries => uptoBulkEntries entries + 1
  | .held _ => 1
def uptoBulkAll {H : Type} : List (DataW H) → Nat
  | [] => 0
  | d :: r => uptoBulk d + uptoBulkAll r
def uptoBulkEntries {H : Type} : List (Lit × DataW H) → Nat
  | [] => 0
  | x :: r => uptoBulkEntry x + uptoBulkEntries r
def uptoBulkEntry {H : Type} : Lit × DataW H → Nat
  | (.string bytes, d) => bytes.length + uptoBulk d + 1
  | (_, d) => uptoBulk d + 1
 end
def uptoSmall : (H : Type) → List (DataW H) → Bool := fun _ ds => decide (uptoBulkAll ds ≤ 1048576)
def OpenSpec.upto (s : _root_.Go.ChangeSpec) : _root_.Go.OpenSpec := { _root_.Go.OpenSpec.ofChange s with cond := some uptoSmall }

/-- 'tidemarklaw13.PairForms', WHERE WHAT IT READS IS OF BULK AT MOST 1048576: true; the input reads as it did. -/
def pairFormsUptoRow : OpenClaim := { program := "ytapoknpakleiiaadoor", sum := "7d4559a2243e2a6aa85e4c4955508f689bf899c89ee46ccccf622ab6c10ab8fd", func := "tidemark/tidemarklaw13.PairForms", spec := "pairForms", unfollowed := true, recurses := true, named := ["tidemark/crc.table"], apart := false, laid := [("tidemark/crc.table", laid_tidemark_crc_table)], narrowed := true }
def PairFormsUptoSaid : Prop := pairFormsUptoRow.holds Tryd.pinned (OpenSpec.upto pairFormsSpec)

/-- 'tidemarklaw13.PairBack', WHERE WHAT IT READS IS OF BULK AT MOST 1048576: true; the input reads as it did. -/
def pairBackUptoRow : OpenClaim := { program := "ytapoknpakleiiaadoor", sum := "7d4559a2243e2a6aa85e4c4955508f689bf899c89ee46ccccf622ab6c10ab8fd", func := "tidemark/tidemarklaw13.PairBack", spec := "pairBack", unfollowed := true, recurses := true, named := ["tidemark/crc.table"], apart := false, laid := [("tidemark/crc.table", laid_tidemark_crc_table)], narrowed := true }
def PairBackUptoSaid : Prop := pairBackUptoRow.holds Tryd.pinned (OpenSpec.upto pairBackSpec)

/-- 'tidemarklaw13.PairKeeps', WHERE WHAT IT READS IS OF BULK AT MOST 1048576: true; the input reads as it did. -/
def pairKeepsUptoRow : OpenClaim := { program := "ytapoknpakleiiaadoor", sum := "7d4559a2243e2a6aa85e4c4955508f689bf899c89ee46ccccf622ab6c10ab8fd", func := "tidemark/tidemarklaw13.PairKeeps", spec := "pairKeeps", unfollowed := true, recurses := true, named := ["tidemark/crc.table"], apart := false, laid := [("tidemark/crc.table", laid_tidemark_crc_table)], narrowed := true }
def PairKeepsUptoSaid : Prop := pairKeepsUptoRow.holds Tryd.pinned (OpenSpec.upto pairKeepsSpec)

/-- 'tidemarklaw13.PairCrash', WHERE WHAT IT READS IS OF BULK AT MOST 1048576: true; the input reads as it did. -/
def pairCrashUptoRow : OpenClaim := { program := "ytapoknpakleiiaadoor", sum := "7d4559a2243e2a6aa85e4c4955508f689bf899c89ee46ccccf622ab6c10ab8fd", func := "tidemark/tidemarklaw13.PairCrash", spec := "pairCrash", unfollowed := true, recurses := true, named := ["tidemark/crc.table"], apart := false, laid := [("tidemark/crc.table", laid_tidemark_crc_table)], narrowed := true }
def PairCrashUptoSaid : Prop := pairCrashUptoRow.holds Tryd.pinned (OpenSpec.upto pairCrashSpec)

/-- 'tidemarklaw13.PairTwice', WHERE WHAT IT READS IS OF BULK AT MOST 1048576: true; the input reads as it did. -/
def pairTwiceUptoRow : OpenClaim := { program := "ytapoknpakleiiaadoor", sum := "7d4559a2243e2a6aa85e4c4955508f689bf899c89ee46ccccf622ab6c10ab8fd", func := "tidemark/tidemarklaw13.PairTwice", spec := "pairTwice", unfollowed := true, recurses := true, named := ["tidemark/crc.table"], apart := false, laid := [("tidemark/crc.table", laid_tidemark_crc_table)], narrowed := true }
def PairTwiceUptoSaid : Prop := pairTwiceUptoRow.holds Tryd.pinned (OpenSpec.upto pairTwiceSpec)

end Rows
end Go.Proofs.YtapoknpakleiiaaDoor
