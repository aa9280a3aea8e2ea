/-
  DERIVED. GIVEN WITH THE SEED: THE CARDS: each row of YtgelgjghmoddoaaDoorRows.lean that lists a variable, with what it lists TIED to the program's text (the seventh form; the later family's looks); each row that meets fmt, with fmt's text TOLD by the authors' own Lean function (tested against real Go, not proved from fmt's source: count such statements apart). THE CARD IS WHAT COUNTS. Prove the row's statement (the work); the ties are given (YtgelgjghmoddoaaDoorTie.lean); close each card by the builder's one call (the guide's Derived/Test/ToyasCard.lean, 'card_holds'). Laid BY PROGRAM, IN A SANDBOX (cutbox-door.mjs). By AI agents, Wed Nov 11 2026. No macro, syntax, notation, axiom, sorry.
-/
import Derived.Test.YtgelgjghmoddoaaDoorRows
import GoSem.ClaimSeven
namespace Go.Proofs.YtgelgjghmoddoaaDoor
namespace Rows

/-- THE TIED CARD OF 'tidemarklaw07.MasterBytes'. -/
def masterBytesCard : Claim7 := { stood := { row := masterBytesRow, standIns := [], harness := (true, "2bc6dd2850820eb1a0f036a704bc8162404ae416839dbcb8277563b711d921d0"), looks := false }, kinds := [], alts := [], laidByText := true, laidKinds := [.data], laidTests := true, laidLooks := .later }
def MasterBytesCardSaid : Prop := Claim7.holds Tryd.pinned (.plain (OpenSpec.ofChange masterBytesSpec)) masterBytesCard

/-- THE TIED CARD OF 'tidemarklaw07.MasterReads'. -/
def masterReadsCard : Claim7 := { stood := { row := masterReadsRow, standIns := [], harness := (true, "2bc6dd2850820eb1a0f036a704bc8162404ae416839dbcb8277563b711d921d0"), looks := false }, kinds := [], alts := [], laidByText := true, laidKinds := [.data], laidTests := true, laidLooks := .later }
def MasterReadsCardSaid : Prop := Claim7.holds Tryd.pinned (.plain (OpenSpec.ofChange masterReadsSpec)) masterReadsCard

/-- THE TIED CARD OF 'tidemarklaw07.MasterFresh'. -/
def masterFreshCard : Claim7 := { stood := { row := masterFreshRow, standIns := [], harness := (true, "2bc6dd2850820eb1a0f036a704bc8162404ae416839dbcb8277563b711d921d0"), looks := false }, kinds := [], alts := [], laidByText := true, laidKinds := [.data], laidTests := true, laidLooks := .later }
def MasterFreshCardSaid : Prop := Claim7.holds Tryd.pinned (.plain (OpenSpec.ofChange masterFreshSpec)) masterFreshCard

/-- THE TIED CARD OF 'tidemarklaw07.MasterTurns'. -/
def masterTurnsCard : Claim7 := { stood := { row := masterTurnsRow, standIns := [], harness := (true, "2bc6dd2850820eb1a0f036a704bc8162404ae416839dbcb8277563b711d921d0"), looks := false }, kinds := [], alts := [], laidByText := true, laidKinds := [.data], laidTests := true, laidLooks := .later }
def MasterTurnsCardSaid : Prop := Claim7.holds Tryd.pinned (.plain (OpenSpec.ofChange masterTurnsSpec)) masterTurnsCard

/-- THE TIED CARD OF 'tidemarklaw07.MasterAll'. -/
def masterAllCard : Claim7 := { stood := { row := masterAllRow, standIns := [], harness := (true, "2bc6dd2850820eb1a0f036a704bc8162404ae416839dbcb8277563b711d921d0"), looks := false }, kinds := [], alts := [], laidByText := true, laidKinds := [.data], laidTests := true, laidLooks := .later }
def MasterAllCardSaid : Prop := Claim7.holds Tryd.pinned (.plain (OpenSpec.ofChange masterAllSpec)) masterAllCard

/-- THE SECOND FORM's CARD OF 'tidemarklaw07.MasterBytes'. -/
def masterBytesUptoCard : Claim7 := { stood := { row := masterBytesUptoRow, standIns := [], harness := (true, "2bc6dd2850820eb1a0f036a704bc8162404ae416839dbcb8277563b711d921d0"), looks := false }, kinds := [], alts := [], laidByText := true, laidKinds := [.data], laidTests := true, laidLooks := .later }
def MasterBytesUptoCardSaid : Prop := Claim7.holds Tryd.pinned (.plain (OpenSpec.upto masterBytesSpec)) masterBytesUptoCard

/-- THE SECOND FORM's CARD OF 'tidemarklaw07.MasterReads'. -/
def masterReadsUptoCard : Claim7 := { stood := { row := masterReadsUptoRow, standIns := [], harness := (true, "2bc6dd2850820eb1a0f036a704bc8162404ae416839dbcb8277563b711d921d0"), looks := false }, kinds := [], alts := [], laidByText := true, laidKinds := [.data], laidTests := true, laidLooks := .later }
def MasterReadsUptoCardSaid : Prop := Claim7.holds Tryd.pinned (.plain (OpenSpec.upto masterReadsSpec)) masterReadsUptoCard

/-- THE SECOND FORM's CARD OF 'tidemarklaw07.MasterFresh'. -/
def masterFreshUptoCard : Claim7 := { stood := { row := masterFreshUptoRow, standIns := [], harness := (true, "2bc6dd2850820eb1a0f036a704bc8162404ae416839dbcb8277563b711d921d0"), looks := false }, kinds := [], alts := [], laidByText := true, laidKinds := [.data], laidTests := true, laidLooks := .later }
def MasterFreshUptoCardSaid : Prop := Claim7.holds Tryd.pinned (.plain (OpenSpec.upto masterFreshSpec)) masterFreshUptoCard

/-- THE SECOND FORM's CARD OF 'tidemarklaw07.MasterTurns'. -/
def masterTurnsUptoCard : Claim7 := { stood := { row := masterTurnsUptoRow, standIns := [], harness := (true, "2bc6dd2850820eb1a0f036a704bc8162404ae416839dbcb8277563b711d921d0"), looks := false }, kinds := [], alts := [], laidByText := true, laidKinds := [.data], laidTests := true, laidLooks := .later }
def MasterTurnsUptoCardSaid : Prop := Claim7.holds Tryd.pinned (.plain (OpenSpec.upto masterTurnsSpec)) masterTurnsUptoCard

/-- THE SECOND FORM's CARD OF 'tidemarklaw07.MasterAll'. -/
def masterAllUptoCard : Claim7 := { stood := { row := masterAllUptoRow, standIns := [], harness := (true, "2bc6dd2850820eb1a0f036a704bc8162404ae416839dbcb8277563b711d921d0"), looks := false }, kinds := [], alts := [], laidByText := true, laidKinds := [.data], laidTests := true, laidLooks := .later }
def MasterAllUptoCardSaid : Prop := Claim7.holds Tryd.pinned (.plain (OpenSpec.upto masterAllSpec)) masterAllUptoCard
end Rows
end Go.Proofs.YtgelgjghmoddoaaDoor
