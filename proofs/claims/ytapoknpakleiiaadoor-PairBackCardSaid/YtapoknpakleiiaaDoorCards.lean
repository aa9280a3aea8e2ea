/-
  DERIVED. GIVEN WITH THE SEED: THE CARDS: each row of YtapoknpakleiiaaDoorRows.lean that lists a variable, with what it lists TIED to the program's text (the seventh form; the later family's looks); each row that meets fmt, with fmt's text TOLD by the authors' own Lean function (tested against real Go, not proved from fmt's source: count such statements apart). THE CARD IS WHAT COUNTS. Prove the row's statement (the work); the ties are given (YtapoknpakleiiaaDoorTie.lean); close each card by the builder's one call (the guide's Derived/Test/ToyasCard.lean, 'card_holds'). Laid BY PROGRAM, IN A SANDBOX (cutbox-door.mjs). By AI agents, Wed Nov 11 2026. No macro, syntax, notation, axiom, sorry.
-/
import Derived.Test.YtapoknpakleiiaaDoorRows
import GoSem.ClaimSeven
namespace Go.Proofs.YtapoknpakleiiaaDoor
namespace Rows

/-- THE TIED CARD OF 'tidemarklaw13.PairForms'. -/
def pairFormsCard : Claim7 := { stood := { row := pairFormsRow, standIns := [], harness := (true, "16b13ea5d8cdc95a6d3967a4673cfa4d7527ea2fbef6d26a1a5041335a4df68d"), looks := false }, kinds := [], alts := [], laidByText := true, laidKinds := [.data], laidTests := true, laidLooks := .later }
def PairFormsCardSaid : Prop := Claim7.holds Tryd.pinned (.plain (OpenSpec.ofChange pairFormsSpec)) pairFormsCard

/-- THE TIED CARD OF 'tidemarklaw13.PairBack'. -/
def pairBackCard : Claim7 := { stood := { row := pairBackRow, standIns := [], harness := (true, "16b13ea5d8cdc95a6d3967a4673cfa4d7527ea2fbef6d26a1a5041335a4df68d"), looks := false }, kinds := [], alts := [], laidByText := true, laidKinds := [.data], laidTests := true, laidLooks := .later }
def PairBackCardSaid : Prop := Claim7.holds Tryd.pinned (.plain (OpenSpec.ofChange pairBackSpec)) pairBackCard

/-- THE TIED CARD OF 'tidemarklaw13.PairKeeps'. -/
def pairKeepsCard : Claim7 := { stood := { row := pairKeepsRow, standIns := [], harness := (true, "16b13ea5d8cdc95a6d3967a4673cfa4d7527ea2fbef6d26a1a5041335a4df68d"), looks := false }, kinds := [], alts := [], laidByText := true, laidKinds := [.data], laidTests := true, laidLooks := .later }
def PairKeepsCardSaid : Prop := Claim7.holds Tryd.pinned (.plain (OpenSpec.ofChange pairKeepsSpec)) pairKeepsCard

/-- THE TIED CARD OF 'tidemarklaw13.PairCrash'. -/
def pairCrashCard : Claim7 := { stood := { row := pairCrashRow, standIns := [], harness := (true, "16b13ea5d8cdc95a6d3967a4673cfa4d7527ea2fbef6d26a1a5041335a4df68d"), looks := false }, kinds := [], alts := [], laidByText := true, laidKinds := [.data], laidTests := true, laidLooks := .later }
def PairCrashCardSaid : Prop := Claim7.holds Tryd.pinned (.plain (OpenSpec.ofChange pairCrashSpec)) pairCrashCard

/-- THE TIED CARD OF 'tidemarklaw13.PairTwice'. -/
def pairTwiceCard : Claim7 := { stood := { row := pairTwiceRow, standIns := [], harness := (true, "16b13ea5d8cdc95a6d3967a4673cfa4d7527ea2fbef6d26a1a5041335a4df68d"), looks := false }, kinds := [], alts := [], laidByText := true, laidKinds := [.data], laidTests := true, laidLooks := .later }
def PairTwiceCardSaid : Prop := Claim7.holds Tryd.pinned (.plain (OpenSpec.ofChange pairTwiceSpec)) pairTwiceCard

/-- THE SECOND FORM's CARD OF 'tidemarklaw13.PairForms'. -/
def pairFormsUptoCard : Claim7 := { stood := { row := pairFormsUptoRow, standIns := [], harness := (true, "16b13ea5d8cdc95a6d3967a4673cfa4d7527ea2fbef6d26a1a5041335a4df68d"), looks := false }, kinds := [], alts := [], laidByText := true, laidKinds := [.data], laidTests := true, laidLooks := .later }
def PairFormsUptoCardSaid : Prop := Claim7.holds Tryd.pinned (.plain (OpenSpec.upto pairFormsSpec)) pairFormsUptoCard

/-- THE SECOND FORM's CARD OF 'tidemarklaw13.PairBack'. -/
def pairBackUptoCard : Claim7 := { stood := { row := pairBackUptoRow, standIns := [], harness := (true, "16b13ea5d8cdc95a6d3967a4673cfa4d7527ea2fbef6d26a1a5041335a4df68d"), looks := false }, kinds := [], alts := [], laidByText := true, laidKinds := [.data], laidTests := true, laidLooks := .later }
def PairBackUptoCardSaid : Prop := Claim7.holds Tryd.pinned (.plain (OpenSpec.upto pairBackSpec)) pairBackUptoCard

/-- THE SECOND FORM's CARD OF 'tidemarklaw13.PairKeeps'. -/
def pairKeepsUptoCard : Claim7 := { stood := { row := pairKeepsUptoRow, standIns := [], harness := (true, "16b13ea5d8cdc95a6d3967a4673cfa4d7527ea2fbef6d26a1a5041335a4df68d"), looks := false }, kinds := [], alts := [], laidByText := true, laidKinds := [.data], laidTests := true, laidLooks := .later }
def PairKeepsUptoCardSaid : Prop := Claim7.holds Tryd.pinned (.plain (OpenSpec.upto pairKeepsSpec)) pairKeepsUptoCard

/-- THE SECOND FORM's CARD OF 'tidemarklaw13.PairCrash'. -/
def pairCrashUptoCard : Claim7 := { stood := { row := pairCrashUptoRow, standIns := [], harness := (true, "16b13ea5d8cdc95a6d3967a4673cfa4d7527ea2fbef6d26a1a5041335a4df68d"), looks := false }, kinds := [], alts := [], laidByText := true, laidKinds := [.data], laidTests := true, laidLooks := .later }
def PairCrashUptoCardSaid : Prop := Claim7.holds Tryd.pinned (.plain (OpenSpec.upto pairCrashSpec)) pairCrashUptoCard

/-- THE SECOND FORM's CARD OF 'tidemarklaw13.PairTwice'. -/
def pairTwiceUptoCard : Claim7 := { stood := { row := pairTwiceUptoRow, standIns := [], harness := (true, "16b13ea5d8cdc95a6d3967a4673cfa4d7527ea2fbef6d26a1a5041335a4df68d"), looks := false }, kinds := [], alts := [], laidByText := true, laidKinds := [.data], laidTests := true, laidLooks := .later }
def PairTwiceUptoCardSaid : Prop := Claim7.holds Tryd.pinned (.plain (OpenSpec.upto pairTwiceSpec)) pairTwiceUptoCard
end Rows
end Go.Proofs.YtapoknpakleiiaaDoor
