/-
  DERIVED. GIVEN WITH THE SEED: THE CARDS: each row of YtgcpmdodhnmneaaDoorRows.lean that lists a variable, with what it lists TIED to the program's text (the seventh form; the later family's looks); each row that meets fmt, with fmt's text TOLD by the authors' own Lean function (tested against real Go, not proved from fmt's source: count such statements apart). THE CARD IS WHAT COUNTS. Prove the row's statement (the work); the ties are given (YtgcpmdodhnmneaaDoorTie.lean); close each card by the builder's one call (the guide's Derived/Test/ToyasCard.lean, 'card_holds'). Laid BY PROGRAM, IN A SANDBOX (cutbox-door.mjs). By AI agents, Wed Nov 11 2026. No macro, syntax, notation, axiom, sorry.
-/
import Derived.Test.YtgcpmdodhnmneaaDoorRows
import GoSem.ClaimSeven
namespace Go.Proofs.YtgcpmdodhnmneaaDoor
namespace Rows

/-- THE TIED CARD OF 'tidemarklaw04.PageMakes'. -/
def pageMakesCard : Claim7 := { stood := { row := pageMakesRow, standIns := [], harness := (true, "5745da6f125fb7a20960bc8cd14b8820fa21bd1eca561c41f83309ae12a4c2f7"), looks := false }, kinds := [], alts := [], laidByText := true, laidKinds := [.data], laidTests := true, laidLooks := .later }
def PageMakesCardSaid : Prop := Claim7.holds Tryd.pinned (.plain (OpenSpec.ofChange pageMakesSpec)) pageMakesCard

/-- THE TIED CARD OF 'tidemarklaw04.PageChecks'. -/
def pageChecksCard : Claim7 := { stood := { row := pageChecksRow, standIns := [], harness := (true, "5745da6f125fb7a20960bc8cd14b8820fa21bd1eca561c41f83309ae12a4c2f7"), looks := false }, kinds := [], alts := [], laidByText := true, laidKinds := [.data], laidTests := true, laidLooks := .later }
def PageChecksCardSaid : Prop := Claim7.holds Tryd.pinned (.plain (OpenSpec.ofChange pageChecksSpec)) pageChecksCard

/-- THE TIED CARD OF 'tidemarklaw04.PageStamps'. -/
def pageStampsCard : Claim7 := { stood := { row := pageStampsRow, standIns := [], harness := (true, "5745da6f125fb7a20960bc8cd14b8820fa21bd1eca561c41f83309ae12a4c2f7"), looks := false }, kinds := [], alts := [], laidByText := true, laidKinds := [.data], laidTests := true, laidLooks := .later }
def PageStampsCardSaid : Prop := Claim7.holds Tryd.pinned (.plain (OpenSpec.ofChange pageStampsSpec)) pageStampsCard

/-- THE TIED CARD OF 'tidemarklaw04.PageTears'. -/
def pageTearsCard : Claim7 := { stood := { row := pageTearsRow, standIns := [], harness := (true, "5745da6f125fb7a20960bc8cd14b8820fa21bd1eca561c41f83309ae12a4c2f7"), looks := false }, kinds := [], alts := [], laidByText := true, laidKinds := [.data], laidTests := true, laidLooks := .later }
def PageTearsCardSaid : Prop := Claim7.holds Tryd.pinned (.plain (OpenSpec.ofChange pageTearsSpec)) pageTearsCard

/-- THE TIED CARD OF 'tidemarklaw04.PageTurned'. -/
def pageTurnedCard : Claim7 := { stood := { row := pageTurnedRow, standIns := [], harness := (true, "5745da6f125fb7a20960bc8cd14b8820fa21bd1eca561c41f83309ae12a4c2f7"), looks := false }, kinds := [], alts := [], laidByText := true, laidKinds := [.data], laidTests := true, laidLooks := .later }
def PageTurnedCardSaid : Prop := Claim7.holds Tryd.pinned (.plain (OpenSpec.ofChange pageTurnedSpec)) pageTurnedCard

/-- THE TIED CARD OF 'tidemarklaw04.PageSlots'. -/
def pageSlotsCard : Claim7 := { stood := { row := pageSlotsRow, standIns := [], harness := (true, "5745da6f125fb7a20960bc8cd14b8820fa21bd1eca561c41f83309ae12a4c2f7"), looks := false }, kinds := [], alts := [], laidByText := true, laidKinds := [.data], laidTests := true, laidLooks := .later }
def PageSlotsCardSaid : Prop := Claim7.holds Tryd.pinned (.plain (OpenSpec.ofChange pageSlotsSpec)) pageSlotsCard

/-- THE TIED CARD OF 'tidemarklaw04.PageBack'. -/
def pageBackCard : Claim7 := { stood := { row := pageBackRow, standIns := [], harness := (true, "5745da6f125fb7a20960bc8cd14b8820fa21bd1eca561c41f83309ae12a4c2f7"), looks := false }, kinds := [], alts := [], laidByText := true, laidKinds := [.data], laidTests := true, laidLooks := .later }
def PageBackCardSaid : Prop := Claim7.holds Tryd.pinned (.plain (OpenSpec.ofChange pageBackSpec)) pageBackCard

/-- THE TIED CARD OF 'tidemarklaw04.PageFresh'. -/
def pageFreshCard : Claim7 := { stood := { row := pageFreshRow, standIns := [], harness := (true, "5745da6f125fb7a20960bc8cd14b8820fa21bd1eca561c41f83309ae12a4c2f7"), looks := false }, kinds := [], alts := [], laidByText := true, laidKinds := [.data], laidTests := true, laidLooks := .later }
def PageFreshCardSaid : Prop := Claim7.holds Tryd.pinned (.plain (OpenSpec.ofChange pageFreshSpec)) pageFreshCard

/-- THE SECOND FORM's CARD OF 'tidemarklaw04.PageMakes'. -/
def pageMakesUptoCard : Claim7 := { stood := { row := pageMakesUptoRow, standIns := [], harness := (true, "5745da6f125fb7a20960bc8cd14b8820fa21bd1eca561c41f83309ae12a4c2f7"), looks := false }, kinds := [], alts := [], laidByText := true, laidKinds := [.data], laidTests := true, laidLooks := .later }
def PageMakesUptoCardSaid : Prop := Claim7.holds Tryd.pinned (.plain (OpenSpec.upto pageMakesSpec)) pageMakesUptoCard

/-- THE SECOND FORM's CARD OF 'tidemarklaw04.PageChecks'. -/
def pageChecksUptoCard : Claim7 := { stood := { row := pageChecksUptoRow, standIns := [], harness := (true, "5745da6f125fb7a20960bc8cd14b8820fa21bd1eca561c41f83309ae12a4c2f7"), looks := false }, kinds := [], alts := [], laidByText := true, laidKinds := [.data], laidTests := true, laidLooks := .later }
def PageChecksUptoCardSaid : Prop := Claim7.holds Tryd.pinned (.plain (OpenSpec.upto pageChecksSpec)) pageChecksUptoCard

/-- THE SECOND FORM's CARD OF 'tidemarklaw04.PageStamps'. -/
def pageStampsUptoCard : Claim7 := { stood := { row := pageStampsUptoRow, standIns := [], harness := (true, "5745da6f125fb7a20960bc8cd14b8820fa21bd1eca561c41f83309ae12a4c2f7"), looks := false }, kinds := [], alts := [], laidByText := true, laidKinds := [.data], laidTests := true, laidLooks := .later }
def PageStampsUptoCardSaid : Prop := Claim7.holds Tryd.pinned (.plain (OpenSpec.upto pageStampsSpec)) pageStampsUptoCard

/-- THE SECOND FORM's CARD OF 'tidemarklaw04.PageTears'. -/
def pageTearsUptoCard : Claim7 := { stood := { row := pageTearsUptoRow, standIns := [], harness := (true, "5745da6f125fb7a20960bc8cd14b8820fa21bd1eca561c41f83309ae12a4c2f7"), looks := false }, kinds := [], alts := [], laidByText := true, laidKinds := [.data], laidTests := true, laidLooks := .later }
def PageTearsUptoCardSaid : Prop := Claim7.holds Tryd.pinned (.plain (OpenSpec.upto pageTearsSpec)) pageTearsUptoCard

/-- THE SECOND FORM's CARD OF 'tidemarklaw04.PageTurned'. -/
def pageTurnedUptoCard : Claim7 := { stood := { row := pageTurnedUptoRow, standIns := [], harness := (true, "5745da6f125fb7a20960bc8cd14b8820fa21bd1eca561c41f83309ae12a4c2f7"), looks := false }, kinds := [], alts := [], laidByText := true, laidKinds := [.data], laidTests := true, laidLooks := .later }
def PageTurnedUptoCardSaid : Prop := Claim7.holds Tryd.pinned (.plain (OpenSpec.upto pageTurnedSpec)) pageTurnedUptoCard

/-- THE SECOND FORM's CARD OF 'tidemarklaw04.PageSlots'. -/
def pageSlotsUptoCard : Claim7 := { stood := { row := pageSlotsUptoRow, standIns := [], harness := (true, "5745da6f125fb7a20960bc8cd14b8820fa21bd1eca561c41f83309ae12a4c2f7"), looks := false }, kinds := [], alts := [], laidByText := true, laidKinds := [.data], laidTests := true, laidLooks := .later }
def PageSlotsUptoCardSaid : Prop := Claim7.holds Tryd.pinned (.plain (OpenSpec.upto pageSlotsSpec)) pageSlotsUptoCard

/-- THE SECOND FORM's CARD OF 'tidemarklaw04.PageBack'. -/
def pageBackUptoCard : Claim7 := { stood := { row := pageBackUptoRow, standIns := [], harness := (true, "5745da6f125fb7a20960bc8cd14b8820fa21bd1eca561c41f83309ae12a4c2f7"), looks := false }, kinds := [], alts := [], laidByText := true, laidKinds := [.data], laidTests := true, laidLooks := .later }
def PageBackUptoCardSaid : Prop := Claim7.holds Tryd.pinned (.plain (OpenSpec.upto pageBackSpec)) pageBackUptoCard

/-- THE SECOND FORM's CARD OF 'tidemarklaw04.PageFresh'. -/
def pageFreshUptoCard : Claim7 := { stood := { row := pageFreshUptoRow, standIns := [], harness := (true, "5745da6f125fb7a20960bc8cd14b8820fa21bd1eca561c41f83309ae12a4c2f7"), looks := false }, kinds := [], alts := [], laidByText := true, laidKinds := [.data], laidTests := true, laidLooks := .later }
def PageFreshUptoCardSaid : Prop := Claim7.holds Tryd.pinned (.plain (OpenSpec.upto pageFreshSpec)) pageFreshUptoCard
end Rows
end Go.Proofs.YtgcpmdodhnmneaaDoor
