/-
  DERIVED. GIVEN WITH THE SEED: THE CARDS: each row of YtaldpngilgaciabDoorRows.lean that lists a variable, with what it lists TIED to the program's text (the seventh form; the later family's looks); each row that meets fmt, with fmt's text TOLD by the authors' own Lean function (tested against real Go, not proved from fmt's source: count such statements apart). THE CARD IS WHAT COUNTS. Prove the row's statement (the work); the ties are given (YtaldpngilgaciabDoorTie.lean); close each card by the builder's one call (the guide's Derived/Test/ToyasCard.lean, 'card_holds'). Laid BY PROGRAM, IN A SANDBOX (cutbox-door.mjs). By AI agents, Wed Nov 11 2026. No macro, syntax, notation, axiom, sorry.
-/
import Derived.Test.YtaldpngilgaciabDoorRows
import GoSem.ClaimSeven
namespace Go.Proofs.YtaldpngilgaciabDoor
namespace Rows

/-- THE TIED CARD OF 'tidemarklaw08.FrameWraps'. -/
def frameWrapsCard : Claim7 := { stood := { row := frameWrapsRow, standIns := [], harness := (true, "54f0c07edfb0c8b32e35f18ac2acdfd77e5b22a9b0c6dc82579f201672395ee5"), looks := false }, kinds := [], alts := [], laidByText := true, laidKinds := [.data], laidTests := true, laidLooks := .later }
def FrameWrapsCardSaid : Prop := Claim7.holds Tryd.pinned (.plain (OpenSpec.ofChange frameWrapsSpec)) frameWrapsCard

/-- THE TIED CARD OF 'tidemarklaw08.FrameOpens'. -/
def frameOpensCard : Claim7 := { stood := { row := frameOpensRow, standIns := [], harness := (true, "54f0c07edfb0c8b32e35f18ac2acdfd77e5b22a9b0c6dc82579f201672395ee5"), looks := false }, kinds := [], alts := [], laidByText := true, laidKinds := [.data], laidTests := true, laidLooks := .later }
def FrameOpensCardSaid : Prop := Claim7.holds Tryd.pinned (.plain (OpenSpec.ofChange frameOpensSpec)) frameOpensCard

/-- THE TIED CARD OF 'tidemarklaw08.FrameBack'. -/
def frameBackCard : Claim7 := { stood := { row := frameBackRow, standIns := [], harness := (true, "54f0c07edfb0c8b32e35f18ac2acdfd77e5b22a9b0c6dc82579f201672395ee5"), looks := false }, kinds := [], alts := [], laidByText := true, laidKinds := [.data], laidTests := true, laidLooks := .later }
def FrameBackCardSaid : Prop := Claim7.holds Tryd.pinned (.plain (OpenSpec.ofChange frameBackSpec)) frameBackCard

/-- THE TIED CARD OF 'tidemarklaw08.FrameTurned'. -/
def frameTurnedCard : Claim7 := { stood := { row := frameTurnedRow, standIns := [], harness := (true, "54f0c07edfb0c8b32e35f18ac2acdfd77e5b22a9b0c6dc82579f201672395ee5"), looks := false }, kinds := [], alts := [], laidByText := true, laidKinds := [.data], laidTests := true, laidLooks := .later }
def FrameTurnedCardSaid : Prop := Claim7.holds Tryd.pinned (.plain (OpenSpec.ofChange frameTurnedSpec)) frameTurnedCard

/-- THE TIED CARD OF 'tidemarklaw08.FrameForm'. -/
def frameFormCard : Claim7 := { stood := { row := frameFormRow, standIns := [], harness := (true, "54f0c07edfb0c8b32e35f18ac2acdfd77e5b22a9b0c6dc82579f201672395ee5"), looks := false }, kinds := [], alts := [], laidByText := true, laidKinds := [.data], laidTests := true, laidLooks := .later }
def FrameFormCardSaid : Prop := Claim7.holds Tryd.pinned (.plain (OpenSpec.ofChange frameFormSpec)) frameFormCard

/-- THE TIED CARD OF 'tidemarklaw08.FrameFresh'. -/
def frameFreshCard : Claim7 := { stood := { row := frameFreshRow, standIns := [], harness := (true, "54f0c07edfb0c8b32e35f18ac2acdfd77e5b22a9b0c6dc82579f201672395ee5"), looks := false }, kinds := [], alts := [], laidByText := true, laidKinds := [.data], laidTests := true, laidLooks := .later }
def FrameFreshCardSaid : Prop := Claim7.holds Tryd.pinned (.plain (OpenSpec.ofChange frameFreshSpec)) frameFreshCard

/-- THE SECOND FORM's CARD OF 'tidemarklaw08.FrameWraps'. -/
def frameWrapsUptoCard : Claim7 := { stood := { row := frameWrapsUptoRow, standIns := [], harness := (true, "54f0c07edfb0c8b32e35f18ac2acdfd77e5b22a9b0c6dc82579f201672395ee5"), looks := false }, kinds := [], alts := [], laidByText := true, laidKinds := [.data], laidTests := true, laidLooks := .later }
def FrameWrapsUptoCardSaid : Prop := Claim7.holds Tryd.pinned (.plain (OpenSpec.upto frameWrapsSpec)) frameWrapsUptoCard

/-- THE SECOND FORM's CARD OF 'tidemarklaw08.FrameOpens'. -/
def frameOpensUptoCard : Claim7 := { stood := { row := frameOpensUptoRow, standIns := [], harness := (true, "54f0c07edfb0c8b32e35f18ac2acdfd77e5b22a9b0c6dc82579f201672395ee5"), looks := false }, kinds := [], alts := [], laidByText := true, laidKinds := [.data], laidTests := true, laidLooks := .later }
def FrameOpensUptoCardSaid : Prop := Claim7.holds Tryd.pinned (.plain (OpenSpec.upto frameOpensSpec)) frameOpensUptoCard

/-- THE SECOND FORM's CARD OF 'tidemarklaw08.FrameBack'. -/
def frameBackUptoCard : Claim7 := { stood := { row := frameBackUptoRow, standIns := [], harness := (true, "54f0c07edfb0c8b32e35f18ac2acdfd77e5b22a9b0c6dc82579f201672395ee5"), looks := false }, kinds := [], alts := [], laidByText := true, laidKinds := [.data], laidTests := true, laidLooks := .later }
def FrameBackUptoCardSaid : Prop := Claim7.holds Tryd.pinned (.plain (OpenSpec.upto frameBackSpec)) frameBackUptoCard

/-- THE SECOND FORM's CARD OF 'tidemarklaw08.FrameTurned'. -/
def frameTurnedUptoCard : Claim7 := { stood := { row := frameTurnedUptoRow, standIns := [], harness := (true, "54f0c07edfb0c8b32e35f18ac2acdfd77e5b22a9b0c6dc82579f201672395ee5"), looks := false }, kinds := [], alts := [], laidByText := true, laidKinds := [.data], laidTests := true, laidLooks := .later }
def FrameTurnedUptoCardSaid : Prop := Claim7.holds Tryd.pinned (.plain (OpenSpec.upto frameTurnedSpec)) frameTurnedUptoCard

/-- THE SECOND FORM's CARD OF 'tidemarklaw08.FrameForm'. -/
def frameFormUptoCard : Claim7 := { stood := { row := frameFormUptoRow, standIns := [], harness := (true, "54f0c07edfb0c8b32e35f18ac2acdfd77e5b22a9b0c6dc82579f201672395ee5"), looks := false }, kinds := [], alts := [], laidByText := true, laidKinds := [.data], laidTests := true, laidLooks := .later }
def FrameFormUptoCardSaid : Prop := Claim7.holds Tryd.pinned (.plain (OpenSpec.upto frameFormSpec)) frameFormUptoCard

/-- THE SECOND FORM's CARD OF 'tidemarklaw08.FrameFresh'. -/
def frameFreshUptoCard : Claim7 := { stood := { row := frameFreshUptoRow, standIns := [], harness := (true, "54f0c07edfb0c8b32e35f18ac2acdfd77e5b22a9b0c6dc82579f201672395ee5"), looks := false }, kinds := [], alts := [], laidByText := true, laidKinds := [.data], laidTests := true, laidLooks := .later }
def FrameFreshUptoCardSaid : Prop := Claim7.holds Tryd.pinned (.plain (OpenSpec.upto frameFreshSpec)) frameFreshUptoCard
end Rows
end Go.Proofs.YtaldpngilgaciabDoor
