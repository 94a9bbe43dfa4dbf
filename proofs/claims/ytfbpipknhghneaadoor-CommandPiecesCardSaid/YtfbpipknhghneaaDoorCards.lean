/-
  DERIVED. GIVEN WITH THE SEED: THE CARDS: each row of YtfbpipknhghneaaDoorRows.lean that lists a variable, with what it lists TIED to the program's text (the seventh form; the later family's looks); each row that meets fmt, with fmt's text TOLD by the authors' own Lean function (tested against real Go, not proved from fmt's source: count such statements apart). THE CARD IS WHAT COUNTS. Prove the row's statement (the work); the ties are given (YtfbpipknhghneaaDoorTie.lean); close each card by the builder's one call (the guide's Derived/Test/ToyasCard.lean, 'card_holds'). Laid BY PROGRAM, IN A SANDBOX (cutbox-door.mjs). By AI agents, Wed Nov 11 2026. No macro, syntax, notation, axiom, sorry.
-/
import Derived.Test.YtfbpipknhghneaaDoorRows
import GoSem.ClaimSeven
namespace Go.Proofs.YtfbpipknhghneaaDoor
namespace Rows

/-- THE TIED CARD OF 'bulletinlaw30.CommandDecode'. -/
def commandDecodeCard : Claim7 := { stood := { row := commandDecodeRow, standIns := [], harness := (true, "68fc79b7f91f68b664a59298f3b7fccb3773a675a568d5e784183164694efdea"), looks := false }, kinds := [], alts := [], laidByText := true, laidKinds := [.data, .data, .data, .data, .data, .pinned], laidTests := true, laidLooks := .later }
def CommandDecodeCardSaid : Prop := Claim7.holds Tryd.pinned (.plain (OpenSpec.ofChange commandDecodeSpec)) commandDecodeCard

/-- THE TIED CARD OF 'bulletinlaw30.CommandRoundTrip'. -/
def commandRoundTripCard : Claim7 := { stood := { row := commandRoundTripRow, standIns := [], harness := (true, "68fc79b7f91f68b664a59298f3b7fccb3773a675a568d5e784183164694efdea"), looks := false }, kinds := [], alts := [], laidByText := true, laidKinds := [.data, .data, .data, .data, .data, .pinned], laidTests := true, laidLooks := .later }
def CommandRoundTripCardSaid : Prop := Claim7.holds Tryd.pinned (.plain (OpenSpec.ofChange commandRoundTripSpec)) commandRoundTripCard

/-- THE TIED CARD OF 'bulletinlaw30.CommandPrefix'. -/
def commandPrefixCard : Claim7 := { stood := { row := commandPrefixRow, standIns := [], harness := (true, "68fc79b7f91f68b664a59298f3b7fccb3773a675a568d5e784183164694efdea"), looks := false }, kinds := [], alts := [], laidByText := true, laidKinds := [.data, .data, .data, .data, .data, .pinned], laidTests := true, laidLooks := .later }
def CommandPrefixCardSaid : Prop := Claim7.holds Tryd.pinned (.plain (OpenSpec.ofChange commandPrefixSpec)) commandPrefixCard

/-- THE TIED CARD OF 'bulletinlaw30.CommandStuff'. -/
def commandStuffCard : Claim7 := { stood := { row := commandStuffRow, standIns := [], harness := (true, "68fc79b7f91f68b664a59298f3b7fccb3773a675a568d5e784183164694efdea"), looks := false }, kinds := [], alts := [], laidByText := true, laidKinds := [.data, .data, .data, .data, .data, .pinned], laidTests := true, laidLooks := .later }
def CommandStuffCardSaid : Prop := Claim7.holds Tryd.pinned (.plain (OpenSpec.ofChange commandStuffSpec)) commandStuffCard

/-- THE TIED CARD OF 'bulletinlaw30.CommandUnstuff'. -/
def commandUnstuffCard : Claim7 := { stood := { row := commandUnstuffRow, standIns := [], harness := (true, "68fc79b7f91f68b664a59298f3b7fccb3773a675a568d5e784183164694efdea"), looks := false }, kinds := [], alts := [], laidByText := true, laidKinds := [.data, .data, .data, .data, .data, .pinned], laidTests := true, laidLooks := .later }
def CommandUnstuffCardSaid : Prop := Claim7.holds Tryd.pinned (.plain (OpenSpec.ofChange commandUnstuffSpec)) commandUnstuffCard

/-- THE TIED CARD OF 'bulletinlaw30.CommandEncode'. -/
def commandEncodeCard : Claim7 := { stood := { row := commandEncodeRow, standIns := [], harness := (true, "68fc79b7f91f68b664a59298f3b7fccb3773a675a568d5e784183164694efdea"), looks := false }, kinds := [], alts := [], laidByText := true, laidKinds := [.data, .data, .data, .data, .data, .pinned], laidTests := true, laidLooks := .later }
def CommandEncodeCardSaid : Prop := Claim7.holds Tryd.pinned (.plain (OpenSpec.ofChange commandEncodeSpec)) commandEncodeCard

/-- THE TIED CARD OF 'bulletinlaw30.CommandPieces'. -/
def commandPiecesCard : Claim7 := { stood := { row := commandPiecesRow, standIns := [], harness := (true, "68fc79b7f91f68b664a59298f3b7fccb3773a675a568d5e784183164694efdea"), looks := false }, kinds := [], alts := [], laidByText := true, laidKinds := [.data, .data, .data, .data, .data, .pinned], laidTests := true, laidLooks := .later }
def CommandPiecesCardSaid : Prop := Claim7.holds Tryd.pinned (.plain (OpenSpec.ofChange commandPiecesSpec)) commandPiecesCard

/-- THE TIED CARD OF 'bulletinlaw30.CommandLimits'. -/
def commandLimitsCard : Claim7 := { stood := { row := commandLimitsRow, standIns := [], harness := (true, "68fc79b7f91f68b664a59298f3b7fccb3773a675a568d5e784183164694efdea"), looks := false }, kinds := [], alts := [], laidByText := true, laidKinds := [.data, .data, .data, .data, .data, .pinned], laidTests := true, laidLooks := .later }
def CommandLimitsCardSaid : Prop := Claim7.holds Tryd.pinned (.plain (OpenSpec.ofChange commandLimitsSpec)) commandLimitsCard

/-- THE SECOND FORM's CARD OF 'bulletinlaw30.CommandDecode'. -/
def commandDecodeUptoCard : Claim7 := { stood := { row := commandDecodeUptoRow, standIns := [], harness := (true, "68fc79b7f91f68b664a59298f3b7fccb3773a675a568d5e784183164694efdea"), looks := false }, kinds := [], alts := [], laidByText := true, laidKinds := [.data, .data, .data, .data, .data, .pinned], laidTests := true, laidLooks := .later }
def CommandDecodeUptoCardSaid : Prop := Claim7.holds Tryd.pinned (.plain (OpenSpec.upto commandDecodeSpec)) commandDecodeUptoCard

/-- THE SECOND FORM's CARD OF 'bulletinlaw30.CommandRoundTrip'. -/
def commandRoundTripUptoCard : Claim7 := { stood := { row := commandRoundTripUptoRow, standIns := [], harness := (true, "68fc79b7f91f68b664a59298f3b7fccb3773a675a568d5e784183164694efdea"), looks := false }, kinds := [], alts := [], laidByText := true, laidKinds := [.data, .data, .data, .data, .data, .pinned], laidTests := true, laidLooks := .later }
def CommandRoundTripUptoCardSaid : Prop := Claim7.holds Tryd.pinned (.plain (OpenSpec.upto commandRoundTripSpec)) commandRoundTripUptoCard

/-- THE SECOND FORM's CARD OF 'bulletinlaw30.CommandPrefix'. -/
def commandPrefixUptoCard : Claim7 := { stood := { row := commandPrefixUptoRow, standIns := [], harness := (true, "68fc79b7f91f68b664a59298f3b7fccb3773a675a568d5e784183164694efdea"), looks := false }, kinds := [], alts := [], laidByText := true, laidKinds := [.data, .data, .data, .data, .data, .pinned], laidTests := true, laidLooks := .later }
def CommandPrefixUptoCardSaid : Prop := Claim7.holds Tryd.pinned (.plain (OpenSpec.upto commandPrefixSpec)) commandPrefixUptoCard

/-- THE SECOND FORM's CARD OF 'bulletinlaw30.CommandStuff'. -/
def commandStuffUptoCard : Claim7 := { stood := { row := commandStuffUptoRow, standIns := [], harness := (true, "68fc79b7f91f68b664a59298f3b7fccb3773a675a568d5e784183164694efdea"), looks := false }, kinds := [], alts := [], laidByText := true, laidKinds := [.data, .data, .data, .data, .data, .pinned], laidTests := true, laidLooks := .later }
def CommandStuffUptoCardSaid : Prop := Claim7.holds Tryd.pinned (.plain (OpenSpec.upto commandStuffSpec)) commandStuffUptoCard

/-- THE SECOND FORM's CARD OF 'bulletinlaw30.CommandUnstuff'. -/
def commandUnstuffUptoCard : Claim7 := { stood := { row := commandUnstuffUptoRow, standIns := [], harness := (true, "68fc79b7f91f68b664a59298f3b7fccb3773a675a568d5e784183164694efdea"), looks := false }, kinds := [], alts := [], laidByText := true, laidKinds := [.data, .data, .data, .data, .data, .pinned], laidTests := true, laidLooks := .later }
def CommandUnstuffUptoCardSaid : Prop := Claim7.holds Tryd.pinned (.plain (OpenSpec.upto commandUnstuffSpec)) commandUnstuffUptoCard

/-- THE SECOND FORM's CARD OF 'bulletinlaw30.CommandEncode'. -/
def commandEncodeUptoCard : Claim7 := { stood := { row := commandEncodeUptoRow, standIns := [], harness := (true, "68fc79b7f91f68b664a59298f3b7fccb3773a675a568d5e784183164694efdea"), looks := false }, kinds := [], alts := [], laidByText := true, laidKinds := [.data, .data, .data, .data, .data, .pinned], laidTests := true, laidLooks := .later }
def CommandEncodeUptoCardSaid : Prop := Claim7.holds Tryd.pinned (.plain (OpenSpec.upto commandEncodeSpec)) commandEncodeUptoCard

/-- THE SECOND FORM's CARD OF 'bulletinlaw30.CommandPieces'. -/
def commandPiecesUptoCard : Claim7 := { stood := { row := commandPiecesUptoRow, standIns := [], harness := (true, "68fc79b7f91f68b664a59298f3b7fccb3773a675a568d5e784183164694efdea"), looks := false }, kinds := [], alts := [], laidByText := true, laidKinds := [.data, .data, .data, .data, .data, .pinned], laidTests := true, laidLooks := .later }
def CommandPiecesUptoCardSaid : Prop := Claim7.holds Tryd.pinned (.plain (OpenSpec.upto commandPiecesSpec)) commandPiecesUptoCard

/-- THE SECOND FORM's CARD OF 'bulletinlaw30.CommandLimits'. -/
def commandLimitsUptoCard : Claim7 := { stood := { row := commandLimitsUptoRow, standIns := [], harness := (true, "68fc79b7f91f68b664a59298f3b7fccb3773a675a568d5e784183164694efdea"), looks := false }, kinds := [], alts := [], laidByText := true, laidKinds := [.data, .data, .data, .data, .data, .pinned], laidTests := true, laidLooks := .later }
def CommandLimitsUptoCardSaid : Prop := Claim7.holds Tryd.pinned (.plain (OpenSpec.upto commandLimitsSpec)) commandLimitsUptoCard
end Rows
end Go.Proofs.YtfbpipknhghneaaDoor
