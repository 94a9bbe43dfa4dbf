/-
  DERIVED. GIVEN WITH THE SEED: THE CARDS: each row of YtfbpipknhghneaaGreatDoorRows.lean that lists a variable, with what it lists TIED to the program's text (the seventh form; the later family's looks); each row that meets fmt, with fmt's text TOLD by the authors' own Lean function (tested against real Go, not proved from fmt's source: count such statements apart). THE CARD IS WHAT COUNTS. Prove the row's statement (the work); the ties are given (YtfbpipknhghneaaGreatDoorTie.lean); close each card by the builder's one call (the guide's Derived/Test/ToyasCard.lean, 'card_holds'). Laid BY PROGRAM, IN A SANDBOX (cutbox-door.mjs). By AI agents, Wed Nov 11 2026. No macro, syntax, notation, axiom, sorry.
-/
import Derived.Test.YtfbpipknhghneaaGreatDoorRows
import GoSem.ClaimSeven
namespace Go.Proofs.YtfbpipknhghneaaGreatDoor
namespace Rows

/-- THE TIED CARD OF 'bulletinlaw30.CommandReader'. -/
def commandReaderCard : Claim7 := { stood := { row := commandReaderRow, standIns := [], harness := (true, "c9db3c5a010d8c3f8f447411a0d750a741c6e2e6771b7c790755029ebc6f0c87"), looks := false }, kinds := [], alts := [], laidByText := true, laidKinds := [.data, .data, .data, .data, .data, .pinned], laidTests := true, laidLooks := .later }
def CommandReaderCardSaid : Prop := Claim7.holds Tryz.pinned (.plain (OpenSpec.ofChange commandReaderSpec)) commandReaderCard

/-- THE SECOND FORM's CARD OF 'bulletinlaw30.CommandReader'. -/
def commandReaderUptoCard : Claim7 := { stood := { row := commandReaderUptoRow, standIns := [], harness := (true, "c9db3c5a010d8c3f8f447411a0d750a741c6e2e6771b7c790755029ebc6f0c87"), looks := false }, kinds := [], alts := [], laidByText := true, laidKinds := [.data, .data, .data, .data, .data, .pinned], laidTests := true, laidLooks := .later }
def CommandReaderUptoCardSaid : Prop := Claim7.holds Tryz.pinned (.plain (OpenSpec.upto commandReaderSpec)) commandReaderUptoCard
end Rows
end Go.Proofs.YtfbpipknhghneaaGreatDoor
