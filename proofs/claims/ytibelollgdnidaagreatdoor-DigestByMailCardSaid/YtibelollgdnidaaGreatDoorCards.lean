/-
  DERIVED. GIVEN WITH THE SEED: THE CARDS: each row of YtibelollgdnidaaGreatDoorRows.lean that lists a variable, with what it lists TIED to the program's text (the seventh form; the later family's looks); each row that meets fmt, with fmt's text TOLD by the authors' own Lean function (tested against real Go, not proved from fmt's source: count such statements apart). THE CARD IS WHAT COUNTS. Prove the row's statement (the work); the ties are given (YtibelollgdnidaaGreatDoorTie.lean); close each card by the builder's one call (the guide's Derived/Test/ToyasCard.lean, 'card_holds'). Laid BY PROGRAM, IN A SANDBOX (cutbox-door.mjs). By AI agents, Wed Nov 11 2026. No macro, syntax, notation, axiom, sorry.
-/
import Derived.Test.YtibelollgdnidaaGreatDoorRows
import GoSem.ClaimSeven
namespace Go.Proofs.YtibelollgdnidaaGreatDoor
namespace Rows

/-- THE TIED CARD OF 'bulletintop.DigestByMail'. -/
def digestByMailCard : Claim7 := { stood := { row := digestByMailRow, standIns := [], harness := (true, "b8ab07a5570c84e7375710453578bb1da3f17a3c6c1ffdb7e2ac3d31b078a577"), looks := true }, kinds := [], alts := [], laidByText := true, laidKinds := [.data, .data, .data, .data, .sentinel, .sentinel, .pinned], laidTests := true, laidLooks := .later }
def DigestByMailCardSaid : Prop := Claim7.holds Tryz.pinned (.plain (OpenSpec.ofChange digestByMailSpec)) digestByMailCard

/-- THE SECOND FORM's CARD OF 'bulletintop.DigestByMail'. -/
def digestByMailUptoCard : Claim7 := { stood := { row := digestByMailUptoRow, standIns := [], harness := (true, "b8ab07a5570c84e7375710453578bb1da3f17a3c6c1ffdb7e2ac3d31b078a577"), looks := true }, kinds := [], alts := [], laidByText := true, laidKinds := [.data, .data, .data, .data, .sentinel, .sentinel, .pinned], laidTests := true, laidLooks := .later }
def DigestByMailUptoCardSaid : Prop := Claim7.holds Tryz.pinned (.plain (OpenSpec.upto digestByMailSpec)) digestByMailUptoCard
end Rows
end Go.Proofs.YtibelollgdnidaaGreatDoor
