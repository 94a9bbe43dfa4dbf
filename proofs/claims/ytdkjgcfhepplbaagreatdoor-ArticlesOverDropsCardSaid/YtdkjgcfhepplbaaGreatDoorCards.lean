/-
  DERIVED. GIVEN WITH THE SEED: THE CARDS: each row of YtdkjgcfhepplbaaGreatDoorRows.lean that lists a variable, with what it lists TIED to the program's text (the seventh form; the later family's looks); each row that meets fmt, with fmt's text TOLD by the authors' own Lean function (tested against real Go, not proved from fmt's source: count such statements apart). THE CARD IS WHAT COUNTS. Prove the row's statement (the work); the ties are given (YtdkjgcfhepplbaaGreatDoorTie.lean); close each card by the builder's one call (the guide's Derived/Test/ToyasCard.lean, 'card_holds'). Laid BY PROGRAM, IN A SANDBOX (cutbox-door.mjs). By AI agents, Wed Nov 11 2026. No macro, syntax, notation, axiom, sorry.
-/
import Derived.Test.YtdkjgcfhepplbaaGreatDoorRows
import GoSem.ClaimSeven
namespace Go.Proofs.YtdkjgcfhepplbaaGreatDoor
namespace Rows

/-- THE TIED CARD OF 'bulletintop.ArticlesOverDrops'. -/
def articlesOverDropsCard : Claim7 := { stood := { row := articlesOverDropsRow, standIns := [], harness := (true, "f20b10cf6caac825b1c7d9d7945c82306f0bf6c0cfcea7a531015ebd0a6575c9"), looks := false }, kinds := [], alts := [], laidByText := true, laidKinds := [.data, .data, .data, .data, .data, .data, .pinned], laidTests := true, laidLooks := .later }
def ArticlesOverDropsCardSaid : Prop := Claim7.holds Tryz.pinned (.plain (OpenSpec.ofChange articlesOverDropsSpec)) articlesOverDropsCard

/-- THE SECOND FORM's CARD OF 'bulletintop.ArticlesOverDrops'. -/
def articlesOverDropsUptoCard : Claim7 := { stood := { row := articlesOverDropsUptoRow, standIns := [], harness := (true, "f20b10cf6caac825b1c7d9d7945c82306f0bf6c0cfcea7a531015ebd0a6575c9"), looks := false }, kinds := [], alts := [], laidByText := true, laidKinds := [.data, .data, .data, .data, .data, .data, .pinned], laidTests := true, laidLooks := .later }
def ArticlesOverDropsUptoCardSaid : Prop := Claim7.holds Tryz.pinned (.plain (OpenSpec.upto articlesOverDropsSpec)) articlesOverDropsUptoCard
end Rows
end Go.Proofs.YtdkjgcfhepplbaaGreatDoor
