/-
  DERIVED. GIVEN WITH THE SEED: THE CARDS: each row of YtnljplnjdbjplaaDoorRows.lean that lists a variable, with what it lists TIED to the program's text (the seventh form; the later family's looks); each row that meets fmt, with fmt's text TOLD by the authors' own Lean function (tested against real Go, not proved from fmt's source: count such statements apart). THE CARD IS WHAT COUNTS. Prove the row's statement (the work); the ties are given (YtnljplnjdbjplaaDoorTie.lean); close each card by the builder's one call (the guide's Derived/Test/ToyasCard.lean, 'card_holds'). Laid BY PROGRAM, IN A SANDBOX (cutbox-door.mjs). By AI agents, Wed Nov 11 2026. No macro, syntax, notation, axiom, sorry.
-/
import Derived.Test.YtnljplnjdbjplaaDoorRows
import GoSem.ClaimSeven
namespace Go.Proofs.YtnljplnjdbjplaaDoor
namespace Rows

/-- THE TIED CARD OF 'bulletinlaw01.AsciiFold'. -/
def asciiFoldCard : Claim7 := { stood := { row := asciiFoldRow, standIns := [], harness := (true, "300f3dc585d294060ca393972b1c465dd0900dd54365f2603650fdcf1b66d08e"), looks := false }, kinds := [], alts := [], laidByText := true, laidKinds := [.data, .data, .data], laidTests := true, laidLooks := .later }
def AsciiFoldCardSaid : Prop := Claim7.holds Tryd.pinned (.plain (OpenSpec.ofChange asciiFoldSpec)) asciiFoldCard

/-- THE TIED CARD OF 'bulletinlaw01.AsciiOrder'. -/
def asciiOrderCard : Claim7 := { stood := { row := asciiOrderRow, standIns := [], harness := (true, "300f3dc585d294060ca393972b1c465dd0900dd54365f2603650fdcf1b66d08e"), looks := false }, kinds := [], alts := [], laidByText := true, laidKinds := [.data, .data, .data], laidTests := true, laidLooks := .later }
def AsciiOrderCardSaid : Prop := Claim7.holds Tryd.pinned (.plain (OpenSpec.ofChange asciiOrderSpec)) asciiOrderCard

/-- THE TIED CARD OF 'bulletinlaw01.AsciiIndex'. -/
def asciiIndexCard : Claim7 := { stood := { row := asciiIndexRow, standIns := [], harness := (true, "300f3dc585d294060ca393972b1c465dd0900dd54365f2603650fdcf1b66d08e"), looks := false }, kinds := [], alts := [], laidByText := true, laidKinds := [.data, .data, .data], laidTests := true, laidLooks := .later }
def AsciiIndexCardSaid : Prop := Claim7.holds Tryd.pinned (.plain (OpenSpec.ofChange asciiIndexSpec)) asciiIndexCard

/-- THE TIED CARD OF 'bulletinlaw01.AsciiWords'. -/
def asciiWordsCard : Claim7 := { stood := { row := asciiWordsRow, standIns := [], harness := (true, "300f3dc585d294060ca393972b1c465dd0900dd54365f2603650fdcf1b66d08e"), looks := false }, kinds := [], alts := [], laidByText := true, laidKinds := [.data, .data, .data], laidTests := true, laidLooks := .later }
def AsciiWordsCardSaid : Prop := Claim7.holds Tryd.pinned (.plain (OpenSpec.ofChange asciiWordsSpec)) asciiWordsCard

/-- THE TIED CARD OF 'bulletinlaw01.AsciiDigits'. -/
def asciiDigitsCard : Claim7 := { stood := { row := asciiDigitsRow, standIns := [], harness := (true, "300f3dc585d294060ca393972b1c465dd0900dd54365f2603650fdcf1b66d08e"), looks := false }, kinds := [], alts := [], laidByText := true, laidKinds := [.data, .data, .data], laidTests := true, laidLooks := .later }
def AsciiDigitsCardSaid : Prop := Claim7.holds Tryd.pinned (.plain (OpenSpec.ofChange asciiDigitsSpec)) asciiDigitsCard

/-- THE TIED CARD OF 'bulletinlaw01.AsciiNumber'. -/
def asciiNumberCard : Claim7 := { stood := { row := asciiNumberRow, standIns := [], harness := (true, "300f3dc585d294060ca393972b1c465dd0900dd54365f2603650fdcf1b66d08e"), looks := false }, kinds := [], alts := [], laidByText := true, laidKinds := [.data, .data, .data], laidTests := true, laidLooks := .later }
def AsciiNumberCardSaid : Prop := Claim7.holds Tryd.pinned (.plain (OpenSpec.ofChange asciiNumberSpec)) asciiNumberCard

/-- THE TIED CARD OF 'bulletinlaw01.AsciiHex'. -/
def asciiHexCard : Claim7 := { stood := { row := asciiHexRow, standIns := [], harness := (true, "300f3dc585d294060ca393972b1c465dd0900dd54365f2603650fdcf1b66d08e"), looks := false }, kinds := [], alts := [], laidByText := true, laidKinds := [.data, .data, .data], laidTests := true, laidLooks := .later }
def AsciiHexCardSaid : Prop := Claim7.holds Tryd.pinned (.plain (OpenSpec.ofChange asciiHexSpec)) asciiHexCard

/-- THE TIED CARD OF 'bulletinlaw01.AsciiUnhex'. -/
def asciiUnhexCard : Claim7 := { stood := { row := asciiUnhexRow, standIns := [], harness := (true, "300f3dc585d294060ca393972b1c465dd0900dd54365f2603650fdcf1b66d08e"), looks := false }, kinds := [], alts := [], laidByText := true, laidKinds := [.data, .data, .data], laidTests := true, laidLooks := .later }
def AsciiUnhexCardSaid : Prop := Claim7.holds Tryd.pinned (.plain (OpenSpec.ofChange asciiUnhexSpec)) asciiUnhexCard

/-- THE TIED CARD OF 'bulletinlaw01.AsciiClasses'. -/
def asciiClassesCard : Claim7 := { stood := { row := asciiClassesRow, standIns := [], harness := (true, "300f3dc585d294060ca393972b1c465dd0900dd54365f2603650fdcf1b66d08e"), looks := false }, kinds := [], alts := [], laidByText := true, laidKinds := [.data, .data, .data], laidTests := true, laidLooks := .later }
def AsciiClassesCardSaid : Prop := Claim7.holds Tryd.pinned (.plain (OpenSpec.ofChange asciiClassesSpec)) asciiClassesCard

/-- THE SECOND FORM's CARD OF 'bulletinlaw01.AsciiFold'. -/
def asciiFoldUptoCard : Claim7 := { stood := { row := asciiFoldUptoRow, standIns := [], harness := (true, "300f3dc585d294060ca393972b1c465dd0900dd54365f2603650fdcf1b66d08e"), looks := false }, kinds := [], alts := [], laidByText := true, laidKinds := [.data, .data, .data], laidTests := true, laidLooks := .later }
def AsciiFoldUptoCardSaid : Prop := Claim7.holds Tryd.pinned (.plain (OpenSpec.upto asciiFoldSpec)) asciiFoldUptoCard

/-- THE SECOND FORM's CARD OF 'bulletinlaw01.AsciiOrder'. -/
def asciiOrderUptoCard : Claim7 := { stood := { row := asciiOrderUptoRow, standIns := [], harness := (true, "300f3dc585d294060ca393972b1c465dd0900dd54365f2603650fdcf1b66d08e"), looks := false }, kinds := [], alts := [], laidByText := true, laidKinds := [.data, .data, .data], laidTests := true, laidLooks := .later }
def AsciiOrderUptoCardSaid : Prop := Claim7.holds Tryd.pinned (.plain (OpenSpec.upto asciiOrderSpec)) asciiOrderUptoCard

/-- THE SECOND FORM's CARD OF 'bulletinlaw01.AsciiIndex'. -/
def asciiIndexUptoCard : Claim7 := { stood := { row := asciiIndexUptoRow, standIns := [], harness := (true, "300f3dc585d294060ca393972b1c465dd0900dd54365f2603650fdcf1b66d08e"), looks := false }, kinds := [], alts := [], laidByText := true, laidKinds := [.data, .data, .data], laidTests := true, laidLooks := .later }
def AsciiIndexUptoCardSaid : Prop := Claim7.holds Tryd.pinned (.plain (OpenSpec.upto asciiIndexSpec)) asciiIndexUptoCard

/-- THE SECOND FORM's CARD OF 'bulletinlaw01.AsciiWords'. -/
def asciiWordsUptoCard : Claim7 := { stood := { row := asciiWordsUptoRow, standIns := [], harness := (true, "300f3dc585d294060ca393972b1c465dd0900dd54365f2603650fdcf1b66d08e"), looks := false }, kinds := [], alts := [], laidByText := true, laidKinds := [.data, .data, .data], laidTests := true, laidLooks := .later }
def AsciiWordsUptoCardSaid : Prop := Claim7.holds Tryd.pinned (.plain (OpenSpec.upto asciiWordsSpec)) asciiWordsUptoCard

/-- THE SECOND FORM's CARD OF 'bulletinlaw01.AsciiDigits'. -/
def asciiDigitsUptoCard : Claim7 := { stood := { row := asciiDigitsUptoRow, standIns := [], harness := (true, "300f3dc585d294060ca393972b1c465dd0900dd54365f2603650fdcf1b66d08e"), looks := false }, kinds := [], alts := [], laidByText := true, laidKinds := [.data, .data, .data], laidTests := true, laidLooks := .later }
def AsciiDigitsUptoCardSaid : Prop := Claim7.holds Tryd.pinned (.plain (OpenSpec.upto asciiDigitsSpec)) asciiDigitsUptoCard

/-- THE SECOND FORM's CARD OF 'bulletinlaw01.AsciiNumber'. -/
def asciiNumberUptoCard : Claim7 := { stood := { row := asciiNumberUptoRow, standIns := [], harness := (true, "300f3dc585d294060ca393972b1c465dd0900dd54365f2603650fdcf1b66d08e"), looks := false }, kinds := [], alts := [], laidByText := true, laidKinds := [.data, .data, .data], laidTests := true, laidLooks := .later }
def AsciiNumberUptoCardSaid : Prop := Claim7.holds Tryd.pinned (.plain (OpenSpec.upto asciiNumberSpec)) asciiNumberUptoCard

/-- THE SECOND FORM's CARD OF 'bulletinlaw01.AsciiHex'. -/
def asciiHexUptoCard : Claim7 := { stood := { row := asciiHexUptoRow, standIns := [], harness := (true, "300f3dc585d294060ca393972b1c465dd0900dd54365f2603650fdcf1b66d08e"), looks := false }, kinds := [], alts := [], laidByText := true, laidKinds := [.data, .data, .data], laidTests := true, laidLooks := .later }
def AsciiHexUptoCardSaid : Prop := Claim7.holds Tryd.pinned (.plain (OpenSpec.upto asciiHexSpec)) asciiHexUptoCard

/-- THE SECOND FORM's CARD OF 'bulletinlaw01.AsciiUnhex'. -/
def asciiUnhexUptoCard : Claim7 := { stood := { row := asciiUnhexUptoRow, standIns := [], harness := (true, "300f3dc585d294060ca393972b1c465dd0900dd54365f2603650fdcf1b66d08e"), looks := false }, kinds := [], alts := [], laidByText := true, laidKinds := [.data, .data, .data], laidTests := true, laidLooks := .later }
def AsciiUnhexUptoCardSaid : Prop := Claim7.holds Tryd.pinned (.plain (OpenSpec.upto asciiUnhexSpec)) asciiUnhexUptoCard

/-- THE SECOND FORM's CARD OF 'bulletinlaw01.AsciiClasses'. -/
def asciiClassesUptoCard : Claim7 := { stood := { row := asciiClassesUptoRow, standIns := [], harness := (true, "300f3dc585d294060ca393972b1c465dd0900dd54365f2603650fdcf1b66d08e"), looks := false }, kinds := [], alts := [], laidByText := true, laidKinds := [.data, .data, .data], laidTests := true, laidLooks := .later }
def AsciiClassesUptoCardSaid : Prop := Claim7.holds Tryd.pinned (.plain (OpenSpec.upto asciiClassesSpec)) asciiClassesUptoCard
end Rows
end Go.Proofs.YtnljplnjdbjplaaDoor
