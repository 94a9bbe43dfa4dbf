/-
  DERIVED. GIVEN WITH THE SEED: THE CARDS: each row of YtgojaelkdpabkaaGreatDoorRows.lean that lists a variable, with what it lists TIED to the program's text (the seventh form; the later family's looks); each row that meets fmt, with fmt's text TOLD by the authors' own Lean function (tested against real Go, not proved from fmt's source: count such statements apart). THE CARD IS WHAT COUNTS. Prove the row's statement (the work); the ties are given (YtgojaelkdpabkaaGreatDoorTie.lean); close each card by the builder's one call (the guide's Derived/Test/ToyasCard.lean, 'card_holds'). Laid BY PROGRAM, IN A SANDBOX (cutbox-door.mjs). By AI agents, Wed Nov 11 2026. No macro, syntax, notation, axiom, sorry.
-/
import Derived.Test.YtgojaelkdpabkaaGreatDoorRows
import GoSem.ClaimSeven
namespace Go.Proofs.YtgojaelkdpabkaaGreatDoor
namespace Rows

/-- THE TIED CARD OF 'bulletinlaw34.TakeBounded'. -/
def takeBoundedCard : Claim7 := { stood := { row := takeBoundedRow, standIns := [], harness := (true, "8293a70179bc8e0e78d4a733cde57184df52cce75f3b3f982e06ec404b753987"), looks := false }, kinds := [], alts := [], laidByText := true, laidKinds := [.data, .data, .data, .data, .data, .pinned], laidTests := true, laidLooks := .later }
def TakeBoundedCardSaid : Prop := Claim7.holds Tryz.pinned (.plain (OpenSpec.ofChange takeBoundedSpec)) takeBoundedCard

/-- THE TIED CARD OF 'bulletinlaw34.TakeOldest'. -/
def takeOldestCard : Claim7 := { stood := { row := takeOldestRow, standIns := [], harness := (true, "8293a70179bc8e0e78d4a733cde57184df52cce75f3b3f982e06ec404b753987"), looks := false }, kinds := [], alts := [], laidByText := true, laidKinds := [.data, .data, .data, .data, .data, .pinned], laidTests := true, laidLooks := .later }
def TakeOldestCardSaid : Prop := Claim7.holds Tryz.pinned (.plain (OpenSpec.ofChange takeOldestSpec)) takeOldestCard

/-- THE TIED CARD OF 'bulletinlaw34.TakeResume'. -/
def takeResumeCard : Claim7 := { stood := { row := takeResumeRow, standIns := [], harness := (true, "8293a70179bc8e0e78d4a733cde57184df52cce75f3b3f982e06ec404b753987"), looks := false }, kinds := [], alts := [], laidByText := true, laidKinds := [.data, .data, .data, .data, .data, .pinned], laidTests := true, laidLooks := .later }
def TakeResumeCardSaid : Prop := Claim7.holds Tryz.pinned (.plain (OpenSpec.ofChange takeResumeSpec)) takeResumeCard

/-- THE TIED CARD OF 'bulletinlaw34.TakeErrors'. -/
def takeErrorsCard : Claim7 := { stood := { row := takeErrorsRow, standIns := [], harness := (true, "8293a70179bc8e0e78d4a733cde57184df52cce75f3b3f982e06ec404b753987"), looks := false }, kinds := [], alts := [], laidByText := true, laidKinds := [.data, .data, .data, .data, .data, .pinned], laidTests := true, laidLooks := .later }
def TakeErrorsCardSaid : Prop := Claim7.holds Tryz.pinned (.plain (OpenSpec.ofChange takeErrorsSpec)) takeErrorsCard

/-- THE TIED CARD OF 'bulletinlaw34.TakeOperations'. -/
def takeOperationsCard : Claim7 := { stood := { row := takeOperationsRow, standIns := [], harness := (true, "8293a70179bc8e0e78d4a733cde57184df52cce75f3b3f982e06ec404b753987"), looks := false }, kinds := [], alts := [], laidByText := true, laidKinds := [.data, .data, .data, .data, .data, .pinned], laidTests := true, laidLooks := .later }
def TakeOperationsCardSaid : Prop := Claim7.holds Tryz.pinned (.plain (OpenSpec.ofChange takeOperationsSpec)) takeOperationsCard

/-- THE TIED CARD OF 'bulletinlaw34.TakeForeign'. -/
def takeForeignCard : Claim7 := { stood := { row := takeForeignRow, standIns := [], harness := (true, "8293a70179bc8e0e78d4a733cde57184df52cce75f3b3f982e06ec404b753987"), looks := false }, kinds := [], alts := [], laidByText := true, laidKinds := [.data, .data, .data, .data, .data, .pinned], laidTests := true, laidLooks := .later }
def TakeForeignCardSaid : Prop := Claim7.holds Tryz.pinned (.plain (OpenSpec.ofChange takeForeignSpec)) takeForeignCard

/-- THE TIED CARD OF 'bulletinlaw34.TakeClone'. -/
def takeCloneCard : Claim7 := { stood := { row := takeCloneRow, standIns := [], harness := (true, "8293a70179bc8e0e78d4a733cde57184df52cce75f3b3f982e06ec404b753987"), looks := false }, kinds := [], alts := [], laidByText := true, laidKinds := [.data, .data, .data, .data, .data, .pinned], laidTests := true, laidLooks := .later }
def TakeCloneCardSaid : Prop := Claim7.holds Tryz.pinned (.plain (OpenSpec.ofChange takeCloneSpec)) takeCloneCard

/-- THE TIED CARD OF 'bulletinlaw34.TakeNil'. -/
def takeNilCard : Claim7 := { stood := { row := takeNilRow, standIns := [], harness := (true, "8293a70179bc8e0e78d4a733cde57184df52cce75f3b3f982e06ec404b753987"), looks := false }, kinds := [], alts := [], laidByText := true, laidKinds := [.data, .data, .data, .data, .data, .pinned], laidTests := true, laidLooks := .later }
def TakeNilCardSaid : Prop := Claim7.holds Tryz.pinned (.plain (OpenSpec.ofChange takeNilSpec)) takeNilCard

/-- THE SECOND FORM's CARD OF 'bulletinlaw34.TakeBounded'. -/
def takeBoundedUptoCard : Claim7 := { stood := { row := takeBoundedUptoRow, standIns := [], harness := (true, "8293a70179bc8e0e78d4a733cde57184df52cce75f3b3f982e06ec404b753987"), looks := false }, kinds := [], alts := [], laidByText := true, laidKinds := [.data, .data, .data, .data, .data, .pinned], laidTests := true, laidLooks := .later }
def TakeBoundedUptoCardSaid : Prop := Claim7.holds Tryz.pinned (.plain (OpenSpec.upto takeBoundedSpec)) takeBoundedUptoCard

/-- THE SECOND FORM's CARD OF 'bulletinlaw34.TakeOldest'. -/
def takeOldestUptoCard : Claim7 := { stood := { row := takeOldestUptoRow, standIns := [], harness := (true, "8293a70179bc8e0e78d4a733cde57184df52cce75f3b3f982e06ec404b753987"), looks := false }, kinds := [], alts := [], laidByText := true, laidKinds := [.data, .data, .data, .data, .data, .pinned], laidTests := true, laidLooks := .later }
def TakeOldestUptoCardSaid : Prop := Claim7.holds Tryz.pinned (.plain (OpenSpec.upto takeOldestSpec)) takeOldestUptoCard

/-- THE SECOND FORM's CARD OF 'bulletinlaw34.TakeResume'. -/
def takeResumeUptoCard : Claim7 := { stood := { row := takeResumeUptoRow, standIns := [], harness := (true, "8293a70179bc8e0e78d4a733cde57184df52cce75f3b3f982e06ec404b753987"), looks := false }, kinds := [], alts := [], laidByText := true, laidKinds := [.data, .data, .data, .data, .data, .pinned], laidTests := true, laidLooks := .later }
def TakeResumeUptoCardSaid : Prop := Claim7.holds Tryz.pinned (.plain (OpenSpec.upto takeResumeSpec)) takeResumeUptoCard

/-- THE SECOND FORM's CARD OF 'bulletinlaw34.TakeErrors'. -/
def takeErrorsUptoCard : Claim7 := { stood := { row := takeErrorsUptoRow, standIns := [], harness := (true, "8293a70179bc8e0e78d4a733cde57184df52cce75f3b3f982e06ec404b753987"), looks := false }, kinds := [], alts := [], laidByText := true, laidKinds := [.data, .data, .data, .data, .data, .pinned], laidTests := true, laidLooks := .later }
def TakeErrorsUptoCardSaid : Prop := Claim7.holds Tryz.pinned (.plain (OpenSpec.upto takeErrorsSpec)) takeErrorsUptoCard

/-- THE SECOND FORM's CARD OF 'bulletinlaw34.TakeOperations'. -/
def takeOperationsUptoCard : Claim7 := { stood := { row := takeOperationsUptoRow, standIns := [], harness := (true, "8293a70179bc8e0e78d4a733cde57184df52cce75f3b3f982e06ec404b753987"), looks := false }, kinds := [], alts := [], laidByText := true, laidKinds := [.data, .data, .data, .data, .data, .pinned], laidTests := true, laidLooks := .later }
def TakeOperationsUptoCardSaid : Prop := Claim7.holds Tryz.pinned (.plain (OpenSpec.upto takeOperationsSpec)) takeOperationsUptoCard

/-- THE SECOND FORM's CARD OF 'bulletinlaw34.TakeForeign'. -/
def takeForeignUptoCard : Claim7 := { stood := { row := takeForeignUptoRow, standIns := [], harness := (true, "8293a70179bc8e0e78d4a733cde57184df52cce75f3b3f982e06ec404b753987"), looks := false }, kinds := [], alts := [], laidByText := true, laidKinds := [.data, .data, .data, .data, .data, .pinned], laidTests := true, laidLooks := .later }
def TakeForeignUptoCardSaid : Prop := Claim7.holds Tryz.pinned (.plain (OpenSpec.upto takeForeignSpec)) takeForeignUptoCard

/-- THE SECOND FORM's CARD OF 'bulletinlaw34.TakeClone'. -/
def takeCloneUptoCard : Claim7 := { stood := { row := takeCloneUptoRow, standIns := [], harness := (true, "8293a70179bc8e0e78d4a733cde57184df52cce75f3b3f982e06ec404b753987"), looks := false }, kinds := [], alts := [], laidByText := true, laidKinds := [.data, .data, .data, .data, .data, .pinned], laidTests := true, laidLooks := .later }
def TakeCloneUptoCardSaid : Prop := Claim7.holds Tryz.pinned (.plain (OpenSpec.upto takeCloneSpec)) takeCloneUptoCard

/-- THE SECOND FORM's CARD OF 'bulletinlaw34.TakeNil'. -/
def takeNilUptoCard : Claim7 := { stood := { row := takeNilUptoRow, standIns := [], harness := (true, "8293a70179bc8e0e78d4a733cde57184df52cce75f3b3f982e06ec404b753987"), looks := false }, kinds := [], alts := [], laidByText := true, laidKinds := [.data, .data, .data, .data, .data, .pinned], laidTests := true, laidLooks := .later }
def TakeNilUptoCardSaid : Prop := Claim7.holds Tryz.pinned (.plain (OpenSpec.upto takeNilSpec)) takeNilUptoCard
end Rows
end Go.Proofs.YtgojaelkdpabkaaGreatDoor
