/-
  DERIVED. GIVEN WITH THE SEED: THE CARDS: each row of YtecalodcbkljoaaDoorRows.lean that lists a variable, with what it lists TIED to the program's text (the seventh form; the later family's looks); each row that meets fmt, with fmt's text TOLD by the authors' own Lean function (tested against real Go, not proved from fmt's source: count such statements apart). THE CARD IS WHAT COUNTS. Prove the row's statement (the work); the ties are given (YtecalodcbkljoaaDoorTie.lean); close each card by the builder's one call (the guide's Derived/Test/ToyasCard.lean, 'card_holds'). Laid BY PROGRAM, IN A SANDBOX (cutbox-door.mjs). By AI agents, Wed Nov 11 2026. No macro, syntax, notation, axiom, sorry.
-/
import Derived.Test.YtecalodcbkljoaaDoorRows
import GoSem.ClaimSeven
namespace Go.Proofs.YtecalodcbkljoaaDoor
namespace Rows

/-- THE TIED CARD OF 'bulletinlaw35.BatchTampering'. -/
def batchTamperingCard : Claim7 := { stood := { row := batchTamperingRow, standIns := [], harness := (true, "ce1a01f5b7b8c45d9d6a51f45bd240f36cd5a58ea3234ef9bf25c29b0cf9b96c"), looks := false }, kinds := [], alts := [], laidByText := true, laidKinds := [.data, .data, .data, .data, .data, .pinned], laidTests := true, laidLooks := .later }
def BatchTamperingCardSaid : Prop := Claim7.holds Tryd.pinned (.plain (OpenSpec.ofChange batchTamperingSpec)) batchTamperingCard

/-- THE TIED CARD OF 'bulletinlaw35.BatchTruncates'. -/
def batchTruncatesCard : Claim7 := { stood := { row := batchTruncatesRow, standIns := [], harness := (true, "ce1a01f5b7b8c45d9d6a51f45bd240f36cd5a58ea3234ef9bf25c29b0cf9b96c"), looks := false }, kinds := [], alts := [], laidByText := true, laidKinds := [.data, .data, .data, .data, .data, .pinned], laidTests := true, laidLooks := .later }
def BatchTruncatesCardSaid : Prop := Claim7.holds Tryd.pinned (.plain (OpenSpec.ofChange batchTruncatesSpec)) batchTruncatesCard

/-- THE TIED CARD OF 'bulletinlaw35.BatchPacks'. -/
def batchPacksCard : Claim7 := { stood := { row := batchPacksRow, standIns := [], harness := (true, "ce1a01f5b7b8c45d9d6a51f45bd240f36cd5a58ea3234ef9bf25c29b0cf9b96c"), looks := false }, kinds := [], alts := [], laidByText := true, laidKinds := [.data, .data, .data, .data, .data, .pinned], laidTests := true, laidLooks := .later }
def BatchPacksCardSaid : Prop := Claim7.holds Tryd.pinned (.plain (OpenSpec.ofChange batchPacksSpec)) batchPacksCard

/-- THE TIED CARD OF 'bulletinlaw35.BatchLimits'. -/
def batchLimitsCard : Claim7 := { stood := { row := batchLimitsRow, standIns := [], harness := (true, "ce1a01f5b7b8c45d9d6a51f45bd240f36cd5a58ea3234ef9bf25c29b0cf9b96c"), looks := false }, kinds := [], alts := [], laidByText := true, laidKinds := [.data, .data, .data, .data, .data, .pinned], laidTests := true, laidLooks := .later }
def BatchLimitsCardSaid : Prop := Claim7.holds Tryd.pinned (.plain (OpenSpec.ofChange batchLimitsSpec)) batchLimitsCard

/-- THE SECOND FORM's CARD OF 'bulletinlaw35.BatchTampering'. -/
def batchTamperingUptoCard : Claim7 := { stood := { row := batchTamperingUptoRow, standIns := [], harness := (true, "ce1a01f5b7b8c45d9d6a51f45bd240f36cd5a58ea3234ef9bf25c29b0cf9b96c"), looks := false }, kinds := [], alts := [], laidByText := true, laidKinds := [.data, .data, .data, .data, .data, .pinned], laidTests := true, laidLooks := .later }
def BatchTamperingUptoCardSaid : Prop := Claim7.holds Tryd.pinned (.plain (OpenSpec.upto batchTamperingSpec)) batchTamperingUptoCard

/-- THE SECOND FORM's CARD OF 'bulletinlaw35.BatchTruncates'. -/
def batchTruncatesUptoCard : Claim7 := { stood := { row := batchTruncatesUptoRow, standIns := [], harness := (true, "ce1a01f5b7b8c45d9d6a51f45bd240f36cd5a58ea3234ef9bf25c29b0cf9b96c"), looks := false }, kinds := [], alts := [], laidByText := true, laidKinds := [.data, .data, .data, .data, .data, .pinned], laidTests := true, laidLooks := .later }
def BatchTruncatesUptoCardSaid : Prop := Claim7.holds Tryd.pinned (.plain (OpenSpec.upto batchTruncatesSpec)) batchTruncatesUptoCard

/-- THE SECOND FORM's CARD OF 'bulletinlaw35.BatchPacks'. -/
def batchPacksUptoCard : Claim7 := { stood := { row := batchPacksUptoRow, standIns := [], harness := (true, "ce1a01f5b7b8c45d9d6a51f45bd240f36cd5a58ea3234ef9bf25c29b0cf9b96c"), looks := false }, kinds := [], alts := [], laidByText := true, laidKinds := [.data, .data, .data, .data, .data, .pinned], laidTests := true, laidLooks := .later }
def BatchPacksUptoCardSaid : Prop := Claim7.holds Tryd.pinned (.plain (OpenSpec.upto batchPacksSpec)) batchPacksUptoCard

/-- THE SECOND FORM's CARD OF 'bulletinlaw35.BatchLimits'. -/
def batchLimitsUptoCard : Claim7 := { stood := { row := batchLimitsUptoRow, standIns := [], harness := (true, "ce1a01f5b7b8c45d9d6a51f45bd240f36cd5a58ea3234ef9bf25c29b0cf9b96c"), looks := false }, kinds := [], alts := [], laidByText := true, laidKinds := [.data, .data, .data, .data, .data, .pinned], laidTests := true, laidLooks := .later }
def BatchLimitsUptoCardSaid : Prop := Claim7.holds Tryd.pinned (.plain (OpenSpec.upto batchLimitsSpec)) batchLimitsUptoCard
end Rows
end Go.Proofs.YtecalodcbkljoaaDoor
