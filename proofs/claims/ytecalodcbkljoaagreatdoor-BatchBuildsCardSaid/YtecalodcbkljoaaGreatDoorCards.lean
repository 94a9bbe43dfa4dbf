/-
  DERIVED. GIVEN WITH THE SEED: THE CARDS: each row of YtecalodcbkljoaaGreatDoorRows.lean that lists a variable, with what it lists TIED to the program's text (the seventh form; the later family's looks); each row that meets fmt, with fmt's text TOLD by the authors' own Lean function (tested against real Go, not proved from fmt's source: count such statements apart). THE CARD IS WHAT COUNTS. Prove the row's statement (the work); the ties are given (YtecalodcbkljoaaGreatDoorTie.lean); close each card by the builder's one call (the guide's Derived/Test/ToyasCard.lean, 'card_holds'). Laid BY PROGRAM, IN A SANDBOX (cutbox-door.mjs). By AI agents, Wed Nov 11 2026. No macro, syntax, notation, axiom, sorry.
-/
import Derived.Test.YtecalodcbkljoaaGreatDoorRows
import GoSem.ClaimSeven
namespace Go.Proofs.YtecalodcbkljoaaGreatDoor
namespace Rows

/-- THE TIED CARD OF 'bulletinlaw35.BatchUnpacks'. -/
def batchUnpacksCard : Claim7 := { stood := { row := batchUnpacksRow, standIns := [], harness := (true, "2a4777d966b7c969558014c990a808f37550bf916a4d3aeb8c1d67264f688c50"), looks := false }, kinds := [], alts := [], laidByText := true, laidKinds := [.data, .data, .data, .data, .data, .pinned], laidTests := true, laidLooks := .later }
def BatchUnpacksCardSaid : Prop := Claim7.holds Tryz.pinned (.plain (OpenSpec.ofChange batchUnpacksSpec)) batchUnpacksCard

/-- THE TIED CARD OF 'bulletinlaw35.BatchSalvages'. -/
def batchSalvagesCard : Claim7 := { stood := { row := batchSalvagesRow, standIns := [], harness := (true, "2a4777d966b7c969558014c990a808f37550bf916a4d3aeb8c1d67264f688c50"), looks := false }, kinds := [], alts := [], laidByText := true, laidKinds := [.data, .data, .data, .data, .data, .pinned], laidTests := true, laidLooks := .later }
def BatchSalvagesCardSaid : Prop := Claim7.holds Tryz.pinned (.plain (OpenSpec.ofChange batchSalvagesSpec)) batchSalvagesCard

/-- THE TIED CARD OF 'bulletinlaw35.BatchDamage'. -/
def batchDamageCard : Claim7 := { stood := { row := batchDamageRow, standIns := [], harness := (true, "2a4777d966b7c969558014c990a808f37550bf916a4d3aeb8c1d67264f688c50"), looks := false }, kinds := [], alts := [], laidByText := true, laidKinds := [.data, .data, .data, .data, .data, .pinned], laidTests := true, laidLooks := .later }
def BatchDamageCardSaid : Prop := Claim7.holds Tryz.pinned (.plain (OpenSpec.ofChange batchDamageSpec)) batchDamageCard

/-- THE TIED CARD OF 'bulletinlaw35.BatchSplits'. -/
def batchSplitsCard : Claim7 := { stood := { row := batchSplitsRow, standIns := [], harness := (true, "2a4777d966b7c969558014c990a808f37550bf916a4d3aeb8c1d67264f688c50"), looks := false }, kinds := [], alts := [], laidByText := true, laidKinds := [.data, .data, .data, .data, .data, .pinned], laidTests := true, laidLooks := .later }
def BatchSplitsCardSaid : Prop := Claim7.holds Tryz.pinned (.plain (OpenSpec.ofChange batchSplitsSpec)) batchSplitsCard

/-- THE TIED CARD OF 'bulletinlaw35.BatchBuilds'. -/
def batchBuildsCard : Claim7 := { stood := { row := batchBuildsRow, standIns := [], harness := (true, "2a4777d966b7c969558014c990a808f37550bf916a4d3aeb8c1d67264f688c50"), looks := false }, kinds := [], alts := [], laidByText := true, laidKinds := [.data, .data, .data, .data, .data, .pinned], laidTests := true, laidLooks := .later }
def BatchBuildsCardSaid : Prop := Claim7.holds Tryz.pinned (.plain (OpenSpec.ofChange batchBuildsSpec)) batchBuildsCard

/-- THE TIED CARD OF 'bulletinlaw35.BatchRefuses'. -/
def batchRefusesCard : Claim7 := { stood := { row := batchRefusesRow, standIns := [], harness := (true, "2a4777d966b7c969558014c990a808f37550bf916a4d3aeb8c1d67264f688c50"), looks := false }, kinds := [], alts := [], laidByText := true, laidKinds := [.data, .data, .data, .data, .data, .pinned], laidTests := true, laidLooks := .later }
def BatchRefusesCardSaid : Prop := Claim7.holds Tryz.pinned (.plain (OpenSpec.ofChange batchRefusesSpec)) batchRefusesCard

/-- THE SECOND FORM's CARD OF 'bulletinlaw35.BatchUnpacks'. -/
def batchUnpacksUptoCard : Claim7 := { stood := { row := batchUnpacksUptoRow, standIns := [], harness := (true, "2a4777d966b7c969558014c990a808f37550bf916a4d3aeb8c1d67264f688c50"), looks := false }, kinds := [], alts := [], laidByText := true, laidKinds := [.data, .data, .data, .data, .data, .pinned], laidTests := true, laidLooks := .later }
def BatchUnpacksUptoCardSaid : Prop := Claim7.holds Tryz.pinned (.plain (OpenSpec.upto batchUnpacksSpec)) batchUnpacksUptoCard

/-- THE SECOND FORM's CARD OF 'bulletinlaw35.BatchSalvages'. -/
def batchSalvagesUptoCard : Claim7 := { stood := { row := batchSalvagesUptoRow, standIns := [], harness := (true, "2a4777d966b7c969558014c990a808f37550bf916a4d3aeb8c1d67264f688c50"), looks := false }, kinds := [], alts := [], laidByText := true, laidKinds := [.data, .data, .data, .data, .data, .pinned], laidTests := true, laidLooks := .later }
def BatchSalvagesUptoCardSaid : Prop := Claim7.holds Tryz.pinned (.plain (OpenSpec.upto batchSalvagesSpec)) batchSalvagesUptoCard

/-- THE SECOND FORM's CARD OF 'bulletinlaw35.BatchDamage'. -/
def batchDamageUptoCard : Claim7 := { stood := { row := batchDamageUptoRow, standIns := [], harness := (true, "2a4777d966b7c969558014c990a808f37550bf916a4d3aeb8c1d67264f688c50"), looks := false }, kinds := [], alts := [], laidByText := true, laidKinds := [.data, .data, .data, .data, .data, .pinned], laidTests := true, laidLooks := .later }
def BatchDamageUptoCardSaid : Prop := Claim7.holds Tryz.pinned (.plain (OpenSpec.upto batchDamageSpec)) batchDamageUptoCard

/-- THE SECOND FORM's CARD OF 'bulletinlaw35.BatchSplits'. -/
def batchSplitsUptoCard : Claim7 := { stood := { row := batchSplitsUptoRow, standIns := [], harness := (true, "2a4777d966b7c969558014c990a808f37550bf916a4d3aeb8c1d67264f688c50"), looks := false }, kinds := [], alts := [], laidByText := true, laidKinds := [.data, .data, .data, .data, .data, .pinned], laidTests := true, laidLooks := .later }
def BatchSplitsUptoCardSaid : Prop := Claim7.holds Tryz.pinned (.plain (OpenSpec.upto batchSplitsSpec)) batchSplitsUptoCard

/-- THE SECOND FORM's CARD OF 'bulletinlaw35.BatchBuilds'. -/
def batchBuildsUptoCard : Claim7 := { stood := { row := batchBuildsUptoRow, standIns := [], harness := (true, "2a4777d966b7c969558014c990a808f37550bf916a4d3aeb8c1d67264f688c50"), looks := false }, kinds := [], alts := [], laidByText := true, laidKinds := [.data, .data, .data, .data, .data, .pinned], laidTests := true, laidLooks := .later }
def BatchBuildsUptoCardSaid : Prop := Claim7.holds Tryz.pinned (.plain (OpenSpec.upto batchBuildsSpec)) batchBuildsUptoCard

/-- THE SECOND FORM's CARD OF 'bulletinlaw35.BatchRefuses'. -/
def batchRefusesUptoCard : Claim7 := { stood := { row := batchRefusesUptoRow, standIns := [], harness := (true, "2a4777d966b7c969558014c990a808f37550bf916a4d3aeb8c1d67264f688c50"), looks := false }, kinds := [], alts := [], laidByText := true, laidKinds := [.data, .data, .data, .data, .data, .pinned], laidTests := true, laidLooks := .later }
def BatchRefusesUptoCardSaid : Prop := Claim7.holds Tryz.pinned (.plain (OpenSpec.upto batchRefusesSpec)) batchRefusesUptoCard
end Rows
end Go.Proofs.YtecalodcbkljoaaGreatDoor
