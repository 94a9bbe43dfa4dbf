/-
  DERIVED. GIVEN WITH THE SEED: THE CARDS: each row of YtlelecnafdddhaaDoorRows.lean that lists a variable, with what it lists TIED to the program's text (the seventh form; the later family's looks); each row that meets fmt, with fmt's text TOLD by the authors' own Lean function (tested against real Go, not proved from fmt's source: count such statements apart). THE CARD IS WHAT COUNTS. Prove the row's statement (the work); the ties are given (YtlelecnafdddhaaDoorTie.lean); close each card by the builder's one call (the guide's Derived/Test/ToyasCard.lean, 'card_holds'). Laid BY PROGRAM, IN A SANDBOX (cutbox-door.mjs). By AI agents, Wed Nov 11 2026. No macro, syntax, notation, axiom, sorry.
-/
import Derived.Test.YtlelecnafdddhaaDoorRows
import GoSem.ClaimSeven
namespace Go.Proofs.YtlelecnafdddhaaDoor
namespace Rows

/-- THE TIED CARD OF 'bulletinlaw33.OfferNew'. -/
def offerNewCard : Claim7 := { stood := { row := offerNewRow, standIns := [], harness := (true, "fb0febf2e23543199533409ad9ace848dc3bce2a950b768ea2ffd0df0452928e"), looks := false }, kinds := [], alts := [], laidByText := true, laidKinds := [.data, .data], laidTests := true, laidLooks := .later }
def OfferNewCardSaid : Prop := Claim7.holds Tryd.pinned (.plain (OpenSpec.ofChange offerNewSpec)) offerNewCard

/-- THE TIED CARD OF 'bulletinlaw33.OfferResumes'. -/
def offerResumesCard : Claim7 := { stood := { row := offerResumesRow, standIns := [], harness := (true, "fb0febf2e23543199533409ad9ace848dc3bce2a950b768ea2ffd0df0452928e"), looks := false }, kinds := [], alts := [], laidByText := true, laidKinds := [.data, .data], laidTests := true, laidLooks := .later }
def OfferResumesCardSaid : Prop := Claim7.holds Tryd.pinned (.plain (OpenSpec.ofChange offerResumesSpec)) offerResumesCard

/-- THE TIED CARD OF 'bulletinlaw33.OfferAlone'. -/
def offerAloneCard : Claim7 := { stood := { row := offerAloneRow, standIns := [], harness := (true, "fb0febf2e23543199533409ad9ace848dc3bce2a950b768ea2ffd0df0452928e"), looks := false }, kinds := [], alts := [], laidByText := true, laidKinds := [.data, .data], laidTests := true, laidLooks := .later }
def OfferAloneCardSaid : Prop := Claim7.holds Tryd.pinned (.plain (OpenSpec.ofChange offerAloneSpec)) offerAloneCard

/-- THE TIED CARD OF 'bulletinlaw33.OfferPlays'. -/
def offerPlaysCard : Claim7 := { stood := { row := offerPlaysRow, standIns := [], harness := (true, "fb0febf2e23543199533409ad9ace848dc3bce2a950b768ea2ffd0df0452928e"), looks := false }, kinds := [], alts := [], laidByText := true, laidKinds := [.data, .data], laidTests := true, laidLooks := .later }
def OfferPlaysCardSaid : Prop := Claim7.holds Tryd.pinned (.plain (OpenSpec.ofChange offerPlaysSpec)) offerPlaysCard

/-- THE TIED CARD OF 'bulletinlaw33.OfferOutcomes'. -/
def offerOutcomesCard : Claim7 := { stood := { row := offerOutcomesRow, standIns := [], harness := (true, "fb0febf2e23543199533409ad9ace848dc3bce2a950b768ea2ffd0df0452928e"), looks := false }, kinds := [], alts := [], laidByText := true, laidKinds := [.data, .data], laidTests := true, laidLooks := .later }
def OfferOutcomesCardSaid : Prop := Claim7.holds Tryd.pinned (.plain (OpenSpec.ofChange offerOutcomesSpec)) offerOutcomesCard

/-- THE TIED CARD OF 'bulletinlaw33.OfferClones'. -/
def offerClonesCard : Claim7 := { stood := { row := offerClonesRow, standIns := [], harness := (true, "fb0febf2e23543199533409ad9ace848dc3bce2a950b768ea2ffd0df0452928e"), looks := false }, kinds := [], alts := [], laidByText := true, laidKinds := [.data, .data], laidTests := true, laidLooks := .later }
def OfferClonesCardSaid : Prop := Claim7.holds Tryd.pinned (.plain (OpenSpec.ofChange offerClonesSpec)) offerClonesCard

/-- THE TIED CARD OF 'bulletinlaw33.OfferNil'. -/
def offerNilCard : Claim7 := { stood := { row := offerNilRow, standIns := [], harness := (true, "fb0febf2e23543199533409ad9ace848dc3bce2a950b768ea2ffd0df0452928e"), looks := false }, kinds := [], alts := [], laidByText := true, laidKinds := [.data, .data], laidTests := true, laidLooks := .later }
def OfferNilCardSaid : Prop := Claim7.holds Tryd.pinned (.plain (OpenSpec.ofChange offerNilSpec)) offerNilCard

/-- THE TIED CARD OF 'bulletinlaw33.OfferDelivers'. -/
def offerDeliversCard : Claim7 := { stood := { row := offerDeliversRow, standIns := [], harness := (true, "fb0febf2e23543199533409ad9ace848dc3bce2a950b768ea2ffd0df0452928e"), looks := false }, kinds := [], alts := [], laidByText := true, laidKinds := [.data, .data], laidTests := true, laidLooks := .later }
def OfferDeliversCardSaid : Prop := Claim7.holds Tryd.pinned (.plain (OpenSpec.ofChange offerDeliversSpec)) offerDeliversCard

/-- THE SECOND FORM's CARD OF 'bulletinlaw33.OfferNew'. -/
def offerNewUptoCard : Claim7 := { stood := { row := offerNewUptoRow, standIns := [], harness := (true, "fb0febf2e23543199533409ad9ace848dc3bce2a950b768ea2ffd0df0452928e"), looks := false }, kinds := [], alts := [], laidByText := true, laidKinds := [.data, .data], laidTests := true, laidLooks := .later }
def OfferNewUptoCardSaid : Prop := Claim7.holds Tryd.pinned (.plain (OpenSpec.upto offerNewSpec)) offerNewUptoCard

/-- THE SECOND FORM's CARD OF 'bulletinlaw33.OfferResumes'. -/
def offerResumesUptoCard : Claim7 := { stood := { row := offerResumesUptoRow, standIns := [], harness := (true, "fb0febf2e23543199533409ad9ace848dc3bce2a950b768ea2ffd0df0452928e"), looks := false }, kinds := [], alts := [], laidByText := true, laidKinds := [.data, .data], laidTests := true, laidLooks := .later }
def OfferResumesUptoCardSaid : Prop := Claim7.holds Tryd.pinned (.plain (OpenSpec.upto offerResumesSpec)) offerResumesUptoCard

/-- THE SECOND FORM's CARD OF 'bulletinlaw33.OfferAlone'. -/
def offerAloneUptoCard : Claim7 := { stood := { row := offerAloneUptoRow, standIns := [], harness := (true, "fb0febf2e23543199533409ad9ace848dc3bce2a950b768ea2ffd0df0452928e"), looks := false }, kinds := [], alts := [], laidByText := true, laidKinds := [.data, .data], laidTests := true, laidLooks := .later }
def OfferAloneUptoCardSaid : Prop := Claim7.holds Tryd.pinned (.plain (OpenSpec.upto offerAloneSpec)) offerAloneUptoCard

/-- THE SECOND FORM's CARD OF 'bulletinlaw33.OfferPlays'. -/
def offerPlaysUptoCard : Claim7 := { stood := { row := offerPlaysUptoRow, standIns := [], harness := (true, "fb0febf2e23543199533409ad9ace848dc3bce2a950b768ea2ffd0df0452928e"), looks := false }, kinds := [], alts := [], laidByText := true, laidKinds := [.data, .data], laidTests := true, laidLooks := .later }
def OfferPlaysUptoCardSaid : Prop := Claim7.holds Tryd.pinned (.plain (OpenSpec.upto offerPlaysSpec)) offerPlaysUptoCard

/-- THE SECOND FORM's CARD OF 'bulletinlaw33.OfferOutcomes'. -/
def offerOutcomesUptoCard : Claim7 := { stood := { row := offerOutcomesUptoRow, standIns := [], harness := (true, "fb0febf2e23543199533409ad9ace848dc3bce2a950b768ea2ffd0df0452928e"), looks := false }, kinds := [], alts := [], laidByText := true, laidKinds := [.data, .data], laidTests := true, laidLooks := .later }
def OfferOutcomesUptoCardSaid : Prop := Claim7.holds Tryd.pinned (.plain (OpenSpec.upto offerOutcomesSpec)) offerOutcomesUptoCard

/-- THE SECOND FORM's CARD OF 'bulletinlaw33.OfferClones'. -/
def offerClonesUptoCard : Claim7 := { stood := { row := offerClonesUptoRow, standIns := [], harness := (true, "fb0febf2e23543199533409ad9ace848dc3bce2a950b768ea2ffd0df0452928e"), looks := false }, kinds := [], alts := [], laidByText := true, laidKinds := [.data, .data], laidTests := true, laidLooks := .later }
def OfferClonesUptoCardSaid : Prop := Claim7.holds Tryd.pinned (.plain (OpenSpec.upto offerClonesSpec)) offerClonesUptoCard

/-- THE SECOND FORM's CARD OF 'bulletinlaw33.OfferNil'. -/
def offerNilUptoCard : Claim7 := { stood := { row := offerNilUptoRow, standIns := [], harness := (true, "fb0febf2e23543199533409ad9ace848dc3bce2a950b768ea2ffd0df0452928e"), looks := false }, kinds := [], alts := [], laidByText := true, laidKinds := [.data, .data], laidTests := true, laidLooks := .later }
def OfferNilUptoCardSaid : Prop := Claim7.holds Tryd.pinned (.plain (OpenSpec.upto offerNilSpec)) offerNilUptoCard

/-- THE SECOND FORM's CARD OF 'bulletinlaw33.OfferDelivers'. -/
def offerDeliversUptoCard : Claim7 := { stood := { row := offerDeliversUptoRow, standIns := [], harness := (true, "fb0febf2e23543199533409ad9ace848dc3bce2a950b768ea2ffd0df0452928e"), looks := false }, kinds := [], alts := [], laidByText := true, laidKinds := [.data, .data], laidTests := true, laidLooks := .later }
def OfferDeliversUptoCardSaid : Prop := Claim7.holds Tryd.pinned (.plain (OpenSpec.upto offerDeliversSpec)) offerDeliversUptoCard
end Rows
end Go.Proofs.YtlelecnafdddhaaDoor
