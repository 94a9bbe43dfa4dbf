/-
  NARROWER THAN 'FOR EVERY INPUT', by the rows' own cells (each row's printed sentence says how): OfferNew: laid · OfferResumes: laid · OfferAlone: laid · OfferPlays: laid · OfferOutcomes: laid · OfferClones: laid · OfferNil: laid · OfferDelivers: laid.
  DERIVED. THE GIVEN ROWS OF THIS SEAT. 8 by the template 'for every input the law returns true; each argument reads behind the call as it read before'; 0 by the template 'total and deterministic' (their statements: YtlelecnafdddhaaDoorTotals.lean).
  GIVEN WITH THE SEED: the statements are not yours to turn. If you find one false, say at which input.
  Laid BY PROGRAM, IN A SANDBOX (cutbox-rows.mjs): the forced cells as the released guide's own fill.sh prints them over the translation bd60a3abfd7006e4… (all of the seat's roots in one cut). By AI agents, Wed Nov 11 2026. No macro, syntax, notation, axiom, sorry.
-/
import Derived.Test.YtlelecnafdddhaaDoorChecked
import GoSem.Claim
import GoSem.ClaimJoined
import GoSem.ClaimMapViews
import Derived.JoinedTies
import Derived.KernelRfl
namespace Go.Proofs.YtlelecnafdddhaaDoor
/- THE CELL 'sum', in the pinned program and in every row, IS THE sha256 OF THE DUMP (.gsa) THAT YtlelecnafdddhaaDoorProg.lean LOADS. Nothing in Lean hashes anything: it is a label: what it is worth is what the hold of that sum in a sandbox is worth. -/
noncomputable def Tryd.pinned : Pinned := { name := "ytlelecnafdddhaadoor", sum := "bd60a3abfd7006e4c122d6d73db58963b017bace8b6a4f8d26162d9fa4d2b06d", checked := Tryd.checked }
namespace Rows
def none {H : Type} : Left H := { results := [], args := [] }

/- WHAT THE LISTED PACKAGE-LEVEL VARIABLES READ AS WHEN THE CALL BEGINS. Each datum BY PROGRAM (the guide's laid-datum.mjs) off the statement by which the dump's own 'gosem.cut.vars' lays the variable. In a bare row this is a premise. The card (YtlelecnafdddhaaDoorCards.lean) ties it to the program's text. -/
def laid_bulletin_command_forms {H : Type} : DataW H := .agg [.agg [.lit (.string []), .lit (.int .i64 0), .lit (.int .i64 0)], .agg [.lit (.string [104, 101, 108, 108, 111]), .lit (.int .i64 17), .lit (.int .i64 0)], .agg [.lit (.string [111, 102, 102, 101, 114]), .lit (.int .i64 6), .lit (.int .i64 0)], .agg [.lit (.string [119, 97, 110, 116]), .lit (.int .i64 10), .lit (.int .i64 0)], .agg [.lit (.string [104, 97, 118, 101]), .lit (.int .i64 2), .lit (.int .i64 0)], .agg [.lit (.string [108, 97, 116, 101, 114]), .lit (.int .i64 2), .lit (.int .i64 0)], .agg [.lit (.string [114, 101, 102, 117, 115, 101]), .lit (.int .i64 34), .lit (.int .i64 0)], .agg [.lit (.string [100, 97, 116, 97]), .lit (.int .i64 74), .lit (.int .i64 4096)], .agg [.lit (.string [100, 111, 110, 101]), .lit (.int .i64 2), .lit (.int .i64 0)], .agg [.lit (.string [103, 111, 116]), .lit (.int .i64 2), .lit (.int .i64 0)], .agg [.lit (.string [98, 97, 116, 99, 104]), .lit (.int .i64 64), .lit (.int .i64 262144)], .agg [.lit (.string [113, 117, 105, 116]), .lit (.int .i64 0), .lit (.int .i64 0)]]
def laid_bulletin_offer_effects {H : Type} : DataW H := .agg [.agg [.lit (.int .i64 0), .lit (.int .i64 0), .lit (.int .i64 0), .lit (.int .i64 0), .lit (.int .i64 0), .lit (.int .i64 0), .lit (.int .i64 0), .lit (.int .i64 0), .lit (.int .i64 0), .lit (.int .i64 0), .lit (.int .i64 0), .lit (.int .i64 0)], .agg [.lit (.int .i64 0), .lit (.int .i64 0), .lit (.int .i64 0), .lit (.int .i64 1), .lit (.int .i64 3), .lit (.int .i64 5), .lit (.int .i64 4), .lit (.int .i64 0), .lit (.int .i64 0), .lit (.int .i64 0), .lit (.int .i64 0), .lit (.int .i64 0)], .agg [.lit (.int .i64 0), .lit (.int .i64 0), .lit (.int .i64 0), .lit (.int .i64 0), .lit (.int .i64 0), .lit (.int .i64 5), .lit (.int .i64 4), .lit (.int .i64 0), .lit (.int .i64 0), .lit (.int .i64 0), .lit (.int .i64 0), .lit (.int .i64 0)], .agg [.lit (.int .i64 0), .lit (.int .i64 0), .lit (.int .i64 0), .lit (.int .i64 0), .lit (.int .i64 0), .lit (.int .i64 5), .lit (.int .i64 4), .lit (.int .i64 0), .lit (.int .i64 0), .lit (.int .i64 2), .lit (.int .i64 0), .lit (.int .i64 0)]]

/-- 'bulletinlaw33.OfferNew': WHATEVER THE INPUT: true; the input reads as it did. -/
def offerNewSpec : ChangeSpec := { name := "offerNew", fn := fun _ => fun
  | [d1, d2, d3] => { results := [.lit (.bool true)], args := [d1, d2, d3] }
  | _ => none }
def offerNewRow : OpenClaim := { program := "ytlelecnafdddhaadoor", sum := "bd60a3abfd7006e4c122d6d73db58963b017bace8b6a4f8d26162d9fa4d2b06d", func := "bulletin/bulletinlaw33.OfferNew", spec := "offerNew", inPlace := ["internal/bytealg.IndexByteString", "internal/bytealg.IndexString"], unfollowed := true, recurses := true, named := ["internal/bytealg.MaxLen", "bulletin/offer.effects", "bulletin/command.forms"], apart := false, laid := [("bulletin/command.forms", laid_bulletin_command_forms), ("bulletin/offer.effects", laid_bulletin_offer_effects)] }
def OfferNewSaid : Prop := offerNewRow.holds Tryd.pinned (OpenSpec.ofChange offerNewSpec)

/-- ITS FALSE NEIGHBOUR: 'it returns false'. Refute it at one input. -/
def offerNewWrong : ChangeSpec := { name := "offerNew", fn := fun _ => fun
  | [d1, d2, d3] => { results := [.lit (.bool false)], args := [d1, d2, d3] }
  | _ => none }
def OfferNewWrongFalsely : Prop := offerNewRow.holds Tryd.pinned (OpenSpec.ofChange offerNewWrong)

/-- 'bulletinlaw33.OfferResumes': WHATEVER THE INPUT: true; the input reads as it did. -/
def offerResumesSpec : ChangeSpec := { name := "offerResumes", fn := fun _ => fun
  | [d1, d2, d3] => { results := [.lit (.bool true)], args := [d1, d2, d3] }
  | _ => none }
def offerResumesRow : OpenClaim := { program := "ytlelecnafdddhaadoor", sum := "bd60a3abfd7006e4c122d6d73db58963b017bace8b6a4f8d26162d9fa4d2b06d", func := "bulletin/bulletinlaw33.OfferResumes", spec := "offerResumes", inPlace := ["internal/bytealg.IndexByteString", "internal/bytealg.IndexString"], unfollowed := true, recurses := true, named := ["internal/bytealg.MaxLen", "bulletin/offer.effects", "bulletin/command.forms"], apart := false, laid := [("bulletin/command.forms", laid_bulletin_command_forms), ("bulletin/offer.effects", laid_bulletin_offer_effects)] }
def OfferResumesSaid : Prop := offerResumesRow.holds Tryd.pinned (OpenSpec.ofChange offerResumesSpec)

/-- ITS FALSE NEIGHBOUR: 'it returns false'. Refute it at one input. -/
def offerResumesWrong : ChangeSpec := { name := "offerResumes", fn := fun _ => fun
  | [d1, d2, d3] => { results := [.lit (.bool false)], args := [d1, d2, d3] }
  | _ => none }
def OfferResumesWrongFalsely : Prop := offerResumesRow.holds Tryd.pinned (OpenSpec.ofChange offerResumesWrong)

/-- 'bulletinlaw33.OfferAlone': WHATEVER THE INPUT: true; the input reads as it did. -/
def offerAloneSpec : ChangeSpec := { name := "offerAlone", fn := fun _ => fun
  | [d1, d2] => { results := [.lit (.bool true)], args := [d1, d2] }
  | _ => none }
def offerAloneRow : OpenClaim := { program := "ytlelecnafdddhaadoor", sum := "bd60a3abfd7006e4c122d6d73db58963b017bace8b6a4f8d26162d9fa4d2b06d", func := "bulletin/bulletinlaw33.OfferAlone", spec := "offerAlone", inPlace := ["internal/bytealg.IndexByteString", "internal/bytealg.IndexString"], unfollowed := true, recurses := true, named := ["internal/bytealg.MaxLen", "bulletin/offer.effects", "bulletin/command.forms"], apart := false, laid := [("bulletin/command.forms", laid_bulletin_command_forms), ("bulletin/offer.effects", laid_bulletin_offer_effects)] }
def OfferAloneSaid : Prop := offerAloneRow.holds Tryd.pinned (OpenSpec.ofChange offerAloneSpec)

/-- ITS FALSE NEIGHBOUR: 'it returns false'. Refute it at one input. -/
def offerAloneWrong : ChangeSpec := { name := "offerAlone", fn := fun _ => fun
  | [d1, d2] => { results := [.lit (.bool false)], args := [d1, d2] }
  | _ => none }
def OfferAloneWrongFalsely : Prop := offerAloneRow.holds Tryd.pinned (OpenSpec.ofChange offerAloneWrong)

/-- 'bulletinlaw33.OfferPlays': WHATEVER THE INPUT: true; the input reads as it did. -/
def offerPlaysSpec : ChangeSpec := { name := "offerPlays", fn := fun _ => fun
  | [d1, d2] => { results := [.lit (.bool true)], args := [d1, d2] }
  | _ => none }
def offerPlaysRow : OpenClaim := { program := "ytlelecnafdddhaadoor", sum := "bd60a3abfd7006e4c122d6d73db58963b017bace8b6a4f8d26162d9fa4d2b06d", func := "bulletin/bulletinlaw33.OfferPlays", spec := "offerPlays", inPlace := ["internal/bytealg.IndexByteString", "internal/bytealg.IndexString"], unfollowed := true, recurses := true, named := ["internal/bytealg.MaxLen", "bulletin/offer.effects", "bulletin/command.forms"], apart := false, laid := [("bulletin/command.forms", laid_bulletin_command_forms), ("bulletin/offer.effects", laid_bulletin_offer_effects)] }
def OfferPlaysSaid : Prop := offerPlaysRow.holds Tryd.pinned (OpenSpec.ofChange offerPlaysSpec)

/-- ITS FALSE NEIGHBOUR: 'it returns false'. Refute it at one input. -/
def offerPlaysWrong : ChangeSpec := { name := "offerPlays", fn := fun _ => fun
  | [d1, d2] => { results := [.lit (.bool false)], args := [d1, d2] }
  | _ => none }
def OfferPlaysWrongFalsely : Prop := offerPlaysRow.holds Tryd.pinned (OpenSpec.ofChange offerPlaysWrong)

/-- 'bulletinlaw33.OfferOutcomes': WHATEVER THE INPUT: true; the input reads as it did. -/
def offerOutcomesSpec : ChangeSpec := { name := "offerOutcomes", fn := fun _ => fun
  | [d1, d2] => { results := [.lit (.bool true)], args := [d1, d2] }
  | _ => none }
def offerOutcomesRow : OpenClaim := { program := "ytlelecnafdddhaadoor", sum := "bd60a3abfd7006e4c122d6d73db58963b017bace8b6a4f8d26162d9fa4d2b06d", func := "bulletin/bulletinlaw33.OfferOutcomes", spec := "offerOutcomes", inPlace := ["internal/bytealg.IndexByteString", "internal/bytealg.IndexString"], unfollowed := true, recurses := true, named := ["internal/bytealg.MaxLen", "bulletin/offer.effects", "bulletin/command.forms"], apart := false, laid := [("bulletin/command.forms", laid_bulletin_command_forms), ("bulletin/offer.effects", laid_bulletin_offer_effects)] }
def OfferOutcomesSaid : Prop := offerOutcomesRow.holds Tryd.pinned (OpenSpec.ofChange offerOutcomesSpec)

/-- ITS FALSE NEIGHBOUR: 'it returns false'. Refute it at one input. -/
def offerOutcomesWrong : ChangeSpec := { name := "offerOutcomes", fn := fun _ => fun
  | [d1, d2] => { results := [.lit (.bool false)], args := [d1, d2] }
  | _ => none }
def OfferOutcomesWrongFalsely : Prop := offerOutcomesRow.holds Tryd.pinned (OpenSpec.ofChange offerOutcomesWrong)

/-- 'bulletinlaw33.OfferClones': WHATEVER THE INPUT: true; the input reads as it did. -/
def offerClonesSpec : ChangeSpec := { name := "offerClones", fn := fun _ => fun
  | [d1, d2, d3] => { results := [.lit (.bool true)], args := [d1, d2, d3] }
  | _ => none }
def offerClonesRow : OpenClaim := { program := "ytlelecnafdddhaadoor", sum := "bd60a3abfd7006e4c122d6d73db58963b017bace8b6a4f8d26162d9fa4d2b06d", func := "bulletin/bulletinlaw33.OfferClones", spec := "offerClones", inPlace := ["internal/bytealg.IndexByteString", "internal/bytealg.IndexString"], unfollowed := true, recurses := true, named := ["internal/bytealg.MaxLen", "bulletin/offer.effects", "bulletin/command.forms"], apart := false, laid := [("bulletin/command.forms", laid_bulletin_command_forms), ("bulletin/offer.effects", laid_bulletin_offer_effects)] }
def OfferClonesSaid : Prop := offerClonesRow.holds Tryd.pinned (OpenSpec.ofChange offerClonesSpec)

/-- ITS FALSE NEIGHBOUR: 'it returns false'. Refute it at one input. -/
def offerClonesWrong : ChangeSpec := { name := "offerClones", fn := fun _ => fun
  | [d1, d2, d3] => { results := [.lit (.bool false)], args := [d1, d2, d3] }
  | _ => none }
def OfferClonesWrongFalsely : Prop := offerClonesRow.holds Tryd.pinned (OpenSpec.ofChange offerClonesWrong)

/-- 'bulletinlaw33.OfferNil': WHATEVER THE INPUT: true; the input reads as it did. -/
def offerNilSpec : ChangeSpec := { name := "offerNil", fn := fun _ => fun
  | [d] => { results := [.lit (.bool true)], args := [d] }
  | _ => none }
def offerNilRow : OpenClaim := { program := "ytlelecnafdddhaadoor", sum := "bd60a3abfd7006e4c122d6d73db58963b017bace8b6a4f8d26162d9fa4d2b06d", func := "bulletin/bulletinlaw33.OfferNil", spec := "offerNil", inPlace := ["internal/bytealg.IndexByteString", "internal/bytealg.IndexString"], unfollowed := true, recurses := true, named := ["internal/bytealg.MaxLen", "bulletin/offer.effects", "bulletin/command.forms"], apart := false, laid := [("bulletin/command.forms", laid_bulletin_command_forms), ("bulletin/offer.effects", laid_bulletin_offer_effects)] }
def OfferNilSaid : Prop := offerNilRow.holds Tryd.pinned (OpenSpec.ofChange offerNilSpec)

/-- ITS FALSE NEIGHBOUR: 'it returns false'. Refute it at one input. -/
def offerNilWrong : ChangeSpec := { name := "offerNil", fn := fun _ => fun
  | [d] => { results := [.lit (.bool false)], args := [d] }
  | _ => none }
def OfferNilWrongFalsely : Prop := offerNilRow.holds Tryd.pinned (OpenSpec.ofChange offerNilWrong)

/-- 'bulletinlaw33.OfferDelivers': WHATEVER THE INPUT: true; the input reads as it did. -/
def offerDeliversSpec : ChangeSpec := { name := "offerDelivers", fn := fun _ => fun
  | [d1, d2, d3] => { results := [.lit (.bool true)], args := [d1, d2, d3] }
  | _ => none }
def offerDeliversRow : OpenClaim := { program := "ytlelecnafdddhaadoor", sum := "bd60a3abfd7006e4c122d6d73db58963b017bace8b6a4f8d26162d9fa4d2b06d", func := "bulletin/bulletinlaw33.OfferDelivers", spec := "offerDelivers", inPlace := ["internal/bytealg.IndexByteString", "internal/bytealg.IndexString", "internal/abi.NoEscape"], unfollowed := true, recurses := true, named := ["internal/bytealg.MaxLen", "bulletin/offer.effects", "bulletin/command.forms"], apart := false, laid := [("bulletin/command.forms", laid_bulletin_command_forms), ("bulletin/offer.effects", laid_bulletin_offer_effects)] }
def OfferDeliversSaid : Prop := offerDeliversRow.holds Tryd.pinned (OpenSpec.ofChange offerDeliversSpec)

/-- ITS FALSE NEIGHBOUR: 'it returns false'. Refute it at one input. -/
def offerDeliversWrong : ChangeSpec := { name := "offerDelivers", fn := fun _ => fun
  | [d1, d2, d3] => { results := [.lit (.bool false)], args := [d1, d2, d3] }
  | _ => none }
def OfferDeliversWrongFalsely : Prop := offerDeliversRow.holds Tryd.pinned (OpenSpec.ofChange offerDeliversWrong)

/- THE SECOND FORM. 'bulk': how many values and letters a reading holds, each counted each time it is reached (what is shared counts as often as it is met; a slice's spare places count too). A statement '..UptoSaid' is the law's where the arguments, and the package variables that the reading takes, are together of bulk at most 1048576: NARROWER than '..Said'. Prove '..Said' where nothing that the law and all that it calls make is longer than what came in: it says more and counts as full. Else prove '..UptoSaid'. A law counts once. -/
mutual
def uptoBulk {H : Type} : DataW H → Nat
  | .lit (.string bytes) => bytes.length + 1
  | .lit _ => 1
  | .nil => 1
  | .ptr d => uptoBulk d + 1
  | .slice elems spare => uptoBulkAll elems + uptoBulkAll spare + 1
  | .agg parts => uptoBulkAll parts + 1
  | .iface _ d => uptoBulk d + 1
  | .map entries => uptoBulkEntries entries + 1
  | .held _ => 1
def uptoBulkAll {H : Type} : List (DataW H) → Nat
  | [] => 0
  | d :: r => uptoBulk d + uptoBulkAll r
def uptoBulkEntries {H : Type} : List (Lit × DataW H) → Nat
  | [] => 0
  | x :: r => uptoBulkEntry x + uptoBulkEntries r
def uptoBulkEntry {H : Type} : Lit × DataW H → Nat
  | (.string bytes, d) => bytes.length + uptoBulk d + 1
  | (_, d) => uptoBulk d + 1
 end
def uptoSmall : (H : Type) → List (DataW H) → Bool := fun _ ds => decide (uptoBulkAll ds ≤ 1048576)
def OpenSpec.upto (s : _root_.Go.ChangeSpec) : _root_.Go.OpenSpec := { _root_.Go.OpenSpec.ofChange s with cond := some uptoSmall }

/-- 'bulletinlaw33.OfferNew', WHERE WHAT IT READS IS OF BULK AT MOST 1048576: true; the input reads as it did. -/
def offerNewUptoRow : OpenClaim := { program := "ytlelecnafdddhaadoor", sum := "bd60a3abfd7006e4c122d6d73db58963b017bace8b6a4f8d26162d9fa4d2b06d", func := "bulletin/bulletinlaw33.OfferNew", spec := "offerNew", inPlace := ["internal/bytealg.IndexByteString", "internal/bytealg.IndexString"], unfollowed := true, recurses := true, named := ["internal/bytealg.MaxLen", "bulletin/offer.effects", "bulletin/command.forms"], apart := false, laid := [("bulletin/command.forms", laid_bulletin_command_forms), ("bulletin/offer.effects", laid_bulletin_offer_effects)], narrowed := true }
def OfferNewUptoSaid : Prop := offerNewUptoRow.holds Tryd.pinned (OpenSpec.upto offerNewSpec)

/-- 'bulletinlaw33.OfferResumes', WHERE WHAT IT READS IS OF BULK AT MOST 1048576: true; the input reads as it did. -/
def offerResumesUptoRow : OpenClaim := { program := "ytlelecnafdddhaadoor", sum := "bd60a3abfd7006e4c122d6d73db58963b017bace8b6a4f8d26162d9fa4d2b06d", func := "bulletin/bulletinlaw33.OfferResumes", spec := "offerResumes", inPlace := ["internal/bytealg.IndexByteString", "internal/bytealg.IndexString"], unfollowed := true, recurses := true, named := ["internal/bytealg.MaxLen", "bulletin/offer.effects", "bulletin/command.forms"], apart := false, laid := [("bulletin/command.forms", laid_bulletin_command_forms), ("bulletin/offer.effects", laid_bulletin_offer_effects)], narrowed := true }
def OfferResumesUptoSaid : Prop := offerResumesUptoRow.holds Tryd.pinned (OpenSpec.upto offerResumesSpec)

/-- 'bulletinlaw33.OfferAlone', WHERE WHAT IT READS IS OF BULK AT MOST 1048576: true; the input reads as it did. -/
def offerAloneUptoRow : OpenClaim := { program := "ytlelecnafdddhaadoor", sum := "bd60a3abfd7006e4c122d6d73db58963b017bace8b6a4f8d26162d9fa4d2b06d", func := "bulletin/bulletinlaw33.OfferAlone", spec := "offerAlone", inPlace := ["internal/bytealg.IndexByteString", "internal/bytealg.IndexString"], unfollowed := true, recurses := true, named := ["internal/bytealg.MaxLen", "bulletin/offer.effects", "bulletin/command.forms"], apart := false, laid := [("bulletin/command.forms", laid_bulletin_command_forms), ("bulletin/offer.effects", laid_bulletin_offer_effects)], narrowed := true }
def OfferAloneUptoSaid : Prop := offerAloneUptoRow.holds Tryd.pinned (OpenSpec.upto offerAloneSpec)

/-- 'bulletinlaw33.OfferPlays', WHERE WHAT IT READS IS OF BULK AT MOST 1048576: true; the input reads as it did. -/
def offerPlaysUptoRow : OpenClaim := { program := "ytlelecnafdddhaadoor", sum := "bd60a3abfd7006e4c122d6d73db58963b017bace8b6a4f8d26162d9fa4d2b06d", func := "bulletin/bulletinlaw33.OfferPlays", spec := "offerPlays", inPlace := ["internal/bytealg.IndexByteString", "internal/bytealg.IndexString"], unfollowed := true, recurses := true, named := ["internal/bytealg.MaxLen", "bulletin/offer.effects", "bulletin/command.forms"], apart := false, laid := [("bulletin/command.forms", laid_bulletin_command_forms), ("bulletin/offer.effects", laid_bulletin_offer_effects)], narrowed := true }
def OfferPlaysUptoSaid : Prop := offerPlaysUptoRow.holds Tryd.pinned (OpenSpec.upto offerPlaysSpec)

/-- 'bulletinlaw33.OfferOutcomes', WHERE WHAT IT READS IS OF BULK AT MOST 1048576: true; the input reads as it did. -/
def offerOutcomesUptoRow : OpenClaim := { program := "ytlelecnafdddhaadoor", sum := "bd60a3abfd7006e4c122d6d73db58963b017bace8b6a4f8d26162d9fa4d2b06d", func := "bulletin/bulletinlaw33.OfferOutcomes", spec := "offerOutcomes", inPlace := ["internal/bytealg.IndexByteString", "internal/bytealg.IndexString"], unfollowed := true, recurses := true, named := ["internal/bytealg.MaxLen", "bulletin/offer.effects", "bulletin/command.forms"], apart := false, laid := [("bulletin/command.forms", laid_bulletin_command_forms), ("bulletin/offer.effects", laid_bulletin_offer_effects)], narrowed := true }
def OfferOutcomesUptoSaid : Prop := offerOutcomesUptoRow.holds Tryd.pinned (OpenSpec.upto offerOutcomesSpec)

/-- 'bulletinlaw33.OfferClones', WHERE WHAT IT READS IS OF BULK AT MOST 1048576: true; the input reads as it did. -/
def offerClonesUptoRow : OpenClaim := { program := "ytlelecnafdddhaadoor", sum := "bd60a3abfd7006e4c122d6d73db58963b017bace8b6a4f8d26162d9fa4d2b06d", func := "bulletin/bulletinlaw33.OfferClones", spec := "offerClones", inPlace := ["internal/bytealg.IndexByteString", "internal/bytealg.IndexString"], unfollowed := true, recurses := true, named := ["internal/bytealg.MaxLen", "bulletin/offer.effects", "bulletin/command.forms"], apart := false, laid := [("bulletin/command.forms", laid_bulletin_command_forms), ("bulletin/offer.effects", laid_bulletin_offer_effects)], narrowed := true }
def OfferClonesUptoSaid : Prop := offerClonesUptoRow.holds Tryd.pinned (OpenSpec.upto offerClonesSpec)

/-- 'bulletinlaw33.OfferNil', WHERE WHAT IT READS IS OF BULK AT MOST 1048576: true; the input reads as it did. -/
def offerNilUptoRow : OpenClaim := { program := "ytlelecnafdddhaadoor", sum := "bd60a3abfd7006e4c122d6d73db58963b017bace8b6a4f8d26162d9fa4d2b06d", func := "bulletin/bulletinlaw33.OfferNil", spec := "offerNil", inPlace := ["internal/bytealg.IndexByteString", "internal/bytealg.IndexString"], unfollowed := true, recurses := true, named := ["internal/bytealg.MaxLen", "bulletin/offer.effects", "bulletin/command.forms"], apart := false, laid := [("bulletin/command.forms", laid_bulletin_command_forms), ("bulletin/offer.effects", laid_bulletin_offer_effects)], narrowed := true }
def OfferNilUptoSaid : Prop := offerNilUptoRow.holds Tryd.pinned (OpenSpec.upto offerNilSpec)

/-- 'bulletinlaw33.OfferDelivers', WHERE WHAT IT READS IS OF BULK AT MOST 1048576: true; the input reads as it did. -/
def offerDeliversUptoRow : OpenClaim := { program := "ytlelecnafdddhaadoor", sum := "bd60a3abfd7006e4c122d6d73db58963b017bace8b6a4f8d26162d9fa4d2b06d", func := "bulletin/bulletinlaw33.OfferDelivers", spec := "offerDelivers", inPlace := ["internal/bytealg.IndexByteString", "internal/bytealg.IndexString", "internal/abi.NoEscape"], unfollowed := true, recurses := true, named := ["internal/bytealg.MaxLen", "bulletin/offer.effects", "bulletin/command.forms"], apart := false, laid := [("bulletin/command.forms", laid_bulletin_command_forms), ("bulletin/offer.effects", laid_bulletin_offer_effects)], narrowed := true }
def OfferDeliversUptoSaid : Prop := offerDeliversUptoRow.holds Tryd.pinned (OpenSpec.upto offerDeliversSpec)

end Rows
end Go.Proofs.YtlelecnafdddhaaDoor
