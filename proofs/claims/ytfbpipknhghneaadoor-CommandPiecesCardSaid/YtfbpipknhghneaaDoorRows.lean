/-
  NARROWER THAN 'FOR EVERY INPUT', by the rows' own cells (each row's printed sentence says how): CommandDecode: laid · CommandRoundTrip: laid · CommandPrefix: laid · CommandStuff: laid · CommandUnstuff: laid · CommandEncode: laid · CommandPieces: laid · CommandLimits: laid.
  DERIVED. THE GIVEN ROWS OF THIS SEAT. 8 by the template 'for every input the law returns true; each argument reads behind the call as it read before'; 0 by the template 'total and deterministic' (their statements: YtfbpipknhghneaaDoorTotals.lean).
  GIVEN WITH THE SEED: the statements are not yours to turn. If you find one false, say at which input.
  Laid BY PROGRAM, IN A SANDBOX (cutbox-rows.mjs): the forced cells as the released guide's own fill.sh prints them over the translation e5b4a86e89df70e2… (all of the seat's roots in one cut). By AI agents, Wed Nov 11 2026. No macro, syntax, notation, axiom, sorry.
-/
import Derived.Test.YtfbpipknhghneaaDoorChecked
import GoSem.PinnedTables
import GoSem.Claim
import GoSem.ClaimJoined
import GoSem.ClaimMapViews
import Derived.JoinedTies
import Derived.KernelRfl
namespace Go.Proofs.YtfbpipknhghneaaDoor
/- THE CELL 'sum', in the pinned program and in every row, IS THE sha256 OF THE DUMP (.gsa) THAT YtfbpipknhghneaaDoorProg.lean LOADS. Nothing in Lean hashes anything: it is a label: what it is worth is what the hold of that sum in a sandbox is worth. -/
noncomputable def Tryd.pinned : Pinned := { name := "ytfbpipknhghneaadoor", sum := "e5b4a86e89df70e2d20d4e6902f8b09146a657ee57c7edf2122b6b5b83655f58", checked := Tryd.checked }
namespace Rows
def none {H : Type} : Left H := { results := [], args := [] }

/- WHAT THE LISTED PACKAGE-LEVEL VARIABLES READ AS WHEN THE CALL BEGINS. Each datum BY PROGRAM (the guide's laid-datum.mjs) off the statement by which the dump's own 'gosem.cut.vars' lays the variable. In a bare row this is a premise. The card (YtfbpipknhghneaaDoorCards.lean) ties it to the program's text. -/
def laid_math_bits_deBruijn32tab {H : Type} : DataW H := .agg [.lit (.int .u8 0), .lit (.int .u8 1), .lit (.int .u8 28), .lit (.int .u8 2), .lit (.int .u8 29), .lit (.int .u8 14), .lit (.int .u8 24), .lit (.int .u8 3), .lit (.int .u8 30), .lit (.int .u8 22), .lit (.int .u8 20), .lit (.int .u8 15), .lit (.int .u8 25), .lit (.int .u8 17), .lit (.int .u8 4), .lit (.int .u8 8), .lit (.int .u8 31), .lit (.int .u8 27), .lit (.int .u8 13), .lit (.int .u8 23), .lit (.int .u8 21), .lit (.int .u8 19), .lit (.int .u8 16), .lit (.int .u8 7), .lit (.int .u8 26), .lit (.int .u8 12), .lit (.int .u8 18), .lit (.int .u8 6), .lit (.int .u8 11), .lit (.int .u8 5), .lit (.int .u8 10), .lit (.int .u8 9)]
def laid_math_bits_deBruijn64tab {H : Type} : DataW H := .agg [.lit (.int .u8 0), .lit (.int .u8 1), .lit (.int .u8 56), .lit (.int .u8 2), .lit (.int .u8 57), .lit (.int .u8 49), .lit (.int .u8 28), .lit (.int .u8 3), .lit (.int .u8 61), .lit (.int .u8 58), .lit (.int .u8 42), .lit (.int .u8 50), .lit (.int .u8 38), .lit (.int .u8 29), .lit (.int .u8 17), .lit (.int .u8 4), .lit (.int .u8 62), .lit (.int .u8 47), .lit (.int .u8 59), .lit (.int .u8 36), .lit (.int .u8 45), .lit (.int .u8 43), .lit (.int .u8 51), .lit (.int .u8 22), .lit (.int .u8 53), .lit (.int .u8 39), .lit (.int .u8 33), .lit (.int .u8 30), .lit (.int .u8 24), .lit (.int .u8 18), .lit (.int .u8 12), .lit (.int .u8 5), .lit (.int .u8 63), .lit (.int .u8 55), .lit (.int .u8 48), .lit (.int .u8 27), .lit (.int .u8 60), .lit (.int .u8 41), .lit (.int .u8 37), .lit (.int .u8 16), .lit (.int .u8 46), .lit (.int .u8 35), .lit (.int .u8 44), .lit (.int .u8 21), .lit (.int .u8 52), .lit (.int .u8 32), .lit (.int .u8 23), .lit (.int .u8 11), .lit (.int .u8 54), .lit (.int .u8 26), .lit (.int .u8 40), .lit (.int .u8 15), .lit (.int .u8 34), .lit (.int .u8 20), .lit (.int .u8 31), .lit (.int .u8 10), .lit (.int .u8 25), .lit (.int .u8 14), .lit (.int .u8 19), .lit (.int .u8 9), .lit (.int .u8 13), .lit (.int .u8 8), .lit (.int .u8 7), .lit (.int .u8 6)]
def laid_internal_strconv_uint64pow10 {H : Type} : DataW H := .agg [.lit (.int .u64 1), .lit (.int .u64 10), .lit (.int .u64 100), .lit (.int .u64 1000), .lit (.int .u64 10000), .lit (.int .u64 100000), .lit (.int .u64 1000000), .lit (.int .u64 10000000), .lit (.int .u64 100000000), .lit (.int .u64 1000000000), .lit (.int .u64 10000000000), .lit (.int .u64 100000000000), .lit (.int .u64 1000000000000), .lit (.int .u64 10000000000000), .lit (.int .u64 100000000000000), .lit (.int .u64 1000000000000000), .lit (.int .u64 10000000000000000), .lit (.int .u64 100000000000000000), .lit (.int .u64 1000000000000000000), .lit (.int .u64 10000000000000000000)]
def laid_unicode_utf8_acceptRanges {H : Type} : DataW H := .agg [.agg [.lit (.int .u8 128), .lit (.int .u8 191)], .agg [.lit (.int .u8 160), .lit (.int .u8 191)], .agg [.lit (.int .u8 128), .lit (.int .u8 159)], .agg [.lit (.int .u8 144), .lit (.int .u8 191)], .agg [.lit (.int .u8 128), .lit (.int .u8 143)], .agg [.lit (.int .u8 0), .lit (.int .u8 0)], .agg [.lit (.int .u8 0), .lit (.int .u8 0)], .agg [.lit (.int .u8 0), .lit (.int .u8 0)], .agg [.lit (.int .u8 0), .lit (.int .u8 0)], .agg [.lit (.int .u8 0), .lit (.int .u8 0)], .agg [.lit (.int .u8 0), .lit (.int .u8 0)], .agg [.lit (.int .u8 0), .lit (.int .u8 0)], .agg [.lit (.int .u8 0), .lit (.int .u8 0)], .agg [.lit (.int .u8 0), .lit (.int .u8 0)], .agg [.lit (.int .u8 0), .lit (.int .u8 0)], .agg [.lit (.int .u8 0), .lit (.int .u8 0)]]
def laid_bulletin_command_forms {H : Type} : DataW H := .agg [.agg [.lit (.string []), .lit (.int .i64 0), .lit (.int .i64 0)], .agg [.lit (.string [104, 101, 108, 108, 111]), .lit (.int .i64 17), .lit (.int .i64 0)], .agg [.lit (.string [111, 102, 102, 101, 114]), .lit (.int .i64 6), .lit (.int .i64 0)], .agg [.lit (.string [119, 97, 110, 116]), .lit (.int .i64 10), .lit (.int .i64 0)], .agg [.lit (.string [104, 97, 118, 101]), .lit (.int .i64 2), .lit (.int .i64 0)], .agg [.lit (.string [108, 97, 116, 101, 114]), .lit (.int .i64 2), .lit (.int .i64 0)], .agg [.lit (.string [114, 101, 102, 117, 115, 101]), .lit (.int .i64 34), .lit (.int .i64 0)], .agg [.lit (.string [100, 97, 116, 97]), .lit (.int .i64 74), .lit (.int .i64 4096)], .agg [.lit (.string [100, 111, 110, 101]), .lit (.int .i64 2), .lit (.int .i64 0)], .agg [.lit (.string [103, 111, 116]), .lit (.int .i64 2), .lit (.int .i64 0)], .agg [.lit (.string [98, 97, 116, 99, 104]), .lit (.int .i64 64), .lit (.int .i64 262144)], .agg [.lit (.string [113, 117, 105, 116]), .lit (.int .i64 0), .lit (.int .i64 0)]]
/-- One of Go's own tables, pinned by name: the form's constant. -/
def laid_unicode_utf8_first : DataW Unit := Go.Pinned.utf8First

/-- 'bulletinlaw30.CommandDecode': WHATEVER THE INPUT: true; the input reads as it did. -/
def commandDecodeSpec : ChangeSpec := { name := "commandDecode", fn := fun _ => fun
  | [d] => { results := [.lit (.bool true)], args := [d] }
  | _ => none }
def commandDecodeRow : OpenClaim := { program := "ytfbpipknhghneaadoor", sum := "e5b4a86e89df70e2d20d4e6902f8b09146a657ee57c7edf2122b6b5b83655f58", func := "bulletin/bulletinlaw30.CommandDecode", spec := "commandDecode", inPlace := ["internal/bytealg.IndexByteString", "internal/bytealg.IndexString", "internal/abi.NoEscape", "internal/bytealg.MakeNoZero", "internal/bytealg.CountString"], unfollowed := true, recurses := true, named := ["bulletin/command.forms", "internal/bytealg.MaxLen", "internal/strconv.uint64pow10", "math/bits.deBruijn32tab", "math/bits.deBruijn64tab", "unicode/utf8.first", "unicode/utf8.acceptRanges"], apart := false, laid := [("math/bits.deBruijn32tab", laid_math_bits_deBruijn32tab), ("math/bits.deBruijn64tab", laid_math_bits_deBruijn64tab), ("internal/strconv.uint64pow10", laid_internal_strconv_uint64pow10), ("unicode/utf8.acceptRanges", laid_unicode_utf8_acceptRanges), ("bulletin/command.forms", laid_bulletin_command_forms), ("unicode/utf8.first", laid_unicode_utf8_first)] }
def CommandDecodeSaid : Prop := commandDecodeRow.holds Tryd.pinned (OpenSpec.ofChange commandDecodeSpec)

/-- ITS FALSE NEIGHBOUR: 'it returns false'. Refute it at one input. -/
def commandDecodeWrong : ChangeSpec := { name := "commandDecode", fn := fun _ => fun
  | [d] => { results := [.lit (.bool false)], args := [d] }
  | _ => none }
def CommandDecodeWrongFalsely : Prop := commandDecodeRow.holds Tryd.pinned (OpenSpec.ofChange commandDecodeWrong)

/-- 'bulletinlaw30.CommandRoundTrip': WHATEVER THE INPUT: true; the input reads as it did. -/
def commandRoundTripSpec : ChangeSpec := { name := "commandRoundTrip", fn := fun _ => fun
  | [d1, d2] => { results := [.lit (.bool true)], args := [d1, d2] }
  | _ => none }
def commandRoundTripRow : OpenClaim := { program := "ytfbpipknhghneaadoor", sum := "e5b4a86e89df70e2d20d4e6902f8b09146a657ee57c7edf2122b6b5b83655f58", func := "bulletin/bulletinlaw30.CommandRoundTrip", spec := "commandRoundTrip", inPlace := ["internal/bytealg.IndexByteString", "internal/bytealg.IndexString", "internal/abi.NoEscape", "internal/bytealg.MakeNoZero", "internal/bytealg.CountString"], unfollowed := true, recurses := true, named := ["bulletin/command.forms", "internal/bytealg.MaxLen", "internal/strconv.uint64pow10", "math/bits.deBruijn32tab", "math/bits.deBruijn64tab", "unicode/utf8.first", "unicode/utf8.acceptRanges"], apart := false, laid := [("math/bits.deBruijn32tab", laid_math_bits_deBruijn32tab), ("math/bits.deBruijn64tab", laid_math_bits_deBruijn64tab), ("internal/strconv.uint64pow10", laid_internal_strconv_uint64pow10), ("unicode/utf8.acceptRanges", laid_unicode_utf8_acceptRanges), ("bulletin/command.forms", laid_bulletin_command_forms), ("unicode/utf8.first", laid_unicode_utf8_first)] }
def CommandRoundTripSaid : Prop := commandRoundTripRow.holds Tryd.pinned (OpenSpec.ofChange commandRoundTripSpec)

/-- ITS FALSE NEIGHBOUR: 'it returns false'. Refute it at one input. -/
def commandRoundTripWrong : ChangeSpec := { name := "commandRoundTrip", fn := fun _ => fun
  | [d1, d2] => { results := [.lit (.bool false)], args := [d1, d2] }
  | _ => none }
def CommandRoundTripWrongFalsely : Prop := commandRoundTripRow.holds Tryd.pinned (OpenSpec.ofChange commandRoundTripWrong)

/-- 'bulletinlaw30.CommandPrefix': WHATEVER THE INPUT: true; the input reads as it did. -/
def commandPrefixSpec : ChangeSpec := { name := "commandPrefix", fn := fun _ => fun
  | [d] => { results := [.lit (.bool true)], args := [d] }
  | _ => none }
def commandPrefixRow : OpenClaim := { program := "ytfbpipknhghneaadoor", sum := "e5b4a86e89df70e2d20d4e6902f8b09146a657ee57c7edf2122b6b5b83655f58", func := "bulletin/bulletinlaw30.CommandPrefix", spec := "commandPrefix", inPlace := ["internal/bytealg.IndexByteString", "internal/bytealg.IndexString", "internal/abi.NoEscape", "internal/bytealg.MakeNoZero", "internal/bytealg.CountString"], unfollowed := true, recurses := true, named := ["bulletin/command.forms", "internal/bytealg.MaxLen", "internal/strconv.uint64pow10", "math/bits.deBruijn32tab", "math/bits.deBruijn64tab", "unicode/utf8.first", "unicode/utf8.acceptRanges"], apart := false, laid := [("math/bits.deBruijn32tab", laid_math_bits_deBruijn32tab), ("math/bits.deBruijn64tab", laid_math_bits_deBruijn64tab), ("internal/strconv.uint64pow10", laid_internal_strconv_uint64pow10), ("unicode/utf8.acceptRanges", laid_unicode_utf8_acceptRanges), ("bulletin/command.forms", laid_bulletin_command_forms), ("unicode/utf8.first", laid_unicode_utf8_first)] }
def CommandPrefixSaid : Prop := commandPrefixRow.holds Tryd.pinned (OpenSpec.ofChange commandPrefixSpec)

/-- ITS FALSE NEIGHBOUR: 'it returns false'. Refute it at one input. -/
def commandPrefixWrong : ChangeSpec := { name := "commandPrefix", fn := fun _ => fun
  | [d] => { results := [.lit (.bool false)], args := [d] }
  | _ => none }
def CommandPrefixWrongFalsely : Prop := commandPrefixRow.holds Tryd.pinned (OpenSpec.ofChange commandPrefixWrong)

/-- 'bulletinlaw30.CommandStuff': WHATEVER THE INPUT: true; the input reads as it did. -/
def commandStuffSpec : ChangeSpec := { name := "commandStuff", fn := fun _ => fun
  | [d1, d2] => { results := [.lit (.bool true)], args := [d1, d2] }
  | _ => none }
def commandStuffRow : OpenClaim := { program := "ytfbpipknhghneaadoor", sum := "e5b4a86e89df70e2d20d4e6902f8b09146a657ee57c7edf2122b6b5b83655f58", func := "bulletin/bulletinlaw30.CommandStuff", spec := "commandStuff", inPlace := ["internal/bytealg.IndexByteString", "internal/bytealg.IndexString", "internal/abi.NoEscape", "internal/bytealg.MakeNoZero", "internal/bytealg.CountString"], unfollowed := true, recurses := true, named := ["bulletin/command.forms", "internal/bytealg.MaxLen", "internal/strconv.uint64pow10", "math/bits.deBruijn32tab", "math/bits.deBruijn64tab", "unicode/utf8.first", "unicode/utf8.acceptRanges"], apart := false, laid := [("math/bits.deBruijn32tab", laid_math_bits_deBruijn32tab), ("math/bits.deBruijn64tab", laid_math_bits_deBruijn64tab), ("internal/strconv.uint64pow10", laid_internal_strconv_uint64pow10), ("unicode/utf8.acceptRanges", laid_unicode_utf8_acceptRanges), ("bulletin/command.forms", laid_bulletin_command_forms), ("unicode/utf8.first", laid_unicode_utf8_first)] }
def CommandStuffSaid : Prop := commandStuffRow.holds Tryd.pinned (OpenSpec.ofChange commandStuffSpec)

/-- ITS FALSE NEIGHBOUR: 'it returns false'. Refute it at one input. -/
def commandStuffWrong : ChangeSpec := { name := "commandStuff", fn := fun _ => fun
  | [d1, d2] => { results := [.lit (.bool false)], args := [d1, d2] }
  | _ => none }
def CommandStuffWrongFalsely : Prop := commandStuffRow.holds Tryd.pinned (OpenSpec.ofChange commandStuffWrong)

/-- 'bulletinlaw30.CommandUnstuff': WHATEVER THE INPUT: true; the input reads as it did. -/
def commandUnstuffSpec : ChangeSpec := { name := "commandUnstuff", fn := fun _ => fun
  | [d] => { results := [.lit (.bool true)], args := [d] }
  | _ => none }
def commandUnstuffRow : OpenClaim := { program := "ytfbpipknhghneaadoor", sum := "e5b4a86e89df70e2d20d4e6902f8b09146a657ee57c7edf2122b6b5b83655f58", func := "bulletin/bulletinlaw30.CommandUnstuff", spec := "commandUnstuff", inPlace := ["internal/bytealg.IndexByteString", "internal/bytealg.IndexString", "internal/abi.NoEscape", "internal/bytealg.MakeNoZero", "internal/bytealg.CountString"], unfollowed := true, recurses := true, named := ["bulletin/command.forms", "internal/bytealg.MaxLen", "internal/strconv.uint64pow10", "math/bits.deBruijn32tab", "math/bits.deBruijn64tab", "unicode/utf8.first", "unicode/utf8.acceptRanges"], apart := false, laid := [("math/bits.deBruijn32tab", laid_math_bits_deBruijn32tab), ("math/bits.deBruijn64tab", laid_math_bits_deBruijn64tab), ("internal/strconv.uint64pow10", laid_internal_strconv_uint64pow10), ("unicode/utf8.acceptRanges", laid_unicode_utf8_acceptRanges), ("bulletin/command.forms", laid_bulletin_command_forms), ("unicode/utf8.first", laid_unicode_utf8_first)] }
def CommandUnstuffSaid : Prop := commandUnstuffRow.holds Tryd.pinned (OpenSpec.ofChange commandUnstuffSpec)

/-- ITS FALSE NEIGHBOUR: 'it returns false'. Refute it at one input. -/
def commandUnstuffWrong : ChangeSpec := { name := "commandUnstuff", fn := fun _ => fun
  | [d] => { results := [.lit (.bool false)], args := [d] }
  | _ => none }
def CommandUnstuffWrongFalsely : Prop := commandUnstuffRow.holds Tryd.pinned (OpenSpec.ofChange commandUnstuffWrong)

/-- 'bulletinlaw30.CommandEncode': WHATEVER THE INPUT: true; the input reads as it did. -/
def commandEncodeSpec : ChangeSpec := { name := "commandEncode", fn := fun _ => fun
  | [d1, d2] => { results := [.lit (.bool true)], args := [d1, d2] }
  | _ => none }
def commandEncodeRow : OpenClaim := { program := "ytfbpipknhghneaadoor", sum := "e5b4a86e89df70e2d20d4e6902f8b09146a657ee57c7edf2122b6b5b83655f58", func := "bulletin/bulletinlaw30.CommandEncode", spec := "commandEncode", inPlace := ["internal/bytealg.IndexByteString", "internal/bytealg.IndexString", "internal/abi.NoEscape", "internal/bytealg.MakeNoZero", "internal/bytealg.CountString"], unfollowed := true, recurses := true, named := ["bulletin/command.forms", "internal/bytealg.MaxLen", "internal/strconv.uint64pow10", "math/bits.deBruijn32tab", "math/bits.deBruijn64tab", "unicode/utf8.first", "unicode/utf8.acceptRanges"], apart := false, laid := [("math/bits.deBruijn32tab", laid_math_bits_deBruijn32tab), ("math/bits.deBruijn64tab", laid_math_bits_deBruijn64tab), ("internal/strconv.uint64pow10", laid_internal_strconv_uint64pow10), ("unicode/utf8.acceptRanges", laid_unicode_utf8_acceptRanges), ("bulletin/command.forms", laid_bulletin_command_forms), ("unicode/utf8.first", laid_unicode_utf8_first)] }
def CommandEncodeSaid : Prop := commandEncodeRow.holds Tryd.pinned (OpenSpec.ofChange commandEncodeSpec)

/-- ITS FALSE NEIGHBOUR: 'it returns false'. Refute it at one input. -/
def commandEncodeWrong : ChangeSpec := { name := "commandEncode", fn := fun _ => fun
  | [d1, d2] => { results := [.lit (.bool false)], args := [d1, d2] }
  | _ => none }
def CommandEncodeWrongFalsely : Prop := commandEncodeRow.holds Tryd.pinned (OpenSpec.ofChange commandEncodeWrong)

/-- 'bulletinlaw30.CommandPieces': WHATEVER THE INPUT: true; the input reads as it did. -/
def commandPiecesSpec : ChangeSpec := { name := "commandPieces", fn := fun _ => fun
  | [d1, d2] => { results := [.lit (.bool true)], args := [d1, d2] }
  | _ => none }
def commandPiecesRow : OpenClaim := { program := "ytfbpipknhghneaadoor", sum := "e5b4a86e89df70e2d20d4e6902f8b09146a657ee57c7edf2122b6b5b83655f58", func := "bulletin/bulletinlaw30.CommandPieces", spec := "commandPieces", inPlace := ["internal/bytealg.IndexByteString", "internal/bytealg.IndexString", "internal/abi.NoEscape", "internal/bytealg.MakeNoZero", "internal/bytealg.CountString"], unfollowed := true, recurses := true, named := ["bulletin/command.forms", "internal/bytealg.MaxLen", "internal/strconv.uint64pow10", "math/bits.deBruijn32tab", "math/bits.deBruijn64tab", "unicode/utf8.first", "unicode/utf8.acceptRanges"], apart := false, laid := [("math/bits.deBruijn32tab", laid_math_bits_deBruijn32tab), ("math/bits.deBruijn64tab", laid_math_bits_deBruijn64tab), ("internal/strconv.uint64pow10", laid_internal_strconv_uint64pow10), ("unicode/utf8.acceptRanges", laid_unicode_utf8_acceptRanges), ("bulletin/command.forms", laid_bulletin_command_forms), ("unicode/utf8.first", laid_unicode_utf8_first)] }
def CommandPiecesSaid : Prop := commandPiecesRow.holds Tryd.pinned (OpenSpec.ofChange commandPiecesSpec)

/-- ITS FALSE NEIGHBOUR: 'it returns false'. Refute it at one input. -/
def commandPiecesWrong : ChangeSpec := { name := "commandPieces", fn := fun _ => fun
  | [d1, d2] => { results := [.lit (.bool false)], args := [d1, d2] }
  | _ => none }
def CommandPiecesWrongFalsely : Prop := commandPiecesRow.holds Tryd.pinned (OpenSpec.ofChange commandPiecesWrong)

/-- 'bulletinlaw30.CommandLimits': WHATEVER THE INPUT: true; the input reads as it did. -/
def commandLimitsSpec : ChangeSpec := { name := "commandLimits", fn := fun _ => fun
  | [d1, d2] => { results := [.lit (.bool true)], args := [d1, d2] }
  | _ => none }
def commandLimitsRow : OpenClaim := { program := "ytfbpipknhghneaadoor", sum := "e5b4a86e89df70e2d20d4e6902f8b09146a657ee57c7edf2122b6b5b83655f58", func := "bulletin/bulletinlaw30.CommandLimits", spec := "commandLimits", inPlace := ["internal/bytealg.IndexByteString", "internal/bytealg.IndexString", "internal/abi.NoEscape", "internal/bytealg.MakeNoZero", "internal/bytealg.CountString"], unfollowed := true, recurses := true, named := ["bulletin/command.forms", "internal/bytealg.MaxLen", "internal/strconv.uint64pow10", "math/bits.deBruijn32tab", "math/bits.deBruijn64tab", "unicode/utf8.first", "unicode/utf8.acceptRanges"], apart := false, laid := [("math/bits.deBruijn32tab", laid_math_bits_deBruijn32tab), ("math/bits.deBruijn64tab", laid_math_bits_deBruijn64tab), ("internal/strconv.uint64pow10", laid_internal_strconv_uint64pow10), ("unicode/utf8.acceptRanges", laid_unicode_utf8_acceptRanges), ("bulletin/command.forms", laid_bulletin_command_forms), ("unicode/utf8.first", laid_unicode_utf8_first)] }
def CommandLimitsSaid : Prop := commandLimitsRow.holds Tryd.pinned (OpenSpec.ofChange commandLimitsSpec)

/-- ITS FALSE NEIGHBOUR: 'it returns false'. Refute it at one input. -/
def commandLimitsWrong : ChangeSpec := { name := "commandLimits", fn := fun _ => fun
  | [d1, d2] => { results := [.lit (.bool false)], args := [d1, d2] }
  | _ => none }
def CommandLimitsWrongFalsely : Prop := commandLimitsRow.holds Tryd.pinned (OpenSpec.ofChange commandLimitsWrong)

/- THE SECOND FORM. 'bulk': how many values and letters a reading holds, each counted each time it is reached (what is shared counts as often as it is met; a slice's spare places count too). A statement '..UptoSaid' is the law's where the arguments, and the package variables that the reading takes, are together of bulk at most 1048576: NARROWER than '..Said'. Prove '..Said' where nothing that the law and all that it calls make is longer than what came in: it says more and counts as full. Else prove '..UptoSaid'. A law counts once. -/
mutual
def uptoBulk {H : Type} : DataW H → Nat
  | .lit (.string bytes) => bytes.length + 1
  | .lit _ => 1
  | .nil => 1
  | .ptr d => uptoBulk d + 1
  | .slice elems spare => uptoBulkAll elems + uptoBulkAll spare + 1
  | .agg parts => uptoBulkAll parts + 1
  | .iface _ d => uptoBulk d + 1
  | .map entries => uptoBulkEntries entries + 1
  | .held _ => 1
def uptoBulkAll {H : Type} : List (DataW H) → Nat
  | [] => 0
  | d :: r => uptoBulk d + uptoBulkAll r
def uptoBulkEntries {H : Type} : List (Lit × DataW H) → Nat
  | [] => 0
  | x :: r => uptoBulkEntry x + uptoBulkEntries r
def uptoBulkEntry {H : Type} : Lit × DataW H → Nat
  | (.string bytes, d) => bytes.length + uptoBulk d + 1
  | (_, d) => uptoBulk d + 1
 end
def uptoSmall : (H : Type) → List (DataW H) → Bool := fun _ ds => decide (uptoBulkAll ds ≤ 1048576)
def OpenSpec.upto (s : _root_.Go.ChangeSpec) : _root_.Go.OpenSpec := { _root_.Go.OpenSpec.ofChange s with cond := some uptoSmall }

/-- 'bulletinlaw30.CommandDecode', WHERE WHAT IT READS IS OF BULK AT MOST 1048576: true; the input reads as it did. -/
def commandDecodeUptoRow : OpenClaim := { program := "ytfbpipknhghneaadoor", sum := "e5b4a86e89df70e2d20d4e6902f8b09146a657ee57c7edf2122b6b5b83655f58", func := "bulletin/bulletinlaw30.CommandDecode", spec := "commandDecode", inPlace := ["internal/bytealg.IndexByteString", "internal/bytealg.IndexString", "internal/abi.NoEscape", "internal/bytealg.MakeNoZero", "internal/bytealg.CountString"], unfollowed := true, recurses := true, named := ["bulletin/command.forms", "internal/bytealg.MaxLen", "internal/strconv.uint64pow10", "math/bits.deBruijn32tab", "math/bits.deBruijn64tab", "unicode/utf8.first", "unicode/utf8.acceptRanges"], apart := false, laid := [("math/bits.deBruijn32tab", laid_math_bits_deBruijn32tab), ("math/bits.deBruijn64tab", laid_math_bits_deBruijn64tab), ("internal/strconv.uint64pow10", laid_internal_strconv_uint64pow10), ("unicode/utf8.acceptRanges", laid_unicode_utf8_acceptRanges), ("bulletin/command.forms", laid_bulletin_command_forms), ("unicode/utf8.first", laid_unicode_utf8_first)], narrowed := true }
def CommandDecodeUptoSaid : Prop := commandDecodeUptoRow.holds Tryd.pinned (OpenSpec.upto commandDecodeSpec)

/-- 'bulletinlaw30.CommandRoundTrip', WHERE WHAT IT READS IS OF BULK AT MOST 1048576: true; the input reads as it did. -/
def commandRoundTripUptoRow : OpenClaim := { program := "ytfbpipknhghneaadoor", sum := "e5b4a86e89df70e2d20d4e6902f8b09146a657ee57c7edf2122b6b5b83655f58", func := "bulletin/bulletinlaw30.CommandRoundTrip", spec := "commandRoundTrip", inPlace := ["internal/bytealg.IndexByteString", "internal/bytealg.IndexString", "internal/abi.NoEscape", "internal/bytealg.MakeNoZero", "internal/bytealg.CountString"], unfollowed := true, recurses := true, named := ["bulletin/command.forms", "internal/bytealg.MaxLen", "internal/strconv.uint64pow10", "math/bits.deBruijn32tab", "math/bits.deBruijn64tab", "unicode/utf8.first", "unicode/utf8.acceptRanges"], apart := false, laid := [("math/bits.deBruijn32tab", laid_math_bits_deBruijn32tab), ("math/bits.deBruijn64tab", laid_math_bits_deBruijn64tab), ("internal/strconv.uint64pow10", laid_internal_strconv_uint64pow10), ("unicode/utf8.acceptRanges", laid_unicode_utf8_acceptRanges), ("bulletin/command.forms", laid_bulletin_command_forms), ("unicode/utf8.first", laid_unicode_utf8_first)], narrowed := true }
def CommandRoundTripUptoSaid : Prop := commandRoundTripUptoRow.holds Tryd.pinned (OpenSpec.upto commandRoundTripSpec)

/-- 'bulletinlaw30.CommandPrefix', WHERE WHAT IT READS IS OF BULK AT MOST 1048576: true; the input reads as it did. -/
def commandPrefixUptoRow : OpenClaim := { program := "ytfbpipknhghneaadoor", sum := "e5b4a86e89df70e2d20d4e6902f8b09146a657ee57c7edf2122b6b5b83655f58", func := "bulletin/bulletinlaw30.CommandPrefix", spec := "commandPrefix", inPlace := ["internal/bytealg.IndexByteString", "internal/bytealg.IndexString", "internal/abi.NoEscape", "internal/bytealg.MakeNoZero", "internal/bytealg.CountString"], unfollowed := true, recurses := true, named := ["bulletin/command.forms", "internal/bytealg.MaxLen", "internal/strconv.uint64pow10", "math/bits.deBruijn32tab", "math/bits.deBruijn64tab", "unicode/utf8.first", "unicode/utf8.acceptRanges"], apart := false, laid := [("math/bits.deBruijn32tab", laid_math_bits_deBruijn32tab), ("math/bits.deBruijn64tab", laid_math_bits_deBruijn64tab), ("internal/strconv.uint64pow10", laid_internal_strconv_uint64pow10), ("unicode/utf8.acceptRanges", laid_unicode_utf8_acceptRanges), ("bulletin/command.forms", laid_bulletin_command_forms), ("unicode/utf8.first", laid_unicode_utf8_first)], narrowed := true }
def CommandPrefixUptoSaid : Prop := commandPrefixUptoRow.holds Tryd.pinned (OpenSpec.upto commandPrefixSpec)

/-- 'bulletinlaw30.CommandStuff', WHERE WHAT IT READS IS OF BULK AT MOST 1048576: true; the input reads as it did. -/
def commandStuffUptoRow : OpenClaim := { program := "ytfbpipknhghneaadoor", sum := "e5b4a86e89df70e2d20d4e6902f8b09146a657ee57c7edf2122b6b5b83655f58", func := "bulletin/bulletinlaw30.CommandStuff", spec := "commandStuff", inPlace := ["internal/bytealg.IndexByteString", "internal/bytealg.IndexString", "internal/abi.NoEscape", "internal/bytealg.MakeNoZero", "internal/bytealg.CountString"], unfollowed := true, recurses := true, named := ["bulletin/command.forms", "internal/bytealg.MaxLen", "internal/strconv.uint64pow10", "math/bits.deBruijn32tab", "math/bits.deBruijn64tab", "unicode/utf8.first", "unicode/utf8.acceptRanges"], apart := false, laid := [("math/bits.deBruijn32tab", laid_math_bits_deBruijn32tab), ("math/bits.deBruijn64tab", laid_math_bits_deBruijn64tab), ("internal/strconv.uint64pow10", laid_internal_strconv_uint64pow10), ("unicode/utf8.acceptRanges", laid_unicode_utf8_acceptRanges), ("bulletin/command.forms", laid_bulletin_command_forms), ("unicode/utf8.first", laid_unicode_utf8_first)], narrowed := true }
def CommandStuffUptoSaid : Prop := commandStuffUptoRow.holds Tryd.pinned (OpenSpec.upto commandStuffSpec)

/-- 'bulletinlaw30.CommandUnstuff', WHERE WHAT IT READS IS OF BULK AT MOST 1048576: true; the input reads as it did. -/
def commandUnstuffUptoRow : OpenClaim := { program := "ytfbpipknhghneaadoor", sum := "e5b4a86e89df70e2d20d4e6902f8b09146a657ee57c7edf2122b6b5b83655f58", func := "bulletin/bulletinlaw30.CommandUnstuff", spec := "commandUnstuff", inPlace := ["internal/bytealg.IndexByteString", "internal/bytealg.IndexString", "internal/abi.NoEscape", "internal/bytealg.MakeNoZero", "internal/bytealg.CountString"], unfollowed := true, recurses := true, named := ["bulletin/command.forms", "internal/bytealg.MaxLen", "internal/strconv.uint64pow10", "math/bits.deBruijn32tab", "math/bits.deBruijn64tab", "unicode/utf8.first", "unicode/utf8.acceptRanges"], apart := false, laid := [("math/bits.deBruijn32tab", laid_math_bits_deBruijn32tab), ("math/bits.deBruijn64tab", laid_math_bits_deBruijn64tab), ("internal/strconv.uint64pow10", laid_internal_strconv_uint64pow10), ("unicode/utf8.acceptRanges", laid_unicode_utf8_acceptRanges), ("bulletin/command.forms", laid_bulletin_command_forms), ("unicode/utf8.first", laid_unicode_utf8_first)], narrowed := true }
def CommandUnstuffUptoSaid : Prop := commandUnstuffUptoRow.holds Tryd.pinned (OpenSpec.upto commandUnstuffSpec)

/-- 'bulletinlaw30.CommandEncode', WHERE WHAT IT READS IS OF BULK AT MOST 1048576: true; the input reads as it did. -/
def commandEncodeUptoRow : OpenClaim := { program := "ytfbpipknhghneaadoor", sum := "e5b4a86e89df70e2d20d4e6902f8b09146a657ee57c7edf2122b6b5b83655f58", func := "bulletin/bulletinlaw30.CommandEncode", spec := "commandEncode", inPlace := ["internal/bytealg.IndexByteString", "internal/bytealg.IndexString", "internal/abi.NoEscape", "internal/bytealg.MakeNoZero", "internal/bytealg.CountString"], unfollowed := true, recurses := true, named := ["bulletin/command.forms", "internal/bytealg.MaxLen", "internal/strconv.uint64pow10", "math/bits.deBruijn32tab", "math/bits.deBruijn64tab", "unicode/utf8.first", "unicode/utf8.acceptRanges"], apart := false, laid := [("math/bits.deBruijn32tab", laid_math_bits_deBruijn32tab), ("math/bits.deBruijn64tab", laid_math_bits_deBruijn64tab), ("internal/strconv.uint64pow10", laid_internal_strconv_uint64pow10), ("unicode/utf8.acceptRanges", laid_unicode_utf8_acceptRanges), ("bulletin/command.forms", laid_bulletin_command_forms), ("unicode/utf8.first", laid_unicode_utf8_first)], narrowed := true }
def CommandEncodeUptoSaid : Prop := commandEncodeUptoRow.holds Tryd.pinned (OpenSpec.upto commandEncodeSpec)

/-- 'bulletinlaw30.CommandPieces', WHERE WHAT IT READS IS OF BULK AT MOST 1048576: true; the input reads as it did. -/
def commandPiecesUptoRow : OpenClaim := { program := "ytfbpipknhghneaadoor", sum := "e5b4a86e89df70e2d20d4e6902f8b09146a657ee57c7edf2122b6b5b83655f58", func := "bulletin/bulletinlaw30.CommandPieces", spec := "commandPieces", inPlace := ["internal/bytealg.IndexByteString", "internal/bytealg.IndexString", "internal/abi.NoEscape", "internal/bytealg.MakeNoZero", "internal/bytealg.CountString"], unfollowed := true, recurses := true, named := ["bulletin/command.forms", "internal/bytealg.MaxLen", "internal/strconv.uint64pow10", "math/bits.deBruijn32tab", "math/bits.deBruijn64tab", "unicode/utf8.first", "unicode/utf8.acceptRanges"], apart := false, laid := [("math/bits.deBruijn32tab", laid_math_bits_deBruijn32tab), ("math/bits.deBruijn64tab", laid_math_bits_deBruijn64tab), ("internal/strconv.uint64pow10", laid_internal_strconv_uint64pow10), ("unicode/utf8.acceptRanges", laid_unicode_utf8_acceptRanges), ("bulletin/command.forms", laid_bulletin_command_forms), ("unicode/utf8.first", laid_unicode_utf8_first)], narrowed := true }
def CommandPiecesUptoSaid : Prop := commandPiecesUptoRow.holds Tryd.pinned (OpenSpec.upto commandPiecesSpec)

/-- 'bulletinlaw30.CommandLimits', WHERE WHAT IT READS IS OF BULK AT MOST 1048576: true; the input reads as it did. -/
def commandLimitsUptoRow : OpenClaim := { program := "ytfbpipknhghneaadoor", sum := "e5b4a86e89df70e2d20d4e6902f8b09146a657ee57c7edf2122b6b5b83655f58", func := "bulletin/bulletinlaw30.CommandLimits", spec := "commandLimits", inPlace := ["internal/bytealg.IndexByteString", "internal/bytealg.IndexString", "internal/abi.NoEscape", "internal/bytealg.MakeNoZero", "internal/bytealg.CountString"], unfollowed := true, recurses := true, named := ["bulletin/command.forms", "internal/bytealg.MaxLen", "internal/strconv.uint64pow10", "math/bits.deBruijn32tab", "math/bits.deBruijn64tab", "unicode/utf8.first", "unicode/utf8.acceptRanges"], apart := false, laid := [("math/bits.deBruijn32tab", laid_math_bits_deBruijn32tab), ("math/bits.deBruijn64tab", laid_math_bits_deBruijn64tab), ("internal/strconv.uint64pow10", laid_internal_strconv_uint64pow10), ("unicode/utf8.acceptRanges", laid_unicode_utf8_acceptRanges), ("bulletin/command.forms", laid_bulletin_command_forms), ("unicode/utf8.first", laid_unicode_utf8_first)], narrowed := true }
def CommandLimitsUptoSaid : Prop := commandLimitsUptoRow.holds Tryd.pinned (OpenSpec.upto commandLimitsSpec)

end Rows
end Go.Proofs.YtfbpipknhghneaaDoor
