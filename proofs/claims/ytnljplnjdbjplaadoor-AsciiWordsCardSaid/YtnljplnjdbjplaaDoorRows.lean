/-
  NARROWER THAN 'FOR EVERY INPUT', by the rows' own cells (each row's printed sentence says how): AsciiFold: laid · AsciiOrder: laid · AsciiIndex: laid · AsciiWords: laid · AsciiDigits: laid · AsciiNumber: laid · AsciiHex: laid · AsciiUnhex: laid · AsciiClasses: laid.
  DERIVED. THE GIVEN ROWS OF THIS SEAT. 9 by the template 'for every input the law returns true; each argument reads behind the call as it read before'; 0 by the template 'total and deterministic' (their statements: YtnljplnjdbjplaaDoorTotals.lean).
  GIVEN WITH THE SEED: the statements are not yours to turn. If you find one false, say at which input.
  Laid BY PROGRAM, IN A SANDBOX (cutbox-rows.mjs): the forced cells as the released guide's own fill.sh prints them over the translation f2eb5b377b3fd972… (all of the seat's roots in one cut). By AI agents, Wed Nov 11 2026. No macro, syntax, notation, axiom, sorry.
-/
import Derived.Test.YtnljplnjdbjplaaDoorChecked
import GoSem.Claim
import GoSem.ClaimJoined
import GoSem.ClaimMapViews
import Derived.JoinedTies
import Derived.KernelRfl
namespace Go.Proofs.YtnljplnjdbjplaaDoor
/- THE CELL 'sum', in the pinned program and in every row, IS THE sha256 OF THE DUMP (.gsa) THAT YtnljplnjdbjplaaDoorProg.lean LOADS. Nothing in Lean hashes anything: it is a label: what it is worth is what the hold of that sum in a sandbox is worth. -/
noncomputable def Tryd.pinned : Pinned := { name := "ytnljplnjdbjplaadoor", sum := "f2eb5b377b3fd972b86e87232147fc6ec8ad691bbd2d87454f9a34309c04df83", checked := Tryd.checked }
namespace Rows
def none {H : Type} : Left H := { results := [], args := [] }

/- WHAT THE LISTED PACKAGE-LEVEL VARIABLES READ AS WHEN THE CALL BEGINS. Each datum BY PROGRAM (the guide's laid-datum.mjs) off the statement by which the dump's own 'gosem.cut.vars' lays the variable. In a bare row this is a premise. The card (YtnljplnjdbjplaaDoorCards.lean) ties it to the program's text. -/
def laid_math_bits_deBruijn32tab {H : Type} : DataW H := .agg [.lit (.int .u8 0), .lit (.int .u8 1), .lit (.int .u8 28), .lit (.int .u8 2), .lit (.int .u8 29), .lit (.int .u8 14), .lit (.int .u8 24), .lit (.int .u8 3), .lit (.int .u8 30), .lit (.int .u8 22), .lit (.int .u8 20), .lit (.int .u8 15), .lit (.int .u8 25), .lit (.int .u8 17), .lit (.int .u8 4), .lit (.int .u8 8), .lit (.int .u8 31), .lit (.int .u8 27), .lit (.int .u8 13), .lit (.int .u8 23), .lit (.int .u8 21), .lit (.int .u8 19), .lit (.int .u8 16), .lit (.int .u8 7), .lit (.int .u8 26), .lit (.int .u8 12), .lit (.int .u8 18), .lit (.int .u8 6), .lit (.int .u8 11), .lit (.int .u8 5), .lit (.int .u8 10), .lit (.int .u8 9)]
def laid_math_bits_deBruijn64tab {H : Type} : DataW H := .agg [.lit (.int .u8 0), .lit (.int .u8 1), .lit (.int .u8 56), .lit (.int .u8 2), .lit (.int .u8 57), .lit (.int .u8 49), .lit (.int .u8 28), .lit (.int .u8 3), .lit (.int .u8 61), .lit (.int .u8 58), .lit (.int .u8 42), .lit (.int .u8 50), .lit (.int .u8 38), .lit (.int .u8 29), .lit (.int .u8 17), .lit (.int .u8 4), .lit (.int .u8 62), .lit (.int .u8 47), .lit (.int .u8 59), .lit (.int .u8 36), .lit (.int .u8 45), .lit (.int .u8 43), .lit (.int .u8 51), .lit (.int .u8 22), .lit (.int .u8 53), .lit (.int .u8 39), .lit (.int .u8 33), .lit (.int .u8 30), .lit (.int .u8 24), .lit (.int .u8 18), .lit (.int .u8 12), .lit (.int .u8 5), .lit (.int .u8 63), .lit (.int .u8 55), .lit (.int .u8 48), .lit (.int .u8 27), .lit (.int .u8 60), .lit (.int .u8 41), .lit (.int .u8 37), .lit (.int .u8 16), .lit (.int .u8 46), .lit (.int .u8 35), .lit (.int .u8 44), .lit (.int .u8 21), .lit (.int .u8 52), .lit (.int .u8 32), .lit (.int .u8 23), .lit (.int .u8 11), .lit (.int .u8 54), .lit (.int .u8 26), .lit (.int .u8 40), .lit (.int .u8 15), .lit (.int .u8 34), .lit (.int .u8 20), .lit (.int .u8 31), .lit (.int .u8 10), .lit (.int .u8 25), .lit (.int .u8 14), .lit (.int .u8 19), .lit (.int .u8 9), .lit (.int .u8 13), .lit (.int .u8 8), .lit (.int .u8 7), .lit (.int .u8 6)]
def laid_internal_strconv_uint64pow10 {H : Type} : DataW H := .agg [.lit (.int .u64 1), .lit (.int .u64 10), .lit (.int .u64 100), .lit (.int .u64 1000), .lit (.int .u64 10000), .lit (.int .u64 100000), .lit (.int .u64 1000000), .lit (.int .u64 10000000), .lit (.int .u64 100000000), .lit (.int .u64 1000000000), .lit (.int .u64 10000000000), .lit (.int .u64 100000000000), .lit (.int .u64 1000000000000), .lit (.int .u64 10000000000000), .lit (.int .u64 100000000000000), .lit (.int .u64 1000000000000000), .lit (.int .u64 10000000000000000), .lit (.int .u64 100000000000000000), .lit (.int .u64 1000000000000000000), .lit (.int .u64 10000000000000000000)]

/-- 'bulletinlaw01.AsciiFold': WHATEVER THE INPUT: true; the input reads as it did. -/
def asciiFoldSpec : ChangeSpec := { name := "asciiFold", fn := fun _ => fun
  | [d1, d2] => { results := [.lit (.bool true)], args := [d1, d2] }
  | _ => none }
def asciiFoldRow : OpenClaim := { program := "ytnljplnjdbjplaadoor", sum := "f2eb5b377b3fd972b86e87232147fc6ec8ad691bbd2d87454f9a34309c04df83", func := "bulletin/bulletinlaw01.AsciiFold", spec := "asciiFold", inPlace := ["internal/bytealg.IndexByteString", "internal/bytealg.abigen_runtime_cmpstring", "internal/bytealg.IndexString", "internal/abi.NoEscape", "internal/bytealg.MakeNoZero"], unfollowed := true, recurses := true, named := ["internal/bytealg.MaxLen", "internal/strconv.uint64pow10", "math/bits.deBruijn32tab", "math/bits.deBruijn64tab"], apart := false, laid := [("math/bits.deBruijn32tab", laid_math_bits_deBruijn32tab), ("math/bits.deBruijn64tab", laid_math_bits_deBruijn64tab), ("internal/strconv.uint64pow10", laid_internal_strconv_uint64pow10)] }
def AsciiFoldSaid : Prop := asciiFoldRow.holds Tryd.pinned (OpenSpec.ofChange asciiFoldSpec)

/-- ITS FALSE NEIGHBOUR: 'it returns false'. Refute it at one input. -/
def asciiFoldWrong : ChangeSpec := { name := "asciiFold", fn := fun _ => fun
  | [d1, d2] => { results := [.lit (.bool false)], args := [d1, d2] }
  | _ => none }
def AsciiFoldWrongFalsely : Prop := asciiFoldRow.holds Tryd.pinned (OpenSpec.ofChange asciiFoldWrong)

/-- 'bulletinlaw01.AsciiOrder': WHATEVER THE INPUT: true; the input reads as it did. -/
def asciiOrderSpec : ChangeSpec := { name := "asciiOrder", fn := fun _ => fun
  | [d1, d2, d3] => { results := [.lit (.bool true)], args := [d1, d2, d3] }
  | _ => none }
def asciiOrderRow : OpenClaim := { program := "ytnljplnjdbjplaadoor", sum := "f2eb5b377b3fd972b86e87232147fc6ec8ad691bbd2d87454f9a34309c04df83", func := "bulletin/bulletinlaw01.AsciiOrder", spec := "asciiOrder", inPlace := ["internal/bytealg.abigen_runtime_cmpstring", "internal/bytealg.IndexByteString", "internal/bytealg.IndexString", "internal/abi.NoEscape", "internal/bytealg.MakeNoZero"], unfollowed := true, recurses := true, named := ["internal/bytealg.MaxLen", "internal/strconv.uint64pow10", "math/bits.deBruijn32tab", "math/bits.deBruijn64tab"], apart := false, laid := [("math/bits.deBruijn32tab", laid_math_bits_deBruijn32tab), ("math/bits.deBruijn64tab", laid_math_bits_deBruijn64tab), ("internal/strconv.uint64pow10", laid_internal_strconv_uint64pow10)] }
def AsciiOrderSaid : Prop := asciiOrderRow.holds Tryd.pinned (OpenSpec.ofChange asciiOrderSpec)

/-- ITS FALSE NEIGHBOUR: 'it returns false'. Refute it at one input. -/
def asciiOrderWrong : ChangeSpec := { name := "asciiOrder", fn := fun _ => fun
  | [d1, d2, d3] => { results := [.lit (.bool false)], args := [d1, d2, d3] }
  | _ => none }
def AsciiOrderWrongFalsely : Prop := asciiOrderRow.holds Tryd.pinned (OpenSpec.ofChange asciiOrderWrong)

/-- 'bulletinlaw01.AsciiIndex': WHATEVER THE INPUT: true; the input reads as it did. -/
def asciiIndexSpec : ChangeSpec := { name := "asciiIndex", fn := fun _ => fun
  | [d1, d2] => { results := [.lit (.bool true)], args := [d1, d2] }
  | _ => none }
def asciiIndexRow : OpenClaim := { program := "ytnljplnjdbjplaadoor", sum := "f2eb5b377b3fd972b86e87232147fc6ec8ad691bbd2d87454f9a34309c04df83", func := "bulletin/bulletinlaw01.AsciiIndex", spec := "asciiIndex", inPlace := ["internal/bytealg.IndexByteString", "internal/bytealg.IndexString", "internal/bytealg.abigen_runtime_cmpstring", "internal/abi.NoEscape", "internal/bytealg.MakeNoZero"], unfollowed := true, recurses := true, named := ["internal/bytealg.MaxLen", "internal/strconv.uint64pow10", "math/bits.deBruijn32tab", "math/bits.deBruijn64tab"], apart := false, laid := [("math/bits.deBruijn32tab", laid_math_bits_deBruijn32tab), ("math/bits.deBruijn64tab", laid_math_bits_deBruijn64tab), ("internal/strconv.uint64pow10", laid_internal_strconv_uint64pow10)] }
def AsciiIndexSaid : Prop := asciiIndexRow.holds Tryd.pinned (OpenSpec.ofChange asciiIndexSpec)

/-- ITS FALSE NEIGHBOUR: 'it returns false'. Refute it at one input. -/
def asciiIndexWrong : ChangeSpec := { name := "asciiIndex", fn := fun _ => fun
  | [d1, d2] => { results := [.lit (.bool false)], args := [d1, d2] }
  | _ => none }
def AsciiIndexWrongFalsely : Prop := asciiIndexRow.holds Tryd.pinned (OpenSpec.ofChange asciiIndexWrong)

/-- 'bulletinlaw01.AsciiWords': WHATEVER THE INPUT: true; the input reads as it did. -/
def asciiWordsSpec : ChangeSpec := { name := "asciiWords", fn := fun _ => fun
  | [d] => { results := [.lit (.bool true)], args := [d] }
  | _ => none }
def asciiWordsRow : OpenClaim := { program := "ytnljplnjdbjplaadoor", sum := "f2eb5b377b3fd972b86e87232147fc6ec8ad691bbd2d87454f9a34309c04df83", func := "bulletin/bulletinlaw01.AsciiWords", spec := "asciiWords", inPlace := ["internal/abi.NoEscape", "internal/bytealg.MakeNoZero", "internal/bytealg.IndexByteString", "internal/bytealg.abigen_runtime_cmpstring", "internal/bytealg.IndexString"], unfollowed := true, recurses := true, named := ["internal/bytealg.MaxLen", "internal/strconv.uint64pow10", "math/bits.deBruijn32tab", "math/bits.deBruijn64tab"], apart := false, laid := [("math/bits.deBruijn32tab", laid_math_bits_deBruijn32tab), ("math/bits.deBruijn64tab", laid_math_bits_deBruijn64tab), ("internal/strconv.uint64pow10", laid_internal_strconv_uint64pow10)] }
def AsciiWordsSaid : Prop := asciiWordsRow.holds Tryd.pinned (OpenSpec.ofChange asciiWordsSpec)

/-- ITS FALSE NEIGHBOUR: 'it returns false'. Refute it at one input. -/
def asciiWordsWrong : ChangeSpec := { name := "asciiWords", fn := fun _ => fun
  | [d] => { results := [.lit (.bool false)], args := [d] }
  | _ => none }
def AsciiWordsWrongFalsely : Prop := asciiWordsRow.holds Tryd.pinned (OpenSpec.ofChange asciiWordsWrong)

/-- 'bulletinlaw01.AsciiDigits': WHATEVER THE INPUT: true; the input reads as it did. -/
def asciiDigitsSpec : ChangeSpec := { name := "asciiDigits", fn := fun _ => fun
  | [d] => { results := [.lit (.bool true)], args := [d] }
  | _ => none }
def asciiDigitsRow : OpenClaim := { program := "ytnljplnjdbjplaadoor", sum := "f2eb5b377b3fd972b86e87232147fc6ec8ad691bbd2d87454f9a34309c04df83", func := "bulletin/bulletinlaw01.AsciiDigits", spec := "asciiDigits", inPlace := ["internal/bytealg.IndexByteString", "internal/bytealg.abigen_runtime_cmpstring", "internal/bytealg.IndexString", "internal/abi.NoEscape", "internal/bytealg.MakeNoZero"], unfollowed := true, recurses := true, named := ["internal/strconv.uint64pow10", "math/bits.deBruijn32tab", "math/bits.deBruijn64tab", "internal/bytealg.MaxLen"], apart := false, laid := [("math/bits.deBruijn32tab", laid_math_bits_deBruijn32tab), ("math/bits.deBruijn64tab", laid_math_bits_deBruijn64tab), ("internal/strconv.uint64pow10", laid_internal_strconv_uint64pow10)] }
def AsciiDigitsSaid : Prop := asciiDigitsRow.holds Tryd.pinned (OpenSpec.ofChange asciiDigitsSpec)

/-- ITS FALSE NEIGHBOUR: 'it returns false'. Refute it at one input. -/
def asciiDigitsWrong : ChangeSpec := { name := "asciiDigits", fn := fun _ => fun
  | [d] => { results := [.lit (.bool false)], args := [d] }
  | _ => none }
def AsciiDigitsWrongFalsely : Prop := asciiDigitsRow.holds Tryd.pinned (OpenSpec.ofChange asciiDigitsWrong)

/-- 'bulletinlaw01.AsciiNumber': WHATEVER THE INPUT: true; the input reads as it did. -/
def asciiNumberSpec : ChangeSpec := { name := "asciiNumber", fn := fun _ => fun
  | [d1, d2] => { results := [.lit (.bool true)], args := [d1, d2] }
  | _ => none }
def asciiNumberRow : OpenClaim := { program := "ytnljplnjdbjplaadoor", sum := "f2eb5b377b3fd972b86e87232147fc6ec8ad691bbd2d87454f9a34309c04df83", func := "bulletin/bulletinlaw01.AsciiNumber", spec := "asciiNumber", inPlace := ["internal/bytealg.IndexByteString", "internal/bytealg.abigen_runtime_cmpstring", "internal/bytealg.IndexString", "internal/abi.NoEscape", "internal/bytealg.MakeNoZero"], unfollowed := true, recurses := true, named := ["internal/bytealg.MaxLen", "internal/strconv.uint64pow10", "math/bits.deBruijn32tab", "math/bits.deBruijn64tab"], apart := false, laid := [("math/bits.deBruijn32tab", laid_math_bits_deBruijn32tab), ("math/bits.deBruijn64tab", laid_math_bits_deBruijn64tab), ("internal/strconv.uint64pow10", laid_internal_strconv_uint64pow10)] }
def AsciiNumberSaid : Prop := asciiNumberRow.holds Tryd.pinned (OpenSpec.ofChange asciiNumberSpec)

/-- ITS FALSE NEIGHBOUR: 'it returns false'. Refute it at one input. -/
def asciiNumberWrong : ChangeSpec := { name := "asciiNumber", fn := fun _ => fun
  | [d1, d2] => { results := [.lit (.bool false)], args := [d1, d2] }
  | _ => none }
def AsciiNumberWrongFalsely : Prop := asciiNumberRow.holds Tryd.pinned (OpenSpec.ofChange asciiNumberWrong)

/-- 'bulletinlaw01.AsciiHex': WHATEVER THE INPUT: true; the input reads as it did. -/
def asciiHexSpec : ChangeSpec := { name := "asciiHex", fn := fun _ => fun
  | [d] => { results := [.lit (.bool true)], args := [d] }
  | _ => none }
def asciiHexRow : OpenClaim := { program := "ytnljplnjdbjplaadoor", sum := "f2eb5b377b3fd972b86e87232147fc6ec8ad691bbd2d87454f9a34309c04df83", func := "bulletin/bulletinlaw01.AsciiHex", spec := "asciiHex", inPlace := ["internal/bytealg.IndexByteString", "internal/bytealg.abigen_runtime_cmpstring", "internal/bytealg.IndexString", "internal/abi.NoEscape", "internal/bytealg.MakeNoZero"], unfollowed := true, recurses := true, named := ["internal/bytealg.MaxLen", "internal/strconv.uint64pow10", "math/bits.deBruijn32tab", "math/bits.deBruijn64tab"], apart := false, laid := [("math/bits.deBruijn32tab", laid_math_bits_deBruijn32tab), ("math/bits.deBruijn64tab", laid_math_bits_deBruijn64tab), ("internal/strconv.uint64pow10", laid_internal_strconv_uint64pow10)] }
def AsciiHexSaid : Prop := asciiHexRow.holds Tryd.pinned (OpenSpec.ofChange asciiHexSpec)

/-- ITS FALSE NEIGHBOUR: 'it returns false'. Refute it at one input. -/
def asciiHexWrong : ChangeSpec := { name := "asciiHex", fn := fun _ => fun
  | [d] => { results := [.lit (.bool false)], args := [d] }
  | _ => none }
def AsciiHexWrongFalsely : Prop := asciiHexRow.holds Tryd.pinned (OpenSpec.ofChange asciiHexWrong)

/-- 'bulletinlaw01.AsciiUnhex': WHATEVER THE INPUT: true; the input reads as it did. -/
def asciiUnhexSpec : ChangeSpec := { name := "asciiUnhex", fn := fun _ => fun
  | [d] => { results := [.lit (.bool true)], args := [d] }
  | _ => none }
def asciiUnhexRow : OpenClaim := { program := "ytnljplnjdbjplaadoor", sum := "f2eb5b377b3fd972b86e87232147fc6ec8ad691bbd2d87454f9a34309c04df83", func := "bulletin/bulletinlaw01.AsciiUnhex", spec := "asciiUnhex", inPlace := ["internal/bytealg.IndexByteString", "internal/bytealg.abigen_runtime_cmpstring", "internal/bytealg.IndexString", "internal/abi.NoEscape", "internal/bytealg.MakeNoZero"], unfollowed := true, recurses := true, named := ["internal/bytealg.MaxLen", "internal/strconv.uint64pow10", "math/bits.deBruijn32tab", "math/bits.deBruijn64tab"], apart := false, laid := [("math/bits.deBruijn32tab", laid_math_bits_deBruijn32tab), ("math/bits.deBruijn64tab", laid_math_bits_deBruijn64tab), ("internal/strconv.uint64pow10", laid_internal_strconv_uint64pow10)] }
def AsciiUnhexSaid : Prop := asciiUnhexRow.holds Tryd.pinned (OpenSpec.ofChange asciiUnhexSpec)

/-- ITS FALSE NEIGHBOUR: 'it returns false'. Refute it at one input. -/
def asciiUnhexWrong : ChangeSpec := { name := "asciiUnhex", fn := fun _ => fun
  | [d] => { results := [.lit (.bool false)], args := [d] }
  | _ => none }
def AsciiUnhexWrongFalsely : Prop := asciiUnhexRow.holds Tryd.pinned (OpenSpec.ofChange asciiUnhexWrong)

/-- 'bulletinlaw01.AsciiClasses': WHATEVER THE INPUT: true; the input reads as it did. -/
def asciiClassesSpec : ChangeSpec := { name := "asciiClasses", fn := fun _ => fun
  | [d] => { results := [.lit (.bool true)], args := [d] }
  | _ => none }
def asciiClassesRow : OpenClaim := { program := "ytnljplnjdbjplaadoor", sum := "f2eb5b377b3fd972b86e87232147fc6ec8ad691bbd2d87454f9a34309c04df83", func := "bulletin/bulletinlaw01.AsciiClasses", spec := "asciiClasses", inPlace := ["internal/bytealg.IndexByteString", "internal/bytealg.abigen_runtime_cmpstring", "internal/bytealg.IndexString", "internal/abi.NoEscape", "internal/bytealg.MakeNoZero"], unfollowed := true, recurses := true, named := ["internal/bytealg.MaxLen", "internal/strconv.uint64pow10", "math/bits.deBruijn32tab", "math/bits.deBruijn64tab"], apart := false, laid := [("math/bits.deBruijn32tab", laid_math_bits_deBruijn32tab), ("math/bits.deBruijn64tab", laid_math_bits_deBruijn64tab), ("internal/strconv.uint64pow10", laid_internal_strconv_uint64pow10)] }
def AsciiClassesSaid : Prop := asciiClassesRow.holds Tryd.pinned (OpenSpec.ofChange asciiClassesSpec)

/-- ITS FALSE NEIGHBOUR: 'it returns false'. Refute it at one input. -/
def asciiClassesWrong : ChangeSpec := { name := "asciiClasses", fn := fun _ => fun
  | [d] => { results := [.lit (.bool false)], args := [d] }
  | _ => none }
def AsciiClassesWrongFalsely : Prop := asciiClassesRow.holds Tryd.pinned (OpenSpec.ofChange asciiClassesWrong)

/- THE SECOND FORM. 'bulk': how many values and letters a reading holds, each counted each time it is reached (what is shared counts as often as it is met; a slice's spare places count too). A statement '..UptoSaid' is the law's where the arguments, and the package variables that the reading takes, are together of bulk at most 1048576: NARROWER than '..Said'. Prove '..Said' where nothing that the law and all that it calls make is longer than what came in: it says more and counts as full. Else prove '..UptoSaid'. A law counts once. -/
mutual
def uptoBulk {H : Type} : DataW H → Nat
  | .lit (.string bytes) => bytes.length + 1
  | .lit _ => 1
  | .nil => 1
  | .ptr d => uptoBulk d + 1
  | .slice elems spare => uptoBulkAll elems + uptoBulkAll spare + 1
  | .agg parts => uptoBulkAll parts + 1
  | .iface _ d => uptoBulk d + 1
  | .map entries => uptoBulkEntries entries + 1
  | .held _ => 1
def uptoBulkAll {H : Type} : List (DataW H) → Nat
  | [] => 0
  | d :: r => uptoBulk d + uptoBulkAll r
def uptoBulkEntries {H : Type} : List (Lit × DataW H) → Nat
  | [] => 0
  | x :: r => uptoBulkEntry x + uptoBulkEntries r
def uptoBulkEntry {H : Type} : Lit × DataW H → Nat
  | (.string bytes, d) => bytes.length + uptoBulk d + 1
  | (_, d) => uptoBulk d + 1
 end
def uptoSmall : (H : Type) → List (DataW H) → Bool := fun _ ds => decide (uptoBulkAll ds ≤ 1048576)
def OpenSpec.upto (s : _root_.Go.ChangeSpec) : _root_.Go.OpenSpec := { _root_.Go.OpenSpec.ofChange s with cond := some uptoSmall }

/-- 'bulletinlaw01.AsciiFold', WHERE WHAT IT READS IS OF BULK AT MOST 1048576: true; the input reads as it did. -/
def asciiFoldUptoRow : OpenClaim := { program := "ytnljplnjdbjplaadoor", sum := "f2eb5b377b3fd972b86e87232147fc6ec8ad691bbd2d87454f9a34309c04df83", func := "bulletin/bulletinlaw01.AsciiFold", spec := "asciiFold", inPlace := ["internal/bytealg.IndexByteString", "internal/bytealg.abigen_runtime_cmpstring", "internal/bytealg.IndexString", "internal/abi.NoEscape", "internal/bytealg.MakeNoZero"], unfollowed := true, recurses := true, named := ["internal/bytealg.MaxLen", "internal/strconv.uint64pow10", "math/bits.deBruijn32tab", "math/bits.deBruijn64tab"], apart := false, laid := [("math/bits.deBruijn32tab", laid_math_bits_deBruijn32tab), ("math/bits.deBruijn64tab", laid_math_bits_deBruijn64tab), ("internal/strconv.uint64pow10", laid_internal_strconv_uint64pow10)], narrowed := true }
def AsciiFoldUptoSaid : Prop := asciiFoldUptoRow.holds Tryd.pinned (OpenSpec.upto asciiFoldSpec)

/-- 'bulletinlaw01.AsciiOrder', WHERE WHAT IT READS IS OF BULK AT MOST 1048576: true; the input reads as it did. -/
def asciiOrderUptoRow : OpenClaim := { program := "ytnljplnjdbjplaadoor", sum := "f2eb5b377b3fd972b86e87232147fc6ec8ad691bbd2d87454f9a34309c04df83", func := "bulletin/bulletinlaw01.AsciiOrder", spec := "asciiOrder", inPlace := ["internal/bytealg.abigen_runtime_cmpstring", "internal/bytealg.IndexByteString", "internal/bytealg.IndexString", "internal/abi.NoEscape", "internal/bytealg.MakeNoZero"], unfollowed := true, recurses := true, named := ["internal/bytealg.MaxLen", "internal/strconv.uint64pow10", "math/bits.deBruijn32tab", "math/bits.deBruijn64tab"], apart := false, laid := [("math/bits.deBruijn32tab", laid_math_bits_deBruijn32tab), ("math/bits.deBruijn64tab", laid_math_bits_deBruijn64tab), ("internal/strconv.uint64pow10", laid_internal_strconv_uint64pow10)], narrowed := true }
def AsciiOrderUptoSaid : Prop := asciiOrderUptoRow.holds Tryd.pinned (OpenSpec.upto asciiOrderSpec)

/-- 'bulletinlaw01.AsciiIndex', WHERE WHAT IT READS IS OF BULK AT MOST 1048576: true; the input reads as it did. -/
def asciiIndexUptoRow : OpenClaim := { program := "ytnljplnjdbjplaadoor", sum := "f2eb5b377b3fd972b86e87232147fc6ec8ad691bbd2d87454f9a34309c04df83", func := "bulletin/bulletinlaw01.AsciiIndex", spec := "asciiIndex", inPlace := ["internal/bytealg.IndexByteString", "internal/bytealg.IndexString", "internal/bytealg.abigen_runtime_cmpstring", "internal/abi.NoEscape", "internal/bytealg.MakeNoZero"], unfollowed := true, recurses := true, named := ["internal/bytealg.MaxLen", "internal/strconv.uint64pow10", "math/bits.deBruijn32tab", "math/bits.deBruijn64tab"], apart := false, laid := [("math/bits.deBruijn32tab", laid_math_bits_deBruijn32tab), ("math/bits.deBruijn64tab", laid_math_bits_deBruijn64tab), ("internal/strconv.uint64pow10", laid_internal_strconv_uint64pow10)], narrowed := true }
def AsciiIndexUptoSaid : Prop := asciiIndexUptoRow.holds Tryd.pinned (OpenSpec.upto asciiIndexSpec)

/-- 'bulletinlaw01.AsciiWords', WHERE WHAT IT READS IS OF BULK AT MOST 1048576: true; the input reads as it did. -/
def asciiWordsUptoRow : OpenClaim := { program := "ytnljplnjdbjplaadoor", sum := "f2eb5b377b3fd972b86e87232147fc6ec8ad691bbd2d87454f9a34309c04df83", func := "bulletin/bulletinlaw01.AsciiWords", spec := "asciiWords", inPlace := ["internal/abi.NoEscape", "internal/bytealg.MakeNoZero", "internal/bytealg.IndexByteString", "internal/bytealg.abigen_runtime_cmpstring", "internal/bytealg.IndexString"], unfollowed := true, recurses := true, named := ["internal/bytealg.MaxLen", "internal/strconv.uint64pow10", "math/bits.deBruijn32tab", "math/bits.deBruijn64tab"], apart := false, laid := [("math/bits.deBruijn32tab", laid_math_bits_deBruijn32tab), ("math/bits.deBruijn64tab", laid_math_bits_deBruijn64tab), ("internal/strconv.uint64pow10", laid_internal_strconv_uint64pow10)], narrowed := true }
def AsciiWordsUptoSaid : Prop := asciiWordsUptoRow.holds Tryd.pinned (OpenSpec.upto asciiWordsSpec)

/-- 'bulletinlaw01.AsciiDigits', WHERE WHAT IT READS IS OF BULK AT MOST 1048576: true; the input reads as it did. -/
def asciiDigitsUptoRow : OpenClaim := { program := "ytnljplnjdbjplaadoor", sum := "f2eb5b377b3fd972b86e87232147fc6ec8ad691bbd2d87454f9a34309c04df83", func := "bulletin/bulletinlaw01.AsciiDigits", spec := "asciiDigits", inPlace := ["internal/bytealg.IndexByteString", "internal/bytealg.abigen_runtime_cmpstring", "internal/bytealg.IndexString", "internal/abi.NoEscape", "internal/bytealg.MakeNoZero"], unfollowed := true, recurses := true, named := ["internal/strconv.uint64pow10", "math/bits.deBruijn32tab", "math/bits.deBruijn64tab", "internal/bytealg.MaxLen"], apart := false, laid := [("math/bits.deBruijn32tab", laid_math_bits_deBruijn32tab), ("math/bits.deBruijn64tab", laid_math_bits_deBruijn64tab), ("internal/strconv.uint64pow10", laid_internal_strconv_uint64pow10)], narrowed := true }
def AsciiDigitsUptoSaid : Prop := asciiDigitsUptoRow.holds Tryd.pinned (OpenSpec.upto asciiDigitsSpec)

/-- 'bulletinlaw01.AsciiNumber', WHERE WHAT IT READS IS OF BULK AT MOST 1048576: true; the input reads as it did. -/
def asciiNumberUptoRow : OpenClaim := { program := "ytnljplnjdbjplaadoor", sum := "f2eb5b377b3fd972b86e87232147fc6ec8ad691bbd2d87454f9a34309c04df83", func := "bulletin/bulletinlaw01.AsciiNumber", spec := "asciiNumber", inPlace := ["internal/bytealg.IndexByteString", "internal/bytealg.abigen_runtime_cmpstring", "internal/bytealg.IndexString", "internal/abi.NoEscape", "internal/bytealg.MakeNoZero"], unfollowed := true, recurses := true, named := ["internal/bytealg.MaxLen", "internal/strconv.uint64pow10", "math/bits.deBruijn32tab", "math/bits.deBruijn64tab"], apart := false, laid := [("math/bits.deBruijn32tab", laid_math_bits_deBruijn32tab), ("math/bits.deBruijn64tab", laid_math_bits_deBruijn64tab), ("internal/strconv.uint64pow10", laid_internal_strconv_uint64pow10)], narrowed := true }
def AsciiNumberUptoSaid : Prop := asciiNumberUptoRow.holds Tryd.pinned (OpenSpec.upto asciiNumberSpec)

/-- 'bulletinlaw01.AsciiHex', WHERE WHAT IT READS IS OF BULK AT MOST 1048576: true; the input reads as it did. -/
def asciiHexUptoRow : OpenClaim := { program := "ytnljplnjdbjplaadoor", sum := "f2eb5b377b3fd972b86e87232147fc6ec8ad691bbd2d87454f9a34309c04df83", func := "bulletin/bulletinlaw01.AsciiHex", spec := "asciiHex", inPlace := ["internal/bytealg.IndexByteString", "internal/bytealg.abigen_runtime_cmpstring", "internal/bytealg.IndexString", "internal/abi.NoEscape", "internal/bytealg.MakeNoZero"], unfollowed := true, recurses := true, named := ["internal/bytealg.MaxLen", "internal/strconv.uint64pow10", "math/bits.deBruijn32tab", "math/bits.deBruijn64tab"], apart := false, laid := [("math/bits.deBruijn32tab", laid_math_bits_deBruijn32tab), ("math/bits.deBruijn64tab", laid_math_bits_deBruijn64tab), ("internal/strconv.uint64pow10", laid_internal_strconv_uint64pow10)], narrowed := true }
def AsciiHexUptoSaid : Prop := asciiHexUptoRow.holds Tryd.pinned (OpenSpec.upto asciiHexSpec)

/-- 'bulletinlaw01.AsciiUnhex', WHERE WHAT IT READS IS OF BULK AT MOST 1048576: true; the input reads as it did. -/
def asciiUnhexUptoRow : OpenClaim := { program := "ytnljplnjdbjplaadoor", sum := "f2eb5b377b3fd972b86e87232147fc6ec8ad691bbd2d87454f9a34309c04df83", func := "bulletin/bulletinlaw01.AsciiUnhex", spec := "asciiUnhex", inPlace := ["internal/bytealg.IndexByteString", "internal/bytealg.abigen_runtime_cmpstring", "internal/bytealg.IndexString", "internal/abi.NoEscape", "internal/bytealg.MakeNoZero"], unfollowed := true, recurses := true, named := ["internal/bytealg.MaxLen", "internal/strconv.uint64pow10", "math/bits.deBruijn32tab", "math/bits.deBruijn64tab"], apart := false, laid := [("math/bits.deBruijn32tab", laid_math_bits_deBruijn32tab), ("math/bits.deBruijn64tab", laid_math_bits_deBruijn64tab), ("internal/strconv.uint64pow10", laid_internal_strconv_uint64pow10)], narrowed := true }
def AsciiUnhexUptoSaid : Prop := asciiUnhexUptoRow.holds Tryd.pinned (OpenSpec.upto asciiUnhexSpec)

/-- 'bulletinlaw01.AsciiClasses', WHERE WHAT IT READS IS OF BULK AT MOST 1048576: true; the input reads as it did. -/
def asciiClassesUptoRow : OpenClaim := { program := "ytnljplnjdbjplaadoor", sum := "f2eb5b377b3fd972b86e87232147fc6ec8ad691bbd2d87454f9a34309c04df83", func := "bulletin/bulletinlaw01.AsciiClasses", spec := "asciiClasses", inPlace := ["internal/bytealg.IndexByteString", "internal/bytealg.abigen_runtime_cmpstring", "internal/bytealg.IndexString", "internal/abi.NoEscape", "internal/bytealg.MakeNoZero"], unfollowed := true, recurses := true, named := ["internal/bytealg.MaxLen", "internal/strconv.uint64pow10", "math/bits.deBruijn32tab", "math/bits.deBruijn64tab"], apart := false, laid := [("math/bits.deBruijn32tab", laid_math_bits_deBruijn32tab), ("math/bits.deBruijn64tab", laid_math_bits_deBruijn64tab), ("internal/strconv.uint64pow10", laid_internal_strconv_uint64pow10)], narrowed := true }
def AsciiClassesUptoSaid : Prop := asciiClassesUptoRow.holds Tryd.pinned (OpenSpec.upto asciiClassesSpec)

end Rows
end Go.Proofs.YtnljplnjdbjplaaDoor
