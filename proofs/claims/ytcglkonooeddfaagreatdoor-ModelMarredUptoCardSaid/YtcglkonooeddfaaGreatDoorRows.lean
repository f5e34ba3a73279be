/-
  NARROWER THAN 'FOR EVERY INPUT', by the rows' own cells (each row's printed sentence says how): ModelOwn: laid · ModelZone: laid · ModelChecks: laid · ModelFinds: laid · ModelPorts: laid · ModelNumbers: laid · ModelEdges: laid · ModelWays: laid · ModelTurned: laid · ModelMarred: laid · ModelZones: laid · ModelAgain: laid.
  DERIVED. THE GIVEN ROWS OF THIS SEAT. 12 by the template 'for every input the law returns true; each argument reads behind the call as it read before'; 0 by the template 'total and deterministic' (their statements: YtcglkonooeddfaaGreatDoorTotals.lean).
  GIVEN WITH THE SEED: the statements are not yours to turn. If you find one false, say at which input.
  Laid BY PROGRAM, IN A SANDBOX (cutbox-rows.mjs): the forced cells as the released guide's own fill.sh prints them over the translation 33a01805f4d164dd… (all of the seat's roots in one cut). By AI agents, Wed Nov 11 2026. No macro, syntax, notation, axiom, sorry.
-/
import Derived.Test.YtcglkonooeddfaaGreatDoorChecked
import GoSem.PinnedTables
import GoSem.Claim
import GoSem.ClaimJoined
import GoSem.ClaimMapViews
import Derived.JoinedTies
import Derived.KernelRfl
namespace Go.Proofs.YtcglkonooeddfaaGreatDoor
/- THE CELL 'sum', in the pinned program and in every row, IS THE sha256 OF THE DUMP (.gsa) THAT YtcglkonooeddfaaGreatDoorProg.lean LOADS. Nothing in Lean hashes anything: it is a label: what it is worth is what the hold of that sum in a sandbox is worth. -/
noncomputable def Tryz.pinned : Pinned := { name := "ytcglkonooeddfaagreatdoor", sum := "33a01805f4d164ddb97d60d88e144941993033ce1f4301008ad5c5d3b0956e62", checked := Tryz.checked }
namespace Rows
def none {H : Type} : Left H := { results := [], args := [] }

/- WHAT THE LISTED PACKAGE-LEVEL VARIABLES READ AS WHEN THE CALL BEGINS. Each datum BY PROGRAM (the guide's laid-datum.mjs) off the statement by which the dump's own 'gosem.cut.vars' lays the variable. In a bare row this is a premise. The card (YtcglkonooeddfaaGreatDoorCards.lean) ties it to the program's text. -/
def laid_math_bits_deBruijn32tab {H : Type} : DataW H := .agg [.lit (.int .u8 0), .lit (.int .u8 1), .lit (.int .u8 28), .lit (.int .u8 2), .lit (.int .u8 29), .lit (.int .u8 14), .lit (.int .u8 24), .lit (.int .u8 3), .lit (.int .u8 30), .lit (.int .u8 22), .lit (.int .u8 20), .lit (.int .u8 15), .lit (.int .u8 25), .lit (.int .u8 17), .lit (.int .u8 4), .lit (.int .u8 8), .lit (.int .u8 31), .lit (.int .u8 27), .lit (.int .u8 13), .lit (.int .u8 23), .lit (.int .u8 21), .lit (.int .u8 19), .lit (.int .u8 16), .lit (.int .u8 7), .lit (.int .u8 26), .lit (.int .u8 12), .lit (.int .u8 18), .lit (.int .u8 6), .lit (.int .u8 11), .lit (.int .u8 5), .lit (.int .u8 10), .lit (.int .u8 9)]
def laid_math_bits_deBruijn64tab {H : Type} : DataW H := .agg [.lit (.int .u8 0), .lit (.int .u8 1), .lit (.int .u8 56), .lit (.int .u8 2), .lit (.int .u8 57), .lit (.int .u8 49), .lit (.int .u8 28), .lit (.int .u8 3), .lit (.int .u8 61), .lit (.int .u8 58), .lit (.int .u8 42), .lit (.int .u8 50), .lit (.int .u8 38), .lit (.int .u8 29), .lit (.int .u8 17), .lit (.int .u8 4), .lit (.int .u8 62), .lit (.int .u8 47), .lit (.int .u8 59), .lit (.int .u8 36), .lit (.int .u8 45), .lit (.int .u8 43), .lit (.int .u8 51), .lit (.int .u8 22), .lit (.int .u8 53), .lit (.int .u8 39), .lit (.int .u8 33), .lit (.int .u8 30), .lit (.int .u8 24), .lit (.int .u8 18), .lit (.int .u8 12), .lit (.int .u8 5), .lit (.int .u8 63), .lit (.int .u8 55), .lit (.int .u8 48), .lit (.int .u8 27), .lit (.int .u8 60), .lit (.int .u8 41), .lit (.int .u8 37), .lit (.int .u8 16), .lit (.int .u8 46), .lit (.int .u8 35), .lit (.int .u8 44), .lit (.int .u8 21), .lit (.int .u8 52), .lit (.int .u8 32), .lit (.int .u8 23), .lit (.int .u8 11), .lit (.int .u8 54), .lit (.int .u8 26), .lit (.int .u8 40), .lit (.int .u8 15), .lit (.int .u8 34), .lit (.int .u8 20), .lit (.int .u8 31), .lit (.int .u8 10), .lit (.int .u8 25), .lit (.int .u8 14), .lit (.int .u8 19), .lit (.int .u8 9), .lit (.int .u8 13), .lit (.int .u8 8), .lit (.int .u8 7), .lit (.int .u8 6)]
def laid_internal_strconv_uint64pow10 {H : Type} : DataW H := .agg [.lit (.int .u64 1), .lit (.int .u64 10), .lit (.int .u64 100), .lit (.int .u64 1000), .lit (.int .u64 10000), .lit (.int .u64 100000), .lit (.int .u64 1000000), .lit (.int .u64 10000000), .lit (.int .u64 100000000), .lit (.int .u64 1000000000), .lit (.int .u64 10000000000), .lit (.int .u64 100000000000), .lit (.int .u64 1000000000000), .lit (.int .u64 10000000000000), .lit (.int .u64 100000000000000), .lit (.int .u64 1000000000000000), .lit (.int .u64 10000000000000000), .lit (.int .u64 100000000000000000), .lit (.int .u64 1000000000000000000), .lit (.int .u64 10000000000000000000)]
def laid_unicode_utf8_acceptRanges {H : Type} : DataW H := .agg [.agg [.lit (.int .u8 128), .lit (.int .u8 191)], .agg [.lit (.int .u8 160), .lit (.int .u8 191)], .agg [.lit (.int .u8 128), .lit (.int .u8 159)], .agg [.lit (.int .u8 144), .lit (.int .u8 191)], .agg [.lit (.int .u8 128), .lit (.int .u8 143)], .agg [.lit (.int .u8 0), .lit (.int .u8 0)], .agg [.lit (.int .u8 0), .lit (.int .u8 0)], .agg [.lit (.int .u8 0), .lit (.int .u8 0)], .agg [.lit (.int .u8 0), .lit (.int .u8 0)], .agg [.lit (.int .u8 0), .lit (.int .u8 0)], .agg [.lit (.int .u8 0), .lit (.int .u8 0)], .agg [.lit (.int .u8 0), .lit (.int .u8 0)], .agg [.lit (.int .u8 0), .lit (.int .u8 0)], .agg [.lit (.int .u8 0), .lit (.int .u8 0)], .agg [.lit (.int .u8 0), .lit (.int .u8 0)], .agg [.lit (.int .u8 0), .lit (.int .u8 0)]]
def laid_reach_reachref6_reserved {H : Type} : DataW H := .agg [.lit (.string [110, 101, 116, 119, 111, 114, 107]), .lit (.string [104, 101, 97, 100, 101, 114]), .lit (.string [114, 111, 117, 116, 105, 110, 103]), .lit (.string [115, 108, 105, 109]), .lit (.string [98, 111, 120]), .lit (.string [105, 110]), .lit (.string [111, 117, 116]), .lit (.string [103, 117, 97, 114, 100]), .lit (.string [112, 101, 114, 109, 105, 116]), .lit (.string [100, 101, 110, 121]), .lit (.string [114, 117, 108, 101]), .lit (.string [102, 114, 111, 109]), .lit (.string [109, 97, 116, 99, 104]), .lit (.string [115, 101, 116]), .lit (.string [116, 111]), .lit (.string [100, 114, 111, 112]), .lit (.string [111, 119, 110]), .lit (.string [114, 111, 117, 116, 101]), .lit (.string [108, 105, 110, 107]), .lit (.string [99, 111, 115, 116]), .lit (.string [115, 108, 105, 99, 101]), .lit (.string [119, 104, 101, 114, 101]), .lit (.string [97, 110, 121]), .lit (.string [110, 111, 110, 101]), .lit (.string [97, 116]), .lit (.string [110, 111])]
def laid_reach_field_used {H : Type} : DataW H := .agg [.agg [.lit (.bool false), .lit (.bool false), .lit (.bool false), .lit (.bool false)], .agg [.lit (.bool true), .lit (.bool false), .lit (.bool false), .lit (.bool false)], .agg [.lit (.bool true), .lit (.bool false), .lit (.bool true), .lit (.bool false)], .agg [.lit (.bool true), .lit (.bool true), .lit (.bool false), .lit (.bool false)], .agg [.lit (.bool false), .lit (.bool false), .lit (.bool false), .lit (.bool true)]]
/-- One of Go's own tables, pinned by name: the form's constant. -/
def laid_unicode_utf8_first : DataW Unit := Go.Pinned.utf8First

/-- 'reachlaw7.ModelOwn': WHATEVER THE INPUT: true; the input reads as it did. -/
def modelOwnSpec : ChangeSpec := { name := "modelOwn", fn := fun _ => fun
  | [d1, d2, d3, d4] => { results := [.lit (.bool true)], args := [d1, d2, d3, d4] }
  | _ => none }
def modelOwnRow : OpenClaim := { program := "ytcglkonooeddfaagreatdoor", sum := "33a01805f4d164ddb97d60d88e144941993033ce1f4301008ad5c5d3b0956e62", func := "reach/reachlaw7.ModelOwn", spec := "modelOwn", inPlace := ["internal/bytealg.IndexByteString", "internal/bytealg.IndexString", "internal/abi.NoEscape", "internal/bytealg.MakeNoZero"], unfollowed := true, recurses := true, named := ["reach/field.used", "unicode/utf8.first", "unicode/utf8.acceptRanges", "internal/strconv.uint64pow10", "math/bits.deBruijn32tab", "math/bits.deBruijn64tab", "reach/reachref6.reserved", "internal/bytealg.MaxLen"], apart := false, laid := [("math/bits.deBruijn32tab", laid_math_bits_deBruijn32tab), ("math/bits.deBruijn64tab", laid_math_bits_deBruijn64tab), ("internal/strconv.uint64pow10", laid_internal_strconv_uint64pow10), ("unicode/utf8.acceptRanges", laid_unicode_utf8_acceptRanges), ("reach/reachref6.reserved", laid_reach_reachref6_reserved), ("reach/field.used", laid_reach_field_used), ("unicode/utf8.first", laid_unicode_utf8_first)] }
def ModelOwnSaid : Prop := modelOwnRow.holds Tryz.pinned (OpenSpec.ofChange modelOwnSpec)

/-- ITS FALSE NEIGHBOUR: 'it returns false'. Refute it at one input. -/
def modelOwnWrong : ChangeSpec := { name := "modelOwn", fn := fun _ => fun
  | [d1, d2, d3, d4] => { results := [.lit (.bool false)], args := [d1, d2, d3, d4] }
  | _ => none }
def ModelOwnWrongFalsely : Prop := modelOwnRow.holds Tryz.pinned (OpenSpec.ofChange modelOwnWrong)

/-- 'reachlaw7.ModelZone': WHATEVER THE INPUT: true; the input reads as it did. -/
def modelZoneSpec : ChangeSpec := { name := "modelZone", fn := fun _ => fun
  | [d1, d2, d3] => { results := [.lit (.bool true)], args := [d1, d2, d3] }
  | _ => none }
def modelZoneRow : OpenClaim := { program := "ytcglkonooeddfaagreatdoor", sum := "33a01805f4d164ddb97d60d88e144941993033ce1f4301008ad5c5d3b0956e62", func := "reach/reachlaw7.ModelZone", spec := "modelZone", inPlace := ["internal/bytealg.IndexByteString", "internal/bytealg.IndexString", "internal/abi.NoEscape", "internal/bytealg.MakeNoZero", "internal/bytealg.CountString", "internal/reflectlite.ValueOf", "internal/reflectlite.Swapper", "(internal/reflectlite.Value).Len"], unfollowed := true, recurses := true, named := ["reach/field.used", "unicode/utf8.first", "unicode/utf8.acceptRanges", "internal/strconv.uint64pow10", "math/bits.deBruijn32tab", "math/bits.deBruijn64tab", "internal/bytealg.MaxLen"], apart := false, laid := [("math/bits.deBruijn32tab", laid_math_bits_deBruijn32tab), ("math/bits.deBruijn64tab", laid_math_bits_deBruijn64tab), ("internal/strconv.uint64pow10", laid_internal_strconv_uint64pow10), ("unicode/utf8.acceptRanges", laid_unicode_utf8_acceptRanges), ("reach/field.used", laid_reach_field_used), ("unicode/utf8.first", laid_unicode_utf8_first)] }
def ModelZoneSaid : Prop := modelZoneRow.holds Tryz.pinned (OpenSpec.ofChange modelZoneSpec)

/-- ITS FALSE NEIGHBOUR: 'it returns false'. Refute it at one input. -/
def modelZoneWrong : ChangeSpec := { name := "modelZone", fn := fun _ => fun
  | [d1, d2, d3] => { results := [.lit (.bool false)], args := [d1, d2, d3] }
  | _ => none }
def ModelZoneWrongFalsely : Prop := modelZoneRow.holds Tryz.pinned (OpenSpec.ofChange modelZoneWrong)

/-- 'reachlaw7.ModelChecks': WHATEVER THE INPUT: true; the input reads as it did. -/
def modelChecksSpec : ChangeSpec := { name := "modelChecks", fn := fun _ => fun
  | [d] => { results := [.lit (.bool true)], args := [d] }
  | _ => none }
def modelChecksRow : OpenClaim := { program := "ytcglkonooeddfaagreatdoor", sum := "33a01805f4d164ddb97d60d88e144941993033ce1f4301008ad5c5d3b0956e62", func := "reach/reachlaw7.ModelChecks", spec := "modelChecks", inPlace := ["internal/bytealg.IndexByteString", "internal/bytealg.IndexString", "internal/abi.NoEscape", "internal/bytealg.MakeNoZero"], unfollowed := true, recurses := true, named := ["reach/reachref6.reserved", "reach/field.used", "unicode/utf8.first", "unicode/utf8.acceptRanges", "internal/strconv.uint64pow10", "math/bits.deBruijn32tab", "math/bits.deBruijn64tab", "internal/bytealg.MaxLen"], apart := false, laid := [("math/bits.deBruijn32tab", laid_math_bits_deBruijn32tab), ("math/bits.deBruijn64tab", laid_math_bits_deBruijn64tab), ("internal/strconv.uint64pow10", laid_internal_strconv_uint64pow10), ("unicode/utf8.acceptRanges", laid_unicode_utf8_acceptRanges), ("reach/reachref6.reserved", laid_reach_reachref6_reserved), ("reach/field.used", laid_reach_field_used), ("unicode/utf8.first", laid_unicode_utf8_first)] }
def ModelChecksSaid : Prop := modelChecksRow.holds Tryz.pinned (OpenSpec.ofChange modelChecksSpec)

/-- ITS FALSE NEIGHBOUR: 'it returns false'. Refute it at one input. -/
def modelChecksWrong : ChangeSpec := { name := "modelChecks", fn := fun _ => fun
  | [d] => { results := [.lit (.bool false)], args := [d] }
  | _ => none }
def ModelChecksWrongFalsely : Prop := modelChecksRow.holds Tryz.pinned (OpenSpec.ofChange modelChecksWrong)

/-- 'reachlaw7.ModelFinds': WHATEVER THE INPUT: true; the input reads as it did. -/
def modelFindsSpec : ChangeSpec := { name := "modelFinds", fn := fun _ => fun
  | [d1, d2] => { results := [.lit (.bool true)], args := [d1, d2] }
  | _ => none }
def modelFindsRow : OpenClaim := { program := "ytcglkonooeddfaagreatdoor", sum := "33a01805f4d164ddb97d60d88e144941993033ce1f4301008ad5c5d3b0956e62", func := "reach/reachlaw7.ModelFinds", spec := "modelFinds", inPlace := ["internal/bytealg.IndexByteString", "internal/bytealg.IndexString", "internal/abi.NoEscape", "internal/bytealg.MakeNoZero"], unfollowed := true, recurses := true, named := ["reach/reachref6.reserved", "reach/field.used", "unicode/utf8.first", "unicode/utf8.acceptRanges", "internal/strconv.uint64pow10", "math/bits.deBruijn32tab", "math/bits.deBruijn64tab", "internal/bytealg.MaxLen"], apart := false, laid := [("math/bits.deBruijn32tab", laid_math_bits_deBruijn32tab), ("math/bits.deBruijn64tab", laid_math_bits_deBruijn64tab), ("internal/strconv.uint64pow10", laid_internal_strconv_uint64pow10), ("unicode/utf8.acceptRanges", laid_unicode_utf8_acceptRanges), ("reach/reachref6.reserved", laid_reach_reachref6_reserved), ("reach/field.used", laid_reach_field_used), ("unicode/utf8.first", laid_unicode_utf8_first)] }
def ModelFindsSaid : Prop := modelFindsRow.holds Tryz.pinned (OpenSpec.ofChange modelFindsSpec)

/-- ITS FALSE NEIGHBOUR: 'it returns false'. Refute it at one input. -/
def modelFindsWrong : ChangeSpec := { name := "modelFinds", fn := fun _ => fun
  | [d1, d2] => { results := [.lit (.bool false)], args := [d1, d2] }
  | _ => none }
def ModelFindsWrongFalsely : Prop := modelFindsRow.holds Tryz.pinned (OpenSpec.ofChange modelFindsWrong)

/-- 'reachlaw7.ModelPorts': WHATEVER THE INPUT: true; the input reads as it did. -/
def modelPortsSpec : ChangeSpec := { name := "modelPorts", fn := fun _ => fun
  | [d] => { results := [.lit (.bool true)], args := [d] }
  | _ => none }
def modelPortsRow : OpenClaim := { program := "ytcglkonooeddfaagreatdoor", sum := "33a01805f4d164ddb97d60d88e144941993033ce1f4301008ad5c5d3b0956e62", func := "reach/reachlaw7.ModelPorts", spec := "modelPorts", inPlace := ["internal/bytealg.IndexByteString", "internal/bytealg.IndexString", "internal/abi.NoEscape", "internal/bytealg.MakeNoZero"], unfollowed := true, recurses := true, named := ["reach/reachref6.reserved", "reach/field.used", "unicode/utf8.first", "unicode/utf8.acceptRanges", "internal/strconv.uint64pow10", "math/bits.deBruijn32tab", "math/bits.deBruijn64tab", "internal/bytealg.MaxLen"], apart := false, laid := [("math/bits.deBruijn32tab", laid_math_bits_deBruijn32tab), ("math/bits.deBruijn64tab", laid_math_bits_deBruijn64tab), ("internal/strconv.uint64pow10", laid_internal_strconv_uint64pow10), ("unicode/utf8.acceptRanges", laid_unicode_utf8_acceptRanges), ("reach/reachref6.reserved", laid_reach_reachref6_reserved), ("reach/field.used", laid_reach_field_used), ("unicode/utf8.first", laid_unicode_utf8_first)] }
def ModelPortsSaid : Prop := modelPortsRow.holds Tryz.pinned (OpenSpec.ofChange modelPortsSpec)

/-- ITS FALSE NEIGHBOUR: 'it returns false'. Refute it at one input. -/
def modelPortsWrong : ChangeSpec := { name := "modelPorts", fn := fun _ => fun
  | [d] => { results := [.lit (.bool false)], args := [d] }
  | _ => none }
def ModelPortsWrongFalsely : Prop := modelPortsRow.holds Tryz.pinned (OpenSpec.ofChange modelPortsWrong)

/-- 'reachlaw7.ModelNumbers': WHATEVER THE INPUT: true; the input reads as it did. -/
def modelNumbersSpec : ChangeSpec := { name := "modelNumbers", fn := fun _ => fun
  | [d] => { results := [.lit (.bool true)], args := [d] }
  | _ => none }
def modelNumbersRow : OpenClaim := { program := "ytcglkonooeddfaagreatdoor", sum := "33a01805f4d164ddb97d60d88e144941993033ce1f4301008ad5c5d3b0956e62", func := "reach/reachlaw7.ModelNumbers", spec := "modelNumbers", inPlace := ["internal/bytealg.IndexByteString", "internal/bytealg.IndexString", "internal/abi.NoEscape", "internal/bytealg.MakeNoZero"], unfollowed := true, recurses := true, named := ["reach/field.used", "unicode/utf8.first", "unicode/utf8.acceptRanges", "internal/strconv.uint64pow10", "math/bits.deBruijn32tab", "math/bits.deBruijn64tab", "internal/bytealg.MaxLen"], apart := false, laid := [("math/bits.deBruijn32tab", laid_math_bits_deBruijn32tab), ("math/bits.deBruijn64tab", laid_math_bits_deBruijn64tab), ("internal/strconv.uint64pow10", laid_internal_strconv_uint64pow10), ("unicode/utf8.acceptRanges", laid_unicode_utf8_acceptRanges), ("reach/field.used", laid_reach_field_used), ("unicode/utf8.first", laid_unicode_utf8_first)] }
def ModelNumbersSaid : Prop := modelNumbersRow.holds Tryz.pinned (OpenSpec.ofChange modelNumbersSpec)

/-- ITS FALSE NEIGHBOUR: 'it returns false'. Refute it at one input. -/
def modelNumbersWrong : ChangeSpec := { name := "modelNumbers", fn := fun _ => fun
  | [d] => { results := [.lit (.bool false)], args := [d] }
  | _ => none }
def ModelNumbersWrongFalsely : Prop := modelNumbersRow.holds Tryz.pinned (OpenSpec.ofChange modelNumbersWrong)

/-- 'reachlaw7.ModelEdges': WHATEVER THE INPUT: true; the input reads as it did. -/
def modelEdgesSpec : ChangeSpec := { name := "modelEdges", fn := fun _ => fun
  | [d] => { results := [.lit (.bool true)], args := [d] }
  | _ => none }
def modelEdgesRow : OpenClaim := { program := "ytcglkonooeddfaagreatdoor", sum := "33a01805f4d164ddb97d60d88e144941993033ce1f4301008ad5c5d3b0956e62", func := "reach/reachlaw7.ModelEdges", spec := "modelEdges", inPlace := ["internal/bytealg.IndexByteString", "internal/bytealg.IndexString", "internal/abi.NoEscape", "internal/bytealg.MakeNoZero"], unfollowed := true, recurses := true, named := ["reach/reachref6.reserved", "reach/field.used", "unicode/utf8.first", "unicode/utf8.acceptRanges", "internal/strconv.uint64pow10", "math/bits.deBruijn32tab", "math/bits.deBruijn64tab", "internal/bytealg.MaxLen"], apart := false, laid := [("math/bits.deBruijn32tab", laid_math_bits_deBruijn32tab), ("math/bits.deBruijn64tab", laid_math_bits_deBruijn64tab), ("internal/strconv.uint64pow10", laid_internal_strconv_uint64pow10), ("unicode/utf8.acceptRanges", laid_unicode_utf8_acceptRanges), ("reach/reachref6.reserved", laid_reach_reachref6_reserved), ("reach/field.used", laid_reach_field_used), ("unicode/utf8.first", laid_unicode_utf8_first)] }
def ModelEdgesSaid : Prop := modelEdgesRow.holds Tryz.pinned (OpenSpec.ofChange modelEdgesSpec)

/-- ITS FALSE NEIGHBOUR: 'it returns false'. Refute it at one input. -/
def modelEdgesWrong : ChangeSpec := { name := "modelEdges", fn := fun _ => fun
  | [d] => { results := [.lit (.bool false)], args := [d] }
  | _ => none }
def ModelEdgesWrongFalsely : Prop := modelEdgesRow.holds Tryz.pinned (OpenSpec.ofChange modelEdgesWrong)

/-- 'reachlaw7.ModelWays': WHATEVER THE INPUT: true; the input reads as it did. -/
def modelWaysSpec : ChangeSpec := { name := "modelWays", fn := fun _ => fun
  | [d] => { results := [.lit (.bool true)], args := [d] }
  | _ => none }
def modelWaysRow : OpenClaim := { program := "ytcglkonooeddfaagreatdoor", sum := "33a01805f4d164ddb97d60d88e144941993033ce1f4301008ad5c5d3b0956e62", func := "reach/reachlaw7.ModelWays", spec := "modelWays", inPlace := ["internal/bytealg.IndexByteString", "internal/bytealg.IndexString", "internal/abi.NoEscape", "internal/bytealg.MakeNoZero"], unfollowed := true, recurses := true, named := ["reach/field.used", "unicode/utf8.first", "unicode/utf8.acceptRanges", "internal/strconv.uint64pow10", "math/bits.deBruijn32tab", "math/bits.deBruijn64tab", "internal/bytealg.MaxLen"], apart := false, laid := [("math/bits.deBruijn32tab", laid_math_bits_deBruijn32tab), ("math/bits.deBruijn64tab", laid_math_bits_deBruijn64tab), ("internal/strconv.uint64pow10", laid_internal_strconv_uint64pow10), ("unicode/utf8.acceptRanges", laid_unicode_utf8_acceptRanges), ("reach/field.used", laid_reach_field_used), ("unicode/utf8.first", laid_unicode_utf8_first)] }
def ModelWaysSaid : Prop := modelWaysRow.holds Tryz.pinned (OpenSpec.ofChange modelWaysSpec)

/-- ITS FALSE NEIGHBOUR: 'it returns false'. Refute it at one input. -/
def modelWaysWrong : ChangeSpec := { name := "modelWays", fn := fun _ => fun
  | [d] => { results := [.lit (.bool false)], args := [d] }
  | _ => none }
def ModelWaysWrongFalsely : Prop := modelWaysRow.holds Tryz.pinned (OpenSpec.ofChange modelWaysWrong)

/-- 'reachlaw7.ModelTurned': WHATEVER THE INPUT: true; the input reads as it did. -/
def modelTurnedSpec : ChangeSpec := { name := "modelTurned", fn := fun _ => fun
  | [d] => { results := [.lit (.bool true)], args := [d] }
  | _ => none }
def modelTurnedRow : OpenClaim := { program := "ytcglkonooeddfaagreatdoor", sum := "33a01805f4d164ddb97d60d88e144941993033ce1f4301008ad5c5d3b0956e62", func := "reach/reachlaw7.ModelTurned", spec := "modelTurned", inPlace := ["internal/bytealg.IndexByteString", "internal/bytealg.IndexString", "internal/abi.NoEscape", "internal/bytealg.MakeNoZero"], unfollowed := true, recurses := true, named := ["reach/field.used", "unicode/utf8.first", "unicode/utf8.acceptRanges", "internal/strconv.uint64pow10", "math/bits.deBruijn32tab", "math/bits.deBruijn64tab", "internal/bytealg.MaxLen"], apart := false, laid := [("math/bits.deBruijn32tab", laid_math_bits_deBruijn32tab), ("math/bits.deBruijn64tab", laid_math_bits_deBruijn64tab), ("internal/strconv.uint64pow10", laid_internal_strconv_uint64pow10), ("unicode/utf8.acceptRanges", laid_unicode_utf8_acceptRanges), ("reach/field.used", laid_reach_field_used), ("unicode/utf8.first", laid_unicode_utf8_first)] }
def ModelTurnedSaid : Prop := modelTurnedRow.holds Tryz.pinned (OpenSpec.ofChange modelTurnedSpec)

/-- ITS FALSE NEIGHBOUR: 'it returns false'. Refute it at one input. -/
def modelTurnedWrong : ChangeSpec := { name := "modelTurned", fn := fun _ => fun
  | [d] => { results := [.lit (.bool false)], args := [d] }
  | _ => none }
def ModelTurnedWrongFalsely : Prop := modelTurnedRow.holds Tryz.pinned (OpenSpec.ofChange modelTurnedWrong)

/-- 'reachlaw7.ModelMarred': WHATEVER THE INPUT: true; the input reads as it did. -/
def modelMarredSpec : ChangeSpec := { name := "modelMarred", fn := fun _ => fun
  | [d1, d2, d3] => { results := [.lit (.bool true)], args := [d1, d2, d3] }
  | _ => none }
def modelMarredRow : OpenClaim := { program := "ytcglkonooeddfaagreatdoor", sum := "33a01805f4d164ddb97d60d88e144941993033ce1f4301008ad5c5d3b0956e62", func := "reach/reachlaw7.ModelMarred", spec := "modelMarred", inPlace := ["internal/bytealg.IndexByteString", "internal/bytealg.IndexString", "internal/abi.NoEscape", "internal/bytealg.MakeNoZero"], unfollowed := true, recurses := true, named := ["reach/field.used", "unicode/utf8.first", "unicode/utf8.acceptRanges", "internal/strconv.uint64pow10", "math/bits.deBruijn32tab", "math/bits.deBruijn64tab", "internal/bytealg.MaxLen"], apart := false, laid := [("math/bits.deBruijn32tab", laid_math_bits_deBruijn32tab), ("math/bits.deBruijn64tab", laid_math_bits_deBruijn64tab), ("internal/strconv.uint64pow10", laid_internal_strconv_uint64pow10), ("unicode/utf8.acceptRanges", laid_unicode_utf8_acceptRanges), ("reach/field.used", laid_reach_field_used), ("unicode/utf8.first", laid_unicode_utf8_first)] }
def ModelMarredSaid : Prop := modelMarredRow.holds Tryz.pinned (OpenSpec.ofChange modelMarredSpec)

/-- ITS FALSE NEIGHBOUR: 'it returns false'. Refute it at one input. -/
def modelMarredWrong : ChangeSpec := { name := "modelMarred", fn := fun _ => fun
  | [d1, d2, d3] => { results := [.lit (.bool false)], args := [d1, d2, d3] }
  | _ => none }
def ModelMarredWrongFalsely : Prop := modelMarredRow.holds Tryz.pinned (OpenSpec.ofChange modelMarredWrong)

/-- 'reachlaw7.ModelZones': WHATEVER THE INPUT: true; the input reads as it did. -/
def modelZonesSpec : ChangeSpec := { name := "modelZones", fn := fun _ => fun
  | [d1, d2] => { results := [.lit (.bool true)], args := [d1, d2] }
  | _ => none }
def modelZonesRow : OpenClaim := { program := "ytcglkonooeddfaagreatdoor", sum := "33a01805f4d164ddb97d60d88e144941993033ce1f4301008ad5c5d3b0956e62", func := "reach/reachlaw7.ModelZones", spec := "modelZones", inPlace := ["internal/bytealg.IndexByteString", "internal/bytealg.IndexString", "internal/abi.NoEscape", "internal/bytealg.MakeNoZero"], unfollowed := true, recurses := true, named := ["reach/reachref6.reserved", "reach/field.used", "unicode/utf8.first", "unicode/utf8.acceptRanges", "internal/strconv.uint64pow10", "math/bits.deBruijn32tab", "math/bits.deBruijn64tab", "internal/bytealg.MaxLen"], apart := false, laid := [("math/bits.deBruijn32tab", laid_math_bits_deBruijn32tab), ("math/bits.deBruijn64tab", laid_math_bits_deBruijn64tab), ("internal/strconv.uint64pow10", laid_internal_strconv_uint64pow10), ("unicode/utf8.acceptRanges", laid_unicode_utf8_acceptRanges), ("reach/reachref6.reserved", laid_reach_reachref6_reserved), ("reach/field.used", laid_reach_field_used), ("unicode/utf8.first", laid_unicode_utf8_first)] }
def ModelZonesSaid : Prop := modelZonesRow.holds Tryz.pinned (OpenSpec.ofChange modelZonesSpec)

/-- ITS FALSE NEIGHBOUR: 'it returns false'. Refute it at one input. -/
def modelZonesWrong : ChangeSpec := { name := "modelZones", fn := fun _ => fun
  | [d1, d2] => { results := [.lit (.bool false)], args := [d1, d2] }
  | _ => none }
def ModelZonesWrongFalsely : Prop := modelZonesRow.holds Tryz.pinned (OpenSpec.ofChange modelZonesWrong)

/-- 'reachlaw7.ModelAgain': WHATEVER THE INPUT: true; the input reads as it did. -/
def modelAgainSpec : ChangeSpec := { name := "modelAgain", fn := fun _ => fun
  | [d1, d2, d3] => { results := [.lit (.bool true)], args := [d1, d2, d3] }
  | _ => none }
def modelAgainRow : OpenClaim := { program := "ytcglkonooeddfaagreatdoor", sum := "33a01805f4d164ddb97d60d88e144941993033ce1f4301008ad5c5d3b0956e62", func := "reach/reachlaw7.ModelAgain", spec := "modelAgain", inPlace := ["internal/bytealg.IndexByteString", "internal/bytealg.IndexString", "internal/abi.NoEscape", "internal/bytealg.MakeNoZero"], unfollowed := true, recurses := true, named := ["reach/field.used", "unicode/utf8.first", "unicode/utf8.acceptRanges", "internal/strconv.uint64pow10", "math/bits.deBruijn32tab", "math/bits.deBruijn64tab", "reach/reachref6.reserved", "internal/bytealg.MaxLen"], apart := false, laid := [("math/bits.deBruijn32tab", laid_math_bits_deBruijn32tab), ("math/bits.deBruijn64tab", laid_math_bits_deBruijn64tab), ("internal/strconv.uint64pow10", laid_internal_strconv_uint64pow10), ("unicode/utf8.acceptRanges", laid_unicode_utf8_acceptRanges), ("reach/reachref6.reserved", laid_reach_reachref6_reserved), ("reach/field.used", laid_reach_field_used), ("unicode/utf8.first", laid_unicode_utf8_first)] }
def ModelAgainSaid : Prop := modelAgainRow.holds Tryz.pinned (OpenSpec.ofChange modelAgainSpec)

/-- ITS FALSE NEIGHBOUR: 'it returns false'. Refute it at one input. -/
def modelAgainWrong : ChangeSpec := { name := "modelAgain", fn := fun _ => fun
  | [d1, d2, d3] => { results := [.lit (.bool false)], args := [d1, d2, d3] }
  | _ => none }
def ModelAgainWrongFalsely : Prop := modelAgainRow.holds Tryz.pinned (OpenSpec.ofChange modelAgainWrong)

/- THE SECOND FORM. 'bulk': how many values and letters a reading holds, each counted each time it is reached (what is shared counts as often as it is met; a slice's spare places count too). A statement '..UptoSaid' is the law's where the arguments, and the package variables that the reading takes, are together of bulk at most 1048576: NARROWER than '..Said'. Prove '..Said' where nothing that the law and all that it calls make is longer than what came in: it says more and counts as full. Else prove '..UptoSaid'. A law counts once. -/
mutual
def uptoBulk {H : Type} : DataW H → Nat
  | .lit (.string bytes) => bytes.length + 1
  | .lit _ => 1
  | .nil => 1
  | .ptr d => uptoBulk d + 1
  | .slice elems spare => uptoBulkAll elems + uptoBulkAll spare + 1
  | .agg parts => uptoBulkAll parts + 1
  | .iface _ d => uptoBulk d + 1
  | .map entries => uptoBulkEntries entries + 1
  | .held _ => 1
def uptoBulkAll {H : Type} : List (DataW H) → Nat
  | [] => 0
  | d :: r => uptoBulk d + uptoBulkAll r
def uptoBulkEntries {H : Type} : List (Lit × DataW H) → Nat
  | [] => 0
  | x :: r => uptoBulkEntry x + uptoBulkEntries r
def uptoBulkEntry {H : Type} : Lit × DataW H → Nat
  | (.string bytes, d) => bytes.length + uptoBulk d + 1
  | (_, d) => uptoBulk d + 1
 end
def uptoSmall : (H : Type) → List (DataW H) → Bool := fun _ ds => decide (uptoBulkAll ds ≤ 1048576)
def OpenSpec.upto (s : _root_.Go.ChangeSpec) : _root_.Go.OpenSpec := { _root_.Go.OpenSpec.ofChange s with cond := some uptoSmall }

/-- 'reachlaw7.ModelOwn', WHERE WHAT IT READS IS OF BULK AT MOST 1048576: true; the input reads as it did. -/
def modelOwnUptoRow : OpenClaim := { program := "ytcglkonooeddfaagreatdoor", sum := "33a01805f4d164ddb97d60d88e144941993033ce1f4301008ad5c5d3b0956e62", func := "reach/reachlaw7.ModelOwn", spec := "modelOwn", inPlace := ["internal/bytealg.IndexByteString", "internal/bytealg.IndexString", "internal/abi.NoEscape", "internal/bytealg.MakeNoZero"], unfollowed := true, recurses := true, named := ["reach/field.used", "unicode/utf8.first", "unicode/utf8.acceptRanges", "internal/strconv.uint64pow10", "math/bits.deBruijn32tab", "math/bits.deBruijn64tab", "reach/reachref6.reserved", "internal/bytealg.MaxLen"], apart := false, laid := [("math/bits.deBruijn32tab", laid_math_bits_deBruijn32tab), ("math/bits.deBruijn64tab", laid_math_bits_deBruijn64tab), ("internal/strconv.uint64pow10", laid_internal_strconv_uint64pow10), ("unicode/utf8.acceptRanges", laid_unicode_utf8_acceptRanges), ("reach/reachref6.reserved", laid_reach_reachref6_reserved), ("reach/field.used", laid_reach_field_used), ("unicode/utf8.first", laid_unicode_utf8_first)], narrowed := true }
def ModelOwnUptoSaid : Prop := modelOwnUptoRow.holds Tryz.pinned (OpenSpec.upto modelOwnSpec)

/-- 'reachlaw7.ModelZone', WHERE WHAT IT READS IS OF BULK AT MOST 1048576: true; the input reads as it did. -/
def modelZoneUptoRow : OpenClaim := { program := "ytcglkonooeddfaagreatdoor", sum := "33a01805f4d164ddb97d60d88e144941993033ce1f4301008ad5c5d3b0956e62", func := "reach/reachlaw7.ModelZone", spec := "modelZone", inPlace := ["internal/bytealg.IndexByteString", "internal/bytealg.IndexString", "internal/abi.NoEscape", "internal/bytealg.MakeNoZero", "internal/bytealg.CountString", "internal/reflectlite.ValueOf", "internal/reflectlite.Swapper", "(internal/reflectlite.Value).Len"], unfollowed := true, recurses := true, named := ["reach/field.used", "unicode/utf8.first", "unicode/utf8.acceptRanges", "internal/strconv.uint64pow10", "math/bits.deBruijn32tab", "math/bits.deBruijn64tab", "internal/bytealg.MaxLen"], apart := false, laid := [("math/bits.deBruijn32tab", laid_math_bits_deBruijn32tab), ("math/bits.deBruijn64tab", laid_math_bits_deBruijn64tab), ("internal/strconv.uint64pow10", laid_internal_strconv_uint64pow10), ("unicode/utf8.acceptRanges", laid_unicode_utf8_acceptRanges), ("reach/field.used", laid_reach_field_used), ("unicode/utf8.first", laid_unicode_utf8_first)], narrowed := true }
def ModelZoneUptoSaid : Prop := modelZoneUptoRow.holds Tryz.pinned (OpenSpec.upto modelZoneSpec)

/-- 'reachlaw7.ModelChecks', WHERE WHAT IT READS IS OF BULK AT MOST 1048576: true; the input reads as it did. -/
def modelChecksUptoRow : OpenClaim := { program := "ytcglkonooeddfaagreatdoor", sum := "33a01805f4d164ddb97d60d88e144941993033ce1f4301008ad5c5d3b0956e62", func := "reach/reachlaw7.ModelChecks", spec := "modelChecks", inPlace := ["internal/bytealg.IndexByteString", "internal/bytealg.IndexString", "internal/abi.NoEscape", "internal/bytealg.MakeNoZero"], unfollowed := true, recurses := true, named := ["reach/reachref6.reserved", "reach/field.used", "unicode/utf8.first", "unicode/utf8.acceptRanges", "internal/strconv.uint64pow10", "math/bits.deBruijn32tab", "math/bits.deBruijn64tab", "internal/bytealg.MaxLen"], apart := false, laid := [("math/bits.deBruijn32tab", laid_math_bits_deBruijn32tab), ("math/bits.deBruijn64tab", laid_math_bits_deBruijn64tab), ("internal/strconv.uint64pow10", laid_internal_strconv_uint64pow10), ("unicode/utf8.acceptRanges", laid_unicode_utf8_acceptRanges), ("reach/reachref6.reserved", laid_reach_reachref6_reserved), ("reach/field.used", laid_reach_field_used), ("unicode/utf8.first", laid_unicode_utf8_first)], narrowed := true }
def ModelChecksUptoSaid : Prop := modelChecksUptoRow.holds Tryz.pinned (OpenSpec.upto modelChecksSpec)

/-- 'reachlaw7.ModelFinds', WHERE WHAT IT READS IS OF BULK AT MOST 1048576: true; the input reads as it did. -/
def modelFindsUptoRow : OpenClaim := { program := "ytcglkonooeddfaagreatdoor", sum := "33a01805f4d164ddb97d60d88e144941993033ce1f4301008ad5c5d3b0956e62", func := "reach/reachlaw7.ModelFinds", spec := "modelFinds", inPlace := ["internal/bytealg.IndexByteString", "internal/bytealg.IndexString", "internal/abi.NoEscape", "internal/bytealg.MakeNoZero"], unfollowed := true, recurses := true, named := ["reach/reachref6.reserved", "reach/field.used", "unicode/utf8.first", "unicode/utf8.acceptRanges", "internal/strconv.uint64pow10", "math/bits.deBruijn32tab", "math/bits.deBruijn64tab", "internal/bytealg.MaxLen"], apart := false, laid := [("math/bits.deBruijn32tab", laid_math_bits_deBruijn32tab), ("math/bits.deBruijn64tab", laid_math_bits_deBruijn64tab), ("internal/strconv.uint64pow10", laid_internal_strconv_uint64pow10), ("unicode/utf8.acceptRanges", laid_unicode_utf8_acceptRanges), ("reach/reachref6.reserved", laid_reach_reachref6_reserved), ("reach/field.used", laid_reach_field_used), ("unicode/utf8.first", laid_unicode_utf8_first)], narrowed := true }
def ModelFindsUptoSaid : Prop := modelFindsUptoRow.holds Tryz.pinned (OpenSpec.upto modelFindsSpec)

/-- 'reachlaw7.ModelPorts', WHERE WHAT IT READS IS OF BULK AT MOST 1048576: true; the input reads as it did. -/
def modelPortsUptoRow : OpenClaim := { program := "ytcglkonooeddfaagreatdoor", sum := "33a01805f4d164ddb97d60d88e144941993033ce1f4301008ad5c5d3b0956e62", func := "reach/reachlaw7.ModelPorts", spec := "modelPorts", inPlace := ["internal/bytealg.IndexByteString", "internal/bytealg.IndexString", "internal/abi.NoEscape", "internal/bytealg.MakeNoZero"], unfollowed := true, recurses := true, named := ["reach/reachref6.reserved", "reach/field.used", "unicode/utf8.first", "unicode/utf8.acceptRanges", "internal/strconv.uint64pow10", "math/bits.deBruijn32tab", "math/bits.deBruijn64tab", "internal/bytealg.MaxLen"], apart := false, laid := [("math/bits.deBruijn32tab", laid_math_bits_deBruijn32tab), ("math/bits.deBruijn64tab", laid_math_bits_deBruijn64tab), ("internal/strconv.uint64pow10", laid_internal_strconv_uint64pow10), ("unicode/utf8.acceptRanges", laid_unicode_utf8_acceptRanges), ("reach/reachref6.reserved", laid_reach_reachref6_reserved), ("reach/field.used", laid_reach_field_used), ("unicode/utf8.first", laid_unicode_utf8_first)], narrowed := true }
def ModelPortsUptoSaid : Prop := modelPortsUptoRow.holds Tryz.pinned (OpenSpec.upto modelPortsSpec)

/-- 'reachlaw7.ModelNumbers', WHERE WHAT IT READS IS OF BULK AT MOST 1048576: true; the input reads as it did. -/
def modelNumbersUptoRow : OpenClaim := { program := "ytcglkonooeddfaagreatdoor", sum := "33a01805f4d164ddb97d60d88e144941993033ce1f4301008ad5c5d3b0956e62", func := "reach/reachlaw7.ModelNumbers", spec := "modelNumbers", inPlace := ["internal/bytealg.IndexByteString", "internal/bytealg.IndexString", "internal/abi.NoEscape", "internal/bytealg.MakeNoZero"], unfollowed := true, recurses := true, named := ["reach/field.used", "unicode/utf8.first", "unicode/utf8.acceptRanges", "internal/strconv.uint64pow10", "math/bits.deBruijn32tab", "math/bits.deBruijn64tab", "internal/bytealg.MaxLen"], apart := false, laid := [("math/bits.deBruijn32tab", laid_math_bits_deBruijn32tab), ("math/bits.deBruijn64tab", laid_math_bits_deBruijn64tab), ("internal/strconv.uint64pow10", laid_internal_strconv_uint64pow10), ("unicode/utf8.acceptRanges", laid_unicode_utf8_acceptRanges), ("reach/field.used", laid_reach_field_used), ("unicode/utf8.first", laid_unicode_utf8_first)], narrowed := true }
def ModelNumbersUptoSaid : Prop := modelNumbersUptoRow.holds Tryz.pinned (OpenSpec.upto modelNumbersSpec)

/-- 'reachlaw7.ModelEdges', WHERE WHAT IT READS IS OF BULK AT MOST 1048576: true; the input reads as it did. -/
def modelEdgesUptoRow : OpenClaim := { program := "ytcglkonooeddfaagreatdoor", sum := "33a01805f4d164ddb97d60d88e144941993033ce1f4301008ad5c5d3b0956e62", func := "reach/reachlaw7.ModelEdges", spec := "modelEdges", inPlace := ["internal/bytealg.IndexByteString", "internal/bytealg.IndexString", "internal/abi.NoEscape", "internal/bytealg.MakeNoZero"], unfollowed := true, recurses := true, named := ["reach/reachref6.reserved", "reach/field.used", "unicode/utf8.first", "unicode/utf8.acceptRanges", "internal/strconv.uint64pow10", "math/bits.deBruijn32tab", "math/bits.deBruijn64tab", "internal/bytealg.MaxLen"], apart := false, laid := [("math/bits.deBruijn32tab", laid_math_bits_deBruijn32tab), ("math/bits.deBruijn64tab", laid_math_bits_deBruijn64tab), ("internal/strconv.uint64pow10", laid_internal_strconv_uint64pow10), ("unicode/utf8.acceptRanges", laid_unicode_utf8_acceptRanges), ("reach/reachref6.reserved", laid_reach_reachref6_reserved), ("reach/field.used", laid_reach_field_used), ("unicode/utf8.first", laid_unicode_utf8_first)], narrowed := true }
def ModelEdgesUptoSaid : Prop := modelEdgesUptoRow.holds Tryz.pinned (OpenSpec.upto modelEdgesSpec)

/-- 'reachlaw7.ModelWays', WHERE WHAT IT READS IS OF BULK AT MOST 1048576: true; the input reads as it did. -/
def modelWaysUptoRow : OpenClaim := { program := "ytcglkonooeddfaagreatdoor", sum := "33a01805f4d164ddb97d60d88e144941993033ce1f4301008ad5c5d3b0956e62", func := "reach/reachlaw7.ModelWays", spec := "modelWays", inPlace := ["internal/bytealg.IndexByteString", "internal/bytealg.IndexString", "internal/abi.NoEscape", "internal/bytealg.MakeNoZero"], unfollowed := true, recurses := true, named := ["reach/field.used", "unicode/utf8.first", "unicode/utf8.acceptRanges", "internal/strconv.uint64pow10", "math/bits.deBruijn32tab", "math/bits.deBruijn64tab", "internal/bytealg.MaxLen"], apart := false, laid := [("math/bits.deBruijn32tab", laid_math_bits_deBruijn32tab), ("math/bits.deBruijn64tab", laid_math_bits_deBruijn64tab), ("internal/strconv.uint64pow10", laid_internal_strconv_uint64pow10), ("unicode/utf8.acceptRanges", laid_unicode_utf8_acceptRanges), ("reach/field.used", laid_reach_field_used), ("unicode/utf8.first", laid_unicode_utf8_first)], narrowed := true }
def ModelWaysUptoSaid : Prop := modelWaysUptoRow.holds Tryz.pinned (OpenSpec.upto modelWaysSpec)

/-- 'reachlaw7.ModelTurned', WHERE WHAT IT READS IS OF BULK AT MOST 1048576: true; the input reads as it did. -/
def modelTurnedUptoRow : OpenClaim := { program := "ytcglkonooeddfaagreatdoor", sum := "33a01805f4d164ddb97d60d88e144941993033ce1f4301008ad5c5d3b0956e62", func := "reach/reachlaw7.ModelTurned", spec := "modelTurned", inPlace := ["internal/bytealg.IndexByteString", "internal/bytealg.IndexString", "internal/abi.NoEscape", "internal/bytealg.MakeNoZero"], unfollowed := true, recurses := true, named := ["reach/field.used", "unicode/utf8.first", "unicode/utf8.acceptRanges", "internal/strconv.uint64pow10", "math/bits.deBruijn32tab", "math/bits.deBruijn64tab", "internal/bytealg.MaxLen"], apart := false, laid := [("math/bits.deBruijn32tab", laid_math_bits_deBruijn32tab), ("math/bits.deBruijn64tab", laid_math_bits_deBruijn64tab), ("internal/strconv.uint64pow10", laid_internal_strconv_uint64pow10), ("unicode/utf8.acceptRanges", laid_unicode_utf8_acceptRanges), ("reach/field.used", laid_reach_field_used), ("unicode/utf8.first", laid_unicode_utf8_first)], narrowed := true }
def ModelTurnedUptoSaid : Prop := modelTurnedUptoRow.holds Tryz.pinned (OpenSpec.upto modelTurnedSpec)

/-- 'reachlaw7.ModelMarred', WHERE WHAT IT READS IS OF BULK AT MOST 1048576: true; the input reads as it did. -/
def modelMarredUptoRow : OpenClaim := { program := "ytcglkonooeddfaagreatdoor", sum := "33a01805f4d164ddb97d60d88e144941993033ce1f4301008ad5c5d3b0956e62", func := "reach/reachlaw7.ModelMarred", spec := "modelMarred", inPlace := ["internal/bytealg.IndexByteString", "internal/bytealg.IndexString", "internal/abi.NoEscape", "internal/bytealg.MakeNoZero"], unfollowed := true, recurses := true, named := ["reach/field.used", "unicode/utf8.first", "unicode/utf8.acceptRanges", "internal/strconv.uint64pow10", "math/bits.deBruijn32tab", "math/bits.deBruijn64tab", "internal/bytealg.MaxLen"], apart := false, laid := [("math/bits.deBruijn32tab", laid_math_bits_deBruijn32tab), ("math/bits.deBruijn64tab", laid_math_bits_deBruijn64tab), ("internal/strconv.uint64pow10", laid_internal_strconv_uint64pow10), ("unicode/utf8.acceptRanges", laid_unicode_utf8_acceptRanges), ("reach/field.used", laid_reach_field_used), ("unicode/utf8.first", laid_unicode_utf8_first)], narrowed := true }
def ModelMarredUptoSaid : Prop := modelMarredUptoRow.holds Tryz.pinned (OpenSpec.upto modelMarredSpec)

/-- 'reachlaw7.ModelZones', WHERE WHAT IT READS IS OF BULK AT MOST 1048576: true; the input reads as it did. -/
def modelZonesUptoRow : OpenClaim := { program := "ytcglkonooeddfaagreatdoor", sum := "33a01805f4d164ddb97d60d88e144941993033ce1f4301008ad5c5d3b0956e62", func := "reach/reachlaw7.ModelZones", spec := "modelZones", inPlace := ["internal/bytealg.IndexByteString", "internal/bytealg.IndexString", "internal/abi.NoEscape", "internal/bytealg.MakeNoZero"], unfollowed := true, recurses := true, named := ["reach/reachref6.reserved", "reach/field.used", "unicode/utf8.first", "unicode/utf8.acceptRanges", "internal/strconv.uint64pow10", "math/bits.deBruijn32tab", "math/bits.deBruijn64tab", "internal/bytealg.MaxLen"], apart := false, laid := [("math/bits.deBruijn32tab", laid_math_bits_deBruijn32tab), ("math/bits.deBruijn64tab", laid_math_bits_deBruijn64tab), ("internal/strconv.uint64pow10", laid_internal_strconv_uint64pow10), ("unicode/utf8.acceptRanges", laid_unicode_utf8_acceptRanges), ("reach/reachref6.reserved", laid_reach_reachref6_reserved), ("reach/field.used", laid_reach_field_used), ("unicode/utf8.first", laid_unicode_utf8_first)], narrowed := true }
def ModelZonesUptoSaid : Prop := modelZonesUptoRow.holds Tryz.pinned (OpenSpec.upto modelZonesSpec)

/-- 'reachlaw7.ModelAgain', WHERE WHAT IT READS IS OF BULK AT MOST 1048576: true; the input reads as it did. -/
def modelAgainUptoRow : OpenClaim := { program := "ytcglkonooeddfaagreatdoor", sum := "33a01805f4d164ddb97d60d88e144941993033ce1f4301008ad5c5d3b0956e62", func := "reach/reachlaw7.ModelAgain", spec := "modelAgain", inPlace := ["internal/bytealg.IndexByteString", "internal/bytealg.IndexString", "internal/abi.NoEscape", "internal/bytealg.MakeNoZero"], unfollowed := true, recurses := true, named := ["reach/field.used", "unicode/utf8.first", "unicode/utf8.acceptRanges", "internal/strconv.uint64pow10", "math/bits.deBruijn32tab", "math/bits.deBruijn64tab", "reach/reachref6.reserved", "internal/bytealg.MaxLen"], apart := false, laid := [("math/bits.deBruijn32tab", laid_math_bits_deBruijn32tab), ("math/bits.deBruijn64tab", laid_math_bits_deBruijn64tab), ("internal/strconv.uint64pow10", laid_internal_strconv_uint64pow10), ("unicode/utf8.acceptRanges", laid_unicode_utf8_acceptRanges), ("reach/reachref6.reserved", laid_reach_reachref6_reserved), ("reach/field.used", laid_reach_field_used), ("unicode/utf8.first", laid_unicode_utf8_first)], narrowed := true }
def ModelAgainUptoSaid : Prop := modelAgainUptoRow.holds Tryz.pinned (OpenSpec.upto modelAgainSpec)

end Rows
end Go.Proofs.YtcglkonooeddfaaGreatDoor
