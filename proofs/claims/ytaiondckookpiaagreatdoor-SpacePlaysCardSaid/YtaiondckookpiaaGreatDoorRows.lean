/-
  NARROWER THAN 'FOR EVERY INPUT', by the rows' own cells (each row's printed sentence says how): SpaceJoins: laid · SpaceMeets: laid · SpaceHolds: laid · SpaceTakes: laid · SpaceBefores: laid · SpaceWalks: laid · SpaceExpands: laid · SpaceAfters: laid · SpaceLeasts: laid · SpaceWithins: laid · SpaceWrites: laid · SpaceInside: laid · SpacePlays: laid · SpaceEdges: laid.
  DERIVED. THE GIVEN ROWS OF THIS SEAT. 14 by the template 'for every input the law returns true; each argument reads behind the call as it read before'; 0 by the template 'total and deterministic' (their statements: YtaiondckookpiaaGreatDoorTotals.lean).
  GIVEN WITH THE SEED: the statements are not yours to turn. If you find one false, say at which input.
  Laid BY PROGRAM, IN A SANDBOX (cutbox-rows.mjs): the forced cells as the released guide's own fill.sh prints them over the translation 4c271326a02fd143… (all of the seat's roots in one cut). By AI agents, Wed Nov 11 2026. No macro, syntax, notation, axiom, sorry.
-/
import Derived.Test.YtaiondckookpiaaGreatDoorChecked
import GoSem.PinnedTables
import GoSem.Claim
import GoSem.ClaimJoined
import GoSem.ClaimMapViews
import Derived.JoinedTies
import Derived.KernelRfl
namespace Go.Proofs.YtaiondckookpiaaGreatDoor
/- THE CELL 'sum', in the pinned program and in every row, IS THE sha256 OF THE DUMP (.gsa) THAT YtaiondckookpiaaGreatDoorProg.lean LOADS. Nothing in Lean hashes anything: it is a label: what it is worth is what the hold of that sum in a sandbox is worth. -/
noncomputable def Tryz.pinned : Pinned := { name := "ytaiondckookpiaagreatdoor", sum := "4c271326a02fd1432b1c5cbb4f7d7a2e985c5fcdc859ffe08dbba35028282160", checked := Tryz.checked }
namespace Rows
def none {H : Type} : Left H := { results := [], args := [] }

/- WHAT THE LISTED PACKAGE-LEVEL VARIABLES READ AS WHEN THE CALL BEGINS. Each datum BY PROGRAM (the guide's laid-datum.mjs) off the statement by which the dump's own 'gosem.cut.vars' lays the variable. In a bare row this is a premise. The card (YtaiondckookpiaaGreatDoorCards.lean) ties it to the program's text. -/
def laid_unicode_utf8_acceptRanges {H : Type} : DataW H := .agg [.agg [.lit (.int .u8 128), .lit (.int .u8 191)], .agg [.lit (.int .u8 160), .lit (.int .u8 191)], .agg [.lit (.int .u8 128), .lit (.int .u8 159)], .agg [.lit (.int .u8 144), .lit (.int .u8 191)], .agg [.lit (.int .u8 128), .lit (.int .u8 143)], .agg [.lit (.int .u8 0), .lit (.int .u8 0)], .agg [.lit (.int .u8 0), .lit (.int .u8 0)], .agg [.lit (.int .u8 0), .lit (.int .u8 0)], .agg [.lit (.int .u8 0), .lit (.int .u8 0)], .agg [.lit (.int .u8 0), .lit (.int .u8 0)], .agg [.lit (.int .u8 0), .lit (.int .u8 0)], .agg [.lit (.int .u8 0), .lit (.int .u8 0)], .agg [.lit (.int .u8 0), .lit (.int .u8 0)], .agg [.lit (.int .u8 0), .lit (.int .u8 0)], .agg [.lit (.int .u8 0), .lit (.int .u8 0)], .agg [.lit (.int .u8 0), .lit (.int .u8 0)]]
/-- One of Go's own tables, pinned by name: the form's constant. -/
def laid_unicode_utf8_first : DataW Unit := Go.Pinned.utf8First

/-- 'reachlaw2.SpaceJoins': WHATEVER THE INPUT: true; the input reads as it did. -/
def spaceJoinsSpec : ChangeSpec := { name := "spaceJoins", fn := fun _ => fun
  | [d1, d2, d3, d4] => { results := [.lit (.bool true)], args := [d1, d2, d3, d4] }
  | _ => none }
def spaceJoinsRow : OpenClaim := { program := "ytaiondckookpiaagreatdoor", sum := "4c271326a02fd1432b1c5cbb4f7d7a2e985c5fcdc859ffe08dbba35028282160", func := "reach/reachlaw2.SpaceJoins", spec := "spaceJoins", inPlace := ["internal/bytealg.CountString", "internal/bytealg.IndexByteString", "internal/bytealg.IndexString", "internal/reflectlite.ValueOf", "internal/reflectlite.Swapper", "(internal/reflectlite.Value).Len", "internal/abi.NoEscape"], unfollowed := true, recurses := true, named := ["unicode/utf8.first", "unicode/utf8.acceptRanges", "internal/bytealg.MaxLen"], apart := false, laid := [("unicode/utf8.acceptRanges", laid_unicode_utf8_acceptRanges), ("unicode/utf8.first", laid_unicode_utf8_first)] }
def SpaceJoinsSaid : Prop := spaceJoinsRow.holds Tryz.pinned (OpenSpec.ofChange spaceJoinsSpec)

/-- ITS FALSE NEIGHBOUR: 'it returns false'. Refute it at one input. -/
def spaceJoinsWrong : ChangeSpec := { name := "spaceJoins", fn := fun _ => fun
  | [d1, d2, d3, d4] => { results := [.lit (.bool false)], args := [d1, d2, d3, d4] }
  | _ => none }
def SpaceJoinsWrongFalsely : Prop := spaceJoinsRow.holds Tryz.pinned (OpenSpec.ofChange spaceJoinsWrong)

/-- 'reachlaw2.SpaceMeets': WHATEVER THE INPUT: true; the input reads as it did. -/
def spaceMeetsSpec : ChangeSpec := { name := "spaceMeets", fn := fun _ => fun
  | [d1, d2, d3, d4] => { results := [.lit (.bool true)], args := [d1, d2, d3, d4] }
  | _ => none }
def spaceMeetsRow : OpenClaim := { program := "ytaiondckookpiaagreatdoor", sum := "4c271326a02fd1432b1c5cbb4f7d7a2e985c5fcdc859ffe08dbba35028282160", func := "reach/reachlaw2.SpaceMeets", spec := "spaceMeets", inPlace := ["internal/bytealg.CountString", "internal/bytealg.IndexByteString", "internal/bytealg.IndexString", "internal/reflectlite.ValueOf", "internal/reflectlite.Swapper", "(internal/reflectlite.Value).Len", "internal/abi.NoEscape"], unfollowed := true, recurses := true, named := ["unicode/utf8.first", "unicode/utf8.acceptRanges", "internal/bytealg.MaxLen"], apart := false, laid := [("unicode/utf8.acceptRanges", laid_unicode_utf8_acceptRanges), ("unicode/utf8.first", laid_unicode_utf8_first)] }
def SpaceMeetsSaid : Prop := spaceMeetsRow.holds Tryz.pinned (OpenSpec.ofChange spaceMeetsSpec)

/-- ITS FALSE NEIGHBOUR: 'it returns false'. Refute it at one input. -/
def spaceMeetsWrong : ChangeSpec := { name := "spaceMeets", fn := fun _ => fun
  | [d1, d2, d3, d4] => { results := [.lit (.bool false)], args := [d1, d2, d3, d4] }
  | _ => none }
def SpaceMeetsWrongFalsely : Prop := spaceMeetsRow.holds Tryz.pinned (OpenSpec.ofChange spaceMeetsWrong)

/-- 'reachlaw2.SpaceHolds': WHATEVER THE INPUT: true; the input reads as it did. -/
def spaceHoldsSpec : ChangeSpec := { name := "spaceHolds", fn := fun _ => fun
  | [d1, d2, d3] => { results := [.lit (.bool true)], args := [d1, d2, d3] }
  | _ => none }
def spaceHoldsRow : OpenClaim := { program := "ytaiondckookpiaagreatdoor", sum := "4c271326a02fd1432b1c5cbb4f7d7a2e985c5fcdc859ffe08dbba35028282160", func := "reach/reachlaw2.SpaceHolds", spec := "spaceHolds", inPlace := ["internal/bytealg.CountString", "internal/bytealg.IndexByteString", "internal/bytealg.IndexString", "internal/reflectlite.ValueOf", "internal/reflectlite.Swapper", "(internal/reflectlite.Value).Len", "internal/abi.NoEscape"], unfollowed := true, recurses := true, named := ["unicode/utf8.first", "unicode/utf8.acceptRanges", "internal/bytealg.MaxLen"], apart := false, laid := [("unicode/utf8.acceptRanges", laid_unicode_utf8_acceptRanges), ("unicode/utf8.first", laid_unicode_utf8_first)] }
def SpaceHoldsSaid : Prop := spaceHoldsRow.holds Tryz.pinned (OpenSpec.ofChange spaceHoldsSpec)

/-- ITS FALSE NEIGHBOUR: 'it returns false'. Refute it at one input. -/
def spaceHoldsWrong : ChangeSpec := { name := "spaceHolds", fn := fun _ => fun
  | [d1, d2, d3] => { results := [.lit (.bool false)], args := [d1, d2, d3] }
  | _ => none }
def SpaceHoldsWrongFalsely : Prop := spaceHoldsRow.holds Tryz.pinned (OpenSpec.ofChange spaceHoldsWrong)

/-- 'reachlaw2.SpaceTakes': WHATEVER THE INPUT: true; the input reads as it did. -/
def spaceTakesSpec : ChangeSpec := { name := "spaceTakes", fn := fun _ => fun
  | [d1, d2, d3, d4] => { results := [.lit (.bool true)], args := [d1, d2, d3, d4] }
  | _ => none }
def spaceTakesRow : OpenClaim := { program := "ytaiondckookpiaagreatdoor", sum := "4c271326a02fd1432b1c5cbb4f7d7a2e985c5fcdc859ffe08dbba35028282160", func := "reach/reachlaw2.SpaceTakes", spec := "spaceTakes", inPlace := ["internal/bytealg.CountString", "internal/bytealg.IndexByteString", "internal/bytealg.IndexString", "internal/reflectlite.ValueOf", "internal/reflectlite.Swapper", "(internal/reflectlite.Value).Len", "internal/abi.NoEscape"], unfollowed := true, recurses := true, named := ["unicode/utf8.first", "unicode/utf8.acceptRanges", "internal/bytealg.MaxLen"], apart := false, laid := [("unicode/utf8.acceptRanges", laid_unicode_utf8_acceptRanges), ("unicode/utf8.first", laid_unicode_utf8_first)] }
def SpaceTakesSaid : Prop := spaceTakesRow.holds Tryz.pinned (OpenSpec.ofChange spaceTakesSpec)

/-- ITS FALSE NEIGHBOUR: 'it returns false'. Refute it at one input. -/
def spaceTakesWrong : ChangeSpec := { name := "spaceTakes", fn := fun _ => fun
  | [d1, d2, d3, d4] => { results := [.lit (.bool false)], args := [d1, d2, d3, d4] }
  | _ => none }
def SpaceTakesWrongFalsely : Prop := spaceTakesRow.holds Tryz.pinned (OpenSpec.ofChange spaceTakesWrong)

/-- 'reachlaw2.SpaceBefores': WHATEVER THE INPUT: true; the input reads as it did. -/
def spaceBeforesSpec : ChangeSpec := { name := "spaceBefores", fn := fun _ => fun
  | [d1, d2, d3] => { results := [.lit (.bool true)], args := [d1, d2, d3] }
  | _ => none }
def spaceBeforesRow : OpenClaim := { program := "ytaiondckookpiaagreatdoor", sum := "4c271326a02fd1432b1c5cbb4f7d7a2e985c5fcdc859ffe08dbba35028282160", func := "reach/reachlaw2.SpaceBefores", spec := "spaceBefores", inPlace := ["internal/bytealg.CountString", "internal/bytealg.IndexByteString", "internal/bytealg.IndexString", "internal/reflectlite.ValueOf", "internal/reflectlite.Swapper", "(internal/reflectlite.Value).Len", "internal/abi.NoEscape"], unfollowed := true, recurses := true, named := ["unicode/utf8.first", "unicode/utf8.acceptRanges", "internal/bytealg.MaxLen"], apart := false, laid := [("unicode/utf8.acceptRanges", laid_unicode_utf8_acceptRanges), ("unicode/utf8.first", laid_unicode_utf8_first)] }
def SpaceBeforesSaid : Prop := spaceBeforesRow.holds Tryz.pinned (OpenSpec.ofChange spaceBeforesSpec)

/-- ITS FALSE NEIGHBOUR: 'it returns false'. Refute it at one input. -/
def spaceBeforesWrong : ChangeSpec := { name := "spaceBefores", fn := fun _ => fun
  | [d1, d2, d3] => { results := [.lit (.bool false)], args := [d1, d2, d3] }
  | _ => none }
def SpaceBeforesWrongFalsely : Prop := spaceBeforesRow.holds Tryz.pinned (OpenSpec.ofChange spaceBeforesWrong)

/-- 'reachlaw2.SpaceWalks': WHATEVER THE INPUT: true; the input reads as it did. -/
def spaceWalksSpec : ChangeSpec := { name := "spaceWalks", fn := fun _ => fun
  | [d1, d2, d3, d4] => { results := [.lit (.bool true)], args := [d1, d2, d3, d4] }
  | _ => none }
def spaceWalksRow : OpenClaim := { program := "ytaiondckookpiaagreatdoor", sum := "4c271326a02fd1432b1c5cbb4f7d7a2e985c5fcdc859ffe08dbba35028282160", func := "reach/reachlaw2.SpaceWalks", spec := "spaceWalks", inPlace := ["internal/bytealg.CountString", "internal/bytealg.IndexByteString", "internal/bytealg.IndexString", "internal/reflectlite.ValueOf", "internal/reflectlite.Swapper", "(internal/reflectlite.Value).Len", "internal/abi.NoEscape"], unfollowed := true, recurses := true, named := ["unicode/utf8.first", "unicode/utf8.acceptRanges", "internal/bytealg.MaxLen"], apart := false, laid := [("unicode/utf8.acceptRanges", laid_unicode_utf8_acceptRanges), ("unicode/utf8.first", laid_unicode_utf8_first)] }
def SpaceWalksSaid : Prop := spaceWalksRow.holds Tryz.pinned (OpenSpec.ofChange spaceWalksSpec)

/-- ITS FALSE NEIGHBOUR: 'it returns false'. Refute it at one input. -/
def spaceWalksWrong : ChangeSpec := { name := "spaceWalks", fn := fun _ => fun
  | [d1, d2, d3, d4] => { results := [.lit (.bool false)], args := [d1, d2, d3, d4] }
  | _ => none }
def SpaceWalksWrongFalsely : Prop := spaceWalksRow.holds Tryz.pinned (OpenSpec.ofChange spaceWalksWrong)

/-- 'reachlaw2.SpaceExpands': WHATEVER THE INPUT: true; the input reads as it did. -/
def spaceExpandsSpec : ChangeSpec := { name := "spaceExpands", fn := fun _ => fun
  | [d1, d2, d3] => { results := [.lit (.bool true)], args := [d1, d2, d3] }
  | _ => none }
def spaceExpandsRow : OpenClaim := { program := "ytaiondckookpiaagreatdoor", sum := "4c271326a02fd1432b1c5cbb4f7d7a2e985c5fcdc859ffe08dbba35028282160", func := "reach/reachlaw2.SpaceExpands", spec := "spaceExpands", inPlace := ["internal/bytealg.CountString", "internal/bytealg.IndexByteString", "internal/bytealg.IndexString", "internal/reflectlite.ValueOf", "internal/reflectlite.Swapper", "(internal/reflectlite.Value).Len", "internal/abi.NoEscape"], unfollowed := true, recurses := true, named := ["unicode/utf8.first", "unicode/utf8.acceptRanges", "internal/bytealg.MaxLen"], apart := false, laid := [("unicode/utf8.acceptRanges", laid_unicode_utf8_acceptRanges), ("unicode/utf8.first", laid_unicode_utf8_first)] }
def SpaceExpandsSaid : Prop := spaceExpandsRow.holds Tryz.pinned (OpenSpec.ofChange spaceExpandsSpec)

/-- ITS FALSE NEIGHBOUR: 'it returns false'. Refute it at one input. -/
def spaceExpandsWrong : ChangeSpec := { name := "spaceExpands", fn := fun _ => fun
  | [d1, d2, d3] => { results := [.lit (.bool false)], args := [d1, d2, d3] }
  | _ => none }
def SpaceExpandsWrongFalsely : Prop := spaceExpandsRow.holds Tryz.pinned (OpenSpec.ofChange spaceExpandsWrong)

/-- 'reachlaw2.SpaceAfters': WHATEVER THE INPUT: true; the input reads as it did. -/
def spaceAftersSpec : ChangeSpec := { name := "spaceAfters", fn := fun _ => fun
  | [d1, d2, d3, d4] => { results := [.lit (.bool true)], args := [d1, d2, d3, d4] }
  | _ => none }
def spaceAftersRow : OpenClaim := { program := "ytaiondckookpiaagreatdoor", sum := "4c271326a02fd1432b1c5cbb4f7d7a2e985c5fcdc859ffe08dbba35028282160", func := "reach/reachlaw2.SpaceAfters", spec := "spaceAfters", inPlace := ["internal/bytealg.CountString", "internal/bytealg.IndexByteString", "internal/bytealg.IndexString", "internal/reflectlite.ValueOf", "internal/reflectlite.Swapper", "(internal/reflectlite.Value).Len", "internal/abi.NoEscape"], unfollowed := true, recurses := true, named := ["unicode/utf8.first", "unicode/utf8.acceptRanges", "internal/bytealg.MaxLen"], apart := false, laid := [("unicode/utf8.acceptRanges", laid_unicode_utf8_acceptRanges), ("unicode/utf8.first", laid_unicode_utf8_first)] }
def SpaceAftersSaid : Prop := spaceAftersRow.holds Tryz.pinned (OpenSpec.ofChange spaceAftersSpec)

/-- ITS FALSE NEIGHBOUR: 'it returns false'. Refute it at one input. -/
def spaceAftersWrong : ChangeSpec := { name := "spaceAfters", fn := fun _ => fun
  | [d1, d2, d3, d4] => { results := [.lit (.bool false)], args := [d1, d2, d3, d4] }
  | _ => none }
def SpaceAftersWrongFalsely : Prop := spaceAftersRow.holds Tryz.pinned (OpenSpec.ofChange spaceAftersWrong)

/-- 'reachlaw2.SpaceLeasts': WHATEVER THE INPUT: true; the input reads as it did. -/
def spaceLeastsSpec : ChangeSpec := { name := "spaceLeasts", fn := fun _ => fun
  | [d1, d2, d3] => { results := [.lit (.bool true)], args := [d1, d2, d3] }
  | _ => none }
def spaceLeastsRow : OpenClaim := { program := "ytaiondckookpiaagreatdoor", sum := "4c271326a02fd1432b1c5cbb4f7d7a2e985c5fcdc859ffe08dbba35028282160", func := "reach/reachlaw2.SpaceLeasts", spec := "spaceLeasts", inPlace := ["internal/bytealg.CountString", "internal/bytealg.IndexByteString", "internal/bytealg.IndexString", "internal/reflectlite.ValueOf", "internal/reflectlite.Swapper", "(internal/reflectlite.Value).Len", "internal/abi.NoEscape"], unfollowed := true, recurses := true, named := ["unicode/utf8.first", "unicode/utf8.acceptRanges", "internal/bytealg.MaxLen"], apart := false, laid := [("unicode/utf8.acceptRanges", laid_unicode_utf8_acceptRanges), ("unicode/utf8.first", laid_unicode_utf8_first)] }
def SpaceLeastsSaid : Prop := spaceLeastsRow.holds Tryz.pinned (OpenSpec.ofChange spaceLeastsSpec)

/-- ITS FALSE NEIGHBOUR: 'it returns false'. Refute it at one input. -/
def spaceLeastsWrong : ChangeSpec := { name := "spaceLeasts", fn := fun _ => fun
  | [d1, d2, d3] => { results := [.lit (.bool false)], args := [d1, d2, d3] }
  | _ => none }
def SpaceLeastsWrongFalsely : Prop := spaceLeastsRow.holds Tryz.pinned (OpenSpec.ofChange spaceLeastsWrong)

/-- 'reachlaw2.SpaceWithins': WHATEVER THE INPUT: true; the input reads as it did. -/
def spaceWithinsSpec : ChangeSpec := { name := "spaceWithins", fn := fun _ => fun
  | [d1, d2, d3, d4, d5] => { results := [.lit (.bool true)], args := [d1, d2, d3, d4, d5] }
  | _ => none }
def spaceWithinsRow : OpenClaim := { program := "ytaiondckookpiaagreatdoor", sum := "4c271326a02fd1432b1c5cbb4f7d7a2e985c5fcdc859ffe08dbba35028282160", func := "reach/reachlaw2.SpaceWithins", spec := "spaceWithins", inPlace := ["internal/bytealg.CountString", "internal/bytealg.IndexByteString", "internal/bytealg.IndexString", "internal/reflectlite.ValueOf", "internal/reflectlite.Swapper", "(internal/reflectlite.Value).Len", "internal/abi.NoEscape"], unfollowed := true, recurses := true, named := ["unicode/utf8.first", "unicode/utf8.acceptRanges", "internal/bytealg.MaxLen"], apart := false, laid := [("unicode/utf8.acceptRanges", laid_unicode_utf8_acceptRanges), ("unicode/utf8.first", laid_unicode_utf8_first)] }
def SpaceWithinsSaid : Prop := spaceWithinsRow.holds Tryz.pinned (OpenSpec.ofChange spaceWithinsSpec)

/-- ITS FALSE NEIGHBOUR: 'it returns false'. Refute it at one input. -/
def spaceWithinsWrong : ChangeSpec := { name := "spaceWithins", fn := fun _ => fun
  | [d1, d2, d3, d4, d5] => { results := [.lit (.bool false)], args := [d1, d2, d3, d4, d5] }
  | _ => none }
def SpaceWithinsWrongFalsely : Prop := spaceWithinsRow.holds Tryz.pinned (OpenSpec.ofChange spaceWithinsWrong)

/-- 'reachlaw2.SpaceWrites': WHATEVER THE INPUT: true; the input reads as it did. -/
def spaceWritesSpec : ChangeSpec := { name := "spaceWrites", fn := fun _ => fun
  | [d1, d2, d3, d4] => { results := [.lit (.bool true)], args := [d1, d2, d3, d4] }
  | _ => none }
def spaceWritesRow : OpenClaim := { program := "ytaiondckookpiaagreatdoor", sum := "4c271326a02fd1432b1c5cbb4f7d7a2e985c5fcdc859ffe08dbba35028282160", func := "reach/reachlaw2.SpaceWrites", spec := "spaceWrites", inPlace := ["internal/bytealg.CountString", "internal/bytealg.IndexByteString", "internal/bytealg.IndexString", "internal/reflectlite.ValueOf", "internal/reflectlite.Swapper", "(internal/reflectlite.Value).Len", "internal/abi.NoEscape"], unfollowed := true, recurses := true, named := ["unicode/utf8.first", "unicode/utf8.acceptRanges", "internal/bytealg.MaxLen"], apart := false, laid := [("unicode/utf8.acceptRanges", laid_unicode_utf8_acceptRanges), ("unicode/utf8.first", laid_unicode_utf8_first)] }
def SpaceWritesSaid : Prop := spaceWritesRow.holds Tryz.pinned (OpenSpec.ofChange spaceWritesSpec)

/-- ITS FALSE NEIGHBOUR: 'it returns false'. Refute it at one input. -/
def spaceWritesWrong : ChangeSpec := { name := "spaceWrites", fn := fun _ => fun
  | [d1, d2, d3, d4] => { results := [.lit (.bool false)], args := [d1, d2, d3, d4] }
  | _ => none }
def SpaceWritesWrongFalsely : Prop := spaceWritesRow.holds Tryz.pinned (OpenSpec.ofChange spaceWritesWrong)

/-- 'reachlaw2.SpaceInside': WHATEVER THE INPUT: true; the input reads as it did. -/
def spaceInsideSpec : ChangeSpec := { name := "spaceInside", fn := fun _ => fun
  | [d1, d2, d3, d4] => { results := [.lit (.bool true)], args := [d1, d2, d3, d4] }
  | _ => none }
def spaceInsideRow : OpenClaim := { program := "ytaiondckookpiaagreatdoor", sum := "4c271326a02fd1432b1c5cbb4f7d7a2e985c5fcdc859ffe08dbba35028282160", func := "reach/reachlaw2.SpaceInside", spec := "spaceInside", inPlace := ["internal/bytealg.CountString", "internal/bytealg.IndexByteString", "internal/bytealg.IndexString", "internal/reflectlite.ValueOf", "internal/reflectlite.Swapper", "(internal/reflectlite.Value).Len", "internal/abi.NoEscape"], unfollowed := true, recurses := true, named := ["unicode/utf8.first", "unicode/utf8.acceptRanges", "internal/bytealg.MaxLen"], apart := false, laid := [("unicode/utf8.acceptRanges", laid_unicode_utf8_acceptRanges), ("unicode/utf8.first", laid_unicode_utf8_first)] }
def SpaceInsideSaid : Prop := spaceInsideRow.holds Tryz.pinned (OpenSpec.ofChange spaceInsideSpec)

/-- ITS FALSE NEIGHBOUR: 'it returns false'. Refute it at one input. -/
def spaceInsideWrong : ChangeSpec := { name := "spaceInside", fn := fun _ => fun
  | [d1, d2, d3, d4] => { results := [.lit (.bool false)], args := [d1, d2, d3, d4] }
  | _ => none }
def SpaceInsideWrongFalsely : Prop := spaceInsideRow.holds Tryz.pinned (OpenSpec.ofChange spaceInsideWrong)

/-- 'reachlaw2.SpacePlays': WHATEVER THE INPUT: true; the input reads as it did. -/
def spacePlaysSpec : ChangeSpec := { name := "spacePlays", fn := fun _ => fun
  | [d] => { results := [.lit (.bool true)], args := [d] }
  | _ => none }
def spacePlaysRow : OpenClaim := { program := "ytaiondckookpiaagreatdoor", sum := "4c271326a02fd1432b1c5cbb4f7d7a2e985c5fcdc859ffe08dbba35028282160", func := "reach/reachlaw2.SpacePlays", spec := "spacePlays", inPlace := ["internal/abi.NoEscape", "internal/reflectlite.ValueOf", "internal/reflectlite.Swapper", "(internal/reflectlite.Value).Len", "internal/bytealg.CountString", "internal/bytealg.IndexByteString", "internal/bytealg.IndexString"], unfollowed := true, recurses := true, named := ["unicode/utf8.first", "unicode/utf8.acceptRanges", "internal/bytealg.MaxLen"], apart := false, laid := [("unicode/utf8.acceptRanges", laid_unicode_utf8_acceptRanges), ("unicode/utf8.first", laid_unicode_utf8_first)] }
def SpacePlaysSaid : Prop := spacePlaysRow.holds Tryz.pinned (OpenSpec.ofChange spacePlaysSpec)

/-- ITS FALSE NEIGHBOUR: 'it returns false'. Refute it at one input. -/
def spacePlaysWrong : ChangeSpec := { name := "spacePlays", fn := fun _ => fun
  | [d] => { results := [.lit (.bool false)], args := [d] }
  | _ => none }
def SpacePlaysWrongFalsely : Prop := spacePlaysRow.holds Tryz.pinned (OpenSpec.ofChange spacePlaysWrong)

/-- 'reachlaw2.SpaceEdges': WHATEVER THE INPUT: true; the input reads as it did. -/
def spaceEdgesSpec : ChangeSpec := { name := "spaceEdges", fn := fun _ => fun
  | [] => { results := [.lit (.bool true)], args := [] }
  | _ => none }
def spaceEdgesRow : OpenClaim := { program := "ytaiondckookpiaagreatdoor", sum := "4c271326a02fd1432b1c5cbb4f7d7a2e985c5fcdc859ffe08dbba35028282160", func := "reach/reachlaw2.SpaceEdges", spec := "spaceEdges", inPlace := ["internal/bytealg.CountString", "internal/bytealg.IndexByteString", "internal/bytealg.IndexString", "internal/reflectlite.ValueOf", "internal/reflectlite.Swapper", "(internal/reflectlite.Value).Len", "internal/abi.NoEscape"], unfollowed := true, recurses := true, named := ["unicode/utf8.first", "unicode/utf8.acceptRanges", "internal/bytealg.MaxLen"], apart := false, laid := [("unicode/utf8.acceptRanges", laid_unicode_utf8_acceptRanges), ("unicode/utf8.first", laid_unicode_utf8_first)] }
def SpaceEdgesSaid : Prop := spaceEdgesRow.holds Tryz.pinned (OpenSpec.ofChange spaceEdgesSpec)

/-- ITS FALSE NEIGHBOUR: 'it returns false'. Refute it at one input. -/
def spaceEdgesWrong : ChangeSpec := { name := "spaceEdges", fn := fun _ => fun
  | [] => { results := [.lit (.bool false)], args := [] }
  | _ => none }
def SpaceEdgesWrongFalsely : Prop := spaceEdgesRow.holds Tryz.pinned (OpenSpec.ofChange spaceEdgesWrong)

/- THE SECOND FORM. 'bulk': how many values and letters a reading holds, each counted each time it is reached (what is shared counts as often as it is met; a slice's spare places count too). A statement '..UptoSaid' is the law's where the arguments, and the package variables that the reading takes, are together of bulk at most 1048576: NARROWER than '..Said'. Prove '..Said' where nothing that the law and all that it calls make is longer than what came in: it says more and counts as full. Else prove '..UptoSaid'. A law counts once. -/
mutual
def uptoBulk {H : Type} : DataW H → Nat
  | .lit (.string bytes) => bytes.length + 1
  | .lit _ => 1
  | .nil => 1
  | .ptr d => uptoBulk d + 1
  | .slice elems spare => uptoBulkAll elems + uptoBulkAll spare + 1
  | .agg parts => uptoBulkAll parts + 1
  | .iface _ d => uptoBulk d + 1
  | .map entries => uptoBulkEntries entries + 1
  | .held _ => 1
def uptoBulkAll {H : Type} : List (DataW H) → Nat
  | [] => 0
  | d :: r => uptoBulk d + uptoBulkAll r
def uptoBulkEntries {H : Type} : List (Lit × DataW H) → Nat
  | [] => 0
  | x :: r => uptoBulkEntry x + uptoBulkEntries r
def uptoBulkEntry {H : Type} : Lit × DataW H → Nat
  | (.string bytes, d) => bytes.length + uptoBulk d + 1
  | (_, d) => uptoBulk d + 1
 end
def uptoSmall : (H : Type) → List (DataW H) → Bool := fun _ ds => decide (uptoBulkAll ds ≤ 1048576)
def OpenSpec.upto (s : _root_.Go.ChangeSpec) : _root_.Go.OpenSpec := { _root_.Go.OpenSpec.ofChange s with cond := some uptoSmall }

/-- 'reachlaw2.SpaceJoins', WHERE WHAT IT READS IS OF BULK AT MOST 1048576: true; the input reads as it did. -/
def spaceJoinsUptoRow : OpenClaim := { program := "ytaiondckookpiaagreatdoor", sum := "4c271326a02fd1432b1c5cbb4f7d7a2e985c5fcdc859ffe08dbba35028282160", func := "reach/reachlaw2.SpaceJoins", spec := "spaceJoins", inPlace := ["internal/bytealg.CountString", "internal/bytealg.IndexByteString", "internal/bytealg.IndexString", "internal/reflectlite.ValueOf", "internal/reflectlite.Swapper", "(internal/reflectlite.Value).Len", "internal/abi.NoEscape"], unfollowed := true, recurses := true, named := ["unicode/utf8.first", "unicode/utf8.acceptRanges", "internal/bytealg.MaxLen"], apart := false, laid := [("unicode/utf8.acceptRanges", laid_unicode_utf8_acceptRanges), ("unicode/utf8.first", laid_unicode_utf8_first)], narrowed := true }
def SpaceJoinsUptoSaid : Prop := spaceJoinsUptoRow.holds Tryz.pinned (OpenSpec.upto spaceJoinsSpec)

/-- 'reachlaw2.SpaceMeets', WHERE WHAT IT READS IS OF BULK AT MOST 1048576: true; the input reads as it did. -/
def spaceMeetsUptoRow : OpenClaim := { program := "ytaiondckookpiaagreatdoor", sum := "4c271326a02fd1432b1c5cbb4f7d7a2e985c5fcdc859ffe08dbba35028282160", func := "reach/reachlaw2.SpaceMeets", spec := "spaceMeets", inPlace := ["internal/bytealg.CountString", "internal/bytealg.IndexByteString", "internal/bytealg.IndexString", "internal/reflectlite.ValueOf", "internal/reflectlite.Swapper", "(internal/reflectlite.Value).Len", "internal/abi.NoEscape"], unfollowed := true, recurses := true, named := ["unicode/utf8.first", "unicode/utf8.acceptRanges", "internal/bytealg.MaxLen"], apart := false, laid := [("unicode/utf8.acceptRanges", laid_unicode_utf8_acceptRanges), ("unicode/utf8.first", laid_unicode_utf8_first)], narrowed := true }
def SpaceMeetsUptoSaid : Prop := spaceMeetsUptoRow.holds Tryz.pinned (OpenSpec.upto spaceMeetsSpec)

/-- 'reachlaw2.SpaceHolds', WHERE WHAT IT READS IS OF BULK AT MOST 1048576: true; the input reads as it did. -/
def spaceHoldsUptoRow : OpenClaim := { program := "ytaiondckookpiaagreatdoor", sum := "4c271326a02fd1432b1c5cbb4f7d7a2e985c5fcdc859ffe08dbba35028282160", func := "reach/reachlaw2.SpaceHolds", spec := "spaceHolds", inPlace := ["internal/bytealg.CountString", "internal/bytealg.IndexByteString", "internal/bytealg.IndexString", "internal/reflectlite.ValueOf", "internal/reflectlite.Swapper", "(internal/reflectlite.Value).Len", "internal/abi.NoEscape"], unfollowed := true, recurses := true, named := ["unicode/utf8.first", "unicode/utf8.acceptRanges", "internal/bytealg.MaxLen"], apart := false, laid := [("unicode/utf8.acceptRanges", laid_unicode_utf8_acceptRanges), ("unicode/utf8.first", laid_unicode_utf8_first)], narrowed := true }
def SpaceHoldsUptoSaid : Prop := spaceHoldsUptoRow.holds Tryz.pinned (OpenSpec.upto spaceHoldsSpec)

/-- 'reachlaw2.SpaceTakes', WHERE WHAT IT READS IS OF BULK AT MOST 1048576: true; the input reads as it did. -/
def spaceTakesUptoRow : OpenClaim := { program := "ytaiondckookpiaagreatdoor", sum := "4c271326a02fd1432b1c5cbb4f7d7a2e985c5fcdc859ffe08dbba35028282160", func := "reach/reachlaw2.SpaceTakes", spec := "spaceTakes", inPlace := ["internal/bytealg.CountString", "internal/bytealg.IndexByteString", "internal/bytealg.IndexString", "internal/reflectlite.ValueOf", "internal/reflectlite.Swapper", "(internal/reflectlite.Value).Len", "internal/abi.NoEscape"], unfollowed := true, recurses := true, named := ["unicode/utf8.first", "unicode/utf8.acceptRanges", "internal/bytealg.MaxLen"], apart := false, laid := [("unicode/utf8.acceptRanges", laid_unicode_utf8_acceptRanges), ("unicode/utf8.first", laid_unicode_utf8_first)], narrowed := true }
def SpaceTakesUptoSaid : Prop := spaceTakesUptoRow.holds Tryz.pinned (OpenSpec.upto spaceTakesSpec)

/-- 'reachlaw2.SpaceBefores', WHERE WHAT IT READS IS OF BULK AT MOST 1048576: true; the input reads as it did. -/
def spaceBeforesUptoRow : OpenClaim := { program := "ytaiondckookpiaagreatdoor", sum := "4c271326a02fd1432b1c5cbb4f7d7a2e985c5fcdc859ffe08dbba35028282160", func := "reach/reachlaw2.SpaceBefores", spec := "spaceBefores", inPlace := ["internal/bytealg.CountString", "internal/bytealg.IndexByteString", "internal/bytealg.IndexString", "internal/reflectlite.ValueOf", "internal/reflectlite.Swapper", "(internal/reflectlite.Value).Len", "internal/abi.NoEscape"], unfollowed := true, recurses := true, named := ["unicode/utf8.first", "unicode/utf8.acceptRanges", "internal/bytealg.MaxLen"], apart := false, laid := [("unicode/utf8.acceptRanges", laid_unicode_utf8_acceptRanges), ("unicode/utf8.first", laid_unicode_utf8_first)], narrowed := true }
def SpaceBeforesUptoSaid : Prop := spaceBeforesUptoRow.holds Tryz.pinned (OpenSpec.upto spaceBeforesSpec)

/-- 'reachlaw2.SpaceWalks', WHERE WHAT IT READS IS OF BULK AT MOST 1048576: true; the input reads as it did. -/
def spaceWalksUptoRow : OpenClaim := { program := "ytaiondckookpiaagreatdoor", sum := "4c271326a02fd1432b1c5cbb4f7d7a2e985c5fcdc859ffe08dbba35028282160", func := "reach/reachlaw2.SpaceWalks", spec := "spaceWalks", inPlace := ["internal/bytealg.CountString", "internal/bytealg.IndexByteString", "internal/bytealg.IndexString", "internal/reflectlite.ValueOf", "internal/reflectlite.Swapper", "(internal/reflectlite.Value).Len", "internal/abi.NoEscape"], unfollowed := true, recurses := true, named := ["unicode/utf8.first", "unicode/utf8.acceptRanges", "internal/bytealg.MaxLen"], apart := false, laid := [("unicode/utf8.acceptRanges", laid_unicode_utf8_acceptRanges), ("unicode/utf8.first", laid_unicode_utf8_first)], narrowed := true }
def SpaceWalksUptoSaid : Prop := spaceWalksUptoRow.holds Tryz.pinned (OpenSpec.upto spaceWalksSpec)

/-- 'reachlaw2.SpaceExpands', WHERE WHAT IT READS IS OF BULK AT MOST 1048576: true; the input reads as it did. -/
def spaceExpandsUptoRow : OpenClaim := { program := "ytaiondckookpiaagreatdoor", sum := "4c271326a02fd1432b1c5cbb4f7d7a2e985c5fcdc859ffe08dbba35028282160", func := "reach/reachlaw2.SpaceExpands", spec := "spaceExpands", inPlace := ["internal/bytealg.CountString", "internal/bytealg.IndexByteString", "internal/bytealg.IndexString", "internal/reflectlite.ValueOf", "internal/reflectlite.Swapper", "(internal/reflectlite.Value).Len", "internal/abi.NoEscape"], unfollowed := true, recurses := true, named := ["unicode/utf8.first", "unicode/utf8.acceptRanges", "internal/bytealg.MaxLen"], apart := false, laid := [("unicode/utf8.acceptRanges", laid_unicode_utf8_acceptRanges), ("unicode/utf8.first", laid_unicode_utf8_first)], narrowed := true }
def SpaceExpandsUptoSaid : Prop := spaceExpandsUptoRow.holds Tryz.pinned (OpenSpec.upto spaceExpandsSpec)

/-- 'reachlaw2.SpaceAfters', WHERE WHAT IT READS IS OF BULK AT MOST 1048576: true; the input reads as it did. -/
def spaceAftersUptoRow : OpenClaim := { program := "ytaiondckookpiaagreatdoor", sum := "4c271326a02fd1432b1c5cbb4f7d7a2e985c5fcdc859ffe08dbba35028282160", func := "reach/reachlaw2.SpaceAfters", spec := "spaceAfters", inPlace := ["internal/bytealg.CountString", "internal/bytealg.IndexByteString", "internal/bytealg.IndexString", "internal/reflectlite.ValueOf", "internal/reflectlite.Swapper", "(internal/reflectlite.Value).Len", "internal/abi.NoEscape"], unfollowed := true, recurses := true, named := ["unicode/utf8.first", "unicode/utf8.acceptRanges", "internal/bytealg.MaxLen"], apart := false, laid := [("unicode/utf8.acceptRanges", laid_unicode_utf8_acceptRanges), ("unicode/utf8.first", laid_unicode_utf8_first)], narrowed := true }
def SpaceAftersUptoSaid : Prop := spaceAftersUptoRow.holds Tryz.pinned (OpenSpec.upto spaceAftersSpec)

/-- 'reachlaw2.SpaceLeasts', WHERE WHAT IT READS IS OF BULK AT MOST 1048576: true; the input reads as it did. -/
def spaceLeastsUptoRow : OpenClaim := { program := "ytaiondckookpiaagreatdoor", sum := "4c271326a02fd1432b1c5cbb4f7d7a2e985c5fcdc859ffe08dbba35028282160", func := "reach/reachlaw2.SpaceLeasts", spec := "spaceLeasts", inPlace := ["internal/bytealg.CountString", "internal/bytealg.IndexByteString", "internal/bytealg.IndexString", "internal/reflectlite.ValueOf", "internal/reflectlite.Swapper", "(internal/reflectlite.Value).Len", "internal/abi.NoEscape"], unfollowed := true, recurses := true, named := ["unicode/utf8.first", "unicode/utf8.acceptRanges", "internal/bytealg.MaxLen"], apart := false, laid := [("unicode/utf8.acceptRanges", laid_unicode_utf8_acceptRanges), ("unicode/utf8.first", laid_unicode_utf8_first)], narrowed := true }
def SpaceLeastsUptoSaid : Prop := spaceLeastsUptoRow.holds Tryz.pinned (OpenSpec.upto spaceLeastsSpec)

/-- 'reachlaw2.SpaceWithins', WHERE WHAT IT READS IS OF BULK AT MOST 1048576: true; the input reads as it did. -/
def spaceWithinsUptoRow : OpenClaim := { program := "ytaiondckookpiaagreatdoor", sum := "4c271326a02fd1432b1c5cbb4f7d7a2e985c5fcdc859ffe08dbba35028282160", func := "reach/reachlaw2.SpaceWithins", spec := "spaceWithins", inPlace := ["internal/bytealg.CountString", "internal/bytealg.IndexByteString", "internal/bytealg.IndexString", "internal/reflectlite.ValueOf", "internal/reflectlite.Swapper", "(internal/reflectlite.Value).Len", "internal/abi.NoEscape"], unfollowed := true, recurses := true, named := ["unicode/utf8.first", "unicode/utf8.acceptRanges", "internal/bytealg.MaxLen"], apart := false, laid := [("unicode/utf8.acceptRanges", laid_unicode_utf8_acceptRanges), ("unicode/utf8.first", laid_unicode_utf8_first)], narrowed := true }
def SpaceWithinsUptoSaid : Prop := spaceWithinsUptoRow.holds Tryz.pinned (OpenSpec.upto spaceWithinsSpec)

/-- 'reachlaw2.SpaceWrites', WHERE WHAT IT READS IS OF BULK AT MOST 1048576: true; the input reads as it did. -/
def spaceWritesUptoRow : OpenClaim := { program := "ytaiondckookpiaagreatdoor", sum := "4c271326a02fd1432b1c5cbb4f7d7a2e985c5fcdc859ffe08dbba35028282160", func := "reach/reachlaw2.SpaceWrites", spec := "spaceWrites", inPlace := ["internal/bytealg.CountString", "internal/bytealg.IndexByteString", "internal/bytealg.IndexString", "internal/reflectlite.ValueOf", "internal/reflectlite.Swapper", "(internal/reflectlite.Value).Len", "internal/abi.NoEscape"], unfollowed := true, recurses := true, named := ["unicode/utf8.first", "unicode/utf8.acceptRanges", "internal/bytealg.MaxLen"], apart := false, laid := [("unicode/utf8.acceptRanges", laid_unicode_utf8_acceptRanges), ("unicode/utf8.first", laid_unicode_utf8_first)], narrowed := true }
def SpaceWritesUptoSaid : Prop := spaceWritesUptoRow.holds Tryz.pinned (OpenSpec.upto spaceWritesSpec)

/-- 'reachlaw2.SpaceInside', WHERE WHAT IT READS IS OF BULK AT MOST 1048576: true; the input reads as it did. -/
def spaceInsideUptoRow : OpenClaim := { program := "ytaiondckookpiaagreatdoor", sum := "4c271326a02fd1432b1c5cbb4f7d7a2e985c5fcdc859ffe08dbba35028282160", func := "reach/reachlaw2.SpaceInside", spec := "spaceInside", inPlace := ["internal/bytealg.CountString", "internal/bytealg.IndexByteString", "internal/bytealg.IndexString", "internal/reflectlite.ValueOf", "internal/reflectlite.Swapper", "(internal/reflectlite.Value).Len", "internal/abi.NoEscape"], unfollowed := true, recurses := true, named := ["unicode/utf8.first", "unicode/utf8.acceptRanges", "internal/bytealg.MaxLen"], apart := false, laid := [("unicode/utf8.acceptRanges", laid_unicode_utf8_acceptRanges), ("unicode/utf8.first", laid_unicode_utf8_first)], narrowed := true }
def SpaceInsideUptoSaid : Prop := spaceInsideUptoRow.holds Tryz.pinned (OpenSpec.upto spaceInsideSpec)

/-- 'reachlaw2.SpacePlays', WHERE WHAT IT READS IS OF BULK AT MOST 1048576: true; the input reads as it did. -/
def spacePlaysUptoRow : OpenClaim := { program := "ytaiondckookpiaagreatdoor", sum := "4c271326a02fd1432b1c5cbb4f7d7a2e985c5fcdc859ffe08dbba35028282160", func := "reach/reachlaw2.SpacePlays", spec := "spacePlays", inPlace := ["internal/abi.NoEscape", "internal/reflectlite.ValueOf", "internal/reflectlite.Swapper", "(internal/reflectlite.Value).Len", "internal/bytealg.CountString", "internal/bytealg.IndexByteString", "internal/bytealg.IndexString"], unfollowed := true, recurses := true, named := ["unicode/utf8.first", "unicode/utf8.acceptRanges", "internal/bytealg.MaxLen"], apart := false, laid := [("unicode/utf8.acceptRanges", laid_unicode_utf8_acceptRanges), ("unicode/utf8.first", laid_unicode_utf8_first)], narrowed := true }
def SpacePlaysUptoSaid : Prop := spacePlaysUptoRow.holds Tryz.pinned (OpenSpec.upto spacePlaysSpec)

/-- 'reachlaw2.SpaceEdges', WHERE WHAT IT READS IS OF BULK AT MOST 1048576: true; the input reads as it did. -/
def spaceEdgesUptoRow : OpenClaim := { program := "ytaiondckookpiaagreatdoor", sum := "4c271326a02fd1432b1c5cbb4f7d7a2e985c5fcdc859ffe08dbba35028282160", func := "reach/reachlaw2.SpaceEdges", spec := "spaceEdges", inPlace := ["internal/bytealg.CountString", "internal/bytealg.IndexByteString", "internal/bytealg.IndexString", "internal/reflectlite.ValueOf", "internal/reflectlite.Swapper", "(internal/reflectlite.Value).Len", "internal/abi.NoEscape"], unfollowed := true, recurses := true, named := ["unicode/utf8.first", "unicode/utf8.acceptRanges", "internal/bytealg.MaxLen"], apart := false, laid := [("unicode/utf8.acceptRanges", laid_unicode_utf8_acceptRanges), ("unicode/utf8.first", laid_unicode_utf8_first)], narrowed := true }
def SpaceEdgesUptoSaid : Prop := spaceEdgesUptoRow.holds Tryz.pinned (OpenSpec.upto spaceEdgesSpec)

end Rows
end Go.Proofs.YtaiondckookpiaaGreatDoor
