/-
  NARROWER THAN 'FOR EVERY INPUT', by the rows' own cells (each row's printed sentence says how): SpaceForms: laid · SpaceSaid: laid · SpaceLattice: laid · SpaceKeeps: laid · SpaceMeans: laid · SpaceSpread: laid.
  DERIVED. THE GIVEN ROWS OF THIS SEAT. 6 by the template 'for every input the law returns true; each argument reads behind the call as it read before'; 0 by the template 'total and deterministic' (their statements: YtaiondckookpiaaDoorTotals.lean).
  GIVEN WITH THE SEED: the statements are not yours to turn. If you find one false, say at which input.
  Laid BY PROGRAM, IN A SANDBOX (cutbox-rows.mjs): the forced cells as the released guide's own fill.sh prints them over the translation f9a785ee535f5e65… (all of the seat's roots in one cut). By AI agents, Wed Nov 11 2026. No macro, syntax, notation, axiom, sorry.
-/
import Derived.Test.YtaiondckookpiaaDoorChecked
import GoSem.PinnedTables
import GoSem.Claim
import GoSem.ClaimJoined
import GoSem.ClaimMapViews
import Derived.JoinedTies
import Derived.KernelRfl
namespace Go.Proofs.YtaiondckookpiaaDoor
/- THE CELL 'sum', in the pinned program and in every row, IS THE sha256 OF THE DUMP (.gsa) THAT YtaiondckookpiaaDoorProg.lean LOADS. Nothing in Lean hashes anything: it is a label: what it is worth is what the hold of that sum in a sandbox is worth. -/
noncomputable def Tryd.pinned : Pinned := { name := "ytaiondckookpiaadoor", sum := "f9a785ee535f5e650e97ff95742bd68e91098ce14f87626bf5507404a564cd85", checked := Tryd.checked }
namespace Rows
def none {H : Type} : Left H := { results := [], args := [] }

/- WHAT THE LISTED PACKAGE-LEVEL VARIABLES READ AS WHEN THE CALL BEGINS. Each datum BY PROGRAM (the guide's laid-datum.mjs) off the statement by which the dump's own 'gosem.cut.vars' lays the variable. In a bare row this is a premise. The card (YtaiondckookpiaaDoorCards.lean) ties it to the program's text. -/
def laid_unicode_utf8_acceptRanges {H : Type} : DataW H := .agg [.agg [.lit (.int .u8 128), .lit (.int .u8 191)], .agg [.lit (.int .u8 160), .lit (.int .u8 191)], .agg [.lit (.int .u8 128), .lit (.int .u8 159)], .agg [.lit (.int .u8 144), .lit (.int .u8 191)], .agg [.lit (.int .u8 128), .lit (.int .u8 143)], .agg [.lit (.int .u8 0), .lit (.int .u8 0)], .agg [.lit (.int .u8 0), .lit (.int .u8 0)], .agg [.lit (.int .u8 0), .lit (.int .u8 0)], .agg [.lit (.int .u8 0), .lit (.int .u8 0)], .agg [.lit (.int .u8 0), .lit (.int .u8 0)], .agg [.lit (.int .u8 0), .lit (.int .u8 0)], .agg [.lit (.int .u8 0), .lit (.int .u8 0)], .agg [.lit (.int .u8 0), .lit (.int .u8 0)], .agg [.lit (.int .u8 0), .lit (.int .u8 0)], .agg [.lit (.int .u8 0), .lit (.int .u8 0)], .agg [.lit (.int .u8 0), .lit (.int .u8 0)]]
/-- One of Go's own tables, pinned by name: the form's constant. -/
def laid_unicode_utf8_first : DataW Unit := Go.Pinned.utf8First

/-- 'reachlaw2.SpaceForms': WHATEVER THE INPUT: true; the input reads as it did. -/
def spaceFormsSpec : ChangeSpec := { name := "spaceForms", fn := fun _ => fun
  | [d1, d2] => { results := [.lit (.bool true)], args := [d1, d2] }
  | _ => none }
def spaceFormsRow : OpenClaim := { program := "ytaiondckookpiaadoor", sum := "f9a785ee535f5e650e97ff95742bd68e91098ce14f87626bf5507404a564cd85", func := "reach/reachlaw2.SpaceForms", spec := "spaceForms", inPlace := ["internal/bytealg.CountString", "internal/bytealg.IndexByteString", "internal/bytealg.IndexString", "internal/reflectlite.ValueOf", "internal/reflectlite.Swapper", "(internal/reflectlite.Value).Len", "internal/abi.NoEscape"], unfollowed := true, recurses := true, named := ["unicode/utf8.first", "unicode/utf8.acceptRanges", "internal/bytealg.MaxLen"], apart := false, laid := [("unicode/utf8.acceptRanges", laid_unicode_utf8_acceptRanges), ("unicode/utf8.first", laid_unicode_utf8_first)] }
def SpaceFormsSaid : Prop := spaceFormsRow.holds Tryd.pinned (OpenSpec.ofChange spaceFormsSpec)

/-- ITS FALSE NEIGHBOUR: 'it returns false'. Refute it at one input. -/
def spaceFormsWrong : ChangeSpec := { name := "spaceForms", fn := fun _ => fun
  | [d1, d2] => { results := [.lit (.bool false)], args := [d1, d2] }
  | _ => none }
def SpaceFormsWrongFalsely : Prop := spaceFormsRow.holds Tryd.pinned (OpenSpec.ofChange spaceFormsWrong)

/-- 'reachlaw2.SpaceSaid': WHATEVER THE INPUT: true; the input reads as it did. -/
def spaceSaidSpec : ChangeSpec := { name := "spaceSaid", fn := fun _ => fun
  | [d1, d2, d3] => { results := [.lit (.bool true)], args := [d1, d2, d3] }
  | _ => none }
def spaceSaidRow : OpenClaim := { program := "ytaiondckookpiaadoor", sum := "f9a785ee535f5e650e97ff95742bd68e91098ce14f87626bf5507404a564cd85", func := "reach/reachlaw2.SpaceSaid", spec := "spaceSaid", inPlace := ["internal/bytealg.CountString", "internal/bytealg.IndexByteString", "internal/bytealg.IndexString", "internal/reflectlite.ValueOf", "internal/reflectlite.Swapper", "(internal/reflectlite.Value).Len", "internal/abi.NoEscape"], unfollowed := true, recurses := true, named := ["unicode/utf8.first", "unicode/utf8.acceptRanges", "internal/bytealg.MaxLen"], apart := false, laid := [("unicode/utf8.acceptRanges", laid_unicode_utf8_acceptRanges), ("unicode/utf8.first", laid_unicode_utf8_first)] }
def SpaceSaidSaid : Prop := spaceSaidRow.holds Tryd.pinned (OpenSpec.ofChange spaceSaidSpec)

/-- ITS FALSE NEIGHBOUR: 'it returns false'. Refute it at one input. -/
def spaceSaidWrong : ChangeSpec := { name := "spaceSaid", fn := fun _ => fun
  | [d1, d2, d3] => { results := [.lit (.bool false)], args := [d1, d2, d3] }
  | _ => none }
def SpaceSaidWrongFalsely : Prop := spaceSaidRow.holds Tryd.pinned (OpenSpec.ofChange spaceSaidWrong)

/-- 'reachlaw2.SpaceLattice': WHATEVER THE INPUT: true; the input reads as it did. -/
def spaceLatticeSpec : ChangeSpec := { name := "spaceLattice", fn := fun _ => fun
  | [d1, d2, d3, d4] => { results := [.lit (.bool true)], args := [d1, d2, d3, d4] }
  | _ => none }
def spaceLatticeRow : OpenClaim := { program := "ytaiondckookpiaadoor", sum := "f9a785ee535f5e650e97ff95742bd68e91098ce14f87626bf5507404a564cd85", func := "reach/reachlaw2.SpaceLattice", spec := "spaceLattice", inPlace := ["internal/bytealg.CountString", "internal/bytealg.IndexByteString", "internal/bytealg.IndexString", "internal/reflectlite.ValueOf", "internal/reflectlite.Swapper", "(internal/reflectlite.Value).Len", "internal/abi.NoEscape"], unfollowed := true, recurses := true, named := ["unicode/utf8.first", "unicode/utf8.acceptRanges", "internal/bytealg.MaxLen"], apart := false, laid := [("unicode/utf8.acceptRanges", laid_unicode_utf8_acceptRanges), ("unicode/utf8.first", laid_unicode_utf8_first)] }
def SpaceLatticeSaid : Prop := spaceLatticeRow.holds Tryd.pinned (OpenSpec.ofChange spaceLatticeSpec)

/-- ITS FALSE NEIGHBOUR: 'it returns false'. Refute it at one input. -/
def spaceLatticeWrong : ChangeSpec := { name := "spaceLattice", fn := fun _ => fun
  | [d1, d2, d3, d4] => { results := [.lit (.bool false)], args := [d1, d2, d3, d4] }
  | _ => none }
def SpaceLatticeWrongFalsely : Prop := spaceLatticeRow.holds Tryd.pinned (OpenSpec.ofChange spaceLatticeWrong)

/-- 'reachlaw2.SpaceKeeps': WHATEVER THE INPUT: true; the input reads as it did. -/
def spaceKeepsSpec : ChangeSpec := { name := "spaceKeeps", fn := fun _ => fun
  | [d1, d2, d3] => { results := [.lit (.bool true)], args := [d1, d2, d3] }
  | _ => none }
def spaceKeepsRow : OpenClaim := { program := "ytaiondckookpiaadoor", sum := "f9a785ee535f5e650e97ff95742bd68e91098ce14f87626bf5507404a564cd85", func := "reach/reachlaw2.SpaceKeeps", spec := "spaceKeeps", inPlace := ["internal/bytealg.CountString", "internal/bytealg.IndexByteString", "internal/bytealg.IndexString", "internal/reflectlite.ValueOf", "internal/reflectlite.Swapper", "(internal/reflectlite.Value).Len", "internal/abi.NoEscape"], unfollowed := true, recurses := true, named := ["unicode/utf8.first", "unicode/utf8.acceptRanges", "internal/bytealg.MaxLen"], apart := false, laid := [("unicode/utf8.acceptRanges", laid_unicode_utf8_acceptRanges), ("unicode/utf8.first", laid_unicode_utf8_first)] }
def SpaceKeepsSaid : Prop := spaceKeepsRow.holds Tryd.pinned (OpenSpec.ofChange spaceKeepsSpec)

/-- ITS FALSE NEIGHBOUR: 'it returns false'. Refute it at one input. -/
def spaceKeepsWrong : ChangeSpec := { name := "spaceKeeps", fn := fun _ => fun
  | [d1, d2, d3] => { results := [.lit (.bool false)], args := [d1, d2, d3] }
  | _ => none }
def SpaceKeepsWrongFalsely : Prop := spaceKeepsRow.holds Tryd.pinned (OpenSpec.ofChange spaceKeepsWrong)

/-- 'reachlaw2.SpaceMeans': WHATEVER THE INPUT: true; the input reads as it did. -/
def spaceMeansSpec : ChangeSpec := { name := "spaceMeans", fn := fun _ => fun
  | [d1, d2, d3, d4] => { results := [.lit (.bool true)], args := [d1, d2, d3, d4] }
  | _ => none }
def spaceMeansRow : OpenClaim := { program := "ytaiondckookpiaadoor", sum := "f9a785ee535f5e650e97ff95742bd68e91098ce14f87626bf5507404a564cd85", func := "reach/reachlaw2.SpaceMeans", spec := "spaceMeans", inPlace := ["internal/bytealg.CountString", "internal/bytealg.IndexByteString", "internal/bytealg.IndexString", "internal/reflectlite.ValueOf", "internal/reflectlite.Swapper", "(internal/reflectlite.Value).Len", "internal/abi.NoEscape"], unfollowed := true, recurses := true, named := ["unicode/utf8.first", "unicode/utf8.acceptRanges", "internal/bytealg.MaxLen"], apart := false, laid := [("unicode/utf8.acceptRanges", laid_unicode_utf8_acceptRanges), ("unicode/utf8.first", laid_unicode_utf8_first)] }
def SpaceMeansSaid : Prop := spaceMeansRow.holds Tryd.pinned (OpenSpec.ofChange spaceMeansSpec)

/-- ITS FALSE NEIGHBOUR: 'it returns false'. Refute it at one input. -/
def spaceMeansWrong : ChangeSpec := { name := "spaceMeans", fn := fun _ => fun
  | [d1, d2, d3, d4] => { results := [.lit (.bool false)], args := [d1, d2, d3, d4] }
  | _ => none }
def SpaceMeansWrongFalsely : Prop := spaceMeansRow.holds Tryd.pinned (OpenSpec.ofChange spaceMeansWrong)

/-- 'reachlaw2.SpaceSpread': WHATEVER THE INPUT: true; the input reads as it did. -/
def spaceSpreadSpec : ChangeSpec := { name := "spaceSpread", fn := fun _ => fun
  | [d1, d2, d3] => { results := [.lit (.bool true)], args := [d1, d2, d3] }
  | _ => none }
def spaceSpreadRow : OpenClaim := { program := "ytaiondckookpiaadoor", sum := "f9a785ee535f5e650e97ff95742bd68e91098ce14f87626bf5507404a564cd85", func := "reach/reachlaw2.SpaceSpread", spec := "spaceSpread", inPlace := ["internal/bytealg.CountString", "internal/bytealg.IndexByteString", "internal/bytealg.IndexString", "internal/reflectlite.ValueOf", "internal/reflectlite.Swapper", "(internal/reflectlite.Value).Len", "internal/abi.NoEscape"], unfollowed := true, recurses := true, named := ["unicode/utf8.first", "unicode/utf8.acceptRanges", "internal/bytealg.MaxLen"], apart := false, laid := [("unicode/utf8.acceptRanges", laid_unicode_utf8_acceptRanges), ("unicode/utf8.first", laid_unicode_utf8_first)] }
def SpaceSpreadSaid : Prop := spaceSpreadRow.holds Tryd.pinned (OpenSpec.ofChange spaceSpreadSpec)

/-- ITS FALSE NEIGHBOUR: 'it returns false'. Refute it at one input. -/
def spaceSpreadWrong : ChangeSpec := { name := "spaceSpread", fn := fun _ => fun
  | [d1, d2, d3] => { results := [.lit (.bool false)], args := [d1, d2, d3] }
  | _ => none }
def SpaceSpreadWrongFalsely : Prop := spaceSpreadRow.holds Tryd.pinned (OpenSpec.ofChange spaceSpreadWrong)

/- THE SECOND FORM. 'bulk': how many values and letters a reading holds, each counted each time it is reached (what is shared counts as often as it is met; a slice's spare places count too). A statement '..UptoSaid' is the law's where the arguments, and the package variables that the reading takes, are together of bulk at most 1048576: NARROWER than '..Said'. Prove '..Said' where nothing that the law and all that it calls make is longer than what came in: it says more and counts as full. Else prove '..UptoSaid'. A law counts once. -/
mutual
def uptoBulk {H : Type} : DataW H → Nat
  | .lit (.string bytes) => bytes.length + 1
  | .lit _ => 1
  | .nil => 1
  | .ptr d => uptoBulk d + 1
  | .slice elems spare => uptoBulkAll elems + uptoBulkAll spare + 1
  | .agg parts => uptoBulkAll parts + 1
  | .iface _ d => uptoBulk d + 1
  | .map entries => uptoBulkEntries entries + 1
  | .held _ => 1
def uptoBulkAll {H : Type} : List (DataW H) → Nat
  | [] => 0
  | d :: r => uptoBulk d + uptoBulkAll r
def uptoBulkEntries {H : Type} : List (Lit × DataW H) → Nat
  | [] => 0
  | x :: r => uptoBulkEntry x + uptoBulkEntries r
def uptoBulkEntry {H : Type} : Lit × DataW H → Nat
  | (.string bytes, d) => bytes.length + uptoBulk d + 1
  | (_, d) => uptoBulk d + 1
 end
def uptoSmall : (H : Type) → List (DataW H) → Bool := fun _ ds => decide (uptoBulkAll ds ≤ 1048576)
def OpenSpec.upto (s : _root_.Go.ChangeSpec) : _root_.Go.OpenSpec := { _root_.Go.OpenSpec.ofChange s with cond := some uptoSmall }

/-- 'reachlaw2.SpaceForms', WHERE WHAT IT READS IS OF BULK AT MOST 1048576: true; the input reads as it did. -/
def spaceFormsUptoRow : OpenClaim := { program := "ytaiondckookpiaadoor", sum := "f9a785ee535f5e650e97ff95742bd68e91098ce14f87626bf5507404a564cd85", func := "reach/reachlaw2.SpaceForms", spec := "spaceForms", inPlace := ["internal/bytealg.CountString", "internal/bytealg.IndexByteString", "internal/bytealg.IndexString", "internal/reflectlite.ValueOf", "internal/reflectlite.Swapper", "(internal/reflectlite.Value).Len", "internal/abi.NoEscape"], unfollowed := true, recurses := true, named := ["unicode/utf8.first", "unicode/utf8.acceptRanges", "internal/bytealg.MaxLen"], apart := false, laid := [("unicode/utf8.acceptRanges", laid_unicode_utf8_acceptRanges), ("unicode/utf8.first", laid_unicode_utf8_first)], narrowed := true }
def SpaceFormsUptoSaid : Prop := spaceFormsUptoRow.holds Tryd.pinned (OpenSpec.upto spaceFormsSpec)

/-- 'reachlaw2.SpaceSaid', WHERE WHAT IT READS IS OF BULK AT MOST 1048576: true; the input reads as it did. -/
def spaceSaidUptoRow : OpenClaim := { program := "ytaiondckookpiaadoor", sum := "f9a785ee535f5e650e97ff95742bd68e91098ce14f87626bf5507404a564cd85", func := "reach/reachlaw2.SpaceSaid", spec := "spaceSaid", inPlace := ["internal/bytealg.CountString", "internal/bytealg.IndexByteString", "internal/bytealg.IndexString", "internal/reflectlite.ValueOf", "internal/reflectlite.Swapper", "(internal/reflectlite.Value).Len", "internal/abi.NoEscape"], unfollowed := true, recurses := true, named := ["unicode/utf8.first", "unicode/utf8.acceptRanges", "internal/bytealg.MaxLen"], apart := false, laid := [("unicode/utf8.acceptRanges", laid_unicode_utf8_acceptRanges), ("unicode/utf8.first", laid_unicode_utf8_first)], narrowed := true }
def SpaceSaidUptoSaid : Prop := spaceSaidUptoRow.holds Tryd.pinned (OpenSpec.upto spaceSaidSpec)

/-- 'reachlaw2.SpaceLattice', WHERE WHAT IT READS IS OF BULK AT MOST 1048576: true; the input reads as it did. -/
def spaceLatticeUptoRow : OpenClaim := { program := "ytaiondckookpiaadoor", sum := "f9a785ee535f5e650e97ff95742bd68e91098ce14f87626bf5507404a564cd85", func := "reach/reachlaw2.SpaceLattice", spec := "spaceLattice", inPlace := ["internal/bytealg.CountString", "internal/bytealg.IndexByteString", "internal/bytealg.IndexString", "internal/reflectlite.ValueOf", "internal/reflectlite.Swapper", "(internal/reflectlite.Value).Len", "internal/abi.NoEscape"], unfollowed := true, recurses := true, named := ["unicode/utf8.first", "unicode/utf8.acceptRanges", "internal/bytealg.MaxLen"], apart := false, laid := [("unicode/utf8.acceptRanges", laid_unicode_utf8_acceptRanges), ("unicode/utf8.first", laid_unicode_utf8_first)], narrowed := true }
def SpaceLatticeUptoSaid : Prop := spaceLatticeUptoRow.holds Tryd.pinned (OpenSpec.upto spaceLatticeSpec)

/-- 'reachlaw2.SpaceKeeps', WHERE WHAT IT READS IS OF BULK AT MOST 1048576: true; the input reads as it did. -/
def spaceKeepsUptoRow : OpenClaim := { program := "ytaiondckookpiaadoor", sum := "f9a785ee535f5e650e97ff95742bd68e91098ce14f87626bf5507404a564cd85", func := "reach/reachlaw2.SpaceKeeps", spec := "spaceKeeps", inPlace := ["internal/bytealg.CountString", "internal/bytealg.IndexByteString", "internal/bytealg.IndexString", "internal/reflectlite.ValueOf", "internal/reflectlite.Swapper", "(internal/reflectlite.Value).Len", "internal/abi.NoEscape"], unfollowed := true, recurses := true, named := ["unicode/utf8.first", "unicode/utf8.acceptRanges", "internal/bytealg.MaxLen"], apart := false, laid := [("unicode/utf8.acceptRanges", laid_unicode_utf8_acceptRanges), ("unicode/utf8.first", laid_unicode_utf8_first)], narrowed := true }
def SpaceKeepsUptoSaid : Prop := spaceKeepsUptoRow.holds Tryd.pinned (OpenSpec.upto spaceKeepsSpec)

/-- 'reachlaw2.SpaceMeans', WHERE WHAT IT READS IS OF BULK AT MOST 1048576: true; the input reads as it did. -/
def spaceMeansUptoRow : OpenClaim := { program := "ytaiondckookpiaadoor", sum := "f9a785ee535f5e650e97ff95742bd68e91098ce14f87626bf5507404a564cd85", func := "reach/reachlaw2.SpaceMeans", spec := "spaceMeans", inPlace := ["internal/bytealg.CountString", "internal/bytealg.IndexByteString", "internal/bytealg.IndexString", "internal/reflectlite.ValueOf", "internal/reflectlite.Swapper", "(internal/reflectlite.Value).Len", "internal/abi.NoEscape"], unfollowed := true, recurses := true, named := ["unicode/utf8.first", "unicode/utf8.acceptRanges", "internal/bytealg.MaxLen"], apart := false, laid := [("unicode/utf8.acceptRanges", laid_unicode_utf8_acceptRanges), ("unicode/utf8.first", laid_unicode_utf8_first)], narrowed := true }
def SpaceMeansUptoSaid : Prop := spaceMeansUptoRow.holds Tryd.pinned (OpenSpec.upto spaceMeansSpec)

/-- 'reachlaw2.SpaceSpread', WHERE WHAT IT READS IS OF BULK AT MOST 1048576: true; the input reads as it did. -/
def spaceSpreadUptoRow : OpenClaim := { program := "ytaiondckookpiaadoor", sum := "f9a785ee535f5e650e97ff95742bd68e91098ce14f87626bf5507404a564cd85", func := "reach/reachlaw2.SpaceSpread", spec := "spaceSpread", inPlace := ["internal/bytealg.CountString", "internal/bytealg.IndexByteString", "internal/bytealg.IndexString", "internal/reflectlite.ValueOf", "internal/reflectlite.Swapper", "(internal/reflectlite.Value).Len", "internal/abi.NoEscape"], unfollowed := true, recurses := true, named := ["unicode/utf8.first", "unicode/utf8.acceptRanges", "internal/bytealg.MaxLen"], apart := false, laid := [("unicode/utf8.acceptRanges", laid_unicode_utf8_acceptRanges), ("unicode/utf8.first", laid_unicode_utf8_first)], narrowed := true }
def SpaceSpreadUptoSaid : Prop := spaceSpreadUptoRow.holds Tryd.pinned (OpenSpec.upto spaceSpreadSpec)

end Rows
end Go.Proofs.YtaiondckookpiaaDoor
