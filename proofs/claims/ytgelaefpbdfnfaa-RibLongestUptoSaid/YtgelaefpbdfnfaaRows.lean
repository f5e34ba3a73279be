/-
  No cell of these rows narrows 'for every input' (looked for: loops, veiled, ifaces, maps, wideKeys, modest, calm, conditions, laid).
  DERIVED. THE GIVEN ROWS OF THIS SEAT. 8 by the template 'for every input the law returns true; each argument reads behind the call as it read before'; 0 by the template 'total and deterministic' (their statements: YtgelaefpbdfnfaaTotals.lean).
  GIVEN WITH THE SEED: the statements are not yours to turn. If you find one false, say at which input.
  Laid BY PROGRAM, IN A SANDBOX (cutbox-rows.mjs): the forced cells as the released guide's own fill.sh prints them over the translation 1ab3551926c9ec3a… (all of the seat's roots in one cut). By AI agents, Wed Nov 11 2026. No macro, syntax, notation, axiom, sorry.
-/
import Derived.Test.YtgelaefpbdfnfaaChecked
import GoSem.Claim
import GoSem.ClaimJoined
import GoSem.ClaimMapViews
import Derived.JoinedTies
import Derived.KernelRfl
namespace Go.Proofs.Ytgelaefpbdfnfaa
/- THE CELL 'sum', in the pinned program and in every row, IS THE sha256 OF THE DUMP (.gsa) THAT YtgelaefpbdfnfaaProg.lean LOADS. Nothing in Lean hashes anything: it is a label: what it is worth is what the hold of that sum in a sandbox is worth. -/
noncomputable def Try.pinned : Pinned := { name := "ytgelaefpbdfnfaa", sum := "1ab3551926c9ec3a2d31efc6b9c7784fc0aa36440178a62b3482fbd52e4cfdba", checked := Try.checked }
namespace Rows
def none {H : Type} : Left H := { results := [], args := [] }

/-- 'reachlaw8.RibShortests': WHATEVER THE INPUT: true; the input reads as it did. -/
def ribShortestsSpec : ChangeSpec := { name := "ribShortests", fn := fun _ => fun
  | [d1, d2, d3] => { results := [.lit (.bool true)], args := [d1, d2, d3] }
  | _ => none }
def ribShortestsRow : OpenClaim := { program := "ytgelaefpbdfnfaa", sum := "1ab3551926c9ec3a2d31efc6b9c7784fc0aa36440178a62b3482fbd52e4cfdba", func := "reach/reachlaw8.RibShortests", spec := "ribShortests", unfollowed := true, recurses := true, apart := false }
def RibShortestsSaid : Prop := ribShortestsRow.holds Try.pinned (OpenSpec.ofChange ribShortestsSpec)

/-- ITS FALSE NEIGHBOUR: 'it returns false'. Refute it at one input. -/
def ribShortestsWrong : ChangeSpec := { name := "ribShortests", fn := fun _ => fun
  | [d1, d2, d3] => { results := [.lit (.bool false)], args := [d1, d2, d3] }
  | _ => none }
def RibShortestsWrongFalsely : Prop := ribShortestsRow.holds Try.pinned (OpenSpec.ofChange ribShortestsWrong)

/-- 'reachlaw8.RibOrders': WHATEVER THE INPUT: true; the input reads as it did. -/
def ribOrdersSpec : ChangeSpec := { name := "ribOrders", fn := fun _ => fun
  | [d1, d2] => { results := [.lit (.bool true)], args := [d1, d2] }
  | _ => none }
def ribOrdersRow : OpenClaim := { program := "ytgelaefpbdfnfaa", sum := "1ab3551926c9ec3a2d31efc6b9c7784fc0aa36440178a62b3482fbd52e4cfdba", func := "reach/reachlaw8.RibOrders", spec := "ribOrders", unfollowed := true, recurses := true, apart := false }
def RibOrdersSaid : Prop := ribOrdersRow.holds Try.pinned (OpenSpec.ofChange ribOrdersSpec)

/-- ITS FALSE NEIGHBOUR: 'it returns false'. Refute it at one input. -/
def ribOrdersWrong : ChangeSpec := { name := "ribOrders", fn := fun _ => fun
  | [d1, d2] => { results := [.lit (.bool false)], args := [d1, d2] }
  | _ => none }
def RibOrdersWrongFalsely : Prop := ribOrdersRow.holds Try.pinned (OpenSpec.ofChange ribOrdersWrong)

/-- 'reachlaw8.RibLookups': WHATEVER THE INPUT: true; the input reads as it did. -/
def ribLookupsSpec : ChangeSpec := { name := "ribLookups", fn := fun _ => fun
  | [d1, d2, d3] => { results := [.lit (.bool true)], args := [d1, d2, d3] }
  | _ => none }
def ribLookupsRow : OpenClaim := { program := "ytgelaefpbdfnfaa", sum := "1ab3551926c9ec3a2d31efc6b9c7784fc0aa36440178a62b3482fbd52e4cfdba", func := "reach/reachlaw8.RibLookups", spec := "ribLookups", unfollowed := true, recurses := true, apart := false }
def RibLookupsSaid : Prop := ribLookupsRow.holds Try.pinned (OpenSpec.ofChange ribLookupsSpec)

/-- ITS FALSE NEIGHBOUR: 'it returns false'. Refute it at one input. -/
def ribLookupsWrong : ChangeSpec := { name := "ribLookups", fn := fun _ => fun
  | [d1, d2, d3] => { results := [.lit (.bool false)], args := [d1, d2, d3] }
  | _ => none }
def RibLookupsWrongFalsely : Prop := ribLookupsRow.holds Try.pinned (OpenSpec.ofChange ribLookupsWrong)

/-- 'reachlaw8.RibSlims': WHATEVER THE INPUT: true; the input reads as it did. -/
def ribSlimsSpec : ChangeSpec := { name := "ribSlims", fn := fun _ => fun
  | [d1, d2] => { results := [.lit (.bool true)], args := [d1, d2] }
  | _ => none }
def ribSlimsRow : OpenClaim := { program := "ytgelaefpbdfnfaa", sum := "1ab3551926c9ec3a2d31efc6b9c7784fc0aa36440178a62b3482fbd52e4cfdba", func := "reach/reachlaw8.RibSlims", spec := "ribSlims", unfollowed := true, recurses := true, apart := false }
def RibSlimsSaid : Prop := ribSlimsRow.holds Try.pinned (OpenSpec.ofChange ribSlimsSpec)

/-- ITS FALSE NEIGHBOUR: 'it returns false'. Refute it at one input. -/
def ribSlimsWrong : ChangeSpec := { name := "ribSlims", fn := fun _ => fun
  | [d1, d2] => { results := [.lit (.bool false)], args := [d1, d2] }
  | _ => none }
def RibSlimsWrongFalsely : Prop := ribSlimsRow.holds Try.pinned (OpenSpec.ofChange ribSlimsWrong)

/-- 'reachlaw8.RibLongest': WHATEVER THE INPUT: true; the input reads as it did. -/
def ribLongestSpec : ChangeSpec := { name := "ribLongest", fn := fun _ => fun
  | [d1, d2, d3] => { results := [.lit (.bool true)], args := [d1, d2, d3] }
  | _ => none }
def ribLongestRow : OpenClaim := { program := "ytgelaefpbdfnfaa", sum := "1ab3551926c9ec3a2d31efc6b9c7784fc0aa36440178a62b3482fbd52e4cfdba", func := "reach/reachlaw8.RibLongest", spec := "ribLongest", unfollowed := true, recurses := true, apart := false }
def RibLongestSaid : Prop := ribLongestRow.holds Try.pinned (OpenSpec.ofChange ribLongestSpec)

/-- ITS FALSE NEIGHBOUR: 'it returns false'. Refute it at one input. -/
def ribLongestWrong : ChangeSpec := { name := "ribLongest", fn := fun _ => fun
  | [d1, d2, d3] => { results := [.lit (.bool false)], args := [d1, d2, d3] }
  | _ => none }
def RibLongestWrongFalsely : Prop := ribLongestRow.holds Try.pinned (OpenSpec.ofChange ribLongestWrong)

/-- 'reachlaw8.RibSame': WHATEVER THE INPUT: true; the input reads as it did. -/
def ribSameSpec : ChangeSpec := { name := "ribSame", fn := fun _ => fun
  | [d1, d2] => { results := [.lit (.bool true)], args := [d1, d2] }
  | _ => none }
def ribSameRow : OpenClaim := { program := "ytgelaefpbdfnfaa", sum := "1ab3551926c9ec3a2d31efc6b9c7784fc0aa36440178a62b3482fbd52e4cfdba", func := "reach/reachlaw8.RibSame", spec := "ribSame", unfollowed := true, recurses := true, apart := false }
def RibSameSaid : Prop := ribSameRow.holds Try.pinned (OpenSpec.ofChange ribSameSpec)

/-- ITS FALSE NEIGHBOUR: 'it returns false'. Refute it at one input. -/
def ribSameWrong : ChangeSpec := { name := "ribSame", fn := fun _ => fun
  | [d1, d2] => { results := [.lit (.bool false)], args := [d1, d2] }
  | _ => none }
def RibSameWrongFalsely : Prop := ribSameRow.holds Try.pinned (OpenSpec.ofChange ribSameWrong)

/-- 'reachlaw8.RibLeast': WHATEVER THE INPUT: true; the input reads as it did. -/
def ribLeastSpec : ChangeSpec := { name := "ribLeast", fn := fun _ => fun
  | [d1, d2] => { results := [.lit (.bool true)], args := [d1, d2] }
  | _ => none }
def ribLeastRow : OpenClaim := { program := "ytgelaefpbdfnfaa", sum := "1ab3551926c9ec3a2d31efc6b9c7784fc0aa36440178a62b3482fbd52e4cfdba", func := "reach/reachlaw8.RibLeast", spec := "ribLeast", unfollowed := true, recurses := true, apart := false }
def RibLeastSaid : Prop := ribLeastRow.holds Try.pinned (OpenSpec.ofChange ribLeastSpec)

/-- ITS FALSE NEIGHBOUR: 'it returns false'. Refute it at one input. -/
def ribLeastWrong : ChangeSpec := { name := "ribLeast", fn := fun _ => fun
  | [d1, d2] => { results := [.lit (.bool false)], args := [d1, d2] }
  | _ => none }
def RibLeastWrongFalsely : Prop := ribLeastRow.holds Try.pinned (OpenSpec.ofChange ribLeastWrong)

/-- 'reachlaw8.RibWays': WHATEVER THE INPUT: true; the input reads as it did. -/
def ribWaysSpec : ChangeSpec := { name := "ribWays", fn := fun _ => fun
  | [d1, d2, d3] => { results := [.lit (.bool true)], args := [d1, d2, d3] }
  | _ => none }
def ribWaysRow : OpenClaim := { program := "ytgelaefpbdfnfaa", sum := "1ab3551926c9ec3a2d31efc6b9c7784fc0aa36440178a62b3482fbd52e4cfdba", func := "reach/reachlaw8.RibWays", spec := "ribWays", unfollowed := true, recurses := true, apart := false }
def RibWaysSaid : Prop := ribWaysRow.holds Try.pinned (OpenSpec.ofChange ribWaysSpec)

/-- ITS FALSE NEIGHBOUR: 'it returns false'. Refute it at one input. -/
def ribWaysWrong : ChangeSpec := { name := "ribWays", fn := fun _ => fun
  | [d1, d2, d3] => { results := [.lit (.bool false)], args := [d1, d2, d3] }
  | _ => none }
def RibWaysWrongFalsely : Prop := ribWaysRow.holds Try.pinned (OpenSpec.ofChange ribWaysWrong)

/- THE SECOND FORM. 'bulk': how many values and letters a reading holds, each counted each time it is reached (what is shared counts as often as it is met; a slice's spare places count too). A statement '..UptoSaid' is the law's where the arguments, and the package variables that the reading takes, are together of bulk at most 1048576: NARROWER than '..Said'. Prove '..Said' where nothing that the law and all that it calls make is longer than what came in: it says more and counts as full. Else prove '..UptoSaid'. A law counts once. -/
mutual
def uptoBulk {H : Type} : DataW H → Nat
  | .lit (.string bytes) => bytes.length + 1
  | .lit _ => 1
  | .nil => 1
  | .ptr d => uptoBulk d + 1
  | .slice elems spare => uptoBulkAll elems + uptoBulkAll spare + 1
  | .agg parts => uptoBulkAll parts + 1
  | .iface _ d => uptoBulk d + 1
  | .map entries => uptoBulkEntries entries + 1
  | .held _ => 1
def uptoBulkAll {H : Type} : List (DataW H) → Nat
  | [] => 0
  | d :: r => uptoBulk d + uptoBulkAll r
def uptoBulkEntries {H : Type} : List (Lit × DataW H) → Nat
  | [] => 0
  | x :: r => uptoBulkEntry x + uptoBulkEntries r
def uptoBulkEntry {H : Type} : Lit × DataW H → Nat
  | (.string bytes, d) => bytes.length + uptoBulk d + 1
  | (_, d) => uptoBulk d + 1
 end
def uptoSmall : (H : Type) → List (DataW H) → Bool := fun _ ds => decide (uptoBulkAll ds ≤ 1048576)
def OpenSpec.upto (s : _root_.Go.ChangeSpec) : _root_.Go.OpenSpec := { _root_.Go.OpenSpec.ofChange s with cond := some uptoSmall }

/-- 'reachlaw8.RibShortests', WHERE WHAT IT READS IS OF BULK AT MOST 1048576: true; the input reads as it did. -/
def ribShortestsUptoRow : OpenClaim := { program := "ytgelaefpbdfnfaa", sum := "1ab3551926c9ec3a2d31efc6b9c7784fc0aa36440178a62b3482fbd52e4cfdba", func := "reach/reachlaw8.RibShortests", spec := "ribShortests", unfollowed := true, recurses := true, apart := false, narrowed := true }
def RibShortestsUptoSaid : Prop := ribShortestsUptoRow.holds Try.pinned (OpenSpec.upto ribShortestsSpec)

/-- 'reachlaw8.RibOrders', WHERE WHAT IT READS IS OF BULK AT MOST 1048576: true; the input reads as it did. -/
def ribOrdersUptoRow : OpenClaim := { program := "ytgelaefpbdfnfaa", sum := "1ab3551926c9ec3a2d31efc6b9c7784fc0aa36440178a62b3482fbd52e4cfdba", func := "reach/reachlaw8.RibOrders", spec := "ribOrders", unfollowed := true, recurses := true, apart := false, narrowed := true }
def RibOrdersUptoSaid : Prop := ribOrdersUptoRow.holds Try.pinned (OpenSpec.upto ribOrdersSpec)

/-- 'reachlaw8.RibLookups', WHERE WHAT IT READS IS OF BULK AT MOST 1048576: true; the input reads as it did. -/
def ribLookupsUptoRow : OpenClaim := { program := "ytgelaefpbdfnfaa", sum := "1ab3551926c9ec3a2d31efc6b9c7784fc0aa36440178a62b3482fbd52e4cfdba", func := "reach/reachlaw8.RibLookups", spec := "ribLookups", unfollowed := true, recurses := true, apart := false, narrowed := true }
def RibLookupsUptoSaid : Prop := ribLookupsUptoRow.holds Try.pinned (OpenSpec.upto ribLookupsSpec)

/-- 'reachlaw8.RibSlims', WHERE WHAT IT READS IS OF BULK AT MOST 1048576: true; the input reads as it did. -/
def ribSlimsUptoRow : OpenClaim := { program := "ytgelaefpbdfnfaa", sum := "1ab3551926c9ec3a2d31efc6b9c7784fc0aa36440178a62b3482fbd52e4cfdba", func := "reach/reachlaw8.RibSlims", spec := "ribSlims", unfollowed := true, recurses := true, apart := false, narrowed := true }
def RibSlimsUptoSaid : Prop := ribSlimsUptoRow.holds Try.pinned (OpenSpec.upto ribSlimsSpec)

/-- 'reachlaw8.RibLongest', WHERE WHAT IT READS IS OF BULK AT MOST 1048576: true; the input reads as it did. -/
def ribLongestUptoRow : OpenClaim := { program := "ytgelaefpbdfnfaa", sum := "1ab3551926c9ec3a2d31efc6b9c7784fc0aa36440178a62b3482fbd52e4cfdba", func := "reach/reachlaw8.RibLongest", spec := "ribLongest", unfollowed := true, recurses := true, apart := false, narrowed := true }
def RibLongestUptoSaid : Prop := ribLongestUptoRow.holds Try.pinned (OpenSpec.upto ribLongestSpec)

/-- 'reachlaw8.RibSame', WHERE WHAT IT READS IS OF BULK AT MOST 1048576: true; the input reads as it did. -/
def ribSameUptoRow : OpenClaim := { program := "ytgelaefpbdfnfaa", sum := "1ab3551926c9ec3a2d31efc6b9c7784fc0aa36440178a62b3482fbd52e4cfdba", func := "reach/reachlaw8.RibSame", spec := "ribSame", unfollowed := true, recurses := true, apart := false, narrowed := true }
def RibSameUptoSaid : Prop := ribSameUptoRow.holds Try.pinned (OpenSpec.upto ribSameSpec)

/-- 'reachlaw8.RibLeast', WHERE WHAT IT READS IS OF BULK AT MOST 1048576: true; the input reads as it did. -/
def ribLeastUptoRow : OpenClaim := { program := "ytgelaefpbdfnfaa", sum := "1ab3551926c9ec3a2d31efc6b9c7784fc0aa36440178a62b3482fbd52e4cfdba", func := "reach/reachlaw8.RibLeast", spec := "ribLeast", unfollowed := true, recurses := true, apart := false, narrowed := true }
def RibLeastUptoSaid : Prop := ribLeastUptoRow.holds Try.pinned (OpenSpec.upto ribLeastSpec)

/-- 'reachlaw8.RibWays', WHERE WHAT IT READS IS OF BULK AT MOST 1048576: true; the input reads as it did. -/
def ribWaysUptoRow : OpenClaim := { program := "ytgelaefpbdfnfaa", sum := "1ab3551926c9ec3a2d31efc6b9c7784fc0aa36440178a62b3482fbd52e4cfdba", func := "reach/reachlaw8.RibWays", spec := "ribWays", unfollowed := true, recurses := true, apart := false, narrowed := true }
def RibWaysUptoSaid : Prop := ribWaysUptoRow.holds Try.pinned (OpenSpec.upto ribWaysSpec)

end Rows
end Go.Proofs.Ytgelaefpbdfnfaa
