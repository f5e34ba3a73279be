/- From the arguments as they come to lists of routes. -/
import Derived.Test.YtgelaefpbdfnfaaR5
import Derived.Test.YtgelaefpbdfnfaaVy3
namespace Go.Proofs.Ytgelaefpbdfnfaa
open Go Go.Vx
theorem route_of {B : Nat} (r : List D) (h : TySs B [.int .i64, .int .i64, .int .i64, .int .i64] r) : ∃ a : Route, r = a.row ∧ True := by
  obtain ⟨_, _, rfl, h1, h⟩ := ss_cons h
  obtain ⟨_, _, rfl, h2, h⟩ := ss_cons h
  obtain ⟨_, _, rfl, h3, h⟩ := ss_cons h
  obtain ⟨_, _, rfl, h4, h⟩ := ss_cons h
  obtain rfl := ss_nil h
  obtain ⟨a, rfl, _⟩ := int_of h1
  obtain ⟨b, rfl, _⟩ := int_of h2
  obtain ⟨c, rfl, _⟩ := int_of h3
  obtain ⟨d, rfl, _⟩ := int_of h4
  exact ⟨⟨a, b, c, d⟩, rfl, trivial⟩
theorem lookups_row (B : Nat) : ∃ ls, shapes T 9 [3, 36, 23] = some ls ∧ ∀ xs, TyAs T B [3, 36, 23] ls xs → FSpec Try.prog T 5 xs (fun d _ => d = .b True) := by
  refine ⟨_, rfl, fun xs h => ?_⟩
  obtain ⟨_, _, rfl, h0, h⟩ := as_cons h
  obtain ⟨_, _, rfl, h1, h⟩ := as_cons h
  obtain ⟨_, _, rfl, h2, h⟩ := as_cons h
  obtain rfl := as_nil h
  obtain ⟨bits, rfl, _⟩ := int_of (leaf h0 rfl)
  obtain ⟨l, room, rfl, _⟩ := lst_of (leaf h1 rfl) route_of
  obtain ⟨vs, rv, rfl, _⟩ := ints_of (leaf h2 rfl)
  exact lookups_law _ _ _ _ _
end Go.Proofs.Ytgelaefpbdfnfaa
