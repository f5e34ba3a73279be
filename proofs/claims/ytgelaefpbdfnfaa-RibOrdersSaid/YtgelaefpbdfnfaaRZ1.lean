/- RibOrders, from its arguments as they come. -/
import Derived.Test.YtgelaefpbdfnfaaRO2
namespace Go.Proofs.Ytgelaefpbdfnfaa
open Go Go.Vx
theorem orders_row (B : Nat) : ∃ ls, shapes T 9 [3, 36] = some ls ∧ ∀ xs, TyAs T B [3, 36] ls xs → FSpec Try.prog T 4 xs (fun d _ => d = .b True) := by
  refine ⟨_, rfl, fun xs h => ?_⟩
  obtain ⟨_, _, rfl, h0, h⟩ := as_cons h
  obtain ⟨_, _, rfl, h1, h⟩ := as_cons h
  obtain rfl := as_nil h
  obtain ⟨bits, rfl, _⟩ := int_of (leaf h0 rfl)
  obtain ⟨l, room, rfl, _⟩ := lst_of (leaf h1 rfl) route_of
  exact orders_law _ _ _
end Go.Proofs.Ytgelaefpbdfnfaa
