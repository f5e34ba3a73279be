/- RibLeast: whatever the input, the law answers true, and the input reads as it did. -/
import Derived.Test.YtgelaefpbdfnfaaVy2
import Derived.Test.YtgelaefpbdfnfaaX9
namespace Go.Proofs.Ytgelaefpbdfnfaa
open Go Go.Vx Go.ChangeShapes Go.WideShapes Go.ChangeAt Go.RowKit
theorem ribLeast_own : ownKnob Try.prog.godebug = none := by kernel_rfl
theorem ribLeast_laid : laidOutB Try.prog = true := by kernel_rfl
theorem ribLeast_law : ∃ ls, shapes T 9 [3, 36] = some ls ∧ ∀ xs, TyAs T maxLen [3, 36] ls xs → FSpec Try.prog T 9 xs (fun d _ => d = .b True) := least_row _
set_option maxRecDepth 100000 in
theorem ribLeast_lifted (os : Os) (started : os.Started) (H : Type) (enc : TypeId × Value → H) :
    ReturnsInHanded {} Try.checked os 9 .any (Rows.ribLeastSpec.pre6 enc Try.prog Try.f9 Rows.ribLeastRow.domain false) (Rows.ribLeastSpec.post enc Try.prog Try.f9 false true false false) := by
  refine returnsInHanded_of_change (C := Try.checked) ribLeast_own started (by kernel_rfl) Try.func9
    (ChangeSpec.witness6 (enc := enc) (C := Try.checked) false ⟨#[], #[.int .i64 0, .slice none 0 0], []⟩ 8 (by kernel_rfl) (by kernel_rfl) (by kernel_rfl) (by kernel_rfl)) ?_
  intro W base args ds gs before hval hW _ _
  obtain ⟨ls, hls, hlaw⟩ := ribLeast_law
  exact law_calls (n := 9) (tb := 4) tok (Nat.le_refl _) (ts := [3, 36]) (by rw [Try.params9]) (by kernel_rfl) Try.underlying4 rfl (fun ds h => match ds, h with | [d0, d1], _ => rfl) ribLeast_laid
    (by intro t ht; simp only [List.mem_cons, List.not_mem_nil, or_false] at ht; rcases ht with rfl | rfl <;> exact ⟨by kernel_rfl, of_decide_eq_true (by kernel_rfl)⟩) hls hlaw W base args ds gs before hval hW (.inl rfl)
theorem ribLeast_holds : Rows.RibLeastSaid :=
  OpenClaim.holds_of_wide 9 Try.f9 rfl rfl rfl rfl rfl rfl rfl ⟨rfl, rfl, rfl, rfl, rfl⟩ rfl rfl rfl rfl rfl (by kernel_rfl) Try.func9 (by kernel_rfl)
    (of_decide_eq_true (by kernel_rfl)) (by unfold Func.isWrapper; first | (rw [if_pos (by decide +kernel)]; kernel_rfl) | (rw [if_neg (by decide +kernel)]; exact ⟨rfl, rfl⟩))
    (fun os started H enc _ => ribLeast_lifted os started H enc)
end Go.Proofs.Ytgelaefpbdfnfaa
