/- RibSame: whatever the input, the law answers true, and the input reads as it did. -/
import Derived.Test.YtgelaefpbdfnfaaVy2
import Derived.Test.YtgelaefpbdfnfaaX8
namespace Go.Proofs.Ytgelaefpbdfnfaa
open Go Go.Vx Go.ChangeShapes Go.WideShapes Go.ChangeAt Go.RowKit
theorem ribSame_own : ownKnob Try.prog.godebug = none := by kernel_rfl
theorem ribSame_laid : laidOutB Try.prog = true := by kernel_rfl
theorem ribSame_law : ∃ ls, shapes T 9 [3, 36] = some ls ∧ ∀ xs, TyAs T maxLen [3, 36] ls xs → FSpec Try.prog T 8 xs (fun d _ => d = .b True) := same_row _
set_option maxRecDepth 100000 in
theorem ribSame_lifted (os : Os) (started : os.Started) (H : Type) (enc : TypeId × Value → H) :
    ReturnsInHanded {} Try.checked os 8 .any (Rows.ribSameSpec.pre6 enc Try.prog Try.f8 Rows.ribSameRow.domain false) (Rows.ribSameSpec.post enc Try.prog Try.f8 false true false false) := by
  refine returnsInHanded_of_change (C := Try.checked) ribSame_own started (by kernel_rfl) Try.func8
    (ChangeSpec.witness6 (enc := enc) (C := Try.checked) false ⟨#[], #[.int .i64 0, .slice none 0 0], []⟩ 8 (by kernel_rfl) (by kernel_rfl) (by kernel_rfl) (by kernel_rfl)) ?_
  intro W base args ds gs before hval hW _ _
  obtain ⟨ls, hls, hlaw⟩ := ribSame_law
  exact law_calls (n := 9) (tb := 4) tok (Nat.le_refl _) (ts := [3, 36]) (by rw [Try.params8]) (by kernel_rfl) Try.underlying4 rfl (fun ds h => match ds, h with | [d0, d1], _ => rfl) ribSame_laid
    (by intro t ht; simp only [List.mem_cons, List.not_mem_nil, or_false] at ht; rcases ht with rfl | rfl <;> exact ⟨by kernel_rfl, of_decide_eq_true (by kernel_rfl)⟩) hls hlaw W base args ds gs before hval hW (.inl rfl)
theorem ribSame_holds : Rows.RibSameSaid :=
  OpenClaim.holds_of_wide 8 Try.f8 rfl rfl rfl rfl rfl rfl rfl ⟨rfl, rfl, rfl, rfl, rfl⟩ rfl rfl rfl rfl rfl (by kernel_rfl) Try.func8 (by kernel_rfl)
    (of_decide_eq_true (by kernel_rfl)) (by unfold Func.isWrapper; first | (rw [if_pos (by decide +kernel)]; kernel_rfl) | (rw [if_neg (by decide +kernel)]; exact ⟨rfl, rfl⟩))
    (fun os started H enc _ => ribSame_lifted os started H enc)
end Go.Proofs.Ytgelaefpbdfnfaa
