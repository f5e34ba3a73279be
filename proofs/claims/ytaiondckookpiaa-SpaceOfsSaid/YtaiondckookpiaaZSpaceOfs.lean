/- SpaceOfs: whatever the input, the law answers true, and the input reads as it did. -/
import Derived.Test.YtaiondckookpiaaQDD
namespace Go.Proofs.Ytaiondckookpiaa
open Go Go.Vx Go.ChangeShapes Go.WideShapes Go.ChangeAt Go.RowKit
theorem spaceOfs_own : ownKnob Try.prog.godebug = none := by kernel_rfl
theorem spaceOfs_laid : laidOutB Try.prog = true := by kernel_rfl
theorem spaceOfs_law : ∃ ls, shapes T 9 [9, 22] = some ls ∧ ∀ xs, TyAs T maxLen [9, 22] ls xs → FSpec Try.prog T 3 xs (fun d _ => d = .b True) := spaceOfs_ats
set_option maxRecDepth 100000 in
theorem spaceOfs_lifted (os : Os) (started : os.Started) (H : Type) (enc : TypeId × Value → H) :
    ReturnsInHanded {} Try.checked os 3 .any (Rows.spaceOfsSpec.pre6 enc Try.prog Try.f3 Rows.spaceOfsRow.domain false) (Rows.spaceOfsSpec.post enc Try.prog Try.f3 false true false false) := by
  refine returnsInHanded_of_change (C := Try.checked) spaceOfs_own started (by kernel_rfl) Try.func3
    (ChangeSpec.witness6 (enc := enc) (C := Try.checked) false ⟨#[], #[.string ⟨#[]⟩, .slice none 0 0], []⟩ 8 (by kernel_rfl) (by kernel_rfl) (by kernel_rfl) (by kernel_rfl)) ?_
  intro W base args ds gs before hval hW _ _
  obtain ⟨ls, hls, hlaw⟩ := spaceOfs_law
  exact law_calls (n := 9) (tb := 4) tok (Nat.le_refl _) (ts := [9, 22]) (by rw [Try.params3]) (by kernel_rfl) Try.underlying4 rfl (fun ds h => match ds, h with | [d0, d1], _ => rfl) spaceOfs_laid
    (by intro t ht; simp only [List.mem_cons, List.not_mem_nil, or_false] at ht; rcases ht with rfl | rfl <;> exact ⟨by kernel_rfl, of_decide_eq_true (by kernel_rfl)⟩) hls hlaw W base args ds gs before hval hW (.inl rfl)
theorem spaceOfs_holds : Rows.SpaceOfsSaid :=
  OpenClaim.holds_of_wide 3 Try.f3 rfl rfl rfl rfl rfl rfl rfl ⟨rfl, rfl, rfl, rfl, rfl⟩ rfl rfl rfl rfl rfl (by kernel_rfl) Try.func3 (by kernel_rfl)
    (of_decide_eq_true (by kernel_rfl)) (by unfold Func.isWrapper; first | (rw [if_pos (by decide +kernel)]; kernel_rfl) | (rw [if_neg (by decide +kernel)]; exact ⟨rfl, rfl⟩))
    (fun os started H enc _ => spaceOfs_lifted os started H enc)
end Go.Proofs.Ytaiondckookpiaa
