/- ConfTurnsUpto: whatever the input, where what it reads is of bulk at most 1048576, the law answers true, and the input reads as it did. -/
import Derived.Test.YtkkmbgfhhcoehaaVy2
import Derived.Test.YtkkmbgfhhcoehaaC21
namespace Go.Proofs.Ytkkmbgfhhcoehaa
open Go Go.Vx Go.ChangeShapes Go.WideShapes Go.ChangeAt Go.RowKit
theorem confTurns_own : ownKnob Try.prog.godebug = none := by kernel_rfl
theorem confTurns_laid : laidOutB Try.prog = true := by kernel_rfl
theorem confTurns_law : ∃ ls, shapes T 9 [27, 3] = some ls ∧ ∀ xs, TyAs T 1048576 [27, 3] ls xs → FSpec Try.prog T 4 xs (fun d _ => d = .b True) := turns_row
set_option maxRecDepth 100000 in
theorem confTurnsUpto_lifted (os : Os) (started : os.Started) (H : Type) (enc : TypeId × Value → H) (F : Stop.Interp) :
    ReturnsInHanded {} Try.checked os 4 .any ((Rows.OpenSpec.upto Rows.confTurnsSpec).pre6 enc Try.prog Try.f4 Rows.confTurnsUptoRow.domain false) (((Rows.OpenSpec.upto Rows.confTurnsSpec).at F).post enc Try.prog Try.f4 false true false false) := by
  refine returnsInHanded_of_cond (C := Try.checked) (s := Rows.OpenSpec.upto Rows.confTurnsSpec) (k := Rows.uptoSmall) rfl confTurns_own started (by kernel_rfl) Try.func4
    (OpenSpec.witness (enc := enc) (C := Try.checked) (s := Rows.OpenSpec.upto Rows.confTurnsSpec) (k := Rows.uptoSmall) rfl false ⟨#[], #[.agg #[.string ⟨#[]⟩, .slice none 0 0, .string ⟨#[]⟩, .bool false, .slice none 0 0, .slice none 0 0, .slice none 0 0], .int .i64 0], []⟩ 8 (by kernel_rfl) (by kernel_rfl) (by kernel_rfl)
      (x := ([.agg [.lit (.string []), .nil, .lit (.string []), .lit (.bool false), .nil, .nil, .nil], .lit (.int .i64 0)], [], [])) (by kernel_rfl) rfl (by kernel_rfl)) ?_
  intro W base args ds gs before hval hW _ hk _
  obtain ⟨ls, hls, hlaw⟩ := confTurns_law
  have hb : Rows.uptoBulkAll (ds ++ gs) ≤ 1048576 := of_decide_eq_true hk
  exact law_calls (s := Rows.confTurnsSpec) (n := 9) (tb := 4) (B := 1048576) tok (by unfold maxLen; omega) (ts := [27, 3]) (by rw [Try.params4]) (by kernel_rfl) Try.underlying4 rfl (fun ds h => match ds, h with | [d0, d1], _ => rfl) confTurns_laid
    (by intro t ht; simp only [List.mem_cons, List.not_mem_nil, or_false] at ht; rcases ht with rfl | rfl <;> exact ⟨by kernel_rfl, of_decide_eq_true (by kernel_rfl)⟩) hls hlaw W base args ds gs before hval hW (.inr hb)
theorem confTurns_holds : Rows.ConfTurnsUptoSaid :=
  OpenClaim.holds_of_cond 4 Try.f4 rfl rfl rfl rfl rfl rfl rfl ⟨rfl, rfl, rfl, rfl, rfl⟩ rfl rfl rfl rfl rfl (by kernel_rfl) Try.func4 (by kernel_rfl)
    (of_decide_eq_true (by kernel_rfl)) (by unfold Func.isWrapper; first | (rw [if_pos (by decide +kernel)]; kernel_rfl) | (rw [if_neg (by decide +kernel)]; exact ⟨rfl, rfl⟩))
    (fun os started H enc _ F => confTurnsUpto_lifted os started H enc F)
end Go.Proofs.Ytkkmbgfhhcoehaa
