/- RibLongestUpto: whatever the input, where what it reads is of bulk at most 1048576, the law answers true, and the input reads as it did. -/
import Derived.Test.YtgelaefpbdfnfaaVy2
import Derived.Test.YtgelaefpbdfnfaaX7
namespace Go.Proofs.Ytgelaefpbdfnfaa
open Go Go.Vx Go.ChangeShapes Go.WideShapes Go.ChangeAt Go.RowKit
theorem ribLongest_own : ownKnob Try.prog.godebug = none := by kernel_rfl
theorem ribLongest_laid : laidOutB Try.prog = true := by kernel_rfl
theorem ribLongest_law : ∃ ls, shapes T 9 [3, 36, 23] = some ls ∧ ∀ xs, TyAs T 1048576 [3, 36, 23] ls xs → FSpec Try.prog T 7 xs (fun d _ => d = .b True) := longest_row
set_option maxRecDepth 100000 in
theorem ribLongestUpto_lifted (os : Os) (started : os.Started) (H : Type) (enc : TypeId × Value → H) (F : Stop.Interp) :
    ReturnsInHanded {} Try.checked os 7 .any ((Rows.OpenSpec.upto Rows.ribLongestSpec).pre6 enc Try.prog Try.f7 Rows.ribLongestUptoRow.domain false) (((Rows.OpenSpec.upto Rows.ribLongestSpec).at F).post enc Try.prog Try.f7 false true false false) := by
  refine returnsInHanded_of_cond (C := Try.checked) (s := Rows.OpenSpec.upto Rows.ribLongestSpec) (k := Rows.uptoSmall) rfl ribLongest_own started (by kernel_rfl) Try.func7
    (OpenSpec.witness (enc := enc) (C := Try.checked) (s := Rows.OpenSpec.upto Rows.ribLongestSpec) (k := Rows.uptoSmall) rfl false ⟨#[], #[.int .i64 0, .slice none 0 0, .slice none 0 0], []⟩ 8 (by kernel_rfl) (by kernel_rfl) (by kernel_rfl)
      (x := ([.lit (.int .i64 0), .nil, .nil], [], [])) (by kernel_rfl) rfl (by kernel_rfl)) ?_
  intro W base args ds gs before hval hW _ hk _
  obtain ⟨ls, hls, hlaw⟩ := ribLongest_law
  have hb : Rows.uptoBulkAll (ds ++ gs) ≤ 1048576 := of_decide_eq_true hk
  exact law_calls (s := Rows.ribLongestSpec) (n := 9) (tb := 4) (B := 1048576) tok (by unfold maxLen; omega) (ts := [3, 36, 23]) (by rw [Try.params7]) (by kernel_rfl) Try.underlying4 rfl (fun ds h => match ds, h with | [d0, d1, d2], _ => rfl) ribLongest_laid
    (by intro t ht; simp only [List.mem_cons, List.not_mem_nil, or_false] at ht; rcases ht with rfl | rfl | rfl <;> exact ⟨by kernel_rfl, of_decide_eq_true (by kernel_rfl)⟩) hls hlaw W base args ds gs before hval hW (.inr hb)
theorem ribLongest_holds : Rows.RibLongestUptoSaid :=
  OpenClaim.holds_of_cond 7 Try.f7 rfl rfl rfl rfl rfl rfl rfl ⟨rfl, rfl, rfl, rfl, rfl⟩ rfl rfl rfl rfl rfl (by kernel_rfl) Try.func7 (by kernel_rfl)
    (of_decide_eq_true (by kernel_rfl)) (by unfold Func.isWrapper; first | (rw [if_pos (by decide +kernel)]; kernel_rfl) | (rw [if_neg (by decide +kernel)]; exact ⟨rfl, rfl⟩))
    (fun os started H enc _ F => ribLongestUpto_lifted os started H enc F)
end Go.Proofs.Ytgelaefpbdfnfaa
