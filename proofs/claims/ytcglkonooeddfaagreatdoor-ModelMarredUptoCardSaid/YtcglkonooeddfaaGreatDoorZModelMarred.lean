/- ModelMarredUpto: whatever the input, where what it reads is of bulk at most 1048576, the law answers true, and the input reads as it did; the listed tables of the library are tied to the program's text. -/
import Derived.Test.YtcglkonooeddfaaGreatDoorQGF
import Derived.Test.YtcglkonooeddfaaGreatDoorRows
import Derived.Test.YtcglkonooeddfaaGreatDoorTie
import Derived.Test.YtcglkonooeddfaaGreatDoorCards
import Derived.ProofKit
import Derived.OpenShut
import Derived.LaidMore
import Derived.Lay
import Derived.SevenTiedAt
import Derived.Stop.Joined
import Derived.Deep.DeepHandedRow
namespace Go.Proofs.YtcglkonooeddfaaGreatDoor
open Go Go.Vx Go.ChangeShapes Go.WideShapes Go.ChangeAt Go.RowKit
theorem modelMarred_own : ownKnob Tryz.prog.godebug = none := by kernel_rfl
theorem modelMarred_laid : laidOutB Tryz.prog = true := by kernel_rfl
theorem modelMarred_law : ∃ ls, shapes T 9 [27, 3, 3] = some ls ∧ ∀ xs, TyAs T 1048576 [27, 3, 3] ls xs → FSpec Tryz.prog T 12 xs (fun d _ => d = .b True) := modelMarred_ats
set_option maxRecDepth 100000 in
theorem modelMarredUpto_lifted (os : Os) (started : os.Started) (H : Type) (enc : TypeId × Value → H) (F : Stop.Interp) :
    ReturnsInHanded {} Tryz.checked os 12 .any ((Rows.OpenSpec.upto Rows.modelMarredSpec).preRow enc Tryz.prog Tryz.f12 Rows.modelMarredUptoRow.domain false Rows.modelMarredUptoRow.laid) (((Rows.OpenSpec.upto Rows.modelMarredSpec).at F).post enc Tryz.prog Tryz.f12 false true false false) := by
  have hx : ∃ places, DataW.whole enc Tryz.prog ((World.laidAll Tryz.prog os Rows.modelMarredUptoRow.laid).forCall (fun _ _ => 0) ⟨#[], #[.agg #[.string ⟨#[]⟩, .slice none 0 0, .string ⟨#[]⟩, .bool false, .slice none 0 0, .slice none 0 0, .slice none 0 0], .int .i64 0, .int .i64 0], []⟩).memory Tryz.f12.params.toList (Rows.OpenSpec.upto Rows.modelMarredSpec).vars false (#[.agg #[.string ⟨#[]⟩, .slice none 0 0, .string ⟨#[]⟩, .bool false, .slice none 0 0, .slice none 0 0, .slice none 0 0], .int .i64 0, .int .i64 0] : Array Value).toList 8 = some ([.agg [.lit (.string []), .nil, .lit (.string []), .lit (.bool false), .nil, .nil, .nil], .lit (.int .i64 0), .lit (.int .i64 0)], [], places) := ⟨[], by kernel_rfl⟩
  obtain ⟨places, hx⟩ := hx
  refine returnsInHanded_of_row (C := Tryz.checked) (s := Rows.OpenSpec.upto Rows.modelMarredSpec) modelMarred_own started (by kernel_rfl) Tryz.func12
    (witness_row_at (enc := enc) (C := Tryz.checked) false (World.laidAll Tryz.prog os Rows.modelMarredUptoRow.laid) #[.agg #[.string ⟨#[]⟩, .slice none 0 0, .string ⟨#[]⟩, .bool false, .slice none 0 0, .slice none 0 0, .slice none 0 0], .int .i64 0, .int .i64 0] (World.laidAll_os _ _ _) (by kernel_rfl) (by kernel_rfl) (by kernel_rfl)
      (OpenSpec.preRow_of_cond 8 hx (by kernel_rfl) (fun k hk => by cases hk; kernel_rfl) (by kernel_rfl) (by rw [MakeChecks.laidMetH_plain _ _ _ (by kernel_rfl)]; exact laidMet_laidAll _ (by kernel_rfl) (by kernel_rfl)))) ?_
  intro W base args ds gs before hval hW _ hcond _ hL _ _
  obtain ⟨ls, hls, hlaw⟩ := modelMarred_law
  have hb : Rows.uptoBulkAll (ds ++ gs) ≤ 1048576 := of_decide_eq_true (hcond _ rfl)
  exact law_calls (s := Rows.modelMarredSpec) (n := 9) (tb := 4) (B := 1048576) tok (by unfold maxLen; omega) (ts := [27, 3, 3]) (by rw [Tryz.params12]) (by kernel_rfl) Tryz.underlying4 rfl (fun ds h => match ds, h with | [d0, d1, d2], _ => rfl) modelMarred_laid
    (by intro t ht; simp only [List.mem_cons, List.not_mem_nil, or_false] at ht; rcases ht with rfl | rfl | rfl <;> exact ⟨by kernel_rfl, of_decide_eq_true (by kernel_rfl)⟩) hls hlaw W base args ds gs before hval hW (.inr hb) (glM hL)
theorem and_t {a b : Bool} (h : a = true) (g : b = true) : (a && b) = true := by rw [h, g]; rfl
set_option maxHeartbeats 16000000 in
theorem modelMarredUpto_closed : joinedFacts Tryz.prog 12 Tryz.f12 (Rows.OpenSpec.upto Rows.modelMarredSpec).bare Rows.modelMarredUptoRow = true := by
  unfold joinedFacts
  repeat' (with_reducible refine and_t ?_ ?_)
  all_goals as_aux_lemma => kernel_rfl
theorem modelMarredUpto_named : Tryz.prog.funcNamed "reach/reachlaw7.ModelMarred" = some 12 := by kernel_rfl
theorem modelMarredUpto_inst : Tryz.f12.isInstance Tryz.prog Rows.modelMarredUptoRow.origin Rows.modelMarredUptoRow.targs := of_decide_eq_true (by kernel_rfl)
theorem modelMarredUpto_wrap : Tryz.f12.isWrapper Tryz.prog Rows.modelMarredUptoRow.wrapper Rows.modelMarredUptoRow.mainSum := by unfold Func.isWrapper; first | (rw [if_pos (by decide +kernel)]; kernel_rfl) | (rw [if_neg (by decide +kernel)]; exact ⟨rfl, rfl⟩)
theorem modelMarredUpto_row : Rows.ModelMarredUptoSaid :=
  OpenClaim.holds_of_cond 12 Tryz.f12 rfl rfl rfl rfl rfl rfl rfl ⟨rfl, rfl, rfl, rfl, rfl⟩ rfl rfl rfl rfl rfl modelMarredUpto_named Tryz.func12 modelMarredUpto_closed
    modelMarredUpto_inst modelMarredUpto_wrap
    (fun os started H enc _ F => by rw [OpenClaim.pre_eq_preRow]; exact modelMarredUpto_lifted os started H enc F)
theorem modelMarredUpto_holds : Rows.ModelMarredUptoCardSaid :=
  Claim7.holds_tied_plain_at .later [] [.data, .data, .data, .data, .data, .pinned] true (true, "55fd007a57e6257c37106d6028d0cd1c2f84e822469a0fd2519b7ebe23b1c018") true
    modelMarredUpto_row (fun _ h => by cases h) (by as_aux_lemma => kernel_rfl) (fun _ h => by cases h) modelMarredUpto_row_tie rfl ⟨rfl, rfl⟩ (by as_aux_lemma => kernel_rfl) rfl
    (fun f fn hf hfn => by
      obtain rfl : f = 12 := Option.some.inj ((show Tryz.prog.funcNamed "reach/reachlaw7.ModelMarred" = some 12 by as_aux_lemma => kernel_rfl).symm.trans hf) |>.symm
      obtain rfl : fn = Tryz.f12 := (Option.some.inj (Tryz.func12.symm.trans hfn)).symm
      exact ⟨by as_aux_lemma => kernel_rfl, fun j t ht => by
        rw [Tryz.params12] at ht
        have hm : t ∈ [27, 3, 3] := by simpa using Array.mem_of_getElem? ht
        have hall : ([27, 3, 3].all fun u => !Tryz.prog.wantsStandIn u) = true := by as_aux_lemma => kernel_rfl
        exact (show Tryz.prog.wantsStandIn t = false by simpa using List.all_eq_true.1 hall t hm)⟩)
    (by as_aux_lemma => kernel_rfl)
end Go.Proofs.YtcglkonooeddfaaGreatDoor
