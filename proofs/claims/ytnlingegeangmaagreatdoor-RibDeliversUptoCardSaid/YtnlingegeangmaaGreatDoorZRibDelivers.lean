/- RibDeliversUpto: whatever the input, where what it reads is of bulk at most 1048576, the law answers true, and the input reads as it did; the listed tables of the library are tied to the program's text. -/
import Derived.Test.YtnlingegeangmaaGreatDoorQHG
import Derived.Test.YtnlingegeangmaaGreatDoorRows
import Derived.Test.YtnlingegeangmaaGreatDoorTie
import Derived.Test.YtnlingegeangmaaGreatDoorCards
import Derived.ProofKit
import Derived.OpenShut
import Derived.LaidMore
import Derived.Lay
import Derived.SevenTiedAt
import Derived.Stop.Joined
import Derived.Deep.DeepHandedRow
namespace Go.Proofs.YtnlingegeangmaaGreatDoor
open Go Go.Vx Go.ChangeShapes Go.WideShapes Go.ChangeAt Go.RowKit
theorem ribDelivers_own : ownKnob Tryz.prog.godebug = none := by kernel_rfl
theorem ribDelivers_laid : laidOutB Tryz.prog = true := by kernel_rfl
theorem ribDelivers_lawR : ∃ ls, shapes T 9 [27, 3, 3] = some ls ∧ ∀ xs, TyAs T 1048576 [27, 3, 3] ls xs → FSpec Tryz.prog T 4 xs (fun d _ => d = .b True) := ribDelivers_ats
set_option maxRecDepth 100000 in
theorem ribDeliversUpto_lifted (os : Os) (started : os.Started) (H : Type) (enc : TypeId × Value → H) (F : Stop.Interp) :
    ReturnsInHanded {} Tryz.checked os 4 .any ((Rows.OpenSpec.upto Rows.ribDeliversSpec).preRow enc Tryz.prog Tryz.f4 Rows.ribDeliversUptoRow.domain false Rows.ribDeliversUptoRow.laid) (((Rows.OpenSpec.upto Rows.ribDeliversSpec).at F).post enc Tryz.prog Tryz.f4 false true false false) := by
  have hx : ∃ places, DataW.whole enc Tryz.prog ((World.laidAll Tryz.prog os Rows.ribDeliversUptoRow.laid).forCall (fun _ _ => 0) ⟨#[], #[.agg #[.string ⟨#[]⟩, .slice none 0 0, .string ⟨#[]⟩, .bool false, .slice none 0 0, .slice none 0 0, .slice none 0 0], .int .i64 0, .int .i64 0], []⟩).memory Tryz.f4.params.toList (Rows.OpenSpec.upto Rows.ribDeliversSpec).vars false (#[.agg #[.string ⟨#[]⟩, .slice none 0 0, .string ⟨#[]⟩, .bool false, .slice none 0 0, .slice none 0 0, .slice none 0 0], .int .i64 0, .int .i64 0] : Array Value).toList 8 = some ([.agg [.lit (.string []), .nil, .lit (.string []), .lit (.bool false), .nil, .nil, .nil], .lit (.int .i64 0), .lit (.int .i64 0)], [], places) := ⟨[], by kernel_rfl⟩
  obtain ⟨places, hx⟩ := hx
  refine returnsInHanded_of_row (C := Tryz.checked) (s := Rows.OpenSpec.upto Rows.ribDeliversSpec) ribDelivers_own started (by kernel_rfl) Tryz.func4
    (witness_row_at (enc := enc) (C := Tryz.checked) false (World.laidAll Tryz.prog os Rows.ribDeliversUptoRow.laid) #[.agg #[.string ⟨#[]⟩, .slice none 0 0, .string ⟨#[]⟩, .bool false, .slice none 0 0, .slice none 0 0, .slice none 0 0], .int .i64 0, .int .i64 0] (World.laidAll_os _ _ _) (by kernel_rfl) (by kernel_rfl) (by kernel_rfl)
      (OpenSpec.preRow_of_cond 8 hx (by kernel_rfl) (fun k hk => by cases hk; kernel_rfl) (by kernel_rfl) (by rw [MakeChecks.laidMetH_plain _ _ _ (by kernel_rfl)]; exact laidMet_laidAll _ (by kernel_rfl) (by kernel_rfl)))) ?_
  intro W base args ds gs before hval hW _ hcond _ hL _ _
  obtain ⟨ls, hls, hlaw⟩ := ribDelivers_lawR
  have hb : Rows.uptoBulkAll (ds ++ gs) ≤ 1048576 := of_decide_eq_true (hcond _ rfl)
  exact law_calls (s := Rows.ribDeliversSpec) (n := 9) (tb := 4) (B := 1048576) tok (by unfold maxLen; omega) (ts := [27, 3, 3]) (by rw [Tryz.params4]) (by kernel_rfl) Tryz.underlying4 rfl (fun ds h => match ds, h with | [d0, d1, d2], _ => rfl) ribDelivers_laid
    (by intro t ht; simp only [List.mem_cons, List.not_mem_nil, or_false] at ht; rcases ht with rfl | rfl | rfl <;> exact ⟨by kernel_rfl, of_decide_eq_true (by kernel_rfl)⟩) hls hlaw W base args ds gs before hval hW (.inr hb) (glM hL)
theorem and_t {a b : Bool} (h : a = true) (g : b = true) : (a && b) = true := by rw [h, g]; rfl
set_option maxHeartbeats 16000000 in
theorem ribDeliversUpto_closed : joinedFacts Tryz.prog 4 Tryz.f4 (Rows.OpenSpec.upto Rows.ribDeliversSpec).bare Rows.ribDeliversUptoRow = true := by
  unfold joinedFacts
  repeat' (with_reducible refine and_t ?_ ?_)
  all_goals as_aux_lemma => kernel_rfl
theorem ribDeliversUpto_named : Tryz.prog.funcNamed "reach/reachlaw8.RibDelivers" = some 4 := by kernel_rfl
theorem ribDeliversUpto_inst : Tryz.f4.isInstance Tryz.prog Rows.ribDeliversUptoRow.origin Rows.ribDeliversUptoRow.targs := of_decide_eq_true (by kernel_rfl)
theorem ribDeliversUpto_wrap : Tryz.f4.isWrapper Tryz.prog Rows.ribDeliversUptoRow.wrapper Rows.ribDeliversUptoRow.mainSum := by unfold Func.isWrapper; first | (rw [if_pos (by decide +kernel)]; kernel_rfl) | (rw [if_neg (by decide +kernel)]; exact ⟨rfl, rfl⟩)
theorem ribDeliversUpto_row : Rows.RibDeliversUptoSaid :=
  OpenClaim.holds_of_cond 4 Tryz.f4 rfl rfl rfl rfl rfl rfl rfl ⟨rfl, rfl, rfl, rfl, rfl⟩ rfl rfl rfl rfl rfl ribDeliversUpto_named Tryz.func4 ribDeliversUpto_closed
    ribDeliversUpto_inst ribDeliversUpto_wrap
    (fun os started H enc _ F => by rw [OpenClaim.pre_eq_preRow]; exact ribDeliversUpto_lifted os started H enc F)
theorem ribDeliversUpto_holds : Rows.RibDeliversUptoCardSaid :=
  Claim7.holds_tied_plain_at .later [] [.data, .data, .data, .data, .data, .pinned] true (true, "8068309ded801870df5edac077735ba35d6a3b98aa8772bc99d155a4fe76cc96") true
    ribDeliversUpto_row (fun _ h => by cases h) (by as_aux_lemma => kernel_rfl) (fun _ h => by cases h) ribDeliversUpto_row_tie rfl ⟨rfl, rfl⟩ (by as_aux_lemma => kernel_rfl) rfl
    (fun f fn hf hfn => by
      obtain rfl : f = 4 := Option.some.inj ((show Tryz.prog.funcNamed "reach/reachlaw8.RibDelivers" = some 4 by as_aux_lemma => kernel_rfl).symm.trans hf) |>.symm
      obtain rfl : fn = Tryz.f4 := (Option.some.inj (Tryz.func4.symm.trans hfn)).symm
      exact ⟨by as_aux_lemma => kernel_rfl, fun j t ht => by
        rw [Tryz.params4] at ht
        have hm : t ∈ [27, 3, 3] := by simpa using Array.mem_of_getElem? ht
        have hall : ([27, 3, 3].all fun u => !Tryz.prog.wantsStandIn u) = true := by as_aux_lemma => kernel_rfl
        exact (show Tryz.prog.wantsStandIn t = false by simpa using List.all_eq_true.1 hall t hm)⟩)
    (by as_aux_lemma => kernel_rfl)
end Go.Proofs.YtnlingegeangmaaGreatDoor
