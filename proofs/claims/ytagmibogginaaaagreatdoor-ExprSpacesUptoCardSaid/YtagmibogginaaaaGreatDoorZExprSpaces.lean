/- ExprSpacesUpto: whatever the input, where what it reads is of bulk at most 1048576, the law answers true, and the input reads as it did; the listed tables of the library are tied to the program's text. -/
import Derived.Test.YtagmibogginaaaaGreatDoorPOG
import Derived.Test.YtagmibogginaaaaGreatDoorRows
import Derived.Test.YtagmibogginaaaaGreatDoorTie
import Derived.Test.YtagmibogginaaaaGreatDoorCards
import Derived.ProofKit
import Derived.OpenShut
import Derived.LaidMore
import Derived.Lay
import Derived.SevenTiedAt
import Derived.Stop.Joined
import Derived.Deep.DeepHandedRow
namespace Go.Proofs.YtagmibogginaaaaGreatDoor
open Go Go.Vx Go.ChangeShapes Go.WideShapes Go.ChangeAt Go.RowKit
theorem exprSpaces_own : ownKnob Tryz.prog.godebug = none := by kernel_rfl
theorem exprSpaces_laid : laidOutB Tryz.prog = true := by kernel_rfl
theorem exprSpaces_law : ∃ ls, shapes T 9 [22, 23] = some ls ∧ ∀ xs, TyAs T 1048576 [22, 23] ls xs → FSpec Tryz.prog T 5 xs (fun d _ => d = .b True) := exprSpaces_ats
set_option maxRecDepth 100000 in
theorem exprSpacesUpto_lifted (os : Os) (started : os.Started) (H : Type) (enc : TypeId × Value → H) (F : Stop.Interp) :
    ReturnsInHanded {} Tryz.checked os 5 .any ((Rows.OpenSpec.upto Rows.exprSpacesSpec).preRow enc Tryz.prog Tryz.f5 Rows.exprSpacesUptoRow.domain false Rows.exprSpacesUptoRow.laid) (((Rows.OpenSpec.upto Rows.exprSpacesSpec).at F).post enc Tryz.prog Tryz.f5 false true false false) := by
  have hx : ∃ places, DataW.whole enc Tryz.prog ((World.laidAll Tryz.prog os Rows.exprSpacesUptoRow.laid).forCall (fun _ _ => 0) ⟨#[], #[.slice none 0 0, .slice none 0 0], []⟩).memory Tryz.f5.params.toList (Rows.OpenSpec.upto Rows.exprSpacesSpec).vars false (#[.slice none 0 0, .slice none 0 0] : Array Value).toList 8 = some ([.nil, .nil], [], places) := ⟨[], by kernel_rfl⟩
  obtain ⟨places, hx⟩ := hx
  refine returnsInHanded_of_row (C := Tryz.checked) (s := Rows.OpenSpec.upto Rows.exprSpacesSpec) exprSpaces_own started (by kernel_rfl) Tryz.func5
    (witness_row_at (enc := enc) (C := Tryz.checked) false (World.laidAll Tryz.prog os Rows.exprSpacesUptoRow.laid) #[.slice none 0 0, .slice none 0 0] (World.laidAll_os _ _ _) (by kernel_rfl) (by kernel_rfl) (by kernel_rfl)
      (OpenSpec.preRow_of_cond 8 hx (by kernel_rfl) (fun k hk => by cases hk; kernel_rfl) (by kernel_rfl) (by rw [MakeChecks.laidMetH_plain _ _ _ (by kernel_rfl)]; exact laidMet_laidAll _ (by kernel_rfl) (by kernel_rfl)))) ?_
  intro W base args ds gs before hval hW _ hcond _ hL _ _
  obtain ⟨ls, hls, hlaw⟩ := exprSpaces_law
  have hb : Rows.uptoBulkAll (ds ++ gs) ≤ 1048576 := of_decide_eq_true (hcond _ rfl)
  exact law_calls (s := Rows.exprSpacesSpec) (n := 9) (tb := 4) (B := 1048576) tok (by unfold maxLen; omega) (ts := [22, 23]) (by rw [Tryz.params5]) (by kernel_rfl) Tryz.underlying4 rfl (fun ds h => match ds, h with | [d0, d1], _ => rfl) exprSpaces_laid
    (by intro t ht; simp only [List.mem_cons, List.not_mem_nil, or_false] at ht; rcases ht with rfl | rfl <;> exact ⟨by kernel_rfl, of_decide_eq_true (by kernel_rfl)⟩) hls hlaw W base args ds gs before hval hW (.inr hb) (glUsedS hL)
theorem exprSpacesUpto_row : Rows.ExprSpacesUptoSaid :=
  OpenClaim.holds_of_cond 5 Tryz.f5 rfl rfl rfl rfl rfl rfl rfl ⟨rfl, rfl, rfl, rfl, rfl⟩ rfl rfl rfl rfl rfl (by kernel_rfl) Tryz.func5 (by kernel_rfl)
    (of_decide_eq_true (by kernel_rfl)) (by unfold Func.isWrapper; first | (rw [if_pos (by decide +kernel)]; kernel_rfl) | (rw [if_neg (by decide +kernel)]; exact ⟨rfl, rfl⟩))
    (fun os started H enc _ F => by rw [OpenClaim.pre_eq_preRow]; exact exprSpacesUpto_lifted os started H enc F)
theorem exprSpacesUpto_holds : Rows.ExprSpacesUptoCardSaid :=
  Claim7.holds_tied_plain_at .later [] [.data, .data, .pinned] true (true, "ee2fd1db01eccfde1764c73bc1799eefdeb59c5a7ccfa920c48ed61ec7ee580a") true
    exprSpacesUpto_row (fun _ h => by cases h) (by kernel_rfl) (fun _ h => by cases h) exprSpacesUpto_row_tie rfl ⟨rfl, rfl⟩ (by kernel_rfl) rfl
    (fun f fn hf hfn => by
      obtain rfl : f = 5 := Option.some.inj ((show Tryz.prog.funcNamed "reach/reachlaw5.ExprSpaces" = some 5 by kernel_rfl).symm.trans hf) |>.symm
      obtain rfl : fn = Tryz.f5 := (Option.some.inj (Tryz.func5.symm.trans hfn)).symm
      exact ⟨by kernel_rfl, fun j t ht => by
        rw [Tryz.params5] at ht
        have hm : t ∈ [22, 23] := by simpa using Array.mem_of_getElem? ht
        have hall : ([22, 23].all fun u => !Tryz.prog.wantsStandIn u) = true := by kernel_rfl
        exact (show Tryz.prog.wantsStandIn t = false by simpa using List.all_eq_true.1 hall t hm)⟩)
    (by kernel_rfl)
end Go.Proofs.YtagmibogginaaaaGreatDoor
