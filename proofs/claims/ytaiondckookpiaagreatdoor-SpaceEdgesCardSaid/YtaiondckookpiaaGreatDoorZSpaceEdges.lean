/- SpaceEdges: whatever the input, the law answers true, and the input reads as it did; the listed tables of the library are tied to the program's text. -/
import Derived.Test.YtaiondckookpiaaGreatDoorPGG
import Derived.Test.YtaiondckookpiaaGreatDoorRows
import Derived.Test.YtaiondckookpiaaGreatDoorTie
import Derived.Test.YtaiondckookpiaaGreatDoorCards
import Derived.ProofKit
import Derived.OpenShut
import Derived.LaidMore
import Derived.Lay
import Derived.SevenTiedAt
import Derived.Stop.Joined
namespace Go.Proofs.YtaiondckookpiaaGreatDoor
open Go Go.Vx Go.ChangeShapes Go.WideShapes Go.ChangeAt Go.RowKit
theorem spaceEdges_own : ownKnob Tryz.prog.godebug = none := by kernel_rfl
theorem spaceEdges_laid : laidOutB Tryz.prog = true := by kernel_rfl
theorem spaceEdges_law : ∃ ls, shapes T 9 [] = some ls ∧ ∀ xs, TyAs T maxLen [] ls xs → FSpec Tryz.prog T 16 xs (fun d _ => d = .b True) := by
  refine ⟨_, rfl, fun xs h => ?_⟩
  obtain rfl := as_nil h
  exact edgesLaw_at 
set_option maxRecDepth 100000 in
theorem spaceEdges_lifted (os : Os) (started : os.Started) (H : Type) (enc : TypeId × Value → H) :
    ReturnsInHanded {} Tryz.checked os 16 .any (fun w args => (Rows.spaceEdgesSpec.pre enc Tryz.prog Tryz.f16 Rows.spaceEdgesRow.domain false w args ∧ laidMetH Tryz.prog Rows.spaceEdgesRow.laid w) ∧ sizedMet enc Tryz.prog Tryz.f16 (OpenSpec.ofChange Rows.spaceEdgesSpec) false w args)
      (Rows.spaceEdgesSpec.post enc Tryz.prog Tryz.f16 false true false false) := by
  refine returnsInHanded_of_change_and (C := Tryz.checked) (X := fun w _ => laidMetH Tryz.prog Rows.spaceEdgesRow.laid w) (fun _ _ _ hh h => h.of_heap hh) spaceEdges_own started (by kernel_rfl) Tryz.func16
    (ChangeSpec.witness_shaped (enc := enc) (C := Tryz.checked) (os := os) (X := fun w _ => laidMetH Tryz.prog Rows.spaceEdgesRow.laid w) false (World.laidAll Tryz.prog os Rows.spaceEdgesRow.laid) #[] 8 (World.laidAll_os _ _ _)
      (World.shaped_of_ZipB (by kernel_rfl) (by kernel_rfl)) (by kernel_rfl) (by kernel_rfl) (by kernel_rfl)
      (by rw [MakeChecks.laidMetH_plain _ _ _ (by kernel_rfl)]; exact laidMet_laidAll _ (by kernel_rfl) (by kernel_rfl))) ?_
  intro W base args ds gs before hval hW _ _ _ _
  obtain ⟨ls, hls, hlaw⟩ := spaceEdges_law
  exact law_calls (n := 9) (tb := 4) tok (Nat.le_refl _) (ts := []) (by rw [Tryz.params16]) (by kernel_rfl) Tryz.underlying4 rfl (fun ds h => match ds, h with | [], _ => rfl) spaceEdges_laid
    (by intro t ht; cases ht) hls hlaw W base args ds gs before hval hW (.inl rfl)
theorem spaceEdges_row : Rows.SpaceEdgesSaid :=
  OpenClaim.holds_of_wide 16 Tryz.f16 rfl rfl rfl rfl rfl rfl rfl ⟨rfl, rfl, rfl, rfl, rfl⟩ rfl rfl rfl rfl rfl (by kernel_rfl) Tryz.func16 (by kernel_rfl)
    (of_decide_eq_true (by kernel_rfl)) (by unfold Func.isWrapper; first | (rw [if_pos (by decide +kernel)]; kernel_rfl) | (rw [if_neg (by decide +kernel)]; exact ⟨rfl, rfl⟩))
    (fun os started H enc _ => spaceEdges_lifted os started H enc)
theorem spaceEdges_holds : Rows.SpaceEdgesCardSaid :=
  Claim7.holds_tied_plain_at .later [] [.data, .pinned] true (true, "ac47d0717ad9efede2c5edf03595cd16bb091d140aad46e06def2b5a1f304c5b") true
    spaceEdges_row (fun _ h => by cases h) (by kernel_rfl) (fun _ h => by cases h) spaceEdges_row_tie rfl ⟨rfl, rfl⟩ (by kernel_rfl) rfl
    (fun f fn hf hfn => by
      obtain rfl : f = 16 := Option.some.inj ((show Tryz.prog.funcNamed "reach/reachlaw2.SpaceEdges" = some 16 by kernel_rfl).symm.trans hf) |>.symm
      obtain rfl : fn = Tryz.f16 := (Option.some.inj (Tryz.func16.symm.trans hfn)).symm
      exact ⟨by kernel_rfl, fun j t ht => by
        rw [Tryz.params16] at ht
        have hm : t ∈ [] := by simpa using Array.mem_of_getElem? ht
        have hall : ([].all fun u => !Tryz.prog.wantsStandIn u) = true := by kernel_rfl
        exact (show Tryz.prog.wantsStandIn t = false by simpa using List.all_eq_true.1 hall t hm)⟩)
    (by kernel_rfl)
end Go.Proofs.YtaiondckookpiaaGreatDoor
