/- SpacePlays: whatever the input, the law answers true, and the input reads as it did; the listed tables of the library are tied to the program's text. -/
import Derived.Test.YtaiondckookpiaaGreatDoorQEG
import Derived.Test.YtaiondckookpiaaGreatDoorRows
import Derived.Test.YtaiondckookpiaaGreatDoorTie
import Derived.Test.YtaiondckookpiaaGreatDoorCards
import Derived.ProofKit
import Derived.OpenShut
import Derived.LaidMore
import Derived.Lay
import Derived.SevenTiedAt
import Derived.Stop.Joined
import Derived.Deep.DeepHandedRow
namespace Go.Proofs.YtaiondckookpiaaGreatDoor
open Go Go.Vx Go.ChangeShapes Go.WideShapes Go.ChangeAt Go.RowKit
theorem spacePlays_own : ownKnob Tryz.prog.godebug = none := by kernel_rfl
theorem spacePlays_laid : laidOutB Tryz.prog = true := by kernel_rfl
theorem spacePlays_law : ∃ ls, shapes T 9 [89] = some ls ∧ ∀ xs, TyAs T maxLen [89] ls xs → FSpec Tryz.prog T 15 xs (fun d _ => d = .b True) := spacePlays_ats
set_option maxRecDepth 100000 in
theorem spacePlays_lifted (os : Os) (started : os.Started) (H : Type) (enc : TypeId × Value → H) :
    ReturnsInHanded {} Tryz.checked os 15 .any (fun w args => (Rows.spacePlaysSpec.pre enc Tryz.prog Tryz.f15 Rows.spacePlaysRow.domain false w args ∧ laidMetH Tryz.prog Rows.spacePlaysRow.laid w) ∧ sizedMet enc Tryz.prog Tryz.f15 (OpenSpec.ofChange Rows.spacePlaysSpec) false w args)
      (Rows.spacePlaysSpec.post enc Tryz.prog Tryz.f15 false true false false) := by
  refine returnsInHanded_of_change_and (C := Tryz.checked) (X := fun w _ => laidMetH Tryz.prog Rows.spacePlaysRow.laid w) (fun _ _ _ hh h => h.of_heap hh) spacePlays_own started (by kernel_rfl) Tryz.func15
    (ChangeSpec.witness_shaped (enc := enc) (C := Tryz.checked) (os := os) (X := fun w _ => laidMetH Tryz.prog Rows.spacePlaysRow.laid w) false (World.laidAll Tryz.prog os Rows.spacePlaysRow.laid) #[.slice none 0 0] 8 (World.laidAll_os _ _ _)
      (World.shaped_of_ZipB (by kernel_rfl) (by kernel_rfl)) (by kernel_rfl) (by kernel_rfl) (by kernel_rfl)
      (by rw [MakeChecks.laidMetH_plain _ _ _ (by kernel_rfl)]; exact laidMet_laidAll _ (by kernel_rfl) (by kernel_rfl))) ?_
  intro W base args ds gs before hval hW _ _ _ _
  obtain ⟨ls, hls, hlaw⟩ := spacePlays_law
  exact law_calls (n := 9) (tb := 4) tok (Nat.le_refl _) (ts := [89]) (by rw [Tryz.params15]) (by kernel_rfl) Tryz.underlying4 rfl (fun ds h => match ds, h with | [d0], _ => rfl) spacePlays_laid
    (by intro t ht; simp only [List.mem_cons, List.not_mem_nil, or_false] at ht; rcases ht with rfl <;> exact ⟨by kernel_rfl, of_decide_eq_true (by kernel_rfl)⟩) hls hlaw W base args ds gs before hval hW (.inl rfl)
theorem spacePlays_row : Rows.SpacePlaysSaid :=
  OpenClaim.holds_of_wide 15 Tryz.f15 rfl rfl rfl rfl rfl rfl rfl ⟨rfl, rfl, rfl, rfl, rfl⟩ rfl rfl rfl rfl rfl (by kernel_rfl) Tryz.func15 (by kernel_rfl)
    (of_decide_eq_true (by kernel_rfl)) (by unfold Func.isWrapper; first | (rw [if_pos (by decide +kernel)]; kernel_rfl) | (rw [if_neg (by decide +kernel)]; exact ⟨rfl, rfl⟩))
    (fun os started H enc _ => spacePlays_lifted os started H enc)
theorem spacePlays_holds : Rows.SpacePlaysCardSaid :=
  Claim7.holds_tied_plain_at .later [] [.data, .pinned] true (true, "ac47d0717ad9efede2c5edf03595cd16bb091d140aad46e06def2b5a1f304c5b") true
    spacePlays_row (fun _ h => by cases h) (by as_aux_lemma => kernel_rfl) (fun _ h => by cases h) spacePlays_row_tie rfl ⟨rfl, rfl⟩ (by as_aux_lemma => kernel_rfl) rfl
    (fun f fn hf hfn => by
      obtain rfl : f = 15 := Option.some.inj ((show Tryz.prog.funcNamed "reach/reachlaw2.SpacePlays" = some 15 by as_aux_lemma => kernel_rfl).symm.trans hf) |>.symm
      obtain rfl : fn = Tryz.f15 := (Option.some.inj (Tryz.func15.symm.trans hfn)).symm
      exact ⟨by as_aux_lemma => kernel_rfl, fun j t ht => by
        rw [Tryz.params15] at ht
        have hm : t ∈ [89] := by simpa using Array.mem_of_getElem? ht
        have hall : ([89].all fun u => !Tryz.prog.wantsStandIn u) = true := by as_aux_lemma => kernel_rfl
        exact (show Tryz.prog.wantsStandIn t = false by simpa using List.all_eq_true.1 hall t hm)⟩)
    (by as_aux_lemma => kernel_rfl)
end Go.Proofs.YtaiondckookpiaaGreatDoor
