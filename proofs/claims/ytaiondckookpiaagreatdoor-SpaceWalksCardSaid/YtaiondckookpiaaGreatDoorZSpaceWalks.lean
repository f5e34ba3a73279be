/- SpaceWalks: whatever the input, the law answers true, and the input reads as it did; the listed tables of the library are tied to the program's text. -/
import Derived.Test.YtaiondckookpiaaGreatDoorPKG
import Derived.Test.YtaiondckookpiaaGreatDoorRows
import Derived.Test.YtaiondckookpiaaGreatDoorTie
import Derived.Test.YtaiondckookpiaaGreatDoorCards
import Derived.ProofKit
import Derived.OpenShut
import Derived.LaidMore
import Derived.Lay
import Derived.SevenTiedAt
import Derived.Stop.Joined
namespace Go.Proofs.YtaiondckookpiaaGreatDoor
open Go Go.Vx Go.ChangeShapes Go.WideShapes Go.ChangeAt Go.RowKit
theorem spaceWalks_own : ownKnob Tryz.prog.godebug = none := by kernel_rfl
theorem spaceWalks_laid : laidOutB Tryz.prog = true := by kernel_rfl
theorem spaceWalks_law : ∃ ls, shapes T 9 [3, 9, 3, 3] = some ls ∧ ∀ xs, TyAs T maxLen [3, 9, 3, 3] ls xs → FSpec Tryz.prog T 8 xs (fun d _ => d = .b True) := by
  refine ⟨_, rfl, fun xs h => ?_⟩
  obtain ⟨_, _, rfl, h0, h⟩ := as_cons h
  obtain ⟨_, _, rfl, h1, h⟩ := as_cons h
  obtain ⟨_, _, rfl, h2, h⟩ := as_cons h
  obtain ⟨_, _, rfl, h3, h⟩ := as_cons h
  obtain rfl := as_nil h
  obtain ⟨x0, rfl, b0⟩ := int_of (leaf h0 rfl)
  obtain ⟨x1, rfl, b1⟩ := str_of (leaf h1 rfl)
  obtain ⟨x2, rfl, b2⟩ := int_of (leaf h2 rfl)
  obtain ⟨x3, rfl, b3⟩ := int_of (leaf h3 rfl)
  exact walksLaw_at x0 x1 x2 x3
set_option maxRecDepth 100000 in
theorem spaceWalks_lifted (os : Os) (started : os.Started) (H : Type) (enc : TypeId × Value → H) :
    ReturnsInHanded {} Tryz.checked os 8 .any (fun w args => (Rows.spaceWalksSpec.pre enc Tryz.prog Tryz.f8 Rows.spaceWalksRow.domain false w args ∧ laidMetH Tryz.prog Rows.spaceWalksRow.laid w) ∧ sizedMet enc Tryz.prog Tryz.f8 (OpenSpec.ofChange Rows.spaceWalksSpec) false w args)
      (Rows.spaceWalksSpec.post enc Tryz.prog Tryz.f8 false true false false) := by
  refine returnsInHanded_of_change_and (C := Tryz.checked) (X := fun w _ => laidMetH Tryz.prog Rows.spaceWalksRow.laid w) (fun _ _ _ hh h => h.of_heap hh) spaceWalks_own started (by kernel_rfl) Tryz.func8
    (ChangeSpec.witness_shaped (enc := enc) (C := Tryz.checked) (os := os) (X := fun w _ => laidMetH Tryz.prog Rows.spaceWalksRow.laid w) false (World.laidAll Tryz.prog os Rows.spaceWalksRow.laid) #[.int .i64 0, .string ⟨#[]⟩, .int .i64 0, .int .i64 0] 8 (World.laidAll_os _ _ _)
      (World.shaped_of_ZipB (by kernel_rfl) (by kernel_rfl)) (by kernel_rfl) (by kernel_rfl) (by kernel_rfl)
      (by rw [MakeChecks.laidMetH_plain _ _ _ (by kernel_rfl)]; exact laidMet_laidAll _ (by kernel_rfl) (by kernel_rfl))) ?_
  intro W base args ds gs before hval hW _ _ _ _
  obtain ⟨ls, hls, hlaw⟩ := spaceWalks_law
  exact law_calls (n := 9) (tb := 4) tok (Nat.le_refl _) (ts := [3, 9, 3, 3]) (by rw [Tryz.params8]) (by kernel_rfl) Tryz.underlying4 rfl (fun ds h => match ds, h with | [d0, d1, d2, d3], _ => rfl) spaceWalks_laid
    (by intro t ht; simp only [List.mem_cons, List.not_mem_nil, or_false] at ht; rcases ht with rfl | rfl | rfl | rfl <;> exact ⟨by kernel_rfl, of_decide_eq_true (by kernel_rfl)⟩) hls hlaw W base args ds gs before hval hW (.inl rfl)
theorem spaceWalks_row : Rows.SpaceWalksSaid :=
  OpenClaim.holds_of_wide 8 Tryz.f8 rfl rfl rfl rfl rfl rfl rfl ⟨rfl, rfl, rfl, rfl, rfl⟩ rfl rfl rfl rfl rfl (by kernel_rfl) Tryz.func8 (by kernel_rfl)
    (of_decide_eq_true (by kernel_rfl)) (by unfold Func.isWrapper; first | (rw [if_pos (by decide +kernel)]; kernel_rfl) | (rw [if_neg (by decide +kernel)]; exact ⟨rfl, rfl⟩))
    (fun os started H enc _ => spaceWalks_lifted os started H enc)
theorem spaceWalks_holds : Rows.SpaceWalksCardSaid :=
  Claim7.holds_tied_plain_at .later [] [.data, .pinned] true (true, "ac47d0717ad9efede2c5edf03595cd16bb091d140aad46e06def2b5a1f304c5b") true
    spaceWalks_row (fun _ h => by cases h) (by kernel_rfl) (fun _ h => by cases h) spaceWalks_row_tie rfl ⟨rfl, rfl⟩ (by kernel_rfl) rfl
    (fun f fn hf hfn => by
      obtain rfl : f = 8 := Option.some.inj ((show Tryz.prog.funcNamed "reach/reachlaw2.SpaceWalks" = some 8 by kernel_rfl).symm.trans hf) |>.symm
      obtain rfl : fn = Tryz.f8 := (Option.some.inj (Tryz.func8.symm.trans hfn)).symm
      exact ⟨by kernel_rfl, fun j t ht => by
        rw [Tryz.params8] at ht
        have hm : t ∈ [3, 9, 3, 3] := by simpa using Array.mem_of_getElem? ht
        have hall : ([3, 9, 3, 3].all fun u => !Tryz.prog.wantsStandIn u) = true := by kernel_rfl
        exact (show Tryz.prog.wantsStandIn t = false by simpa using List.all_eq_true.1 hall t hm)⟩)
    (by kernel_rfl)
end Go.Proofs.YtaiondckookpiaaGreatDoor
