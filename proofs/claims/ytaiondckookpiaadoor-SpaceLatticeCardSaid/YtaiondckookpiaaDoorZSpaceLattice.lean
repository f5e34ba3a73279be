/- SpaceLattice: whatever the input, the law answers true, and the input reads as it did; the listed tables of the library are tied to the program's text. -/
import Derived.Test.YtaiondckookpiaaDoorPTE
import Derived.Test.YtaiondckookpiaaDoorRows
import Derived.Test.YtaiondckookpiaaDoorTie
import Derived.Test.YtaiondckookpiaaDoorCards
import Derived.ProofKit
import Derived.OpenShut
import Derived.LaidMore
import Derived.Lay
import Derived.SevenTiedAt
import Derived.Stop.Joined
namespace Go.Proofs.YtaiondckookpiaaDoor
open Go Go.Vx Go.ChangeShapes Go.WideShapes Go.ChangeAt Go.RowKit
theorem spaceLattice_own : ownKnob Tryd.prog.godebug = none := by kernel_rfl
theorem spaceLattice_laid : laidOutB Tryd.prog = true := by kernel_rfl
theorem spaceLattice_law : ∃ ls, shapes T 9 [3, 9, 9, 9] = some ls ∧ ∀ xs, TyAs T maxLen [3, 9, 9, 9] ls xs → FSpec Tryd.prog T 5 xs (fun d _ => d = .b True) := by
  refine ⟨_, rfl, fun xs h => ?_⟩
  obtain ⟨_, _, rfl, h0, h⟩ := as_cons h
  obtain ⟨_, _, rfl, h1, h⟩ := as_cons h
  obtain ⟨_, _, rfl, h2, h⟩ := as_cons h
  obtain ⟨_, _, rfl, h3, h⟩ := as_cons h
  obtain rfl := as_nil h
  obtain ⟨x0, rfl, b0⟩ := int_of (leaf h0 rfl)
  obtain ⟨x1, rfl, b1⟩ := str_of (leaf h1 rfl)
  obtain ⟨x2, rfl, b2⟩ := str_of (leaf h2 rfl)
  obtain ⟨x3, rfl, b3⟩ := str_of (leaf h3 rfl)
  exact latticeLaw_at x0 x1 x2 x3
set_option maxRecDepth 100000 in
theorem spaceLattice_lifted (os : Os) (started : os.Started) (H : Type) (enc : TypeId × Value → H) :
    ReturnsInHanded {} Tryd.checked os 5 .any (fun w args => (Rows.spaceLatticeSpec.pre enc Tryd.prog Tryd.f5 Rows.spaceLatticeRow.domain false w args ∧ laidMetH Tryd.prog Rows.spaceLatticeRow.laid w) ∧ sizedMet enc Tryd.prog Tryd.f5 (OpenSpec.ofChange Rows.spaceLatticeSpec) false w args)
      (Rows.spaceLatticeSpec.post enc Tryd.prog Tryd.f5 false true false false) := by
  refine returnsInHanded_of_change_and (C := Tryd.checked) (X := fun w _ => laidMetH Tryd.prog Rows.spaceLatticeRow.laid w) (fun _ _ _ hh h => h.of_heap hh) spaceLattice_own started (by kernel_rfl) Tryd.func5
    (ChangeSpec.witness_shaped (enc := enc) (C := Tryd.checked) (os := os) (X := fun w _ => laidMetH Tryd.prog Rows.spaceLatticeRow.laid w) false (World.laidAll Tryd.prog os Rows.spaceLatticeRow.laid) #[.int .i64 0, .string ⟨#[]⟩, .string ⟨#[]⟩, .string ⟨#[]⟩] 8 (World.laidAll_os _ _ _)
      (World.shaped_of_ZipB (by kernel_rfl) (by kernel_rfl)) (by kernel_rfl) (by kernel_rfl) (by kernel_rfl)
      (by rw [MakeChecks.laidMetH_plain _ _ _ (by kernel_rfl)]; exact laidMet_laidAll _ (by kernel_rfl) (by kernel_rfl))) ?_
  intro W base args ds gs before hval hW _ _ _ _
  obtain ⟨ls, hls, hlaw⟩ := spaceLattice_law
  exact law_calls (n := 9) (tb := 4) tok (Nat.le_refl _) (ts := [3, 9, 9, 9]) (by rw [Tryd.params5]) (by kernel_rfl) Tryd.underlying4 rfl (fun ds h => match ds, h with | [d0, d1, d2, d3], _ => rfl) spaceLattice_laid
    (by intro t ht; simp only [List.mem_cons, List.not_mem_nil, or_false] at ht; rcases ht with rfl | rfl | rfl | rfl <;> exact ⟨by kernel_rfl, of_decide_eq_true (by kernel_rfl)⟩) hls hlaw W base args ds gs before hval hW (.inl rfl)
theorem spaceLattice_row : Rows.SpaceLatticeSaid :=
  OpenClaim.holds_of_wide 5 Tryd.f5 rfl rfl rfl rfl rfl rfl rfl ⟨rfl, rfl, rfl, rfl, rfl⟩ rfl rfl rfl rfl rfl (by kernel_rfl) Tryd.func5 (by kernel_rfl)
    (of_decide_eq_true (by kernel_rfl)) (by unfold Func.isWrapper; first | (rw [if_pos (by decide +kernel)]; kernel_rfl) | (rw [if_neg (by decide +kernel)]; exact ⟨rfl, rfl⟩))
    (fun os started H enc _ => spaceLattice_lifted os started H enc)
theorem spaceLattice_holds : Rows.SpaceLatticeCardSaid :=
  Claim7.holds_tied_plain_at .later [] [.data, .pinned] true (true, "8d1fb99a9b635a7dabc5283a99177f73d7ac36fc8e4ca3b3cd378ab14852a8c6") true
    spaceLattice_row (fun _ h => by cases h) (by kernel_rfl) (fun _ h => by cases h) spaceLattice_row_tie rfl ⟨rfl, rfl⟩ (by kernel_rfl) rfl
    (fun f fn hf hfn => by
      obtain rfl : f = 5 := Option.some.inj ((show Tryd.prog.funcNamed "reach/reachlaw2.SpaceLattice" = some 5 by kernel_rfl).symm.trans hf) |>.symm
      obtain rfl : fn = Tryd.f5 := (Option.some.inj (Tryd.func5.symm.trans hfn)).symm
      exact ⟨by kernel_rfl, fun j t ht => by
        rw [Tryd.params5] at ht
        have hm : t ∈ [3, 9, 9, 9] := by simpa using Array.mem_of_getElem? ht
        have hall : ([3, 9, 9, 9].all fun u => !Tryd.prog.wantsStandIn u) = true := by kernel_rfl
        exact (show Tryd.prog.wantsStandIn t = false by simpa using List.all_eq_true.1 hall t hm)⟩)
    (by kernel_rfl)
end Go.Proofs.YtaiondckookpiaaDoor
