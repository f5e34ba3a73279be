/- SpaceSpread: whatever the input, the law answers true, and the input reads as it did; the listed tables of the library are tied to the program's text. -/
import Derived.Test.YtaiondckookpiaaDoorPQF
import Derived.Test.YtaiondckookpiaaDoorRows
import Derived.Test.YtaiondckookpiaaDoorTie
import Derived.Test.YtaiondckookpiaaDoorCards
import Derived.ProofKit
import Derived.OpenShut
import Derived.LaidMore
import Derived.Lay
import Derived.SevenTiedAt
import Derived.Stop.Joined
namespace Go.Proofs.YtaiondckookpiaaDoor
open Go Go.Vx Go.ChangeShapes Go.WideShapes Go.ChangeAt Go.RowKit
theorem spaceSpread_own : ownKnob Tryd.prog.godebug = none := by kernel_rfl
theorem spaceSpread_laid : laidOutB Tryd.prog = true := by kernel_rfl
theorem spaceSpread_str {B : Nat} (r : List D) (h : TySs B [.str] r) : ∃ a : Str, r = [.s a] ∧ a.length ≤ B := by
  obtain ⟨_, _, rfl, h1, h⟩ := ss_cons h
  obtain rfl := ss_nil h
  obtain ⟨a, rfl, hl⟩ := str_of h1
  exact ⟨a, rfl, hl⟩
theorem spaceSpread_law : ∃ ls, shapes T 9 [3, 9, 40] = some ls ∧ ∀ xs, TyAs T maxLen [3, 9, 40] ls xs → FSpec Tryd.prog T 8 xs (fun d _ => d = .b True) := by
  refine ⟨_, rfl, fun xs h => ?_⟩
  obtain ⟨_, _, rfl, h0, h⟩ := as_cons h
  obtain ⟨_, _, rfl, h1, h⟩ := as_cons h
  obtain ⟨_, _, rfl, h2, h⟩ := as_cons h
  obtain rfl := as_nil h
  obtain ⟨x0, rfl, b0⟩ := int_of (leaf h0 rfl)
  obtain ⟨x1, rfl, b1⟩ := str_of (leaf h1 rfl)
  obtain ⟨x2, r2, rfl, b2, c2, d2⟩ := lst_of (leaf h2 rfl) spaceSpread_str
  exact spreadLaw_at x0 x1 x2 r2
set_option maxRecDepth 100000 in
theorem spaceSpread_lifted (os : Os) (started : os.Started) (H : Type) (enc : TypeId × Value → H) :
    ReturnsInHanded {} Tryd.checked os 8 .any (fun w args => (Rows.spaceSpreadSpec.pre enc Tryd.prog Tryd.f8 Rows.spaceSpreadRow.domain false w args ∧ laidMetH Tryd.prog Rows.spaceSpreadRow.laid w) ∧ sizedMet enc Tryd.prog Tryd.f8 (OpenSpec.ofChange Rows.spaceSpreadSpec) false w args)
      (Rows.spaceSpreadSpec.post enc Tryd.prog Tryd.f8 false true false false) := by
  refine returnsInHanded_of_change_and (C := Tryd.checked) (X := fun w _ => laidMetH Tryd.prog Rows.spaceSpreadRow.laid w) (fun _ _ _ hh h => h.of_heap hh) spaceSpread_own started (by kernel_rfl) Tryd.func8
    (ChangeSpec.witness_shaped (enc := enc) (C := Tryd.checked) (os := os) (X := fun w _ => laidMetH Tryd.prog Rows.spaceSpreadRow.laid w) false (World.laidAll Tryd.prog os Rows.spaceSpreadRow.laid) #[.int .i64 0, .string ⟨#[]⟩, .slice none 0 0] 8 (World.laidAll_os _ _ _)
      (World.shaped_of_ZipB (by kernel_rfl) (by kernel_rfl)) (by kernel_rfl) (by kernel_rfl) (by kernel_rfl)
      (by rw [MakeChecks.laidMetH_plain _ _ _ (by kernel_rfl)]; exact laidMet_laidAll _ (by kernel_rfl) (by kernel_rfl))) ?_
  intro W base args ds gs before hval hW _ _ _ _
  obtain ⟨ls, hls, hlaw⟩ := spaceSpread_law
  exact law_calls (n := 9) (tb := 4) tok (Nat.le_refl _) (ts := [3, 9, 40]) (by rw [Tryd.params8]) (by kernel_rfl) Tryd.underlying4 rfl (fun ds h => match ds, h with | [d0, d1, d2], _ => rfl) spaceSpread_laid
    (by intro t ht; simp only [List.mem_cons, List.not_mem_nil, or_false] at ht; rcases ht with rfl | rfl | rfl <;> exact ⟨by kernel_rfl, of_decide_eq_true (by kernel_rfl)⟩) hls hlaw W base args ds gs before hval hW (.inl rfl)
theorem spaceSpread_row : Rows.SpaceSpreadSaid :=
  OpenClaim.holds_of_wide 8 Tryd.f8 rfl rfl rfl rfl rfl rfl rfl ⟨rfl, rfl, rfl, rfl, rfl⟩ rfl rfl rfl rfl rfl (by kernel_rfl) Tryd.func8 (by kernel_rfl)
    (of_decide_eq_true (by kernel_rfl)) (by unfold Func.isWrapper; first | (rw [if_pos (by decide +kernel)]; kernel_rfl) | (rw [if_neg (by decide +kernel)]; exact ⟨rfl, rfl⟩))
    (fun os started H enc _ => spaceSpread_lifted os started H enc)
theorem spaceSpread_holds : Rows.SpaceSpreadCardSaid :=
  Claim7.holds_tied_plain_at .later [] [.data, .pinned] true (true, "8d1fb99a9b635a7dabc5283a99177f73d7ac36fc8e4ca3b3cd378ab14852a8c6") true
    spaceSpread_row (fun _ h => by cases h) (by kernel_rfl) (fun _ h => by cases h) spaceSpread_row_tie rfl ⟨rfl, rfl⟩ (by kernel_rfl) rfl
    (fun f fn hf hfn => by
      obtain rfl : f = 8 := Option.some.inj ((show Tryd.prog.funcNamed "reach/reachlaw2.SpaceSpread" = some 8 by kernel_rfl).symm.trans hf) |>.symm
      obtain rfl : fn = Tryd.f8 := (Option.some.inj (Tryd.func8.symm.trans hfn)).symm
      exact ⟨by kernel_rfl, fun j t ht => by
        rw [Tryd.params8] at ht
        have hm : t ∈ [3, 9, 40] := by simpa using Array.mem_of_getElem? ht
        have hall : ([3, 9, 40].all fun u => !Tryd.prog.wantsStandIn u) = true := by kernel_rfl
        exact (show Tryd.prog.wantsStandIn t = false by simpa using List.all_eq_true.1 hall t hm)⟩)
    (by kernel_rfl)
end Go.Proofs.YtaiondckookpiaaDoor
