/- RibKeepsUpto: whatever the input, where what it reads is of bulk at most 1048576, the law answers true, and the input reads as it did; the listed tables of the library are tied to the program's text. -/
import Derived.Test.YtnlingegeangmaaGreatDoorQIL
import Derived.Test.YtnlingegeangmaaGreatDoorYRibKeeps
import Derived.Test.YtnlingegeangmaaGreatDoorRows
import Derived.Test.YtnlingegeangmaaGreatDoorTie
import Derived.Test.YtnlingegeangmaaGreatDoorCards
import Derived.ProofKit
import Derived.OpenShut
import Derived.LaidMore
import Derived.Lay
import Derived.SevenTiedAt
import Derived.Stop.Joined
import Derived.Deep.DeepHandedRow
namespace Go.Proofs.YtnlingegeangmaaGreatDoor
open Go Go.Vx Go.ChangeShapes Go.WideShapes Go.ChangeAt Go.RowKit
theorem Vb : ∃ ls, shapes T 9 [3, 55, 27, 3] = some ls ∧ ∀ xs, uQ T 1048576 [3, 55, 27, 3] ls xs → aF Tryz.prog T 5 xs (fun d _ => d = .b True) := Vp
set_option maxRecDepth 100000 in
theorem UY (os : Os) (started : os.Started) (H : Type) (enc : TypeId × Value → H) (F : Stop.Interp) :
    ReturnsInHanded {} Tryz.checked os 5 .any ((Rows.OpenSpec.upto Rows.ribKeepsSpec).preRow enc Tryz.prog Tryz.f5 Rows.ribKeepsUptoRow.domain false Rows.ribKeepsUptoRow.laid) (((Rows.OpenSpec.upto Rows.ribKeepsSpec).at F).post enc Tryz.prog Tryz.f5 false true false false) := by
  have hx : ∃ places, DataW.whole enc Tryz.prog ((World.laidAll Tryz.prog os Rows.ribKeepsUptoRow.laid).forCall (fun _ _ => 0) ⟨#[], #[.int .i64 0, .slice none 0 0, .agg #[.string ⟨#[]⟩, .slice none 0 0, .string ⟨#[]⟩, .bool false, .slice none 0 0, .slice none 0 0, .slice none 0 0], .int .i64 0], []⟩).memory Tryz.f5.params.toList (Rows.OpenSpec.upto Rows.ribKeepsSpec).vars false (#[.int .i64 0, .slice none 0 0, .agg #[.string ⟨#[]⟩, .slice none 0 0, .string ⟨#[]⟩, .bool false, .slice none 0 0, .slice none 0 0, .slice none 0 0], .int .i64 0] : Array Value).toList 8 = some ([.lit (.int .i64 0), .nil, .agg [.lit (.string []), .nil, .lit (.string []), .lit (.bool false), .nil, .nil, .nil], .lit (.int .i64 0)], [], places) := ⟨[], by kernel_rfl⟩
  obtain ⟨places, hx⟩ := hx
  refine returnsInHanded_of_row (C := Tryz.checked) (s := Rows.OpenSpec.upto Rows.ribKeepsSpec) Vq started (by kernel_rfl) Tryz.func5
    (witness_row_at (enc := enc) (C := Tryz.checked) false (World.laidAll Tryz.prog os Rows.ribKeepsUptoRow.laid) #[.int .i64 0, .slice none 0 0, .agg #[.string ⟨#[]⟩, .slice none 0 0, .string ⟨#[]⟩, .bool false, .slice none 0 0, .slice none 0 0, .slice none 0 0], .int .i64 0] (World.laidAll_os _ _ _) (by kernel_rfl) (by kernel_rfl) (by kernel_rfl)
      (OpenSpec.preRow_of_cond 8 hx (by kernel_rfl) (fun k hk => by cases hk; kernel_rfl) (by kernel_rfl) (by rw [MakeChecks.laidMetH_plain _ _ _ (by kernel_rfl)]; exact laidMet_laidAll _ (by kernel_rfl) (by kernel_rfl)))) ?_
  intro W base args ds gs before hval hW _ hcond _ hL _ _
  obtain ⟨ls, hls, Lj⟩ := Vb
  have hb : Rows.uptoBulkAll (ds ++ gs) ≤ 1048576 := of_decide_eq_true (hcond _ rfl)
  exact Xp (s := Rows.ribKeepsSpec) (n := 9) (tb := 4) (B := 1048576) tok (by unfold maxLen; omega) (ts := [3, 55, 27, 3]) (by rw [Tryz.params5]) (by kernel_rfl) Tryz.underlying4 rfl (fun ds h => match ds, h with | [d0, d1, d2, d3], _ => rfl) Va
    (by intro t ht; simp only [List.mem_cons, List.not_mem_nil, or_false] at ht; rcases ht with rfl | rfl | rfl | rfl <;> exact ⟨by kernel_rfl, of_decide_eq_true (by kernel_rfl)⟩) hls Lj W base args ds gs before hval hW (.inr hb) (glM hL)
theorem U3 : Rows.RibKeepsUptoSaid :=
  OpenClaim.holds_of_cond 5 Tryz.f5 rfl rfl rfl rfl rfl rfl rfl ⟨rfl, rfl, rfl, rfl, rfl⟩ rfl rfl rfl rfl rfl U0 Tryz.func5 UZ
    U1 U2
    (fun os started H enc _ F => by rw [OpenClaim.pre_eq_preRow]; exact UY os started H enc F)
theorem ribKeepsUpto_holds : Rows.RibKeepsUptoCardSaid :=
  Claim7.holds_tied_plain_at .later [] [.data, .data, .data, .data, .data, .pinned] true (true, "8068309ded801870df5edac077735ba35d6a3b98aa8772bc99d155a4fe76cc96") true
    U3 (fun _ h => by cases h) (by as_aux_lemma => kernel_rfl) (fun _ h => by cases h) ribKeepsUpto_row_tie rfl ⟨rfl, rfl⟩ (by as_aux_lemma => kernel_rfl) rfl
    (fun f fn hf hfn => by
      obtain rfl : f = 5 := Option.some.inj ((show Tryz.prog.funcNamed "reach/reachlaw8.RibKeeps" = some 5 by as_aux_lemma => kernel_rfl).symm.trans hf) |>.symm
      obtain rfl : fn = Tryz.f5 := (Option.some.inj (Tryz.func5.symm.trans hfn)).symm
      exact ⟨by as_aux_lemma => kernel_rfl, fun j t ht => by
        rw [Tryz.params5] at ht
        have hm : t ∈ [3, 55, 27, 3] := by simpa using Array.mem_of_getElem? ht
        have hall : ([3, 55, 27, 3].all fun u => !Tryz.prog.wantsStandIn u) = true := by as_aux_lemma => kernel_rfl
        exact (show Tryz.prog.wantsStandIn t = false by simpa using List.all_eq_true.1 hall t hm)⟩)
    (by as_aux_lemma => kernel_rfl)
end Go.Proofs.YtnlingegeangmaaGreatDoor
