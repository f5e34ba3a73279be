/- SpaceKeepsUpto: whatever the input, where what it reads is of bulk at most 1048576, the law answers true, and the input reads as it did; the listed tables of the library are tied to the program's text. -/
import Derived.Test.YtaiondckookpiaaDoorQFE
import Derived.Test.YtaiondckookpiaaDoorRows
import Derived.Test.YtaiondckookpiaaDoorTie
import Derived.Test.YtaiondckookpiaaDoorCards
import Derived.ProofKit
import Derived.OpenShut
import Derived.LaidMore
import Derived.Lay
import Derived.SevenTiedAt
import Derived.Stop.Joined
import Derived.Deep.DeepHandedRow
namespace Go.Proofs.YtaiondckookpiaaDoor
open Go Go.Vx Go.ChangeShapes Go.WideShapes Go.ChangeAt Go.RowKit
theorem spaceKeeps_own : ownKnob Tryd.prog.godebug = none := by kernel_rfl
theorem spaceKeeps_laid : laidOutB Tryd.prog = true := by kernel_rfl
theorem spaceKeeps_str {B : Nat} (r : List D) (h : TySs B [.str] r) : ∃ a : Str, r = [.s a] ∧ a.length ≤ B := by
  obtain ⟨_, _, rfl, h1, h⟩ := ss_cons h
  obtain rfl := ss_nil h
  obtain ⟨a, rfl, hl⟩ := str_of h1
  exact ⟨a, rfl, hl⟩
theorem spaceKeeps_law : ∃ ls, shapes T 9 [3, 40, 50] = some ls ∧ ∀ xs, TyAs T 1048576 [3, 40, 50] ls xs → FSpec Tryd.prog T 6 xs (fun d _ => d = .b True) := spaceKeeps_ats
set_option maxRecDepth 100000 in
theorem spaceKeepsUpto_lifted (os : Os) (started : os.Started) (H : Type) (enc : TypeId × Value → H) (F : Stop.Interp) :
    ReturnsInHanded {} Tryd.checked os 6 .any ((Rows.OpenSpec.upto Rows.spaceKeepsSpec).preRow enc Tryd.prog Tryd.f6 Rows.spaceKeepsUptoRow.domain false Rows.spaceKeepsUptoRow.laid) (((Rows.OpenSpec.upto Rows.spaceKeepsSpec).at F).post enc Tryd.prog Tryd.f6 false true false false) := by
  have hx : ∃ places, DataW.whole enc Tryd.prog ((World.laidAll Tryd.prog os Rows.spaceKeepsUptoRow.laid).forCall (fun _ _ => 0) ⟨#[], #[.int .i64 0, .slice none 0 0, .slice none 0 0], []⟩).memory Tryd.f6.params.toList (Rows.OpenSpec.upto Rows.spaceKeepsSpec).vars false (#[.int .i64 0, .slice none 0 0, .slice none 0 0] : Array Value).toList 8 = some ([.lit (.int .i64 0), .nil, .nil], [], places) := ⟨[], by kernel_rfl⟩
  obtain ⟨places, hx⟩ := hx
  refine returnsInHanded_of_row (C := Tryd.checked) (s := Rows.OpenSpec.upto Rows.spaceKeepsSpec) spaceKeeps_own started (by kernel_rfl) Tryd.func6
    (witness_row_at (enc := enc) (C := Tryd.checked) false (World.laidAll Tryd.prog os Rows.spaceKeepsUptoRow.laid) #[.int .i64 0, .slice none 0 0, .slice none 0 0] (World.laidAll_os _ _ _) (by kernel_rfl) (by kernel_rfl) (by kernel_rfl)
      (OpenSpec.preRow_of_cond 8 hx (by kernel_rfl) (fun k hk => by cases hk; kernel_rfl) (by kernel_rfl) (by rw [MakeChecks.laidMetH_plain _ _ _ (by kernel_rfl)]; exact laidMet_laidAll _ (by kernel_rfl) (by kernel_rfl)))) ?_
  intro W base args ds gs before hval hW _ hcond _ hL _ _
  obtain ⟨ls, hls, hlaw⟩ := spaceKeeps_law
  have hb : Rows.uptoBulkAll (ds ++ gs) ≤ 1048576 := of_decide_eq_true (hcond _ rfl)
  exact law_calls (s := Rows.spaceKeepsSpec) (n := 9) (tb := 4) (B := 1048576) tok (by unfold maxLen; omega) (ts := [3, 40, 50]) (by rw [Tryd.params6]) (by kernel_rfl) Tryd.underlying4 rfl (fun ds h => match ds, h with | [d0, d1, d2], _ => rfl) spaceKeeps_laid
    (by intro t ht; simp only [List.mem_cons, List.not_mem_nil, or_false] at ht; rcases ht with rfl | rfl | rfl <;> exact ⟨by kernel_rfl, of_decide_eq_true (by kernel_rfl)⟩) hls hlaw W base args ds gs before hval hW (.inr hb) 
theorem and_t {a b : Bool} (h : a = true) (g : b = true) : (a && b) = true := by rw [h, g]; rfl
set_option maxHeartbeats 16000000 in
theorem spaceKeepsUpto_closed : joinedFacts Tryd.prog 6 Tryd.f6 (Rows.OpenSpec.upto Rows.spaceKeepsSpec).bare Rows.spaceKeepsUptoRow = true := by
  unfold joinedFacts
  repeat' (with_reducible refine and_t ?_ ?_)
  all_goals as_aux_lemma => kernel_rfl
theorem spaceKeepsUpto_named : Tryd.prog.funcNamed "reach/reachlaw2.SpaceKeeps" = some 6 := by kernel_rfl
theorem spaceKeepsUpto_inst : Tryd.f6.isInstance Tryd.prog Rows.spaceKeepsUptoRow.origin Rows.spaceKeepsUptoRow.targs := of_decide_eq_true (by kernel_rfl)
theorem spaceKeepsUpto_wrap : Tryd.f6.isWrapper Tryd.prog Rows.spaceKeepsUptoRow.wrapper Rows.spaceKeepsUptoRow.mainSum := by unfold Func.isWrapper; first | (rw [if_pos (by decide +kernel)]; kernel_rfl) | (rw [if_neg (by decide +kernel)]; exact ⟨rfl, rfl⟩)
theorem spaceKeepsUpto_row : Rows.SpaceKeepsUptoSaid :=
  OpenClaim.holds_of_cond 6 Tryd.f6 rfl rfl rfl rfl rfl rfl rfl ⟨rfl, rfl, rfl, rfl, rfl⟩ rfl rfl rfl rfl rfl spaceKeepsUpto_named Tryd.func6 spaceKeepsUpto_closed
    spaceKeepsUpto_inst spaceKeepsUpto_wrap
    (fun os started H enc _ F => by rw [OpenClaim.pre_eq_preRow]; exact spaceKeepsUpto_lifted os started H enc F)
theorem spaceKeepsUpto_holds : Rows.SpaceKeepsUptoCardSaid :=
  Claim7.holds_tied_plain_at .later [] [.data, .pinned] true (true, "8d1fb99a9b635a7dabc5283a99177f73d7ac36fc8e4ca3b3cd378ab14852a8c6") true
    spaceKeepsUpto_row (fun _ h => by cases h) (by as_aux_lemma => kernel_rfl) (fun _ h => by cases h) spaceKeepsUpto_row_tie rfl ⟨rfl, rfl⟩ (by as_aux_lemma => kernel_rfl) rfl
    (fun f fn hf hfn => by
      obtain rfl : f = 6 := Option.some.inj ((show Tryd.prog.funcNamed "reach/reachlaw2.SpaceKeeps" = some 6 by as_aux_lemma => kernel_rfl).symm.trans hf) |>.symm
      obtain rfl : fn = Tryd.f6 := (Option.some.inj (Tryd.func6.symm.trans hfn)).symm
      exact ⟨by as_aux_lemma => kernel_rfl, fun j t ht => by
        rw [Tryd.params6] at ht
        have hm : t ∈ [3, 40, 50] := by simpa using Array.mem_of_getElem? ht
        have hall : ([3, 40, 50].all fun u => !Tryd.prog.wantsStandIn u) = true := by as_aux_lemma => kernel_rfl
        exact (show Tryd.prog.wantsStandIn t = false by simpa using List.all_eq_true.1 hall t hm)⟩)
    (by as_aux_lemma => kernel_rfl)
end Go.Proofs.YtaiondckookpiaaDoor
