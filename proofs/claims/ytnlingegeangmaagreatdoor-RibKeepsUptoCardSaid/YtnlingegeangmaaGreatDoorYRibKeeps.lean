/- The closed facts of the row of RibKeepsUpto. -/
import Derived.Test.YtnlingegeangmaaGreatDoorRows
import Derived.Test.YtnlingegeangmaaGreatDoorTie
import Derived.Test.YtnlingegeangmaaGreatDoorCards
import Derived.ProofKit
import Derived.OpenShut
import Derived.LaidMore
import Derived.Lay
import Derived.SevenTiedAt
import Derived.Stop.Joined
import Derived.Deep.DeepHandedRow
namespace Go.Proofs.YtnlingegeangmaaGreatDoor
open Go Go.ChangeShapes Go.WideShapes Go.ChangeAt Go.RowKit
theorem Vq : ownKnob Tryz.prog.godebug = none := by kernel_rfl
theorem Va : laidOutB Tryz.prog = true := by kernel_rfl
theorem acj {a b : Bool} (h : a = true) (g : b = true) : (a && b) = true := by rw [h, g]; rfl
set_option maxHeartbeats 16000000 in
theorem UZ : joinedFacts Tryz.prog 5 Tryz.f5 (Rows.OpenSpec.upto Rows.ribKeepsSpec).bare Rows.ribKeepsUptoRow = true := by
  unfold joinedFacts
  repeat' (with_reducible refine acj ?_ ?_)
  all_goals as_aux_lemma => kernel_rfl
theorem U0 : Tryz.prog.funcNamed "reach/reachlaw8.RibKeeps" = some 5 := by kernel_rfl
theorem U1 : Tryz.f5.isInstance Tryz.prog Rows.ribKeepsUptoRow.origin Rows.ribKeepsUptoRow.targs := of_decide_eq_true (by kernel_rfl)
theorem U2 : Tryz.f5.isWrapper Tryz.prog Rows.ribKeepsUptoRow.wrapper Rows.ribKeepsUptoRow.mainSum := by unfold Func.isWrapper; first | (rw [if_pos (by decide +kernel)]; kernel_rfl) | (rw [if_neg (by decide +kernel)]; exact ⟨rfl, rfl⟩)
end Go.Proofs.YtnlingegeangmaaGreatDoor
