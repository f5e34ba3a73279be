/- The walks and the plain laws that a law of spaces needs, part 4 of 5. -/
import Derived.Test.YtaiondckookpiaaDoorPTC
import Derived.Shelf.SlSortFuncK.WholeK
import Derived.Shelf.GgSortFunc.Tiny
import Derived.Ground.GgsProg
import Derived.Deep.QuietTactic
import Derived.Lib.RowBridge
import Derived.Lib.SortBridge
import Derived.Tactics
import Derived.Tactics2
set_option linter.unusedVariables false
set_option linter.unusedSimpArgs false
namespace Go.Proofs.YtaiondckookpiaaDoor
open Go Go.Vx
set_option maxHeartbeats 4000000 in
theorem text_at (t : Str) (ht : CT t) : FSpec Tryd.prog T 36 [.agg (crow t)] (fun r _ => r = .s t) := by
  have hlen := ht.len
  refine FSpec.of_ok tok Tryd.func36 rfl Tryd.call36 (by simp) ?_
  (try (conv => whnf)); repeat' (first | ((with_reducible_and_instances (first | refine nShr (by assumption) ?_ | refine nShl1' rfl (by assumption) ?_ | refine nAnd ?_ | refine nOr ?_ | refine nXor ?_ | refine nAndNot ?_ | refine nAnd1' rfl ?_)); conv => whnf) | refine Ok.seq ?_ | refine OkL.cons ?_ | ((first | refine Ok.region tok ?_ | refine Ok.region_draw tok follows (by kernel_rfl) ?_ | refine Ok.cond ?_); conv => whnf) | refine Ok.block ?_ | ((first | refine Ok.skip ?_ | refine Ok.exit ?_ | refine Ok.ret ?_ | refine nI ?_ | refine ix _ (by assumption) ?_ | refine ixI (by omega) (by assumption) ?_ | refine ix_new _ (by omega) fun _ _ => ?_ | refine ixI_new (by omega) (by omega) fun _ _ => ?_ | refine ⟨_, by assumption, ?_⟩ | refine Alt2.l (aI ?_) | refine Alt2.r (aI ?_)); conv => whnf) | (refine Ok.scope ?_) | ((first | refine Ok.label ?_ | refine rd rfl (by assumption) ?_ | refine ⟨_, .inl ⟨rfl, rfl⟩, ?_⟩ | refine ⟨_, _, rfl, rfl, ?_⟩); conv => whnf) | (refine ⟨fun _ => ?_, fun _ => ?_⟩ <;> (conv => whnf) <;> (try (exfalso; omega))) | ((first | refine aJ ?_ | refine num_any ?_ | refine ⟨_, rfl, ?_⟩); conv => whnf) | fail)
  refine Ok.loopU [1, 3, 9] [10] 1 1 (fun (i : Nat) => [.i .i64 (i : Nat)]) (fun (i : Nat) (_ : List (List D)) => [crow t]) (fun (i : Nat) (_ : Vx.Rows) => [some (5, (t.take i ++ List.replicate (t.length - i) 0).map bcell)]) (fun (i : Nat) => i ≤ t.length) (fun (i : Nat) => t.length - i) (0) (Nat.zero_le _) ?_; (conv => whnf); refine ⟨by ((conv => whnf); first | rfl | (simp [envCat, List.take_of_length_le, cells9, bcell]; done) | (simp [envCat, List.take_of_length_le, cells9, bcell]; rw [IntKind.wrap_i64]; omega)), ?_⟩
  rintro i hi
  have hll : (t.take i ++ List.replicate (t.length - i) (0 : UInt8)).length = t.length := by simp; omega
  have hlm : ((t.take i ++ List.replicate (t.length - i) (0 : UInt8)).map bcell).length = t.length := by rw [List.length_map, hll]
  (conv => whnf)
  by_cases hit : i < t.length
  · obtain ⟨b, hb⟩ : ∃ b, t[i]? = some b := ⟨_, List.getElem?_eq_getElem hit⟩
    obtain ⟨q, r, hqr, hr, hq⟩ := split64 i (by omega)
    have hrem := rem64 hqr hr
    have hquo := quo64 hqr hr (by omega)
    have hrr : ((r : Nat) : Int) = ((r : Nat) : Int) ∧ r < 64 := ⟨rfl, hr⟩
    have hca := at_word (f := car t) hqr hr
    have hoa := at_word (f := one t) hqr hr
    rw [(at_b hb).1] at hca
    rw [(at_b hb).2] at hoa
    have hfa := fill_at hit
    have hfs := fill_set hb
    rcases ht.cub b (List.mem_of_getElem? hb) with rfl | rfl | rfl
    · have hc := hca.2 rfl
      have ho : ¬ _ := fun e => absurd (hoa.1 e) (by decide)
      clear hca hoa
      rcases hq with rfl | rfl | rfl | rfl
      all_goals
        (try (conv => whnf)); repeat' (first | ((with_reducible_and_instances (first | refine nShr (by assumption) ?_ | refine nShl1' rfl (by assumption) ?_ | refine nAnd ?_ | refine nOr ?_ | refine nXor ?_ | refine nAndNot ?_ | refine nAnd1' rfl ?_)); conv => whnf) | refine Ok.seq ?_ | refine OkL.cons ?_ | ((first | refine Ok.region tok ?_ | refine ⟨_, (hquo.symm).symm, ?_⟩ | refine ⟨_, (hrem.symm).symm, ?_⟩ | refine Ok.region_draw tok follows (by kernel_rfl) ?_ | refine Ok.cond ?_); conv => whnf) | refine Ok.block ?_ | ((first | refine Ok.skip ?_ | refine Ok.exit ?_ | refine Ok.ret ?_ | refine nI ?_ | refine ix _ (by assumption) ?_ | refine ixI (by omega) (by assumption) ?_ | refine ix_new _ (by omega) fun _ _ => ?_ | refine ixI_new (by omega) (by omega) fun _ _ => ?_ | refine ⟨_, by assumption, ?_⟩ | refine Alt2.l (aI ?_) | refine Alt2.r (aI ?_)); conv => whnf) | (refine Ok.scope ?_) | ((first | refine Ok.label ?_ | refine rd rfl (by assumption) ?_ | refine ⟨_, .inl ⟨rfl, rfl⟩, ?_⟩ | refine ⟨_, _, rfl, rfl, ?_⟩); conv => whnf) | (refine ⟨fun _ => ?_, fun _ => ?_⟩ <;> (conv => whnf) <;> (try (exfalso; omega))) | ((first | refine aJ ?_ | refine num_any ?_ | refine ⟨_, rfl, ?_⟩); conv => whnf) | fail)
        refine Or.inr (Or.inr (Or.inl ?_)); (conv => whnf); refine ⟨_, _, Tryd.func64, rfl, Tryd.call64, ?_⟩; (conv => whnf)
        (try (conv => whnf)); repeat' (first | ((with_reducible_and_instances (first | refine nShr (by assumption) ?_ | refine nShl1' rfl (by assumption) ?_ | refine nAnd ?_ | refine nOr ?_ | refine nXor ?_ | refine nAndNot ?_ | refine nAnd1' rfl ?_)); conv => whnf) | refine Ok.seq ?_ | refine OkL.cons ?_ | ((first | refine Ok.region tok ?_ | refine ⟨_, (hquo.symm).symm, ?_⟩ | refine ⟨_, (hrem.symm).symm, ?_⟩ | refine Ok.region_draw tok follows (by kernel_rfl) ?_ | refine Ok.cond ?_); conv => whnf) | refine Ok.block ?_ | ((first | refine Ok.skip ?_ | refine Ok.exit ?_ | refine Ok.ret ?_ | refine nI ?_ | refine ix _ (by assumption) ?_ | refine ixI (by omega) (by assumption) ?_ | refine ix_new _ (by omega) fun _ _ => ?_ | refine ixI_new (by omega) (by omega) fun _ _ => ?_ | refine ⟨_, by assumption, ?_⟩ | refine Alt2.l (aI ?_) | refine Alt2.r (aI ?_)); conv => whnf) | (refine Ok.scope ?_) | ((first | refine Ok.label ?_ | refine rd rfl (by assumption) ?_ | refine ⟨_, .inl ⟨rfl, rfl⟩, ?_⟩ | refine ⟨_, _, rfl, rfl, ?_⟩); conv => whnf) | (refine ⟨fun _ => ?_, fun _ => ?_⟩ <;> (conv => whnf) <;> (try (exfalso; omega))) | ((first | refine aJ ?_ | refine num_any ?_ | refine ⟨_, rfl, ?_⟩); conv => whnf) | fail)
        refine Or.inr (Or.inr (Or.inl ?_)); (conv => whnf); refine ⟨_, _, Tryd.func64, rfl, Tryd.call64, ?_⟩; (conv => whnf)
        (try (conv => whnf)); repeat' (first | ((with_reducible_and_instances (first | refine nShr (by assumption) ?_ | refine nShl1' rfl (by assumption) ?_ | refine nAnd ?_ | refine nOr ?_ | refine nXor ?_ | refine nAndNot ?_ | refine nAnd1' rfl ?_)); conv => whnf) | refine Ok.seq ?_ | refine OkL.cons ?_ | ((first | refine Ok.region tok ?_ | refine ⟨_, (hquo.symm).symm, ?_⟩ | refine ⟨_, (hrem.symm).symm, ?_⟩ | refine Ok.region_draw tok follows (by kernel_rfl) ?_ | refine Ok.cond ?_); conv => whnf) | refine Ok.block ?_ | ((first | refine Ok.skip ?_ | refine Ok.exit ?_ | refine Ok.ret ?_ | refine nI ?_ | refine ix _ (by assumption) ?_ | refine ixI (by omega) (by assumption) ?_ | refine ix_new _ (by omega) fun _ _ => ?_ | refine ixI_new (by omega) (by omega) fun _ _ => ?_ | refine ⟨_, by assumption, ?_⟩ | refine Alt2.l (aI ?_) | refine Alt2.r (aI ?_)); conv => whnf) | (refine Ok.scope ?_) | ((first | refine Ok.label ?_ | refine rd rfl (by assumption) ?_ | refine ⟨_, .inl ⟨rfl, rfl⟩, ?_⟩ | refine ⟨_, _, rfl, rfl, ?_⟩); conv => whnf) | (refine ⟨fun _ => ?_, fun _ => ?_⟩ <;> (conv => whnf) <;> (try (exfalso; omega))) | ((first | refine aJ ?_ | refine num_any ?_ | refine ⟨_, rfl, ?_⟩); conv => whnf) | fail)
        refine st 48 hfa (by simp [bcell]) (by simp [setCells, bcell]) ?_
        (try (conv => whnf)); repeat' (first | ((with_reducible_and_instances (first | refine nShr (by assumption) ?_ | refine nShl1' rfl (by assumption) ?_ | refine nAnd ?_ | refine nOr ?_ | refine nXor ?_ | refine nAndNot ?_ | refine nAnd1' rfl ?_)); conv => whnf) | refine Ok.seq ?_ | refine OkL.cons ?_ | ((first | refine Ok.region tok ?_ | refine Ok.region_draw tok follows (by kernel_rfl) ?_ | refine Ok.cond ?_); conv => whnf) | refine Ok.block ?_ | ((first | refine Ok.skip ?_ | refine Ok.exit ?_ | refine Ok.ret ?_ | refine nI ?_ | refine ix _ (by assumption) ?_ | refine ixI (by omega) (by assumption) ?_ | refine ix_new _ (by omega) fun _ _ => ?_ | refine ixI_new (by omega) (by omega) fun _ _ => ?_ | refine ⟨_, by assumption, ?_⟩ | refine Alt2.l (aI ?_) | refine Alt2.r (aI ?_)); conv => whnf) | (refine Ok.scope ?_) | ((first | refine Ok.label ?_ | refine rd rfl (by assumption) ?_ | refine ⟨_, .inl ⟨rfl, rfl⟩, ?_⟩ | refine ⟨_, _, rfl, rfl, ?_⟩); conv => whnf) | (refine ⟨fun _ => ?_, fun _ => ?_⟩ <;> (conv => whnf) <;> (try (exfalso; omega))) | ((first | refine aJ ?_ | refine num_any ?_ | refine ⟨_, rfl, ?_⟩); conv => whnf) | fail)
        refine ⟨i + 1, by omega, by omega, ?_⟩
        (conv => whnf)
        simp only [toNat_cast, hfs, envCat]
        rfl
    · have hc := hca.2 rfl
      have ho := hoa.2 rfl
      clear hca hoa
      rcases hq with rfl | rfl | rfl | rfl
      all_goals
        (try (conv => whnf)); repeat' (first | ((with_reducible_and_instances (first | refine nShr (by assumption) ?_ | refine nShl1' rfl (by assumption) ?_ | refine nAnd ?_ | refine nOr ?_ | refine nXor ?_ | refine nAndNot ?_ | refine nAnd1' rfl ?_)); conv => whnf) | refine Ok.seq ?_ | refine OkL.cons ?_ | ((first | refine Ok.region tok ?_ | refine ⟨_, (hquo.symm).symm, ?_⟩ | refine ⟨_, (hrem.symm).symm, ?_⟩ | refine Ok.region_draw tok follows (by kernel_rfl) ?_ | refine Ok.cond ?_); conv => whnf) | refine Ok.block ?_ | ((first | refine Ok.skip ?_ | refine Ok.exit ?_ | refine Ok.ret ?_ | refine nI ?_ | refine ix _ (by assumption) ?_ | refine ixI (by omega) (by assumption) ?_ | refine ix_new _ (by omega) fun _ _ => ?_ | refine ixI_new (by omega) (by omega) fun _ _ => ?_ | refine ⟨_, by assumption, ?_⟩ | refine Alt2.l (aI ?_) | refine Alt2.r (aI ?_)); conv => whnf) | (refine Ok.scope ?_) | ((first | refine Ok.label ?_ | refine rd rfl (by assumption) ?_ | refine ⟨_, .inl ⟨rfl, rfl⟩, ?_⟩ | refine ⟨_, _, rfl, rfl, ?_⟩); conv => whnf) | (refine ⟨fun _ => ?_, fun _ => ?_⟩ <;> (conv => whnf) <;> (try (exfalso; omega))) | ((first | refine aJ ?_ | refine num_any ?_ | refine ⟨_, rfl, ?_⟩); conv => whnf) | fail)
        refine Or.inr (Or.inr (Or.inl ?_)); (conv => whnf); refine ⟨_, _, Tryd.func64, rfl, Tryd.call64, ?_⟩; (conv => whnf)
        (try (conv => whnf)); repeat' (first | ((with_reducible_and_instances (first | refine nShr (by assumption) ?_ | refine nShl1' rfl (by assumption) ?_ | refine nAnd ?_ | refine nOr ?_ | refine nXor ?_ | refine nAndNot ?_ | refine nAnd1' rfl ?_)); conv => whnf) | refine Ok.seq ?_ | refine OkL.cons ?_ | ((first | refine Ok.region tok ?_ | refine ⟨_, (hquo.symm).symm, ?_⟩ | refine ⟨_, (hrem.symm).symm, ?_⟩ | refine Ok.region_draw tok follows (by kernel_rfl) ?_ | refine Ok.cond ?_); conv => whnf) | refine Ok.block ?_ | ((first | refine Ok.skip ?_ | refine Ok.exit ?_ | refine Ok.ret ?_ | refine nI ?_ | refine ix _ (by assumption) ?_ | refine ixI (by omega) (by assumption) ?_ | refine ix_new _ (by omega) fun _ _ => ?_ | refine ixI_new (by omega) (by omega) fun _ _ => ?_ | refine ⟨_, by assumption, ?_⟩ | refine Alt2.l (aI ?_) | refine Alt2.r (aI ?_)); conv => whnf) | (refine Ok.scope ?_) | ((first | refine Ok.label ?_ | refine rd rfl (by assumption) ?_ | refine ⟨_, .inl ⟨rfl, rfl⟩, ?_⟩ | refine ⟨_, _, rfl, rfl, ?_⟩); conv => whnf) | (refine ⟨fun _ => ?_, fun _ => ?_⟩ <;> (conv => whnf) <;> (try (exfalso; omega))) | ((first | refine aJ ?_ | refine num_any ?_ | refine ⟨_, rfl, ?_⟩); conv => whnf) | fail)
        refine Or.inr (Or.inr (Or.inl ?_)); (conv => whnf); refine ⟨_, _, Tryd.func64, rfl, Tryd.call64, ?_⟩; (conv => whnf)
        (try (conv => whnf)); repeat' (first | ((with_reducible_and_instances (first | refine nShr (by assumption) ?_ | refine nShl1' rfl (by assumption) ?_ | refine nAnd ?_ | refine nOr ?_ | refine nXor ?_ | refine nAndNot ?_ | refine nAnd1' rfl ?_)); conv => whnf) | refine Ok.seq ?_ | refine OkL.cons ?_ | ((first | refine Ok.region tok ?_ | refine ⟨_, (hquo.symm).symm, ?_⟩ | refine ⟨_, (hrem.symm).symm, ?_⟩ | refine Ok.region_draw tok follows (by kernel_rfl) ?_ | refine Ok.cond ?_); conv => whnf) | refine Ok.block ?_ | ((first | refine Ok.skip ?_ | refine Ok.exit ?_ | refine Ok.ret ?_ | refine nI ?_ | refine ix _ (by assumption) ?_ | refine ixI (by omega) (by assumption) ?_ | refine ix_new _ (by omega) fun _ _ => ?_ | refine ixI_new (by omega) (by omega) fun _ _ => ?_ | refine ⟨_, by assumption, ?_⟩ | refine Alt2.l (aI ?_) | refine Alt2.r (aI ?_)); conv => whnf) | (refine Ok.scope ?_) | ((first | refine Ok.label ?_ | refine rd rfl (by assumption) ?_ | refine ⟨_, .inl ⟨rfl, rfl⟩, ?_⟩ | refine ⟨_, _, rfl, rfl, ?_⟩); conv => whnf) | (refine ⟨fun _ => ?_, fun _ => ?_⟩ <;> (conv => whnf) <;> (try (exfalso; omega))) | ((first | refine aJ ?_ | refine num_any ?_ | refine ⟨_, rfl, ?_⟩); conv => whnf) | fail)
        refine st 49 hfa (by simp [bcell]) (by simp [setCells, bcell]) ?_
        (try (conv => whnf)); repeat' (first | ((with_reducible_and_instances (first | refine nShr (by assumption) ?_ | refine nShl1' rfl (by assumption) ?_ | refine nAnd ?_ | refine nOr ?_ | refine nXor ?_ | refine nAndNot ?_ | refine nAnd1' rfl ?_)); conv => whnf) | refine Ok.seq ?_ | refine OkL.cons ?_ | ((first | refine Ok.region tok ?_ | refine Ok.region_draw tok follows (by kernel_rfl) ?_ | refine Ok.cond ?_); conv => whnf) | refine Ok.block ?_ | ((first | refine Ok.skip ?_ | refine Ok.exit ?_ | refine Ok.ret ?_ | refine nI ?_ | refine ix _ (by assumption) ?_ | refine ixI (by omega) (by assumption) ?_ | refine ix_new _ (by omega) fun _ _ => ?_ | refine ixI_new (by omega) (by omega) fun _ _ => ?_ | refine ⟨_, by assumption, ?_⟩ | refine Alt2.l (aI ?_) | refine Alt2.r (aI ?_)); conv => whnf) | (refine Ok.scope ?_) | ((first | refine Ok.label ?_ | refine rd rfl (by assumption) ?_ | refine ⟨_, .inl ⟨rfl, rfl⟩, ?_⟩ | refine ⟨_, _, rfl, rfl, ?_⟩); conv => whnf) | (refine ⟨fun _ => ?_, fun _ => ?_⟩ <;> (conv => whnf) <;> (try (exfalso; omega))) | ((first | refine aJ ?_ | refine num_any ?_ | refine ⟨_, rfl, ?_⟩); conv => whnf) | fail)
        refine ⟨i + 1, by omega, by omega, ?_⟩
        (conv => whnf)
        simp only [toNat_cast, hfs, envCat]
        rfl
    · have hc : ¬ _ := fun e => absurd (hca.1 e) (by decide)
      clear hca hoa
      rcases hq with rfl | rfl | rfl | rfl
      all_goals
        (try (conv => whnf)); repeat' (first | ((with_reducible_and_instances (first | refine nShr (by assumption) ?_ | refine nShl1' rfl (by assumption) ?_ | refine nAnd ?_ | refine nOr ?_ | refine nXor ?_ | refine nAndNot ?_ | refine nAnd1' rfl ?_)); conv => whnf) | refine Ok.seq ?_ | refine OkL.cons ?_ | ((first | refine Ok.region tok ?_ | refine ⟨_, (hquo.symm).symm, ?_⟩ | refine ⟨_, (hrem.symm).symm, ?_⟩ | refine Ok.region_draw tok follows (by kernel_rfl) ?_ | refine Ok.cond ?_); conv => whnf) | refine Ok.block ?_ | ((first | refine Ok.skip ?_ | refine Ok.exit ?_ | refine Ok.ret ?_ | refine nI ?_ | refine ix _ (by assumption) ?_ | refine ixI (by omega) (by assumption) ?_ | refine ix_new _ (by omega) fun _ _ => ?_ | refine ixI_new (by omega) (by omega) fun _ _ => ?_ | refine ⟨_, by assumption, ?_⟩ | refine Alt2.l (aI ?_) | refine Alt2.r (aI ?_)); conv => whnf) | (refine Ok.scope ?_) | ((first | refine Ok.label ?_ | refine rd rfl (by assumption) ?_ | refine ⟨_, .inl ⟨rfl, rfl⟩, ?_⟩ | refine ⟨_, _, rfl, rfl, ?_⟩); conv => whnf) | (refine ⟨fun _ => ?_, fun _ => ?_⟩ <;> (conv => whnf) <;> (try (exfalso; omega))) | ((first | refine aJ ?_ | refine num_any ?_ | refine ⟨_, rfl, ?_⟩); conv => whnf) | fail)
        refine Or.inr (Or.inr (Or.inl ?_)); (conv => whnf); refine ⟨_, _, Tryd.func64, rfl, Tryd.call64, ?_⟩; (conv => whnf)
        (try (conv => whnf)); repeat' (first | ((with_reducible_and_instances (first | refine nShr (by assumption) ?_ | refine nShl1' rfl (by assumption) ?_ | refine nAnd ?_ | refine nOr ?_ | refine nXor ?_ | refine nAndNot ?_ | refine nAnd1' rfl ?_)); conv => whnf) | refine Ok.seq ?_ | refine OkL.cons ?_ | ((first | refine Ok.region tok ?_ | refine ⟨_, (hquo.symm).symm, ?_⟩ | refine ⟨_, (hrem.symm).symm, ?_⟩ | refine Ok.region_draw tok follows (by kernel_rfl) ?_ | refine Ok.cond ?_); conv => whnf) | refine Ok.block ?_ | ((first | refine Ok.skip ?_ | refine Ok.exit ?_ | refine Ok.ret ?_ | refine nI ?_ | refine ix _ (by assumption) ?_ | refine ixI (by omega) (by assumption) ?_ | refine ix_new _ (by omega) fun _ _ => ?_ | refine ixI_new (by omega) (by omega) fun _ _ => ?_ | refine ⟨_, by assumption, ?_⟩ | refine Alt2.l (aI ?_) | refine Alt2.r (aI ?_)); conv => whnf) | (refine Ok.scope ?_) | ((first | refine Ok.label ?_ | refine rd rfl (by assumption) ?_ | refine ⟨_, .inl ⟨rfl, rfl⟩, ?_⟩ | refine ⟨_, _, rfl, rfl, ?_⟩); conv => whnf) | (refine ⟨fun _ => ?_, fun _ => ?_⟩ <;> (conv => whnf) <;> (try (exfalso; omega))) | ((first | refine aJ ?_ | refine num_any ?_ | refine ⟨_, rfl, ?_⟩); conv => whnf) | fail)
        refine st 120 hfa (by simp [bcell]) (by simp [setCells, bcell]) ?_
        (try (conv => whnf)); repeat' (first | ((with_reducible_and_instances (first | refine nShr (by assumption) ?_ | refine nShl1' rfl (by assumption) ?_ | refine nAnd ?_ | refine nOr ?_ | refine nXor ?_ | refine nAndNot ?_ | refine nAnd1' rfl ?_)); conv => whnf) | refine Ok.seq ?_ | refine OkL.cons ?_ | ((first | refine Ok.region tok ?_ | refine Ok.region_draw tok follows (by kernel_rfl) ?_ | refine Ok.cond ?_); conv => whnf) | refine Ok.block ?_ | ((first | refine Ok.skip ?_ | refine Ok.exit ?_ | refine Ok.ret ?_ | refine nI ?_ | refine ix _ (by assumption) ?_ | refine ixI (by omega) (by assumption) ?_ | refine ix_new _ (by omega) fun _ _ => ?_ | refine ixI_new (by omega) (by omega) fun _ _ => ?_ | refine ⟨_, by assumption, ?_⟩ | refine Alt2.l (aI ?_) | refine Alt2.r (aI ?_)); conv => whnf) | (refine Ok.scope ?_) | ((first | refine Ok.label ?_ | refine rd rfl (by assumption) ?_ | refine ⟨_, .inl ⟨rfl, rfl⟩, ?_⟩ | refine ⟨_, _, rfl, rfl, ?_⟩); conv => whnf) | (refine ⟨fun _ => ?_, fun _ => ?_⟩ <;> (conv => whnf) <;> (try (exfalso; omega))) | ((first | refine aJ ?_ | refine num_any ?_ | refine ⟨_, rfl, ?_⟩); conv => whnf) | fail)
        refine ⟨i + 1, by omega, by omega, ?_⟩
        (conv => whnf)
        simp only [toNat_cast, hfs, envCat]
        rfl
  · have he : i = t.length := by omega
    subst he
    rw [List.take_length, Nat.sub_self, List.replicate_zero, List.append_nil] at *
    (try (conv => whnf)); repeat' (first | ((with_reducible_and_instances (first | refine nShr (by assumption) ?_ | refine nShl1' rfl (by assumption) ?_ | refine nAnd ?_ | refine nOr ?_ | refine nXor ?_ | refine nAndNot ?_ | refine nAnd1' rfl ?_)); conv => whnf) | refine Ok.seq ?_ | refine OkL.cons ?_ | ((first | refine Ok.region tok ?_ | refine Ok.region_draw tok follows (by kernel_rfl) ?_ | refine Ok.cond ?_); conv => whnf) | refine Ok.block ?_ | ((first | refine Ok.skip ?_ | refine Ok.exit ?_ | refine Ok.ret ?_ | refine nI ?_ | refine ix _ (by assumption) ?_ | refine ixI (by omega) (by assumption) ?_ | refine ix_new _ (by omega) fun _ _ => ?_ | refine ixI_new (by omega) (by omega) fun _ _ => ?_ | refine ⟨_, by assumption, ?_⟩ | refine Alt2.l (aI ?_) | refine Alt2.r (aI ?_)); conv => whnf) | (refine Ok.scope ?_) | ((first | refine Ok.label ?_ | refine rd rfl (by assumption) ?_ | refine ⟨_, .inl ⟨rfl, rfl⟩, ?_⟩ | refine ⟨_, _, rfl, rfl, ?_⟩); conv => whnf) | (refine ⟨fun _ => ?_, fun _ => ?_⟩ <;> (conv => whnf) <;> (try (exfalso; omega))) | ((first | refine aJ ?_ | refine num_any ?_ | refine ⟨_, rfl, ?_⟩); conv => whnf) | fail)
    refine ⟨t, take_all bcell t, ?_⟩
    (try (conv => whnf)); repeat' (first | ((with_reducible_and_instances (first | refine nShr (by assumption) ?_ | refine nShl1' rfl (by assumption) ?_ | refine nAnd ?_ | refine nOr ?_ | refine nXor ?_ | refine nAndNot ?_ | refine nAnd1' rfl ?_)); conv => whnf) | refine Ok.seq ?_ | refine OkL.cons ?_ | ((first | refine Ok.region tok ?_ | refine Ok.region_draw tok follows (by kernel_rfl) ?_ | refine Ok.cond ?_); conv => whnf) | refine Ok.block ?_ | ((first | refine Ok.skip ?_ | refine Ok.exit ?_ | refine Ok.ret ?_ | refine nI ?_ | refine ix _ (by assumption) ?_ | refine ixI (by omega) (by assumption) ?_ | refine ix_new _ (by omega) fun _ _ => ?_ | refine ixI_new (by omega) (by omega) fun _ _ => ?_ | refine ⟨_, by assumption, ?_⟩ | refine Alt2.l (aI ?_) | refine Alt2.r (aI ?_)); conv => whnf) | (refine Ok.scope ?_) | ((first | refine Ok.label ?_ | refine rd rfl (by assumption) ?_ | refine ⟨_, .inl ⟨rfl, rfl⟩, ?_⟩ | refine ⟨_, _, rfl, rfl, ?_⟩); conv => whnf) | (refine ⟨fun _ => ?_, fun _ => ?_⟩ <;> (conv => whnf) <;> (try (exfalso; omega))) | ((first | refine aJ ?_ | refine num_any ?_ | refine ⟨_, rfl, ?_⟩); conv => whnf) | fail)
    refine Or.inl ?_; (conv => whnf)
    rfl
end Go.Proofs.YtaiondckookpiaaDoor
namespace Go.Proofs.YtaiondckookpiaaDoor
open Go Go.Vx
def CN (c : Str) : Prop := CT c ∧ c ≠ []
theorem within2_at (c d : Str) (hc : CT c) (hd : CT d) : FSpec Tryd.prog T 72 [.agg (crow c), .agg (crow d)] (fun r _ => r = .b (inT c d)) := by
  refine FSpec.of_ok tok Tryd.func72 rfl Tryd.call72 (by simp) ?_
  (try (conv => whnf)); repeat' (first | refine Ok.seq ?_ | refine OkL.cons ?_ | ((first | refine Ok.region tok ?_ | refine Ok.region_draw tok follows (by kernel_rfl) ?_ | refine Ok.cond ?_); conv => whnf) | refine Ok.block ?_ | ((first | refine Ok.skip ?_ | refine Ok.exit ?_ | refine Ok.ret ?_ | refine nI ?_ | refine ix _ (by assumption) ?_ | refine ixI (by omega) (by assumption) ?_ | refine ix_new _ (by omega) fun _ _ => ?_ | refine ixI_new (by omega) (by omega) fun _ _ => ?_ | refine ⟨_, by assumption, ?_⟩); conv => whnf) | (refine Or.inl ?_; (conv => whnf); (repeat (refine aI ?_; conv => whnf)); refine ⟨_, within_at c d hc hd, rfl, ?_⟩; conv => whnf) | (refine ⟨_, within_at c d hc hd, rfl, ?_⟩; conv => whnf) | (refine Or.inr (Or.inl ?_); (conv => whnf); (repeat (refine aI ?_; conv => whnf)); refine ⟨_, within_at c d hc hd, ?_⟩; rintro _ _ ⟨rfl, rfl⟩; conv => whnf) | ((first | refine Alt2.l (aI ?_) | refine Alt2.r (aI ?_)); conv => whnf) | (refine Ok.scope ?_) | ((first | refine Ok.label ?_ | refine rd rfl (by assumption) ?_ | refine ⟨_, .inl ⟨rfl, rfl⟩, ?_⟩ | refine ⟨_, _, rfl, rfl, ?_⟩); conv => whnf) | (refine ⟨fun _ => ?_, fun _ => ?_⟩ <;> (conv => whnf) <;> (try (exfalso; omega))) | ((first | refine aJ ?_ | refine num_any ?_ | refine ⟨_, rfl, ?_⟩); conv => whnf) | fail)
  all_goals
    refine Or.inl ?_; (conv => whnf)
    rfl
theorem withinC_at {c d : Str} (hc : CN c) (hd : CN d) : FSpec Tryd.prog T 72 [.agg (crow c), .agg (crow d)] (fun r _ => r = .b (inL c d)) := by
  have := within2_at c d hc.1 hd.1
  rwa [show inT c d = inL c d from propext ⟨fun h => h.2, fun h => ⟨hc.2, h⟩⟩] at this
set_option maxRecDepth 100000 in
set_option maxHeartbeats 4000000 in
theorem greatestC_at (l : List Str) {rl room : List (List D)} (hl : l.length ≤ 1048576) (hok : ∀ x ∈ l, CN x) (h : rl = l.map crow) : FSpec Tryd.prog T 71 [.lst 69 rl room, .fn 72 [] []]
    (fun d rows => ∃ W : List Str, Kept inL l l.length W ∧ d = .own 0 (grG inL l).length ∧ rows = [some (69, W.map crow)]) := by
  subst h
  have hll : (l.map crow).length = l.length := by simp
  refine FSpec.of_ok tok Tryd.func71 rfl Tryd.call71 (by simp) ?_
  (try (conv => whnf)); repeat' (first | refine Ok.seq ?_ | refine OkL.cons ?_ | ((first | refine Ok.region tok ?_ | refine Ok.cond ?_); conv => whnf) | refine Ok.block ?_ | ((first | refine Ok.skip ?_ | refine Ok.exit ?_ | refine Ok.ret ?_ | refine nI ?_ | refine ix _ (by assumption) ?_ | refine ixI (by omega) (by assumption) ?_ | refine ix_new _ (by omega) fun _ _ => ?_ | refine ixI_new (by omega) (by omega) fun _ _ => ?_ | refine ⟨_, by assumption, ?_⟩ | refine Alt2.l (aI ?_) | refine Alt2.r (aI ?_)); conv => whnf) | (refine Ok.scope ?_) | ((first | refine Ok.label ?_ | refine rd rfl (by assumption) ?_ | refine ⟨_, .inl ⟨rfl, rfl⟩, ?_⟩ | refine ⟨_, _, rfl, rfl, ?_⟩); conv => whnf) | (refine ⟨fun _ => ?_, fun _ => ?_⟩ <;> (conv => whnf) <;> (try (exfalso; omega))) | ((first | refine aJ ?_ | refine num_any ?_ | refine ⟨_, rfl, ?_⟩); conv => whnf) | fail)
  refine Ok.ghost 5 69 rfl ?_
  (conv => whnf)
  refine Ok.loopU [1, 13, 14] [5, 15] 1 0 (fun (x : Nat × List Str) => [.own 0 (grG inL (l.take x.1)).length, .i .i64 (x.1 : Nat)]) (fun _ b => b) (fun (x : Nat × List Str) (_ : Vx.Rows) => [some (69, x.2.map crow)]) (fun (x : Nat × List Str) => Kept inL l x.1 x.2) (fun (x : Nat × List Str) => l.length - x.1) ((0, [])) (Kept.zero) ?_; (conv => whnf); refine ⟨by ((conv => whnf); first | rfl | (simp [envCat, List.take_of_length_le, cells9]; done) | (simp [envCat, List.take_of_length_le, cells9]; rw [IntKind.wrap_i64]; omega)), ?_⟩
  rintro ⟨i, W⟩ hK
  dsimp only at hK ⊢
  have hWl : (W.map crow).length = W.length := by simp
  have hKn := hK.n
  have hKw := hK.w
  have hKi := hK.le
  (conv => whnf)
  by_cases hil : i < l.length
  · obtain ⟨x, hx⟩ : ∃ x, l[i]? = some x := ⟨_, List.getElem?_eq_getElem hil⟩
    have hxo := hok x (List.mem_of_getElem? hx)
    have hmem : ∀ y ∈ grG inL (l.take i), CN y := fun y hy => hok y (List.take_subset _ _ (grG_sub inL _ y hy))
    (try (conv => whnf)); repeat' (first | refine Ok.seq ?_ | refine OkL.cons ?_ | ((first | refine Ok.region tok ?_ | refine Ok.region_draw tok follows (by kernel_rfl) ?_ | refine Ok.cond ?_); conv => whnf) | refine Ok.block ?_ | ((first | refine Ok.skip ?_ | refine Ok.exit ?_ | refine Ok.ret ?_ | refine nI ?_ | refine ix _ (by assumption) ?_ | refine ixI (by omega) (by assumption) ?_ | refine ix_new _ (by omega) fun _ _ => ?_ | refine ixI_new (by omega) (by omega) fun _ _ => ?_ | refine ⟨_, by assumption, ?_⟩ | refine Alt2.l (aI ?_) | refine Alt2.r (aI ?_)); conv => whnf) | (refine Ok.scope ?_) | ((first | refine Ok.label ?_ | refine rd rfl (by assumption) ?_ | refine ⟨_, .inl ⟨rfl, rfl⟩, ?_⟩ | refine ⟨_, _, rfl, rfl, ?_⟩); conv => whnf) | (refine ⟨fun _ => ?_, fun _ => ?_⟩ <;> (conv => whnf) <;> (try (exfalso; omega))) | ((first | refine aJ ?_ | refine num_any ?_ | refine ⟨_, rfl, ?_⟩); conv => whnf) | fail)
    generalize hKK : grG inL (l.take i) = K at *
    refine Ok.loopU [1, 5, 7, 13, 14, 15, 19, 20] [21] 1 1 (fun (j : Nat) => [.i .i64 (j : Nat)]) (fun _ b => b) (fun _ r => r) (fun (j : Nat) => j ≤ K.length ∧ ∀ y ∈ K.take j, ¬ inL x y) (fun (j : Nat) => K.length - j) (0) (⟨Nat.zero_le _, by simp⟩) ?_; (conv => whnf); refine ⟨by ((conv => whnf); first | rfl | (simp [envCat, List.take_of_length_le, cells9]; done) | (simp [envCat, List.take_of_length_le, cells9]; rw [IntKind.wrap_i64]; omega)), ?_⟩
    rintro j ⟨hj, hno⟩
    (conv => whnf)
    by_cases hjl : j < K.length
    · obtain ⟨y, hy⟩ : ∃ y, K[j]? = some y := ⟨_, List.getElem?_eq_getElem hjl⟩
      have hyo := hmem y (List.mem_of_getElem? hy)
      have hWj : W[((j : Nat) : Int).toNat]? = some y := by
        have := hK.get (j := j) (by rw [hKK]; exact hjl)
        rw [hKK, hy] at this
        exact this
      (try (conv => whnf)); repeat' (first | refine Ok.seq ?_ | refine OkL.cons ?_ | ((first | refine Ok.region tok ?_ | refine Ok.region_draw tok follows (by kernel_rfl) ?_ | refine Ok.cond ?_); conv => whnf) | refine Ok.block ?_ | ((first | refine Ok.skip ?_ | refine Ok.exit ?_ | refine Ok.ret ?_ | refine nI ?_ | refine ix _ (by assumption) ?_ | refine ixI (by omega) (by assumption) ?_ | refine ix_new _ (by omega) fun _ _ => ?_ | refine ixI_new (by omega) (by omega) fun _ _ => ?_ | refine ⟨_, by assumption, ?_⟩); conv => whnf) | (refine Or.inl ?_; (conv => whnf); (repeat (refine aI ?_; conv => whnf)); refine ⟨_, withinC_at hxo hyo, rfl, ?_⟩; conv => whnf) | (refine ⟨_, withinC_at hxo hyo, rfl, ?_⟩; conv => whnf) | (refine Or.inr (Or.inl ?_); (conv => whnf); (repeat (refine aI ?_; conv => whnf)); refine ⟨_, withinC_at hxo hyo, ?_⟩; rintro _ _ ⟨rfl, rfl⟩; conv => whnf) | ((first | refine Alt2.l (aI ?_) | refine Alt2.r (aI ?_)); conv => whnf) | (refine Ok.scope ?_) | ((first | refine Ok.label ?_ | refine rd rfl (by assumption) ?_ | refine ⟨_, .inl ⟨rfl, rfl⟩, ?_⟩ | refine ⟨_, _, rfl, rfl, ?_⟩); conv => whnf) | (refine ⟨fun _ => ?_, fun _ => ?_⟩ <;> (conv => whnf) <;> (try (exfalso; omega))) | ((first | refine aJ ?_ | refine num_any ?_ | refine ⟨_, rfl, ?_⟩); conv => whnf) | fail)
      · rename_i hxy
        have hin : ∃ y ∈ grG inL (l.take i), inL x y := ⟨y, by rw [hKK]; exact List.mem_of_getElem? hy, hxy⟩
        obtain ⟨hs, he⟩ := hK.skip hx hin
        refine ⟨(i + 1, W), by dsimp only; omega, hs, ?_⟩
        dsimp only
        rw [he, hKK]
        (conv => whnf)
        rfl
      · rename_i hxy
        refine ⟨j + 1, by omega, ⟨by omega, fun z hz => ?_⟩, ?_⟩
        · rw [List.take_add_one, hy] at hz
          rcases List.mem_append.1 hz with hz | hz
          · exact hno z hz
          · simp at hz; rw [hz]; exact hxy
        · (conv => whnf)
          rfl
    · have hje : j = K.length := by omega
      subst hje
      rw [List.take_length] at hno
      (try (conv => whnf)); repeat' (first | refine Ok.seq ?_ | refine OkL.cons ?_ | ((first | refine Ok.region tok ?_ | refine Ok.region_draw tok follows (by kernel_rfl) ?_ | refine Ok.cond ?_); conv => whnf) | refine Ok.block ?_ | ((first | refine Ok.skip ?_ | refine Ok.exit ?_ | refine Ok.ret ?_ | refine nI ?_ | refine ix _ (by assumption) ?_ | refine ixI (by omega) (by assumption) ?_ | refine ix_new _ (by omega) fun _ _ => ?_ | refine ixI_new (by omega) (by omega) fun _ _ => ?_ | refine ⟨_, by assumption, ?_⟩ | refine Alt2.l (aI ?_) | refine Alt2.r (aI ?_)); conv => whnf) | (refine Ok.scope ?_) | ((first | refine Ok.label ?_ | refine rd rfl (by assumption) ?_ | refine ⟨_, .inl ⟨rfl, rfl⟩, ?_⟩ | refine ⟨_, _, rfl, rfl, ?_⟩); conv => whnf) | (refine ⟨fun _ => ?_, fun _ => ?_⟩ <;> (conv => whnf) <;> (try (exfalso; omega))) | ((first | refine aJ ?_ | refine num_any ?_ | refine ⟨_, rfl, ?_⟩); conv => whnf) | fail)
      refine ⟨0, rfl, rfl, by omega, ?_⟩
      (try (conv => whnf)); repeat' (first | refine Ok.seq ?_ | refine OkL.cons ?_ | ((first | refine Ok.region tok ?_ | refine Ok.region_draw tok follows (by kernel_rfl) ?_ | refine Ok.cond ?_); conv => whnf) | refine Ok.block ?_ | ((first | refine Ok.skip ?_ | refine Ok.exit ?_ | refine Ok.ret ?_ | refine nI ?_ | refine ix _ (by assumption) ?_ | refine ixI (by omega) (by assumption) ?_ | refine ix_new _ (by omega) fun _ _ => ?_ | refine ixI_new (by omega) (by omega) fun _ _ => ?_ | refine ⟨_, by assumption, ?_⟩ | refine Alt2.l (aI ?_) | refine Alt2.r (aI ?_)); conv => whnf) | (refine Ok.scope ?_) | ((first | refine Ok.label ?_ | refine rd rfl (by assumption) ?_ | refine ⟨_, .inl ⟨rfl, rfl⟩, ?_⟩ | refine ⟨_, _, rfl, rfl, ?_⟩); conv => whnf) | (refine ⟨fun _ => ?_, fun _ => ?_⟩ <;> (conv => whnf) <;> (try (exfalso; omega))) | ((first | refine aJ ?_ | refine num_any ?_ | refine ⟨_, rfl, ?_⟩); conv => whnf) | fail)
      refine Ok.loopU [1, 7, 13, 14, 15, 32, 33] [10, 34] 1 1 (fun (z : Nat × List Str) => [.own 0 (leftOf inL K x z.1).length, .i .i64 (z.1 : Nat)]) (fun _ b => b) (fun (z : Nat × List Str) (_ : Vx.Rows) => [some (69, z.2.map crow)]) (fun (z : Nat × List Str) => Mid inL K x W z.1 z.2) (fun (z : Nat × List Str) => K.length - z.1) ((0, W)) (Mid.zero) ?_; (conv => whnf); refine ⟨by ((conv => whnf); first | rfl | (simp [envCat, List.take_of_length_le, cells9]; done) | (simp [envCat, List.take_of_length_le, cells9]; rw [IntKind.wrap_i64]; omega)), ?_⟩
      rintro ⟨k, W'⟩ hM
      dsimp only at hM ⊢
      have hMk := hM.le
      have hMl := hM.len
      have hWl' : (W'.map crow).length = W'.length := by simp
      have hkept : W.take K.length = K := by
        have := hK.tk
        rw [hKK] at this
        exact this
      (conv => whnf)
      by_cases hkl : k < K.length
      · obtain ⟨y, hy⟩ : ∃ y, K[k]? = some y := ⟨_, List.getElem?_eq_getElem hkl⟩
        have hyo := hmem y (List.mem_of_getElem? hy)
        have hWj : W'[((k : Nat) : Int).toNat]? = some y := by
          rw [toNat_cast, hM.get hkept hkl, hy]
        by_cases hyx : inL y x
        · obtain ⟨hd, he⟩ := hM.drop hy hyx
          (try (conv => whnf)); repeat' (first | refine Ok.seq ?_ | refine OkL.cons ?_ | ((first | refine Ok.region tok ?_ | refine Ok.region_draw tok follows (by kernel_rfl) ?_ | refine Ok.cond ?_); conv => whnf) | refine Ok.block ?_ | ((first | refine Ok.skip ?_ | refine Ok.exit ?_ | refine Ok.ret ?_ | refine nI ?_ | refine ix _ (by assumption) ?_ | refine ixI (by omega) (by assumption) ?_ | refine ix_new _ (by omega) fun _ _ => ?_ | refine ixI_new (by omega) (by omega) fun _ _ => ?_ | refine ⟨_, by assumption, ?_⟩); conv => whnf) | (refine Or.inl ?_; (conv => whnf); (repeat (refine aI ?_; conv => whnf)); refine ⟨_, withinC_at hyo hxo, rfl, ?_⟩; conv => whnf) | (refine ⟨_, withinC_at hyo hxo, rfl, ?_⟩; conv => whnf) | (refine Or.inr (Or.inl ?_); (conv => whnf); (repeat (refine aI ?_; conv => whnf)); refine ⟨_, withinC_at hyo hxo, ?_⟩; rintro _ _ ⟨rfl, rfl⟩; conv => whnf) | ((first | refine Alt2.l (aI ?_) | refine Alt2.r (aI ?_)); conv => whnf) | (refine Ok.scope ?_) | ((first | refine Ok.label ?_ | refine rd rfl (by assumption) ?_ | refine ⟨_, .inl ⟨rfl, rfl⟩, ?_⟩ | refine ⟨_, _, rfl, rfl, ?_⟩); conv => whnf) | (refine ⟨fun _ => ?_, fun _ => ?_⟩ <;> (conv => whnf) <;> (try (exfalso; omega))) | ((first | refine aJ ?_ | refine num_any ?_ | refine ⟨_, rfl, ?_⟩); conv => whnf) | fail)
          · exact absurd hyx (by assumption)
          · refine ⟨(k + 1, W'), by dsimp only; omega, hd, ?_⟩
            dsimp only
            rw [he]
            (conv => whnf)
            rfl
        · obtain ⟨hd, he, hlt⟩ := hM.keep hKn hy hyx
          have hlt2 : (leftOf inL K x k).length < (W'.map crow).length := by omega
          have hnle : ¬ (leftOf inL K x k).length = (W'.map crow).length := by omega
          (try (conv => whnf)); repeat' (first | refine Ok.seq ?_ | refine OkL.cons ?_ | ((first | refine Ok.region tok ?_ | refine Ok.region_draw tok follows (by kernel_rfl) ?_ | refine Ok.cond ?_); conv => whnf) | refine Ok.block ?_ | ((first | refine Ok.skip ?_ | refine Ok.exit ?_ | refine Ok.ret ?_ | refine nI ?_ | refine ix _ (by assumption) ?_ | refine ixI (by omega) (by assumption) ?_ | refine ix_new _ (by omega) fun _ _ => ?_ | refine ixI_new (by omega) (by omega) fun _ _ => ?_ | refine ⟨_, by assumption, ?_⟩); conv => whnf) | (refine Or.inl ?_; (conv => whnf); (repeat (refine aI ?_; conv => whnf)); refine ⟨_, withinC_at hyo hxo, rfl, ?_⟩; conv => whnf) | (refine ⟨_, withinC_at hyo hxo, rfl, ?_⟩; conv => whnf) | (refine Or.inr (Or.inl ?_); (conv => whnf); (repeat (refine aI ?_; conv => whnf)); refine ⟨_, withinC_at hyo hxo, ?_⟩; rintro _ _ ⟨rfl, rfl⟩; conv => whnf) | ((first | refine Alt2.l (aI ?_) | refine Alt2.r (aI ?_)); conv => whnf) | (refine Ok.scope ?_) | ((first | refine Ok.label ?_ | refine rd rfl (by assumption) ?_ | refine ⟨_, .inl ⟨rfl, rfl⟩, ?_⟩ | refine ⟨_, _, rfl, rfl, ?_⟩); conv => whnf) | (refine ⟨fun _ => ?_, fun _ => ?_⟩ <;> (conv => whnf) <;> (try (exfalso; omega))) | ((first | refine aJ ?_ | refine num_any ?_ | refine ⟨_, rfl, ?_⟩); conv => whnf) | fail)
          · refine ⟨(k + 1, W'.set (leftOf inL K x k).length y), by dsimp only; omega, hd, ?_⟩
            dsimp only
            rw [he, List.length_append, List.map_set]
            (conv => whnf)
            rfl
          · rename_i hh
            exact absurd hyx hh
      · have hke : k = K.length := by omega
        subst hke
        obtain ⟨se, sl, sg⟩ := hK.step hx (by rw [hKK]; exact hno) (by rw [hKK]; exact hM)
        rw [hKK] at se sl sg
        by_cases hm : (leftOf inL K x K.length).length = W'.length
        · have hm2 : (leftOf inL K x K.length).length = (W'.map crow).length := by omega
          (try (conv => whnf)); repeat' (first | refine Ok.seq ?_ | refine OkL.cons ?_ | ((first | refine Ok.region tok ?_ | refine Ok.region_draw tok follows (by kernel_rfl) ?_ | refine Ok.cond ?_); conv => whnf) | refine Ok.block ?_ | ((first | refine Ok.skip ?_ | refine Ok.exit ?_ | refine Ok.ret ?_ | refine nI ?_ | refine ix _ (by assumption) ?_ | refine ixI (by omega) (by assumption) ?_ | refine ix_new _ (by omega) fun _ _ => ?_ | refine ixI_new (by omega) (by omega) fun _ _ => ?_ | refine ⟨_, by assumption, ?_⟩ | refine Alt2.l (aI ?_) | refine Alt2.r (aI ?_)); conv => whnf) | (refine Ok.scope ?_) | ((first | refine Ok.label ?_ | refine rd rfl (by assumption) ?_ | refine ⟨_, .inl ⟨rfl, rfl⟩, ?_⟩ | refine ⟨_, _, rfl, rfl, ?_⟩); conv => whnf) | (refine ⟨fun _ => ?_, fun _ => ?_⟩ <;> (conv => whnf) <;> (try (exfalso; omega))) | ((first | refine aJ ?_ | refine num_any ?_ | refine ⟨_, rfl, ?_⟩); conv => whnf) | fail)
          refine ⟨(i + 1, W' ++ [x]), by dsimp only; omega, sg hm, ?_⟩
          dsimp only
          rw [se, List.map_append]
          (conv => whnf)
          simp [envCat, hm]
        · have hle2 := hM.tk
          have hlt : (leftOf inL K x K.length).length < W'.length := by
            have := congrArg List.length hM.tk
            rw [List.length_take] at this
            omega
          have hlt2 : (leftOf inL K x K.length).length < (W'.map crow).length := by omega
          (try (conv => whnf)); repeat' (first | refine Ok.seq ?_ | refine OkL.cons ?_ | ((first | refine Ok.region tok ?_ | refine Ok.region_draw tok follows (by kernel_rfl) ?_ | refine Ok.cond ?_); conv => whnf) | refine Ok.block ?_ | ((first | refine Ok.skip ?_ | refine Ok.exit ?_ | refine Ok.ret ?_ | refine nI ?_ | refine ix _ (by assumption) ?_ | refine ixI (by omega) (by assumption) ?_ | refine ix_new _ (by omega) fun _ _ => ?_ | refine ixI_new (by omega) (by omega) fun _ _ => ?_ | refine ⟨_, by assumption, ?_⟩ | refine Alt2.l (aI ?_) | refine Alt2.r (aI ?_)); conv => whnf) | (refine Ok.scope ?_) | ((first | refine Ok.label ?_ | refine rd rfl (by assumption) ?_ | refine ⟨_, .inl ⟨rfl, rfl⟩, ?_⟩ | refine ⟨_, _, rfl, rfl, ?_⟩); conv => whnf) | (refine ⟨fun _ => ?_, fun _ => ?_⟩ <;> (conv => whnf) <;> (try (exfalso; omega))) | ((first | refine aJ ?_ | refine num_any ?_ | refine ⟨_, rfl, ?_⟩); conv => whnf) | fail)
          refine ⟨(i + 1, W'.set (leftOf inL K x K.length).length x), by dsimp only; omega, sl hlt, ?_⟩
          dsimp only
          rw [se, List.length_append, List.map_set]
          (conv => whnf)
          rfl
  · have hie : i = l.length := by omega
    subst hie
    rw [List.take_length] at *
    (try (conv => whnf)); repeat' (first | refine Ok.seq ?_ | refine OkL.cons ?_ | ((first | refine Ok.region tok ?_ | refine Ok.region_draw tok follows (by kernel_rfl) ?_ | refine Ok.cond ?_); conv => whnf) | refine Ok.block ?_ | ((first | refine Ok.skip ?_ | refine Ok.exit ?_ | refine Ok.ret ?_ | refine nI ?_ | refine ix _ (by assumption) ?_ | refine ixI (by omega) (by assumption) ?_ | refine ix_new _ (by omega) fun _ _ => ?_ | refine ixI_new (by omega) (by omega) fun _ _ => ?_ | refine ⟨_, by assumption, ?_⟩ | refine Alt2.l (aI ?_) | refine Alt2.r (aI ?_)); conv => whnf) | (refine Ok.scope ?_) | ((first | refine Ok.label ?_ | refine rd rfl (by assumption) ?_ | refine ⟨_, .inl ⟨rfl, rfl⟩, ?_⟩ | refine ⟨_, _, rfl, rfl, ?_⟩); conv => whnf) | (refine ⟨fun _ => ?_, fun _ => ?_⟩ <;> (conv => whnf) <;> (try (exfalso; omega))) | ((first | refine aJ ?_ | refine num_any ?_ | refine ⟨_, rfl, ?_⟩); conv => whnf) | fail)
    refine Or.inr (Or.inl ?_); (conv => whnf)
    exact ⟨W, hK, rfl, rfl⟩
structure TR where
  t : Term
  room : List (List D)
@[reducible] def trow (x : TR) : List D := [.i .i64 (x.t.p.length : Int), .i .u64 ((wof (car x.t.p) 0).toNat : Int), .i .u64 ((wof (car x.t.p) 1).toNat : Int), .i .u64 ((wof (car x.t.p) 2).toNat : Int), .i .u64 ((wof (car x.t.p) 3).toNat : Int), .i .u64 ((wof (one x.t.p) 0).toNat : Int), .i .u64 ((wof (one x.t.p) 1).toNat : Int), .i .u64 ((wof (one x.t.p) 2).toNat : Int), .i .u64 ((wof (one x.t.p) 3).toNat : Int), .lst 69 (x.t.less.map crow) x.room, .s x.t.key]
structure TN (x : TR) : Prop where
  p : CN x.t.p
  less : ∀ m ∈ x.t.less, CN m
  n : x.t.less.length ≤ 1048576
def covR (a b : TR) : Prop := covT a.t b.t
set_option maxHeartbeats 4000000 in
theorem covered_at {a b : TR} (ha : TN a) (hb : TN b) : FSpec Tryd.prog T 76 [.agg (trow a), .agg (trow b)] (fun r _ => r = .b (covR a b)) := by
  refine FSpec.of_ok tok Tryd.func76 rfl Tryd.call76 (by simp) ?_
  (try (conv => whnf)); repeat' (first | refine Ok.seq ?_ | refine OkL.cons ?_ | ((first | refine Ok.region tok ?_ | refine Ok.region_draw tok follows (by kernel_rfl) ?_ | refine Ok.cond ?_); conv => whnf) | refine Ok.block ?_ | ((first | refine Ok.skip ?_ | refine Ok.exit ?_ | refine Ok.ret ?_ | refine nI ?_ | refine ix _ (by assumption) ?_ | refine ixI (by omega) (by assumption) ?_ | refine ix_new _ (by omega) fun _ _ => ?_ | refine ixI_new (by omega) (by omega) fun _ _ => ?_ | refine ⟨_, by assumption, ?_⟩); conv => whnf) | (refine Or.inl ?_; (conv => whnf); (repeat (refine aI ?_; conv => whnf)); refine ⟨_, within_at a.t.p b.t.p ha.p.1 hb.p.1, rfl, ?_⟩; conv => whnf) | (refine ⟨_, within_at a.t.p b.t.p ha.p.1 hb.p.1, rfl, ?_⟩; conv => whnf) | (refine Or.inr (Or.inl ?_); (conv => whnf); (repeat (refine aI ?_; conv => whnf)); refine ⟨_, within_at a.t.p b.t.p ha.p.1 hb.p.1, ?_⟩; rintro _ _ ⟨rfl, rfl⟩; conv => whnf) | ((first | refine Alt2.l (aI ?_) | refine Alt2.r (aI ?_)); conv => whnf) | (refine Ok.scope ?_) | ((first | refine Ok.label ?_ | refine rd rfl (by assumption) ?_ | refine ⟨_, .inl ⟨rfl, rfl⟩, ?_⟩ | refine ⟨_, _, rfl, rfl, ?_⟩); conv => whnf) | (refine ⟨fun _ => ?_, fun _ => ?_⟩ <;> (conv => whnf) <;> (try (exfalso; omega))) | ((first | refine aJ ?_ | refine num_any ?_ | refine ⟨_, rfl, ?_⟩); conv => whnf) | fail)
  · rename_i h
    refine Or.inl ?_; (conv => whnf)
    show D.b False = _
    exact congrArg D.b (propext ⟨fun h => h.elim, fun h2 => h h2.1⟩)
  · rename_i h
    have hin : inT a.t.p b.t.p := Classical.not_not.1 h
    have hbn := hb.n
    have han := ha.n
    have hbl : (b.t.less.map crow).length = b.t.less.length := by simp
    have hal : (a.t.less.map crow).length = a.t.less.length := by simp
    refine Ok.loopU [2, 18, 19] [20] 0 2 (fun (i : Nat) => [.i .i64 (i : Nat)]) (fun _ b => b) (fun _ r => r) (fun (i : Nat) => i ≤ b.t.less.length ∧ ∀ m ∈ b.t.less.take i, ∀ c, meetT m a.t.p = some c → ∃ n ∈ a.t.less, inT c n) (fun (i : Nat) => b.t.less.length - i) (0) (⟨Nat.zero_le _, by simp⟩) ?_; (conv => whnf); refine ⟨by ((conv => whnf); first | rfl | (simp [envCat, List.take_of_length_le, cells9]; done) | (simp [envCat, List.take_of_length_le, cells9]; rw [IntKind.wrap_i64]; omega)), ?_⟩
    rintro i ⟨hi, hall⟩
    (conv => whnf)
    by_cases hil : i < b.t.less.length
    · obtain ⟨m, hm⟩ : ∃ m, b.t.less[i]? = some m := ⟨_, List.getElem?_eq_getElem hil⟩
      have hmo := hb.less m (List.mem_of_getElem? hm)
      have step : (∀ c, meetT m a.t.p = some c → ∃ n ∈ a.t.less, inT c n) → ∀ z ∈ b.t.less.take (i + 1), ∀ c, meetT z a.t.p = some c → ∃ n ∈ a.t.less, inT c n := fun h z hz => by
        rw [List.take_add_one, hm] at hz
        rcases List.mem_append.1 hz with hz | hz
        · exact hall z hz
        · simp at hz; rw [hz]; exact h
      cases hmt : meetT m a.t.p with
      | none =>
        have hsp := meet_at m a.t.p hmo.1 ha.p.1
        rw [hmt] at hsp
        (try (conv => whnf)); repeat' (first | refine Ok.seq ?_ | refine OkL.cons ?_ | ((first | refine Ok.region tok ?_ | refine Ok.region_draw tok follows (by kernel_rfl) ?_ | refine Ok.cond ?_); conv => whnf) | refine Ok.block ?_ | ((first | refine Ok.skip ?_ | refine Ok.exit ?_ | refine Ok.ret ?_ | refine nI ?_ | refine ix _ (by assumption) ?_ | refine ixI (by omega) (by assumption) ?_ | refine ix_new _ (by omega) fun _ _ => ?_ | refine ixI_new (by omega) (by omega) fun _ _ => ?_ | refine ⟨_, by assumption, ?_⟩); conv => whnf) | (refine Or.inl ?_; (conv => whnf); (repeat (refine aI ?_; conv => whnf)); refine ⟨_, hsp, rfl, ?_⟩; conv => whnf) | (refine ⟨_, hsp, rfl, ?_⟩; conv => whnf) | (refine Or.inr (Or.inl ?_); (conv => whnf); (repeat (refine aI ?_; conv => whnf)); refine ⟨_, hsp, ?_⟩; rintro _ _ ⟨rfl, rfl⟩; conv => whnf) | ((first | refine Alt2.l (aI ?_) | refine Alt2.r (aI ?_)); conv => whnf) | (refine Ok.scope ?_) | ((first | refine Ok.label ?_ | refine rd rfl (by assumption) ?_ | refine ⟨_, .inl ⟨rfl, rfl⟩, ?_⟩ | refine ⟨_, _, rfl, rfl, ?_⟩); conv => whnf) | (refine ⟨fun _ => ?_, fun _ => ?_⟩ <;> (conv => whnf) <;> (try (exfalso; omega))) | ((first | refine aJ ?_ | refine num_any ?_ | refine ⟨_, rfl, ?_⟩); conv => whnf) | fail)
        · refine ⟨i + 1, by omega, ⟨by omega, step fun c hc => by rw [hmt] at hc; cases hc⟩, ?_⟩
          (conv => whnf)
          rfl
        · rename_i h2
          exact absurd (by simp) h2
      | some c =>
        have hsp := meet_at m a.t.p hmo.1 ha.p.1
        have hcc := meetT_ct hmt hmo.1 ha.p.1
        rw [hmt] at hsp
        (try (conv => whnf)); repeat' (first | refine Ok.seq ?_ | refine OkL.cons ?_ | ((first | refine Ok.region tok ?_ | refine Ok.region_draw tok follows (by kernel_rfl) ?_ | refine Ok.cond ?_); conv => whnf) | refine Ok.block ?_ | ((first | refine Ok.skip ?_ | refine Ok.exit ?_ | refine Ok.ret ?_ | refine nI ?_ | refine ix _ (by assumption) ?_ | refine ixI (by omega) (by assumption) ?_ | refine ix_new _ (by omega) fun _ _ => ?_ | refine ixI_new (by omega) (by omega) fun _ _ => ?_ | refine ⟨_, by assumption, ?_⟩); conv => whnf) | (refine Or.inl ?_; (conv => whnf); (repeat (refine aI ?_; conv => whnf)); refine ⟨_, hsp, rfl, ?_⟩; conv => whnf) | (refine ⟨_, hsp, rfl, ?_⟩; conv => whnf) | (refine Or.inr (Or.inl ?_); (conv => whnf); (repeat (refine aI ?_; conv => whnf)); refine ⟨_, hsp, ?_⟩; rintro _ _ ⟨rfl, rfl⟩; conv => whnf) | ((first | refine Alt2.l (aI ?_) | refine Alt2.r (aI ?_)); conv => whnf) | (refine Ok.scope ?_) | ((first | refine Ok.label ?_ | refine rd rfl (by assumption) ?_ | refine ⟨_, .inl ⟨rfl, rfl⟩, ?_⟩ | refine ⟨_, _, rfl, rfl, ?_⟩); conv => whnf) | (refine ⟨fun _ => ?_, fun _ => ?_⟩ <;> (conv => whnf) <;> (try (exfalso; omega))) | ((first | refine aJ ?_ | refine num_any ?_ | refine ⟨_, rfl, ?_⟩); conv => whnf) | fail)
        · rename_i h2
          exact absurd rfl h2
        · refine Ok.loopU [2, 7, 18, 19, 20, 34, 35] [36] 0 4 (fun (j : Nat) => [.i .i64 (j : Nat)]) (fun _ b => b) (fun _ r => r) (fun (j : Nat) => j ≤ a.t.less.length ∧ ∀ n ∈ a.t.less.take j, ¬ inT c n) (fun (j : Nat) => a.t.less.length - j) (0) (⟨Nat.zero_le _, by simp⟩) ?_; (conv => whnf); refine ⟨by ((conv => whnf); first | rfl | (simp [envCat, List.take_of_length_le, cells9]; done) | (simp [envCat, List.take_of_length_le, cells9]; rw [IntKind.wrap_i64]; omega)), ?_⟩
          rintro j ⟨hj, hno⟩
          (conv => whnf)
          by_cases hjl : j < a.t.less.length
          · obtain ⟨n, hn⟩ : ∃ n, a.t.less[j]? = some n := ⟨_, List.getElem?_eq_getElem hjl⟩
            have hno' := ha.less n (List.mem_of_getElem? hn)
            (try (conv => whnf)); repeat' (first | refine Ok.seq ?_ | refine OkL.cons ?_ | ((first | refine Ok.region tok ?_ | refine Ok.region_draw tok follows (by kernel_rfl) ?_ | refine Ok.cond ?_); conv => whnf) | refine Ok.block ?_ | ((first | refine Ok.skip ?_ | refine Ok.exit ?_ | refine Ok.ret ?_ | refine nI ?_ | refine ix _ (by assumption) ?_ | refine ixI (by omega) (by assumption) ?_ | refine ix_new _ (by omega) fun _ _ => ?_ | refine ixI_new (by omega) (by omega) fun _ _ => ?_ | refine ⟨_, by assumption, ?_⟩); conv => whnf) | (refine Or.inl ?_; (conv => whnf); (repeat (refine aI ?_; conv => whnf)); refine ⟨_, within_at c n hcc.1 hno'.1, rfl, ?_⟩; conv => whnf) | (refine ⟨_, within_at c n hcc.1 hno'.1, rfl, ?_⟩; conv => whnf) | (refine Or.inr (Or.inl ?_); (conv => whnf); (repeat (refine aI ?_; conv => whnf)); refine ⟨_, within_at c n hcc.1 hno'.1, ?_⟩; rintro _ _ ⟨rfl, rfl⟩; conv => whnf) | ((first | refine Alt2.l (aI ?_) | refine Alt2.r (aI ?_)); conv => whnf) | (refine Ok.scope ?_) | ((first | refine Ok.label ?_ | refine rd rfl (by assumption) ?_ | refine ⟨_, .inl ⟨rfl, rfl⟩, ?_⟩ | refine ⟨_, _, rfl, rfl, ?_⟩); conv => whnf) | (refine ⟨fun _ => ?_, fun _ => ?_⟩ <;> (conv => whnf) <;> (try (exfalso; omega))) | ((first | refine aJ ?_ | refine num_any ?_ | refine ⟨_, rfl, ?_⟩); conv => whnf) | fail)
            · rename_i hcn
              refine ⟨i + 1, by omega, ⟨by omega, step fun c' hc' => ?_⟩, ?_⟩
              · rw [hmt] at hc'
                cases hc'
                exact ⟨n, List.mem_of_getElem? hn, hcn⟩
              · (conv => whnf)
                rfl
            · rename_i hcn
              refine ⟨j + 1, by omega, ⟨by omega, fun z hz => ?_⟩, ?_⟩
              · rw [List.take_add_one, hn] at hz
                rcases List.mem_append.1 hz with hz | hz
                · exact hno z hz
                · simp at hz; rw [hz]; exact hcn
              · (conv => whnf)
                rfl
          · have hje : j = a.t.less.length := by omega
            subst hje
            rw [List.take_length] at hno
            (try (conv => whnf)); repeat' (first | refine Ok.seq ?_ | refine OkL.cons ?_ | ((first | refine Ok.region tok ?_ | refine Ok.region_draw tok follows (by kernel_rfl) ?_ | refine Ok.cond ?_); conv => whnf) | refine Ok.block ?_ | ((first | refine Ok.skip ?_ | refine Ok.exit ?_ | refine Ok.ret ?_ | refine nI ?_ | refine ix _ (by assumption) ?_ | refine ixI (by omega) (by assumption) ?_ | refine ix_new _ (by omega) fun _ _ => ?_ | refine ixI_new (by omega) (by omega) fun _ _ => ?_ | refine ⟨_, by assumption, ?_⟩ | refine Alt2.l (aI ?_) | refine Alt2.r (aI ?_)); conv => whnf) | (refine Ok.scope ?_) | ((first | refine Ok.label ?_ | refine rd rfl (by assumption) ?_ | refine ⟨_, .inl ⟨rfl, rfl⟩, ?_⟩ | refine ⟨_, _, rfl, rfl, ?_⟩); conv => whnf) | (refine ⟨fun _ => ?_, fun _ => ?_⟩ <;> (conv => whnf) <;> (try (exfalso; omega))) | ((first | refine aJ ?_ | refine num_any ?_ | refine ⟨_, rfl, ?_⟩); conv => whnf) | fail)
            refine Or.inl ?_; (conv => whnf)
            show D.b False = _
            refine congrArg D.b (propext ⟨fun h => h.elim, fun h2 => ?_⟩)
            obtain ⟨n, hn, hcn⟩ := h2.2 m (List.mem_of_getElem? hm) c hmt
            exact hno n hn hcn
    · have hie : i = b.t.less.length := by omega
      subst hie
      rw [List.take_length] at hall
      (try (conv => whnf)); repeat' (first | refine Ok.seq ?_ | refine OkL.cons ?_ | ((first | refine Ok.region tok ?_ | refine Ok.region_draw tok follows (by kernel_rfl) ?_ | refine Ok.cond ?_); conv => whnf) | refine Ok.block ?_ | ((first | refine Ok.skip ?_ | refine Ok.exit ?_ | refine Ok.ret ?_ | refine nI ?_ | refine ix _ (by assumption) ?_ | refine ixI (by omega) (by assumption) ?_ | refine ix_new _ (by omega) fun _ _ => ?_ | refine ixI_new (by omega) (by omega) fun _ _ => ?_ | refine ⟨_, by assumption, ?_⟩ | refine Alt2.l (aI ?_) | refine Alt2.r (aI ?_)); conv => whnf) | (refine Ok.scope ?_) | ((first | refine Ok.label ?_ | refine rd rfl (by assumption) ?_ | refine ⟨_, .inl ⟨rfl, rfl⟩, ?_⟩ | refine ⟨_, _, rfl, rfl, ?_⟩); conv => whnf) | (refine ⟨fun _ => ?_, fun _ => ?_⟩ <;> (conv => whnf) <;> (try (exfalso; omega))) | ((first | refine aJ ?_ | refine num_any ?_ | refine ⟨_, rfl, ?_⟩); conv => whnf) | fail)
      refine Or.inl ?_; (conv => whnf)
      show D.b True = _
      exact congrArg D.b (propext ⟨fun _ => ⟨hin, hall⟩, fun _ => trivial⟩)
set_option maxRecDepth 100000 in
set_option maxHeartbeats 4000000 in
theorem greatestT_at (l : List TR) {rl room : List (List D)} (hl : l.length ≤ 1048576) (hok : ∀ x ∈ l, TN x) (h : rl = l.map trow) : FSpec Tryd.prog T 75 [.lst 81 rl room, .fn 76 [] []]
    (fun d rows => ∃ W : List TR, Kept covR l l.length W ∧ d = .own 0 (grG covR l).length ∧ rows = [some (81, W.map trow)]) := by
  subst h
  have hll : (l.map trow).length = l.length := by simp
  refine FSpec.of_ok tok Tryd.func75 rfl Tryd.call75 (by simp) ?_
  (try (conv => whnf)); repeat' (first | refine Ok.seq ?_ | refine OkL.cons ?_ | ((first | refine Ok.region tok ?_ | refine Ok.cond ?_); conv => whnf) | refine Ok.block ?_ | ((first | refine Ok.skip ?_ | refine Ok.exit ?_ | refine Ok.ret ?_ | refine nI ?_ | refine ix _ (by assumption) ?_ | refine ixI (by omega) (by assumption) ?_ | refine ix_new _ (by omega) fun _ _ => ?_ | refine ixI_new (by omega) (by omega) fun _ _ => ?_ | refine ⟨_, by assumption, ?_⟩ | refine Alt2.l (aI ?_) | refine Alt2.r (aI ?_)); conv => whnf) | (refine Ok.scope ?_) | ((first | refine Ok.label ?_ | refine rd rfl (by assumption) ?_ | refine ⟨_, .inl ⟨rfl, rfl⟩, ?_⟩ | refine ⟨_, _, rfl, rfl, ?_⟩); conv => whnf) | (refine ⟨fun _ => ?_, fun _ => ?_⟩ <;> (conv => whnf) <;> (try (exfalso; omega))) | ((first | refine aJ ?_ | refine num_any ?_ | refine ⟨_, rfl, ?_⟩); conv => whnf) | fail)
  refine Ok.ghost 5 81 rfl ?_
  (conv => whnf)
  refine Ok.loopU [1, 13, 14] [5, 15] 1 0 (fun (x : Nat × List TR) => [.own 0 (grG covR (l.take x.1)).length, .i .i64 (x.1 : Nat)]) (fun _ b => b) (fun (x : Nat × List TR) (_ : Vx.Rows) => [some (81, x.2.map trow)]) (fun (x : Nat × List TR) => Kept covR l x.1 x.2) (fun (x : Nat × List TR) => l.length - x.1) ((0, [])) (Kept.zero) ?_; (conv => whnf); refine ⟨by ((conv => whnf); first | rfl | (simp [envCat, List.take_of_length_le, cells9]; done) | (simp [envCat, List.take_of_length_le, cells9]; rw [IntKind.wrap_i64]; omega)), ?_⟩
  rintro ⟨i, W⟩ hK
  dsimp only at hK ⊢
  have hWl : (W.map trow).length = W.length := by simp
  have hKn := hK.n
  have hKw := hK.w
  have hKi := hK.le
  (conv => whnf)
  by_cases hil : i < l.length
  · obtain ⟨x, hx⟩ : ∃ x, l[i]? = some x := ⟨_, List.getElem?_eq_getElem hil⟩
    have hxo := hok x (List.mem_of_getElem? hx)
    have hmem : ∀ y ∈ grG covR (l.take i), TN y := fun y hy => hok y (List.take_subset _ _ (grG_sub covR _ y hy))
    (try (conv => whnf)); repeat' (first | refine Ok.seq ?_ | refine OkL.cons ?_ | ((first | refine Ok.region tok ?_ | refine Ok.region_draw tok follows (by kernel_rfl) ?_ | refine Ok.cond ?_); conv => whnf) | refine Ok.block ?_ | ((first | refine Ok.skip ?_ | refine Ok.exit ?_ | refine Ok.ret ?_ | refine nI ?_ | refine ix _ (by assumption) ?_ | refine ixI (by omega) (by assumption) ?_ | refine ix_new _ (by omega) fun _ _ => ?_ | refine ixI_new (by omega) (by omega) fun _ _ => ?_ | refine ⟨_, by assumption, ?_⟩ | refine Alt2.l (aI ?_) | refine Alt2.r (aI ?_)); conv => whnf) | (refine Ok.scope ?_) | ((first | refine Ok.label ?_ | refine rd rfl (by assumption) ?_ | refine ⟨_, .inl ⟨rfl, rfl⟩, ?_⟩ | refine ⟨_, _, rfl, rfl, ?_⟩); conv => whnf) | (refine ⟨fun _ => ?_, fun _ => ?_⟩ <;> (conv => whnf) <;> (try (exfalso; omega))) | ((first | refine aJ ?_ | refine num_any ?_ | refine ⟨_, rfl, ?_⟩); conv => whnf) | fail)
    generalize hKK : grG covR (l.take i) = K at *
    refine Ok.loopU [1, 5, 7, 13, 14, 15, 19, 20] [21] 1 1 (fun (j : Nat) => [.i .i64 (j : Nat)]) (fun _ b => b) (fun _ r => r) (fun (j : Nat) => j ≤ K.length ∧ ∀ y ∈ K.take j, ¬ covR x y) (fun (j : Nat) => K.length - j) (0) (⟨Nat.zero_le _, by simp⟩) ?_; (conv => whnf); refine ⟨by ((conv => whnf); first | rfl | (simp [envCat, List.take_of_length_le, cells9]; done) | (simp [envCat, List.take_of_length_le, cells9]; rw [IntKind.wrap_i64]; omega)), ?_⟩
    rintro j ⟨hj, hno⟩
    (conv => whnf)
    by_cases hjl : j < K.length
    · obtain ⟨y, hy⟩ : ∃ y, K[j]? = some y := ⟨_, List.getElem?_eq_getElem hjl⟩
      have hyo := hmem y (List.mem_of_getElem? hy)
      have hWj : W[((j : Nat) : Int).toNat]? = some y := by
        have := hK.get (j := j) (by rw [hKK]; exact hjl)
        rw [hKK, hy] at this
        exact this
      (try (conv => whnf)); repeat' (first | refine Ok.seq ?_ | refine OkL.cons ?_ | ((first | refine Ok.region tok ?_ | refine Ok.region_draw tok follows (by kernel_rfl) ?_ | refine Ok.cond ?_); conv => whnf) | refine Ok.block ?_ | ((first | refine Ok.skip ?_ | refine Ok.exit ?_ | refine Ok.ret ?_ | refine nI ?_ | refine ix _ (by assumption) ?_ | refine ixI (by omega) (by assumption) ?_ | refine ix_new _ (by omega) fun _ _ => ?_ | refine ixI_new (by omega) (by omega) fun _ _ => ?_ | refine ⟨_, by assumption, ?_⟩); conv => whnf) | (refine Or.inl ?_; (conv => whnf); (repeat (refine aI ?_; conv => whnf)); refine ⟨_, covered_at hxo hyo, rfl, ?_⟩; conv => whnf) | (refine ⟨_, covered_at hxo hyo, rfl, ?_⟩; conv => whnf) | (refine Or.inr (Or.inl ?_); (conv => whnf); (repeat (refine aI ?_; conv => whnf)); refine ⟨_, covered_at hxo hyo, ?_⟩; rintro _ _ ⟨rfl, rfl⟩; conv => whnf) | ((first | refine Alt2.l (aI ?_) | refine Alt2.r (aI ?_)); conv => whnf) | (refine Ok.scope ?_) | ((first | refine Ok.label ?_ | refine rd rfl (by assumption) ?_ | refine ⟨_, .inl ⟨rfl, rfl⟩, ?_⟩ | refine ⟨_, _, rfl, rfl, ?_⟩); conv => whnf) | (refine ⟨fun _ => ?_, fun _ => ?_⟩ <;> (conv => whnf) <;> (try (exfalso; omega))) | ((first | refine aJ ?_ | refine num_any ?_ | refine ⟨_, rfl, ?_⟩); conv => whnf) | fail)
      · rename_i hxy
        have hin : ∃ y ∈ grG covR (l.take i), covR x y := ⟨y, by rw [hKK]; exact List.mem_of_getElem? hy, hxy⟩
        obtain ⟨hs, he⟩ := hK.skip hx hin
        refine ⟨(i + 1, W), by dsimp only; omega, hs, ?_⟩
        dsimp only
        rw [he, hKK]
        (conv => whnf)
        rfl
      · rename_i hxy
        refine ⟨j + 1, by omega, ⟨by omega, fun z hz => ?_⟩, ?_⟩
        · rw [List.take_add_one, hy] at hz
          rcases List.mem_append.1 hz with hz | hz
          · exact hno z hz
          · simp at hz; rw [hz]; exact hxy
        · (conv => whnf)
          rfl
    · have hje : j = K.length := by omega
      subst hje
      rw [List.take_length] at hno
      (try (conv => whnf)); repeat' (first | refine Ok.seq ?_ | refine OkL.cons ?_ | ((first | refine Ok.region tok ?_ | refine Ok.region_draw tok follows (by kernel_rfl) ?_ | refine Ok.cond ?_); conv => whnf) | refine Ok.block ?_ | ((first | refine Ok.skip ?_ | refine Ok.exit ?_ | refine Ok.ret ?_ | refine nI ?_ | refine ix _ (by assumption) ?_ | refine ixI (by omega) (by assumption) ?_ | refine ix_new _ (by omega) fun _ _ => ?_ | refine ixI_new (by omega) (by omega) fun _ _ => ?_ | refine ⟨_, by assumption, ?_⟩ | refine Alt2.l (aI ?_) | refine Alt2.r (aI ?_)); conv => whnf) | (refine Ok.scope ?_) | ((first | refine Ok.label ?_ | refine rd rfl (by assumption) ?_ | refine ⟨_, .inl ⟨rfl, rfl⟩, ?_⟩ | refine ⟨_, _, rfl, rfl, ?_⟩); conv => whnf) | (refine ⟨fun _ => ?_, fun _ => ?_⟩ <;> (conv => whnf) <;> (try (exfalso; omega))) | ((first | refine aJ ?_ | refine num_any ?_ | refine ⟨_, rfl, ?_⟩); conv => whnf) | fail)
      refine ⟨0, rfl, rfl, by omega, ?_⟩
      (try (conv => whnf)); repeat' (first | refine Ok.seq ?_ | refine OkL.cons ?_ | ((first | refine Ok.region tok ?_ | refine Ok.region_draw tok follows (by kernel_rfl) ?_ | refine Ok.cond ?_); conv => whnf) | refine Ok.block ?_ | ((first | refine Ok.skip ?_ | refine Ok.exit ?_ | refine Ok.ret ?_ | refine nI ?_ | refine ix _ (by assumption) ?_ | refine ixI (by omega) (by assumption) ?_ | refine ix_new _ (by omega) fun _ _ => ?_ | refine ixI_new (by omega) (by omega) fun _ _ => ?_ | refine ⟨_, by assumption, ?_⟩ | refine Alt2.l (aI ?_) | refine Alt2.r (aI ?_)); conv => whnf) | (refine Ok.scope ?_) | ((first | refine Ok.label ?_ | refine rd rfl (by assumption) ?_ | refine ⟨_, .inl ⟨rfl, rfl⟩, ?_⟩ | refine ⟨_, _, rfl, rfl, ?_⟩); conv => whnf) | (refine ⟨fun _ => ?_, fun _ => ?_⟩ <;> (conv => whnf) <;> (try (exfalso; omega))) | ((first | refine aJ ?_ | refine num_any ?_ | refine ⟨_, rfl, ?_⟩); conv => whnf) | fail)
      refine Ok.loopU [1, 7, 13, 14, 15, 32, 33] [10, 34] 1 1 (fun (z : Nat × List TR) => [.own 0 (leftOf covR K x z.1).length, .i .i64 (z.1 : Nat)]) (fun _ b => b) (fun (z : Nat × List TR) (_ : Vx.Rows) => [some (81, z.2.map trow)]) (fun (z : Nat × List TR) => Mid covR K x W z.1 z.2) (fun (z : Nat × List TR) => K.length - z.1) ((0, W)) (Mid.zero) ?_; (conv => whnf); refine ⟨by ((conv => whnf); first | rfl | (simp [envCat, List.take_of_length_le, cells9]; done) | (simp [envCat, List.take_of_length_le, cells9]; rw [IntKind.wrap_i64]; omega)), ?_⟩
      rintro ⟨k, W'⟩ hM
      dsimp only at hM ⊢
      have hMk := hM.le
      have hMl := hM.len
      have hWl' : (W'.map trow).length = W'.length := by simp
      have hkept : W.take K.length = K := by
        have := hK.tk
        rw [hKK] at this
        exact this
      (conv => whnf)
      by_cases hkl : k < K.length
      · obtain ⟨y, hy⟩ : ∃ y, K[k]? = some y := ⟨_, List.getElem?_eq_getElem hkl⟩
        have hyo := hmem y (List.mem_of_getElem? hy)
        have hWj : W'[((k : Nat) : Int).toNat]? = some y := by
          rw [toNat_cast, hM.get hkept hkl, hy]
        by_cases hyx : covR y x
        · obtain ⟨hd, he⟩ := hM.drop hy hyx
          (try (conv => whnf)); repeat' (first | refine Ok.seq ?_ | refine OkL.cons ?_ | ((first | refine Ok.region tok ?_ | refine Ok.region_draw tok follows (by kernel_rfl) ?_ | refine Ok.cond ?_); conv => whnf) | refine Ok.block ?_ | ((first | refine Ok.skip ?_ | refine Ok.exit ?_ | refine Ok.ret ?_ | refine nI ?_ | refine ix _ (by assumption) ?_ | refine ixI (by omega) (by assumption) ?_ | refine ix_new _ (by omega) fun _ _ => ?_ | refine ixI_new (by omega) (by omega) fun _ _ => ?_ | refine ⟨_, by assumption, ?_⟩); conv => whnf) | (refine Or.inl ?_; (conv => whnf); (repeat (refine aI ?_; conv => whnf)); refine ⟨_, covered_at hyo hxo, rfl, ?_⟩; conv => whnf) | (refine ⟨_, covered_at hyo hxo, rfl, ?_⟩; conv => whnf) | (refine Or.inr (Or.inl ?_); (conv => whnf); (repeat (refine aI ?_; conv => whnf)); refine ⟨_, covered_at hyo hxo, ?_⟩; rintro _ _ ⟨rfl, rfl⟩; conv => whnf) | ((first | refine Alt2.l (aI ?_) | refine Alt2.r (aI ?_)); conv => whnf) | (refine Ok.scope ?_) | ((first | refine Ok.label ?_ | refine rd rfl (by assumption) ?_ | refine ⟨_, .inl ⟨rfl, rfl⟩, ?_⟩ | refine ⟨_, _, rfl, rfl, ?_⟩); conv => whnf) | (refine ⟨fun _ => ?_, fun _ => ?_⟩ <;> (conv => whnf) <;> (try (exfalso; omega))) | ((first | refine aJ ?_ | refine num_any ?_ | refine ⟨_, rfl, ?_⟩); conv => whnf) | fail)
          · exact absurd hyx (by assumption)
          · refine ⟨(k + 1, W'), by dsimp only; omega, hd, ?_⟩
            dsimp only
            rw [he]
            (conv => whnf)
            rfl
        · obtain ⟨hd, he, hlt⟩ := hM.keep hKn hy hyx
          have hlt2 : (leftOf covR K x k).length < (W'.map trow).length := by omega
          have hnle : ¬ (leftOf covR K x k).length = (W'.map trow).length := by omega
          (try (conv => whnf)); repeat' (first | refine Ok.seq ?_ | refine OkL.cons ?_ | ((first | refine Ok.region tok ?_ | refine Ok.region_draw tok follows (by kernel_rfl) ?_ | refine Ok.cond ?_); conv => whnf) | refine Ok.block ?_ | ((first | refine Ok.skip ?_ | refine Ok.exit ?_ | refine Ok.ret ?_ | refine nI ?_ | refine ix _ (by assumption) ?_ | refine ixI (by omega) (by assumption) ?_ | refine ix_new _ (by omega) fun _ _ => ?_ | refine ixI_new (by omega) (by omega) fun _ _ => ?_ | refine ⟨_, by assumption, ?_⟩); conv => whnf) | (refine Or.inl ?_; (conv => whnf); (repeat (refine aI ?_; conv => whnf)); refine ⟨_, covered_at hyo hxo, rfl, ?_⟩; conv => whnf) | (refine ⟨_, covered_at hyo hxo, rfl, ?_⟩; conv => whnf) | (refine Or.inr (Or.inl ?_); (conv => whnf); (repeat (refine aI ?_; conv => whnf)); refine ⟨_, covered_at hyo hxo, ?_⟩; rintro _ _ ⟨rfl, rfl⟩; conv => whnf) | ((first | refine Alt2.l (aI ?_) | refine Alt2.r (aI ?_)); conv => whnf) | (refine Ok.scope ?_) | ((first | refine Ok.label ?_ | refine rd rfl (by assumption) ?_ | refine ⟨_, .inl ⟨rfl, rfl⟩, ?_⟩ | refine ⟨_, _, rfl, rfl, ?_⟩); conv => whnf) | (refine ⟨fun _ => ?_, fun _ => ?_⟩ <;> (conv => whnf) <;> (try (exfalso; omega))) | ((first | refine aJ ?_ | refine num_any ?_ | refine ⟨_, rfl, ?_⟩); conv => whnf) | fail)
          · refine ⟨(k + 1, W'.set (leftOf covR K x k).length y), by dsimp only; omega, hd, ?_⟩
            dsimp only
            rw [he, List.length_append, List.map_set]
            (conv => whnf)
            rfl
          · rename_i hh
            exact absurd hyx hh
      · have hke : k = K.length := by omega
        subst hke
        obtain ⟨se, sl, sg⟩ := hK.step hx (by rw [hKK]; exact hno) (by rw [hKK]; exact hM)
        rw [hKK] at se sl sg
        by_cases hm : (leftOf covR K x K.length).length = W'.length
        · have hm2 : (leftOf covR K x K.length).length = (W'.map trow).length := by omega
          (try (conv => whnf)); repeat' (first | refine Ok.seq ?_ | refine OkL.cons ?_ | ((first | refine Ok.region tok ?_ | refine Ok.region_draw tok follows (by kernel_rfl) ?_ | refine Ok.cond ?_); conv => whnf) | refine Ok.block ?_ | ((first | refine Ok.skip ?_ | refine Ok.exit ?_ | refine Ok.ret ?_ | refine nI ?_ | refine ix _ (by assumption) ?_ | refine ixI (by omega) (by assumption) ?_ | refine ix_new _ (by omega) fun _ _ => ?_ | refine ixI_new (by omega) (by omega) fun _ _ => ?_ | refine ⟨_, by assumption, ?_⟩ | refine Alt2.l (aI ?_) | refine Alt2.r (aI ?_)); conv => whnf) | (refine Ok.scope ?_) | ((first | refine Ok.label ?_ | refine rd rfl (by assumption) ?_ | refine ⟨_, .inl ⟨rfl, rfl⟩, ?_⟩ | refine ⟨_, _, rfl, rfl, ?_⟩); conv => whnf) | (refine ⟨fun _ => ?_, fun _ => ?_⟩ <;> (conv => whnf) <;> (try (exfalso; omega))) | ((first | refine aJ ?_ | refine num_any ?_ | refine ⟨_, rfl, ?_⟩); conv => whnf) | fail)
          refine ⟨(i + 1, W' ++ [x]), by dsimp only; omega, sg hm, ?_⟩
          dsimp only
          rw [se, List.map_append]
          (conv => whnf)
          simp [envCat, hm]
        · have hle2 := hM.tk
          have hlt : (leftOf covR K x K.length).length < W'.length := by
            have := congrArg List.length hM.tk
            rw [List.length_take] at this
            omega
          have hlt2 : (leftOf covR K x K.length).length < (W'.map trow).length := by omega
          (try (conv => whnf)); repeat' (first | refine Ok.seq ?_ | refine OkL.cons ?_ | ((first | refine Ok.region tok ?_ | refine Ok.region_draw tok follows (by kernel_rfl) ?_ | refine Ok.cond ?_); conv => whnf) | refine Ok.block ?_ | ((first | refine Ok.skip ?_ | refine Ok.exit ?_ | refine Ok.ret ?_ | refine nI ?_ | refine ix _ (by assumption) ?_ | refine ixI (by omega) (by assumption) ?_ | refine ix_new _ (by omega) fun _ _ => ?_ | refine ixI_new (by omega) (by omega) fun _ _ => ?_ | refine ⟨_, by assumption, ?_⟩ | refine Alt2.l (aI ?_) | refine Alt2.r (aI ?_)); conv => whnf) | (refine Ok.scope ?_) | ((first | refine Ok.label ?_ | refine rd rfl (by assumption) ?_ | refine ⟨_, .inl ⟨rfl, rfl⟩, ?_⟩ | refine ⟨_, _, rfl, rfl, ?_⟩); conv => whnf) | (refine ⟨fun _ => ?_, fun _ => ?_⟩ <;> (conv => whnf) <;> (try (exfalso; omega))) | ((first | refine aJ ?_ | refine num_any ?_ | refine ⟨_, rfl, ?_⟩); conv => whnf) | fail)
          refine ⟨(i + 1, W'.set (leftOf covR K x K.length).length x), by dsimp only; omega, sl hlt, ?_⟩
          dsimp only
          rw [se, List.length_append, List.map_set]
          (conv => whnf)
          rfl
  · have hie : i = l.length := by omega
    subst hie
    rw [List.take_length] at *
    (try (conv => whnf)); repeat' (first | refine Ok.seq ?_ | refine OkL.cons ?_ | ((first | refine Ok.region tok ?_ | refine Ok.region_draw tok follows (by kernel_rfl) ?_ | refine Ok.cond ?_); conv => whnf) | refine Ok.block ?_ | ((first | refine Ok.skip ?_ | refine Ok.exit ?_ | refine Ok.ret ?_ | refine nI ?_ | refine ix _ (by assumption) ?_ | refine ixI (by omega) (by assumption) ?_ | refine ix_new _ (by omega) fun _ _ => ?_ | refine ixI_new (by omega) (by omega) fun _ _ => ?_ | refine ⟨_, by assumption, ?_⟩ | refine Alt2.l (aI ?_) | refine Alt2.r (aI ?_)); conv => whnf) | (refine Ok.scope ?_) | ((first | refine Ok.label ?_ | refine rd rfl (by assumption) ?_ | refine ⟨_, .inl ⟨rfl, rfl⟩, ?_⟩ | refine ⟨_, _, rfl, rfl, ?_⟩); conv => whnf) | (refine ⟨fun _ => ?_, fun _ => ?_⟩ <;> (conv => whnf) <;> (try (exfalso; omega))) | ((first | refine aJ ?_ | refine num_any ?_ | refine ⟨_, rfl, ?_⟩); conv => whnf) | fail)
    refine Or.inr (Or.inl ?_); (conv => whnf)
    exact ⟨W, hK, rfl, rfl⟩
end Go.Proofs.YtaiondckookpiaaDoor
namespace Go.Proofs.YtaiondckookpiaaDoor
open Go Go.Vx Go.Shelf Go.RowKit Go.Lib Go.Sort
theorem bExtra : Builder.Extra Tryd.prog Tryd.vxStr_ren where
  sizeBuilder := by kernel_rfl
  liesBuilder := by kernel_rfl
  t5 := by kernel_rfl
  a5 := fun _ => by kernel_rfl
  z5 := fun _ => by kernel_rfl
  v5 := fun _ => by kernel_rfl
  infoByte := by kernel_rfl
  cellsByte := by kernel_rfl
  sizeByte := by kernel_rfl
  neB5 := by decide
theorem strAt : StrC Tryd.prog 49 5 := strC Tryd.vxStr bExtra Tryd.call49
theorem bSize : ∃ j, Tryd.prog.info? 88 = some j ∧ j.size = 2 := Option.map_eq_some_iff.1 (by kernel_rfl : (Tryd.prog.info? 88).map (·.size) = some 2)
theorem bPtr : Tryd.prog.underlying 85 = some (.pointer 88) := by kernel_rfl
theorem bUns : Tryd.prog.underlying 139 = some .unsafePointer := by kernel_rfl
theorem bLies : liesAt Tryd.prog Tryd.prog.depth 88 (2 / Tryd.prog.cellsOf 88) 0 88 1 = true := by kernel_rfl
set_option maxHeartbeats 1000000 in
set_option maxRecDepth 100000 in
theorem copy_used (b : Nat) (w : World) (h0 : w.cell? ⟨b, 0, none⟩ = some (.pointer (some ⟨b, 0, none⟩))) :
    Calls Tryd.prog 78 #[.pointer (some ⟨b, 0, none⟩)] w fun e w' => e = .returned (.tuple #[]) ∧ w' = w := by
  obtain ⟨j, hj, hjs⟩ := bSize
  go_enter Tryd.func78, Tryd.ntmps78
  go_wp2
  rw [Lib.run_neq_ptr_same w _ bPtr hj]
  go_wp2
  go_end0
  exact ⟨rfl, rfl⟩
set_option maxHeartbeats 1000000 in
set_option maxRecDepth 100000 in
theorem copy_fresh (b : Nat) (w : World) (h0 : w.cell? ⟨b, 0, none⟩ = some (.pointer none)) (hsh : w.shape? b = some (88, 2)) (hfz : w.frozen? ⟨b, 0, none⟩ = false) :
    Calls Tryd.prog 78 #[.pointer (some ⟨b, 0, none⟩)] w fun e w' => e = .returned (.tuple #[]) ∧ w' = w.setCell ⟨b, 0, none⟩ (.pointer (some ⟨b, 0, none⟩)) := by
  obtain ⟨j, hj, hjs⟩ := bSize
  go_enter Tryd.func78, Tryd.ntmps78
  go_wp2
  rw [Lib.run_to_unsafe w ⟨b, 0, none⟩ bPtr bUns hj (by rw [hjs]; decide) hsh (Nat.zero_lt_succ 1)]
  simp only [Result.andThen]
  rw [Oper.upon_value]
  go_wp2
  rw [run_callFunc_extern Tryd.func100 (by kernel_rfl) (by kernel_rfl) (by kernel_rfl) (e := Extern.AbiNoEscape.same) (by kernel_rfl)]
  rw [Lib.run_noEscape]
  simp only [Result.andThen]
  rw [Oper.upon_value]
  go_wp2
  rw [Lib.run_from_unsafe w ⟨b, 0, none⟩ bUns bPtr hj hsh bLies]
  simp only [Result.andThen]
  rw [Oper.upon_value]
  go_wp2
  go_end0
  exact ⟨rfl, rfl⟩
theorem copyAt : CopyC Tryd.prog 78 88 := ⟨Tryd.call78, copy_fresh, copy_used⟩
theorem swo_bytes {α : Type} (key : α → List UInt8) : SWO (fun x y : α => Op.bytesLess (key x) (key y)) where
  irrefl := fun x => by
    cases h : Op.bytesLess (key x) (key x) with
    | false => rfl
    | true => exact absurd h (bl_irrefl _)
  trans := fun x y z h k => bl_trans h k
  ntrans := fun x y z h k => by
    cases h2 : Op.bytesLess (key x) (key z) with
    | false => rfl
    | true =>
      exfalso
      by_cases e : key x = key y
      · rw [e, k] at h2; cases h2
      · rcases bl_total e with q | q
        · rw [h] at q; cases q
        · have := bl_trans q h2
          rw [k] at this
          cases this
set_option maxHeartbeats 2000000 in
theorem less_told (blk c Bs size : Nat) (W : World) (G : Nat → List UInt8) (hs : W.cell? ⟨Bs, 0, none⟩ = some (.slice (some ⟨blk, 0, none⟩) size c))
    (hc : ∀ t, t < size → W.cell? ⟨blk, 0 + (t * 10 + 9), none⟩ = some (.string (bstr (G t)))) (i j : Nat) (hi : i < size) (hj : j < size) (_hsz : size < 4611686018427387904) :
    Calls Tryd.prog 74 #[.int .i64 i, .int .i64 j, .pointer (some ⟨Bs, 0, none⟩)] W fun e w' => e = .returned (.bool (Op.bytesLess (G i) (G j))) ∧ ∃ q, w' = W.drewN q := by
  have ci := hc i hi
  have cj := hc j hj
  rw [Nat.zero_add] at ci cj
  go_enter Tryd.func74, Tryd.ntmps74
  go_wp2
  go_quiet (fail)
  go_wp2
  go_ret
  refine ⟨?_, nq, rfl⟩
  show Ending.returned (.bool (Op.bytesLess (bstr (G i)).toList (bstr (G j)).toList)) = _
  rw [bstr_toList, bstr_toList]
noncomputable def sitoldT : TypeInfo := (Tryd.prog.info? 121).get (by kernel_rfl)
noncomputable def sitoldE : TypeInfo := (Tryd.prog.info? 123).get (by kernel_rfl)
theorem sitoldK (n : Nat) (h2 : 2 ≤ n) : Lib.swapperK n sitoldE 25 = 9 := by
  have a : sitoldE.hasPointers = true := by kernel_rfl
  have b : (sitoldE.bytes == 8) = false := by kernel_rfl
  have c : (n == 0) = false := by simp; omega
  have d : (n == 1) = false := by simp; omega
  simp [Lib.swapperK, a, b, c, d]
set_option maxHeartbeats 2000000 in
theorem sort_told : SortC Tryd.prog 73 121 10 9 74 where
  call := Tryd.call73
  conc := by kernel_rfl
  big := fun α _ enc key hk h1 hkey blk c Bs d h2 hsz w hH hblk hBs hB1 hB2 => by
    have hless : LessReadsK Tryd.prog 74 #[.pointer (some ⟨Bs, 0, none⟩)] enc 10 (fun x y => Op.bytesLess (key x) (key y)) blk 0 d.size w := by
      intro m os dk hs i j hi hj
      have e : sortWorldK enc 10 w blk 0 m dk os = putRowK enc 10 (grow (Sort.ahead w m) os) blk 0 dk := by
        unfold sortWorldK; rw [putRowK_grow _ _ (Sort.ahead w m) _ blk 0 _ hblk]
      have hHg : HoldsK enc 10 (grow (Sort.ahead w m) os) blk 0 d := holdsK_grow _ _ _ _ blk 0 d hblk (holdsK_ahead _ _ _ _ _ _ _ hH)
      refine less_told blk c Bs d.size _ (fun t => key dk[t]!) ?_ (fun t ht => ?_) i j hi hj (by omega)
      · rw [e, cell?_putRowK_other _ _ _ blk 0 dk _ (by exact hB2), cell?_grow _ _ _ (by exact hB1)]; exact hBs
      · rw [e]
        have h3 := ((holdsK_putRowK _ _ _ blk 0 d dk hHg hs).cell (i := t) (c := 9) (by omega) (by omega)).1
        refine h3.trans ?_
        exact congrArg some (List.getElem!_of_getElem? (hkey dk[t]!))
    exact Any.sort_Slice_cells_sorted Tryd.vxSort 121 123 sitoldT sitoldE (by kernel_rfl) (by kernel_rfl) (by kernel_rfl) (by kernel_rfl) 25 (fun _ => by kernel_rfl) enc 10 hk (by kernel_rfl) (fun _ => by kernel_rfl)
      h1 _ (swo_bytes key) 74 _
      (enters_of Tryd.func74 (by kernel_rfl) rfl) blk 0 c d h2 hsz 115 (by rw [sitoldK _ h2]; kernel_rfl) false
      (fun args W => run_callFunc_extern Tryd.func115 (by kernel_rfl) (by kernel_rfl) (by kernel_rfl) (e := Extern.ReflectliteSwapper.swap false) (by kernel_rfl) args W) w hless hH hblk
  tiny := fun p n c lb w h1 => by
    rcases Nat.eq_zero_or_pos n with h | h
    · subst h
      exact Any.sort_Slice_tiny Tryd.vxSort 121 123 sitoldT sitoldE (by kernel_rfl) (by kernel_rfl) (by kernel_rfl) (by kernel_rfl) 25 (fun _ => by kernel_rfl) p 0 c h1 107 (by kernel_rfl) (.func 74) #[] lb w
    · obtain rfl : n = 1 := by omega
      exact Any.sort_Slice_tiny Tryd.vxSort 121 123 sitoldT sitoldE (by kernel_rfl) (by kernel_rfl) (by kernel_rfl) (by kernel_rfl) 25 (fun _ => by kernel_rfl) p 1 c h1 108 (by kernel_rfl) (.func 74) #[] lb w
set_option maxHeartbeats 2000000 in
theorem less_term (blk c Bs size : Nat) (W : World) (G : Nat → List UInt8) (hs : W.cell? ⟨Bs, 0, none⟩ = some (.slice (some ⟨blk, 0, none⟩) size c))
    (hc : ∀ t, t < size → W.cell? ⟨blk, 0 + (t * 11 + 10), none⟩ = some (.string (bstr (G t)))) (i j : Nat) (hi : i < size) (hj : j < size) (_hsz : size < 4611686018427387904) :
    Calls Tryd.prog 77 #[.int .i64 i, .int .i64 j, .pointer (some ⟨Bs, 0, none⟩)] W fun e w' => e = .returned (.bool (Op.bytesLess (G i) (G j))) ∧ ∃ q, w' = W.drewN q := by
  have ci := hc i hi
  have cj := hc j hj
  rw [Nat.zero_add] at ci cj
  go_enter Tryd.func77, Tryd.ntmps77
  go_wp2
  go_quiet (fail)
  go_wp2
  go_ret
  refine ⟨?_, nq, rfl⟩
  show Ending.returned (.bool (Op.bytesLess (bstr (G i)).toList (bstr (G j)).toList)) = _
  rw [bstr_toList, bstr_toList]
noncomputable def sitermT : TypeInfo := (Tryd.prog.info? 22).get (by kernel_rfl)
noncomputable def sitermE : TypeInfo := (Tryd.prog.info? 81).get (by kernel_rfl)
theorem sitermK (n : Nat) (h2 : 2 ≤ n) : Lib.swapperK n sitermE 25 = 9 := by
  have a : sitermE.hasPointers = true := by kernel_rfl
  have b : (sitermE.bytes == 8) = false := by kernel_rfl
  have c : (n == 0) = false := by simp; omega
  have d : (n == 1) = false := by simp; omega
  simp [Lib.swapperK, a, b, c, d]
set_option maxHeartbeats 2000000 in
theorem sort_term : SortC Tryd.prog 73 22 11 10 77 where
  call := Tryd.call73
  conc := by kernel_rfl
  big := fun α _ enc key hk h1 hkey blk c Bs d h2 hsz w hH hblk hBs hB1 hB2 => by
    have hless : LessReadsK Tryd.prog 77 #[.pointer (some ⟨Bs, 0, none⟩)] enc 11 (fun x y => Op.bytesLess (key x) (key y)) blk 0 d.size w := by
      intro m os dk hs i j hi hj
      have e : sortWorldK enc 11 w blk 0 m dk os = putRowK enc 11 (grow (Sort.ahead w m) os) blk 0 dk := by
        unfold sortWorldK; rw [putRowK_grow _ _ (Sort.ahead w m) _ blk 0 _ hblk]
      have hHg : HoldsK enc 11 (grow (Sort.ahead w m) os) blk 0 d := holdsK_grow _ _ _ _ blk 0 d hblk (holdsK_ahead _ _ _ _ _ _ _ hH)
      refine less_term blk c Bs d.size _ (fun t => key dk[t]!) ?_ (fun t ht => ?_) i j hi hj (by omega)
      · rw [e, cell?_putRowK_other _ _ _ blk 0 dk _ (by exact hB2), cell?_grow _ _ _ (by exact hB1)]; exact hBs
      · rw [e]
        have h3 := ((holdsK_putRowK _ _ _ blk 0 d dk hHg hs).cell (i := t) (c := 10) (by omega) (by omega)).1
        refine h3.trans ?_
        exact congrArg some (List.getElem!_of_getElem? (hkey dk[t]!))
    exact Any.sort_Slice_cells_sorted Tryd.vxSort 22 81 sitermT sitermE (by kernel_rfl) (by kernel_rfl) (by kernel_rfl) (by kernel_rfl) 25 (fun _ => by kernel_rfl) enc 11 hk (by kernel_rfl) (fun _ => by kernel_rfl)
      h1 _ (swo_bytes key) 77 _
      (enters_of Tryd.func77 (by kernel_rfl) rfl) blk 0 c d h2 hsz 115 (by rw [sitermK _ h2]; kernel_rfl) false
      (fun args W => run_callFunc_extern Tryd.func115 (by kernel_rfl) (by kernel_rfl) (by kernel_rfl) (e := Extern.ReflectliteSwapper.swap false) (by kernel_rfl) args W) w hless hH hblk
  tiny := fun p n c lb w h1 => by
    rcases Nat.eq_zero_or_pos n with h | h
    · subst h
      exact Any.sort_Slice_tiny Tryd.vxSort 22 81 sitermT sitermE (by kernel_rfl) (by kernel_rfl) (by kernel_rfl) (by kernel_rfl) 25 (fun _ => by kernel_rfl) p 0 c h1 107 (by kernel_rfl) (.func 77) #[] lb w
    · obtain rfl : n = 1 := by omega
      exact Any.sort_Slice_tiny Tryd.vxSort 22 81 sitermT sitermE (by kernel_rfl) (by kernel_rfl) (by kernel_rfl) (by kernel_rfl) 25 (fun _ => by kernel_rfl) p 1 c h1 108 (by kernel_rfl) (.func 77) #[] lb w
end Go.Proofs.YtaiondckookpiaaDoor
namespace Go.Proofs.YtaiondckookpiaaDoor
open Go Go.Vx
structure LR where
  l : List Str
  room : List (List D)
@[reducible] def lrow (x : LR) : List D := [.lst 69 (x.l.map crow) x.room]
def allL (lss : List LR) : List Str := (lss.map LR.l).flatten
theorem allL_take {lss : List LR} {i : Nat} {x : LR} (h : lss[i]? = some x) : allL (lss.take (i + 1)) = allL (lss.take i) ++ x.l := by
  unfold allL
  rw [take_snoc h]
  simp
theorem allL_le (lss : List LR) (i : Nat) : (allL (lss.take i)).length ≤ (allL lss).length := by
  unfold allL
  conv => rhs; rw [← List.take_append_drop i lss]
  rw [List.map_append, List.flatten_append, List.length_append]
  omega
theorem allL_le2 {lss : List LR} {i : Nat} {x : LR} (h : lss[i]? = some x) (j : Nat) : (allL (lss.take i) ++ x.l.take j).length ≤ (allL lss).length := by
  have h1 := allL_le lss (i + 1)
  rw [allL_take h] at h1
  simp at h1 ⊢
  omega
@[reducible] def trow2 (x : Str × Str) : List D := [.i .i64 (x.1.length : Int), .i .u64 ((wof (car x.1) 0).toNat : Int), .i .u64 ((wof (car x.1) 1).toNat : Int), .i .u64 ((wof (car x.1) 2).toNat : Int), .i .u64 ((wof (car x.1) 3).toNat : Int), .i .u64 ((wof (one x.1) 0).toNat : Int), .i .u64 ((wof (one x.1) 1).toNat : Int), .i .u64 ((wof (one x.1) 2).toNat : Int), .i .u64 ((wof (one x.1) 3).toNat : Int), .s x.2]
def dup (c : Str) : Str × Str := (c, c)
theorem take_all2 {α : Type} {l : List α} {n : Nat} (h : l.length = n) : l.take n = l := List.take_of_length_le (by omega)
theorem drop_all2 {α : Type} {l : List α} {n : Nat} (h : l.length = n) : l.drop n = [] := List.drop_of_length_le (by omega)
def kf (p : Str) (ks : List Str) (i : Nat) : Str := p ++ (ks.take i).flatten
theorem kf_zero (p : Str) (ks : List Str) : kf p ks 0 = p := by simp [kf]
theorem kf_step {p : Str} {ks : List Str} {i : Nat} {c : Str} (h : ks[i]? = some c) : kf p ks (i + 1) = kf p ks i ++ c := by
  unfold kf
  rw [take_snoc h]
  simp
theorem kf_len {p : Str} {ks : List Str} {i n : Nat} (hp : p.length ≤ 256) (h : ∀ c ∈ ks, c.length ≤ 256) (hi : i ≤ n) : (kf p ks i).length ≤ 256 + n * 256 := by
  have h1 := flat_len (l := ks.take i) (n := 256) fun x hx => h x (List.mem_of_mem_take hx)
  have h2 : (ks.take i).length * 256 ≤ n * 256 := Nat.mul_le_mul_right _ (by simp; omega)
  unfold kf
  rw [List.length_append]
  omega
theorem kf_key {p : Str} {ks : List Str} {n : Nat} (h : ks.length = n) : Term.key ⟨p, ks⟩ = kf p ks n := by
  unfold kf Term.key
  rw [← h, List.take_length]
theorem kf_ne {p : Str} {ks : List Str} {n : Nat} (h : p ≠ []) : kf p ks n ≠ [] := fun e => h (List.append_eq_nil_iff.1 e).1
theorem byteT : ByteT Tryd.prog 5 := by unfold ByteT; kernel_rfl
@[reducible] def tzero : List D := [.i .i64 0, .i .u64 0, .i .u64 0, .i .u64 0, .i .u64 0, .i .u64 0, .i .u64 0, .i .u64 0, .i .u64 0, .nilS, .s []]
def NewT (p : Str) (less : List Str) (d : D) (rows : Vx.Rows) : Prop :=
  rows = [] ∧ ((termT p less = none ∧ d = .tup [.agg (trow ⟨⟨[], []⟩, []⟩), .b False]) ∨ ∃ t rm, termT p less = some t ∧ d = .tup [.agg (trow ⟨t, rm⟩), .b True])
set_option maxRecDepth 100000 in
set_option maxHeartbeats 8000000 in
theorem newTerm_at (p : Str) (lss : List LR) {rl room : List (List D)} (hp : CN p) (hok : ∀ x ∈ lss, ∀ m ∈ x.l, CT m) (hn : (allL lss).length ≤ 100000) (h1 : lss.length ≤ 100000) (h : rl = lss.map lrow) :
    FSpec Tryd.prog T 45 [.agg (crow p), .lst 52 rl room] (NewT p (allL lss)) := by
  subst h
  have hll : (lss.map lrow).length = lss.length := by simp
  refine FSpec.of_ok tok Tryd.func45 rfl Tryd.call45 (by simp) ?_
  (try (conv => whnf)); repeat' (first | refine Ok.seq ?_ | refine OkL.cons ?_ | ((first | refine Ok.region tok ?_ | refine Ok.cond ?_); conv => whnf) | refine Ok.block ?_ | ((first | refine Ok.skip ?_ | refine Ok.exit ?_ | refine Ok.ret ?_ | refine nI ?_ | refine ix _ (by assumption) ?_ | refine ixI (by omega) (by assumption) ?_ | refine ix_new _ (by omega) fun _ _ => ?_ | refine ixI_new (by omega) (by omega) fun _ _ => ?_ | refine ⟨_, by assumption, ?_⟩ | refine Alt2.l (aI ?_) | refine Alt2.r (aI ?_)); conv => whnf) | (refine Ok.scope ?_) | ((first | refine Ok.label ?_ | refine rd rfl (by assumption) ?_ | refine ⟨_, .inl ⟨rfl, rfl⟩, ?_⟩ | refine ⟨_, _, rfl, rfl, ?_⟩); conv => whnf) | (refine ⟨fun _ => ?_, fun _ => ?_⟩ <;> (conv => whnf) <;> (try (exfalso; omega))) | ((first | refine aJ ?_ | refine num_any ?_ | refine ⟨_, rfl, ?_⟩); conv => whnf) | fail)
  refine Ok.ghost 6 69 rfl ?_
  (conv => whnf)
  refine Ok.loopU [2, 4, 21, 22] [6, 23] 1 2 (fun (i : Nat) => [.own 0 (metL p (allL (lss.take i))).length, .i .i64 (i : Nat)]) (fun _ b => b) (fun (i : Nat) (_ : Vx.Rows) => [some (69, (metL p (allL (lss.take i))).map crow)]) (fun (i : Nat) => i ≤ lss.length) (fun (i : Nat) => lss.length - i) (0) (Nat.zero_le _) ?_; (conv => whnf); refine ⟨by ((conv => whnf); first | rfl | (simp [envCat, List.take_of_length_le, cells9, crow, trow2, kf_zero]; done) | (simp [envCat, List.take_of_length_le, cells9, crow, trow2, kf_zero]; rw [IntKind.wrap_i64]; omega)), ?_⟩
  rintro i hi
  (conv => whnf)
  by_cases hil : i < lss.length
  · obtain ⟨x, hx⟩ : ∃ x, lss[i]? = some x := ⟨_, List.getElem?_eq_getElem hil⟩
    have hxo := hok x (List.mem_of_getElem? hx)
    have hxl : (x.l.map crow).length = x.l.length := by simp
    have hat := allL_take hx
    have hxl2 : x.l.length ≤ 100000 := by have := allL_le2 hx x.l.length; rw [List.take_length, List.length_append] at this; omega
    (try (conv => whnf)); repeat' (first | refine Ok.seq ?_ | refine OkL.cons ?_ | ((first | refine Ok.region tok ?_ | refine Ok.region_plan (id := 24) tok follows [(5, 6, []), (0, 9, []), (4, 9, []), (5, 9, [6]), (6, 9, []), (0, 12, []), (2, 12, []), (4, 12, []), (5, 12, []), (6, 12, []), (9, 12, [])] [.q 0, .q 1, .q 2, .q 3, .q 4, .q 5, .l 6, .q 7, .q 8, .l 9, .q 10, .q 11, .l 12] (by kernel_rfl) ?_ | refine Ok.region_plan (id := 35) tok follows [(0, 4, []), (2, 4, [])] [.q 0, .q 1, .l 2, .q 3, .l 4, .q 5] (by kernel_rfl) ?_ | refine Ok.region_draw tok follows (by kernel_rfl) ?_ | refine Ok.cond ?_); conv => whnf) | refine Ok.block ?_ | ((first | refine Ok.skip ?_ | refine Ok.exit ?_ | refine Ok.ret ?_ | refine nI ?_ | refine ix _ (by assumption) ?_ | refine ixI (by omega) (by assumption) ?_ | refine ix_new _ (by omega) fun _ _ => ?_ | refine ixI_new (by omega) (by omega) fun _ _ => ?_ | refine ⟨_, by assumption, ?_⟩ | refine Alt2.l (aI ?_) | refine Alt2.r (aI ?_)); conv => whnf) | (refine Ok.scope ?_) | ((first | refine Ok.label ?_ | refine rd rfl (by assumption) ?_ | refine ⟨_, .inl ⟨rfl, rfl⟩, ?_⟩ | refine ⟨_, _, rfl, rfl, ?_⟩); conv => whnf) | (refine ⟨fun _ => ?_, fun _ => ?_⟩ <;> (conv => whnf) <;> (try (exfalso; omega))) | ((first | refine aJ ?_ | refine num_any ?_ | refine ⟨_, rfl, ?_⟩); conv => whnf) | fail)
    refine Ok.loopU [2, 4, 21, 22, 23, 27, 28] [6, 29] 1 2 (fun (j : Nat) => [.own 0 (metL p (allL (lss.take i) ++ x.l.take j)).length, .i .i64 (j : Nat)]) (fun _ b => b) (fun (j : Nat) (_ : Vx.Rows) => [some (69, (metL p (allL (lss.take i) ++ x.l.take j)).map crow)]) (fun (j : Nat) => j ≤ x.l.length) (fun (j : Nat) => x.l.length - j) (0) (Nat.zero_le _) ?_; (conv => whnf); refine ⟨by ((conv => whnf); first | rfl | (simp [envCat, List.take_of_length_le, cells9, crow, trow2, kf_zero]; done) | (simp [envCat, List.take_of_length_le, cells9, crow, trow2, kf_zero]; rw [IntKind.wrap_i64]; omega)), ?_⟩
    rintro j hj
    have hle := allL_le2 hx j
    have hle2 := metL_le p (allL (lss.take i) ++ x.l.take j)
    generalize hM : metL p (allL (lss.take i) ++ x.l.take j) = M at *
    have hMl : (M.map crow).length = M.length := by simp
    (conv => whnf)
    by_cases hjl : j < x.l.length
    · obtain ⟨m, hm⟩ : ∃ m, x.l[j]? = some m := ⟨_, List.getElem?_eq_getElem hjl⟩
      have hmo := hxo m (List.mem_of_getElem? hm)
      have hsp := meet_at m p hmo hp.1
      have hnext : metL p (allL (lss.take i) ++ x.l.take (j + 1)) = M ++ metL p [m] := by rw [take_snoc hm, ← List.append_assoc, metL_app, hM]
      cases hmt : meetT m p with
      | none =>
        rw [hmt] at hsp
        (try (conv => whnf)); repeat' (first | refine Ok.seq ?_ | refine OkL.cons ?_ | ((first | refine Ok.region tok ?_ | refine Ok.region_plan (id := 24) tok follows [(5, 6, []), (0, 9, []), (4, 9, []), (5, 9, [6]), (6, 9, []), (0, 12, []), (2, 12, []), (4, 12, []), (5, 12, []), (6, 12, []), (9, 12, [])] [.q 0, .q 1, .q 2, .q 3, .q 4, .q 5, .l 6, .q 7, .q 8, .l 9, .q 10, .q 11, .l 12] (by kernel_rfl) ?_ | refine Ok.region_plan (id := 35) tok follows [(0, 4, []), (2, 4, [])] [.q 0, .q 1, .l 2, .q 3, .l 4, .q 5] (by kernel_rfl) ?_ | refine Ok.region_draw tok follows (by kernel_rfl) ?_ | refine Ok.cond ?_); conv => whnf) | refine Ok.block ?_ | ((first | refine Ok.skip ?_ | refine Ok.exit ?_ | refine Ok.ret ?_ | refine nI ?_ | refine ix _ (by assumption) ?_ | refine ixI (by omega) (by assumption) ?_ | refine ix_new _ (by omega) fun _ _ => ?_ | refine ixI_new (by omega) (by omega) fun _ _ => ?_ | refine ⟨_, by assumption, ?_⟩); conv => whnf) | (refine Or.inl ?_; (conv => whnf); (repeat (refine aI ?_; conv => whnf)); refine ⟨_, hsp, rfl, ?_⟩; conv => whnf) | (refine ⟨_, hsp, rfl, ?_⟩; conv => whnf) | (refine Or.inr (Or.inl ?_); (conv => whnf); (repeat (refine aI ?_; conv => whnf)); refine ⟨_, hsp, ?_⟩; rintro _ _ ⟨rfl, rfl⟩; conv => whnf) | ((first | refine Alt2.l (aI ?_) | refine Alt2.r (aI ?_)); conv => whnf) | (refine Ok.scope ?_) | ((first | refine Ok.label ?_ | refine rd rfl (by assumption) ?_ | refine ⟨_, .inl ⟨rfl, rfl⟩, ?_⟩ | refine ⟨_, _, rfl, rfl, ?_⟩); conv => whnf) | (refine ⟨fun _ => ?_, fun _ => ?_⟩ <;> (conv => whnf) <;> (try (exfalso; omega))) | ((first | refine aJ ?_ | refine num_any ?_ | refine ⟨_, rfl, ?_⟩); conv => whnf) | fail)
        · rename_i h2
          exact absurd h2 (by simp)
        · refine ⟨j + 1, by omega, by omega, ?_⟩
          rw [hnext, metL_none hmt, List.append_nil]
          (conv => whnf)
          rfl
      | some c =>
        rw [hmt] at hsp
        (try (conv => whnf)); repeat' (first | refine Ok.seq ?_ | refine OkL.cons ?_ | ((first | refine Ok.region tok ?_ | refine Ok.region_plan (id := 24) tok follows [(5, 6, []), (0, 9, []), (4, 9, []), (5, 9, [6]), (6, 9, []), (0, 12, []), (2, 12, []), (4, 12, []), (5, 12, []), (6, 12, []), (9, 12, [])] [.q 0, .q 1, .q 2, .q 3, .q 4, .q 5, .l 6, .q 7, .q 8, .l 9, .q 10, .q 11, .l 12] (by kernel_rfl) ?_ | refine Ok.region_plan (id := 35) tok follows [(0, 4, []), (2, 4, [])] [.q 0, .q 1, .l 2, .q 3, .l 4, .q 5] (by kernel_rfl) ?_ | refine Ok.region_draw tok follows (by kernel_rfl) ?_ | refine Ok.cond ?_); conv => whnf) | refine Ok.block ?_ | ((first | refine Ok.skip ?_ | refine Ok.exit ?_ | refine Ok.ret ?_ | refine nI ?_ | refine ix _ (by assumption) ?_ | refine ixI (by omega) (by assumption) ?_ | refine ix_new _ (by omega) fun _ _ => ?_ | refine ixI_new (by omega) (by omega) fun _ _ => ?_ | refine ⟨_, by assumption, ?_⟩); conv => whnf) | (refine Or.inl ?_; (conv => whnf); (repeat (refine aI ?_; conv => whnf)); refine ⟨_, hsp, rfl, ?_⟩; conv => whnf) | (refine ⟨_, hsp, rfl, ?_⟩; conv => whnf) | (refine Or.inr (Or.inl ?_); (conv => whnf); (repeat (refine aI ?_; conv => whnf)); refine ⟨_, hsp, ?_⟩; rintro _ _ ⟨rfl, rfl⟩; conv => whnf) | ((first | refine Alt2.l (aI ?_) | refine Alt2.r (aI ?_)); conv => whnf) | (refine Ok.scope ?_) | ((first | refine Ok.label ?_ | refine rd rfl (by assumption) ?_ | refine ⟨_, .inl ⟨rfl, rfl⟩, ?_⟩ | refine ⟨_, _, rfl, rfl, ?_⟩); conv => whnf) | (refine ⟨fun _ => ?_, fun _ => ?_⟩ <;> (conv => whnf) <;> (try (exfalso; omega))) | ((first | refine aJ ?_ | refine num_any ?_ | refine ⟨_, rfl, ?_⟩); conv => whnf) | fail)
        · refine ⟨j + 1, by omega, by omega, ?_⟩
          rw [hnext, metL_some hmt]
          (conv => whnf)
          simp [envCat]
        · rename_i h2
          exact absurd rfl h2
    · have hje : j = x.l.length := by omega
      subst hje
      (try (conv => whnf)); repeat' (first | refine Ok.seq ?_ | refine OkL.cons ?_ | ((first | refine Ok.region tok ?_ | refine Ok.region_plan (id := 24) tok follows [(5, 6, []), (0, 9, []), (4, 9, []), (5, 9, [6]), (6, 9, []), (0, 12, []), (2, 12, []), (4, 12, []), (5, 12, []), (6, 12, []), (9, 12, [])] [.q 0, .q 1, .q 2, .q 3, .q 4, .q 5, .l 6, .q 7, .q 8, .l 9, .q 10, .q 11, .l 12] (by kernel_rfl) ?_ | refine Ok.region_plan (id := 35) tok follows [(0, 4, []), (2, 4, [])] [.q 0, .q 1, .l 2, .q 3, .l 4, .q 5] (by kernel_rfl) ?_ | refine Ok.region_draw tok follows (by kernel_rfl) ?_ | refine Ok.cond ?_); conv => whnf) | refine Ok.block ?_ | ((first | refine Ok.skip ?_ | refine Ok.exit ?_ | refine Ok.ret ?_ | refine nI ?_ | refine ix _ (by assumption) ?_ | refine ixI (by omega) (by assumption) ?_ | refine ix_new _ (by omega) fun _ _ => ?_ | refine ixI_new (by omega) (by omega) fun _ _ => ?_ | refine ⟨_, by assumption, ?_⟩ | refine Alt2.l (aI ?_) | refine Alt2.r (aI ?_)); conv => whnf) | (refine Ok.scope ?_) | ((first | refine Ok.label ?_ | refine rd rfl (by assumption) ?_ | refine ⟨_, .inl ⟨rfl, rfl⟩, ?_⟩ | refine ⟨_, _, rfl, rfl, ?_⟩); conv => whnf) | (refine ⟨fun _ => ?_, fun _ => ?_⟩ <;> (conv => whnf) <;> (try (exfalso; omega))) | ((first | refine aJ ?_ | refine num_any ?_ | refine ⟨_, rfl, ?_⟩); conv => whnf) | fail)
      refine ⟨i + 1, by omega, by omega, ?_⟩
      rw [hat]
      rw [List.take_length] at hM
      rw [hM]
      (conv => whnf)
      rfl
  · have hie : i = lss.length := by omega
    subst hie
    rw [List.take_length]
    generalize hM : metL p (allL lss) = M
    have hML : M.length ≤ 100000 := by have := metL_le p (allL lss); rw [hM] at this; omega
    have hMl : (M.map crow).length = M.length := by simp
    have hMok : ∀ c ∈ M, CN c ∧ c.length = p.length := by
      intro c hc
      rw [← hM] at hc
      obtain ⟨m, hm1, hm2⟩ := List.mem_filterMap.1 hc
      have hmc : CT m := by
        unfold allL at hm1
        obtain ⟨y, hy1, hy2⟩ := List.mem_flatten.1 hm1
        obtain ⟨z, hz1, rfl⟩ := List.mem_map.1 hy1
        exact hok z hz1 m hy2
      have h3 := meetT_ct hm2 hmc hp.1
      have h4 := meetL_len ((meetT_eq h3.2.2).symm.trans hm2)
      exact ⟨⟨h3.1, fun e => hp.2 (by rw [e] at h4; exact List.eq_nil_of_length_eq_zero (by simpa using h4.2))⟩, h4.2.symm⟩
    (try (conv => whnf)); repeat' (first | refine Ok.seq ?_ | refine OkL.cons ?_ | ((first | refine Ok.region tok ?_ | refine Ok.region_plan (id := 24) tok follows [(5, 6, []), (0, 9, []), (4, 9, []), (5, 9, [6]), (6, 9, []), (0, 12, []), (2, 12, []), (4, 12, []), (5, 12, []), (6, 12, []), (9, 12, [])] [.q 0, .q 1, .q 2, .q 3, .q 4, .q 5, .l 6, .q 7, .q 8, .l 9, .q 10, .q 11, .l 12] (by kernel_rfl) ?_ | refine Ok.region_plan (id := 35) tok follows [(0, 4, []), (2, 4, [])] [.q 0, .q 1, .l 2, .q 3, .l 4, .q 5] (by kernel_rfl) ?_ | refine Ok.region_draw tok follows (by kernel_rfl) ?_ | refine Ok.cond ?_); conv => whnf) | refine Ok.block ?_ | ((first | refine Ok.skip ?_ | refine Ok.exit ?_ | refine Ok.ret ?_ | refine nI ?_ | refine ix _ (by assumption) ?_ | refine ixI (by omega) (by assumption) ?_ | refine ix_new _ (by omega) fun _ _ => ?_ | refine ixI_new (by omega) (by omega) fun _ _ => ?_ | refine ⟨_, by assumption, ?_⟩); conv => whnf) | (refine Or.inr (Or.inr (Or.inr (Or.inl ?_))); (conv => whnf); (repeat (refine aI ?_; conv => whnf)); refine ⟨_, greatestC_at M (by omega) (fun c hc => (hMok c hc).1) (take_all crow M) , ?_⟩; rintro _ _ ⟨W, hW, rfl, rfl⟩ <;> (refine And.intro (by simp [gRowsP, grounds, D.ground, cells9, crow, trow2, kf_zero]) ?_; conv => whnf)) | (refine Or.inr (Or.inr (Or.inl ?_)); (conv => whnf); (repeat (refine aI ?_; conv => whnf)); refine ⟨_, greatestC_at M (by omega) (fun c hc => (hMok c hc).1) (take_all crow M) , ?_⟩; rintro _ _ ⟨W, hW, rfl, rfl⟩ <;> (refine And.intro (by simp [gRowsP, grounds, D.ground, cells9, crow, trow2, kf_zero]) ?_; conv => whnf)) | ((first | refine Alt2.l (aI ?_) | refine Alt2.r (aI ?_)); conv => whnf) | (refine Ok.scope ?_) | ((first | refine Ok.label ?_ | refine rd rfl (by assumption) ?_ | refine ⟨_, .inl ⟨rfl, rfl⟩, ?_⟩ | refine ⟨_, _, rfl, rfl, ?_⟩); conv => whnf) | (refine ⟨fun _ => ?_, fun _ => ?_⟩ <;> (conv => whnf) <;> (try (exfalso; omega))) | ((first | refine aJ ?_ | refine num_any ?_ | refine ⟨_, rfl, ?_⟩); conv => whnf) | fail)
    have hWk := hW.n
    have hWt := hW.tk
    have hWw := hW.w
    rw [List.take_length] at hWk hWt
    have hKM : ∀ c ∈ grG inL M, c ∈ M := grG_sub inL M
    have hvoid : p ∈ grG inL M → termT p (allL lss) = none := fun h => termT_void (by rw [hM]; exact h)
    have hsome : ∀ ks : List Str, p ∉ grG inL M → ks.Perm (grG inL M) → ks.Pairwise (fun t u => Op.bytesLess u t ≠ true) → termT p (allL lss) = some ⟨p, ks⟩ := fun ks h1 h2 h3 => termT_some (by rw [hM]; exact h1) (by rw [hM]; exact h2) h3
    generalize hK : grG inL M = K at *
    have hKok : ∀ c ∈ K, CN c ∧ c.length = p.length := fun c hc => hMok c (hKM c hc)
    have hKl : K.length ≤ 100000 := by omega
    have hWl : (W.map crow).length = W.length := by simp
    have hWg : ∀ i, i < K.length → W[i]? = K[i]? := fun i hi => by
      have := congrArg (fun z : List Str => z[i]?) hWt
      simp only [List.getElem?_take, if_pos hi] at this
      exact this
    refine Ok.loopU [2, 4, 6, 48, 49] [50] 2 2 (fun (i : Nat) => [.i .i64 (i : Nat)]) (fun _ b => b) (fun _ r => r) (fun (i : Nat) => i ≤ K.length ∧ ∀ m ∈ K.take i, m ≠ p) (fun (i : Nat) => K.length - i) (0) (⟨Nat.zero_le _, by simp⟩) ?_; (conv => whnf); refine ⟨by ((conv => whnf); first | rfl | (simp [envCat, List.take_of_length_le, cells9, crow, trow2, kf_zero]; done) | (simp [envCat, List.take_of_length_le, cells9, crow, trow2, kf_zero]; rw [IntKind.wrap_i64]; omega)), ?_⟩
    rintro i ⟨hi2, hne⟩
    (conv => whnf)
    by_cases hil2 : i < K.length
    · obtain ⟨c, hc⟩ : ∃ c, K[i]? = some c := ⟨_, List.getElem?_eq_getElem hil2⟩
      have hWi : W[((i : Nat) : Int).toNat]? = some c := by rw [toNat_cast, hWg i hil2, hc]
      have hcK := hKok c (List.mem_of_getElem? hc)
      (try (conv => whnf)); repeat' (first | refine Ok.seq ?_ | refine OkL.cons ?_ | ((first | refine Ok.region tok ?_ | refine Ok.region_plan (id := 24) tok follows [(5, 6, []), (0, 9, []), (4, 9, []), (5, 9, [6]), (6, 9, []), (0, 12, []), (2, 12, []), (4, 12, []), (5, 12, []), (6, 12, []), (9, 12, [])] [.q 0, .q 1, .q 2, .q 3, .q 4, .q 5, .l 6, .q 7, .q 8, .l 9, .q 10, .q 11, .l 12] (by kernel_rfl) ?_ | refine Ok.region_plan (id := 35) tok follows [(0, 4, []), (2, 4, [])] [.q 0, .q 1, .l 2, .q 3, .l 4, .q 5] (by kernel_rfl) ?_ | refine Ok.region_draw tok follows (by kernel_rfl) ?_ | refine Ok.cond ?_); conv => whnf) | refine Ok.block ?_ | ((first | refine Ok.skip ?_ | refine Ok.exit ?_ | refine Ok.ret ?_ | refine nI ?_ | refine ix _ (by assumption) ?_ | refine ixI (by omega) (by assumption) ?_ | refine ix_new _ (by omega) fun _ _ => ?_ | refine ixI_new (by omega) (by omega) fun _ _ => ?_ | refine ⟨_, by assumption, ?_⟩ | refine Alt2.l (aI ?_) | refine Alt2.r (aI ?_)); conv => whnf) | (refine Ok.scope ?_) | ((first | refine Ok.label ?_ | refine rd rfl (by assumption) ?_ | refine ⟨_, .inl ⟨rfl, rfl⟩, ?_⟩ | refine ⟨_, _, rfl, rfl, ?_⟩); conv => whnf) | (refine ⟨fun _ => ?_, fun _ => ?_⟩ <;> (conv => whnf) <;> (try (exfalso; omega))) | ((first | refine aJ ?_ | refine num_any ?_ | refine ⟨_, rfl, ?_⟩); conv => whnf) | fail)
      refine ⟨_, eqCube, by kernel_rfl, ?_⟩
      (conv => whnf)
      (try (conv => whnf)); repeat' (first | refine Ok.seq ?_ | refine OkL.cons ?_ | ((first | refine Ok.region tok ?_ | refine Ok.region_plan (id := 24) tok follows [(5, 6, []), (0, 9, []), (4, 9, []), (5, 9, [6]), (6, 9, []), (0, 12, []), (2, 12, []), (4, 12, []), (5, 12, []), (6, 12, []), (9, 12, [])] [.q 0, .q 1, .q 2, .q 3, .q 4, .q 5, .l 6, .q 7, .q 8, .l 9, .q 10, .q 11, .l 12] (by kernel_rfl) ?_ | refine Ok.region_plan (id := 35) tok follows [(0, 4, []), (2, 4, [])] [.q 0, .q 1, .l 2, .q 3, .l 4, .q 5] (by kernel_rfl) ?_ | refine Ok.region_draw tok follows (by kernel_rfl) ?_ | refine Ok.cond ?_); conv => whnf) | refine Ok.block ?_ | ((first | refine Ok.skip ?_ | refine Ok.exit ?_ | refine Ok.ret ?_ | refine nI ?_ | refine ix _ (by assumption) ?_ | refine ixI (by omega) (by assumption) ?_ | refine ix_new _ (by omega) fun _ _ => ?_ | refine ixI_new (by omega) (by omega) fun _ _ => ?_ | refine ⟨_, by assumption, ?_⟩ | refine Alt2.l (aI ?_) | refine Alt2.r (aI ?_)); conv => whnf) | (refine Ok.scope ?_) | ((first | refine Ok.label ?_ | refine rd rfl (by assumption) ?_ | refine ⟨_, .inl ⟨rfl, rfl⟩, ?_⟩ | refine ⟨_, _, rfl, rfl, ?_⟩); conv => whnf) | (refine ⟨fun _ => ?_, fun _ => ?_⟩ <;> (conv => whnf) <;> (try (exfalso; omega))) | ((first | refine aJ ?_ | refine num_any ?_ | refine ⟨_, rfl, ?_⟩); conv => whnf) | fail)
      · rename_i he
        refine Or.inl ?_; (conv => whnf)
        refine ⟨rfl, .inl ⟨hvoid ?_, ?_⟩⟩
        · rw [← crow_inj hcK.1.1 hp.1 he]
          exact List.mem_of_getElem? hc
        · simp [oneD, Term.key]
      · rename_i he
        refine ⟨i + 1, by omega, ⟨by omega, fun z hz => ?_⟩, ?_⟩
        · rw [take_snoc hc] at hz
          rcases List.mem_append.1 hz with hz | hz
          · exact hne z hz
          · simp at hz
            rw [hz]
            intro e
            rw [e] at he
            exact he (eqDs_self p)
        · (conv => whnf)
          rfl
    · have hie2 : i = K.length := by omega
      subst hie2
      rw [List.take_length] at hne
      have hpK : p ∉ K := fun h => hne p h rfl
      (try (conv => whnf)); repeat' (first | refine Ok.seq ?_ | refine OkL.cons ?_ | ((first | refine Ok.region tok ?_ | refine Ok.region_plan (id := 24) tok follows [(5, 6, []), (0, 9, []), (4, 9, []), (5, 9, [6]), (6, 9, []), (0, 12, []), (2, 12, []), (4, 12, []), (5, 12, []), (6, 12, []), (9, 12, [])] [.q 0, .q 1, .q 2, .q 3, .q 4, .q 5, .l 6, .q 7, .q 8, .l 9, .q 10, .q 11, .l 12] (by kernel_rfl) ?_ | refine Ok.region_plan (id := 35) tok follows [(0, 4, []), (2, 4, [])] [.q 0, .q 1, .l 2, .q 3, .l 4, .q 5] (by kernel_rfl) ?_ | refine Ok.region_draw tok follows (by kernel_rfl) ?_ | refine Ok.cond ?_); conv => whnf) | refine Ok.block ?_ | ((first | refine Ok.skip ?_ | refine Ok.exit ?_ | refine Ok.ret ?_ | refine nI ?_ | refine ix _ (by assumption) ?_ | refine ixI (by omega) (by assumption) ?_ | refine ix_new _ (by omega) fun _ _ => ?_ | refine ixI_new (by omega) (by omega) fun _ _ => ?_ | refine ⟨_, by assumption, ?_⟩ | refine Alt2.l (aI ?_) | refine Alt2.r (aI ?_)); conv => whnf) | (refine Ok.scope ?_) | ((first | refine Ok.label ?_ | refine rd rfl (by assumption) ?_ | refine ⟨_, .inl ⟨rfl, rfl⟩, ?_⟩ | refine ⟨_, _, rfl, rfl, ?_⟩); conv => whnf) | (refine ⟨fun _ => ?_, fun _ => ?_⟩ <;> (conv => whnf) <;> (try (exfalso; omega))) | ((first | refine aJ ?_ | refine num_any ?_ | refine ⟨_, rfl, ?_⟩); conv => whnf) | fail)
      refine Ok.loopU [2, 4, 6, 15, 62, 63] [64] 3 3 (fun (i : Nat) => [.i .i64 (i : Nat)]) (fun _ b => b) (fun (i : Nat) (_ : Vx.Rows) => [some (69, M.map crow), some (69, W.map crow), some (123, ((K.map dup).take i ++ List.replicate (K.length - i) ([], [])).map trow2)]) (fun (i : Nat) => i ≤ K.length) (fun (i : Nat) => K.length - i) (0) (Nat.zero_le _) ?_; (conv => whnf); refine ⟨by ((conv => whnf); first | rfl | (simp [envCat, List.take_of_length_le, cells9, crow, trow2, kf_zero]; done) | (simp [envCat, List.take_of_length_le, cells9, crow, trow2, kf_zero]; rw [IntKind.wrap_i64]; omega)), ?_⟩
      rintro i hi3
      have hdl : (K.map dup).length = K.length := by simp
      have hrl : ((K.map dup).take i ++ List.replicate (K.length - i) (([], []) : Str × Str)).length = K.length := by simp; omega
      have hrl2 : (((K.map dup).take i ++ List.replicate (K.length - i) (([], []) : Str × Str)).map trow2).length = K.length := by rw [List.length_map, hrl]
      (conv => whnf)
      by_cases hil3 : i < K.length
      · obtain ⟨c, hc⟩ : ∃ c, K[i]? = some c := ⟨_, List.getElem?_eq_getElem hil3⟩
        have hWi : W[((i : Nat) : Int).toNat]? = some c := by rw [toNat_cast, hWg i hil3, hc]
        have hcK := hKok c (List.mem_of_getElem? hc)
        have hdi : (K.map dup)[i]? = some (dup c) := by simp [hc]
        have hz := room_at2 (ks := K.map dup) (i := i) (([], []) : Str × Str) hdl (by omega)
        have hst := room_set2 (z := (([], []) : Str × Str)) hdl hdi
        generalize hL : (K.map dup).take i ++ List.replicate (K.length - i) (([], []) : Str × Str) = L at *
        have hL2 : ∀ y : Str × Str, (L.set i y)[i]? = some y := fun y => List.getElem?_set_self (by omega)
        have hL3 : ∀ y : Str × Str, ((L.set i y).map trow2).length = K.length := fun y => by simp [hrl]
        (try (conv => whnf)); repeat' (first | refine Ok.seq ?_ | refine OkL.cons ?_ | ((first | refine Ok.region tok ?_ | refine Ok.region_plan (id := 24) tok follows [(5, 6, []), (0, 9, []), (4, 9, []), (5, 9, [6]), (6, 9, []), (0, 12, []), (2, 12, []), (4, 12, []), (5, 12, []), (6, 12, []), (9, 12, [])] [.q 0, .q 1, .q 2, .q 3, .q 4, .q 5, .l 6, .q 7, .q 8, .l 9, .q 10, .q 11, .l 12] (by kernel_rfl) ?_ | refine Ok.region_plan (id := 35) tok follows [(0, 4, []), (2, 4, [])] [.q 0, .q 1, .l 2, .q 3, .l 4, .q 5] (by kernel_rfl) ?_ | refine Ok.region_draw tok follows (by kernel_rfl) ?_ | refine Ok.cond ?_); conv => whnf) | refine Ok.block ?_ | ((first | refine Ok.skip ?_ | refine Ok.exit ?_ | refine Ok.ret ?_ | refine nI ?_ | refine ix _ (by assumption) ?_ | refine ixI (by omega) (by assumption) ?_ | refine ix_new _ (by omega) fun _ _ => ?_ | refine ixI_new (by omega) (by omega) fun _ _ => ?_ | refine ⟨_, by assumption, ?_⟩); conv => whnf) | (refine Or.inl ?_; (conv => whnf); (repeat (refine aI ?_; conv => whnf)); refine ⟨_, text_at c hcK.1.1, rfl, ?_⟩; conv => whnf) | (refine ⟨_, text_at c hcK.1.1, rfl, ?_⟩; conv => whnf) | (refine Or.inr (Or.inl ?_); (conv => whnf); (repeat (refine aI ?_; conv => whnf)); refine ⟨_, text_at c hcK.1.1, ?_⟩; rintro _ _ ⟨rfl, rfl⟩; conv => whnf) | ((first | refine Alt2.l (aI ?_) | refine Alt2.r (aI ?_)); conv => whnf) | (refine Ok.scope ?_) | ((first | refine Ok.label ?_ | refine rd rfl (by assumption) ?_ | refine ⟨_, .inl ⟨rfl, rfl⟩, ?_⟩ | refine ⟨_, _, rfl, rfl, ?_⟩); conv => whnf) | (refine ⟨fun _ => ?_, fun _ => ?_⟩ <;> (conv => whnf) <;> (try (exfalso; omega))) | ((first | refine aJ ?_ | refine num_any ?_ | refine ⟨_, rfl, ?_⟩); conv => whnf) | fail)
        refine st (c, []) hz (by simp) (by simp [setCells]) ?_
        rw [toNat_cast]
        (try (conv => whnf)); repeat' (first | refine Ok.seq ?_ | refine OkL.cons ?_ | ((first | refine Ok.region tok ?_ | refine Ok.region_plan (id := 24) tok follows [(5, 6, []), (0, 9, []), (4, 9, []), (5, 9, [6]), (6, 9, []), (0, 12, []), (2, 12, []), (4, 12, []), (5, 12, []), (6, 12, []), (9, 12, [])] [.q 0, .q 1, .q 2, .q 3, .q 4, .q 5, .l 6, .q 7, .q 8, .l 9, .q 10, .q 11, .l 12] (by kernel_rfl) ?_ | refine Ok.region_plan (id := 35) tok follows [(0, 4, []), (2, 4, [])] [.q 0, .q 1, .l 2, .q 3, .l 4, .q 5] (by kernel_rfl) ?_ | refine Ok.region_draw tok follows (by kernel_rfl) ?_ | refine Ok.cond ?_); conv => whnf) | refine Ok.block ?_ | ((first | refine Ok.skip ?_ | refine Ok.exit ?_ | refine Ok.ret ?_ | refine nI ?_ | refine ix _ (by assumption) ?_ | refine ixI (by omega) (by assumption) ?_ | refine ix_new _ (by omega) fun _ _ => ?_ | refine ixI_new (by omega) (by omega) fun _ _ => ?_ | refine ⟨_, by assumption, ?_⟩); conv => whnf) | (refine Or.inl ?_; (conv => whnf); (repeat (refine aI ?_; conv => whnf)); refine ⟨_, text_at c hcK.1.1, rfl, ?_⟩; conv => whnf) | (refine ⟨_, text_at c hcK.1.1, rfl, ?_⟩; conv => whnf) | (refine Or.inr (Or.inl ?_); (conv => whnf); (repeat (refine aI ?_; conv => whnf)); refine ⟨_, text_at c hcK.1.1, ?_⟩; rintro _ _ ⟨rfl, rfl⟩; conv => whnf) | ((first | refine Alt2.l (aI ?_) | refine Alt2.r (aI ?_)); conv => whnf) | (refine Ok.scope ?_) | ((first | refine Ok.label ?_ | refine rd rfl (by assumption) ?_ | refine ⟨_, .inl ⟨rfl, rfl⟩, ?_⟩ | refine ⟨_, _, rfl, rfl, ?_⟩); conv => whnf) | (refine ⟨fun _ => ?_, fun _ => ?_⟩ <;> (conv => whnf) <;> (try (exfalso; omega))) | ((first | refine aJ ?_ | refine num_any ?_ | refine ⟨_, rfl, ?_⟩); conv => whnf) | fail)
        refine st (c, c) (hL2 (c, [])) (by simp) (by simp [setCells]) ?_
        rw [toNat_cast, set_set_same, show ((c, c) : Str × Str) = dup c from rfl, hst]
        (try (conv => whnf)); repeat' (first | refine Ok.seq ?_ | refine OkL.cons ?_ | ((first | refine Ok.region tok ?_ | refine Ok.region_plan (id := 24) tok follows [(5, 6, []), (0, 9, []), (4, 9, []), (5, 9, [6]), (6, 9, []), (0, 12, []), (2, 12, []), (4, 12, []), (5, 12, []), (6, 12, []), (9, 12, [])] [.q 0, .q 1, .q 2, .q 3, .q 4, .q 5, .l 6, .q 7, .q 8, .l 9, .q 10, .q 11, .l 12] (by kernel_rfl) ?_ | refine Ok.region_plan (id := 35) tok follows [(0, 4, []), (2, 4, [])] [.q 0, .q 1, .l 2, .q 3, .l 4, .q 5] (by kernel_rfl) ?_ | refine Ok.region_draw tok follows (by kernel_rfl) ?_ | refine Ok.cond ?_); conv => whnf) | refine Ok.block ?_ | ((first | refine Ok.skip ?_ | refine Ok.exit ?_ | refine Ok.ret ?_ | refine nI ?_ | refine ix _ (by assumption) ?_ | refine ixI (by omega) (by assumption) ?_ | refine ix_new _ (by omega) fun _ _ => ?_ | refine ixI_new (by omega) (by omega) fun _ _ => ?_ | refine ⟨_, by assumption, ?_⟩ | refine Alt2.l (aI ?_) | refine Alt2.r (aI ?_)); conv => whnf) | (refine Ok.scope ?_) | ((first | refine Ok.label ?_ | refine rd rfl (by assumption) ?_ | refine ⟨_, .inl ⟨rfl, rfl⟩, ?_⟩ | refine ⟨_, _, rfl, rfl, ?_⟩); conv => whnf) | (refine ⟨fun _ => ?_, fun _ => ?_⟩ <;> (conv => whnf) <;> (try (exfalso; omega))) | ((first | refine aJ ?_ | refine num_any ?_ | refine ⟨_, rfl, ?_⟩); conv => whnf) | fail)
        refine ⟨i + 1, by omega, by omega, ?_⟩
        (conv => whnf)
        rfl
      · have hie3 : i = K.length := by omega
        subst hie3
        rw [Nat.sub_self, List.replicate_zero, List.append_nil, List.take_of_length_le (by simp)]
        have hkeys : ∀ x ∈ ((K.map dup).map trow2).take K.length, ∃ l, x[9]? = some (.s l) := by
          intro x hx
          obtain ⟨y, _, rfl⟩ := List.mem_map.1 (List.mem_of_mem_take hx)
          exact ⟨y.2, rfl⟩
        have hdl2 : K.length ≤ ((K.map dup).map trow2).length := by simp
        (try (conv => whnf)); repeat' (first | (refine Ok.sortSlice tok sort_told (by (conv => whnf); exact ⟨rfl, rfl⟩) rfl rfl rfl hdl2 rfl (by decide) (by decide) hkeys (by omega) ?_) | refine Ok.seq ?_ | refine OkL.cons ?_ | ((first | refine Ok.region tok ?_ | refine Ok.region_plan (id := 24) tok follows [(5, 6, []), (0, 9, []), (4, 9, []), (5, 9, [6]), (6, 9, []), (0, 12, []), (2, 12, []), (4, 12, []), (5, 12, []), (6, 12, []), (9, 12, [])] [.q 0, .q 1, .q 2, .q 3, .q 4, .q 5, .l 6, .q 7, .q 8, .l 9, .q 10, .q 11, .l 12] (by kernel_rfl) ?_ | refine Ok.region_plan (id := 35) tok follows [(0, 4, []), (2, 4, [])] [.q 0, .q 1, .l 2, .q 3, .l 4, .q 5] (by kernel_rfl) ?_ | refine Ok.region_draw tok follows (by kernel_rfl) ?_ | refine Ok.cond ?_); conv => whnf) | refine Ok.block ?_ | ((first | refine Ok.skip ?_ | refine Ok.exit ?_ | refine Ok.ret ?_ | refine nI ?_ | refine ix _ (by assumption) ?_ | refine ixI (by omega) (by assumption) ?_ | refine ix_new _ (by omega) fun _ _ => ?_ | refine ixI_new (by omega) (by omega) fun _ _ => ?_ | refine ⟨_, by assumption, ?_⟩ | refine Alt2.l (aI ?_) | refine Alt2.r (aI ?_)); conv => whnf) | (refine Ok.scope ?_) | ((first | refine Ok.label ?_ | refine rd rfl (by assumption) ?_ | refine ⟨_, .inl ⟨rfl, rfl⟩, ?_⟩ | refine ⟨_, _, rfl, rfl, ?_⟩); conv => whnf) | (refine ⟨fun _ => ?_, fun _ => ?_⟩ <;> (conv => whnf) <;> (try (exfalso; omega))) | ((first | refine aJ ?_ | refine num_any ?_ | refine ⟨_, rfl, ?_⟩); conv => whnf) | fail)
        intro ys hperm hup
        rw [take_all2 (by simp : ((K.map dup).map trow2).length = K.length)] at hperm
        rw [drop_all2 (by simp : ((K.map dup).map trow2).length = K.length), List.append_nil]
        obtain ⟨zs, hz1, rfl⟩ := perm_map_ex hperm _ rfl
        obtain ⟨ks, hks, rfl⟩ := perm_map_ex hz1 _ rfl
        have hsort : ks.Pairwise fun t u => Op.bytesLess u t ≠ true := by
          unfold RowsUp at hup
          rw [List.pairwise_map, List.pairwise_map] at hup
          refine hup.imp fun {a b} h => ?_
          have h2 := h a b rfl rfl
          rw [h2]
          decide
        have hterm := hsome ks hpK hks hsort
        have hkl : ks.length = K.length := hks.length_eq
        have hkok : ∀ c ∈ ks, CN c ∧ c.length = p.length := fun c hc => hKok c (hks.mem_iff.1 hc)
        clear hup hperm hz1 hsort hsome hvoid hkeys
        have hpl := hp.1.len
        (conv => whnf)
        refine Ok.seq ?_
        (refine Ok.region tok ?_; conv => whnf)
        refine Ok.ghostB 3 1 5 rfl rfl ?_
        (conv => whnf)
        (try (conv => whnf)); repeat' (first | refine Ok.seq ?_ | refine OkL.cons ?_ | ((first | refine Ok.region tok ?_ | refine Ok.region_plan (id := 24) tok follows [(5, 6, []), (0, 9, []), (4, 9, []), (5, 9, [6]), (6, 9, []), (0, 12, []), (2, 12, []), (4, 12, []), (5, 12, []), (6, 12, []), (9, 12, [])] [.q 0, .q 1, .q 2, .q 3, .q 4, .q 5, .l 6, .q 7, .q 8, .l 9, .q 10, .q 11, .l 12] (by kernel_rfl) ?_ | refine Ok.region_plan (id := 35) tok follows [(0, 4, []), (2, 4, [])] [.q 0, .q 1, .l 2, .q 3, .l 4, .q 5] (by kernel_rfl) ?_ | refine Ok.region_draw tok follows (by kernel_rfl) ?_ | refine Ok.cond ?_); conv => whnf) | refine Ok.block ?_ | ((first | refine Ok.skip ?_ | refine Ok.exit ?_ | refine Ok.ret ?_ | refine nI ?_ | refine ix _ (by assumption) ?_ | refine ixI (by omega) (by assumption) ?_ | refine ix_new _ (by omega) fun _ _ => ?_ | refine ixI_new (by omega) (by omega) fun _ _ => ?_ | refine ⟨_, by assumption, ?_⟩); conv => whnf) | (refine Or.inl ?_; (conv => whnf); (repeat (refine aI ?_; conv => whnf)); refine ⟨_, text_at p hp.1, rfl, ?_⟩; conv => whnf) | (refine ⟨_, text_at p hp.1, rfl, ?_⟩; conv => whnf) | (refine Or.inr (Or.inl ?_); (conv => whnf); (repeat (refine aI ?_; conv => whnf)); refine ⟨_, text_at p hp.1, ?_⟩; rintro _ _ ⟨rfl, rfl⟩; conv => whnf) | ((first | refine Alt2.l (aI ?_) | refine Alt2.r (aI ?_)); conv => whnf) | (refine Ok.scope ?_) | ((first | refine Ok.label ?_ | refine rd rfl (by assumption) ?_ | refine ⟨_, .inl ⟨rfl, rfl⟩, ?_⟩ | refine ⟨_, _, rfl, rfl, ?_⟩); conv => whnf) | (refine ⟨fun _ => ?_, fun _ => ?_⟩ <;> (conv => whnf) <;> (try (exfalso; omega))) | ((first | refine aJ ?_ | refine num_any ?_ | refine ⟨_, rfl, ?_⟩); conv => whnf) | fail)
        refine Or.inr (Or.inr (Or.inl ?_)); (conv => whnf); refine ⟨_, _, Tryd.func48, rfl, Tryd.call48, ?_⟩; (conv => whnf)
        (try (conv => whnf)); repeat' (first | refine Ok.seq ?_ | refine OkL.cons ?_ | ((first | refine Ok.region tok ?_ | refine Ok.region_plan (id := 24) tok follows [(5, 6, []), (0, 9, []), (4, 9, []), (5, 9, [6]), (6, 9, []), (0, 12, []), (2, 12, []), (4, 12, []), (5, 12, []), (6, 12, []), (9, 12, [])] [.q 0, .q 1, .q 2, .q 3, .q 4, .q 5, .l 6, .q 7, .q 8, .l 9, .q 10, .q 11, .l 12] (by kernel_rfl) ?_ | refine Ok.region_plan (id := 35) tok follows [(0, 4, []), (2, 4, [])] [.q 0, .q 1, .l 2, .q 3, .l 4, .q 5] (by kernel_rfl) ?_ | refine Ok.region_draw tok follows (by kernel_rfl) ?_ | refine Ok.cond ?_); conv => whnf) | refine Ok.block ?_ | ((first | refine Ok.skip ?_ | refine Ok.exit ?_ | refine Ok.ret ?_ | refine nI ?_ | refine ix _ (by assumption) ?_ | refine ixI (by omega) (by assumption) ?_ | refine ix_new _ (by omega) fun _ _ => ?_ | refine ixI_new (by omega) (by omega) fun _ _ => ?_ | refine ⟨_, by assumption, ?_⟩ | refine Alt2.l (aI ?_) | refine Alt2.r (aI ?_)); conv => whnf) | (refine Ok.scope ?_) | ((first | refine Ok.label ?_ | refine rd rfl (by assumption) ?_ | refine ⟨_, .inl ⟨rfl, rfl⟩, ?_⟩ | refine ⟨_, _, rfl, rfl, ?_⟩); conv => whnf) | (refine ⟨fun _ => ?_, fun _ => ?_⟩ <;> (conv => whnf) <;> (try (exfalso; omega))) | ((first | refine aJ ?_ | refine num_any ?_ | refine ⟨_, rfl, ?_⟩); conv => whnf) | fail)
        refine Or.inr (Or.inr (Or.inr (Or.inr ?_)))
        (conv => whnf)
        refine effW_fresh copyAt rfl ?_
        (conv => whnf)
        (try (conv => whnf)); repeat' (first | ((refine And.intro byteT ?_); (conv => whnf)) | refine Ok.seq ?_ | refine OkL.cons ?_ | ((first | refine Ok.region tok ?_ | refine Ok.region_plan (id := 24) tok follows [(5, 6, []), (0, 9, []), (4, 9, []), (5, 9, [6]), (6, 9, []), (0, 12, []), (2, 12, []), (4, 12, []), (5, 12, []), (6, 12, []), (9, 12, [])] [.q 0, .q 1, .q 2, .q 3, .q 4, .q 5, .l 6, .q 7, .q 8, .l 9, .q 10, .q 11, .l 12] (by kernel_rfl) ?_ | refine Ok.region_plan (id := 35) tok follows [(0, 4, []), (2, 4, [])] [.q 0, .q 1, .l 2, .q 3, .l 4, .q 5] (by kernel_rfl) ?_ | refine Ok.region_draw tok follows (by kernel_rfl) ?_ | refine Ok.cond ?_); conv => whnf) | refine Ok.block ?_ | ((first | refine Ok.skip ?_ | refine Ok.exit ?_ | refine Ok.ret ?_ | refine nI ?_ | refine ix _ (by assumption) ?_ | refine ixI (by omega) (by assumption) ?_ | refine ix_new _ (by omega) fun _ _ => ?_ | refine ixI_new (by omega) (by omega) fun _ _ => ?_ | refine ⟨_, by assumption, ?_⟩ | refine Alt2.l (aI ?_) | refine Alt2.r (aI ?_)); conv => whnf) | (refine Ok.scope ?_) | ((first | refine Ok.label ?_ | refine rd rfl (by assumption) ?_ | refine ⟨_, .inl ⟨rfl, rfl⟩, ?_⟩ | refine ⟨_, _, rfl, rfl, ?_⟩); conv => whnf) | (refine ⟨fun _ => ?_, fun _ => ?_⟩ <;> (conv => whnf) <;> (try (exfalso; omega))) | ((first | refine aJ ?_ | refine num_any ?_ | refine ⟨_, rfl, ?_⟩); conv => whnf) | fail)
        refine Ok.loopU [2, 4, 6, 18, 88, 89] [90] 4 4 (fun (i : Nat) => [.i .i64 (i : Nat)]) (fun (i : Nat) (_ : List (List D)) => [crow p, tzero, [.own 2 K.length], [.bp 3 0, .own 3 (kf p ks i).length]]) (fun (i : Nat) (_ : Vx.Rows) => [some (69, M.map crow), some (69, (ks.take i ++ W.drop i).map crow), some (123, (ks.map dup).map trow2), some (5, (kf p ks i).map bcell)]) (fun (i : Nat) => i ≤ K.length) (fun (i : Nat) => K.length - i) (0) (Nat.zero_le _) ?_; (conv => whnf); refine ⟨by ((conv => whnf); first | rfl | (simp [envCat, List.take_of_length_le, cells9, crow, trow2, kf_zero]; done) | (simp [envCat, List.take_of_length_le, cells9, crow, trow2, kf_zero]; rw [IntKind.wrap_i64]; omega)), ?_⟩
        rintro i hi4
        have hfl : (kf p ks i).length ≤ 256 + 100000 * 256 := kf_len hpl (fun c hc => (hkok c hc).1.1.len) (by omega)
        have hbl : ((kf p ks i).map bcell).length = (kf p ks i).length := List.length_map _
        have htl : ((ks.map dup).map trow2).length = K.length := by simp [hkl]
        have hml : ((ks.take i ++ W.drop i).map crow).length = W.length := by simp; omega
        have hml2 : ∀ y, (((ks.take i ++ W.drop i).set i y).map crow).length = W.length := fun y => by simp; omega
        (conv => whnf)
        by_cases hil4 : i < K.length
        · obtain ⟨c, hc⟩ : ∃ c, ks[i]? = some c := ⟨_, List.getElem?_eq_getElem (by omega)⟩
          have hco := hkok c (List.mem_of_getElem? hc)
          have hcl := hco.1.1.len
          have hdi : (ks.map dup)[((i : Nat) : Int).toNat]? = some (dup c) := by simp [hc]
          obtain ⟨y, hy⟩ := over_at (ks := ks) (W := W) (i := i) (by omega) (by omega)
          have hst := over_set (W := W) hc (by omega)
          have hnx := kf_step (p := p) hc
          (try (conv => whnf)); repeat' (first | refine Ok.seq ?_ | refine OkL.cons ?_ | ((first | refine Ok.region tok ?_ | refine Ok.region_plan (id := 24) tok follows [(5, 6, []), (0, 9, []), (4, 9, []), (5, 9, [6]), (6, 9, []), (0, 12, []), (2, 12, []), (4, 12, []), (5, 12, []), (6, 12, []), (9, 12, [])] [.q 0, .q 1, .q 2, .q 3, .q 4, .q 5, .l 6, .q 7, .q 8, .l 9, .q 10, .q 11, .l 12] (by kernel_rfl) ?_ | refine Ok.region_plan (id := 35) tok follows [(0, 4, []), (2, 4, [])] [.q 0, .q 1, .l 2, .q 3, .l 4, .q 5] (by kernel_rfl) ?_ | refine Ok.region_draw tok follows (by kernel_rfl) ?_ | refine Ok.cond ?_); conv => whnf) | refine Ok.block ?_ | ((first | refine Ok.skip ?_ | refine Ok.exit ?_ | refine Ok.ret ?_ | refine nI ?_ | refine ix _ (by assumption) ?_ | refine ixI (by omega) (by assumption) ?_ | refine ix_new _ (by omega) fun _ _ => ?_ | refine ixI_new (by omega) (by omega) fun _ _ => ?_ | refine ⟨_, by assumption, ?_⟩ | refine Alt2.l (aI ?_) | refine Alt2.r (aI ?_)); conv => whnf) | (refine Ok.scope ?_) | ((first | refine Ok.label ?_ | refine rd rfl (by assumption) ?_ | refine ⟨_, .inl ⟨rfl, rfl⟩, ?_⟩ | refine ⟨_, _, rfl, rfl, ?_⟩); conv => whnf) | (refine ⟨fun _ => ?_, fun _ => ?_⟩ <;> (conv => whnf) <;> (try (exfalso; omega))) | ((first | refine aJ ?_ | refine num_any ?_ | refine ⟨_, rfl, ?_⟩); conv => whnf) | fail)
          refine st c hy (by simp) (by simp [setCells, dup]) ?_
          rw [toNat_cast]
          (try (conv => whnf)); repeat' (first | refine Ok.seq ?_ | refine OkL.cons ?_ | ((first | refine Ok.region tok ?_ | refine Ok.region_plan (id := 24) tok follows [(5, 6, []), (0, 9, []), (4, 9, []), (5, 9, [6]), (6, 9, []), (0, 12, []), (2, 12, []), (4, 12, []), (5, 12, []), (6, 12, []), (9, 12, [])] [.q 0, .q 1, .q 2, .q 3, .q 4, .q 5, .l 6, .q 7, .q 8, .l 9, .q 10, .q 11, .l 12] (by kernel_rfl) ?_ | refine Ok.region_plan (id := 35) tok follows [(0, 4, []), (2, 4, [])] [.q 0, .q 1, .l 2, .q 3, .l 4, .q 5] (by kernel_rfl) ?_ | refine Ok.region_draw tok follows (by kernel_rfl) ?_ | refine Ok.cond ?_); conv => whnf) | refine Ok.block ?_ | ((first | refine Ok.skip ?_ | refine Ok.exit ?_ | refine Ok.ret ?_ | refine nI ?_ | refine ix _ (by assumption) ?_ | refine ixI (by omega) (by assumption) ?_ | refine ix_new _ (by omega) fun _ _ => ?_ | refine ixI_new (by omega) (by omega) fun _ _ => ?_ | refine ⟨_, by assumption, ?_⟩ | refine Alt2.l (aI ?_) | refine Alt2.r (aI ?_)); conv => whnf) | (refine Ok.scope ?_) | ((first | refine Ok.label ?_ | refine rd rfl (by assumption) ?_ | refine ⟨_, .inl ⟨rfl, rfl⟩, ?_⟩ | refine ⟨_, _, rfl, rfl, ?_⟩); conv => whnf) | (refine ⟨fun _ => ?_, fun _ => ?_⟩ <;> (conv => whnf) <;> (try (exfalso; omega))) | ((first | refine aJ ?_ | refine num_any ?_ | refine ⟨_, rfl, ?_⟩); conv => whnf) | fail)
          refine Or.inr (Or.inr (Or.inl ?_)); (conv => whnf); refine ⟨_, _, Tryd.func48, rfl, Tryd.call48, ?_⟩; (conv => whnf)
          (try (conv => whnf)); repeat' (first | refine Ok.seq ?_ | refine OkL.cons ?_ | ((first | refine Ok.region tok ?_ | refine Ok.region_plan (id := 24) tok follows [(5, 6, []), (0, 9, []), (4, 9, []), (5, 9, [6]), (6, 9, []), (0, 12, []), (2, 12, []), (4, 12, []), (5, 12, []), (6, 12, []), (9, 12, [])] [.q 0, .q 1, .q 2, .q 3, .q 4, .q 5, .l 6, .q 7, .q 8, .l 9, .q 10, .q 11, .l 12] (by kernel_rfl) ?_ | refine Ok.region_plan (id := 35) tok follows [(0, 4, []), (2, 4, [])] [.q 0, .q 1, .l 2, .q 3, .l 4, .q 5] (by kernel_rfl) ?_ | refine Ok.region_draw tok follows (by kernel_rfl) ?_ | refine Ok.cond ?_); conv => whnf) | refine Ok.block ?_ | ((first | refine Ok.skip ?_ | refine Ok.exit ?_ | refine Ok.ret ?_ | refine nI ?_ | refine ix _ (by assumption) ?_ | refine ixI (by omega) (by assumption) ?_ | refine ix_new _ (by omega) fun _ _ => ?_ | refine ixI_new (by omega) (by omega) fun _ _ => ?_ | refine ⟨_, by assumption, ?_⟩ | refine Alt2.l (aI ?_) | refine Alt2.r (aI ?_)); conv => whnf) | (refine Ok.scope ?_) | ((first | refine Ok.label ?_ | refine rd rfl (by assumption) ?_ | refine ⟨_, .inl ⟨rfl, rfl⟩, ?_⟩ | refine ⟨_, _, rfl, rfl, ?_⟩); conv => whnf) | (refine ⟨fun _ => ?_, fun _ => ?_⟩ <;> (conv => whnf) <;> (try (exfalso; omega))) | ((first | refine aJ ?_ | refine num_any ?_ | refine ⟨_, rfl, ?_⟩); conv => whnf) | fail)
          refine Or.inr (Or.inr (Or.inr (Or.inr ?_)))
          (conv => whnf)
          refine effW_used copyAt rfl ?_
          (conv => whnf)
          have hdc : (dup c).2.length ≤ 256 := hcl
          (try (conv => whnf)); repeat' (first | ((refine And.intro byteT ?_); (conv => whnf)) | refine Ok.seq ?_ | refine OkL.cons ?_ | ((first | refine Ok.region tok ?_ | refine Ok.region_plan (id := 24) tok follows [(5, 6, []), (0, 9, []), (4, 9, []), (5, 9, [6]), (6, 9, []), (0, 12, []), (2, 12, []), (4, 12, []), (5, 12, []), (6, 12, []), (9, 12, [])] [.q 0, .q 1, .q 2, .q 3, .q 4, .q 5, .l 6, .q 7, .q 8, .l 9, .q 10, .q 11, .l 12] (by kernel_rfl) ?_ | refine Ok.region_plan (id := 35) tok follows [(0, 4, []), (2, 4, [])] [.q 0, .q 1, .l 2, .q 3, .l 4, .q 5] (by kernel_rfl) ?_ | refine Ok.region_draw tok follows (by kernel_rfl) ?_ | refine Ok.cond ?_); conv => whnf) | refine Ok.block ?_ | ((first | refine Ok.skip ?_ | refine Ok.exit ?_ | refine Ok.ret ?_ | refine nI ?_ | refine ix _ (by assumption) ?_ | refine ixI (by omega) (by assumption) ?_ | refine ix_new _ (by omega) fun _ _ => ?_ | refine ixI_new (by omega) (by omega) fun _ _ => ?_ | refine ⟨_, by assumption, ?_⟩ | refine Alt2.l (aI ?_) | refine Alt2.r (aI ?_)); conv => whnf) | (refine Ok.scope ?_) | ((first | refine Ok.label ?_ | refine rd rfl (by assumption) ?_ | refine ⟨_, .inl ⟨rfl, rfl⟩, ?_⟩ | refine ⟨_, _, rfl, rfl, ?_⟩); conv => whnf) | (refine ⟨fun _ => ?_, fun _ => ?_⟩ <;> (conv => whnf) <;> (try (exfalso; omega))) | ((first | refine aJ ?_ | refine num_any ?_ | refine ⟨_, rfl, ?_⟩); conv => whnf) | fail)
          refine ⟨i + 1, by omega, by omega, ?_⟩
          rw [← hst, hnx]
          (conv => whnf)
          simp [envCat, dup]
        · have hie4 : i = K.length := by omega
          subst hie4
          (try (conv => whnf)); repeat' (first | refine Ok.seq ?_ | refine OkL.cons ?_ | ((first | refine Ok.region tok ?_ | refine Ok.region_plan (id := 24) tok follows [(5, 6, []), (0, 9, []), (4, 9, []), (5, 9, [6]), (6, 9, []), (0, 12, []), (2, 12, []), (4, 12, []), (5, 12, []), (6, 12, []), (9, 12, [])] [.q 0, .q 1, .q 2, .q 3, .q 4, .q 5, .l 6, .q 7, .q 8, .l 9, .q 10, .q 11, .l 12] (by kernel_rfl) ?_ | refine Ok.region_plan (id := 35) tok follows [(0, 4, []), (2, 4, [])] [.q 0, .q 1, .l 2, .q 3, .l 4, .q 5] (by kernel_rfl) ?_ | refine Ok.region_draw tok follows (by kernel_rfl) ?_ | refine Ok.cond ?_); conv => whnf) | refine Ok.block ?_ | ((first | refine Ok.skip ?_ | refine Ok.exit ?_ | refine Ok.ret ?_ | refine nI ?_ | refine ix _ (by assumption) ?_ | refine ixI (by omega) (by assumption) ?_ | refine ix_new _ (by omega) fun _ _ => ?_ | refine ixI_new (by omega) (by omega) fun _ _ => ?_ | refine ⟨_, by assumption, ?_⟩ | refine Alt2.l (aI ?_) | refine Alt2.r (aI ?_)); conv => whnf) | (refine Ok.scope ?_) | ((first | refine Ok.label ?_ | refine rd rfl (by assumption) ?_ | refine ⟨_, .inl ⟨rfl, rfl⟩, ?_⟩ | refine ⟨_, _, rfl, rfl, ?_⟩); conv => whnf) | (refine ⟨fun _ => ?_, fun _ => ?_⟩ <;> (conv => whnf) <;> (try (exfalso; omega))) | ((first | refine aJ ?_ | refine num_any ?_ | refine ⟨_, rfl, ?_⟩); conv => whnf) | fail)
          have hkey := kf_key (p := p) hkl
          have hne0 : kf p ks K.length ≠ [] := kf_ne hp.2
          have htk : ((ks.take K.length ++ W.drop K.length).map crow).take K.length = ks.map crow := by
            rw [← hkl, List.take_length, List.map_append]
            exact List.take_left' (by simp)
          refine Or.inr (Or.inr (Or.inr ?_))
          (conv => whnf)
          refine effK_string strAt rfl rfl rfl (by rw [hbl]; exact Nat.le_refl _) (take_all bcell _) hne0 ?_
          (conv => whnf)
          (try (conv => whnf)); repeat' (first | refine Ok.seq ?_ | refine OkL.cons ?_ | ((first | refine Ok.region tok ?_ | refine Ok.region_plan (id := 24) tok follows [(5, 6, []), (0, 9, []), (4, 9, []), (5, 9, [6]), (6, 9, []), (0, 12, []), (2, 12, []), (4, 12, []), (5, 12, []), (6, 12, []), (9, 12, [])] [.q 0, .q 1, .q 2, .q 3, .q 4, .q 5, .l 6, .q 7, .q 8, .l 9, .q 10, .q 11, .l 12] (by kernel_rfl) ?_ | refine Ok.region_plan (id := 35) tok follows [(0, 4, []), (2, 4, [])] [.q 0, .q 1, .l 2, .q 3, .l 4, .q 5] (by kernel_rfl) ?_ | refine Ok.region_draw tok follows (by kernel_rfl) ?_ | refine Ok.cond ?_); conv => whnf) | refine Ok.block ?_ | ((first | refine Ok.skip ?_ | refine Ok.exit ?_ | refine Ok.ret ?_ | refine nI ?_ | refine ix _ (by assumption) ?_ | refine ixI (by omega) (by assumption) ?_ | refine ix_new _ (by omega) fun _ _ => ?_ | refine ixI_new (by omega) (by omega) fun _ _ => ?_ | refine ⟨_, by assumption, ?_⟩ | refine Alt2.l (aI ?_) | refine Alt2.r (aI ?_)); conv => whnf) | (refine Ok.scope ?_) | ((first | refine Ok.label ?_ | refine rd rfl (by assumption) ?_ | refine ⟨_, .inl ⟨rfl, rfl⟩, ?_⟩ | refine ⟨_, _, rfl, rfl, ?_⟩); conv => whnf) | (refine ⟨fun _ => ?_, fun _ => ?_⟩ <;> (conv => whnf) <;> (try (exfalso; omega))) | ((first | refine aJ ?_ | refine num_any ?_ | refine ⟨_, rfl, ?_⟩); conv => whnf) | fail)
          refine Or.inl ?_; (conv => whnf)
          refine ⟨rfl, .inr ⟨⟨p, ks⟩, ((ks.take K.length ++ W.drop K.length).map crow).drop K.length, hterm, ?_⟩⟩
          rw [htk]
          simp only [oneD, trow, hkey]
end Go.Proofs.YtaiondckookpiaaDoor
namespace Go.Proofs.YtaiondckookpiaaDoor
open Go Go.Vx
def szT (l : List Term) : Nat := (l.map fun t => 1 + t.less.length).sum
theorem szT_snoc (l : List Term) (t : Term) : szT (l ++ [t]) = szT l + (1 + t.less.length) := by simp [szT]
theorem szT_le {l : List Term} (h : ∀ t ∈ l, t.less.length ≤ 1048576) : szT l ≤ l.length * 1048577 := by
  induction l with
  | nil => simp [szT]
  | cons t l ih =>
    have h1 := ih fun x hx => h x (by simp [hx])
    have h2 := h t (by simp)
    simp only [szT, List.map_cons, List.sum_cons, List.length_cons] at h1 ⊢
    rw [Nat.add_mul]
    omega
set_option maxHeartbeats 4000000 in
theorem size_at (bits : Int) (l : List TR) {rl room : List (List D)} (hl : l.length ≤ 1048576) (hok : ∀ x ∈ l, x.t.less.length ≤ 1048576) (h : rl = l.map trow) : FSpec Tryd.prog T 32 [.agg [.i .i64 bits, .lst 81 rl room]] (fun d _ => d = .i .i64 (szT (l.map TR.t) : Nat)) := by
  subst h
  have hll : (l.map trow).length = l.length := by simp
  refine FSpec.of_ok tok Tryd.func32 rfl Tryd.call32 (by simp) ?_
  (try (conv => whnf)); repeat' (first | refine Ok.seq ?_ | refine OkL.cons ?_ | ((first | refine Ok.region tok ?_ | refine Ok.region_draw tok follows (by kernel_rfl) ?_ | refine Ok.cond ?_); conv => whnf) | refine Ok.block ?_ | ((first | refine Ok.skip ?_ | refine Ok.exit ?_ | refine Ok.ret ?_ | refine nI ?_ | refine ix _ (by assumption) ?_ | refine ixI (by omega) (by assumption) ?_ | refine ix_new _ (by omega) fun _ _ => ?_ | refine ixI_new (by omega) (by omega) fun _ _ => ?_ | refine ⟨_, by assumption, ?_⟩ | refine Alt2.l (aI ?_) | refine Alt2.r (aI ?_)); conv => whnf) | (refine Ok.scope ?_) | ((first | refine Ok.label ?_ | refine rd rfl (by assumption) ?_ | refine ⟨_, .inl ⟨rfl, rfl⟩, ?_⟩ | refine ⟨_, _, rfl, rfl, ?_⟩); conv => whnf) | (refine ⟨fun _ => ?_, fun _ => ?_⟩ <;> (conv => whnf) <;> (try (exfalso; omega))) | ((first | refine aJ ?_ | refine num_any ?_ | refine ⟨_, rfl, ?_⟩); conv => whnf) | fail)
  refine Ok.loopU [7, 8] [3, 9] 0 1 (fun (i : Nat) => [.i .i64 (szT ((l.take i).map TR.t) : Nat), .i .i64 (i : Nat)]) (fun _ b => b) (fun _ r => r) (fun (i : Nat) => i ≤ l.length) (fun (i : Nat) => l.length - i) (0) (Nat.zero_le _) ?_; (conv => whnf); refine ⟨by ((conv => whnf); first | rfl | (simp [envCat, List.take_of_length_le, cells9, crow, trow]; done) | (simp [envCat, List.take_of_length_le, cells9, crow, trow]; rw [IntKind.wrap_i64]; omega)), ?_⟩
  rintro i hi
  have hs : szT ((l.take i).map TR.t) ≤ 1048576 * 1048577 := by
    refine Nat.le_trans (szT_le fun t ht => ?_) (Nat.mul_le_mul_right _ (by simp; omega))
    obtain ⟨x, hx, rfl⟩ := List.mem_map.1 ht
    exact hok x (List.mem_of_mem_take hx)
  (conv => whnf)
  by_cases hil : i < l.length
  · obtain ⟨x, hx⟩ : ∃ x, l[i]? = some x := ⟨_, List.getElem?_eq_getElem hil⟩
    have hxo := hok x (List.mem_of_getElem? hx)
    have hxl : (x.t.less.map crow).length = x.t.less.length := by simp
    have hnx : szT ((l.take (i + 1)).map TR.t) = szT ((l.take i).map TR.t) + (1 + x.t.less.length) := by rw [take_snoc hx, List.map_append]; exact szT_snoc _ _
    generalize szT ((l.take i).map TR.t) = S at *
    (try (conv => whnf)); repeat' (first | refine Ok.seq ?_ | refine OkL.cons ?_ | ((first | refine Ok.region tok ?_ | refine Ok.region_draw tok follows (by kernel_rfl) ?_ | refine Ok.cond ?_); conv => whnf) | refine Ok.block ?_ | ((first | refine Ok.skip ?_ | refine Ok.exit ?_ | refine Ok.ret ?_ | refine nI ?_ | refine ix _ (by assumption) ?_ | refine ixI (by omega) (by assumption) ?_ | refine ix_new _ (by omega) fun _ _ => ?_ | refine ixI_new (by omega) (by omega) fun _ _ => ?_ | refine ⟨_, by assumption, ?_⟩ | refine Alt2.l (aI ?_) | refine Alt2.r (aI ?_)); conv => whnf) | (refine Ok.scope ?_) | ((first | refine Ok.label ?_ | refine rd rfl (by assumption) ?_ | refine ⟨_, .inl ⟨rfl, rfl⟩, ?_⟩ | refine ⟨_, _, rfl, rfl, ?_⟩); conv => whnf) | (refine ⟨fun _ => ?_, fun _ => ?_⟩ <;> (conv => whnf) <;> (try (exfalso; omega))) | ((first | refine aJ ?_ | refine num_any ?_ | refine ⟨_, rfl, ?_⟩); conv => whnf) | fail)
    refine ⟨i + 1, by omega, by omega, ?_⟩
    rw [hnx]
    (conv => whnf)
    simp [envCat]
  · have hie : i = l.length := by omega
    subst hie
    rw [List.take_length]
    (try (conv => whnf)); repeat' (first | refine Ok.seq ?_ | refine OkL.cons ?_ | ((first | refine Ok.region tok ?_ | refine Ok.region_draw tok follows (by kernel_rfl) ?_ | refine Ok.cond ?_); conv => whnf) | refine Ok.block ?_ | ((first | refine Ok.skip ?_ | refine Ok.exit ?_ | refine Ok.ret ?_ | refine nI ?_ | refine ix _ (by assumption) ?_ | refine ixI (by omega) (by assumption) ?_ | refine ix_new _ (by omega) fun _ _ => ?_ | refine ixI_new (by omega) (by omega) fun _ _ => ?_ | refine ⟨_, by assumption, ?_⟩ | refine Alt2.l (aI ?_) | refine Alt2.r (aI ?_)); conv => whnf) | (refine Ok.scope ?_) | ((first | refine Ok.label ?_ | refine rd rfl (by assumption) ?_ | refine ⟨_, .inl ⟨rfl, rfl⟩, ?_⟩ | refine ⟨_, _, rfl, rfl, ?_⟩); conv => whnf) | (refine ⟨fun _ => ?_, fun _ => ?_⟩ <;> (conv => whnf) <;> (try (exfalso; omega))) | ((first | refine aJ ?_ | refine num_any ?_ | refine ⟨_, rfl, ?_⟩); conv => whnf) | fail)
    refine Or.inl ?_; (conv => whnf)
    rfl
theorem grG_map {α β : Type} (f : α → β) (R : β → β → Prop) (l : List α) : (grG (fun a b => R (f a) (f b)) l).map f = grG R (l.map f) := by
  have step : ∀ (k : List α) (x : α), (addG (fun a b => R (f a) (f b)) k x).map f = addG R (k.map f) (f x) := by
    intro k x
    by_cases h : ∃ y ∈ k, R (f x) (f y)
    · rw [addG_in h, addG_in (by obtain ⟨y, h1, h2⟩ := h; exact ⟨f y, List.mem_map_of_mem h1, h2⟩)]
    · have h1 : ∀ y ∈ k, ¬ R (f x) (f y) := fun y hy h2 => h ⟨y, hy, h2⟩
      rw [addG_out (R := fun a b => R (f a) (f b)) h1, addG_out (R := R) (by
        intro y hy
        obtain ⟨z, hz, rfl⟩ := List.mem_map.1 hy
        exact h1 z hz)]
      rw [List.map_append, List.filter_map]
      rfl
  have go : ∀ (l k : List α), (l.foldl (addG (fun a b => R (f a) (f b))) k).map f = (l.map f).foldl (addG R) (k.map f) := by
    intro l
    induction l with
    | nil => intro k; rfl
    | cons x l ih => intro k; rw [List.foldl_cons, ih, step]; rfl
  exact go l []
theorem grG_len {α : Type} (R : α → α → Prop) (l : List α) : (grG R l).length ≤ l.length := by
  have step : ∀ (k : List α) (x : α), (addG R k x).length ≤ k.length + 1 := by
    intro k x
    by_cases h : ∃ y ∈ k, R x y
    · rw [addG_in h]; omega
    · rw [addG_out (fun y hy h2 => h ⟨y, hy, h2⟩), List.length_append]
      exact Nat.add_le_add_right (List.length_filter_le _ _) 1
  have go : ∀ (l k : List α), (l.foldl (addG R) k).length ≤ k.length + l.length := by
    intro l
    induction l with
    | nil => intro k; simp
    | cons x l ih =>
      intro k
      have h1 := ih (addG R k x)
      have h2 := step k x
      simp only [List.foldl_cons, List.length_cons]
      omega
  show (l.foldl (addG R) []).length ≤ l.length
  have := go l []
  simpa using this
def passedV : Value := .iface 116 (.agg #[])
structure TO (n : Nat) (x : TR) : Prop where
  tn : TN x
  ok : x.t.Ok n
set_option maxRecDepth 100000 in
set_option maxHeartbeats 8000000 in
theorem form_at (bits : Int) (n : Nat) (l : List TR) {rl room : List (List D)} (hl : l.length ≤ 1048576) (hok : ∀ x ∈ l, TO n x) (h : rl = l.map trow) (hsz : szT (formT (l.map TR.t)) ≤ 128) :
    FSpec Tryd.prog T 46 [.i .i64 bits, .lst 81 rl room] (fun d rows => ∃ (ks : List TR) (rm : List (List D)), d = .agg [.i .i64 bits, .lst 81 (ks.map trow) rm] ∧ rows = [] ∧ ks.map TR.t = formT (l.map TR.t) ∧ ∀ x ∈ ks, x ∈ l) := by
  subst h
  refine FSpec.of_ok tok Tryd.func46 rfl Tryd.call46 (by simp) ?_
  refine Ok.seq ?_
  (refine Ok.region tok ?_; conv => whnf)
  refine Ok.seq ?_
  (refine Ok.region tok ?_; conv => whnf)
  right
  left
  (conv => whnf)
  refine ⟨_, greatestT_at l hl (fun x hx => (hok x hx).tn) rfl, ?_⟩
  rintro d rows ⟨W, hW, rfl, rfl⟩
  have hWk := hW.n
  have hWt := hW.tk
  rw [List.take_length] at hWk hWt
  have hKl : (grG covR l).map TR.t = grG covT (l.map TR.t) := grG_map TR.t covT l
  have hKm : ∀ x ∈ grG covR l, x ∈ l := grG_sub covR l
  have hKn := grG_len covR l
  have hWw := hW.w
  have hkp : (W.map trow).length = W.length := by simp
  generalize grG covR l = K at *
  have hkeys : ∀ x ∈ (W.map trow).take K.length, ∃ l, x[10]? = some (.s l) := by
    intro x hx
    obtain ⟨y, _, rfl⟩ := List.mem_map.1 (List.mem_of_mem_take hx)
    exact ⟨y.t.key, rfl⟩
  have htk : (W.map trow).take K.length = K.map trow := by rw [← List.map_take, hWt]
  (conv => whnf)
  refine Ok.seq ?_
  refine Ok.sortSlice tok sort_term (by (conv => whnf); exact ⟨rfl, rfl⟩) rfl rfl rfl (by rw [hkp]; exact hWk) rfl (by decide) (by decide) hkeys (by omega) ?_
  intro ys hperm hup
  rw [htk] at hperm
  obtain ⟨ks, hks, rfl⟩ := perm_map_ex hperm _ rfl
  have hkl : ks.length = K.length := hks.length_eq
  have hsort : (ks.map TR.t).Pairwise fun t u => Op.bytesLess u.key t.key ≠ true := by
    unfold RowsUp at hup
    rw [List.pairwise_map] at hup ⊢
    refine hup.imp fun {a b} h => ?_
    have h2 := h a.t.key b.t.key rfl rfl
    rw [h2]
    decide
  have hform : ks.map TR.t = formT (l.map TR.t) := formT_eq (n := n) (fun t ht => by
    obtain ⟨x, hx, rfl⟩ := List.mem_map.1 ht
    exact (hok x hx).ok) (by rw [← hKl]; exact hks.map _) hsort
  have hmem : ∀ x ∈ ks, x ∈ l := fun x hx => hKm x (hks.mem_iff.1 hx)
  have hrow : ((ks.map trow ++ (W.map trow).drop K.length).take K.length) = ks.map trow := by
    rw [← hkl]
    exact List.take_left' (by simp)
  have hrl : (ks.map trow ++ (W.map trow).drop K.length).length = W.length := by simp; omega
  clear hup hperm hkeys
  rw [← hform] at hsz
  (conv => whnf)
  (try (conv => whnf)); repeat' (first | refine Ok.seq ?_ | refine OkL.cons ?_ | ((first | refine Ok.region tok ?_ | refine Ok.region_draw tok follows (by kernel_rfl) ?_ | refine Ok.cond ?_); conv => whnf) | refine Ok.block ?_ | ((first | refine Ok.skip ?_ | refine Ok.exit ?_ | refine Ok.ret ?_ | refine nI ?_ | refine ix _ (by assumption) ?_ | refine ixI (by omega) (by assumption) ?_ | refine ix_new _ (by omega) fun _ _ => ?_ | refine ixI_new (by omega) (by omega) fun _ _ => ?_ | refine ⟨_, by assumption, ?_⟩); conv => whnf) | (refine Or.inl ?_; (conv => whnf); (repeat (refine aI ?_; conv => whnf)); refine ⟨_, size_at bits ks (by omega) (fun x hx => (hok x (hmem x hx)).tn.n) hrow, rfl, ?_⟩; conv => whnf) | (refine ⟨_, size_at bits ks (by omega) (fun x hx => (hok x (hmem x hx)).tn.n) hrow, rfl, ?_⟩; conv => whnf) | (refine Or.inr (Or.inl ?_); (conv => whnf); (repeat (refine aI ?_; conv => whnf)); refine ⟨_, size_at bits ks (by omega) (fun x hx => (hok x (hmem x hx)).tn.n) hrow, ?_⟩; rintro _ _ ⟨rfl, rfl⟩; conv => whnf) | ((first | refine Alt2.l (aI ?_) | refine Alt2.r (aI ?_)); conv => whnf) | (refine Ok.scope ?_) | ((first | refine Ok.label ?_ | refine rd rfl (by assumption) ?_ | refine ⟨_, .inl ⟨rfl, rfl⟩, ?_⟩ | refine ⟨_, _, rfl, rfl, ?_⟩); conv => whnf) | (refine ⟨fun _ => ?_, fun _ => ?_⟩ <;> (conv => whnf) <;> (try (exfalso; omega))) | ((first | refine aJ ?_ | refine num_any ?_ | refine ⟨_, rfl, ?_⟩); conv => whnf) | fail)
  refine Or.inl ?_; (conv => whnf)
  rw [hrow]
  exact ⟨ks, _, rfl, rfl, hform, hmem⟩
set_option maxRecDepth 100000 in
set_option maxHeartbeats 8000000 in
theorem form_pan (bits : Int) (n : Nat) (l : List TR) {rl room : List (List D)} (hl : l.length ≤ 1048576) (hok : ∀ x ∈ l, TO n x) (h : rl = l.map trow) (hsz : 128 < szT (formT (l.map TR.t))) :
    PSpec Tryd.prog T 46 [.i .i64 bits, .lst 81 rl room] passedV := by
  subst h
  refine PSpec.of_ok Tryd.func46 rfl Tryd.call46 (by simp) ?_
  refine Ok.seq ?_
  (refine Ok.region tok ?_; conv => whnf)
  refine Ok.seq ?_
  (refine Ok.region tok ?_; conv => whnf)
  right
  left
  (conv => whnf)
  refine ⟨_, greatestT_at l hl (fun x hx => (hok x hx).tn) rfl, ?_⟩
  rintro d rows ⟨W, hW, rfl, rfl⟩
  have hWk := hW.n
  have hWt := hW.tk
  rw [List.take_length] at hWk hWt
  have hKl : (grG covR l).map TR.t = grG covT (l.map TR.t) := grG_map TR.t covT l
  have hKm : ∀ x ∈ grG covR l, x ∈ l := grG_sub covR l
  have hKn := grG_len covR l
  have hWw := hW.w
  have hkp : (W.map trow).length = W.length := by simp
  generalize grG covR l = K at *
  have hkeys : ∀ x ∈ (W.map trow).take K.length, ∃ l, x[10]? = some (.s l) := by
    intro x hx
    obtain ⟨y, _, rfl⟩ := List.mem_map.1 (List.mem_of_mem_take hx)
    exact ⟨y.t.key, rfl⟩
  have htk : (W.map trow).take K.length = K.map trow := by rw [← List.map_take, hWt]
  (conv => whnf)
  refine Ok.seq ?_
  refine Ok.sortSlice tok sort_term (by (conv => whnf); exact ⟨rfl, rfl⟩) rfl rfl rfl (by rw [hkp]; exact hWk) rfl (by decide) (by decide) hkeys (by omega) ?_
  intro ys hperm hup
  rw [htk] at hperm
  obtain ⟨ks, hks, rfl⟩ := perm_map_ex hperm _ rfl
  have hkl : ks.length = K.length := hks.length_eq
  have hsort : (ks.map TR.t).Pairwise fun t u => Op.bytesLess u.key t.key ≠ true := by
    unfold RowsUp at hup
    rw [List.pairwise_map] at hup ⊢
    refine hup.imp fun {a b} h => ?_
    have h2 := h a.t.key b.t.key rfl rfl
    rw [h2]
    decide
  have hform : ks.map TR.t = formT (l.map TR.t) := formT_eq (n := n) (fun t ht => by
    obtain ⟨x, hx, rfl⟩ := List.mem_map.1 ht
    exact (hok x hx).ok) (by rw [← hKl]; exact hks.map _) hsort
  have hmem : ∀ x ∈ ks, x ∈ l := fun x hx => hKm x (hks.mem_iff.1 hx)
  have hrow : ((ks.map trow ++ (W.map trow).drop K.length).take K.length) = ks.map trow := by
    rw [← hkl]
    exact List.take_left' (by simp)
  have hrl : (ks.map trow ++ (W.map trow).drop K.length).length = W.length := by simp; omega
  clear hup hperm hkeys
  rw [← hform] at hsz
  (conv => whnf)
  (try (conv => whnf)); repeat' (first | (refine Ok.region_throw (fun _ => by kernel_rfl) (by kernel_rfl) (by decide) (by decide) ?_) | refine Ok.seq ?_ | refine OkL.cons ?_ | ((first | refine Ok.region tok ?_ | refine Ok.region_draw tok follows (by kernel_rfl) ?_ | refine Ok.cond ?_); conv => whnf) | refine Ok.block ?_ | ((first | refine Ok.skip ?_ | refine Ok.exit ?_ | refine Ok.ret ?_ | refine nI ?_ | refine ix _ (by assumption) ?_ | refine ixI (by omega) (by assumption) ?_ | refine ix_new _ (by omega) fun _ _ => ?_ | refine ixI_new (by omega) (by omega) fun _ _ => ?_ | refine ⟨_, by assumption, ?_⟩); conv => whnf) | (refine Or.inl ?_; (conv => whnf); (repeat (refine aI ?_; conv => whnf)); refine ⟨_, size_at bits ks (by omega) (fun x hx => (hok x (hmem x hx)).tn.n) hrow, rfl, ?_⟩; conv => whnf) | (refine ⟨_, size_at bits ks (by omega) (fun x hx => (hok x (hmem x hx)).tn.n) hrow, rfl, ?_⟩; conv => whnf) | (refine Or.inr (Or.inl ?_); (conv => whnf); (repeat (refine aI ?_; conv => whnf)); refine ⟨_, size_at bits ks (by omega) (fun x hx => (hok x (hmem x hx)).tn.n) hrow, ?_⟩; rintro _ _ ⟨rfl, rfl⟩; conv => whnf) | ((first | refine Alt2.l (aI ?_) | refine Alt2.r (aI ?_)); conv => whnf) | (refine Ok.scope ?_) | ((first | refine Ok.label ?_ | refine rd rfl (by assumption) ?_ | refine ⟨_, .inl ⟨rfl, rfl⟩, ?_⟩ | refine ⟨_, _, rfl, rfl, ?_⟩); conv => whnf) | (refine ⟨fun _ => ?_, fun _ => ?_⟩ <;> (conv => whnf) <;> (try (exfalso; omega))) | ((first | refine aJ ?_ | refine num_any ?_ | refine ⟨_, rfl, ?_⟩); conv => whnf) | fail)
  rfl
end Go.Proofs.YtaiondckookpiaaDoor
namespace Go.Proofs.YtaiondckookpiaaDoor
open Go Go.Vx
@[reducible] def srow (s : Str) : List D := [.s s]
noncomputable def PK (p : Str) (less : List Str) : List Str := (metL p less).foldl (putG inL blt) []
open Classical in
theorem putG_len {α : Type} (R L : α → α → Prop) (k : List α) (c : α) : (putG R L k c).length ≤ k.length + 1 := by
  unfold putG
  split
  · omega
  · rw [(insG_perm L c _).length_eq, List.length_cons]
    exact Nat.add_le_add_right (List.length_filter_le _ _) 1
theorem PK_len (p : Str) (less : List Str) (i : Nat) : (PK p (less.take i)).length ≤ i := by
  have go : ∀ (l k : List Str), (l.foldl (putG inL blt) k).length ≤ k.length + l.length := by
    intro l
    induction l with
    | nil => intro k; simp
    | cons x l ih =>
      intro k
      have h1 := ih (putG inL blt k x)
      have h2 := putG_len inL blt k x
      simp only [List.foldl_cons, List.length_cons]
      omega
  have h1 := go (metL p (less.take i)) []
  have h2 := metL_le p (less.take i)
  have h3 := List.length_take_le i less
  unfold PK
  simp only [List.length_nil] at h1
  omega
theorem PK_mem {p : Str} {less : List Str} {c : Str} (h : c ∈ PK p less) : c ∈ metL p less :=
  (putG_fold (R := inL) (L := blt) inL_refl (fun _ _ _ => inL_trans) blt_trans blt_total (metL p less)).1.sub c h
theorem termT_pk0 {p : Str} {less : List Str} (h : PK p less = [p]) : termT p less = none := by
  unfold PK at h
  unfold termT
  simp only
  rw [if_pos h]
theorem termT_pk1 {p : Str} {less : List Str} (h : PK p less ≠ [p]) : termT p less = some ⟨p, PK p less⟩ := by
  unfold PK at h
  unfold termT
  simp only
  rw [if_neg h]
  rfl
@[reducible] def drow (x : TR) : List D := [.s x.t.p, .lst 9 (x.t.less.map srow) x.room]
end Go.Proofs.YtaiondckookpiaaDoor
namespace Go.Proofs.YtaiondckookpiaaDoor
open Go Go.Vx
theorem tTail_nil : tTail [] = [] := rfl
theorem szS_eq (l : List Term) : szT l = szS l := rfl
structure SpOk (n : Nat) (l : List TR) : Prop where
  n256 : n ≤ 256
  size : szS (l.map TR.t) ≤ 1048576
  wide : ∀ x ∈ l, x.t.wide n
  pos : l ≠ [] → 0 < n
theorem SpOk.nil {n : Nat} (h : n ≤ 256) : SpOk n [] := ⟨h, by simp [szS], by simp, fun h => absurd rfl h⟩
theorem SpOk.len {n : Nat} {l : List TR} (h : SpOk n l) : l.length ≤ 1048576 := by
  have h1 := szS_len (l.map TR.t)
  have h2 := h.size
  rw [List.length_map] at h1
  omega
theorem SpOk.less {n : Nat} {l : List TR} (h : SpOk n l) {x : TR} (hx : x ∈ l) : x.t.less.length ≤ 1048576 := by
  have h1 := szS_mem (List.mem_map_of_mem (f := TR.t) hx)
  have h2 := h.size
  omega
theorem SpOk.w256 {n : Nat} {l : List TR} (h : SpOk n l) : ∀ t ∈ l.map TR.t, t.p.length ≤ 256 ∧ ∀ m ∈ t.less, m.length ≤ 256 := by
  intro t ht
  obtain ⟨x, hx, rfl⟩ := List.mem_map.1 ht
  have h1 := h.wide x hx
  have h2 := h.n256
  exact ⟨by rw [h1.1]; exact h2, fun m hm => by rw [h1.2 m hm]; exact h2⟩
theorem SpOk.sep {n : Nat} {l : List TR} (h : SpOk n l) (i : Nat) : (sepT ((l.map TR.t).take i)).length ≤ 257 * 1048576 := by
  have h1 := sepT_len (l := (l.map TR.t).take i) fun t ht => h.w256 t (List.mem_of_mem_take ht)
  have h2 := szS_take (l.map TR.t) i
  have h3 := h.size
  omega
theorem SpOk.pre {n : Nat} {l : List TR} (h : SpOk n l) (i : Nat) : (preT (l.map TR.t) i).length ≤ 257 * 1048576 + 1 := by
  unfold preT
  split
  · simp
  · have := h.sep i
    rw [List.length_append, List.length_singleton]
    omega
theorem SpOk.tail {n : Nat} {l : List TR} (h : SpOk n l) {x : TR} (hx : x ∈ l) (j : Nat) : (tTail (x.t.less.take j)).length ≤ 257 * 1048576 := by
  have h1 := tTail_len (l := x.t.less.take j) fun m hm => (h.w256 x.t (List.mem_map_of_mem hx)).2 m (List.mem_of_mem_take hm)
  have h2 := h.less hx
  have h3 : (x.t.less.take j).length ≤ x.t.less.length := by simp; omega
  omega
theorem bits_at (b : Int) (d : D) (hd : ∃ e r m, d = .lst e r m) : FSpec Tryd.prog T 14 [.agg [.i .i64 b, d]] (fun r _ => r = .i .i64 b) := by
  obtain ⟨e, r, m, rfl⟩ := hd
  refine FSpec.of_ok tok Tryd.func14 rfl Tryd.call14 (by simp) ?_
  (try (conv => whnf)); repeat' (first | refine Ok.seq ?_ | refine OkL.cons ?_ | ((first | refine Ok.region tok ?_ | refine Ok.region_draw tok follows (by kernel_rfl) ?_ | refine Ok.cond ?_); conv => whnf) | refine Ok.block ?_ | ((first | refine Ok.skip ?_ | refine Ok.exit ?_ | refine Ok.ret ?_ | refine nI ?_ | refine ix _ (by assumption) ?_ | refine ixI (by omega) (by assumption) ?_ | refine ix_new _ (by omega) fun _ _ => ?_ | refine ixI_new (by omega) (by omega) fun _ _ => ?_ | refine ⟨_, by assumption, ?_⟩ | refine Alt2.l (aI ?_) | refine Alt2.r (aI ?_)); conv => whnf) | (refine Ok.scope ?_) | ((first | refine Ok.label ?_ | refine rd rfl (by assumption) ?_ | refine ⟨_, .inl ⟨rfl, rfl⟩, ?_⟩ | refine ⟨_, _, rfl, rfl, ?_⟩); conv => whnf) | (refine ⟨fun _ => ?_, fun _ => ?_⟩ <;> (conv => whnf) <;> (try (exfalso; omega))) | ((first | refine aJ ?_ | refine num_any ?_ | refine ⟨_, rfl, ?_⟩); conv => whnf) | fail)
  refine Or.inl ?_; (conv => whnf)
  rfl
def noneB (b : Int) : Int := if b < 1 ∨ 256 < b then 0 else b
theorem none_at (b : Int) : FSpec Tryd.prog T 10 [.i .i64 b] (fun r rows => r = .agg [.i .i64 (noneB b), .lst 81 [] []] ∧ rows = []) := by
  refine FSpec.of_ok tok Tryd.func10 rfl Tryd.call10 (by simp) ?_
  (try (conv => whnf)); repeat' (first | refine Ok.seq ?_ | refine OkL.cons ?_ | ((first | refine Ok.region tok ?_ | refine Ok.region_draw tok follows (by kernel_rfl) ?_ | refine Ok.cond ?_); conv => whnf) | refine Ok.block ?_ | ((first | refine Ok.skip ?_ | refine Ok.exit ?_ | refine Ok.ret ?_ | refine nI ?_ | refine ix _ (by assumption) ?_ | refine ixI (by omega) (by assumption) ?_ | refine ix_new _ (by omega) fun _ _ => ?_ | refine ixI_new (by omega) (by omega) fun _ _ => ?_ | refine ⟨_, by assumption, ?_⟩ | refine Alt2.l (aI ?_) | refine Alt2.r (aI ?_)); conv => whnf) | (refine Ok.scope ?_) | ((first | refine Ok.label ?_ | refine rd rfl (by assumption) ?_ | refine ⟨_, .inl ⟨rfl, rfl⟩, ?_⟩ | refine ⟨_, _, rfl, rfl, ?_⟩); conv => whnf) | (refine ⟨fun _ => ?_, fun _ => ?_⟩ <;> (conv => whnf) <;> (try (exfalso; omega))) | ((first | refine aJ ?_ | refine num_any ?_ | refine ⟨_, rfl, ?_⟩); conv => whnf) | fail)
  all_goals
    refine Or.inl ?_; (conv => whnf)
    refine ⟨?_, rfl⟩
    unfold noneB
    first | rw [if_pos (by omega)]; rfl | rw [if_neg (by omega)]; rfl
end Go.Proofs.YtaiondckookpiaaDoor
namespace Go.Proofs.YtaiondckookpiaaDoor
open Go Go.Vx
def bcl (i : Nat) : D := match i with | 0 => .nilB 88 | _ + 1 => .bp 1 0
set_option maxRecDepth 100000 in
set_option maxHeartbeats 16000000 in
theorem text2_at (n : Nat) (l : List TR) {rl room : List (List D)} (hok : SpOk n l) (h : rl = l.map trow) : FSpec Tryd.prog T 15 [.agg [.i .i64 (n : Int), .lst 81 rl room]] (fun d _ => d = .s (textS (l.map TR.t))) := by
  subst h
  have hll : (l.map trow).length = l.length := by simp
  have hln := hok.len
  have hn := hok.n256
  refine FSpec.of_ok tok Tryd.func15 rfl Tryd.call15 (by simp) ?_
  (try (conv => whnf)); repeat' (first | refine Ok.seq ?_ | refine OkL.cons ?_ | ((first | refine Ok.region tok ?_ | refine Ok.region_draw tok follows (by kernel_rfl) ?_ | refine Ok.cond ?_); conv => whnf) | refine Ok.block ?_ | ((first | refine Ok.skip ?_ | refine Ok.exit ?_ | refine Ok.ret ?_ | refine nI ?_ | refine ix _ (by assumption) ?_ | refine ixI (by omega) (by assumption) ?_ | refine ix_new _ (by omega) fun _ _ => ?_ | refine ixI_new (by omega) (by omega) fun _ _ => ?_ | refine ⟨_, by assumption, ?_⟩ | refine Alt2.l (aI ?_) | refine Alt2.r (aI ?_)); conv => whnf) | (refine Ok.scope ?_) | ((first | refine Ok.label ?_ | refine rd rfl (by assumption) ?_ | refine ⟨_, .inl ⟨rfl, rfl⟩, ?_⟩ | refine ⟨_, _, rfl, rfl, ?_⟩); conv => whnf) | (refine ⟨fun _ => ?_, fun _ => ?_⟩ <;> (conv => whnf) <;> (try (exfalso; omega))) | ((first | refine aJ ?_ | refine num_any ?_ | refine ⟨_, rfl, ?_⟩); conv => whnf) | fail)
  · rename_i h
    refine Or.inl ?_; (conv => whnf)
    have : l = [] := List.eq_nil_of_length_eq_zero (by omega)
    subst this
    unfold textS
    rw [if_pos (by rfl)]
    rfl
  · rename_i h
    have hne : l.map TR.t ≠ [] := fun e => h (by have := congrArg List.length e; simp at this; simp [this])
    have hl0 : l ≠ [] := fun e => hne (by rw [e]; rfl)
    have hpos := hok.pos hl0
    refine Ok.ghostB 1 1 5 rfl rfl ?_
    (conv => whnf)
    refine Ok.loopU [1, 3, 12, 13] [14] 1 2 (fun (i : Nat) => [.i .i64 (i : Nat)]) (fun (i : Nat) (_ : List (List D)) => [[.i .i64 (n : Int), .lst 81 (l.map trow) room], [bcl i, .own 0 (sepT ((l.map TR.t).take i)).length]]) (fun (i : Nat) (_ : Vx.Rows) => [some (5, (sepT ((l.map TR.t).take i)).map bcell)]) (fun (i : Nat) => i ≤ l.length) (fun (i : Nat) => l.length - i) (0) (Nat.zero_le _) ?_; (conv => whnf); refine ⟨by ((conv => whnf); first | rfl | (simp [envCat, List.take_of_length_le, srow, drow, trow, bcell, sepT_nil, tTail_nil]; done) | (simp [envCat, List.take_of_length_le, srow, drow, trow, bcell, sepT_nil, tTail_nil]; rw [IntKind.wrap_i64]; omega)), ?_⟩
    rintro i hi
    have hsl := hok.sep i
    have hsm : ((sepT ((l.map TR.t).take i)).map bcell).length = (sepT ((l.map TR.t).take i)).length := List.length_map _
    by_cases hil : i < l.length
    · obtain ⟨x, hx⟩ : ∃ x, l[i]? = some x := ⟨_, List.getElem?_eq_getElem hil⟩
      have hxm := List.mem_of_getElem? hx
      have hxw := hok.wide x hxm
      have hpl : x.t.p.length ≤ 256 := by rw [hxw.1]; exact hn
      have hxl : (x.t.less.map crow).length = x.t.less.length := by simp
      have hxn := hok.less hxm
      have hxt : (l.map TR.t)[i]? = some x.t := by simp [hx]
      have hstep := sepT_step hxt
      have hpre := hok.pre i
      have hkl : x.t.key.length = n * (x.t.less.length + 1) := key_len hxw.1 hxw.2
      have hkb : n * (x.t.less.length + 1) ≤ 256 * 1048577 := Nat.mul_le_mul hn (by omega)
      have hkn : n ≤ n * (x.t.less.length + 1) := Nat.le_mul_of_pos_right n (by omega)
      have hkh : x.t.p = (x.t.key.take n).drop 0 := by rw [List.drop_zero]; exact (key_head hxw.1).symm
      have hka : ∀ (j : Nat) (m : Str), x.t.less[j]? = some m → m = (x.t.key.take (n * (j + 1) + n)).drop (n * (j + 1)) := fun j m hm => (key_at hxw.1 hxw.2 hm).symm
      by_cases hi0 : i = 0
      · have hp0 : preT (l.map TR.t) i = [] := by rw [hi0]; rfl
        have hs0 : sepT ((l.map TR.t).take i) = [] := by rw [hi0]; rfl
        have hb0 : bcl i = .nilB 88 := by rw [hi0]; rfl
        rw [hs0] at hsl hsm ⊢
        rw [hb0]
        rw [hp0] at hpre hstep
        (conv => whnf)
        (try (conv => whnf)); repeat' (first | ((refine And.intro byteT ?_); (conv => whnf)) | refine Ok.seq ?_ | refine OkL.cons ?_ | ((first | refine Ok.region tok ?_ | refine Ok.region_draw tok follows (by kernel_rfl) ?_ | refine Ok.cond ?_); conv => whnf) | refine Ok.block ?_ | ((first | refine Ok.skip ?_ | refine Ok.exit ?_ | refine Ok.ret ?_ | refine nI ?_ | refine ix _ (by assumption) ?_ | refine ixI (by omega) (by assumption) ?_ | refine ix_new _ (by omega) fun _ _ => ?_ | refine ixI_new (by omega) (by omega) fun _ _ => ?_ | refine ⟨_, by assumption, ?_⟩ | refine Alt2.l (aI ?_) | refine Alt2.r (aI ?_)); conv => whnf) | (refine Ok.scope ?_) | ((first | refine Ok.label ?_ | refine rd rfl (by assumption) ?_ | refine ⟨_, .inl ⟨rfl, rfl⟩, ?_⟩ | refine ⟨_, _, rfl, rfl, ?_⟩); conv => whnf) | (refine ⟨fun _ => ?_, fun _ => ?_⟩ <;> (conv => whnf) <;> (try (exfalso; omega))) | ((first | refine aJ ?_ | refine num_any ?_ | refine ⟨_, rfl, ?_⟩); conv => whnf) | fail)
        refine Or.inr (Or.inr (Or.inl ?_)); (conv => whnf); refine ⟨_, _, Tryd.func48, rfl, Tryd.call48, ?_⟩; (conv => whnf)
        (try (conv => whnf)); repeat' (first | ((refine And.intro byteT ?_); (conv => whnf)) | refine Ok.seq ?_ | refine OkL.cons ?_ | ((first | refine Ok.region tok ?_ | refine Ok.region_draw tok follows (by kernel_rfl) ?_ | refine Ok.cond ?_); conv => whnf) | refine Ok.block ?_ | ((first | refine Ok.skip ?_ | refine Ok.exit ?_ | refine Ok.ret ?_ | refine nI ?_ | refine ix _ (by assumption) ?_ | refine ixI (by omega) (by assumption) ?_ | refine ix_new _ (by omega) fun _ _ => ?_ | refine ixI_new (by omega) (by omega) fun _ _ => ?_ | refine ⟨_, by assumption, ?_⟩ | refine Alt2.l (aI ?_) | refine Alt2.r (aI ?_)); conv => whnf) | (refine Ok.scope ?_) | ((first | refine Ok.label ?_ | refine rd rfl (by assumption) ?_ | refine ⟨_, .inl ⟨rfl, rfl⟩, ?_⟩ | refine ⟨_, _, rfl, rfl, ?_⟩); conv => whnf) | (refine ⟨fun _ => ?_, fun _ => ?_⟩ <;> (conv => whnf) <;> (try (exfalso; omega))) | ((first | refine aJ ?_ | refine num_any ?_ | refine ⟨_, rfl, ?_⟩); conv => whnf) | fail)
        refine Or.inr (Or.inr (Or.inr (Or.inr ?_)))
        (conv => whnf)
        refine effW_fresh copyAt rfl ?_
        (conv => whnf)
        (try (conv => whnf)); repeat' (first | ((refine And.intro byteT ?_); (conv => whnf)) | refine Ok.seq ?_ | refine OkL.cons ?_ | ((first | refine Ok.region tok ?_ | refine Ok.region_draw tok follows (by kernel_rfl) ?_ | refine Ok.cond ?_); conv => whnf) | refine Ok.block ?_ | ((first | refine Ok.skip ?_ | refine Ok.exit ?_ | refine Ok.ret ?_ | refine nI ?_ | refine ix _ (by assumption) ?_ | refine ixI (by omega) (by assumption) ?_ | refine ix_new _ (by omega) fun _ _ => ?_ | refine ixI_new (by omega) (by omega) fun _ _ => ?_ | refine ⟨_, by assumption, ?_⟩ | refine Alt2.l (aI ?_) | refine Alt2.r (aI ?_)); conv => whnf) | (refine Ok.scope ?_) | ((first | refine Ok.label ?_ | refine rd rfl (by assumption) ?_ | refine ⟨_, .inl ⟨rfl, rfl⟩, ?_⟩ | refine ⟨_, _, rfl, rfl, ?_⟩); conv => whnf) | (refine ⟨fun _ => ?_, fun _ => ?_⟩ <;> (conv => whnf) <;> (try (exfalso; omega))) | ((first | refine aJ ?_ | refine num_any ?_ | refine ⟨_, rfl, ?_⟩); conv => whnf) | fail)
        refine Ok.loopU [1, 3, 5, 12, 13, 14] [6] 1 3 (fun (j : Nat) => [.i .i64 (n * (j + 1) : Nat)]) (fun (j : Nat) (_ : List (List D)) => [[.i .i64 (n : Int), .lst 81 (l.map trow) room], [.bp 1 0, .own 0 (([] : Str) ++ x.t.p ++ tTail (x.t.less.take j)).length], trow x]) (fun (j : Nat) (_ : Vx.Rows) => [some (5, (([] : Str) ++ x.t.p ++ tTail (x.t.less.take j)).map bcell)]) (fun (j : Nat) => j ≤ x.t.less.length) (fun (j : Nat) => x.t.less.length - j) (0) (Nat.zero_le _) ?_; (conv => whnf); refine ⟨by ((conv => whnf); first | rfl | (simp [envCat, List.take_of_length_le, srow, drow, trow, bcell, sepT_nil, tTail_nil]; done) | (simp [envCat, List.take_of_length_le, srow, drow, trow, bcell, sepT_nil, tTail_nil]; rw [IntKind.wrap_i64]; omega)), ?_⟩
        rintro j hj
        have htl := hok.tail hxm j
        have hFl : (([] : Str) ++ x.t.p ++ tTail (x.t.less.take j)).length ≤ 257 * 1048576 + 1 + 256 + 257 * 1048576 := by rw [List.length_append, List.length_append]; omega
        have hFm : ((([] : Str) ++ x.t.p ++ tTail (x.t.less.take j)).map bcell).length = (([] : Str) ++ x.t.p ++ tTail (x.t.less.take j)).length := List.length_map _
        have hjn : n * (j + 1 + 1) = n * (j + 1) + n := Nat.mul_succ n (j + 1)
        (conv => whnf)
        by_cases hjl : j < x.t.less.length
        · obtain ⟨m, hm⟩ : ∃ m, x.t.less[j]? = some m := ⟨_, List.getElem?_eq_getElem hjl⟩
          have hml : m.length ≤ 256 := by rw [hxw.2 m (List.mem_of_getElem? hm)]; exact hn
          have hts := tTail_snoc hm
          have hj2 : n * (j + 1) + n ≤ n * (x.t.less.length + 1) := by rw [← hjn]; exact Nat.mul_le_mul_left n (by omega)
          have hma := hka j m hm
          generalize hF : ([] : Str) ++ x.t.p ++ tTail (x.t.less.take j) = F at *
          have hF2 : ((F ++ [45]).map bcell).length = (F ++ [45]).length := List.length_map _
          generalize hJ : n * (j + 1) = J at *
          (try (conv => whnf)); repeat' (first | ((refine And.intro byteT ?_); (conv => whnf)) | refine Ok.seq ?_ | refine OkL.cons ?_ | ((first | refine Ok.region tok ?_ | refine Ok.region_draw tok follows (by kernel_rfl) ?_ | refine Ok.cond ?_); conv => whnf) | refine Ok.block ?_ | ((first | refine Ok.skip ?_ | refine Ok.exit ?_ | refine Ok.ret ?_ | refine nI ?_ | refine ix _ (by assumption) ?_ | refine ixI (by omega) (by assumption) ?_ | refine ix_new _ (by omega) fun _ _ => ?_ | refine ixI_new (by omega) (by omega) fun _ _ => ?_ | refine ⟨_, by assumption, ?_⟩ | refine Alt2.l (aI ?_) | refine Alt2.r (aI ?_)); conv => whnf) | (refine Ok.scope ?_) | ((first | refine Ok.label ?_ | refine rd rfl (by assumption) ?_ | refine ⟨_, .inl ⟨rfl, rfl⟩, ?_⟩ | refine ⟨_, _, rfl, rfl, ?_⟩); conv => whnf) | (refine ⟨fun _ => ?_, fun _ => ?_⟩ <;> (conv => whnf) <;> (try (exfalso; omega))) | ((first | refine aJ ?_ | refine num_any ?_ | refine ⟨_, rfl, ?_⟩); conv => whnf) | fail)
          refine Or.inr (Or.inr (Or.inl ?_)); (conv => whnf); refine ⟨_, _, Tryd.func47, rfl, Tryd.call47, ?_⟩; (conv => whnf)
          (try (conv => whnf)); repeat' (first | ((refine And.intro byteT ?_); (conv => whnf)) | refine Ok.seq ?_ | refine OkL.cons ?_ | ((first | refine Ok.region tok ?_ | refine Ok.region_draw tok follows (by kernel_rfl) ?_ | refine Ok.cond ?_); conv => whnf) | refine Ok.block ?_ | ((first | refine Ok.skip ?_ | refine Ok.exit ?_ | refine Ok.ret ?_ | refine nI ?_ | refine ix _ (by assumption) ?_ | refine ixI (by omega) (by assumption) ?_ | refine ix_new _ (by omega) fun _ _ => ?_ | refine ixI_new (by omega) (by omega) fun _ _ => ?_ | refine ⟨_, by assumption, ?_⟩ | refine Alt2.l (aI ?_) | refine Alt2.r (aI ?_)); conv => whnf) | (refine Ok.scope ?_) | ((first | refine Ok.label ?_ | refine rd rfl (by assumption) ?_ | refine ⟨_, .inl ⟨rfl, rfl⟩, ?_⟩ | refine ⟨_, _, rfl, rfl, ?_⟩); conv => whnf) | (refine ⟨fun _ => ?_, fun _ => ?_⟩ <;> (conv => whnf) <;> (try (exfalso; omega))) | ((first | refine aJ ?_ | refine num_any ?_ | refine ⟨_, rfl, ?_⟩); conv => whnf) | fail)
          refine Or.inr (Or.inr (Or.inr (Or.inr ?_)))
          (conv => whnf)
          refine effW_used copyAt rfl ?_
          (conv => whnf)
          (try (conv => whnf)); repeat' (first | ((refine And.intro byteT ?_); (conv => whnf)) | refine Ok.seq ?_ | refine OkL.cons ?_ | ((first | refine Ok.region tok ?_ | refine Ok.region_draw tok follows (by kernel_rfl) ?_ | refine Ok.cond ?_); conv => whnf) | refine Ok.block ?_ | ((first | refine Ok.skip ?_ | refine Ok.exit ?_ | refine Ok.ret ?_ | refine nI ?_ | refine ix _ (by assumption) ?_ | refine ixI (by omega) (by assumption) ?_ | refine ix_new _ (by omega) fun _ _ => ?_ | refine ixI_new (by omega) (by omega) fun _ _ => ?_ | refine ⟨_, by assumption, ?_⟩ | refine Alt2.l (aI ?_) | refine Alt2.r (aI ?_)); conv => whnf) | (refine Ok.scope ?_) | ((first | refine Ok.label ?_ | refine rd rfl (by assumption) ?_ | refine ⟨_, .inl ⟨rfl, rfl⟩, ?_⟩ | refine ⟨_, _, rfl, rfl, ?_⟩); conv => whnf) | (refine ⟨fun _ => ?_, fun _ => ?_⟩ <;> (conv => whnf) <;> (try (exfalso; omega))) | ((first | refine aJ ?_ | refine num_any ?_ | refine ⟨_, rfl, ?_⟩); conv => whnf) | fail)
          try refine ⟨J, J + n, rfl, (by show ((J : Nat) : Int) + (n : Int) = ((J + n : Nat) : Int); omega), by omega, by omega, m, hma, ?_⟩
          (try (conv => whnf)); repeat' (first | ((refine And.intro byteT ?_); (conv => whnf)) | refine Ok.seq ?_ | refine OkL.cons ?_ | ((first | refine Ok.region tok ?_ | refine Ok.region_draw tok follows (by kernel_rfl) ?_ | refine Ok.cond ?_); conv => whnf) | refine Ok.block ?_ | ((first | refine Ok.skip ?_ | refine Ok.exit ?_ | refine Ok.ret ?_ | refine nI ?_ | refine ix _ (by assumption) ?_ | refine ixI (by omega) (by assumption) ?_ | refine ix_new _ (by omega) fun _ _ => ?_ | refine ixI_new (by omega) (by omega) fun _ _ => ?_ | refine ⟨_, by assumption, ?_⟩ | refine Alt2.l (aI ?_) | refine Alt2.r (aI ?_)); conv => whnf) | (refine Ok.scope ?_) | ((first | refine Ok.label ?_ | refine rd rfl (by assumption) ?_ | refine ⟨_, .inl ⟨rfl, rfl⟩, ?_⟩ | refine ⟨_, _, rfl, rfl, ?_⟩); conv => whnf) | (refine ⟨fun _ => ?_, fun _ => ?_⟩ <;> (conv => whnf) <;> (try (exfalso; omega))) | ((first | refine aJ ?_ | refine num_any ?_ | refine ⟨_, rfl, ?_⟩); conv => whnf) | fail)
          refine Or.inr (Or.inr (Or.inl ?_)); (conv => whnf); refine ⟨_, _, Tryd.func48, rfl, Tryd.call48, ?_⟩; (conv => whnf)
          (try (conv => whnf)); repeat' (first | ((refine And.intro byteT ?_); (conv => whnf)) | refine Ok.seq ?_ | refine OkL.cons ?_ | ((first | refine Ok.region tok ?_ | refine Ok.region_draw tok follows (by kernel_rfl) ?_ | refine Ok.cond ?_); conv => whnf) | refine Ok.block ?_ | ((first | refine Ok.skip ?_ | refine Ok.exit ?_ | refine Ok.ret ?_ | refine nI ?_ | refine ix _ (by assumption) ?_ | refine ixI (by omega) (by assumption) ?_ | refine ix_new _ (by omega) fun _ _ => ?_ | refine ixI_new (by omega) (by omega) fun _ _ => ?_ | refine ⟨_, by assumption, ?_⟩ | refine Alt2.l (aI ?_) | refine Alt2.r (aI ?_)); conv => whnf) | (refine Ok.scope ?_) | ((first | refine Ok.label ?_ | refine rd rfl (by assumption) ?_ | refine ⟨_, .inl ⟨rfl, rfl⟩, ?_⟩ | refine ⟨_, _, rfl, rfl, ?_⟩); conv => whnf) | (refine ⟨fun _ => ?_, fun _ => ?_⟩ <;> (conv => whnf) <;> (try (exfalso; omega))) | ((first | refine aJ ?_ | refine num_any ?_ | refine ⟨_, rfl, ?_⟩); conv => whnf) | fail)
          refine Or.inr (Or.inr (Or.inr (Or.inr ?_)))
          (conv => whnf)
          refine effW_used copyAt rfl ?_
          (conv => whnf)
          (try (conv => whnf)); repeat' (first | ((refine And.intro byteT ?_); (conv => whnf)) | refine Ok.seq ?_ | refine OkL.cons ?_ | ((first | refine Ok.region tok ?_ | refine Ok.region_draw tok follows (by kernel_rfl) ?_ | refine Ok.cond ?_); conv => whnf) | refine Ok.block ?_ | ((first | refine Ok.skip ?_ | refine Ok.exit ?_ | refine Ok.ret ?_ | refine nI ?_ | refine ix _ (by assumption) ?_ | refine ixI (by omega) (by assumption) ?_ | refine ix_new _ (by omega) fun _ _ => ?_ | refine ixI_new (by omega) (by omega) fun _ _ => ?_ | refine ⟨_, by assumption, ?_⟩ | refine Alt2.l (aI ?_) | refine Alt2.r (aI ?_)); conv => whnf) | (refine Ok.scope ?_) | ((first | refine Ok.label ?_ | refine rd rfl (by assumption) ?_ | refine ⟨_, .inl ⟨rfl, rfl⟩, ?_⟩ | refine ⟨_, _, rfl, rfl, ?_⟩); conv => whnf) | (refine ⟨fun _ => ?_, fun _ => ?_⟩ <;> (conv => whnf) <;> (try (exfalso; omega))) | ((first | refine aJ ?_ | refine num_any ?_ | refine ⟨_, rfl, ?_⟩); conv => whnf) | fail)
          refine ⟨j + 1, by omega, by omega, ?_⟩
          rw [hjn, hts, ← List.append_assoc, ← List.append_assoc, hF]
          (conv => whnf)
          simp [envCat, bcell]
        · have hje : j = x.t.less.length := by omega
          subst hje
          rw [List.take_length]
          (try (conv => whnf)); repeat' (first | refine Ok.seq ?_ | refine OkL.cons ?_ | ((first | refine Ok.region tok ?_ | refine Ok.region_draw tok follows (by kernel_rfl) ?_ | refine Ok.cond ?_); conv => whnf) | refine Ok.block ?_ | ((first | refine Ok.skip ?_ | refine Ok.exit ?_ | refine Ok.ret ?_ | refine nI ?_ | refine ix _ (by assumption) ?_ | refine ixI (by omega) (by assumption) ?_ | refine ix_new _ (by omega) fun _ _ => ?_ | refine ixI_new (by omega) (by omega) fun _ _ => ?_ | refine ⟨_, by assumption, ?_⟩ | refine Alt2.l (aI ?_) | refine Alt2.r (aI ?_)); conv => whnf) | (refine Ok.scope ?_) | ((first | refine Ok.label ?_ | refine rd rfl (by assumption) ?_ | refine ⟨_, .inl ⟨rfl, rfl⟩, ?_⟩ | refine ⟨_, _, rfl, rfl, ?_⟩); conv => whnf) | (refine ⟨fun _ => ?_, fun _ => ?_⟩ <;> (conv => whnf) <;> (try (exfalso; omega))) | ((first | refine aJ ?_ | refine num_any ?_ | refine ⟨_, rfl, ?_⟩); conv => whnf) | fail)
          refine ⟨i + 1, by omega, by omega, ?_⟩
          rw [hstep]
          unfold ttxt
          rw [← List.append_assoc]
          (conv => whnf)
          rfl
      · have hp0 : preT (l.map TR.t) i = sepT ((l.map TR.t).take i) ++ [43] := by unfold preT; rw [if_neg hi0]
        have hb0 : bcl i = .bp 1 0 := by cases i with | zero => exact absurd rfl hi0 | succ k => rfl
        rw [hb0]
        rw [hp0] at hpre hstep
        have hpre2 : ((sepT ((l.map TR.t).take i) ++ [43]).map bcell).length = (sepT ((l.map TR.t).take i) ++ [43]).length := List.length_map _
        (conv => whnf)
        (try (conv => whnf)); repeat' (first | ((refine And.intro byteT ?_); (conv => whnf)) | refine Ok.seq ?_ | refine OkL.cons ?_ | ((first | refine Ok.region tok ?_ | refine Ok.region_draw tok follows (by kernel_rfl) ?_ | refine Ok.cond ?_); conv => whnf) | refine Ok.block ?_ | ((first | refine Ok.skip ?_ | refine Ok.exit ?_ | refine Ok.ret ?_ | refine nI ?_ | refine ix _ (by assumption) ?_ | refine ixI (by omega) (by assumption) ?_ | refine ix_new _ (by omega) fun _ _ => ?_ | refine ixI_new (by omega) (by omega) fun _ _ => ?_ | refine ⟨_, by assumption, ?_⟩ | refine Alt2.l (aI ?_) | refine Alt2.r (aI ?_)); conv => whnf) | (refine Ok.scope ?_) | ((first | refine Ok.label ?_ | refine rd rfl (by assumption) ?_ | refine ⟨_, .inl ⟨rfl, rfl⟩, ?_⟩ | refine ⟨_, _, rfl, rfl, ?_⟩); conv => whnf) | (refine ⟨fun _ => ?_, fun _ => ?_⟩ <;> (conv => whnf) <;> (try (exfalso; omega))) | ((first | refine aJ ?_ | refine num_any ?_ | refine ⟨_, rfl, ?_⟩); conv => whnf) | fail)
        refine Or.inr (Or.inr (Or.inl ?_)); (conv => whnf); refine ⟨_, _, Tryd.func47, rfl, Tryd.call47, ?_⟩; (conv => whnf)
        (try (conv => whnf)); repeat' (first | ((refine And.intro byteT ?_); (conv => whnf)) | refine Ok.seq ?_ | refine OkL.cons ?_ | ((first | refine Ok.region tok ?_ | refine Ok.region_draw tok follows (by kernel_rfl) ?_ | refine Ok.cond ?_); conv => whnf) | refine Ok.block ?_ | ((first | refine Ok.skip ?_ | refine Ok.exit ?_ | refine Ok.ret ?_ | refine nI ?_ | refine ix _ (by assumption) ?_ | refine ixI (by omega) (by assumption) ?_ | refine ix_new _ (by omega) fun _ _ => ?_ | refine ixI_new (by omega) (by omega) fun _ _ => ?_ | refine ⟨_, by assumption, ?_⟩ | refine Alt2.l (aI ?_) | refine Alt2.r (aI ?_)); conv => whnf) | (refine Ok.scope ?_) | ((first | refine Ok.label ?_ | refine rd rfl (by assumption) ?_ | refine ⟨_, .inl ⟨rfl, rfl⟩, ?_⟩ | refine ⟨_, _, rfl, rfl, ?_⟩); conv => whnf) | (refine ⟨fun _ => ?_, fun _ => ?_⟩ <;> (conv => whnf) <;> (try (exfalso; omega))) | ((first | refine aJ ?_ | refine num_any ?_ | refine ⟨_, rfl, ?_⟩); conv => whnf) | fail)
        refine Or.inr (Or.inr (Or.inr (Or.inr ?_)))
        (conv => whnf)
        refine effW_used copyAt rfl ?_
        (conv => whnf)
        (try (conv => whnf)); repeat' (first | ((refine And.intro byteT ?_); (conv => whnf)) | refine Ok.seq ?_ | refine OkL.cons ?_ | ((first | refine Ok.region tok ?_ | refine Ok.region_draw tok follows (by kernel_rfl) ?_ | refine Ok.cond ?_); conv => whnf) | refine Ok.block ?_ | ((first | refine Ok.skip ?_ | refine Ok.exit ?_ | refine Ok.ret ?_ | refine nI ?_ | refine ix _ (by assumption) ?_ | refine ixI (by omega) (by assumption) ?_ | refine ix_new _ (by omega) fun _ _ => ?_ | refine ixI_new (by omega) (by omega) fun _ _ => ?_ | refine ⟨_, by assumption, ?_⟩ | refine Alt2.l (aI ?_) | refine Alt2.r (aI ?_)); conv => whnf) | (refine Ok.scope ?_) | ((first | refine Ok.label ?_ | refine rd rfl (by assumption) ?_ | refine ⟨_, .inl ⟨rfl, rfl⟩, ?_⟩ | refine ⟨_, _, rfl, rfl, ?_⟩); conv => whnf) | (refine ⟨fun _ => ?_, fun _ => ?_⟩ <;> (conv => whnf) <;> (try (exfalso; omega))) | ((first | refine aJ ?_ | refine num_any ?_ | refine ⟨_, rfl, ?_⟩); conv => whnf) | fail)
        refine Or.inr (Or.inr (Or.inl ?_)); (conv => whnf); refine ⟨_, _, Tryd.func48, rfl, Tryd.call48, ?_⟩; (conv => whnf)
        (try (conv => whnf)); repeat' (first | ((refine And.intro byteT ?_); (conv => whnf)) | refine Ok.seq ?_ | refine OkL.cons ?_ | ((first | refine Ok.region tok ?_ | refine Ok.region_draw tok follows (by kernel_rfl) ?_ | refine Ok.cond ?_); conv => whnf) | refine Ok.block ?_ | ((first | refine Ok.skip ?_ | refine Ok.exit ?_ | refine Ok.ret ?_ | refine nI ?_ | refine ix _ (by assumption) ?_ | refine ixI (by omega) (by assumption) ?_ | refine ix_new _ (by omega) fun _ _ => ?_ | refine ixI_new (by omega) (by omega) fun _ _ => ?_ | refine ⟨_, by assumption, ?_⟩ | refine Alt2.l (aI ?_) | refine Alt2.r (aI ?_)); conv => whnf) | (refine Ok.scope ?_) | ((first | refine Ok.label ?_ | refine rd rfl (by assumption) ?_ | refine ⟨_, .inl ⟨rfl, rfl⟩, ?_⟩ | refine ⟨_, _, rfl, rfl, ?_⟩); conv => whnf) | (refine ⟨fun _ => ?_, fun _ => ?_⟩ <;> (conv => whnf) <;> (try (exfalso; omega))) | ((first | refine aJ ?_ | refine num_any ?_ | refine ⟨_, rfl, ?_⟩); conv => whnf) | fail)
        refine Or.inr (Or.inr (Or.inr (Or.inr ?_)))
        (conv => whnf)
        refine effW_used copyAt rfl ?_
        (conv => whnf)
        (try (conv => whnf)); repeat' (first | ((refine And.intro byteT ?_); (conv => whnf)) | refine Ok.seq ?_ | refine OkL.cons ?_ | ((first | refine Ok.region tok ?_ | refine Ok.region_draw tok follows (by kernel_rfl) ?_ | refine Ok.cond ?_); conv => whnf) | refine Ok.block ?_ | ((first | refine Ok.skip ?_ | refine Ok.exit ?_ | refine Ok.ret ?_ | refine nI ?_ | refine ix _ (by assumption) ?_ | refine ixI (by omega) (by assumption) ?_ | refine ix_new _ (by omega) fun _ _ => ?_ | refine ixI_new (by omega) (by omega) fun _ _ => ?_ | refine ⟨_, by assumption, ?_⟩ | refine Alt2.l (aI ?_) | refine Alt2.r (aI ?_)); conv => whnf) | (refine Ok.scope ?_) | ((first | refine Ok.label ?_ | refine rd rfl (by assumption) ?_ | refine ⟨_, .inl ⟨rfl, rfl⟩, ?_⟩ | refine ⟨_, _, rfl, rfl, ?_⟩); conv => whnf) | (refine ⟨fun _ => ?_, fun _ => ?_⟩ <;> (conv => whnf) <;> (try (exfalso; omega))) | ((first | refine aJ ?_ | refine num_any ?_ | refine ⟨_, rfl, ?_⟩); conv => whnf) | fail)
        refine Ok.loopU [1, 3, 5, 12, 13, 14] [6] 1 3 (fun (j : Nat) => [.i .i64 (n * (j + 1) : Nat)]) (fun (j : Nat) (_ : List (List D)) => [[.i .i64 (n : Int), .lst 81 (l.map trow) room], [.bp 1 0, .own 0 ((sepT ((l.map TR.t).take i) ++ [43]) ++ x.t.p ++ tTail (x.t.less.take j)).length], trow x]) (fun (j : Nat) (_ : Vx.Rows) => [some (5, ((sepT ((l.map TR.t).take i) ++ [43]) ++ x.t.p ++ tTail (x.t.less.take j)).map bcell)]) (fun (j : Nat) => j ≤ x.t.less.length) (fun (j : Nat) => x.t.less.length - j) (0) (Nat.zero_le _) ?_; (conv => whnf); refine ⟨by ((conv => whnf); first | rfl | (simp [envCat, List.take_of_length_le, srow, drow, trow, bcell, sepT_nil, tTail_nil]; done) | (simp [envCat, List.take_of_length_le, srow, drow, trow, bcell, sepT_nil, tTail_nil]; rw [IntKind.wrap_i64]; omega)), ?_⟩
        rintro j hj
        have htl := hok.tail hxm j
        have hFl : ((sepT ((l.map TR.t).take i) ++ [43]) ++ x.t.p ++ tTail (x.t.less.take j)).length ≤ 257 * 1048576 + 1 + 256 + 257 * 1048576 := by rw [List.length_append, List.length_append]; omega
        have hFm : (((sepT ((l.map TR.t).take i) ++ [43]) ++ x.t.p ++ tTail (x.t.less.take j)).map bcell).length = ((sepT ((l.map TR.t).take i) ++ [43]) ++ x.t.p ++ tTail (x.t.less.take j)).length := List.length_map _
        have hjn : n * (j + 1 + 1) = n * (j + 1) + n := Nat.mul_succ n (j + 1)
        (conv => whnf)
        by_cases hjl : j < x.t.less.length
        · obtain ⟨m, hm⟩ : ∃ m, x.t.less[j]? = some m := ⟨_, List.getElem?_eq_getElem hjl⟩
          have hml : m.length ≤ 256 := by rw [hxw.2 m (List.mem_of_getElem? hm)]; exact hn
          have hts := tTail_snoc hm
          have hj2 : n * (j + 1) + n ≤ n * (x.t.less.length + 1) := by rw [← hjn]; exact Nat.mul_le_mul_left n (by omega)
          have hma := hka j m hm
          generalize hF : (sepT ((l.map TR.t).take i) ++ [43]) ++ x.t.p ++ tTail (x.t.less.take j) = F at *
          have hF2 : ((F ++ [45]).map bcell).length = (F ++ [45]).length := List.length_map _
          generalize hJ : n * (j + 1) = J at *
          (try (conv => whnf)); repeat' (first | ((refine And.intro byteT ?_); (conv => whnf)) | refine Ok.seq ?_ | refine OkL.cons ?_ | ((first | refine Ok.region tok ?_ | refine Ok.region_draw tok follows (by kernel_rfl) ?_ | refine Ok.cond ?_); conv => whnf) | refine Ok.block ?_ | ((first | refine Ok.skip ?_ | refine Ok.exit ?_ | refine Ok.ret ?_ | refine nI ?_ | refine ix _ (by assumption) ?_ | refine ixI (by omega) (by assumption) ?_ | refine ix_new _ (by omega) fun _ _ => ?_ | refine ixI_new (by omega) (by omega) fun _ _ => ?_ | refine ⟨_, by assumption, ?_⟩ | refine Alt2.l (aI ?_) | refine Alt2.r (aI ?_)); conv => whnf) | (refine Ok.scope ?_) | ((first | refine Ok.label ?_ | refine rd rfl (by assumption) ?_ | refine ⟨_, .inl ⟨rfl, rfl⟩, ?_⟩ | refine ⟨_, _, rfl, rfl, ?_⟩); conv => whnf) | (refine ⟨fun _ => ?_, fun _ => ?_⟩ <;> (conv => whnf) <;> (try (exfalso; omega))) | ((first | refine aJ ?_ | refine num_any ?_ | refine ⟨_, rfl, ?_⟩); conv => whnf) | fail)
          refine Or.inr (Or.inr (Or.inl ?_)); (conv => whnf); refine ⟨_, _, Tryd.func47, rfl, Tryd.call47, ?_⟩; (conv => whnf)
          (try (conv => whnf)); repeat' (first | ((refine And.intro byteT ?_); (conv => whnf)) | refine Ok.seq ?_ | refine OkL.cons ?_ | ((first | refine Ok.region tok ?_ | refine Ok.region_draw tok follows (by kernel_rfl) ?_ | refine Ok.cond ?_); conv => whnf) | refine Ok.block ?_ | ((first | refine Ok.skip ?_ | refine Ok.exit ?_ | refine Ok.ret ?_ | refine nI ?_ | refine ix _ (by assumption) ?_ | refine ixI (by omega) (by assumption) ?_ | refine ix_new _ (by omega) fun _ _ => ?_ | refine ixI_new (by omega) (by omega) fun _ _ => ?_ | refine ⟨_, by assumption, ?_⟩ | refine Alt2.l (aI ?_) | refine Alt2.r (aI ?_)); conv => whnf) | (refine Ok.scope ?_) | ((first | refine Ok.label ?_ | refine rd rfl (by assumption) ?_ | refine ⟨_, .inl ⟨rfl, rfl⟩, ?_⟩ | refine ⟨_, _, rfl, rfl, ?_⟩); conv => whnf) | (refine ⟨fun _ => ?_, fun _ => ?_⟩ <;> (conv => whnf) <;> (try (exfalso; omega))) | ((first | refine aJ ?_ | refine num_any ?_ | refine ⟨_, rfl, ?_⟩); conv => whnf) | fail)
          refine Or.inr (Or.inr (Or.inr (Or.inr ?_)))
          (conv => whnf)
          refine effW_used copyAt rfl ?_
          (conv => whnf)
          (try (conv => whnf)); repeat' (first | ((refine And.intro byteT ?_); (conv => whnf)) | refine Ok.seq ?_ | refine OkL.cons ?_ | ((first | refine Ok.region tok ?_ | refine Ok.region_draw tok follows (by kernel_rfl) ?_ | refine Ok.cond ?_); conv => whnf) | refine Ok.block ?_ | ((first | refine Ok.skip ?_ | refine Ok.exit ?_ | refine Ok.ret ?_ | refine nI ?_ | refine ix _ (by assumption) ?_ | refine ixI (by omega) (by assumption) ?_ | refine ix_new _ (by omega) fun _ _ => ?_ | refine ixI_new (by omega) (by omega) fun _ _ => ?_ | refine ⟨_, by assumption, ?_⟩ | refine Alt2.l (aI ?_) | refine Alt2.r (aI ?_)); conv => whnf) | (refine Ok.scope ?_) | ((first | refine Ok.label ?_ | refine rd rfl (by assumption) ?_ | refine ⟨_, .inl ⟨rfl, rfl⟩, ?_⟩ | refine ⟨_, _, rfl, rfl, ?_⟩); conv => whnf) | (refine ⟨fun _ => ?_, fun _ => ?_⟩ <;> (conv => whnf) <;> (try (exfalso; omega))) | ((first | refine aJ ?_ | refine num_any ?_ | refine ⟨_, rfl, ?_⟩); conv => whnf) | fail)
          try refine ⟨J, J + n, rfl, (by show ((J : Nat) : Int) + (n : Int) = ((J + n : Nat) : Int); omega), by omega, by omega, m, hma, ?_⟩
          (try (conv => whnf)); repeat' (first | ((refine And.intro byteT ?_); (conv => whnf)) | refine Ok.seq ?_ | refine OkL.cons ?_ | ((first | refine Ok.region tok ?_ | refine Ok.region_draw tok follows (by kernel_rfl) ?_ | refine Ok.cond ?_); conv => whnf) | refine Ok.block ?_ | ((first | refine Ok.skip ?_ | refine Ok.exit ?_ | refine Ok.ret ?_ | refine nI ?_ | refine ix _ (by assumption) ?_ | refine ixI (by omega) (by assumption) ?_ | refine ix_new _ (by omega) fun _ _ => ?_ | refine ixI_new (by omega) (by omega) fun _ _ => ?_ | refine ⟨_, by assumption, ?_⟩ | refine Alt2.l (aI ?_) | refine Alt2.r (aI ?_)); conv => whnf) | (refine Ok.scope ?_) | ((first | refine Ok.label ?_ | refine rd rfl (by assumption) ?_ | refine ⟨_, .inl ⟨rfl, rfl⟩, ?_⟩ | refine ⟨_, _, rfl, rfl, ?_⟩); conv => whnf) | (refine ⟨fun _ => ?_, fun _ => ?_⟩ <;> (conv => whnf) <;> (try (exfalso; omega))) | ((first | refine aJ ?_ | refine num_any ?_ | refine ⟨_, rfl, ?_⟩); conv => whnf) | fail)
          refine Or.inr (Or.inr (Or.inl ?_)); (conv => whnf); refine ⟨_, _, Tryd.func48, rfl, Tryd.call48, ?_⟩; (conv => whnf)
          (try (conv => whnf)); repeat' (first | ((refine And.intro byteT ?_); (conv => whnf)) | refine Ok.seq ?_ | refine OkL.cons ?_ | ((first | refine Ok.region tok ?_ | refine Ok.region_draw tok follows (by kernel_rfl) ?_ | refine Ok.cond ?_); conv => whnf) | refine Ok.block ?_ | ((first | refine Ok.skip ?_ | refine Ok.exit ?_ | refine Ok.ret ?_ | refine nI ?_ | refine ix _ (by assumption) ?_ | refine ixI (by omega) (by assumption) ?_ | refine ix_new _ (by omega) fun _ _ => ?_ | refine ixI_new (by omega) (by omega) fun _ _ => ?_ | refine ⟨_, by assumption, ?_⟩ | refine Alt2.l (aI ?_) | refine Alt2.r (aI ?_)); conv => whnf) | (refine Ok.scope ?_) | ((first | refine Ok.label ?_ | refine rd rfl (by assumption) ?_ | refine ⟨_, .inl ⟨rfl, rfl⟩, ?_⟩ | refine ⟨_, _, rfl, rfl, ?_⟩); conv => whnf) | (refine ⟨fun _ => ?_, fun _ => ?_⟩ <;> (conv => whnf) <;> (try (exfalso; omega))) | ((first | refine aJ ?_ | refine num_any ?_ | refine ⟨_, rfl, ?_⟩); conv => whnf) | fail)
          refine Or.inr (Or.inr (Or.inr (Or.inr ?_)))
          (conv => whnf)
          refine effW_used copyAt rfl ?_
          (conv => whnf)
          (try (conv => whnf)); repeat' (first | ((refine And.intro byteT ?_); (conv => whnf)) | refine Ok.seq ?_ | refine OkL.cons ?_ | ((first | refine Ok.region tok ?_ | refine Ok.region_draw tok follows (by kernel_rfl) ?_ | refine Ok.cond ?_); conv => whnf) | refine Ok.block ?_ | ((first | refine Ok.skip ?_ | refine Ok.exit ?_ | refine Ok.ret ?_ | refine nI ?_ | refine ix _ (by assumption) ?_ | refine ixI (by omega) (by assumption) ?_ | refine ix_new _ (by omega) fun _ _ => ?_ | refine ixI_new (by omega) (by omega) fun _ _ => ?_ | refine ⟨_, by assumption, ?_⟩ | refine Alt2.l (aI ?_) | refine Alt2.r (aI ?_)); conv => whnf) | (refine Ok.scope ?_) | ((first | refine Ok.label ?_ | refine rd rfl (by assumption) ?_ | refine ⟨_, .inl ⟨rfl, rfl⟩, ?_⟩ | refine ⟨_, _, rfl, rfl, ?_⟩); conv => whnf) | (refine ⟨fun _ => ?_, fun _ => ?_⟩ <;> (conv => whnf) <;> (try (exfalso; omega))) | ((first | refine aJ ?_ | refine num_any ?_ | refine ⟨_, rfl, ?_⟩); conv => whnf) | fail)
          refine ⟨j + 1, by omega, by omega, ?_⟩
          rw [hjn, hts, ← List.append_assoc, ← List.append_assoc, hF]
          (conv => whnf)
          simp [envCat, bcell]
        · have hje : j = x.t.less.length := by omega
          subst hje
          rw [List.take_length]
          (try (conv => whnf)); repeat' (first | refine Ok.seq ?_ | refine OkL.cons ?_ | ((first | refine Ok.region tok ?_ | refine Ok.region_draw tok follows (by kernel_rfl) ?_ | refine Ok.cond ?_); conv => whnf) | refine Ok.block ?_ | ((first | refine Ok.skip ?_ | refine Ok.exit ?_ | refine Ok.ret ?_ | refine nI ?_ | refine ix _ (by assumption) ?_ | refine ixI (by omega) (by assumption) ?_ | refine ix_new _ (by omega) fun _ _ => ?_ | refine ixI_new (by omega) (by omega) fun _ _ => ?_ | refine ⟨_, by assumption, ?_⟩ | refine Alt2.l (aI ?_) | refine Alt2.r (aI ?_)); conv => whnf) | (refine Ok.scope ?_) | ((first | refine Ok.label ?_ | refine rd rfl (by assumption) ?_ | refine ⟨_, .inl ⟨rfl, rfl⟩, ?_⟩ | refine ⟨_, _, rfl, rfl, ?_⟩); conv => whnf) | (refine ⟨fun _ => ?_, fun _ => ?_⟩ <;> (conv => whnf) <;> (try (exfalso; omega))) | ((first | refine aJ ?_ | refine num_any ?_ | refine ⟨_, rfl, ?_⟩); conv => whnf) | fail)
          refine ⟨i + 1, by omega, by omega, ?_⟩
          rw [hstep]
          unfold ttxt
          rw [← List.append_assoc]
          (conv => whnf)
          rfl
    · have hie : i = l.length := by omega
      subst hie
      rw [List.take_of_length_le (by simp)] at hsl hsm ⊢
      have hbl : bcl l.length = .bp 1 0 := by
        have := List.length_pos_iff.2 hl0
        cases hh : l.length with
        | zero => omega
        | succ k => rfl
      rw [hbl]
      (conv => whnf)
      have htne : sepT (l.map TR.t) ≠ [] := by
        obtain ⟨x, hx⟩ : ∃ x, l[l.length - 1]? = some x := ⟨_, List.getElem?_eq_getElem (by have := List.length_pos_iff.2 hl0; omega)⟩
        have hxt : (l.map TR.t)[l.length - 1]? = some x.t := by simp [hx]
        have h1 := sepT_step hxt
        rw [show l.length - 1 + 1 = l.length by have := List.length_pos_iff.2 hl0; omega, List.take_of_length_le (by simp)] at h1
        rw [h1]
        intro e
        have h2 := (List.append_eq_nil_iff.1 (List.append_eq_nil_iff.1 e).2).1
        have h3 := (hok.wide x (List.mem_of_getElem? hx)).1
        rw [h2] at h3
        simp at h3
        omega
      (try (conv => whnf)); repeat' (first | refine Ok.seq ?_ | refine OkL.cons ?_ | ((first | refine Ok.region tok ?_ | refine Ok.region_draw tok follows (by kernel_rfl) ?_ | refine Ok.cond ?_); conv => whnf) | refine Ok.block ?_ | ((first | refine Ok.skip ?_ | refine Ok.exit ?_ | refine Ok.ret ?_ | refine nI ?_ | refine ix _ (by assumption) ?_ | refine ixI (by omega) (by assumption) ?_ | refine ix_new _ (by omega) fun _ _ => ?_ | refine ixI_new (by omega) (by omega) fun _ _ => ?_ | refine ⟨_, by assumption, ?_⟩ | refine Alt2.l (aI ?_) | refine Alt2.r (aI ?_)); conv => whnf) | (refine Ok.scope ?_) | ((first | refine Ok.label ?_ | refine rd rfl (by assumption) ?_ | refine ⟨_, .inl ⟨rfl, rfl⟩, ?_⟩ | refine ⟨_, _, rfl, rfl, ?_⟩); conv => whnf) | (refine ⟨fun _ => ?_, fun _ => ?_⟩ <;> (conv => whnf) <;> (try (exfalso; omega))) | ((first | refine aJ ?_ | refine num_any ?_ | refine ⟨_, rfl, ?_⟩); conv => whnf) | fail)
      refine Or.inr (Or.inr (Or.inr (Or.inr ?_)))
      (conv => whnf)
      refine effW_of_effK (effK_string strAt rfl rfl rfl (by rw [hsm]; exact Nat.le_refl _) (take_all bcell _) htne ?_)
      (conv => whnf)
      (try (conv => whnf)); repeat' (first | refine Ok.seq ?_ | refine OkL.cons ?_ | ((first | refine Ok.region tok ?_ | refine Ok.region_draw tok follows (by kernel_rfl) ?_ | refine Ok.cond ?_); conv => whnf) | refine Ok.block ?_ | ((first | refine Ok.skip ?_ | refine Ok.exit ?_ | refine Ok.ret ?_ | refine nI ?_ | refine ix _ (by assumption) ?_ | refine ixI (by omega) (by assumption) ?_ | refine ix_new _ (by omega) fun _ _ => ?_ | refine ixI_new (by omega) (by omega) fun _ _ => ?_ | refine ⟨_, by assumption, ?_⟩ | refine Alt2.l (aI ?_) | refine Alt2.r (aI ?_)); conv => whnf) | (refine Ok.scope ?_) | ((first | refine Ok.label ?_ | refine rd rfl (by assumption) ?_ | refine ⟨_, .inl ⟨rfl, rfl⟩, ?_⟩ | refine ⟨_, _, rfl, rfl, ?_⟩); conv => whnf) | (refine ⟨fun _ => ?_, fun _ => ?_⟩ <;> (conv => whnf) <;> (try (exfalso; omega))) | ((first | refine aJ ?_ | refine num_any ?_ | refine ⟨_, rfl, ?_⟩); conv => whnf) | fail)
      refine Or.inl ?_; (conv => whnf)
      unfold textS
      rw [if_neg hne]
      rfl
end Go.Proofs.YtaiondckookpiaaDoor
namespace Go.Proofs.YtaiondckookpiaaDoor
open Go Go.Vx
theorem cutL_len (c : UInt8) : ∀ l : Str, (cutL c l).length ≤ l.length + 1
  | [] => by simp [cutL]
  | b :: r => by
    have ih := cutL_len c r
    unfold cutL
    split
    · simp; omega
    · split
      · rename_i h; rw [h] at ih; simp at ih ⊢; omega
      · simp
theorem cutL_mem (c : UInt8) : ∀ {l p : Str}, p ∈ cutL c l → p.length ≤ l.length
  | [], p, h => by simp [cutL] at h; simp [h]
  | b :: r, p, h => by
    unfold cutL at h
    split at h
    · rcases List.mem_cons.1 h with rfl | h
      · simp
      · have := cutL_mem c h; simp; omega
    · split at h
      · rename_i x t hx
        rcases List.mem_cons.1 h with rfl | h
        · have : x ∈ cutL c r := by rw [hx]; simp
          have := cutL_mem c this
          simp; omega
        · have : p ∈ cutL c r := by rw [hx]; simp [h]
          have := cutL_mem c this
          simp; omega
      · simp at h; subst h; simp
def pieces (s : Str) : List (List Str) := (cutL 43 s).map (cutL 45)
def OkW (n : Int) (w : Str) : Prop := (w.length : Int) = n ∧ okC w
def OkP (n : Int) (ms : List (List Str)) : Prop := ∀ m ∈ ms, ∀ w ∈ m, OkW n w
def cntP (ms : List (List Str)) : Nat := (ms.map List.length).sum
noncomputable def trm (m : List Str) : Option Term := termT (m.headD []) m.tail
noncomputable def trms (ms : List (List Str)) : List Term := ms.filterMap trm
open Classical in
noncomputable def parO (b : Int) (s : Str) : Int × Int × List Term :=
  if 33024 < s.length then (2, 0, []) else if b < 1 ∨ 256 < b then (1, 0, []) else if s = [110, 111, 110, 101] then (0, b, [])
  else if ¬ OkP b (pieces s) then (20, 0, []) else if 128 < cntP (pieces s) then (3, 0, []) else (0, b, formT (trms (pieces s)))
theorem cntP_take {ms : List (List Str)} {i : Nat} {m : List Str} (h : ms[i]? = some m) : cntP (ms.take (i + 1)) = cntP (ms.take i) + m.length := by
  rw [take_snoc h]; simp [cntP]
theorem cntP_le {ms : List (List Str)} {k : Nat} (h : ∀ m ∈ ms, m.length ≤ k) (i : Nat) : cntP (ms.take i) ≤ ms.length * k := by
  have go : ∀ ms : List (List Str), (∀ m ∈ ms, m.length ≤ k) → cntP ms ≤ ms.length * k := by
    intro ms
    induction ms with
    | nil => intro _; simp [cntP]
    | cons m ms ih =>
      intro h
      have h1 := ih fun x hx => h x (by simp [hx])
      have h2 := h m (by simp)
      simp only [cntP, List.map_cons, List.sum_cons, List.length_cons] at h1 ⊢
      rw [Nat.add_mul]; omega
  refine Nat.le_trans (go _ fun m hm => h m (List.mem_of_mem_take hm)) (Nat.mul_le_mul_right _ (by simp; omega))
theorem trms_some {ms : List (List Str)} {i : Nat} {m : List Str} {t : Term} (h : ms[i]? = some m) (ht : trm m = some t) : trms (ms.take (i + 1)) = trms (ms.take i) ++ [t] := by
  rw [take_snoc h]; simp [trms, ht]
theorem trms_none {ms : List (List Str)} {i : Nat} {m : List Str} (h : ms[i]? = some m) (ht : trm m = none) : trms (ms.take (i + 1)) = trms (ms.take i) := by
  rw [take_snoc h]; simp [trms, ht]
theorem pieces_len (s : Str) : (pieces s).length ≤ s.length + 1 := by
  unfold pieces; rw [List.length_map]; exact cutL_len _ _
theorem pieces_mem {s : Str} {m : List Str} (h : m ∈ pieces s) : m ≠ [] ∧ m.length ≤ s.length + 1 ∧ ∀ w ∈ m, w.length ≤ s.length := by
  obtain ⟨p, hp, rfl⟩ := List.mem_map.1 h
  have h1 := cutL_mem _ hp
  have h2 := cutL_len 45 p
  exact ⟨cutL_ne _ _, by omega, fun w hw => Nat.le_trans (cutL_mem _ hw) h1⟩
theorem szT_sub {l k : List Term} (h : l.Sublist k) : szT l ≤ szT k := by
  induction h with
  | slnil => exact Nat.le_refl _
  | cons a _ ih => simp only [szT, List.map_cons, List.sum_cons] at ih ⊢; omega
  | cons_cons a _ ih => simp only [szT, List.map_cons, List.sum_cons] at ih ⊢; omega
theorem szT_perm {l k : List Term} (h : l.Perm k) : szT l = szT k := (h.map _).sum_nat
theorem grG_sublist {α : Type} (R : α → α → Prop) (l : List α) : (grG R l).Sublist l := by
  have go : ∀ (l k l0 : List α), k.Sublist l0 → (l.foldl (addG R) k).Sublist (l0 ++ l) := by
    intro l
    induction l with
    | nil => intro k l0 h; simpa using h
    | cons x l ih =>
      intro k l0 h
      have hx : (addG R k x).Sublist (l0 ++ [x]) := by
        unfold addG
        split
        · exact h.trans (List.sublist_append_left _ _)
        · exact (List.filter_sublist.trans h).append (List.Sublist.refl _)
      have := ih _ _ hx
      simpa [List.append_assoc] using this
  have h := go l [] [] (List.Sublist.refl _)
  rw [List.nil_append] at h
  exact h
theorem szT_form (l : List Term) : szT (formT l) ≤ szT l := by
  unfold formT
  rw [szT_perm (srt_perm aheadT _)]
  exact szT_sub (grG_sublist _ _)
theorem termT_sz {p : Str} {less : List Str} {t : Term} (h : termT p less = some t) : t.less.length ≤ less.length := by
  by_cases hk : PK p less = [p]
  · rw [termT_pk0 hk] at h; cases h
  · rw [termT_pk1 hk] at h
    cases h
    have := PK_len p less less.length
    rwa [List.take_length] at this
theorem trm_sz {m : List Str} {t : Term} (hm : m ≠ []) (h : trm m = some t) : 1 + t.less.length ≤ m.length := by
  have := termT_sz h
  cases m with
  | nil => exact absurd rfl hm
  | cons a m => simp at this ⊢; omega
theorem szT_trms {ms : List (List Str)} (h : ∀ m ∈ ms, m ≠ []) : szT (trms ms) ≤ cntP ms := by
  induction ms with
  | nil => simp [trms, szT, cntP]
  | cons m ms ih =>
    have h1 := ih fun x hx => h x (by simp [hx])
    unfold trms cntP at *
    cases ht : trm m with
    | none => rw [List.filterMap_cons_none ht]; simp; omega
    | some t =>
      rw [List.filterMap_cons_some ht]
      have := trm_sz (h m (by simp)) ht
      simp only [szT, List.map_cons, List.sum_cons] at h1 ⊢
      omega
structure GoodT (n : Nat) (t : Term) : Prop where
  ok : t.Ok n
  p : CN t.p
  less : ∀ m ∈ t.less, CN m
theorem metL_mem {p : Str} {less : List Str} {m : Str} (h : m ∈ metL p less) : ∃ x ∈ less, meetT x p = some m := by
  obtain ⟨x, hx, hm⟩ := List.mem_filterMap.1 h
  exact ⟨x, hx, hm⟩
theorem termT_good {p : Str} {less : List Str} {t : Term} {n : Nat} (hp : CN p) (hn : p.length = n) (hl : ∀ m ∈ less, CT m) (h : termT p less = some t) : GoodT n t ∧ t.p = p := by
  have h0 := termT_ok hp.2 h
  subst hn
  refine ⟨⟨h0.1, by rw [h0.2]; exact hp, fun m hm => ?_⟩, h0.2⟩
  by_cases hk : PK p less = [p]
  · rw [termT_pk0 hk] at h; cases h
  · rw [termT_pk1 hk] at h
    cases h
    obtain ⟨x, hx, hm2⟩ := metL_mem (PK_mem hm)
    have h3 := meetT_ct hm2 (hl x hx) hp.1
    exact ⟨h3.1, fun e => h3.2.2 (List.eq_nil_of_length_eq_zero (by rw [← h3.2.1, e]; rfl))⟩
structure Fine (n : Int) (ts : List Term) : Prop where
  n0 : 0 ≤ n
  n1 : n ≤ 256
  good : ∀ t ∈ ts, GoodT n.toNat t
  sz : szT ts ≤ 128
theorem Fine.nil {n : Int} (h0 : 0 ≤ n) (h1 : n ≤ 256) : Fine n [] := ⟨h0, h1, by simp, by simp [szT]⟩
theorem szT_len (l : List Term) : l.length ≤ szT l := szS_len l
theorem szT_mem {l : List Term} {t : Term} (h : t ∈ l) : 1 + t.less.length ≤ szT l := szS_mem h
theorem Fine.len {n : Int} {ts : List Term} (h : Fine n ts) : ts.length ≤ 128 := Nat.le_trans (szT_len _) h.sz
theorem Fine.less {n : Int} {ts : List Term} (h : Fine n ts) {t : Term} (ht : t ∈ ts) : t.less.length ≤ 127 := by
  have := szT_mem ht
  have := h.sz
  omega
theorem GoodT.tn {n : Nat} {x : TR} (h : GoodT n x.t) (hl : x.t.less.length ≤ 1048576) : TN x := ⟨h.p, h.less, hl⟩
theorem GoodT.to {n : Nat} {x : TR} (h : GoodT n x.t) (hl : x.t.less.length ≤ 1048576) : TO n x := ⟨h.tn hl, h.ok⟩
theorem mem_of_map {l : List TR} {ts : List Term} (e : l.map TR.t = ts) {x : TR} (hx : x ∈ l) : x.t ∈ ts := by rw [← e]; exact List.mem_map_of_mem hx
theorem Fine.to {n : Int} {ts : List Term} (h : Fine n ts) {l : List TR} (e : l.map TR.t = ts) : ∀ x ∈ l, TO n.toNat x := fun x hx =>
  (h.good _ (mem_of_map e hx)).to (Nat.le_trans (h.less (mem_of_map e hx)) (by decide))
theorem Fine.sp {n : Int} {ts : List Term} (h : Fine n ts) {l : List TR} (e : l.map TR.t = ts) : SpOk n.toNat l := by
  refine ⟨by have := h.n1; omega, ?_, fun x hx => (h.good _ (mem_of_map e hx)).ok.wide, fun hne => ?_⟩
  · rw [← szS_eq, e]; exact Nat.le_trans h.sz (by decide)
  · cases l with
    | nil => exact absurd rfl hne
    | cons x l => exact (h.good _ (mem_of_map e (List.mem_cons_self ..))).ok.pos
theorem Fine.form {n : Int} {l : List Term} (h0 : 0 ≤ n) (h1 : n ≤ 256) (hg : ∀ t ∈ l, GoodT n.toNat t) (hs : szT (formT l) ≤ 128) : Fine n (formT l) :=
  ⟨h0, h1, fun t ht => hg t (formT_mem ht), hs⟩
theorem headD_mem {m : List Str} (h : m ≠ []) : m.headD [] ∈ m := by
  cases m with
  | nil => exact absurd rfl h
  | cons a m => simp
theorem trms_good {n : Int} {ms : List (List Str)} (h : ∀ m ∈ ms, m ≠ []) (ho : OkP n ms) : ∀ t ∈ trms ms, GoodT n.toNat t := by
  intro t ht
  obtain ⟨m, hm, hmt⟩ := List.mem_filterMap.1 ht
  have h1 := ho m hm _ (headD_mem (h m hm))
  exact (termT_good ⟨h1.2.1, h1.2.2⟩ (by have := h1.1; omega) (fun w hw => (ho m hm w (List.mem_of_mem_tail hw)).2.1) hmt).1
theorem parO_fine (b : Int) (s : Str) : Fine (parO b s).2.1 (parO b s).2.2 := by
  unfold parO
  split
  · exact .nil (by decide) (by decide)
  · split
    · exact .nil (by decide) (by decide)
    · rename_i hb
      split
      · exact .nil (by show 0 ≤ b; omega) (by show b ≤ 256; omega)
      · split
        · exact .nil (by decide) (by decide)
        · rename_i ho
          split
          · exact .nil (by decide) (by decide)
          · rename_i hc
            refine .form (by show 0 ≤ b; omega) (by show b ≤ 256; omega) (trms_good (fun m hm => (pieces_mem hm).1) (Classical.not_not.1 ho)) ?_
            have := szT_form (trms (pieces s))
            have := szT_trms (ms := pieces s) fun m hm => (pieces_mem hm).1
            omega
end Go.Proofs.YtaiondckookpiaaDoor
namespace Go.Proofs.YtaiondckookpiaaDoor
open Go Go.Vx
theorem parO_long {b : Int} {s : Str} (h : 33024 < s.length) : parO b s = (2, 0, []) := by unfold parO; rw [if_pos h]
theorem parO_arg {b : Int} {s : Str} (h : ¬ 33024 < s.length) (h2 : b < 1 ∨ 256 < b) : parO b s = (1, 0, []) := by unfold parO; rw [if_neg h, if_pos h2]
theorem parO_none {b : Int} {s : Str} (h : ¬ 33024 < s.length) (h2 : ¬ (b < 1 ∨ 256 < b)) (h3 : s = [110, 111, 110, 101]) : parO b s = (0, b, []) := by unfold parO; rw [if_neg h, if_neg h2, if_pos h3]
theorem parO_word {b : Int} {s : Str} (h : ¬ 33024 < s.length) (h2 : ¬ (b < 1 ∨ 256 < b)) (h3 : ¬ s = [110, 111, 110, 101]) (h4 : ¬ OkP b (pieces s)) : parO b s = (20, 0, []) := by
  unfold parO; rw [if_neg h, if_neg h2, if_neg h3, if_pos h4]
theorem parO_many {b : Int} {s : Str} (h : ¬ 33024 < s.length) (h2 : ¬ (b < 1 ∨ 256 < b)) (h3 : ¬ s = [110, 111, 110, 101]) (h4 : OkP b (pieces s)) (h5 : 128 < cntP (pieces s)) : parO b s = (3, 0, []) := by
  unfold parO; rw [if_neg h, if_neg h2, if_neg h3, if_neg (fun q => q h4), if_pos h5]
theorem parO_form {b : Int} {s : Str} (h : ¬ 33024 < s.length) (h2 : ¬ (b < 1 ∨ 256 < b)) (h3 : ¬ s = [110, 111, 110, 101]) (h4 : OkP b (pieces s)) (h5 : ¬ 128 < cntP (pieces s)) : parO b s = (0, b, formT (trms (pieces s))) := by
  unfold parO; rw [if_neg h, if_neg h2, if_neg h3, if_neg (fun q => q h4), if_neg h5]
theorem okP_take {b : Int} {ms : List (List Str)} {i : Nat} {m : List Str} (h : ms[i]? = some m) (h1 : OkP b (ms.take i)) (h2 : ∀ w ∈ m, OkW b w) : OkP b (ms.take (i + 1)) := by
  intro x hx
  rw [take_snoc h] at hx
  rcases List.mem_append.1 hx with hx | hx
  · exact h1 x hx
  · simp at hx; subst hx; exact h2
theorem pieces_get {s : Str} {i : Nat} {x : Str} (h : (cutL 43 s)[i]? = some x) : (pieces s)[i]? = some (cutL 45 x) := by unfold pieces; rw [List.getElem?_map, h]; rfl
theorem pieces_all {s : Str} : (pieces s).take (cutL 43 s).length = pieces s := List.take_of_length_le (by simp [pieces])
def DSp (n : Int) (ts : List Term) (d : D) : Prop := ∃ (ks : List TR) (rm : List (List D)), d = .agg [.i .i64 n, .lst 111 (ks.map drow) rm] ∧ ks.map TR.t = ts
def DOut (o : Int × Int × List Term) (d : D) (rows : Vx.Rows) : Prop := rows = [] ∧ ∃ a, d = .tup [a, .i .i64 o.1] ∧ DSp o.2.1 o.2.2 a
theorem DSp.nil (n : Int) : DSp n [] (.agg [.i .i64 n, .lst 111 [] []]) := ⟨[], [], rfl, rfl⟩
end Go.Proofs.YtaiondckookpiaaDoor
namespace Go.Proofs.YtaiondckookpiaaDoor
open Go Go.Vx Go.RowKit
theorem ours_nil (w : World) : Calls Tryd.prog 42 #[.nilIface] w fun e w' => e = .returned (.bool false) ∧ w' = w := by
  go_enter Tryd.func42, Tryd.ntmps42
  go_wp2
  go_ret
  exact ⟨rfl, rfl⟩
theorem as_passed (w : World) : (Instr.typeAssert (.iface 116 (.agg #[])) 20 116 true).run Tryd.prog w = .ok (.tuple #[.agg #[], .bool true]) w := by kernel_rfl
set_option maxRecDepth 100000 in
theorem ours_passed (w : World) : Calls Tryd.prog 42 #[.iface 116 (.agg #[])] w fun e w' => e = .returned (.bool true) ∧ Ext w w' := by
  go_enter Tryd.func42, Tryd.ntmps42
  go_wp2_with (rw [as_passed])
  go_ret
  exact ⟨rfl, Ext.alloc _ _⟩
theorem run_store2 {t : TypeId} {p : Addr} {w w' : World} {z : List Value} {x y : Operand} {a : Act} {dst : Option Nat} {type : TypeId} {pos : String} {after : Array Edge} (hsz : ∀ w, (sizeOf t).run Tryd.prog w = .ok z.length w) (hx : a.eval x = .pointer (some p)) (hy : (a.eval y).cells = z.toArray) (h : (storeCells p z).run Tryd.prog w = .ok () w') :
    (execOp a.eval ⟨dst, .store t x y, type, pos, after, none⟩).run Tryd.prog w = .ok .skip w' := by
  simp [execOp, Instr.storeAt, hx, hy, Instr.sureAddr, storeVar, hsz, h]
theorem run_build2 {e : Operand → Value} {dst : Option Nat} {type : TypeId} {pos : String} {after : Array Edge} {w : World} : (execOp e ⟨dst, .build 24 #[], type, pos, after, none⟩).run Tryd.prog w = .ok (.value (.agg #[.int .i64 0, .slice none 0 0])) w := by
  have h : (Instr.build 24 #[]).run Tryd.prog w = .ok (.agg #[.int .i64 0, .slice none 0 0]) w := by kernel_rfl
  simp [execOp, h]
theorem idle_parse (p q : Addr) (w : World) : CallsD Tryd.prog 41 #[.pointer (some p), .pointer (some q)] .returning w fun e u' w' => e = .returned (.tuple #[]) ∧ u' = .returning ∧ Ext w w' := by
  refine callsD_of_wpS Tryd.func41 rfl fun c₀ cs hu => ?_
  apply wpS_seq
  apply wpS_region
  simp [wpOpsS, go_sem, recoverD, hu, Tryd.ntmps41, Exit.thenS]
  refine (ours_nil w).mono ?_
  rintro e w' ⟨rfl, rfl⟩
  refine wpS_cond (t := false) (by simp [Act.eval, Act.put, Array.replicate]) ?_
  simp only [Bool.false_eq_true, if_false]
  refine wpS_of_wp (wp_skip ?_)
  cases c₀
  simp_all [bodyPostS, results, Tryd.results41]
  exact Ext.refl _
theorem caught_parse (p q : Addr) (w : World) {R : Ending → FrameMode → World → Prop} (h : ∀ w1, Ext w w1 → ∃ w2, (storeCells p [.int .i64 0, .slice none 0 0]).run Tryd.prog w1 = .ok () w2 ∧ ∃ w3, (storeCells q [.int .i64 3]).run Tryd.prog w2 = .ok () w3)
    (hR : ∀ w1 w2 w3, Ext w w1 → (storeCells p [.int .i64 0, .slice none 0 0]).run Tryd.prog w1 = .ok () w2 → (storeCells q [.int .i64 3]).run Tryd.prog w2 = .ok () w3 → R (.returned (.tuple #[])) (.panicking [{ v := .iface 116 (.agg #[]), recovered := true }]) w3) :
    CallsD Tryd.prog 41 #[.pointer (some p), .pointer (some q)] (.panicking [{ v := .iface 116 (.agg #[]), recovered := false }]) w R := by
  refine callsD_of_wpS Tryd.func41 rfl fun c₀ cs hu => ?_
  apply wpS_seq
  apply wpS_region
  simp [wpOpsS, go_sem, recoverD, hu, Tryd.ntmps41, Exit.thenS]
  refine (ours_passed w).mono ?_
  rintro e w1 ⟨rfl, hx⟩
  obtain ⟨w2, h1, w3, h2⟩ := h w1 hx
  have hr := hR w1 w2 w3 hx h1 h2
  refine wpS_cond (t := true) (by simp [Act.eval, Act.put, Array.replicate]) ?_
  simp only [if_true]
  refine wpS_of_wp ?_
  refine wp_region_lit ?_
  unfold wpList
  rw [if_pos (by simp [Region.wanted])]
  left
  unfold Oper.wp
  rw [run_build2]
  show wpList _ _ _ [_, _] (Act.put _ (some 4) _) w1
  unfold wpList
  rw [if_pos (by simp [Region.wanted])]
  left
  unfold Oper.wp
  rw [run_store2 (p := p) (z := [.int .i64 0, .slice none 0 0]) (fun w => by kernel_rfl) (by simp [Act.eval, Act.put, Array.replicate]) (by simp [Act.eval, Act.put, Array.replicate, Value.cells]) h1]
  show wpList _ _ _ [_] _ w2
  unfold wpList
  rw [if_pos (by simp [Region.wanted])]
  left
  unfold Oper.wp
  rw [run_store2 (p := q) (z := [.int .i64 3]) (fun w => by kernel_rfl) (by simp [Act.eval, Act.put, Array.replicate]) (by simp [Act.eval, Value.cells]) h2]
  show bodyPostS _ _ _ _ _ .normal _ _ w3
  cases c₀
  simp_all [bodyPostS, results, Tryd.results41]
  try exact rfl
theorem def_parse : DefSpec Tryd.prog 41 (.iface 116 (.agg #[])) [.int .i64 0, .slice none 0 0] [.int .i64 3] :=
  ⟨Tryd.call41, idle_parse, fun p q w h => caught_parse p q w h fun _ _ _ hx h1 h2 => ⟨rfl, rfl, _, _, hx, h1, h2⟩⟩
theorem idle_join (p q : Addr) (w : World) : CallsD Tryd.prog 52 #[.pointer (some p), .pointer (some q)] .returning w fun e u' w' => e = .returned (.tuple #[]) ∧ u' = .returning ∧ Ext w w' := by
  refine callsD_of_wpS Tryd.func52 rfl fun c₀ cs hu => ?_
  apply wpS_seq
  apply wpS_region
  simp [wpOpsS, go_sem, recoverD, hu, Tryd.ntmps52, Exit.thenS]
  refine (ours_nil w).mono ?_
  rintro e w' ⟨rfl, rfl⟩
  refine wpS_cond (t := false) (by simp [Act.eval, Act.put, Array.replicate]) ?_
  simp only [Bool.false_eq_true, if_false]
  refine wpS_of_wp (wp_skip ?_)
  cases c₀
  simp_all [bodyPostS, results, Tryd.results52]
  exact Ext.refl _
theorem caught_join (p q : Addr) (w : World) {R : Ending → FrameMode → World → Prop} (h : ∀ w1, Ext w w1 → ∃ w2, (storeCells p [.int .i64 0, .slice none 0 0]).run Tryd.prog w1 = .ok () w2 ∧ ∃ w3, (storeCells q [.int .i64 3]).run Tryd.prog w2 = .ok () w3)
    (hR : ∀ w1 w2 w3, Ext w w1 → (storeCells p [.int .i64 0, .slice none 0 0]).run Tryd.prog w1 = .ok () w2 → (storeCells q [.int .i64 3]).run Tryd.prog w2 = .ok () w3 → R (.returned (.tuple #[])) (.panicking [{ v := .iface 116 (.agg #[]), recovered := true }]) w3) :
    CallsD Tryd.prog 52 #[.pointer (some p), .pointer (some q)] (.panicking [{ v := .iface 116 (.agg #[]), recovered := false }]) w R := by
  refine callsD_of_wpS Tryd.func52 rfl fun c₀ cs hu => ?_
  apply wpS_seq
  apply wpS_region
  simp [wpOpsS, go_sem, recoverD, hu, Tryd.ntmps52, Exit.thenS]
  refine (ours_passed w).mono ?_
  rintro e w1 ⟨rfl, hx⟩
  obtain ⟨w2, h1, w3, h2⟩ := h w1 hx
  have hr := hR w1 w2 w3 hx h1 h2
  refine wpS_cond (t := true) (by simp [Act.eval, Act.put, Array.replicate]) ?_
  simp only [if_true]
  refine wpS_of_wp ?_
  refine wp_region_lit ?_
  unfold wpList
  rw [if_pos (by simp [Region.wanted])]
  left
  unfold Oper.wp
  rw [run_build2]
  show wpList _ _ _ [_, _] (Act.put _ (some 4) _) w1
  unfold wpList
  rw [if_pos (by simp [Region.wanted])]
  left
  unfold Oper.wp
  rw [run_store2 (p := p) (z := [.int .i64 0, .slice none 0 0]) (fun w => by kernel_rfl) (by simp [Act.eval, Act.put, Array.replicate]) (by simp [Act.eval, Act.put, Array.replicate, Value.cells]) h1]
  show wpList _ _ _ [_] _ w2
  unfold wpList
  rw [if_pos (by simp [Region.wanted])]
  left
  unfold Oper.wp
  rw [run_store2 (p := q) (z := [.int .i64 3]) (fun w => by kernel_rfl) (by simp [Act.eval, Act.put, Array.replicate]) (by simp [Act.eval, Value.cells]) h2]
  show bodyPostS _ _ _ _ _ .normal _ _ w3
  cases c₀
  simp_all [bodyPostS, results, Tryd.results52]
  try exact rfl
theorem def_join : DefSpec Tryd.prog 52 (.iface 116 (.agg #[])) [.int .i64 0, .slice none 0 0] [.int .i64 3] :=
  ⟨Tryd.call52, idle_join, fun p q w h => caught_join p q w h fun _ _ _ hx h1 h2 => ⟨rfl, rfl, _, _, hx, h1, h2⟩⟩
theorem idle_meet (p q : Addr) (w : World) : CallsD Tryd.prog 53 #[.pointer (some p), .pointer (some q)] .returning w fun e u' w' => e = .returned (.tuple #[]) ∧ u' = .returning ∧ Ext w w' := by
  refine callsD_of_wpS Tryd.func53 rfl fun c₀ cs hu => ?_
  apply wpS_seq
  apply wpS_region
  simp [wpOpsS, go_sem, recoverD, hu, Tryd.ntmps53, Exit.thenS]
  refine (ours_nil w).mono ?_
  rintro e w' ⟨rfl, rfl⟩
  refine wpS_cond (t := false) (by simp [Act.eval, Act.put, Array.replicate]) ?_
  simp only [Bool.false_eq_true, if_false]
  refine wpS_of_wp (wp_skip ?_)
  cases c₀
  simp_all [bodyPostS, results, Tryd.results53]
  exact Ext.refl _
theorem caught_meet (p q : Addr) (w : World) {R : Ending → FrameMode → World → Prop} (h : ∀ w1, Ext w w1 → ∃ w2, (storeCells p [.int .i64 0, .slice none 0 0]).run Tryd.prog w1 = .ok () w2 ∧ ∃ w3, (storeCells q [.int .i64 3]).run Tryd.prog w2 = .ok () w3)
    (hR : ∀ w1 w2 w3, Ext w w1 → (storeCells p [.int .i64 0, .slice none 0 0]).run Tryd.prog w1 = .ok () w2 → (storeCells q [.int .i64 3]).run Tryd.prog w2 = .ok () w3 → R (.returned (.tuple #[])) (.panicking [{ v := .iface 116 (.agg #[]), recovered := true }]) w3) :
    CallsD Tryd.prog 53 #[.pointer (some p), .pointer (some q)] (.panicking [{ v := .iface 116 (.agg #[]), recovered := false }]) w R := by
  refine callsD_of_wpS Tryd.func53 rfl fun c₀ cs hu => ?_
  apply wpS_seq
  apply wpS_region
  simp [wpOpsS, go_sem, recoverD, hu, Tryd.ntmps53, Exit.thenS]
  refine (ours_passed w).mono ?_
  rintro e w1 ⟨rfl, hx⟩
  obtain ⟨w2, h1, w3, h2⟩ := h w1 hx
  have hr := hR w1 w2 w3 hx h1 h2
  refine wpS_cond (t := true) (by simp [Act.eval, Act.put, Array.replicate]) ?_
  simp only [if_true]
  refine wpS_of_wp ?_
  refine wp_region_lit ?_
  unfold wpList
  rw [if_pos (by simp [Region.wanted])]
  left
  unfold Oper.wp
  rw [run_build2]
  show wpList _ _ _ [_, _] (Act.put _ (some 4) _) w1
  unfold wpList
  rw [if_pos (by simp [Region.wanted])]
  left
  unfold Oper.wp
  rw [run_store2 (p := p) (z := [.int .i64 0, .slice none 0 0]) (fun w => by kernel_rfl) (by simp [Act.eval, Act.put, Array.replicate]) (by simp [Act.eval, Act.put, Array.replicate, Value.cells]) h1]
  show wpList _ _ _ [_] _ w2
  unfold wpList
  rw [if_pos (by simp [Region.wanted])]
  left
  unfold Oper.wp
  rw [run_store2 (p := q) (z := [.int .i64 3]) (fun w => by kernel_rfl) (by simp [Act.eval, Act.put, Array.replicate]) (by simp [Act.eval, Value.cells]) h2]
  show bodyPostS _ _ _ _ _ .normal _ _ w3
  cases c₀
  simp_all [bodyPostS, results, Tryd.results53]
  try exact rfl
theorem def_meet : DefSpec Tryd.prog 53 (.iface 116 (.agg #[])) [.int .i64 0, .slice none 0 0] [.int .i64 3] :=
  ⟨Tryd.call53, idle_meet, fun p q w h => caught_meet p q w h fun _ _ _ hx h1 h2 => ⟨rfl, rfl, _, _, hx, h1, h2⟩⟩
end Go.Proofs.YtaiondckookpiaaDoor
namespace Go.Proofs.YtaiondckookpiaaDoor
open Go Go.Vx Go.Shelf
def PSp (n : Int) (ts : List Term) (d : D) : Prop := ∃ (ks : List TR) (rm : List (List D)), d = .agg [.i .i64 n, .lst 81 (ks.map trow) rm] ∧ ks.map TR.t = ts
def POut (o : Int × Int × List Term) (d : D) (rows : Vx.Rows) : Prop := rows = [] ∧ ∃ a, d = .tup [a, .i .i64 o.1] ∧ PSp o.2.1 o.2.2 a
theorem PSp.nil (n : Int) : PSp n [] (.agg [.i .i64 n, .lst 81 [] []]) := ⟨[], [], rfl, rfl⟩
theorem splitAt (t : Str) (c : UInt8) (h : t.length < 4294967281) : FSpec Tryd.prog T 43 [.s t, .s [c]] fun d rows => d = .own 0 (cutL c t).length ∧ rows = [some (9, (cutL c t).map srow)] :=
  split_at Tryd.vxSplit (by kernel_rfl) Tryd.call43 rfl t c h
theorem perr_of {t : Str} (h : okC t) : perr t = 0 := by unfold perr; rw [if_neg (by have := h.1.len; omega), if_pos h]
theorem perr_not {t : Str} (h : ¬ okC t) : perr t ≠ 0 := by
  unfold perr
  split
  · decide
  · decide
theorem lrows {lss : List LR} {ms : List (List Str)} {i : Nat} {m : List Str} (h : lss.map LR.l = ms) (hm : ms[i]? = some m) : ∃ rm, lss[i]? = some ⟨m, rm⟩ := by
  subst h
  rw [List.getElem?_map] at hm
  obtain ⟨x, hx, rfl⟩ := Option.map_eq_some_iff.1 hm
  exact ⟨x.room, hx⟩
end Go.Proofs.YtaiondckookpiaaDoor
