/- The walks and the plain laws that a law of spaces needs, part 6 of 6. -/
import Derived.Test.YtagmibogginaaaaGreatDoorPNE
import Derived.Test.YtagmibogginaaaaGreatDoorRows
import Derived.ProofKit
import Derived.OpenShut
import Derived.LaidMore
import Derived.Lay
import Derived.Lib.LaidTab
set_option linter.unusedVariables false
set_option linter.unusedSimpArgs false
namespace Go.Proofs.YtagmibogginaaaaGreatDoor
open Go Go.Vx Go.Shelf
set_option maxRecDepth 100000 in
set_option maxHeartbeats 32000000 in
theorem tell_at (e : List Nd) (r1 : List (List D)) (hl : e.length ≤ 64) (htx : TxtOk e) : FSpec Tryz.prog T 22 [.lst 56 (e.map nrow) r1] (fun d rows => tellP e d ∧ rows = []) := by
  have h1 : (e.map nrow).length = e.length := by simp
  refine FSpec.of_ok tok Tryz.func22 rfl Tryz.call22 (by simp) ?_
  (try (conv => whnf)); repeat' (first | refine Ok.seq ?_ | refine OkL.cons ?_ | ((first | refine Ok.region tok ?_ | refine Ok.region_tree (id := 17) tok follows [(4, 12, []), (10, 12, [11]), (4, 14, []), (10, 14, []), (12, 14, []), (13, 14, [])] (.q 0 (.q 1 (.q 2 (.q 3 (.q 4 (.q 5 (.q 6 (.q 7 (.q 8 (.q 9 (.q 10 (.q 11 (.alt 12 (.l 13 (.l 14 .nil)) (.alt 13 (.l 12 (.l 14 .nil)) .nil)))))))))))))) (by kernel_rfl) ?_ | refine Ok.region_tree (id := 24) tok follows [(4, 13, []), (10, 13, [12]), (4, 15, []), (10, 15, []), (13, 15, []), (14, 15, [])] (.q 0 (.q 1 (.q 2 (.q 3 (.q 4 (.q 5 (.q 6 (.q 7 (.q 8 (.q 9 (.q 10 (.q 11 (.q 12 (.alt 13 (.l 14 (.l 15 .nil)) (.alt 14 (.l 13 (.l 15 .nil)) .nil))))))))))))))) (by kernel_rfl) ?_ | refine Ok.region_tree (id := 25) tok follows [(4, 13, []), (10, 13, [12]), (4, 15, []), (10, 15, []), (13, 15, []), (14, 15, [])] (.q 0 (.q 1 (.q 2 (.q 3 (.q 4 (.q 5 (.q 6 (.q 7 (.q 8 (.q 9 (.q 10 (.q 11 (.q 12 (.alt 13 (.l 14 (.l 15 .nil)) (.alt 14 (.l 13 (.l 15 .nil)) .nil))))))))))))))) (by kernel_rfl) ?_ | refine Ok.region_plan (id := 29) tok follows [(12, 15, []), (14, 15, []), (4, 18, []), (8, 18, []), (12, 18, []), (14, 18, []), (15, 18, [])] [.q 0, .q 1, .q 2, .q 3, .q 4, .q 5, .q 6, .q 7, .q 8, .q 9, .q 10, .q 11, .q 12, .q 13, .q 14, .l 15, .q 16, .q 17, .l 18] (by kernel_rfl) ?_ | refine Ok.region_draw tok follows (by kernel_rfl) ?_ | refine Ok.cond ?_); conv => whnf) | refine Ok.block ?_ | ((first | refine Ok.skip ?_ | refine Ok.exit ?_ | refine Ok.ret ?_ | refine nI ?_ | refine ix _ (by assumption) ?_ | refine ixI (by omega) (by assumption) ?_ | refine ix_new _ (by omega) fun _ _ => ?_ | refine ixI_new (by omega) (by omega) fun _ _ => ?_ | refine ⟨_, by assumption, ?_⟩ | refine Alt2.l (aI ?_) | refine Alt2.r (aI ?_)); conv => whnf) | (refine Ok.scope ?_) | ((first | refine Ok.label ?_ | refine rd rfl (by assumption) ?_ | refine ⟨_, .inl ⟨rfl, rfl⟩, ?_⟩ | refine ⟨_, _, rfl, rfl, ?_⟩); conv => whnf) | (refine ⟨fun _ => ?_, fun _ => ?_⟩ <;> (conv => whnf) <;> (try (exfalso; omega))) | ((first | refine aJ ?_ | refine num_any ?_ | refine ⟨_, rfl, ?_⟩); conv => whnf) | (exact True.intro) | (refine And.intro ?_ ?_ <;> (conv => whnf)) | fail)
  refine Ok.ghost 4 64 rfl ?_
  (conv => whnf)
  refine Ok.loopU [0, 2] [4, 5] 1 1 (fun (x : Nat × Nat × List PT × List PT) => [.own 0 x.2.1, .i .i64 (x.1 : Nat)]) (fun _ b => b) (fun (x : Nat × Nat × List PT × List PT) (_ : Vx.Rows) => [some (64, (x.2.2.1.reverse ++ x.2.2.2).map prow)]) (fun (x : Nat × Nat × List PT × List PT) => x.1 ≤ e.length ∧ x.2.2.1.length = x.2.1 ∧ x.2.1 + x.2.2.2.length ≤ x.1 ∧ buildR e [] = buildR (e.drop x.1) (x.2.2.1.map Prod.fst) ∧ Fit x.2.2.1 ∧ szs (x.2.2.1.map Prod.fst) ≤ x.1) (fun (x : Nat × Nat × List PT × List PT) => e.length - x.1) ((0, 0, [], [])) (⟨Nat.zero_le _, rfl, Nat.le_refl _, rfl, fit_nil, Nat.le_refl _⟩) ?_; (conv => whnf); refine ⟨by ((conv => whnf); first | rfl | (simp [envCat, List.take_of_length_le, nrow, frow, tcells, qrow, prow]; done) | (simp [envCat, List.take_of_length_le, nrow, frow, tcells, qrow, prow]; rw [IntKind.wrap_i64]; omega)), ?_⟩
  rintro ⟨i, n, ps, j⟩ ⟨hi, hn, hj, hb, hfit, hsz⟩
  dsimp only at hi hn hj hb hfit hsz ⊢
  have hlm : ((ps.reverse ++ j).map prow).length = n + j.length := by simp [hn]
  (conv => whnf)
  by_cases hil : i < e.length
  · obtain ⟨c, hc⟩ : ∃ c, e[i]? = some c := ⟨_, List.getElem?_eq_getElem hil⟩
    have hcI : e[((i : Nat) : Int).toNat]? = some c := hc
    have htc := htx c (List.mem_of_getElem? hc)
    obtain ⟨lt, hlt, hlf⟩ := leaf_ex c htc.1 htc.2
    rw [edrop_at hc] at hb
    by_cases hz : c.kind ≠ 3 ∧ ¬ zT c.t
    · have hbn := bld_none hb (bad_z hz.1 hz.2)
      have hz1 := hz.1
      have hz2 := hz.2
      (try (conv => whnf)); repeat' (first | (refine ⟨_, eqTest, by kernel_rfl, ?_⟩; (conv => whnf)) | (refine ⟨fun _ => ?_, fun h => absurd (Classical.not_not.1 h) hz2⟩; (conv => whnf)) | refine Ok.seq ?_ | refine OkL.cons ?_ | ((first | refine Ok.region tok ?_ | refine Ok.region_tree (id := 17) tok follows [(4, 12, []), (10, 12, [11]), (4, 14, []), (10, 14, []), (12, 14, []), (13, 14, [])] (.q 0 (.q 1 (.q 2 (.q 3 (.q 4 (.q 5 (.q 6 (.q 7 (.q 8 (.q 9 (.q 10 (.q 11 (.alt 12 (.l 13 (.l 14 .nil)) (.alt 13 (.l 12 (.l 14 .nil)) .nil)))))))))))))) (by kernel_rfl) ?_ | refine Ok.region_tree (id := 24) tok follows [(4, 13, []), (10, 13, [12]), (4, 15, []), (10, 15, []), (13, 15, []), (14, 15, [])] (.q 0 (.q 1 (.q 2 (.q 3 (.q 4 (.q 5 (.q 6 (.q 7 (.q 8 (.q 9 (.q 10 (.q 11 (.q 12 (.alt 13 (.l 14 (.l 15 .nil)) (.alt 14 (.l 13 (.l 15 .nil)) .nil))))))))))))))) (by kernel_rfl) ?_ | refine Ok.region_tree (id := 25) tok follows [(4, 13, []), (10, 13, [12]), (4, 15, []), (10, 15, []), (13, 15, []), (14, 15, [])] (.q 0 (.q 1 (.q 2 (.q 3 (.q 4 (.q 5 (.q 6 (.q 7 (.q 8 (.q 9 (.q 10 (.q 11 (.q 12 (.alt 13 (.l 14 (.l 15 .nil)) (.alt 14 (.l 13 (.l 15 .nil)) .nil))))))))))))))) (by kernel_rfl) ?_ | refine Ok.region_plan (id := 29) tok follows [(12, 15, []), (14, 15, []), (4, 18, []), (8, 18, []), (12, 18, []), (14, 18, []), (15, 18, [])] [.q 0, .q 1, .q 2, .q 3, .q 4, .q 5, .q 6, .q 7, .q 8, .q 9, .q 10, .q 11, .q 12, .q 13, .q 14, .l 15, .q 16, .q 17, .l 18] (by kernel_rfl) ?_ | refine Ok.region_draw tok follows (by kernel_rfl) ?_ | refine Ok.cond ?_); conv => whnf) | refine Ok.block ?_ | ((first | refine Ok.skip ?_ | refine Ok.exit ?_ | refine Ok.ret ?_ | refine nI ?_ | refine ix _ (by assumption) ?_ | refine ixI (by omega) (by assumption) ?_ | refine ix_new _ (by omega) fun _ _ => ?_ | refine ixI_new (by omega) (by omega) fun _ _ => ?_ | refine ⟨_, by assumption, ?_⟩ | refine Alt2.l (aI ?_) | refine Alt2.r (aI ?_)); conv => whnf) | (refine Ok.scope ?_) | ((first | refine Ok.label ?_ | refine rd rfl (by assumption) ?_ | refine ⟨_, .inl ⟨rfl, rfl⟩, ?_⟩ | refine ⟨_, _, rfl, rfl, ?_⟩); conv => whnf) | (refine ⟨fun _ => ?_, fun _ => ?_⟩ <;> (conv => whnf) <;> (try (exfalso; omega))) | ((first | refine aJ ?_ | refine num_any ?_ | refine ⟨_, rfl, ?_⟩); conv => whnf) | (exact True.intro) | (refine And.intro ?_ ?_ <;> (conv => whnf)) | fail)
      all_goals first
        | (exfalso; omega)
        | (refine Or.inl ?_; (conv => whnf)
           exact ⟨tell_none hbn, rfl⟩)
        | trace_state
    · have hst := stepT_ok (rs := ps.map Prod.fst) hz
      have hz3 : c.kind = 3 ∨ zT c.t := by
        by_cases h : c.kind = 3
        · exact .inl h
        · exact .inr (Classical.byContradiction fun h2 => hz ⟨h, h2⟩)
      by_cases hk3 : c.kind = 3
      · have hb2 := bld_step hb (hst.trans (sh3 hk3))
        have hft : Fit ((Tr.test c.t, lt) :: ps) := fun q hq => by
          rcases List.mem_cons.1 hq with rfl | hq
          · simp only [Tr.sz, LB]; omega
          · exact hfit q hq
        have hsz2 : szs (((Tr.test c.t, lt) :: ps : List PT).map Prod.fst) ≤ i + 1 := by simp only [szs, List.map_cons, List.sum_cons, Tr.sz] at hsz ⊢; omega
        cases j with
        | nil =>
          simp only [List.length_nil, Nat.add_zero] at hj hlm
          (try (conv => whnf)); repeat' (first | refine Ok.seq ?_ | refine OkL.cons ?_ | ((first | refine Ok.region tok ?_ | refine Ok.region_tree (id := 17) tok follows [(4, 12, []), (10, 12, [11]), (4, 14, []), (10, 14, []), (12, 14, []), (13, 14, [])] (.q 0 (.q 1 (.q 2 (.q 3 (.q 4 (.q 5 (.q 6 (.q 7 (.q 8 (.q 9 (.q 10 (.q 11 (.alt 12 (.l 13 (.l 14 .nil)) (.alt 13 (.l 12 (.l 14 .nil)) .nil)))))))))))))) (by kernel_rfl) ?_ | refine Ok.region_tree (id := 24) tok follows [(4, 13, []), (10, 13, [12]), (4, 15, []), (10, 15, []), (13, 15, []), (14, 15, [])] (.q 0 (.q 1 (.q 2 (.q 3 (.q 4 (.q 5 (.q 6 (.q 7 (.q 8 (.q 9 (.q 10 (.q 11 (.q 12 (.alt 13 (.l 14 (.l 15 .nil)) (.alt 14 (.l 13 (.l 15 .nil)) .nil))))))))))))))) (by kernel_rfl) ?_ | refine Ok.region_tree (id := 25) tok follows [(4, 13, []), (10, 13, [12]), (4, 15, []), (10, 15, []), (13, 15, []), (14, 15, [])] (.q 0 (.q 1 (.q 2 (.q 3 (.q 4 (.q 5 (.q 6 (.q 7 (.q 8 (.q 9 (.q 10 (.q 11 (.q 12 (.alt 13 (.l 14 (.l 15 .nil)) (.alt 14 (.l 13 (.l 15 .nil)) .nil))))))))))))))) (by kernel_rfl) ?_ | refine Ok.region_plan (id := 29) tok follows [(12, 15, []), (14, 15, []), (4, 18, []), (8, 18, []), (12, 18, []), (14, 18, []), (15, 18, [])] [.q 0, .q 1, .q 2, .q 3, .q 4, .q 5, .q 6, .q 7, .q 8, .q 9, .q 10, .q 11, .q 12, .q 13, .q 14, .l 15, .q 16, .q 17, .l 18] (by kernel_rfl) ?_ | refine Ok.region_draw tok follows (by kernel_rfl) ?_ | refine Ok.cond ?_); conv => whnf) | refine Ok.block ?_ | ((first | refine Ok.skip ?_ | refine Ok.exit ?_ | refine Ok.ret ?_ | refine nI ?_ | refine ix _ (by assumption) ?_ | refine ixI (by omega) (by assumption) ?_ | refine ix_new _ (by omega) fun _ _ => ?_ | refine ixI_new (by omega) (by omega) fun _ _ => ?_ | refine ⟨_, by assumption, ?_⟩); conv => whnf) | (refine Or.inl ?_; (conv => whnf); (repeat (refine aI ?_; conv => whnf)); refine ⟨_, hlf, rfl, ?_⟩; conv => whnf) | (refine ⟨_, hlf, rfl, ?_⟩; conv => whnf) | (refine Or.inr (Or.inl ?_); (conv => whnf); (repeat (refine aI ?_; conv => whnf)); refine ⟨_, hlf, ?_⟩; rintro _ _ ⟨rfl, rfl⟩; conv => whnf) | ((first | refine Alt2.l (aI ?_) | refine Alt2.r (aI ?_)); conv => whnf) | (refine Ok.scope ?_) | ((first | refine Ok.label ?_ | refine rd rfl (by assumption) ?_ | refine ⟨_, .inl ⟨rfl, rfl⟩, ?_⟩ | refine ⟨_, _, rfl, rfl, ?_⟩); conv => whnf) | (refine ⟨fun _ => ?_, fun _ => ?_⟩ <;> (conv => whnf) <;> (try (exfalso; omega))) | ((first | refine aJ ?_ | refine num_any ?_ | refine ⟨_, rfl, ?_⟩); conv => whnf) | (exact True.intro) | (refine And.intro ?_ ?_ <;> (conv => whnf)) | fail)
          all_goals first
            | (exfalso; omega)
            | skip
          all_goals
            refine ⟨(i + 1, n + 1, (Tr.test c.t, lt) :: ps, []), by dsimp only; omega, ⟨by dsimp only; omega, by simp [hn], by simp; omega, hb2, hft, hsz2⟩, ?_⟩
            rw [← ppush_nil]
            (conv => whnf)
            simp [envCat, hn]
            try exact ⟨rfl, rfl⟩
            try rfl
        | cons y j =>
          simp only [List.length_cons] at hj hlm
          (try (conv => whnf)); repeat' (first | refine Ok.seq ?_ | refine OkL.cons ?_ | ((first | refine Ok.region tok ?_ | refine Ok.region_tree (id := 17) tok follows [(4, 12, []), (10, 12, [11]), (4, 14, []), (10, 14, []), (12, 14, []), (13, 14, [])] (.q 0 (.q 1 (.q 2 (.q 3 (.q 4 (.q 5 (.q 6 (.q 7 (.q 8 (.q 9 (.q 10 (.q 11 (.alt 12 (.l 13 (.l 14 .nil)) (.alt 13 (.l 12 (.l 14 .nil)) .nil)))))))))))))) (by kernel_rfl) ?_ | refine Ok.region_tree (id := 24) tok follows [(4, 13, []), (10, 13, [12]), (4, 15, []), (10, 15, []), (13, 15, []), (14, 15, [])] (.q 0 (.q 1 (.q 2 (.q 3 (.q 4 (.q 5 (.q 6 (.q 7 (.q 8 (.q 9 (.q 10 (.q 11 (.q 12 (.alt 13 (.l 14 (.l 15 .nil)) (.alt 14 (.l 13 (.l 15 .nil)) .nil))))))))))))))) (by kernel_rfl) ?_ | refine Ok.region_tree (id := 25) tok follows [(4, 13, []), (10, 13, [12]), (4, 15, []), (10, 15, []), (13, 15, []), (14, 15, [])] (.q 0 (.q 1 (.q 2 (.q 3 (.q 4 (.q 5 (.q 6 (.q 7 (.q 8 (.q 9 (.q 10 (.q 11 (.q 12 (.alt 13 (.l 14 (.l 15 .nil)) (.alt 14 (.l 13 (.l 15 .nil)) .nil))))))))))))))) (by kernel_rfl) ?_ | refine Ok.region_plan (id := 29) tok follows [(12, 15, []), (14, 15, []), (4, 18, []), (8, 18, []), (12, 18, []), (14, 18, []), (15, 18, [])] [.q 0, .q 1, .q 2, .q 3, .q 4, .q 5, .q 6, .q 7, .q 8, .q 9, .q 10, .q 11, .q 12, .q 13, .q 14, .l 15, .q 16, .q 17, .l 18] (by kernel_rfl) ?_ | refine Ok.region_draw tok follows (by kernel_rfl) ?_ | refine Ok.cond ?_); conv => whnf) | refine Ok.block ?_ | ((first | refine Ok.skip ?_ | refine Ok.exit ?_ | refine Ok.ret ?_ | refine nI ?_ | refine ix _ (by assumption) ?_ | refine ixI (by omega) (by assumption) ?_ | refine ix_new _ (by omega) fun _ _ => ?_ | refine ixI_new (by omega) (by omega) fun _ _ => ?_ | refine ⟨_, by assumption, ?_⟩); conv => whnf) | (refine Or.inl ?_; (conv => whnf); (repeat (refine aI ?_; conv => whnf)); refine ⟨_, hlf, rfl, ?_⟩; conv => whnf) | (refine ⟨_, hlf, rfl, ?_⟩; conv => whnf) | (refine Or.inr (Or.inl ?_); (conv => whnf); (repeat (refine aI ?_; conv => whnf)); refine ⟨_, hlf, ?_⟩; rintro _ _ ⟨rfl, rfl⟩; conv => whnf) | ((first | refine Alt2.l (aI ?_) | refine Alt2.r (aI ?_)); conv => whnf) | (refine Ok.scope ?_) | ((first | refine Ok.label ?_ | refine rd rfl (by assumption) ?_ | refine ⟨_, .inl ⟨rfl, rfl⟩, ?_⟩ | refine ⟨_, _, rfl, rfl, ?_⟩); conv => whnf) | (refine ⟨fun _ => ?_, fun _ => ?_⟩ <;> (conv => whnf) <;> (try (exfalso; omega))) | ((first | refine aJ ?_ | refine num_any ?_ | refine ⟨_, rfl, ?_⟩); conv => whnf) | (exact True.intro) | (refine And.intro ?_ ?_ <;> (conv => whnf)) | fail)
          all_goals first
            | (exfalso; omega)
            | skip
          all_goals
            refine ⟨(i + 1, n + 1, (Tr.test c.t, lt) :: ps, j), by dsimp only; omega, ⟨by dsimp only; omega, by simp [hn], by simp; omega, hb2, hft, hsz2⟩, ?_⟩
            rw [← ppush_cons ps _ y j, hn]
            (conv => whnf)
            simp [envCat, hn]
            try exact ⟨rfl, rfl⟩
            try rfl
      have hz4 : zT c.t := hz3.resolve_left hk3
      by_cases hk1 : c.kind = 1 ∨ c.kind = 2
      · have hb2 := bld_step hb (hst.trans (sh12 hk1))
        have hft : Fit ((Tr.leaf (c.kind = 1), lt) :: ps) := fun q hq => by
          rcases List.mem_cons.1 hq with rfl | hq
          · simp only [Tr.sz, LB]; omega
          · exact hfit q hq
        have hsz2 : szs (((Tr.leaf (c.kind = 1), lt) :: ps : List PT).map Prod.fst) ≤ i + 1 := by simp only [szs, List.map_cons, List.sum_cons, Tr.sz] at hsz ⊢; omega
        cases j with
        | nil =>
          simp only [List.length_nil, Nat.add_zero] at hj hlm
          (try (conv => whnf)); repeat' (first | (refine ⟨_, eqTest, by kernel_rfl, ?_⟩; (conv => whnf)) | (refine ⟨fun h => absurd hz4 h, fun _ => ?_⟩; (conv => whnf)) | refine Ok.seq ?_ | refine OkL.cons ?_ | ((first | refine Ok.region tok ?_ | refine Ok.region_tree (id := 17) tok follows [(4, 12, []), (10, 12, [11]), (4, 14, []), (10, 14, []), (12, 14, []), (13, 14, [])] (.q 0 (.q 1 (.q 2 (.q 3 (.q 4 (.q 5 (.q 6 (.q 7 (.q 8 (.q 9 (.q 10 (.q 11 (.alt 12 (.l 13 (.l 14 .nil)) (.alt 13 (.l 12 (.l 14 .nil)) .nil)))))))))))))) (by kernel_rfl) ?_ | refine Ok.region_tree (id := 24) tok follows [(4, 13, []), (10, 13, [12]), (4, 15, []), (10, 15, []), (13, 15, []), (14, 15, [])] (.q 0 (.q 1 (.q 2 (.q 3 (.q 4 (.q 5 (.q 6 (.q 7 (.q 8 (.q 9 (.q 10 (.q 11 (.q 12 (.alt 13 (.l 14 (.l 15 .nil)) (.alt 14 (.l 13 (.l 15 .nil)) .nil))))))))))))))) (by kernel_rfl) ?_ | refine Ok.region_tree (id := 25) tok follows [(4, 13, []), (10, 13, [12]), (4, 15, []), (10, 15, []), (13, 15, []), (14, 15, [])] (.q 0 (.q 1 (.q 2 (.q 3 (.q 4 (.q 5 (.q 6 (.q 7 (.q 8 (.q 9 (.q 10 (.q 11 (.q 12 (.alt 13 (.l 14 (.l 15 .nil)) (.alt 14 (.l 13 (.l 15 .nil)) .nil))))))))))))))) (by kernel_rfl) ?_ | refine Ok.region_plan (id := 29) tok follows [(12, 15, []), (14, 15, []), (4, 18, []), (8, 18, []), (12, 18, []), (14, 18, []), (15, 18, [])] [.q 0, .q 1, .q 2, .q 3, .q 4, .q 5, .q 6, .q 7, .q 8, .q 9, .q 10, .q 11, .q 12, .q 13, .q 14, .l 15, .q 16, .q 17, .l 18] (by kernel_rfl) ?_ | refine Ok.region_draw tok follows (by kernel_rfl) ?_ | refine Ok.cond ?_); conv => whnf) | refine Ok.block ?_ | ((first | refine Ok.skip ?_ | refine Ok.exit ?_ | refine Ok.ret ?_ | refine nI ?_ | refine ix _ (by assumption) ?_ | refine ixI (by omega) (by assumption) ?_ | refine ix_new _ (by omega) fun _ _ => ?_ | refine ixI_new (by omega) (by omega) fun _ _ => ?_ | refine ⟨_, by assumption, ?_⟩); conv => whnf) | (refine Or.inl ?_; (conv => whnf); (repeat (refine aI ?_; conv => whnf)); refine ⟨_, hlf, rfl, ?_⟩; conv => whnf) | (refine ⟨_, hlf, rfl, ?_⟩; conv => whnf) | (refine Or.inr (Or.inl ?_); (conv => whnf); (repeat (refine aI ?_; conv => whnf)); refine ⟨_, hlf, ?_⟩; rintro _ _ ⟨rfl, rfl⟩; conv => whnf) | ((first | refine Alt2.l (aI ?_) | refine Alt2.r (aI ?_)); conv => whnf) | (refine Ok.scope ?_) | ((first | refine Ok.label ?_ | refine rd rfl (by assumption) ?_ | refine ⟨_, .inl ⟨rfl, rfl⟩, ?_⟩ | refine ⟨_, _, rfl, rfl, ?_⟩); conv => whnf) | (refine ⟨fun _ => ?_, fun _ => ?_⟩ <;> (conv => whnf) <;> (try (exfalso; omega))) | ((first | refine aJ ?_ | refine num_any ?_ | refine ⟨_, rfl, ?_⟩); conv => whnf) | (exact True.intro) | (refine And.intro ?_ ?_ <;> (conv => whnf)) | fail)
          all_goals first
            | (exfalso; omega)
            | skip
          all_goals
            refine ⟨(i + 1, n + 1, (Tr.leaf (c.kind = 1), lt) :: ps, []), by dsimp only; omega, ⟨by dsimp only; omega, by simp [hn], by simp; omega, hb2, hft, hsz2⟩, ?_⟩
            rw [← ppush_nil]
            (conv => whnf)
            simp [envCat, hn]
            try exact ⟨rfl, rfl⟩
            try rfl
        | cons y j =>
          simp only [List.length_cons] at hj hlm
          (try (conv => whnf)); repeat' (first | (refine ⟨_, eqTest, by kernel_rfl, ?_⟩; (conv => whnf)) | (refine ⟨fun h => absurd hz4 h, fun _ => ?_⟩; (conv => whnf)) | refine Ok.seq ?_ | refine OkL.cons ?_ | ((first | refine Ok.region tok ?_ | refine Ok.region_tree (id := 17) tok follows [(4, 12, []), (10, 12, [11]), (4, 14, []), (10, 14, []), (12, 14, []), (13, 14, [])] (.q 0 (.q 1 (.q 2 (.q 3 (.q 4 (.q 5 (.q 6 (.q 7 (.q 8 (.q 9 (.q 10 (.q 11 (.alt 12 (.l 13 (.l 14 .nil)) (.alt 13 (.l 12 (.l 14 .nil)) .nil)))))))))))))) (by kernel_rfl) ?_ | refine Ok.region_tree (id := 24) tok follows [(4, 13, []), (10, 13, [12]), (4, 15, []), (10, 15, []), (13, 15, []), (14, 15, [])] (.q 0 (.q 1 (.q 2 (.q 3 (.q 4 (.q 5 (.q 6 (.q 7 (.q 8 (.q 9 (.q 10 (.q 11 (.q 12 (.alt 13 (.l 14 (.l 15 .nil)) (.alt 14 (.l 13 (.l 15 .nil)) .nil))))))))))))))) (by kernel_rfl) ?_ | refine Ok.region_tree (id := 25) tok follows [(4, 13, []), (10, 13, [12]), (4, 15, []), (10, 15, []), (13, 15, []), (14, 15, [])] (.q 0 (.q 1 (.q 2 (.q 3 (.q 4 (.q 5 (.q 6 (.q 7 (.q 8 (.q 9 (.q 10 (.q 11 (.q 12 (.alt 13 (.l 14 (.l 15 .nil)) (.alt 14 (.l 13 (.l 15 .nil)) .nil))))))))))))))) (by kernel_rfl) ?_ | refine Ok.region_plan (id := 29) tok follows [(12, 15, []), (14, 15, []), (4, 18, []), (8, 18, []), (12, 18, []), (14, 18, []), (15, 18, [])] [.q 0, .q 1, .q 2, .q 3, .q 4, .q 5, .q 6, .q 7, .q 8, .q 9, .q 10, .q 11, .q 12, .q 13, .q 14, .l 15, .q 16, .q 17, .l 18] (by kernel_rfl) ?_ | refine Ok.region_draw tok follows (by kernel_rfl) ?_ | refine Ok.cond ?_); conv => whnf) | refine Ok.block ?_ | ((first | refine Ok.skip ?_ | refine Ok.exit ?_ | refine Ok.ret ?_ | refine nI ?_ | refine ix _ (by assumption) ?_ | refine ixI (by omega) (by assumption) ?_ | refine ix_new _ (by omega) fun _ _ => ?_ | refine ixI_new (by omega) (by omega) fun _ _ => ?_ | refine ⟨_, by assumption, ?_⟩); conv => whnf) | (refine Or.inl ?_; (conv => whnf); (repeat (refine aI ?_; conv => whnf)); refine ⟨_, hlf, rfl, ?_⟩; conv => whnf) | (refine ⟨_, hlf, rfl, ?_⟩; conv => whnf) | (refine Or.inr (Or.inl ?_); (conv => whnf); (repeat (refine aI ?_; conv => whnf)); refine ⟨_, hlf, ?_⟩; rintro _ _ ⟨rfl, rfl⟩; conv => whnf) | ((first | refine Alt2.l (aI ?_) | refine Alt2.r (aI ?_)); conv => whnf) | (refine Ok.scope ?_) | ((first | refine Ok.label ?_ | refine rd rfl (by assumption) ?_ | refine ⟨_, .inl ⟨rfl, rfl⟩, ?_⟩ | refine ⟨_, _, rfl, rfl, ?_⟩); conv => whnf) | (refine ⟨fun _ => ?_, fun _ => ?_⟩ <;> (conv => whnf) <;> (try (exfalso; omega))) | ((first | refine aJ ?_ | refine num_any ?_ | refine ⟨_, rfl, ?_⟩); conv => whnf) | (exact True.intro) | (refine And.intro ?_ ?_ <;> (conv => whnf)) | fail)
          all_goals first
            | (exfalso; omega)
            | skip
          all_goals
            refine ⟨(i + 1, n + 1, (Tr.leaf (c.kind = 1), lt) :: ps, j), by dsimp only; omega, ⟨by dsimp only; omega, by simp [hn], by simp; omega, hb2, hft, hsz2⟩, ?_⟩
            rw [← ppush_cons ps _ y j, hn]
            (conv => whnf)
            simp [envCat, hn]
            try exact ⟨rfl, rfl⟩
            try rfl
      by_cases hk4 : c.kind = 4
      · match ps, hn with
        | [], hn =>
          simp only [List.length_nil] at hn
          subst hn
          have hbn := bld_none hb (hst.trans (sh4 hk4))
          (try (conv => whnf)); repeat' (first | (refine ⟨_, eqTest, by kernel_rfl, ?_⟩; (conv => whnf)) | (refine ⟨fun h => absurd hz4 h, fun _ => ?_⟩; (conv => whnf)) | refine Ok.seq ?_ | refine OkL.cons ?_ | ((first | refine Ok.region tok ?_ | refine Ok.region_tree (id := 17) tok follows [(4, 12, []), (10, 12, [11]), (4, 14, []), (10, 14, []), (12, 14, []), (13, 14, [])] (.q 0 (.q 1 (.q 2 (.q 3 (.q 4 (.q 5 (.q 6 (.q 7 (.q 8 (.q 9 (.q 10 (.q 11 (.alt 12 (.l 13 (.l 14 .nil)) (.alt 13 (.l 12 (.l 14 .nil)) .nil)))))))))))))) (by kernel_rfl) ?_ | refine Ok.region_tree (id := 24) tok follows [(4, 13, []), (10, 13, [12]), (4, 15, []), (10, 15, []), (13, 15, []), (14, 15, [])] (.q 0 (.q 1 (.q 2 (.q 3 (.q 4 (.q 5 (.q 6 (.q 7 (.q 8 (.q 9 (.q 10 (.q 11 (.q 12 (.alt 13 (.l 14 (.l 15 .nil)) (.alt 14 (.l 13 (.l 15 .nil)) .nil))))))))))))))) (by kernel_rfl) ?_ | refine Ok.region_tree (id := 25) tok follows [(4, 13, []), (10, 13, [12]), (4, 15, []), (10, 15, []), (13, 15, []), (14, 15, [])] (.q 0 (.q 1 (.q 2 (.q 3 (.q 4 (.q 5 (.q 6 (.q 7 (.q 8 (.q 9 (.q 10 (.q 11 (.q 12 (.alt 13 (.l 14 (.l 15 .nil)) (.alt 14 (.l 13 (.l 15 .nil)) .nil))))))))))))))) (by kernel_rfl) ?_ | refine Ok.region_plan (id := 29) tok follows [(12, 15, []), (14, 15, []), (4, 18, []), (8, 18, []), (12, 18, []), (14, 18, []), (15, 18, [])] [.q 0, .q 1, .q 2, .q 3, .q 4, .q 5, .q 6, .q 7, .q 8, .q 9, .q 10, .q 11, .q 12, .q 13, .q 14, .l 15, .q 16, .q 17, .l 18] (by kernel_rfl) ?_ | refine Ok.region_draw tok follows (by kernel_rfl) ?_ | refine Ok.cond ?_); conv => whnf) | refine Ok.block ?_ | ((first | refine Ok.skip ?_ | refine Ok.exit ?_ | refine Ok.ret ?_ | refine nI ?_ | refine ix _ (by assumption) ?_ | refine ixI (by omega) (by assumption) ?_ | refine ix_new _ (by omega) fun _ _ => ?_ | refine ixI_new (by omega) (by omega) fun _ _ => ?_ | refine ⟨_, by assumption, ?_⟩ | refine Alt2.l (aI ?_) | refine Alt2.r (aI ?_)); conv => whnf) | (refine Ok.scope ?_) | ((first | refine Ok.label ?_ | refine rd rfl (by assumption) ?_ | refine ⟨_, .inl ⟨rfl, rfl⟩, ?_⟩ | refine ⟨_, _, rfl, rfl, ?_⟩); conv => whnf) | (refine ⟨fun _ => ?_, fun _ => ?_⟩ <;> (conv => whnf) <;> (try (exfalso; omega))) | ((first | refine aJ ?_ | refine num_any ?_ | refine ⟨_, rfl, ?_⟩); conv => whnf) | (exact True.intro) | (refine And.intro ?_ ?_ <;> (conv => whnf)) | fail)
          all_goals first
            | (exfalso; omega)
            | (refine Or.inl ?_; (conv => whnf)
               exact ⟨tell_none hbn, rfl⟩)
            | trace_state
        | (x, s) :: r, hn =>
          simp only [List.length_cons] at hn
          obtain ⟨m, rfl⟩ : ∃ m, n = m + 1 := ⟨n - 1, by omega⟩
          have hm : r.length = m := by omega
          have hb2 := bld_step hb (hst.trans (sh4 hk4))
          have hmI : (((m + 1 : Nat) : Int) - 1).toNat = m := by omega
          have hg1 : (((x, s) :: r).reverse ++ j)[(((m + 1 : Nat) : Int) - 1).toNat]? = some (x, s) := by rw [hmI, ← hm]; exact ppile_top (x, s) r j
          have hlx := hfit (x, s) (by simp)
          simp only [szs, List.map_cons, List.sum_cons] at hsz
          simp only [LB] at hlx
          have hnx := nest_le x
          have hix := inS_len x.isJ s
          have hil2 : ([33] ++ inS x.isJ s : Str).length = (inS x.isJ s).length + 1 := by simp
          have hin := in_at s (byT x) x.nest x.isJ (((byT x : Nat) : Int) < 3) (by_lt3 x) (by omega) (by omega)
          have hcl := cnt_le x.isJ
          (try (conv => whnf)); repeat' (first | (refine ⟨_, eqTest, by kernel_rfl, ?_⟩; (conv => whnf)) | (refine ⟨fun h => absurd hz4 h, fun _ => ?_⟩; (conv => whnf)) | (refine rd rfl hg1 ?_; (conv => whnf)) | (refine st (Tr.neg x, [33] ++ inS x.isJ s) hg1 (by simp) rfl ?_; (conv => whnf)) | refine Ok.seq ?_ | refine OkL.cons ?_ | ((first | refine Ok.region tok ?_ | refine Ok.region_tree (id := 17) tok follows [(4, 12, []), (10, 12, [11]), (4, 14, []), (10, 14, []), (12, 14, []), (13, 14, [])] (.q 0 (.q 1 (.q 2 (.q 3 (.q 4 (.q 5 (.q 6 (.q 7 (.q 8 (.q 9 (.q 10 (.q 11 (.alt 12 (.l 13 (.l 14 .nil)) (.alt 13 (.l 12 (.l 14 .nil)) .nil)))))))))))))) (by kernel_rfl) ?_ | refine Ok.region_tree (id := 24) tok follows [(4, 13, []), (10, 13, [12]), (4, 15, []), (10, 15, []), (13, 15, []), (14, 15, [])] (.q 0 (.q 1 (.q 2 (.q 3 (.q 4 (.q 5 (.q 6 (.q 7 (.q 8 (.q 9 (.q 10 (.q 11 (.q 12 (.alt 13 (.l 14 (.l 15 .nil)) (.alt 14 (.l 13 (.l 15 .nil)) .nil))))))))))))))) (by kernel_rfl) ?_ | refine Ok.region_tree (id := 25) tok follows [(4, 13, []), (10, 13, [12]), (4, 15, []), (10, 15, []), (13, 15, []), (14, 15, [])] (.q 0 (.q 1 (.q 2 (.q 3 (.q 4 (.q 5 (.q 6 (.q 7 (.q 8 (.q 9 (.q 10 (.q 11 (.q 12 (.alt 13 (.l 14 (.l 15 .nil)) (.alt 14 (.l 13 (.l 15 .nil)) .nil))))))))))))))) (by kernel_rfl) ?_ | refine Ok.region_plan (id := 29) tok follows [(12, 15, []), (14, 15, []), (4, 18, []), (8, 18, []), (12, 18, []), (14, 18, []), (15, 18, [])] [.q 0, .q 1, .q 2, .q 3, .q 4, .q 5, .q 6, .q 7, .q 8, .q 9, .q 10, .q 11, .q 12, .q 13, .q 14, .l 15, .q 16, .q 17, .l 18] (by kernel_rfl) ?_ | refine Ok.region_draw tok follows (by kernel_rfl) ?_ | refine Ok.cond ?_); conv => whnf) | refine Ok.block ?_ | ((first | refine Ok.skip ?_ | refine Ok.exit ?_ | refine Ok.ret ?_ | refine nI ?_ | refine ix _ (by assumption) ?_ | refine ixI (by omega) (by assumption) ?_ | refine ix_new _ (by omega) fun _ _ => ?_ | refine ixI_new (by omega) (by omega) fun _ _ => ?_ | refine ⟨_, by assumption, ?_⟩); conv => whnf) | (refine Or.inl ?_; (conv => whnf); (repeat (refine aI ?_; conv => whnf)); refine ⟨_, hin, rfl, ?_⟩; conv => whnf) | (refine ⟨_, hin, rfl, ?_⟩; conv => whnf) | (refine Or.inr (Or.inl ?_); (conv => whnf); (repeat (refine aI ?_; conv => whnf)); refine ⟨_, hin, ?_⟩; rintro _ _ ⟨rfl, rfl⟩; conv => whnf) | ((first | refine Alt2.l (aI ?_) | refine Alt2.r (aI ?_)); conv => whnf) | (refine Ok.scope ?_) | ((first | refine Ok.label ?_ | refine rd rfl (by assumption) ?_ | refine ⟨_, .inl ⟨rfl, rfl⟩, ?_⟩ | refine ⟨_, _, rfl, rfl, ?_⟩); conv => whnf) | (refine ⟨fun _ => ?_, fun _ => ?_⟩ <;> (conv => whnf) <;> (try (exfalso; omega))) | ((first | refine aJ ?_ | refine num_any ?_ | refine ⟨_, rfl, ?_⟩); conv => whnf) | (exact True.intro) | (refine And.intro ?_ ?_ <;> (conv => whnf)) | fail)
          all_goals first
            | (exfalso; omega)
            | skip
          all_goals
            refine ⟨(i + 1, m + 1, (Tr.neg x, [33] ++ inS x.isJ s) :: r, j), by dsimp only; omega, ⟨by dsimp only; omega, by simp [hm], by dsimp only; omega, hb2, ?_, ?_⟩, ?_⟩
            · intro q hq
              rcases List.mem_cons.1 hq with rfl | hq
              · simp only [Tr.sz, LB]; omega
              · exact hfit q (by simp [hq])
            · simp only [szs, List.map_cons, List.sum_cons, Tr.sz]; omega
            · rw [hmI, ← hm, pset_top]
              (conv => whnf)
              rfl
      by_cases hk5 : c.kind = 5
      · match ps, hn with
        | [], hn =>
          simp only [List.length_nil] at hn
          subst hn
          have hbn := bld_none hb (hst.trans (sh5 hk5))
          (try (conv => whnf)); repeat' (first | (refine ⟨_, eqTest, by kernel_rfl, ?_⟩; (conv => whnf)) | (refine ⟨fun h => absurd hz4 h, fun _ => ?_⟩; (conv => whnf)) | refine Ok.seq ?_ | refine OkL.cons ?_ | ((first | refine Ok.region tok ?_ | refine Ok.region_tree (id := 17) tok follows [(4, 12, []), (10, 12, [11]), (4, 14, []), (10, 14, []), (12, 14, []), (13, 14, [])] (.q 0 (.q 1 (.q 2 (.q 3 (.q 4 (.q 5 (.q 6 (.q 7 (.q 8 (.q 9 (.q 10 (.q 11 (.alt 12 (.l 13 (.l 14 .nil)) (.alt 13 (.l 12 (.l 14 .nil)) .nil)))))))))))))) (by kernel_rfl) ?_ | refine Ok.region_tree (id := 24) tok follows [(4, 13, []), (10, 13, [12]), (4, 15, []), (10, 15, []), (13, 15, []), (14, 15, [])] (.q 0 (.q 1 (.q 2 (.q 3 (.q 4 (.q 5 (.q 6 (.q 7 (.q 8 (.q 9 (.q 10 (.q 11 (.q 12 (.alt 13 (.l 14 (.l 15 .nil)) (.alt 14 (.l 13 (.l 15 .nil)) .nil))))))))))))))) (by kernel_rfl) ?_ | refine Ok.region_tree (id := 25) tok follows [(4, 13, []), (10, 13, [12]), (4, 15, []), (10, 15, []), (13, 15, []), (14, 15, [])] (.q 0 (.q 1 (.q 2 (.q 3 (.q 4 (.q 5 (.q 6 (.q 7 (.q 8 (.q 9 (.q 10 (.q 11 (.q 12 (.alt 13 (.l 14 (.l 15 .nil)) (.alt 14 (.l 13 (.l 15 .nil)) .nil))))))))))))))) (by kernel_rfl) ?_ | refine Ok.region_plan (id := 29) tok follows [(12, 15, []), (14, 15, []), (4, 18, []), (8, 18, []), (12, 18, []), (14, 18, []), (15, 18, [])] [.q 0, .q 1, .q 2, .q 3, .q 4, .q 5, .q 6, .q 7, .q 8, .q 9, .q 10, .q 11, .q 12, .q 13, .q 14, .l 15, .q 16, .q 17, .l 18] (by kernel_rfl) ?_ | refine Ok.region_draw tok follows (by kernel_rfl) ?_ | refine Ok.cond ?_); conv => whnf) | refine Ok.block ?_ | ((first | refine Ok.skip ?_ | refine Ok.exit ?_ | refine Ok.ret ?_ | refine nI ?_ | refine ix _ (by assumption) ?_ | refine ixI (by omega) (by assumption) ?_ | refine ix_new _ (by omega) fun _ _ => ?_ | refine ixI_new (by omega) (by omega) fun _ _ => ?_ | refine ⟨_, by assumption, ?_⟩ | refine Alt2.l (aI ?_) | refine Alt2.r (aI ?_)); conv => whnf) | (refine Ok.scope ?_) | ((first | refine Ok.label ?_ | refine rd rfl (by assumption) ?_ | refine ⟨_, .inl ⟨rfl, rfl⟩, ?_⟩ | refine ⟨_, _, rfl, rfl, ?_⟩); conv => whnf) | (refine ⟨fun _ => ?_, fun _ => ?_⟩ <;> (conv => whnf) <;> (try (exfalso; omega))) | ((first | refine aJ ?_ | refine num_any ?_ | refine ⟨_, rfl, ?_⟩); conv => whnf) | (exact True.intro) | (refine And.intro ?_ ?_ <;> (conv => whnf)) | fail)
          all_goals first
            | (exfalso; omega)
            | (refine Or.inl ?_; (conv => whnf)
               exact ⟨tell_none hbn, rfl⟩)
            | trace_state
        | [y], hn =>
          simp only [List.length_cons, List.length_nil] at hn
          subst hn
          have hbn := bld_none hb (hst.trans (sh5 hk5))
          (try (conv => whnf)); repeat' (first | (refine ⟨_, eqTest, by kernel_rfl, ?_⟩; (conv => whnf)) | (refine ⟨fun h => absurd hz4 h, fun _ => ?_⟩; (conv => whnf)) | refine Ok.seq ?_ | refine OkL.cons ?_ | ((first | refine Ok.region tok ?_ | refine Ok.region_tree (id := 17) tok follows [(4, 12, []), (10, 12, [11]), (4, 14, []), (10, 14, []), (12, 14, []), (13, 14, [])] (.q 0 (.q 1 (.q 2 (.q 3 (.q 4 (.q 5 (.q 6 (.q 7 (.q 8 (.q 9 (.q 10 (.q 11 (.alt 12 (.l 13 (.l 14 .nil)) (.alt 13 (.l 12 (.l 14 .nil)) .nil)))))))))))))) (by kernel_rfl) ?_ | refine Ok.region_tree (id := 24) tok follows [(4, 13, []), (10, 13, [12]), (4, 15, []), (10, 15, []), (13, 15, []), (14, 15, [])] (.q 0 (.q 1 (.q 2 (.q 3 (.q 4 (.q 5 (.q 6 (.q 7 (.q 8 (.q 9 (.q 10 (.q 11 (.q 12 (.alt 13 (.l 14 (.l 15 .nil)) (.alt 14 (.l 13 (.l 15 .nil)) .nil))))))))))))))) (by kernel_rfl) ?_ | refine Ok.region_tree (id := 25) tok follows [(4, 13, []), (10, 13, [12]), (4, 15, []), (10, 15, []), (13, 15, []), (14, 15, [])] (.q 0 (.q 1 (.q 2 (.q 3 (.q 4 (.q 5 (.q 6 (.q 7 (.q 8 (.q 9 (.q 10 (.q 11 (.q 12 (.alt 13 (.l 14 (.l 15 .nil)) (.alt 14 (.l 13 (.l 15 .nil)) .nil))))))))))))))) (by kernel_rfl) ?_ | refine Ok.region_plan (id := 29) tok follows [(12, 15, []), (14, 15, []), (4, 18, []), (8, 18, []), (12, 18, []), (14, 18, []), (15, 18, [])] [.q 0, .q 1, .q 2, .q 3, .q 4, .q 5, .q 6, .q 7, .q 8, .q 9, .q 10, .q 11, .q 12, .q 13, .q 14, .l 15, .q 16, .q 17, .l 18] (by kernel_rfl) ?_ | refine Ok.region_draw tok follows (by kernel_rfl) ?_ | refine Ok.cond ?_); conv => whnf) | refine Ok.block ?_ | ((first | refine Ok.skip ?_ | refine Ok.exit ?_ | refine Ok.ret ?_ | refine nI ?_ | refine ix _ (by assumption) ?_ | refine ixI (by omega) (by assumption) ?_ | refine ix_new _ (by omega) fun _ _ => ?_ | refine ixI_new (by omega) (by omega) fun _ _ => ?_ | refine ⟨_, by assumption, ?_⟩ | refine Alt2.l (aI ?_) | refine Alt2.r (aI ?_)); conv => whnf) | (refine Ok.scope ?_) | ((first | refine Ok.label ?_ | refine rd rfl (by assumption) ?_ | refine ⟨_, .inl ⟨rfl, rfl⟩, ?_⟩ | refine ⟨_, _, rfl, rfl, ?_⟩); conv => whnf) | (refine ⟨fun _ => ?_, fun _ => ?_⟩ <;> (conv => whnf) <;> (try (exfalso; omega))) | ((first | refine aJ ?_ | refine num_any ?_ | refine ⟨_, rfl, ?_⟩); conv => whnf) | (exact True.intro) | (refine And.intro ?_ ?_ <;> (conv => whnf)) | fail)
          all_goals first
            | (exfalso; omega)
            | (refine Or.inl ?_; (conv => whnf)
               exact ⟨tell_none hbn, rfl⟩)
            | trace_state
        | (y, t) :: (x, s) :: r, hn =>
          simp only [List.length_cons] at hn
          obtain ⟨m, rfl⟩ : ∃ m, n = m + 2 := ⟨n - 2, by omega⟩
          have hm : r.length = m := by omega
          have hb2 := bld_step hb (hst.trans (sh5 hk5))
          have hmI : (((m + 2 : Nat) : Int) - 1).toNat = m + 1 := by omega
          have hmJ : (((m + 2 : Nat) : Int) - 2).toNat = m := by omega
          have hg1 : (((y, t) :: (x, s) :: r).reverse ++ j)[(((m + 2 : Nat) : Int) - 1).toNat]? = some (y, t) := by rw [hmI, ← hm]; exact ppile_top (y, t) ((x, s) :: r) j
          have hg2 : (((y, t) :: (x, s) :: r).reverse ++ j)[(((m + 2 : Nat) : Int) - 2).toNat]? = some (x, s) := by rw [hmJ, ← hm]; exact ppile_top2 (x, s) (y, t) r j
          have hlx := hfit (x, s) (by simp)
          have hly := hfit (y, t) (by simp)
          simp only [szs, List.map_cons, List.sum_cons] at hsz
          simp only [LB] at hlx hly
          have hnx := nest_le x
          have hny := nest_le y
          have hix := inS_len x.isO s
          have hiy := inS_len y.isJ t
          have hcx := cnt_le x.isO
          have hcy := cnt_le y.isJ
          have hi1 : (inS x.isO s ++ [32, 38, 32] : Str).length = (inS x.isO s).length + 3 := by simp
          have hi2 : (inS x.isO s ++ [32, 38, 32] ++ inS y.isJ t : Str).length = (inS x.isO s).length + 3 + (inS y.isJ t).length := by rw [List.length_append, hi1]
          have hin1 := in_at s (byT x) x.nest x.isO (((byT x : Nat) : Int) < 2) (by_lt2 x) (by omega) (by omega)
          have hin2 := in_at t (byT y) y.nest y.isJ (((byT y : Nat) : Int) ≤ 2) (by_le2 y) (by omega) (by omega)
          have hgr := greater_at (x.nest + cnt x.isO) (y.nest + cnt y.isJ) _ _ rfl rfl
          have hy1 : IntKind.i64.wrap (6 - c.kind) = 1 := by rw [hk5]; decide
          have hy2 : IntKind.i64.wrap (1 + 1) = 2 := by decide
          (try (conv => whnf)); repeat' (first | (refine ⟨_, eqTest, by kernel_rfl, ?_⟩; (conv => whnf)) | (refine ⟨fun h => absurd hz4 h, fun _ => ?_⟩; (conv => whnf)) | (refine rd rfl hg1 ?_; (conv => whnf)) | (refine rd rfl hg2 ?_; (conv => whnf)) | (refine st (Tr.and x y, inS x.isO s ++ [32, 38, 32] ++ inS y.isJ t) hg2 (by simp) rfl ?_; (conv => whnf)) | (refine ⟨m + 1, rfl, (by show ((m + 2 : Nat) : Int) - 1 = ((m + 1 : Nat) : Int); omega), (by first | omega | (simp; omega)), ?_⟩; (conv => whnf)) | refine Ok.seq ?_ | refine OkL.cons ?_ | ((first | refine Ok.region tok ?_ | refine Ok.region_tree (id := 17) tok follows [(4, 12, []), (10, 12, [11]), (4, 14, []), (10, 14, []), (12, 14, []), (13, 14, [])] (.q 0 (.q 1 (.q 2 (.q 3 (.q 4 (.q 5 (.q 6 (.q 7 (.q 8 (.q 9 (.q 10 (.q 11 (.alt 12 (.l 13 (.l 14 .nil)) (.alt 13 (.l 12 (.l 14 .nil)) .nil)))))))))))))) (by kernel_rfl) ?_ | refine Ok.region_tree (id := 24) tok follows [(4, 13, []), (10, 13, [12]), (4, 15, []), (10, 15, []), (13, 15, []), (14, 15, [])] (.q 0 (.q 1 (.q 2 (.q 3 (.q 4 (.q 5 (.q 6 (.q 7 (.q 8 (.q 9 (.q 10 (.q 11 (.q 12 (.alt 13 (.l 14 (.l 15 .nil)) (.alt 14 (.l 13 (.l 15 .nil)) .nil))))))))))))))) (by kernel_rfl) ?_ | refine Ok.region_tree (id := 25) tok follows [(4, 13, []), (10, 13, [12]), (4, 15, []), (10, 15, []), (13, 15, []), (14, 15, [])] (.q 0 (.q 1 (.q 2 (.q 3 (.q 4 (.q 5 (.q 6 (.q 7 (.q 8 (.q 9 (.q 10 (.q 11 (.q 12 (.alt 13 (.l 14 (.l 15 .nil)) (.alt 14 (.l 13 (.l 15 .nil)) .nil))))))))))))))) (by kernel_rfl) ?_ | refine Ok.region_plan (id := 29) tok follows [(12, 15, []), (14, 15, []), (4, 18, []), (8, 18, []), (12, 18, []), (14, 18, []), (15, 18, [])] [.q 0, .q 1, .q 2, .q 3, .q 4, .q 5, .q 6, .q 7, .q 8, .q 9, .q 10, .q 11, .q 12, .q 13, .q 14, .l 15, .q 16, .q 17, .l 18] (by kernel_rfl) ?_ | refine ⟨_, (hy1).symm, ?_⟩ | refine ⟨_, (hy2).symm, ?_⟩ | refine Ok.region_draw tok follows (by kernel_rfl) ?_ | refine Ok.cond ?_); conv => whnf) | refine Ok.block ?_ | ((first | refine Ok.skip ?_ | refine Ok.exit ?_ | refine Ok.ret ?_ | refine nI ?_ | refine ix _ (by assumption) ?_ | refine ixI (by omega) (by assumption) ?_ | refine ix_new _ (by omega) fun _ _ => ?_ | refine ixI_new (by omega) (by omega) fun _ _ => ?_ | refine ⟨_, by assumption, ?_⟩); conv => whnf) | (refine Or.inl ?_; (conv => whnf); (repeat (refine aI ?_; conv => whnf)); refine ⟨_, hin1, rfl, ?_⟩; conv => whnf) | (refine Or.inl ?_; (conv => whnf); (repeat (refine aI ?_; conv => whnf)); refine ⟨_, hin2, rfl, ?_⟩; conv => whnf) | (refine Or.inl ?_; (conv => whnf); (repeat (refine aI ?_; conv => whnf)); refine ⟨_, hgr, rfl, ?_⟩; conv => whnf) | ((first | refine ⟨_, hin1, rfl, ?_⟩ | refine ⟨_, hin2, rfl, ?_⟩ | refine ⟨_, hgr, rfl, ?_⟩); conv => whnf) | (refine Or.inr (Or.inl ?_); (conv => whnf); (repeat (refine aI ?_; conv => whnf)); refine ⟨_, hin1, ?_⟩; rintro _ _ ⟨rfl, rfl⟩; conv => whnf) | (refine Or.inr (Or.inl ?_); (conv => whnf); (repeat (refine aI ?_; conv => whnf)); refine ⟨_, hin2, ?_⟩; rintro _ _ ⟨rfl, rfl⟩; conv => whnf) | (refine Or.inr (Or.inl ?_); (conv => whnf); (repeat (refine aI ?_; conv => whnf)); refine ⟨_, hgr, ?_⟩; rintro _ _ ⟨rfl, rfl⟩; conv => whnf) | ((first | refine Alt2.l (aI ?_) | refine Alt2.r (aI ?_)); conv => whnf) | (refine Ok.scope ?_) | ((first | refine Ok.label ?_ | refine rd rfl (by assumption) ?_ | refine ⟨_, .inl ⟨rfl, rfl⟩, ?_⟩ | refine ⟨_, _, rfl, rfl, ?_⟩); conv => whnf) | (refine ⟨fun _ => ?_, fun _ => ?_⟩ <;> (conv => whnf) <;> (try (exfalso; omega))) | ((first | refine aJ ?_ | refine num_any ?_ | refine ⟨_, rfl, ?_⟩); conv => whnf) | (exact True.intro) | (refine And.intro ?_ ?_ <;> (conv => whnf)) | fail)
          all_goals first
            | (exfalso; omega)
            | skip
          all_goals
            refine ⟨(i + 1, m + 1, (Tr.and x y, inS x.isO s ++ [32, 38, 32] ++ inS y.isJ t) :: r, (y, t) :: j), by dsimp only; omega, ⟨by dsimp only; omega, by simp [hm], by simp; omega, hb2, ?_, ?_⟩, ?_⟩
            · intro q hq
              rcases List.mem_cons.1 hq with rfl | hq
              · simp only [Tr.sz, LB]; omega
              · exact hfit q (by simp [hq])
            · simp only [szs, List.map_cons, List.sum_cons, Tr.sz]; omega
            · rw [hmJ, ← hm, pset_top2]
              (conv => whnf)
              rfl
      by_cases hk6 : c.kind = 6
      · match ps, hn with
        | [], hn =>
          simp only [List.length_nil] at hn
          subst hn
          have hbn := bld_none hb (hst.trans (sh6 hk6))
          (try (conv => whnf)); repeat' (first | (refine ⟨_, eqTest, by kernel_rfl, ?_⟩; (conv => whnf)) | (refine ⟨fun h => absurd hz4 h, fun _ => ?_⟩; (conv => whnf)) | refine Ok.seq ?_ | refine OkL.cons ?_ | ((first | refine Ok.region tok ?_ | refine Ok.region_tree (id := 17) tok follows [(4, 12, []), (10, 12, [11]), (4, 14, []), (10, 14, []), (12, 14, []), (13, 14, [])] (.q 0 (.q 1 (.q 2 (.q 3 (.q 4 (.q 5 (.q 6 (.q 7 (.q 8 (.q 9 (.q 10 (.q 11 (.alt 12 (.l 13 (.l 14 .nil)) (.alt 13 (.l 12 (.l 14 .nil)) .nil)))))))))))))) (by kernel_rfl) ?_ | refine Ok.region_tree (id := 24) tok follows [(4, 13, []), (10, 13, [12]), (4, 15, []), (10, 15, []), (13, 15, []), (14, 15, [])] (.q 0 (.q 1 (.q 2 (.q 3 (.q 4 (.q 5 (.q 6 (.q 7 (.q 8 (.q 9 (.q 10 (.q 11 (.q 12 (.alt 13 (.l 14 (.l 15 .nil)) (.alt 14 (.l 13 (.l 15 .nil)) .nil))))))))))))))) (by kernel_rfl) ?_ | refine Ok.region_tree (id := 25) tok follows [(4, 13, []), (10, 13, [12]), (4, 15, []), (10, 15, []), (13, 15, []), (14, 15, [])] (.q 0 (.q 1 (.q 2 (.q 3 (.q 4 (.q 5 (.q 6 (.q 7 (.q 8 (.q 9 (.q 10 (.q 11 (.q 12 (.alt 13 (.l 14 (.l 15 .nil)) (.alt 14 (.l 13 (.l 15 .nil)) .nil))))))))))))))) (by kernel_rfl) ?_ | refine Ok.region_plan (id := 29) tok follows [(12, 15, []), (14, 15, []), (4, 18, []), (8, 18, []), (12, 18, []), (14, 18, []), (15, 18, [])] [.q 0, .q 1, .q 2, .q 3, .q 4, .q 5, .q 6, .q 7, .q 8, .q 9, .q 10, .q 11, .q 12, .q 13, .q 14, .l 15, .q 16, .q 17, .l 18] (by kernel_rfl) ?_ | refine Ok.region_draw tok follows (by kernel_rfl) ?_ | refine Ok.cond ?_); conv => whnf) | refine Ok.block ?_ | ((first | refine Ok.skip ?_ | refine Ok.exit ?_ | refine Ok.ret ?_ | refine nI ?_ | refine ix _ (by assumption) ?_ | refine ixI (by omega) (by assumption) ?_ | refine ix_new _ (by omega) fun _ _ => ?_ | refine ixI_new (by omega) (by omega) fun _ _ => ?_ | refine ⟨_, by assumption, ?_⟩ | refine Alt2.l (aI ?_) | refine Alt2.r (aI ?_)); conv => whnf) | (refine Ok.scope ?_) | ((first | refine Ok.label ?_ | refine rd rfl (by assumption) ?_ | refine ⟨_, .inl ⟨rfl, rfl⟩, ?_⟩ | refine ⟨_, _, rfl, rfl, ?_⟩); conv => whnf) | (refine ⟨fun _ => ?_, fun _ => ?_⟩ <;> (conv => whnf) <;> (try (exfalso; omega))) | ((first | refine aJ ?_ | refine num_any ?_ | refine ⟨_, rfl, ?_⟩); conv => whnf) | (exact True.intro) | (refine And.intro ?_ ?_ <;> (conv => whnf)) | fail)
          all_goals first
            | (exfalso; omega)
            | (refine Or.inl ?_; (conv => whnf)
               exact ⟨tell_none hbn, rfl⟩)
            | trace_state
        | [y], hn =>
          simp only [List.length_cons, List.length_nil] at hn
          subst hn
          have hbn := bld_none hb (hst.trans (sh6 hk6))
          (try (conv => whnf)); repeat' (first | (refine ⟨_, eqTest, by kernel_rfl, ?_⟩; (conv => whnf)) | (refine ⟨fun h => absurd hz4 h, fun _ => ?_⟩; (conv => whnf)) | refine Ok.seq ?_ | refine OkL.cons ?_ | ((first | refine Ok.region tok ?_ | refine Ok.region_tree (id := 17) tok follows [(4, 12, []), (10, 12, [11]), (4, 14, []), (10, 14, []), (12, 14, []), (13, 14, [])] (.q 0 (.q 1 (.q 2 (.q 3 (.q 4 (.q 5 (.q 6 (.q 7 (.q 8 (.q 9 (.q 10 (.q 11 (.alt 12 (.l 13 (.l 14 .nil)) (.alt 13 (.l 12 (.l 14 .nil)) .nil)))))))))))))) (by kernel_rfl) ?_ | refine Ok.region_tree (id := 24) tok follows [(4, 13, []), (10, 13, [12]), (4, 15, []), (10, 15, []), (13, 15, []), (14, 15, [])] (.q 0 (.q 1 (.q 2 (.q 3 (.q 4 (.q 5 (.q 6 (.q 7 (.q 8 (.q 9 (.q 10 (.q 11 (.q 12 (.alt 13 (.l 14 (.l 15 .nil)) (.alt 14 (.l 13 (.l 15 .nil)) .nil))))))))))))))) (by kernel_rfl) ?_ | refine Ok.region_tree (id := 25) tok follows [(4, 13, []), (10, 13, [12]), (4, 15, []), (10, 15, []), (13, 15, []), (14, 15, [])] (.q 0 (.q 1 (.q 2 (.q 3 (.q 4 (.q 5 (.q 6 (.q 7 (.q 8 (.q 9 (.q 10 (.q 11 (.q 12 (.alt 13 (.l 14 (.l 15 .nil)) (.alt 14 (.l 13 (.l 15 .nil)) .nil))))))))))))))) (by kernel_rfl) ?_ | refine Ok.region_plan (id := 29) tok follows [(12, 15, []), (14, 15, []), (4, 18, []), (8, 18, []), (12, 18, []), (14, 18, []), (15, 18, [])] [.q 0, .q 1, .q 2, .q 3, .q 4, .q 5, .q 6, .q 7, .q 8, .q 9, .q 10, .q 11, .q 12, .q 13, .q 14, .l 15, .q 16, .q 17, .l 18] (by kernel_rfl) ?_ | refine Ok.region_draw tok follows (by kernel_rfl) ?_ | refine Ok.cond ?_); conv => whnf) | refine Ok.block ?_ | ((first | refine Ok.skip ?_ | refine Ok.exit ?_ | refine Ok.ret ?_ | refine nI ?_ | refine ix _ (by assumption) ?_ | refine ixI (by omega) (by assumption) ?_ | refine ix_new _ (by omega) fun _ _ => ?_ | refine ixI_new (by omega) (by omega) fun _ _ => ?_ | refine ⟨_, by assumption, ?_⟩ | refine Alt2.l (aI ?_) | refine Alt2.r (aI ?_)); conv => whnf) | (refine Ok.scope ?_) | ((first | refine Ok.label ?_ | refine rd rfl (by assumption) ?_ | refine ⟨_, .inl ⟨rfl, rfl⟩, ?_⟩ | refine ⟨_, _, rfl, rfl, ?_⟩); conv => whnf) | (refine ⟨fun _ => ?_, fun _ => ?_⟩ <;> (conv => whnf) <;> (try (exfalso; omega))) | ((first | refine aJ ?_ | refine num_any ?_ | refine ⟨_, rfl, ?_⟩); conv => whnf) | (exact True.intro) | (refine And.intro ?_ ?_ <;> (conv => whnf)) | fail)
          all_goals first
            | (exfalso; omega)
            | (refine Or.inl ?_; (conv => whnf)
               exact ⟨tell_none hbn, rfl⟩)
            | trace_state
        | (y, t) :: (x, s) :: r, hn =>
          simp only [List.length_cons] at hn
          obtain ⟨m, rfl⟩ : ∃ m, n = m + 2 := ⟨n - 2, by omega⟩
          have hm : r.length = m := by omega
          have hb2 := bld_step hb (hst.trans (sh6 hk6))
          have hmI : (((m + 2 : Nat) : Int) - 1).toNat = m + 1 := by omega
          have hmJ : (((m + 2 : Nat) : Int) - 2).toNat = m := by omega
          have hg1 : (((y, t) :: (x, s) :: r).reverse ++ j)[(((m + 2 : Nat) : Int) - 1).toNat]? = some (y, t) := by rw [hmI, ← hm]; exact ppile_top (y, t) ((x, s) :: r) j
          have hg2 : (((y, t) :: (x, s) :: r).reverse ++ j)[(((m + 2 : Nat) : Int) - 2).toNat]? = some (x, s) := by rw [hmJ, ← hm]; exact ppile_top2 (x, s) (y, t) r j
          have hlx := hfit (x, s) (by simp)
          have hly := hfit (y, t) (by simp)
          simp only [szs, List.map_cons, List.sum_cons] at hsz
          simp only [LB] at hlx hly
          have hnx := nest_le x
          have hny := nest_le y
          have hix := inS_len false s
          have hiy := inS_len y.isO t
          have hcx := cnt_le false
          have hcy := cnt_le y.isO
          have hi1 : (inS false s ++ [32, 124, 32] : Str).length = (inS false s).length + 3 := by simp
          have hi2 : (inS false s ++ [32, 124, 32] ++ inS y.isO t : Str).length = (inS false s).length + 3 + (inS y.isO t).length := by rw [List.length_append, hi1]
          have hin1 := in_at s (byT x) x.nest false (((byT x : Nat) : Int) < 1) (by_lt1 x) (by omega) (by omega)
          have hin2 := in_at t (byT y) y.nest y.isO (((byT y : Nat) : Int) ≤ 1) (by_le1 y) (by omega) (by omega)
          have hgr := greater_at (x.nest + cnt false) (y.nest + cnt y.isO) _ _ rfl rfl
          have hy1 : IntKind.i64.wrap (6 - c.kind) = 0 := by rw [hk6]; decide
          have hy2 : IntKind.i64.wrap (1 + 0) = 1 := by decide
          (try (conv => whnf)); repeat' (first | (refine ⟨_, eqTest, by kernel_rfl, ?_⟩; (conv => whnf)) | (refine ⟨fun h => absurd hz4 h, fun _ => ?_⟩; (conv => whnf)) | (refine rd rfl hg1 ?_; (conv => whnf)) | (refine rd rfl hg2 ?_; (conv => whnf)) | (refine st (Tr.or x y, inS false s ++ [32, 124, 32] ++ inS y.isO t) hg2 (by simp) rfl ?_; (conv => whnf)) | (refine ⟨m + 1, rfl, (by show ((m + 2 : Nat) : Int) - 1 = ((m + 1 : Nat) : Int); omega), (by first | omega | (simp; omega)), ?_⟩; (conv => whnf)) | refine Ok.seq ?_ | refine OkL.cons ?_ | ((first | refine Ok.region tok ?_ | refine Ok.region_tree (id := 17) tok follows [(4, 12, []), (10, 12, [11]), (4, 14, []), (10, 14, []), (12, 14, []), (13, 14, [])] (.q 0 (.q 1 (.q 2 (.q 3 (.q 4 (.q 5 (.q 6 (.q 7 (.q 8 (.q 9 (.q 10 (.q 11 (.alt 12 (.l 13 (.l 14 .nil)) (.alt 13 (.l 12 (.l 14 .nil)) .nil)))))))))))))) (by kernel_rfl) ?_ | refine Ok.region_tree (id := 24) tok follows [(4, 13, []), (10, 13, [12]), (4, 15, []), (10, 15, []), (13, 15, []), (14, 15, [])] (.q 0 (.q 1 (.q 2 (.q 3 (.q 4 (.q 5 (.q 6 (.q 7 (.q 8 (.q 9 (.q 10 (.q 11 (.q 12 (.alt 13 (.l 14 (.l 15 .nil)) (.alt 14 (.l 13 (.l 15 .nil)) .nil))))))))))))))) (by kernel_rfl) ?_ | refine Ok.region_tree (id := 25) tok follows [(4, 13, []), (10, 13, [12]), (4, 15, []), (10, 15, []), (13, 15, []), (14, 15, [])] (.q 0 (.q 1 (.q 2 (.q 3 (.q 4 (.q 5 (.q 6 (.q 7 (.q 8 (.q 9 (.q 10 (.q 11 (.q 12 (.alt 13 (.l 14 (.l 15 .nil)) (.alt 14 (.l 13 (.l 15 .nil)) .nil))))))))))))))) (by kernel_rfl) ?_ | refine Ok.region_plan (id := 29) tok follows [(12, 15, []), (14, 15, []), (4, 18, []), (8, 18, []), (12, 18, []), (14, 18, []), (15, 18, [])] [.q 0, .q 1, .q 2, .q 3, .q 4, .q 5, .q 6, .q 7, .q 8, .q 9, .q 10, .q 11, .q 12, .q 13, .q 14, .l 15, .q 16, .q 17, .l 18] (by kernel_rfl) ?_ | refine ⟨_, (hy1).symm, ?_⟩ | refine ⟨_, (hy2).symm, ?_⟩ | refine Ok.region_draw tok follows (by kernel_rfl) ?_ | refine Ok.cond ?_); conv => whnf) | refine Ok.block ?_ | ((first | refine Ok.skip ?_ | refine Ok.exit ?_ | refine Ok.ret ?_ | refine nI ?_ | refine ix _ (by assumption) ?_ | refine ixI (by omega) (by assumption) ?_ | refine ix_new _ (by omega) fun _ _ => ?_ | refine ixI_new (by omega) (by omega) fun _ _ => ?_ | refine ⟨_, by assumption, ?_⟩); conv => whnf) | (refine Or.inl ?_; (conv => whnf); (repeat (refine aI ?_; conv => whnf)); refine ⟨_, hin1, rfl, ?_⟩; conv => whnf) | (refine Or.inl ?_; (conv => whnf); (repeat (refine aI ?_; conv => whnf)); refine ⟨_, hin2, rfl, ?_⟩; conv => whnf) | (refine Or.inl ?_; (conv => whnf); (repeat (refine aI ?_; conv => whnf)); refine ⟨_, hgr, rfl, ?_⟩; conv => whnf) | ((first | refine ⟨_, hin1, rfl, ?_⟩ | refine ⟨_, hin2, rfl, ?_⟩ | refine ⟨_, hgr, rfl, ?_⟩); conv => whnf) | (refine Or.inr (Or.inl ?_); (conv => whnf); (repeat (refine aI ?_; conv => whnf)); refine ⟨_, hin1, ?_⟩; rintro _ _ ⟨rfl, rfl⟩; conv => whnf) | (refine Or.inr (Or.inl ?_); (conv => whnf); (repeat (refine aI ?_; conv => whnf)); refine ⟨_, hin2, ?_⟩; rintro _ _ ⟨rfl, rfl⟩; conv => whnf) | (refine Or.inr (Or.inl ?_); (conv => whnf); (repeat (refine aI ?_; conv => whnf)); refine ⟨_, hgr, ?_⟩; rintro _ _ ⟨rfl, rfl⟩; conv => whnf) | ((first | refine Alt2.l (aI ?_) | refine Alt2.r (aI ?_)); conv => whnf) | (refine Ok.scope ?_) | ((first | refine Ok.label ?_ | refine rd rfl (by assumption) ?_ | refine ⟨_, .inl ⟨rfl, rfl⟩, ?_⟩ | refine ⟨_, _, rfl, rfl, ?_⟩); conv => whnf) | (refine ⟨fun _ => ?_, fun _ => ?_⟩ <;> (conv => whnf) <;> (try (exfalso; omega))) | ((first | refine aJ ?_ | refine num_any ?_ | refine ⟨_, rfl, ?_⟩); conv => whnf) | (exact True.intro) | (refine And.intro ?_ ?_ <;> (conv => whnf)) | fail)
          all_goals first
            | (exfalso; omega)
            | skip
          all_goals
            refine ⟨(i + 1, m + 1, (Tr.or x y, inS false s ++ [32, 124, 32] ++ inS y.isO t) :: r, (y, t) :: j), by dsimp only; omega, ⟨by dsimp only; omega, by simp [hm], by simp; omega, hb2, ?_, ?_⟩, ?_⟩
            · intro q hq
              rcases List.mem_cons.1 hq with rfl | hq
              · simp only [Tr.sz, LB]; omega
              · exact hfit q (by simp [hq])
            · simp only [szs, List.map_cons, List.sum_cons, Tr.sz]; omega
            · rw [hmJ, ← hm, pset_top2]
              (conv => whnf)
              rfl
      have hbn := bld_none hb (hst.trans (sh0 (by omega)))
      (try (conv => whnf)); repeat' (first | (refine ⟨_, eqTest, by kernel_rfl, ?_⟩; (conv => whnf)) | (refine ⟨fun h => absurd hz4 h, fun _ => ?_⟩; (conv => whnf)) | refine Ok.seq ?_ | refine OkL.cons ?_ | ((first | refine Ok.region tok ?_ | refine Ok.region_tree (id := 17) tok follows [(4, 12, []), (10, 12, [11]), (4, 14, []), (10, 14, []), (12, 14, []), (13, 14, [])] (.q 0 (.q 1 (.q 2 (.q 3 (.q 4 (.q 5 (.q 6 (.q 7 (.q 8 (.q 9 (.q 10 (.q 11 (.alt 12 (.l 13 (.l 14 .nil)) (.alt 13 (.l 12 (.l 14 .nil)) .nil)))))))))))))) (by kernel_rfl) ?_ | refine Ok.region_tree (id := 24) tok follows [(4, 13, []), (10, 13, [12]), (4, 15, []), (10, 15, []), (13, 15, []), (14, 15, [])] (.q 0 (.q 1 (.q 2 (.q 3 (.q 4 (.q 5 (.q 6 (.q 7 (.q 8 (.q 9 (.q 10 (.q 11 (.q 12 (.alt 13 (.l 14 (.l 15 .nil)) (.alt 14 (.l 13 (.l 15 .nil)) .nil))))))))))))))) (by kernel_rfl) ?_ | refine Ok.region_tree (id := 25) tok follows [(4, 13, []), (10, 13, [12]), (4, 15, []), (10, 15, []), (13, 15, []), (14, 15, [])] (.q 0 (.q 1 (.q 2 (.q 3 (.q 4 (.q 5 (.q 6 (.q 7 (.q 8 (.q 9 (.q 10 (.q 11 (.q 12 (.alt 13 (.l 14 (.l 15 .nil)) (.alt 14 (.l 13 (.l 15 .nil)) .nil))))))))))))))) (by kernel_rfl) ?_ | refine Ok.region_plan (id := 29) tok follows [(12, 15, []), (14, 15, []), (4, 18, []), (8, 18, []), (12, 18, []), (14, 18, []), (15, 18, [])] [.q 0, .q 1, .q 2, .q 3, .q 4, .q 5, .q 6, .q 7, .q 8, .q 9, .q 10, .q 11, .q 12, .q 13, .q 14, .l 15, .q 16, .q 17, .l 18] (by kernel_rfl) ?_ | refine Ok.region_draw tok follows (by kernel_rfl) ?_ | refine Ok.cond ?_); conv => whnf) | refine Ok.block ?_ | ((first | refine Ok.skip ?_ | refine Ok.exit ?_ | refine Ok.ret ?_ | refine nI ?_ | refine ix _ (by assumption) ?_ | refine ixI (by omega) (by assumption) ?_ | refine ix_new _ (by omega) fun _ _ => ?_ | refine ixI_new (by omega) (by omega) fun _ _ => ?_ | refine ⟨_, by assumption, ?_⟩ | refine Alt2.l (aI ?_) | refine Alt2.r (aI ?_)); conv => whnf) | (refine Ok.scope ?_) | ((first | refine Ok.label ?_ | refine rd rfl (by assumption) ?_ | refine ⟨_, .inl ⟨rfl, rfl⟩, ?_⟩ | refine ⟨_, _, rfl, rfl, ?_⟩); conv => whnf) | (refine ⟨fun _ => ?_, fun _ => ?_⟩ <;> (conv => whnf) <;> (try (exfalso; omega))) | ((first | refine aJ ?_ | refine num_any ?_ | refine ⟨_, rfl, ?_⟩); conv => whnf) | (exact True.intro) | (refine And.intro ?_ ?_ <;> (conv => whnf)) | fail)
      all_goals first
        | (exfalso; omega)
        | (refine Or.inl ?_; (conv => whnf)
           exact ⟨tell_none hbn, rfl⟩)
        | trace_state
  · have hie : i = e.length := by omega
    subst hie
    rw [List.drop_length] at hb
    have hbe := bld_end hb
    match ps, hn with
    | [], hn =>
      simp only [List.length_nil] at hn
      subst hn
      (try (conv => whnf)); repeat' (first | refine Ok.seq ?_ | refine OkL.cons ?_ | ((first | refine Ok.region tok ?_ | refine Ok.region_tree (id := 17) tok follows [(4, 12, []), (10, 12, [11]), (4, 14, []), (10, 14, []), (12, 14, []), (13, 14, [])] (.q 0 (.q 1 (.q 2 (.q 3 (.q 4 (.q 5 (.q 6 (.q 7 (.q 8 (.q 9 (.q 10 (.q 11 (.alt 12 (.l 13 (.l 14 .nil)) (.alt 13 (.l 12 (.l 14 .nil)) .nil)))))))))))))) (by kernel_rfl) ?_ | refine Ok.region_tree (id := 24) tok follows [(4, 13, []), (10, 13, [12]), (4, 15, []), (10, 15, []), (13, 15, []), (14, 15, [])] (.q 0 (.q 1 (.q 2 (.q 3 (.q 4 (.q 5 (.q 6 (.q 7 (.q 8 (.q 9 (.q 10 (.q 11 (.q 12 (.alt 13 (.l 14 (.l 15 .nil)) (.alt 14 (.l 13 (.l 15 .nil)) .nil))))))))))))))) (by kernel_rfl) ?_ | refine Ok.region_tree (id := 25) tok follows [(4, 13, []), (10, 13, [12]), (4, 15, []), (10, 15, []), (13, 15, []), (14, 15, [])] (.q 0 (.q 1 (.q 2 (.q 3 (.q 4 (.q 5 (.q 6 (.q 7 (.q 8 (.q 9 (.q 10 (.q 11 (.q 12 (.alt 13 (.l 14 (.l 15 .nil)) (.alt 14 (.l 13 (.l 15 .nil)) .nil))))))))))))))) (by kernel_rfl) ?_ | refine Ok.region_plan (id := 29) tok follows [(12, 15, []), (14, 15, []), (4, 18, []), (8, 18, []), (12, 18, []), (14, 18, []), (15, 18, [])] [.q 0, .q 1, .q 2, .q 3, .q 4, .q 5, .q 6, .q 7, .q 8, .q 9, .q 10, .q 11, .q 12, .q 13, .q 14, .l 15, .q 16, .q 17, .l 18] (by kernel_rfl) ?_ | refine Ok.region_draw tok follows (by kernel_rfl) ?_ | refine Ok.cond ?_); conv => whnf) | refine Ok.block ?_ | ((first | refine Ok.skip ?_ | refine Ok.exit ?_ | refine Ok.ret ?_ | refine nI ?_ | refine ix _ (by assumption) ?_ | refine ixI (by omega) (by assumption) ?_ | refine ix_new _ (by omega) fun _ _ => ?_ | refine ixI_new (by omega) (by omega) fun _ _ => ?_ | refine ⟨_, by assumption, ?_⟩ | refine Alt2.l (aI ?_) | refine Alt2.r (aI ?_)); conv => whnf) | (refine Ok.scope ?_) | ((first | refine Ok.label ?_ | refine rd rfl (by assumption) ?_ | refine ⟨_, .inl ⟨rfl, rfl⟩, ?_⟩ | refine ⟨_, _, rfl, rfl, ?_⟩); conv => whnf) | (refine ⟨fun _ => ?_, fun _ => ?_⟩ <;> (conv => whnf) <;> (try (exfalso; omega))) | ((first | refine aJ ?_ | refine num_any ?_ | refine ⟨_, rfl, ?_⟩); conv => whnf) | (exact True.intro) | (refine And.intro ?_ ?_ <;> (conv => whnf)) | fail)
      all_goals first
        | (exfalso; omega)
        | (refine Or.inl ?_; (conv => whnf)
           exact ⟨tell_none hbe, rfl⟩)
        | trace_state
    | [(x, s)], hn =>
      simp only [List.length_cons, List.length_nil] at hn
      subst hn
      have hg0 : ([(x, s)].reverse ++ j)[(0 : Int).toNat]? = some (x, s) := by simp
      (try (conv => whnf)); repeat' (first | (refine rd rfl hg0 ?_; (conv => whnf)) | refine Ok.seq ?_ | refine OkL.cons ?_ | ((first | refine Ok.region tok ?_ | refine Ok.region_tree (id := 17) tok follows [(4, 12, []), (10, 12, [11]), (4, 14, []), (10, 14, []), (12, 14, []), (13, 14, [])] (.q 0 (.q 1 (.q 2 (.q 3 (.q 4 (.q 5 (.q 6 (.q 7 (.q 8 (.q 9 (.q 10 (.q 11 (.alt 12 (.l 13 (.l 14 .nil)) (.alt 13 (.l 12 (.l 14 .nil)) .nil)))))))))))))) (by kernel_rfl) ?_ | refine Ok.region_tree (id := 24) tok follows [(4, 13, []), (10, 13, [12]), (4, 15, []), (10, 15, []), (13, 15, []), (14, 15, [])] (.q 0 (.q 1 (.q 2 (.q 3 (.q 4 (.q 5 (.q 6 (.q 7 (.q 8 (.q 9 (.q 10 (.q 11 (.q 12 (.alt 13 (.l 14 (.l 15 .nil)) (.alt 14 (.l 13 (.l 15 .nil)) .nil))))))))))))))) (by kernel_rfl) ?_ | refine Ok.region_tree (id := 25) tok follows [(4, 13, []), (10, 13, [12]), (4, 15, []), (10, 15, []), (13, 15, []), (14, 15, [])] (.q 0 (.q 1 (.q 2 (.q 3 (.q 4 (.q 5 (.q 6 (.q 7 (.q 8 (.q 9 (.q 10 (.q 11 (.q 12 (.alt 13 (.l 14 (.l 15 .nil)) (.alt 14 (.l 13 (.l 15 .nil)) .nil))))))))))))))) (by kernel_rfl) ?_ | refine Ok.region_plan (id := 29) tok follows [(12, 15, []), (14, 15, []), (4, 18, []), (8, 18, []), (12, 18, []), (14, 18, []), (15, 18, [])] [.q 0, .q 1, .q 2, .q 3, .q 4, .q 5, .q 6, .q 7, .q 8, .q 9, .q 10, .q 11, .q 12, .q 13, .q 14, .l 15, .q 16, .q 17, .l 18] (by kernel_rfl) ?_ | refine Ok.region_draw tok follows (by kernel_rfl) ?_ | refine Ok.cond ?_); conv => whnf) | refine Ok.block ?_ | ((first | refine Ok.skip ?_ | refine Ok.exit ?_ | refine Ok.ret ?_ | refine nI ?_ | refine ix _ (by assumption) ?_ | refine ixI (by omega) (by assumption) ?_ | refine ix_new _ (by omega) fun _ _ => ?_ | refine ixI_new (by omega) (by omega) fun _ _ => ?_ | refine ⟨_, by assumption, ?_⟩ | refine Alt2.l (aI ?_) | refine Alt2.r (aI ?_)); conv => whnf) | (refine Ok.scope ?_) | ((first | refine Ok.label ?_ | refine rd rfl (by assumption) ?_ | refine ⟨_, .inl ⟨rfl, rfl⟩, ?_⟩ | refine ⟨_, _, rfl, rfl, ?_⟩); conv => whnf) | (refine ⟨fun _ => ?_, fun _ => ?_⟩ <;> (conv => whnf) <;> (try (exfalso; omega))) | ((first | refine aJ ?_ | refine num_any ?_ | refine ⟨_, rfl, ?_⟩); conv => whnf) | (exact True.intro) | (refine And.intro ?_ ?_ <;> (conv => whnf)) | fail)
      all_goals first
        | (exfalso; omega)
        | (refine Or.inl ?_; (conv => whnf)
           exact ⟨tell_some (x := x) hbe s, rfl⟩)
        | trace_state
    | x :: y :: r, hn =>
      simp only [List.length_cons] at hn
      (try (conv => whnf)); repeat' (first | refine Ok.seq ?_ | refine OkL.cons ?_ | ((first | refine Ok.region tok ?_ | refine Ok.region_tree (id := 17) tok follows [(4, 12, []), (10, 12, [11]), (4, 14, []), (10, 14, []), (12, 14, []), (13, 14, [])] (.q 0 (.q 1 (.q 2 (.q 3 (.q 4 (.q 5 (.q 6 (.q 7 (.q 8 (.q 9 (.q 10 (.q 11 (.alt 12 (.l 13 (.l 14 .nil)) (.alt 13 (.l 12 (.l 14 .nil)) .nil)))))))))))))) (by kernel_rfl) ?_ | refine Ok.region_tree (id := 24) tok follows [(4, 13, []), (10, 13, [12]), (4, 15, []), (10, 15, []), (13, 15, []), (14, 15, [])] (.q 0 (.q 1 (.q 2 (.q 3 (.q 4 (.q 5 (.q 6 (.q 7 (.q 8 (.q 9 (.q 10 (.q 11 (.q 12 (.alt 13 (.l 14 (.l 15 .nil)) (.alt 14 (.l 13 (.l 15 .nil)) .nil))))))))))))))) (by kernel_rfl) ?_ | refine Ok.region_tree (id := 25) tok follows [(4, 13, []), (10, 13, [12]), (4, 15, []), (10, 15, []), (13, 15, []), (14, 15, [])] (.q 0 (.q 1 (.q 2 (.q 3 (.q 4 (.q 5 (.q 6 (.q 7 (.q 8 (.q 9 (.q 10 (.q 11 (.q 12 (.alt 13 (.l 14 (.l 15 .nil)) (.alt 14 (.l 13 (.l 15 .nil)) .nil))))))))))))))) (by kernel_rfl) ?_ | refine Ok.region_plan (id := 29) tok follows [(12, 15, []), (14, 15, []), (4, 18, []), (8, 18, []), (12, 18, []), (14, 18, []), (15, 18, [])] [.q 0, .q 1, .q 2, .q 3, .q 4, .q 5, .q 6, .q 7, .q 8, .q 9, .q 10, .q 11, .q 12, .q 13, .q 14, .l 15, .q 16, .q 17, .l 18] (by kernel_rfl) ?_ | refine Ok.region_draw tok follows (by kernel_rfl) ?_ | refine Ok.cond ?_); conv => whnf) | refine Ok.block ?_ | ((first | refine Ok.skip ?_ | refine Ok.exit ?_ | refine Ok.ret ?_ | refine nI ?_ | refine ix _ (by assumption) ?_ | refine ixI (by omega) (by assumption) ?_ | refine ix_new _ (by omega) fun _ _ => ?_ | refine ixI_new (by omega) (by omega) fun _ _ => ?_ | refine ⟨_, by assumption, ?_⟩ | refine Alt2.l (aI ?_) | refine Alt2.r (aI ?_)); conv => whnf) | (refine Ok.scope ?_) | ((first | refine Ok.label ?_ | refine rd rfl (by assumption) ?_ | refine ⟨_, .inl ⟨rfl, rfl⟩, ?_⟩ | refine ⟨_, _, rfl, rfl, ?_⟩); conv => whnf) | (refine ⟨fun _ => ?_, fun _ => ?_⟩ <;> (conv => whnf) <;> (try (exfalso; omega))) | ((first | refine aJ ?_ | refine num_any ?_ | refine ⟨_, rfl, ?_⟩); conv => whnf) | (exact True.intro) | (refine And.intro ?_ ?_ <;> (conv => whnf)) | fail)
      all_goals first
        | (exfalso; omega)
        | (refine Or.inl ?_; (conv => whnf)
           exact ⟨tell_none hbe, rfl⟩)
        | trace_state
end Go.Proofs.YtagmibogginaaaaGreatDoor
namespace Go.Proofs.YtagmibogginaaaaGreatDoor
open Go Go.Vx Go.Shelf
theorem chkFrom_lay {all : List Fd} : ∀ (r : List Fd) (i : Nat) (sum : Int), (chkFrom all r i sum).1 = 0 → ∀ f ∈ r, 1 ≤ f.bits ∧ f.bits ≤ 32
  | [], _, _, _ => by simp
  | f :: r, i, sum, h => by
    by_cases hb : badF (all.take i) f sum
    · rw [chkFrom_bad hb] at h; cases h
    · rw [chkFrom_ok hb] at h
      intro g hg
      rcases List.mem_cons.1 hg with rfl | hg
      · refine ⟨Classical.byContradiction fun e => hb ?_, Classical.byContradiction fun e => hb ?_⟩
        · exact .inr (.inr (.inr (.inr (.inl (by omega)))))
        · exact .inr (.inr (.inr (.inr (.inr (.inl (by omega))))))
      · exact chkFrom_lay r _ _ h g hg
theorem chk_lay {l : List Fd} (h : (chkO l).1 = 0) : LayF l ∧ l.length ≤ 12 := by
  by_cases h1 : 12 < l.length
  · rw [chkO_long h1] at h; cases h
  by_cases h2 : l.length = 0
  · rw [chkO_nil h2] at h; cases h
  rw [chkO_of h1 h2] at h
  exact ⟨chkFrom_lay _ _ _ h, by omega⟩
theorem errT_zero {t : Tst} {b : Nat} (h : errT t b = 0) : FormOk t ∧ ValOk t b ∧ (t.form = 4 → DigOk t.pat b) := by
  by_cases h1 : FormOk t
  · by_cases h2 : ValOk t b
    · refine ⟨h1, h2, fun h4 => Classical.byContradiction fun hd => ?_⟩
      by_cases h3 : t.form = 2 ∧ t.lo.toNat % tw (b - t.len.toNat) ≠ 0
      · rw [errT_pre h1 h2 h3] at h; cases h
      · by_cases h5 : t.form = 3 ∧ t.hi < t.lo
        · rw [errT_rng h1 h2 h3 h5] at h; cases h
        · rw [errT_dig h1 h2 h3 h5 ⟨h4, hd⟩] at h; cases h
    · rw [errT_val h1 h2] at h; cases h
  · rw [errT_form h1] at h; cases h
theorem coverF_one {bits H : Nat} : ∀ (k lo : Nat), ∀ s ∈ coverF bits H k lo, s.length = bits
  | 0, lo => by simp [coverF]
  | k + 1, lo => by
    unfold coverF
    split
    · intro s hs
      rcases List.mem_cons.1 hs with rfl | hs
      · exact pfxT_len (Nat.sub_le _ _)
      · exact coverF_one k _ s hs
    · simp
theorem val_one {t : Tst} {b : Nat} (h0 : 1 ≤ b) (hb : b ≤ 32) (hpl : t.form = 4 → DigOk t.pat b) (hn : t.len.toNat ≤ b) : ∀ s ∈ valT t b, s.length = b := by
  have hc : ∀ H lo, ∀ s ∈ coverC b H lo, s.length = b := fun H lo => coverF_one _ _
  have hol := one_len (t := t) (b := b) (fun h => (hpl h).1) hn
  have hoc := one_cub (t := t) (b := b) (fun h => (hpl h).2)
  intro s hs
  unfold valT eitT at hs
  repeat' split at hs
  all_goals first
    | exact hc _ _ s hs
    | (rcases List.mem_append.1 hs with h | h <;> exact hc _ _ s h)
    | (rw [List.mem_singleton.1 hs]; exact hol)
    | (rw [((splitT_cn (xs_cn (by omega) h0) ⟨by omega, hoc⟩) s hs).2, xsT_len])
theorem val_len {t : Tst} {b : Nat} (h0 : 1 ≤ b) (hb : b ≤ 32) (h1 : t.lo.toNat < tw b) (h2 : t.hi.toNat < tw b) : (valT t b).length ≤ 400 := by
  have hc : ∀ H lo, H ≤ tw b → (coverC b H lo).length ≤ 66 := fun H lo h => by
    have := coverC_len (bits := b) (lo := lo) (H := H) h
    omega
  unfold valT eitT
  repeat' split
  all_goals first
    | (refine Nat.le_trans (hc _ _ (by omega)) (by omega))
    | (rw [List.length_append]
       have a1 := hc t.lo.toNat 0 (by omega)
       have a2 := hc (tw b) (t.hi.toNat + 1) (Nat.le_refl _)
       omega)
    | (simp; done)
    | (refine Nat.le_trans (splitT_len (by rw [xsT_len]; omega)) (by omega))
theorem wid_app (l : List Fd) (k : Nat) : wid l = wid (l.take k) + wid (l.drop k) := by
  unfold wid
  rw [← List.sum_append, ← List.map_append, List.take_append_drop]
theorem lay_take {l : List Fd} (h : LayF l) (k : Nat) : LayF (l.take k) := fun x hx => h x (List.mem_of_mem_take hx)
theorem lay_drop {l : List Fd} (h : LayF l) (k : Nat) : LayF (l.drop k) := fun x hx => h x (List.mem_of_mem_drop hx)
open Classical in
noncomputable def errC (l : List Fd) (t : Tst) : Int := if (chkO l).1 ≠ 0 then (chkO l).1 else errF l t
theorem errC_chk {l : List Fd} {t : Tst} (h : (chkO l).1 ≠ 0) : errC l t = (chkO l).1 := by unfold errC; rw [if_pos h]
theorem errC_f {l : List Fd} {t : Tst} (h : (chkO l).1 = 0) : errC l t = errF l t := by unfold errC; rw [if_neg (fun e => e h)]
def wrapT (l : List Fd) (k : Nat) (x : Str) : Str := xsT (wid (l.take k)) ++ x ++ xsT (wid (l.drop (k + 1)))
def cubL (l : List Fd) (t : Tst) : List Str := match l[(findI t.f l 0).toNat]? with
  | some c => (valT t c.bits.toNat).map (wrapT l (findI t.f l 0).toNat)
  | none => []
set_option maxHeartbeats 16000000 in
theorem cubes_err (l : List Fd) (r : List (List D)) (hl : l.length ≤ 1000) (f : Str) (op form lo hi len : Int) (pat : Str) (hs : pat.length ≤ 1000000000000) (he : errC l ⟨f, op, form, lo, hi, len, pat⟩ ≠ 0) :
    FSpec Tryz.prog T 39 [.lst 34 (l.map frow) r, .agg (tcl f op form lo hi len pat)] (fun d rows => d = .tup [.own 0 0, .i .i64 (errC l ⟨f, op, form, lo, hi, len, pat⟩)] ∧ rows = [some (9, [])]) := by
  have h1 : (l.map frow).length = l.length := by simp
  have hch := check_at l r hl
  have hfd := find_at l r f hl
  refine FSpec.of_ok tok Tryz.func39 rfl Tryz.call39 (by simp) ?_
  by_cases hc0 : (chkO l).1 = 0
  · obtain ⟨hlay, _⟩ := chk_lay hc0
    rw [errC_f hc0] at he ⊢
    rcases find_cases f l with hfi | ⟨k, c, hfi, hc⟩
    · rw [errF_none hfi]
      rw [hfi] at hfd
      (try (conv => whnf)); repeat' (first | refine Ok.seq ?_ | refine OkL.cons ?_ | ((first | refine Ok.region tok ?_ | refine Ok.region_draw tok follows (by kernel_rfl) ?_ | refine Ok.cond ?_); conv => whnf) | refine Ok.block ?_ | ((first | refine Ok.skip ?_ | refine Ok.exit ?_ | refine Ok.ret ?_ | refine nI ?_ | refine ix _ (by assumption) ?_ | refine ixI (by omega) (by assumption) ?_ | refine ix_new _ (by omega) fun _ _ => ?_ | refine ixI_new (by omega) (by omega) fun _ _ => ?_ | refine ⟨_, by assumption, ?_⟩); conv => whnf) | (refine Or.inl ?_; (conv => whnf); (repeat (refine aI ?_; conv => whnf)); refine ⟨_, hch, rfl, ?_⟩; conv => whnf) | (refine Or.inl ?_; (conv => whnf); (repeat (refine aI ?_; conv => whnf)); refine ⟨_, hfd, rfl, ?_⟩; conv => whnf) | ((first | refine ⟨_, hch, rfl, ?_⟩ | refine ⟨_, hfd, rfl, ?_⟩); conv => whnf) | (refine Or.inr (Or.inl ?_); (conv => whnf); (repeat (refine aI ?_; conv => whnf)); refine ⟨_, hch, ?_⟩; rintro _ _ ⟨rfl, rfl⟩; conv => whnf) | (refine Or.inr (Or.inl ?_); (conv => whnf); (repeat (refine aI ?_; conv => whnf)); refine ⟨_, hfd, ?_⟩; rintro _ _ ⟨rfl, rfl⟩; conv => whnf) | ((first | refine Alt2.l (aI ?_) | refine Alt2.r (aI ?_)); conv => whnf) | (refine Ok.scope ?_) | ((first | refine Ok.label ?_ | refine rd rfl (by assumption) ?_ | refine ⟨_, .inl ⟨rfl, rfl⟩, ?_⟩ | refine ⟨_, _, rfl, rfl, ?_⟩); conv => whnf) | (refine ⟨fun _ => ?_, fun _ => ?_⟩ <;> (conv => whnf) <;> (try (exfalso; omega))) | ((first | refine aJ ?_ | refine num_any ?_ | refine ⟨_, rfl, ?_⟩); conv => whnf) | fail)
      all_goals first
        | (exfalso; omega)
        | (refine Or.inr (Or.inr ?_); (conv => whnf)
           exact ⟨rfl, rfl⟩)
        | trace_state
    · have hcb := hlay _ (List.mem_of_getElem? hc)
      have hcI : l[((k : Nat) : Int).toNat]? = some c := hc
      have hft := fit_at f op form lo hi len pat c.bits.toNat (by omega) (by omega) hs
      rw [show ((c.bits.toNat : Nat) : Int) = c.bits by omega] at hft
      rw [errF_some hfi hc] at he ⊢
      rw [hfi] at hfd
      generalize errT ⟨f, op, form, lo, hi, len, pat⟩ c.bits.toNat = e at *
      (try (conv => whnf)); repeat' (first | refine Ok.seq ?_ | refine OkL.cons ?_ | ((first | refine Ok.region tok ?_ | refine Ok.region_draw tok follows (by kernel_rfl) ?_ | refine Ok.cond ?_); conv => whnf) | refine Ok.block ?_ | ((first | refine Ok.skip ?_ | refine Ok.exit ?_ | refine Ok.ret ?_ | refine nI ?_ | refine ix _ (by assumption) ?_ | refine ixI (by omega) (by assumption) ?_ | refine ix_new _ (by omega) fun _ _ => ?_ | refine ixI_new (by omega) (by omega) fun _ _ => ?_ | refine ⟨_, by assumption, ?_⟩); conv => whnf) | (refine Or.inl ?_; (conv => whnf); (repeat (refine aI ?_; conv => whnf)); refine ⟨_, hch, rfl, ?_⟩; conv => whnf) | (refine Or.inl ?_; (conv => whnf); (repeat (refine aI ?_; conv => whnf)); refine ⟨_, hfd, rfl, ?_⟩; conv => whnf) | (refine Or.inl ?_; (conv => whnf); (repeat (refine aI ?_; conv => whnf)); refine ⟨_, hft, rfl, ?_⟩; conv => whnf) | ((first | refine ⟨_, hch, rfl, ?_⟩ | refine ⟨_, hfd, rfl, ?_⟩ | refine ⟨_, hft, rfl, ?_⟩); conv => whnf) | (refine Or.inr (Or.inl ?_); (conv => whnf); (repeat (refine aI ?_; conv => whnf)); refine ⟨_, hch, ?_⟩; rintro _ _ ⟨rfl, rfl⟩; conv => whnf) | (refine Or.inr (Or.inl ?_); (conv => whnf); (repeat (refine aI ?_; conv => whnf)); refine ⟨_, hfd, ?_⟩; rintro _ _ ⟨rfl, rfl⟩; conv => whnf) | (refine Or.inr (Or.inl ?_); (conv => whnf); (repeat (refine aI ?_; conv => whnf)); refine ⟨_, hft, ?_⟩; rintro _ _ ⟨rfl, rfl⟩; conv => whnf) | ((first | refine Alt2.l (aI ?_) | refine Alt2.r (aI ?_)); conv => whnf) | (refine Ok.scope ?_) | ((first | refine Ok.label ?_ | refine rd rfl (by assumption) ?_ | refine ⟨_, .inl ⟨rfl, rfl⟩, ?_⟩ | refine ⟨_, _, rfl, rfl, ?_⟩); conv => whnf) | (refine ⟨fun _ => ?_, fun _ => ?_⟩ <;> (conv => whnf) <;> (try (exfalso; omega))) | ((first | refine aJ ?_ | refine num_any ?_ | refine ⟨_, rfl, ?_⟩); conv => whnf) | fail)
      all_goals first
        | (exfalso; omega)
        | (refine Or.inr (Or.inr ?_); (conv => whnf)
           exact ⟨rfl, rfl⟩)
        | trace_state
  · rw [errC_chk hc0]
    generalize (chkO l).1 = e at *
    (try (conv => whnf)); repeat' (first | refine Ok.seq ?_ | refine OkL.cons ?_ | ((first | refine Ok.region tok ?_ | refine Ok.region_draw tok follows (by kernel_rfl) ?_ | refine Ok.cond ?_); conv => whnf) | refine Ok.block ?_ | ((first | refine Ok.skip ?_ | refine Ok.exit ?_ | refine Ok.ret ?_ | refine nI ?_ | refine ix _ (by assumption) ?_ | refine ixI (by omega) (by assumption) ?_ | refine ix_new _ (by omega) fun _ _ => ?_ | refine ixI_new (by omega) (by omega) fun _ _ => ?_ | refine ⟨_, by assumption, ?_⟩); conv => whnf) | (refine Or.inl ?_; (conv => whnf); (repeat (refine aI ?_; conv => whnf)); refine ⟨_, hch, rfl, ?_⟩; conv => whnf) | (refine ⟨_, hch, rfl, ?_⟩; conv => whnf) | (refine Or.inr (Or.inl ?_); (conv => whnf); (repeat (refine aI ?_; conv => whnf)); refine ⟨_, hch, ?_⟩; rintro _ _ ⟨rfl, rfl⟩; conv => whnf) | ((first | refine Alt2.l (aI ?_) | refine Alt2.r (aI ?_)); conv => whnf) | (refine Ok.scope ?_) | ((first | refine Ok.label ?_ | refine rd rfl (by assumption) ?_ | refine ⟨_, .inl ⟨rfl, rfl⟩, ?_⟩ | refine ⟨_, _, rfl, rfl, ?_⟩); conv => whnf) | (refine ⟨fun _ => ?_, fun _ => ?_⟩ <;> (conv => whnf) <;> (try (exfalso; omega))) | ((first | refine aJ ?_ | refine num_any ?_ | refine ⟨_, rfl, ?_⟩); conv => whnf) | fail)
    all_goals first
      | (exfalso; omega)
      | (refine Or.inr (Or.inr ?_); (conv => whnf)
         exact ⟨rfl, rfl⟩)
      | trace_state
set_option maxHeartbeats 16000000 in
theorem rcubes_err (l : List Fd) (r : List (List D)) (hl : l.length ≤ 1000) (f : Str) (op form lo hi len : Int) (pat : Str) (hs : pat.length ≤ 1000000000000) (he : errC l ⟨f, op, form, lo, hi, len, pat⟩ ≠ 0) :
    FSpec Tryz.prog T 23 [.lst 34 (l.map frow) r, .agg (tcl f op form lo hi len pat)] (fun d rows => d = .tup [.own 0 0, .i .i64 (errC l ⟨f, op, form, lo, hi, len, pat⟩)] ∧ rows = [some (9, [])]) := by
  have hch := rcheck_at l r hl
  refine FSpec.of_ok tok Tryz.func23 rfl Tryz.call23 (by simp) ?_
  by_cases hc0 : (chkO l).1 = 0
  · obtain ⟨hlay, _⟩ := chk_lay hc0
    rw [errC_f hc0] at he ⊢
    have hte := rtest_at l r hl hlay f op form lo hi len pat hs
    generalize errF l ⟨f, op, form, lo, hi, len, pat⟩ = e at *
    (try (conv => whnf)); repeat' (first | refine Ok.seq ?_ | refine OkL.cons ?_ | ((first | refine Ok.region tok ?_ | refine Ok.region_plan (id := 15) tok follows [(2, 13, []), (6, 15, [14, 7]), (2, 15, [14, 7]), (13, 15, [14]), (6, 16, [15, 14, 7]), (2, 16, [13]), (13, 16, []), (15, 16, [])] [.q 0, .q 1, .q 3, .q 4, .q 5, .q 6, .q 8, .q 9, .q 10, .q 11, .q 12, .l 2, .q 7, .l 13, .q 14, .l 15, .l 16, .q 17] (by kernel_rfl) ?_ | refine Ok.region_draw tok follows (by kernel_rfl) ?_ | refine Ok.cond ?_); conv => whnf) | refine Ok.block ?_ | ((first | refine Ok.skip ?_ | refine Ok.exit ?_ | refine Ok.ret ?_ | refine nI ?_ | refine ix _ (by assumption) ?_ | refine ixI (by omega) (by assumption) ?_ | refine ix_new _ (by omega) fun _ _ => ?_ | refine ixI_new (by omega) (by omega) fun _ _ => ?_ | refine ⟨_, by assumption, ?_⟩); conv => whnf) | (refine Or.inl ?_; (conv => whnf); (repeat (refine aI ?_; conv => whnf)); refine ⟨_, hch, rfl, ?_⟩; conv => whnf) | (refine Or.inl ?_; (conv => whnf); (repeat (refine aI ?_; conv => whnf)); refine ⟨_, hte, rfl, ?_⟩; conv => whnf) | ((first | refine ⟨_, hch, rfl, ?_⟩ | refine ⟨_, hte, rfl, ?_⟩); conv => whnf) | (refine Or.inr (Or.inl ?_); (conv => whnf); (repeat (refine aI ?_; conv => whnf)); refine ⟨_, hch, ?_⟩; rintro _ _ ⟨rfl, rfl⟩; conv => whnf) | (refine Or.inr (Or.inl ?_); (conv => whnf); (repeat (refine aI ?_; conv => whnf)); refine ⟨_, hte, ?_⟩; rintro _ _ ⟨rfl, rfl⟩; conv => whnf) | ((first | refine Alt2.l (aI ?_) | refine Alt2.r (aI ?_)); conv => whnf) | (refine Ok.scope ?_) | ((first | refine Ok.label ?_ | refine rd rfl (by assumption) ?_ | refine ⟨_, .inl ⟨rfl, rfl⟩, ?_⟩ | refine ⟨_, _, rfl, rfl, ?_⟩); conv => whnf) | (refine ⟨fun _ => ?_, fun _ => ?_⟩ <;> (conv => whnf) <;> (try (exfalso; omega))) | ((first | refine aJ ?_ | refine num_any ?_ | refine ⟨_, rfl, ?_⟩); conv => whnf) | fail)
    all_goals first
      | (exfalso; omega)
      | (refine Or.inr (Or.inr ?_); (conv => whnf)
         exact ⟨rfl, rfl⟩)
      | trace_state
  · rw [errC_chk hc0]
    generalize (chkO l).1 = e at *
    (try (conv => whnf)); repeat' (first | refine Ok.seq ?_ | refine OkL.cons ?_ | ((first | refine Ok.region tok ?_ | refine Ok.region_plan (id := 15) tok follows [(2, 13, []), (6, 15, [14, 7]), (2, 15, [14, 7]), (13, 15, [14]), (6, 16, [15, 14, 7]), (2, 16, [13]), (13, 16, []), (15, 16, [])] [.q 0, .q 1, .q 3, .q 4, .q 5, .q 6, .q 8, .q 9, .q 10, .q 11, .q 12, .l 2, .q 7, .l 13, .q 14, .l 15, .l 16, .q 17] (by kernel_rfl) ?_ | refine Ok.region_draw tok follows (by kernel_rfl) ?_ | refine Ok.cond ?_); conv => whnf) | refine Ok.block ?_ | ((first | refine Ok.skip ?_ | refine Ok.exit ?_ | refine Ok.ret ?_ | refine nI ?_ | refine ix _ (by assumption) ?_ | refine ixI (by omega) (by assumption) ?_ | refine ix_new _ (by omega) fun _ _ => ?_ | refine ixI_new (by omega) (by omega) fun _ _ => ?_ | refine ⟨_, by assumption, ?_⟩); conv => whnf) | (refine Or.inl ?_; (conv => whnf); (repeat (refine aI ?_; conv => whnf)); refine ⟨_, hch, rfl, ?_⟩; conv => whnf) | (refine ⟨_, hch, rfl, ?_⟩; conv => whnf) | (refine Or.inr (Or.inl ?_); (conv => whnf); (repeat (refine aI ?_; conv => whnf)); refine ⟨_, hch, ?_⟩; rintro _ _ ⟨rfl, rfl⟩; conv => whnf) | ((first | refine Alt2.l (aI ?_) | refine Alt2.r (aI ?_)); conv => whnf) | (refine Ok.scope ?_) | ((first | refine Ok.label ?_ | refine rd rfl (by assumption) ?_ | refine ⟨_, .inl ⟨rfl, rfl⟩, ?_⟩ | refine ⟨_, _, rfl, rfl, ?_⟩); conv => whnf) | (refine ⟨fun _ => ?_, fun _ => ?_⟩ <;> (conv => whnf) <;> (try (exfalso; omega))) | ((first | refine aJ ?_ | refine num_any ?_ | refine ⟨_, rfl, ?_⟩); conv => whnf) | fail)
    all_goals first
      | (exfalso; omega)
      | (refine Or.inr (Or.inr ?_); (conv => whnf)
         exact ⟨rfl, rfl⟩)
      | trace_state
def gL (A B : Str) (C : List Str) (i : Nat) : List Str := (C.take i).map (fun x => A ++ x ++ B) ++ C.drop i
theorem gL_len (A B : Str) (C : List Str) {i : Nat} (h : i ≤ C.length) : (gL A B C i).length = C.length := by simp [gL]; omega
theorem gL_zero (A B : Str) (C : List Str) : gL A B C 0 = C := by simp [gL]
theorem gL_end (A B : Str) (C : List Str) : gL A B C C.length = C.map (fun x => A ++ x ++ B) := by simp [gL]
theorem gL_get {A B : Str} {C : List Str} {i : Nat} {x : Str} (h : C[i]? = some x) : (gL A B C i)[i]? = some x := by
  have hi := (List.getElem?_eq_some_iff.1 h).1
  unfold gL
  rw [List.getElem?_append_right (by simp; omega)]
  simp [Nat.min_eq_left (Nat.le_of_lt hi), h]
theorem gL_set {A B : Str} {C : List Str} {i : Nat} {x : Str} (h : C[i]? = some x) : (gL A B C i).set i (A ++ x ++ B) = gL A B C (i + 1) := by
  obtain ⟨hi, rfl⟩ := List.getElem?_eq_some_iff.1 h
  unfold gL
  have h1 : ((C.take i).map fun x => A ++ x ++ B).length = i := by simp; omega
  rw [List.set_append_right _ _ (by omega), h1, Nat.sub_self, List.drop_eq_getElem_cons hi, take_snoc h, List.map_append, List.set_cons_zero]
  simp only [List.map_cons, List.map_nil, List.append_assoc, List.cons_append, List.nil_append]
theorem cubL_at {l : List Fd} {t : Tst} {k : Nat} {c : Fd} (hfi : findI t.f l 0 = (k : Nat)) (hc : l[k]? = some c) : cubL l t = (valT t c.bits.toNat).map (fun x => xsT (wid (l.take k)) ++ x ++ xsT (wid (l.drop (k + 1)))) := by
  unfold cubL
  rw [hfi, Int.toNat_natCast, hc]
  rfl
set_option maxHeartbeats 16000000 in
theorem cubes_ok (l : List Fd) (r : List (List D)) (hl : l.length ≤ 1000) (f : Str) (op form lo hi len : Int) (pat : Str) (hs : pat.length ≤ 1000000000000) (he : errC l ⟨f, op, form, lo, hi, len, pat⟩ = 0) :
    FSpec Tryz.prog T 39 [.lst 34 (l.map frow) r, .agg (tcl f op form lo hi len pat)] (fun d rows => d = .tup [.own 0 (cubL l ⟨f, op, form, lo, hi, len, pat⟩).length, .i .i64 0] ∧ rows = [some (9, (cubL l ⟨f, op, form, lo, hi, len, pat⟩).map srow)]) := by
  have h1 : (l.map frow).length = l.length := by simp
  have hch := check_at l r hl
  have hfd := find_at l r f hl
  by_cases hc0 : (chkO l).1 = 0
  case neg => exact absurd he (by rw [errC_chk hc0]; exact hc0)
  obtain ⟨hlay, hl12⟩ := chk_lay hc0
  rw [errC_f hc0] at he
  rcases find_cases f l with hfi | ⟨k, c, hfi, hc⟩
  · rw [errF_none hfi] at he; cases he
  rw [errF_some hfi hc] at he
  rw [cubL_at hfi hc]
  have hcb := hlay _ (List.mem_of_getElem? hc)
  have hcI : l[((k : Nat) : Int).toNat]? = some c := hc
  have hkl := (List.getElem?_eq_some_iff.1 hc).1
  obtain ⟨b, hb⟩ : ∃ b : Nat, c.bits = (b : Nat) := ⟨c.bits.toNat, by omega⟩
  have hft := fit_at f op form lo hi len pat c.bits.toNat (by omega) (by omega) hs
  rw [he, show ((c.bits.toNat : Nat) : Int) = c.bits by omega] at hft
  rw [show c.bits.toNat = b by omega] at he ⊢
  rw [hfi] at hfd
  obtain ⟨hF, hV, hD⟩ := errT_zero he
  have hV2 := hV
  unfold ValOk at hV2
  have hA := hF.a
  dsimp only at hV2 hA hD
  obtain ⟨vl, rfl⟩ : ∃ v : Nat, lo = v := ⟨lo.toNat, by omega⟩
  obtain ⟨vh, rfl⟩ : ∃ v : Nat, hi = v := ⟨hi.toNat, by omega⟩
  obtain ⟨vn, rfl⟩ : ∃ v : Nat, len = v := ⟨len.toNat, by omega⟩
  have hva := values_at f op form vl vh vn pat b (by omega) (by omega) (by omega) (by omega) (by omega) (by omega) (fun h => (hD h).1) (fun h => (hD h).2)
  have hvo := val_one (t := ⟨f, op, form, vl, vh, vn, pat⟩) (b := b) (by omega) (by omega) hD (by simp; omega)
  have hvn := val_len (t := ⟨f, op, form, vl, vh, vn, pat⟩) (b := b) (by omega) (by omega) (by simp; omega) (by simp; omega)
  rw [← hb] at hva
  generalize valT ⟨f, op, form, vl, vh, vn, pat⟩ b = C at *
  have hlt := lay_take hlay k
  have hld := lay_drop hlay (k + 1)
  have hw1 := wid_le hlt
  have hw2 := wid_le hld
  have ht1 : (l.take k).length = k := by simp; omega
  have ht2 : (l.drop (k + 1)).length = l.length - (k + 1) := by simp
  have hx1 := xrep_at (wid (l.take k)) (by omega)
  have hx2 := xrep_at (wid (l.drop (k + 1))) (by omega)
  have hxl1 := xsT_len (wid (l.take k))
  have hxl2 := xsT_len (wid (l.drop (k + 1)))
  have hwa := fun r => width_at (l.take k) r (by omega) hlt
  have hwb := fun r => width_at (l.drop (k + 1)) r (by omega) hld
  have hm1 : (l.take k).map frow = ((l.map frow ++ r).take k).drop 0 := by rw [List.drop_zero, List.take_append_of_le_length (by omega), List.map_take]
  have hm2 : (l.drop (k + 1)).map frow = ((l.map frow ++ r).take (l.map frow).length).drop (k + 1) := by rw [List.take_append_of_le_length (Nat.le_refl _), List.take_length, List.map_drop]
  generalize xsT (wid (l.take k)) = X at *
  generalize xsT (wid (l.drop (k + 1))) = Y at *
  have hlC : (C.map srow).length = C.length := by simp
  refine FSpec.of_ok tok Tryz.func39 rfl Tryz.call39 (by simp) ?_
  (try (conv => whnf)); repeat' (first | (refine ⟨k + 1, (l.map frow).length, rfl, rfl, (by omega), (by omega), (l.drop (k + 1)).map frow, _, hm2, rfl, ?_⟩; (conv => whnf)) | (refine ⟨(l.take k).map frow, _, hm1, rfl, ?_⟩; (conv => whnf)) | refine Ok.seq ?_ | refine OkL.cons ?_ | ((first | refine Ok.region tok ?_ | refine Ok.region_draw tok follows (by kernel_rfl) ?_ | refine Ok.cond ?_); conv => whnf) | refine Ok.block ?_ | ((first | refine Ok.skip ?_ | refine Ok.exit ?_ | refine Ok.ret ?_ | refine nI ?_ | refine ix _ (by assumption) ?_ | refine ixI (by omega) (by assumption) ?_ | refine ix_new _ (by omega) fun _ _ => ?_ | refine ixI_new (by omega) (by omega) fun _ _ => ?_ | refine ⟨_, by assumption, ?_⟩); conv => whnf) | (refine Or.inl ?_; (conv => whnf); (repeat (refine aI ?_; conv => whnf)); refine ⟨_, hch, rfl, ?_⟩; conv => whnf) | (refine Or.inl ?_; (conv => whnf); (repeat (refine aI ?_; conv => whnf)); refine ⟨_, hfd, rfl, ?_⟩; conv => whnf) | (refine Or.inl ?_; (conv => whnf); (repeat (refine aI ?_; conv => whnf)); refine ⟨_, hft, rfl, ?_⟩; conv => whnf) | (refine Or.inl ?_; (conv => whnf); (repeat (refine aI ?_; conv => whnf)); refine ⟨_, hwa _, rfl, ?_⟩; conv => whnf) | (refine Or.inl ?_; (conv => whnf); (repeat (refine aI ?_; conv => whnf)); refine ⟨_, hwb _, rfl, ?_⟩; conv => whnf) | (refine Or.inl ?_; (conv => whnf); (repeat (refine aI ?_; conv => whnf)); refine ⟨_, hx1, rfl, ?_⟩; conv => whnf) | (refine Or.inl ?_; (conv => whnf); (repeat (refine aI ?_; conv => whnf)); refine ⟨_, hx2, rfl, ?_⟩; conv => whnf) | (refine Or.inl ?_; (conv => whnf); (repeat (refine aI ?_; conv => whnf)); refine ⟨_, hva, rfl, ?_⟩; conv => whnf) | ((first | refine ⟨_, hch, rfl, ?_⟩ | refine ⟨_, hfd, rfl, ?_⟩ | refine ⟨_, hft, rfl, ?_⟩ | refine ⟨_, hwa _, rfl, ?_⟩ | refine ⟨_, hwb _, rfl, ?_⟩ | refine ⟨_, hx1, rfl, ?_⟩ | refine ⟨_, hx2, rfl, ?_⟩ | refine ⟨_, hva, rfl, ?_⟩); conv => whnf) | (refine Or.inr (Or.inl ?_); (conv => whnf); (repeat (refine aI ?_; conv => whnf)); refine ⟨_, hch, ?_⟩; rintro _ _ ⟨rfl, rfl⟩; conv => whnf) | (refine Or.inr (Or.inl ?_); (conv => whnf); (repeat (refine aI ?_; conv => whnf)); refine ⟨_, hfd, ?_⟩; rintro _ _ ⟨rfl, rfl⟩; conv => whnf) | (refine Or.inr (Or.inl ?_); (conv => whnf); (repeat (refine aI ?_; conv => whnf)); refine ⟨_, hft, ?_⟩; rintro _ _ ⟨rfl, rfl⟩; conv => whnf) | (refine Or.inr (Or.inl ?_); (conv => whnf); (repeat (refine aI ?_; conv => whnf)); refine ⟨_, hwa _, ?_⟩; rintro _ _ ⟨rfl, rfl⟩; conv => whnf) | (refine Or.inr (Or.inl ?_); (conv => whnf); (repeat (refine aI ?_; conv => whnf)); refine ⟨_, hwb _, ?_⟩; rintro _ _ ⟨rfl, rfl⟩; conv => whnf) | (refine Or.inr (Or.inl ?_); (conv => whnf); (repeat (refine aI ?_; conv => whnf)); refine ⟨_, hx1, ?_⟩; rintro _ _ ⟨rfl, rfl⟩; conv => whnf) | (refine Or.inr (Or.inl ?_); (conv => whnf); (repeat (refine aI ?_; conv => whnf)); refine ⟨_, hx2, ?_⟩; rintro _ _ ⟨rfl, rfl⟩; conv => whnf) | (refine Or.inr (Or.inl ?_); (conv => whnf); (repeat (refine aI ?_; conv => whnf)); refine ⟨_, hva, ?_⟩; rintro _ _ ⟨rfl, rfl⟩; conv => whnf) | ((first | refine Alt2.l (aI ?_) | refine Alt2.r (aI ?_)); conv => whnf) | (refine Ok.scope ?_) | ((first | refine Ok.label ?_ | refine rd rfl (by assumption) ?_ | refine ⟨_, .inl ⟨rfl, rfl⟩, ?_⟩ | refine ⟨_, _, rfl, rfl, ?_⟩); conv => whnf) | (refine ⟨fun _ => ?_, fun _ => ?_⟩ <;> (conv => whnf) <;> (try (exfalso; omega))) | ((first | refine aJ ?_ | refine num_any ?_ | refine ⟨_, rfl, ?_⟩); conv => whnf) | fail)
  all_goals first
    | (exfalso; omega)
    | skip
  rw [show C.map srow = (gL X Y C 0).map srow by rw [gL_zero]]
  refine Ok.loopU [11, 12, 13, 55] [56] 1 1 (fun (i : Nat) => [.i .i64 (i : Nat)]) (fun _ b => b) (fun (i : Nat) (_ : Vx.Rows) => [some (9, (gL X Y C i).map srow)]) (fun (i : Nat) => i ≤ C.length) (fun (i : Nat) => C.length - i) (0) (Nat.zero_le _) ?_; (conv => whnf); refine ⟨by ((conv => whnf); first | rfl | (simp [envCat, List.take_of_length_le, nrow, frow, bcell, srow, tcells, crow]; done) | (simp [envCat, List.take_of_length_le, nrow, frow, bcell, srow, tcells, crow]; rw [IntKind.wrap_i64]; omega)), ?_⟩
  intro i hi
  have hgl := gL_len X Y C hi
  have hgm : ((gL X Y C i).map srow).length = C.length := by rw [List.length_map, hgl]
  (conv => whnf)
  by_cases hil : i < C.length
  · obtain ⟨x, hx⟩ : ∃ x, C[i]? = some x := ⟨_, List.getElem?_eq_getElem hil⟩
    have hg := gL_get (A := X) (B := Y) hx
    have hgs := gL_set (A := X) (B := Y) hx
    have hxl := hvo x (List.mem_of_getElem? hx)
    have hgI : (gL X Y C i)[((i : Nat) : Int).toNat]? = some x := hg
    have hap : (X ++ x : Str).length = X.length + x.length := List.length_append
    (try (conv => whnf)); repeat' (first | (refine rd rfl hgI ?_; (conv => whnf)) | (refine st (X ++ x ++ Y) hgI (by simp) rfl ?_; (conv => whnf)) | refine Ok.seq ?_ | refine OkL.cons ?_ | ((first | refine Ok.region tok ?_ | refine Ok.region_draw tok follows (by kernel_rfl) ?_ | refine Ok.cond ?_); conv => whnf) | refine Ok.block ?_ | ((first | refine Ok.skip ?_ | refine Ok.exit ?_ | refine Ok.ret ?_ | refine nI ?_ | refine ix _ (by assumption) ?_ | refine ixI (by omega) (by assumption) ?_ | refine ix_new _ (by omega) fun _ _ => ?_ | refine ixI_new (by omega) (by omega) fun _ _ => ?_ | refine ⟨_, by assumption, ?_⟩ | refine Alt2.l (aI ?_) | refine Alt2.r (aI ?_)); conv => whnf) | (refine Ok.scope ?_) | ((first | refine Ok.label ?_ | refine rd rfl (by assumption) ?_ | refine ⟨_, .inl ⟨rfl, rfl⟩, ?_⟩ | refine ⟨_, _, rfl, rfl, ?_⟩); conv => whnf) | (refine ⟨fun _ => ?_, fun _ => ?_⟩ <;> (conv => whnf) <;> (try (exfalso; omega))) | ((first | refine aJ ?_ | refine num_any ?_ | refine ⟨_, rfl, ?_⟩); conv => whnf) | fail)
    all_goals first
      | (exfalso; omega)
      | skip
    refine ⟨i + 1, by omega, by omega, ?_⟩
    rw [← hgs]
    (conv => whnf)
    rfl
  · have hie : i = C.length := by omega
    subst hie
    rw [gL_end]
    (try (conv => whnf)); repeat' (first | refine Ok.seq ?_ | refine OkL.cons ?_ | ((first | refine Ok.region tok ?_ | refine Ok.region_draw tok follows (by kernel_rfl) ?_ | refine Ok.cond ?_); conv => whnf) | refine Ok.block ?_ | ((first | refine Ok.skip ?_ | refine Ok.exit ?_ | refine Ok.ret ?_ | refine nI ?_ | refine ix _ (by assumption) ?_ | refine ixI (by omega) (by assumption) ?_ | refine ix_new _ (by omega) fun _ _ => ?_ | refine ixI_new (by omega) (by omega) fun _ _ => ?_ | refine ⟨_, by assumption, ?_⟩ | refine Alt2.l (aI ?_) | refine Alt2.r (aI ?_)); conv => whnf) | (refine Ok.scope ?_) | ((first | refine Ok.label ?_ | refine rd rfl (by assumption) ?_ | refine ⟨_, .inl ⟨rfl, rfl⟩, ?_⟩ | refine ⟨_, _, rfl, rfl, ?_⟩); conv => whnf) | (refine ⟨fun _ => ?_, fun _ => ?_⟩ <;> (conv => whnf) <;> (try (exfalso; omega))) | ((first | refine aJ ?_ | refine num_any ?_ | refine ⟨_, rfl, ?_⟩); conv => whnf) | fail)
    all_goals first
      | (exfalso; omega)
      | (refine Or.inr (Or.inl ?_); (conv => whnf)
         exact ⟨by simp; rfl, rfl⟩)
      | trace_state
set_option maxHeartbeats 16000000 in
theorem rcubes_ok (l : List Fd) (r : List (List D)) (hl : l.length ≤ 1000) (f : Str) (op form lo hi len : Int) (pat : Str) (hs : pat.length ≤ 1000000000000) (he : errC l ⟨f, op, form, lo, hi, len, pat⟩ = 0) :
    FSpec Tryz.prog T 23 [.lst 34 (l.map frow) r, .agg (tcl f op form lo hi len pat)] (fun d rows => d = .tup [.own 0 (cubL l ⟨f, op, form, lo, hi, len, pat⟩).length, .i .i64 0] ∧ rows = [some (9, (cubL l ⟨f, op, form, lo, hi, len, pat⟩).map srow)]) := by
  have h1 : (l.map frow).length = l.length := by simp
  have hch := rcheck_at l r hl
  by_cases hc0 : (chkO l).1 = 0
  case neg => exact absurd he (by rw [errC_chk hc0]; exact hc0)
  obtain ⟨hlay, hl12⟩ := chk_lay hc0
  rw [errC_f hc0] at he
  have hte := rtest_at l r hl hlay f op form lo hi len pat hs
  rw [he] at hte
  have hpl := tplace_at l r f hl hlay
  rcases find_cases f l with hfi | ⟨k, c, hfi, hc⟩
  · rw [errF_none hfi] at he; cases he
  rw [errF_some hfi hc] at he
  rw [cubL_at hfi hc]
  have hcb := hlay _ (List.mem_of_getElem? hc)
  have hcI : l[((k : Nat) : Int).toNat]? = some c := hc
  have hkl := (List.getElem?_eq_some_iff.1 hc).1
  obtain ⟨b, hb⟩ : ∃ b : Nat, c.bits = (b : Nat) := ⟨c.bits.toNat, by omega⟩
  rw [show c.bits.toNat = b by omega] at he ⊢
  rw [plI_some hfi, hfi] at hpl
  obtain ⟨hF, hV, hD⟩ := errT_zero he
  have hV2 := hV
  unfold ValOk at hV2
  have hA := hF.a
  dsimp only at hV2 hA hD
  obtain ⟨vl, rfl⟩ : ∃ v : Nat, lo = v := ⟨lo.toNat, by omega⟩
  obtain ⟨vh, rfl⟩ : ∃ v : Nat, hi = v := ⟨hi.toNat, by omega⟩
  obtain ⟨vn, rfl⟩ : ∃ v : Nat, len = v := ⟨len.toNat, by omega⟩
  have hva := rat_at f op form vl vh vn pat b (by omega) (by omega) (by omega) (by omega) (by omega) (by omega) (fun h => (hD h).1) (fun h => (hD h).2)
  have hvo := val_one (t := ⟨f, op, form, vl, vh, vn, pat⟩) (b := b) (by omega) (by omega) hD (by simp; omega)
  have hvn := val_len (t := ⟨f, op, form, vl, vh, vn, pat⟩) (b := b) (by omega) (by omega) (by simp; omega) (by simp; omega)
  rw [← hb] at hva
  generalize valT ⟨f, op, form, vl, vh, vn, pat⟩ b = C at *
  have hlt := lay_take hlay k
  have hld := lay_drop hlay (k + 1)
  have hw1 := wid_le hlt
  have hw2 := wid_le hld
  have hww := wid_app l (k + 1)
  have hws := wid_snoc hc
  have hw := wid_le hlay
  have hwt := rwidth_at l r hl hlay
  have ht1 : (l.take k).length = k := by simp; omega
  have ht2 : (l.drop (k + 1)).length = l.length - (k + 1) := by simp
  have hx1 := xs_at (wid (l.take k)) (by omega)
  have hx2 := xs_at (wid (l.drop (k + 1))) (by omega)
  rw [show ((wid (l.drop (k + 1)) : Nat) : Int) = (wid l : Int) - (wid (l.take k) : Int) - c.bits by omega] at hx2
  have hxl1 := xsT_len (wid (l.take k))
  have hxl2 := xsT_len (wid (l.drop (k + 1)))
  generalize xsT (wid (l.take k)) = X at *
  generalize xsT (wid (l.drop (k + 1))) = Y at *
  have hlC : (C.map srow).length = C.length := by simp
  refine FSpec.of_ok tok Tryz.func23 rfl Tryz.call23 (by simp) ?_
  (try (conv => whnf)); repeat' (first | refine Ok.seq ?_ | refine OkL.cons ?_ | ((first | refine Ok.region tok ?_ | refine Ok.region_plan (id := 15) tok follows [(2, 13, []), (6, 15, [14, 7]), (2, 15, [14, 7]), (13, 15, [14]), (6, 16, [15, 14, 7]), (2, 16, [13]), (13, 16, []), (15, 16, [])] [.q 0, .q 1, .q 3, .q 4, .q 5, .q 6, .q 8, .q 9, .q 10, .q 11, .q 12, .l 2, .q 7, .l 13, .q 14, .l 15, .l 16, .q 17] (by kernel_rfl) ?_ | refine Ok.region_draw tok follows (by kernel_rfl) ?_ | refine Ok.cond ?_); conv => whnf) | refine Ok.block ?_ | ((first | refine Ok.skip ?_ | refine Ok.exit ?_ | refine Ok.ret ?_ | refine nI ?_ | refine ix _ (by assumption) ?_ | refine ixI (by omega) (by assumption) ?_ | refine ix_new _ (by omega) fun _ _ => ?_ | refine ixI_new (by omega) (by omega) fun _ _ => ?_ | refine ⟨_, by assumption, ?_⟩); conv => whnf) | (refine Or.inl ?_; (conv => whnf); (repeat (refine aI ?_; conv => whnf)); refine ⟨_, hch, rfl, ?_⟩; conv => whnf) | (refine Or.inl ?_; (conv => whnf); (repeat (refine aI ?_; conv => whnf)); refine ⟨_, hte, rfl, ?_⟩; conv => whnf) | (refine Or.inl ?_; (conv => whnf); (repeat (refine aI ?_; conv => whnf)); refine ⟨_, hpl, rfl, ?_⟩; conv => whnf) | (refine Or.inl ?_; (conv => whnf); (repeat (refine aI ?_; conv => whnf)); refine ⟨_, hwt, rfl, ?_⟩; conv => whnf) | (refine Or.inl ?_; (conv => whnf); (repeat (refine aI ?_; conv => whnf)); refine ⟨_, hva, rfl, ?_⟩; conv => whnf) | ((first | refine ⟨_, hch, rfl, ?_⟩ | refine ⟨_, hte, rfl, ?_⟩ | refine ⟨_, hpl, rfl, ?_⟩ | refine ⟨_, hwt, rfl, ?_⟩ | refine ⟨_, hva, rfl, ?_⟩); conv => whnf) | (refine Or.inr (Or.inl ?_); (conv => whnf); (repeat (refine aI ?_; conv => whnf)); refine ⟨_, hch, ?_⟩; rintro _ _ ⟨rfl, rfl⟩; conv => whnf) | (refine Or.inr (Or.inl ?_); (conv => whnf); (repeat (refine aI ?_; conv => whnf)); refine ⟨_, hte, ?_⟩; rintro _ _ ⟨rfl, rfl⟩; conv => whnf) | (refine Or.inr (Or.inl ?_); (conv => whnf); (repeat (refine aI ?_; conv => whnf)); refine ⟨_, hpl, ?_⟩; rintro _ _ ⟨rfl, rfl⟩; conv => whnf) | (refine Or.inr (Or.inl ?_); (conv => whnf); (repeat (refine aI ?_; conv => whnf)); refine ⟨_, hwt, ?_⟩; rintro _ _ ⟨rfl, rfl⟩; conv => whnf) | (refine Or.inr (Or.inl ?_); (conv => whnf); (repeat (refine aI ?_; conv => whnf)); refine ⟨_, hva, ?_⟩; rintro _ _ ⟨rfl, rfl⟩; conv => whnf) | ((first | refine Alt2.l (aI ?_) | refine Alt2.r (aI ?_)); conv => whnf) | (refine Ok.scope ?_) | ((first | refine Ok.label ?_ | refine rd rfl (by assumption) ?_ | refine ⟨_, .inl ⟨rfl, rfl⟩, ?_⟩ | refine ⟨_, _, rfl, rfl, ?_⟩); conv => whnf) | (refine ⟨fun _ => ?_, fun _ => ?_⟩ <;> (conv => whnf) <;> (try (exfalso; omega))) | ((first | refine aJ ?_ | refine num_any ?_ | refine ⟨_, rfl, ?_⟩); conv => whnf) | fail)
  all_goals first
    | (exfalso; omega)
    | skip
  refine Ok.ghost 13 9 rfl ?_
  (conv => whnf)
  refine Ok.loopU [8, 10, 11, 12] [13, 14] 2 1 (fun (i : Nat) => [.own 1 i, .i .i64 (i : Nat)]) (fun _ b => b) (fun (i : Nat) (_ : Vx.Rows) => [some (9, C.map srow), some (9, ((C.take i).map fun x => X ++ x ++ Y).map srow)]) (fun (i : Nat) => i ≤ C.length) (fun (i : Nat) => C.length - i) (0) (Nat.zero_le _) ?_; (conv => whnf); refine ⟨by ((conv => whnf); first | rfl | (simp [envCat, List.take_of_length_le, nrow, frow, bcell, srow, tcells, crow]; done) | (simp [envCat, List.take_of_length_le, nrow, frow, bcell, srow, tcells, crow]; rw [IntKind.wrap_i64]; omega)), ?_⟩
  intro i hi
  have hgm : (((C.take i).map fun x => X ++ x ++ Y).map srow).length = i := by simp; omega
  (conv => whnf)
  by_cases hil : i < C.length
  · obtain ⟨x, hx⟩ : ∃ x, C[i]? = some x := ⟨_, List.getElem?_eq_getElem hil⟩
    have hxI : C[((i : Nat) : Int).toNat]? = some x := hx
    have hxl := hvo x (List.mem_of_getElem? hx)
    have hap : (X ++ x : Str).length = X.length + x.length := List.length_append
    have hsn : ((C.take (i + 1)).map fun x => X ++ x ++ Y).map srow = ((C.take i).map fun x => X ++ x ++ Y).map srow ++ [srow (X ++ x ++ Y)] := by rw [take_snoc hx, List.map_append, List.map_append]; rfl
    (try (conv => whnf)); repeat' (first | refine Ok.seq ?_ | refine OkL.cons ?_ | ((first | refine Ok.region tok ?_ | refine Ok.region_plan (id := 15) tok follows [(2, 13, []), (6, 15, [14, 7]), (2, 15, [14, 7]), (13, 15, [14]), (6, 16, [15, 14, 7]), (2, 16, [13]), (13, 16, []), (15, 16, [])] [.q 0, .q 1, .q 3, .q 4, .q 5, .q 6, .q 8, .q 9, .q 10, .q 11, .q 12, .l 2, .q 7, .l 13, .q 14, .l 15, .l 16, .q 17] (by kernel_rfl) ?_ | refine Ok.region_draw tok follows (by kernel_rfl) ?_ | refine Ok.cond ?_); conv => whnf) | refine Ok.block ?_ | ((first | refine Ok.skip ?_ | refine Ok.exit ?_ | refine Ok.ret ?_ | refine nI ?_ | refine ix _ (by assumption) ?_ | refine ixI (by omega) (by assumption) ?_ | refine ix_new _ (by omega) fun _ _ => ?_ | refine ixI_new (by omega) (by omega) fun _ _ => ?_ | refine ⟨_, by assumption, ?_⟩); conv => whnf) | (refine Or.inl ?_; (conv => whnf); (repeat (refine aI ?_; conv => whnf)); refine ⟨_, hx1, rfl, ?_⟩; conv => whnf) | (refine Or.inl ?_; (conv => whnf); (repeat (refine aI ?_; conv => whnf)); refine ⟨_, hx2, rfl, ?_⟩; conv => whnf) | ((first | refine ⟨_, hx1, rfl, ?_⟩ | refine ⟨_, hx2, rfl, ?_⟩); conv => whnf) | (refine Or.inr (Or.inl ?_); (conv => whnf); (repeat (refine aI ?_; conv => whnf)); refine ⟨_, hx1, ?_⟩; rintro _ _ ⟨rfl, rfl⟩; conv => whnf) | (refine Or.inr (Or.inl ?_); (conv => whnf); (repeat (refine aI ?_; conv => whnf)); refine ⟨_, hx2, ?_⟩; rintro _ _ ⟨rfl, rfl⟩; conv => whnf) | ((first | refine Alt2.l (aI ?_) | refine Alt2.r (aI ?_)); conv => whnf) | (refine Ok.scope ?_) | ((first | refine Ok.label ?_ | refine rd rfl (by assumption) ?_ | refine ⟨_, .inl ⟨rfl, rfl⟩, ?_⟩ | refine ⟨_, _, rfl, rfl, ?_⟩); conv => whnf) | (refine ⟨fun _ => ?_, fun _ => ?_⟩ <;> (conv => whnf) <;> (try (exfalso; omega))) | ((first | refine aJ ?_ | refine num_any ?_ | refine ⟨_, rfl, ?_⟩); conv => whnf) | fail)
    all_goals first
      | (exfalso; omega)
      | skip
    refine ⟨i + 1, by omega, by omega, ?_⟩
    rw [hsn]
    (conv => whnf)
    simp [envCat]
    try omega
  · have hie : i = C.length := by omega
    subst hie
    rw [List.take_length]
    (try (conv => whnf)); repeat' (first | refine Ok.seq ?_ | refine OkL.cons ?_ | ((first | refine Ok.region tok ?_ | refine Ok.region_plan (id := 15) tok follows [(2, 13, []), (6, 15, [14, 7]), (2, 15, [14, 7]), (13, 15, [14]), (6, 16, [15, 14, 7]), (2, 16, [13]), (13, 16, []), (15, 16, [])] [.q 0, .q 1, .q 3, .q 4, .q 5, .q 6, .q 8, .q 9, .q 10, .q 11, .q 12, .l 2, .q 7, .l 13, .q 14, .l 15, .l 16, .q 17] (by kernel_rfl) ?_ | refine Ok.region_draw tok follows (by kernel_rfl) ?_ | refine Ok.cond ?_); conv => whnf) | refine Ok.block ?_ | ((first | refine Ok.skip ?_ | refine Ok.exit ?_ | refine Ok.ret ?_ | refine nI ?_ | refine ix _ (by assumption) ?_ | refine ixI (by omega) (by assumption) ?_ | refine ix_new _ (by omega) fun _ _ => ?_ | refine ixI_new (by omega) (by omega) fun _ _ => ?_ | refine ⟨_, by assumption, ?_⟩ | refine Alt2.l (aI ?_) | refine Alt2.r (aI ?_)); conv => whnf) | (refine Ok.scope ?_) | ((first | refine Ok.label ?_ | refine rd rfl (by assumption) ?_ | refine ⟨_, .inl ⟨rfl, rfl⟩, ?_⟩ | refine ⟨_, _, rfl, rfl, ?_⟩); conv => whnf) | (refine ⟨fun _ => ?_, fun _ => ?_⟩ <;> (conv => whnf) <;> (try (exfalso; omega))) | ((first | refine aJ ?_ | refine num_any ?_ | refine ⟨_, rfl, ?_⟩); conv => whnf) | fail)
    all_goals first
      | (exfalso; omega)
      | (refine Or.inr (Or.inl ?_); (conv => whnf)
         exact ⟨by simp; rfl, rfl⟩)
      | trace_state
end Go.Proofs.YtagmibogginaaaaGreatDoor
namespace Go.Proofs.YtagmibogginaaaaGreatDoor
open Go Go.Vx Go.Shelf
open Classical in
noncomputable def tstE (l : List Fd) : List Nd → Int
  | [] => 0
  | c :: r => if c.kind = 3 ∧ errC l c.t ≠ 0 then errC l c.t else tstE l r
theorem tstE_bad {l : List Fd} {c : Nd} {r : List Nd} (h : c.kind = 3) (h2 : errC l c.t ≠ 0) : tstE l (c :: r) = errC l c.t := by unfold tstE; rw [if_pos ⟨h, h2⟩]
theorem tstE_ok {l : List Fd} {c : Nd} {r : List Nd} (h : ¬ (c.kind = 3 ∧ errC l c.t ≠ 0)) : tstE l (c :: r) = tstE l r := by conv => lhs; unfold tstE; rw [if_neg h]
noncomputable def nestE (l : List Fd) (e : List Nd) : Option Tr → Int | none => 52 | some x => if 32 < x.nest then 53 else tstE l e
open Classical in
/-- What Check tells. -/
noncomputable def chkE (l : List Fd) (e : List Nd) : Int := if (chkO l).1 ≠ 0 then (chkO l).1 else if 64 < e.length then 51 else nestE l e (bldO e)
theorem chkE_f {l : List Fd} {e : List Nd} (h : (chkO l).1 ≠ 0) : chkE l e = (chkO l).1 := by unfold chkE; rw [if_pos h]
theorem chkE_l {l : List Fd} {e : List Nd} (h : (chkO l).1 = 0) (h2 : 64 < e.length) : chkE l e = 51 := by unfold chkE; rw [if_neg (fun x => x h), if_pos h2]
theorem chkE_b {l : List Fd} {e : List Nd} (h : (chkO l).1 = 0) (h2 : ¬ 64 < e.length) (h3 : bldO e = none) : chkE l e = 52 := by unfold chkE; rw [if_neg (fun x => x h), if_neg h2, h3]; rfl
theorem chkE_d {l : List Fd} {e : List Nd} {x : Tr} (h : (chkO l).1 = 0) (h2 : ¬ 64 < e.length) (h3 : bldO e = some x) (h4 : 32 < x.nest) : chkE l e = 53 := by unfold chkE; rw [if_neg (fun x => x h), if_neg h2, h3]; exact if_pos h4
theorem chkE_t {l : List Fd} {e : List Nd} {x : Tr} (h : (chkO l).1 = 0) (h2 : ¬ 64 < e.length) (h3 : bldO e = some x) (h4 : ¬ 32 < x.nest) : chkE l e = tstE l e := by unfold chkE; rw [if_neg (fun x => x h), if_neg h2, h3]; exact if_neg h4
open Classical in
noncomputable def chkD (l : List Fd) (e : List Nd) : D := if chkE l e = 0 then (match bldO e with | some x => .tup [x.d, .i .i64 0] | none => .u) else .tup [.nilI, .i .i64 (chkE l e)]
theorem chkD_err {l : List Fd} {e : List Nd} {k : Int} (h : chkE l e = k) (h2 : k ≠ 0) : chkD l e = .tup [.nilI, .i .i64 k] := by unfold chkD; rw [h, if_neg h2]
theorem chkD_ok {l : List Fd} {e : List Nd} {x : Tr} (h : chkE l e = 0) (h2 : bldO e = some x) : chkD l e = .tup [x.d, .i .i64 0] := by unfold chkD; rw [if_pos h, h2]
set_option maxHeartbeats 16000000 in
theorem echk_at (l : List Fd) (r : List (List D)) (e : List Nd) (r2 : List (List D)) (hl : l.length ≤ 1000) (he : e.length ≤ 1000) (htx : TxtOk e) :
    FSpec Tryz.prog T 20 [.lst 34 (l.map frow) r, .lst 56 (e.map nrow) r2] (fun d rows => d = chkD l e ∧ rows = []) := by
  have h1 : (l.map frow).length = l.length := by simp
  have h2 : (e.map nrow).length = e.length := by simp
  have hch := check_at l r hl
  refine FSpec.of_ok tok Tryz.func20 rfl Tryz.call20 (by simp) ?_
  by_cases c1 : (chkO l).1 = 0
  case neg =>
    rw [chkD_err (chkE_f c1) c1]
    generalize (chkO l).1 = k at *
    (try (conv => whnf)); repeat' (first | refine Ok.seq ?_ | refine OkL.cons ?_ | ((first | refine Ok.region tok ?_ | refine Ok.region_draw tok follows (by kernel_rfl) ?_ | refine Ok.cond ?_); conv => whnf) | refine Ok.block ?_ | ((first | refine Ok.skip ?_ | refine Ok.exit ?_ | refine Ok.ret ?_ | refine nI ?_ | refine ix _ (by assumption) ?_ | refine ixI (by omega) (by assumption) ?_ | refine ix_new _ (by omega) fun _ _ => ?_ | refine ixI_new (by omega) (by omega) fun _ _ => ?_ | refine ⟨_, by assumption, ?_⟩); conv => whnf) | (refine Or.inl ?_; (conv => whnf); (repeat (refine aI ?_; conv => whnf)); refine ⟨_, hch, rfl, ?_⟩; conv => whnf) | (refine ⟨_, hch, rfl, ?_⟩; conv => whnf) | (refine Or.inr (Or.inl ?_); (conv => whnf); (repeat (refine aI ?_; conv => whnf)); refine ⟨_, hch, ?_⟩; rintro _ _ ⟨rfl, rfl⟩; conv => whnf) | ((first | refine Alt2.l (aI ?_) | refine Alt2.r (aI ?_)); conv => whnf) | (refine Ok.scope ?_) | ((first | refine Ok.label ?_ | refine rd rfl (by assumption) ?_ | refine ⟨_, .inl ⟨rfl, rfl⟩, ?_⟩ | refine ⟨_, _, rfl, rfl, ?_⟩); conv => whnf) | (refine ⟨fun _ => ?_, fun _ => ?_⟩ <;> (conv => whnf) <;> (try (exfalso; omega))) | ((first | refine aJ ?_ | refine num_any ?_ | refine ⟨_, rfl, ?_⟩); conv => whnf) | fail)
    all_goals first
      | (exfalso; omega)
      | (refine Or.inl ?_; (conv => whnf)
         exact ⟨rfl, rfl⟩)
      | trace_state
  by_cases c2 : 64 < e.length
  · rw [chkD_err (chkE_l c1 c2) (by decide)]
    (try (conv => whnf)); repeat' (first | refine Ok.seq ?_ | refine OkL.cons ?_ | ((first | refine Ok.region tok ?_ | refine Ok.region_draw tok follows (by kernel_rfl) ?_ | refine Ok.cond ?_); conv => whnf) | refine Ok.block ?_ | ((first | refine Ok.skip ?_ | refine Ok.exit ?_ | refine Ok.ret ?_ | refine nI ?_ | refine ix _ (by assumption) ?_ | refine ixI (by omega) (by assumption) ?_ | refine ix_new _ (by omega) fun _ _ => ?_ | refine ixI_new (by omega) (by omega) fun _ _ => ?_ | refine ⟨_, by assumption, ?_⟩); conv => whnf) | (refine Or.inl ?_; (conv => whnf); (repeat (refine aI ?_; conv => whnf)); refine ⟨_, hch, rfl, ?_⟩; conv => whnf) | (refine ⟨_, hch, rfl, ?_⟩; conv => whnf) | (refine Or.inr (Or.inl ?_); (conv => whnf); (repeat (refine aI ?_; conv => whnf)); refine ⟨_, hch, ?_⟩; rintro _ _ ⟨rfl, rfl⟩; conv => whnf) | ((first | refine Alt2.l (aI ?_) | refine Alt2.r (aI ?_)); conv => whnf) | (refine Ok.scope ?_) | ((first | refine Ok.label ?_ | refine rd rfl (by assumption) ?_ | refine ⟨_, .inl ⟨rfl, rfl⟩, ?_⟩ | refine ⟨_, _, rfl, rfl, ?_⟩); conv => whnf) | (refine ⟨fun _ => ?_, fun _ => ?_⟩ <;> (conv => whnf) <;> (try (exfalso; omega))) | ((first | refine aJ ?_ | refine num_any ?_ | refine ⟨_, rfl, ?_⟩); conv => whnf) | fail)
    all_goals first
      | (exfalso; omega)
      | (refine Or.inl ?_; (conv => whnf)
         exact ⟨rfl, rfl⟩)
      | trace_state
  have hbl := build_at e r2 he
  cases hb : bldO e with
  | none =>
    rw [chkD_err (chkE_b c1 c2 hb) (by decide)]
    rw [hb] at hbl
    (try (conv => whnf)); repeat' (first | refine Ok.seq ?_ | refine OkL.cons ?_ | ((first | refine Ok.region tok ?_ | refine Ok.region_draw tok follows (by kernel_rfl) ?_ | refine Ok.cond ?_); conv => whnf) | refine Ok.block ?_ | ((first | refine Ok.skip ?_ | refine Ok.exit ?_ | refine Ok.ret ?_ | refine nI ?_ | refine ix _ (by assumption) ?_ | refine ixI (by omega) (by assumption) ?_ | refine ix_new _ (by omega) fun _ _ => ?_ | refine ixI_new (by omega) (by omega) fun _ _ => ?_ | refine ⟨_, by assumption, ?_⟩); conv => whnf) | (refine Or.inl ?_; (conv => whnf); (repeat (refine aI ?_; conv => whnf)); refine ⟨_, hch, rfl, ?_⟩; conv => whnf) | (refine Or.inl ?_; (conv => whnf); (repeat (refine aI ?_; conv => whnf)); refine ⟨_, hbl, rfl, ?_⟩; conv => whnf) | ((first | refine ⟨_, hch, rfl, ?_⟩ | refine ⟨_, hbl, rfl, ?_⟩); conv => whnf) | (refine Or.inr (Or.inl ?_); (conv => whnf); (repeat (refine aI ?_; conv => whnf)); refine ⟨_, hch, ?_⟩; rintro _ _ ⟨rfl, rfl⟩; conv => whnf) | (refine Or.inr (Or.inl ?_); (conv => whnf); (repeat (refine aI ?_; conv => whnf)); refine ⟨_, hbl, ?_⟩; rintro _ _ ⟨rfl, rfl⟩; conv => whnf) | ((first | refine Alt2.l (aI ?_) | refine Alt2.r (aI ?_)); conv => whnf) | (refine Ok.scope ?_) | ((first | refine Ok.label ?_ | refine rd rfl (by assumption) ?_ | refine ⟨_, .inl ⟨rfl, rfl⟩, ?_⟩ | refine ⟨_, _, rfl, rfl, ?_⟩); conv => whnf) | (refine ⟨fun _ => ?_, fun _ => ?_⟩ <;> (conv => whnf) <;> (try (exfalso; omega))) | ((first | refine aJ ?_ | refine num_any ?_ | refine ⟨_, rfl, ?_⟩); conv => whnf) | fail)
    all_goals first
      | (exfalso; omega)
      | (rename_i h; exact absurd (fun h2 => h2) h)
      | (refine Or.inl ?_; (conv => whnf)
         exact ⟨rfl, rfl⟩)
      | trace_state
  | some x =>
    rw [hb] at hbl
    have hsz := bldO_sz hb
    obtain ⟨fx, mx, sx⟩ := nest_at x (by omega)
    have hnx := nest_le x
    by_cases c4 : 32 < x.nest
    · rw [chkD_err (chkE_d c1 c2 hb c4) (by decide)]
      (try (conv => whnf)); repeat' (first | (refine ⟨fun h => absurd trivial h, fun _ => ?_⟩; (conv => whnf)) | refine Ok.seq ?_ | refine OkL.cons ?_ | ((first | refine Ok.region tok ?_ | refine Ok.region_draw tok follows (by kernel_rfl) ?_ | refine Ok.cond ?_); conv => whnf) | refine Ok.block ?_ | ((first | refine Ok.skip ?_ | refine Ok.exit ?_ | refine Ok.ret ?_ | refine nI ?_ | refine ix _ (by assumption) ?_ | refine ixI (by omega) (by assumption) ?_ | refine ix_new _ (by omega) fun _ _ => ?_ | refine ixI_new (by omega) (by omega) fun _ _ => ?_ | refine ⟨_, by assumption, ?_⟩); conv => whnf) | (refine Or.inl ?_; (conv => whnf); (repeat (refine aI ?_; conv => whnf)); refine ⟨_, hch, rfl, ?_⟩; conv => whnf) | (refine Or.inl ?_; (conv => whnf); (repeat (refine aI ?_; conv => whnf)); refine ⟨_, hbl, rfl, ?_⟩; conv => whnf) | ((first | refine ⟨_, hch, rfl, ?_⟩ | refine ⟨_, hbl, rfl, ?_⟩); conv => whnf) | (refine Or.inr (Or.inl ?_); (conv => whnf); (repeat (refine aI ?_; conv => whnf)); refine ⟨_, hch, ?_⟩; rintro _ _ ⟨rfl, rfl⟩; conv => whnf) | (refine Or.inr (Or.inl ?_); (conv => whnf); (repeat (refine aI ?_; conv => whnf)); refine ⟨_, hbl, ?_⟩; rintro _ _ ⟨rfl, rfl⟩; conv => whnf) | (refine ⟨_, mx, _, sx, rfl, ?_⟩; conv => whnf) | (refine Or.inl ?_; (conv => whnf); (repeat (refine aI ?_; conv => whnf)); refine ⟨_, mx, _, sx, rfl, ?_⟩; conv => whnf) | ((first | refine Alt2.l (aI ?_) | refine Alt2.r (aI ?_)); conv => whnf) | (refine Ok.scope ?_) | ((first | refine Ok.label ?_ | refine rd rfl (by assumption) ?_ | refine ⟨_, .inl ⟨rfl, rfl⟩, ?_⟩ | refine ⟨_, _, rfl, rfl, ?_⟩); conv => whnf) | (refine ⟨fun _ => ?_, fun _ => ?_⟩ <;> (conv => whnf) <;> (try (exfalso; omega))) | ((first | refine aJ ?_ | refine num_any ?_ | refine ⟨_, rfl, ?_⟩); conv => whnf) | fail)
      all_goals first
        | (exfalso; omega)
        | (refine Or.inl ?_; (conv => whnf)
           exact ⟨rfl, rfl⟩)
        | trace_state
    · have hce := chkE_t c1 c2 hb c4
      (try (conv => whnf)); repeat' (first | (refine ⟨fun h => absurd trivial h, fun _ => ?_⟩; (conv => whnf)) | refine Ok.seq ?_ | refine OkL.cons ?_ | ((first | refine Ok.region tok ?_ | refine Ok.region_draw tok follows (by kernel_rfl) ?_ | refine Ok.cond ?_); conv => whnf) | refine Ok.block ?_ | ((first | refine Ok.skip ?_ | refine Ok.exit ?_ | refine Ok.ret ?_ | refine nI ?_ | refine ix _ (by assumption) ?_ | refine ixI (by omega) (by assumption) ?_ | refine ix_new _ (by omega) fun _ _ => ?_ | refine ixI_new (by omega) (by omega) fun _ _ => ?_ | refine ⟨_, by assumption, ?_⟩); conv => whnf) | (refine Or.inl ?_; (conv => whnf); (repeat (refine aI ?_; conv => whnf)); refine ⟨_, hch, rfl, ?_⟩; conv => whnf) | (refine Or.inl ?_; (conv => whnf); (repeat (refine aI ?_; conv => whnf)); refine ⟨_, hbl, rfl, ?_⟩; conv => whnf) | ((first | refine ⟨_, hch, rfl, ?_⟩ | refine ⟨_, hbl, rfl, ?_⟩); conv => whnf) | (refine Or.inr (Or.inl ?_); (conv => whnf); (repeat (refine aI ?_; conv => whnf)); refine ⟨_, hch, ?_⟩; rintro _ _ ⟨rfl, rfl⟩; conv => whnf) | (refine Or.inr (Or.inl ?_); (conv => whnf); (repeat (refine aI ?_; conv => whnf)); refine ⟨_, hbl, ?_⟩; rintro _ _ ⟨rfl, rfl⟩; conv => whnf) | (refine ⟨_, mx, _, sx, rfl, ?_⟩; conv => whnf) | (refine Or.inl ?_; (conv => whnf); (repeat (refine aI ?_; conv => whnf)); refine ⟨_, mx, _, sx, rfl, ?_⟩; conv => whnf) | ((first | refine Alt2.l (aI ?_) | refine Alt2.r (aI ?_)); conv => whnf) | (refine Ok.scope ?_) | ((first | refine Ok.label ?_ | refine rd rfl (by assumption) ?_ | refine ⟨_, .inl ⟨rfl, rfl⟩, ?_⟩ | refine ⟨_, _, rfl, rfl, ?_⟩); conv => whnf) | (refine ⟨fun _ => ?_, fun _ => ?_⟩ <;> (conv => whnf) <;> (try (exfalso; omega))) | ((first | refine aJ ?_ | refine num_any ?_ | refine ⟨_, rfl, ?_⟩); conv => whnf) | fail)
      all_goals first
        | (exfalso; omega)
        | skip
      refine Ok.loopU [0, 8, 35, 36] [37] 0 0 (fun (i : Nat) => [.i .i64 (i : Nat)]) (fun _ b => b) (fun _ r => r) (fun (i : Nat) => i ≤ e.length ∧ tstE l e = tstE l (e.drop i)) (fun (i : Nat) => e.length - i) (0) (⟨Nat.zero_le _, rfl⟩) ?_; (conv => whnf); refine ⟨by ((conv => whnf); first | rfl | (simp [envCat, List.take_of_length_le, nrow, frow, bcell, srow, tcells, crow, qrow, prow]; done) | (simp [envCat, List.take_of_length_le, nrow, frow, bcell, srow, tcells, crow, qrow, prow]; rw [IntKind.wrap_i64]; omega)), ?_⟩
      rintro i ⟨hi, ht⟩
      (conv => whnf)
      by_cases hil : i < e.length
      · obtain ⟨c, hc⟩ : ∃ c, e[i]? = some c := ⟨_, List.getElem?_eq_getElem hil⟩
        have hcI : e[((i : Nat) : Int).toNat]? = some c := hc
        have htc := htx c (List.mem_of_getElem? hc)
        rw [fdrop_at hc] at ht
        by_cases hk : c.kind = 3
        · by_cases hE : errC l c.t = 0
          · have hcu := cubes_ok l r hl c.t.f c.t.op c.t.form c.t.lo c.t.hi c.t.len c.t.pat htc.2 hE
            generalize cubL l ⟨c.t.f, c.t.op, c.t.form, c.t.lo, c.t.hi, c.t.len, c.t.pat⟩ = Q at *
            rw [tstE_ok (fun h => h.2 hE)] at ht
            (try (conv => whnf)); repeat' (first | refine Ok.seq ?_ | refine OkL.cons ?_ | ((first | refine Ok.region tok ?_ | refine Ok.region_draw tok follows (by kernel_rfl) ?_ | refine Ok.cond ?_); conv => whnf) | refine Ok.block ?_ | ((first | refine Ok.skip ?_ | refine Ok.exit ?_ | refine Ok.ret ?_ | refine nI ?_ | refine ix _ (by assumption) ?_ | refine ixI (by omega) (by assumption) ?_ | refine ix_new _ (by omega) fun _ _ => ?_ | refine ixI_new (by omega) (by omega) fun _ _ => ?_ | refine ⟨_, by assumption, ?_⟩); conv => whnf) | (refine Or.inl ?_; (conv => whnf); (repeat (refine aI ?_; conv => whnf)); refine ⟨_, hcu, rfl, ?_⟩; conv => whnf) | (refine ⟨_, hcu, rfl, ?_⟩; conv => whnf) | (refine Or.inr (Or.inl ?_); (conv => whnf); (repeat (refine aI ?_; conv => whnf)); refine ⟨_, hcu, ?_⟩; rintro _ _ ⟨rfl, rfl⟩; conv => whnf) | ((first | refine Alt2.l (aI ?_) | refine Alt2.r (aI ?_)); conv => whnf) | (refine Ok.scope ?_) | ((first | refine Ok.label ?_ | refine rd rfl (by assumption) ?_ | refine ⟨_, .inl ⟨rfl, rfl⟩, ?_⟩ | refine ⟨_, _, rfl, rfl, ?_⟩); conv => whnf) | (refine ⟨fun _ => ?_, fun _ => ?_⟩ <;> (conv => whnf) <;> (try (exfalso; omega))) | ((first | refine aJ ?_ | refine num_any ?_ | refine ⟨_, rfl, ?_⟩); conv => whnf) | fail)
            all_goals first
              | (exfalso; omega)
              | (refine ⟨i + 1, by omega, ⟨by omega, ht⟩, ?_⟩
                 (conv => whnf)
                 rfl)
              | trace_state
          · have hcu := cubes_err l r hl c.t.f c.t.op c.t.form c.t.lo c.t.hi c.t.len c.t.pat htc.2 hE
            rw [tstE_bad hk hE] at ht
            rw [chkD_err (hce.trans ht) hE]
            have hE2 : errC l ⟨c.t.f, c.t.op, c.t.form, c.t.lo, c.t.hi, c.t.len, c.t.pat⟩ = errC l c.t := rfl
            rw [hE2] at hcu
            generalize errC l c.t = k at *
            (try (conv => whnf)); repeat' (first | refine Ok.seq ?_ | refine OkL.cons ?_ | ((first | refine Ok.region tok ?_ | refine Ok.region_draw tok follows (by kernel_rfl) ?_ | refine Ok.cond ?_); conv => whnf) | refine Ok.block ?_ | ((first | refine Ok.skip ?_ | refine Ok.exit ?_ | refine Ok.ret ?_ | refine nI ?_ | refine ix _ (by assumption) ?_ | refine ixI (by omega) (by assumption) ?_ | refine ix_new _ (by omega) fun _ _ => ?_ | refine ixI_new (by omega) (by omega) fun _ _ => ?_ | refine ⟨_, by assumption, ?_⟩); conv => whnf) | (refine Or.inl ?_; (conv => whnf); (repeat (refine aI ?_; conv => whnf)); refine ⟨_, hcu, rfl, ?_⟩; conv => whnf) | (refine ⟨_, hcu, rfl, ?_⟩; conv => whnf) | (refine Or.inr (Or.inl ?_); (conv => whnf); (repeat (refine aI ?_; conv => whnf)); refine ⟨_, hcu, ?_⟩; rintro _ _ ⟨rfl, rfl⟩; conv => whnf) | ((first | refine Alt2.l (aI ?_) | refine Alt2.r (aI ?_)); conv => whnf) | (refine Ok.scope ?_) | ((first | refine Ok.label ?_ | refine rd rfl (by assumption) ?_ | refine ⟨_, .inl ⟨rfl, rfl⟩, ?_⟩ | refine ⟨_, _, rfl, rfl, ?_⟩); conv => whnf) | (refine ⟨fun _ => ?_, fun _ => ?_⟩ <;> (conv => whnf) <;> (try (exfalso; omega))) | ((first | refine aJ ?_ | refine num_any ?_ | refine ⟨_, rfl, ?_⟩); conv => whnf) | fail)
            all_goals first
              | (exfalso; omega)
              | (refine Or.inl ?_; (conv => whnf)
                 exact ⟨rfl, rfl⟩)
              | trace_state
        · rw [tstE_ok (fun h => hk h.1)] at ht
          (try (conv => whnf)); repeat' (first | refine Ok.seq ?_ | refine OkL.cons ?_ | ((first | refine Ok.region tok ?_ | refine Ok.region_draw tok follows (by kernel_rfl) ?_ | refine Ok.cond ?_); conv => whnf) | refine Ok.block ?_ | ((first | refine Ok.skip ?_ | refine Ok.exit ?_ | refine Ok.ret ?_ | refine nI ?_ | refine ix _ (by assumption) ?_ | refine ixI (by omega) (by assumption) ?_ | refine ix_new _ (by omega) fun _ _ => ?_ | refine ixI_new (by omega) (by omega) fun _ _ => ?_ | refine ⟨_, by assumption, ?_⟩ | refine Alt2.l (aI ?_) | refine Alt2.r (aI ?_)); conv => whnf) | (refine Ok.scope ?_) | ((first | refine Ok.label ?_ | refine rd rfl (by assumption) ?_ | refine ⟨_, .inl ⟨rfl, rfl⟩, ?_⟩ | refine ⟨_, _, rfl, rfl, ?_⟩); conv => whnf) | (refine ⟨fun _ => ?_, fun _ => ?_⟩ <;> (conv => whnf) <;> (try (exfalso; omega))) | ((first | refine aJ ?_ | refine num_any ?_ | refine ⟨_, rfl, ?_⟩); conv => whnf) | fail)
          all_goals first
            | (exfalso; omega)
            | (refine ⟨i + 1, by omega, ⟨by omega, ht⟩, ?_⟩
               (conv => whnf)
               rfl)
            | trace_state
      · have hie : i = e.length := by omega
        subst hie
        rw [List.drop_length] at ht
        rw [chkD_ok (hce.trans ht) hb]
        (try (conv => whnf)); repeat' (first | refine Ok.seq ?_ | refine OkL.cons ?_ | ((first | refine Ok.region tok ?_ | refine Ok.region_draw tok follows (by kernel_rfl) ?_ | refine Ok.cond ?_); conv => whnf) | refine Ok.block ?_ | ((first | refine Ok.skip ?_ | refine Ok.exit ?_ | refine Ok.ret ?_ | refine nI ?_ | refine ix _ (by assumption) ?_ | refine ixI (by omega) (by assumption) ?_ | refine ix_new _ (by omega) fun _ _ => ?_ | refine ixI_new (by omega) (by omega) fun _ _ => ?_ | refine ⟨_, by assumption, ?_⟩ | refine Alt2.l (aI ?_) | refine Alt2.r (aI ?_)); conv => whnf) | (refine Ok.scope ?_) | ((first | refine Ok.label ?_ | refine rd rfl (by assumption) ?_ | refine ⟨_, .inl ⟨rfl, rfl⟩, ?_⟩ | refine ⟨_, _, rfl, rfl, ?_⟩); conv => whnf) | (refine ⟨fun _ => ?_, fun _ => ?_⟩ <;> (conv => whnf) <;> (try (exfalso; omega))) | ((first | refine aJ ?_ | refine num_any ?_ | refine ⟨_, rfl, ?_⟩); conv => whnf) | fail)
        all_goals first
          | (exfalso; omega)
          | (refine Or.inl ?_; (conv => whnf)
             exact ⟨rfl, rfl⟩)
          | trace_state
end Go.Proofs.YtagmibogginaaaaGreatDoor
namespace Go.Proofs.YtagmibogginaaaaGreatDoor
open Go Go.Vx Go.Shelf
theorem chkD_two (l : List Fd) (e : List Nd) : ∃ y : D, chkD l e = .tup [y, .i .i64 (chkE l e)] ∧ (y = .nilI ∨ ∃ x : Tr, y = x.d) := by
  by_cases h : chkE l e = 0
  · cases hb : bldO e with
    | none =>
      exfalso
      unfold chkE at h
      split at h
      · rename_i h1; exact h1 h
      split at h
      · cases h
      · rw [hb] at h; cases h
    | some x => exact ⟨x.d, by rw [chkD_ok h hb, h], .inr ⟨x, rfl⟩⟩
  · exact ⟨.nilI, chkD_err rfl h, .inl rfl⟩
theorem pcheck_at (l : List Fd) (r : List (List D)) (e : List Nd) (r2 : List (List D)) (hl : l.length ≤ 1000) (he : e.length ≤ 1000) (htx : TxtOk e) :
    FSpec Tryz.prog T 8 [.lst 34 (l.map frow) r, .lst 56 (e.map nrow) r2] (fun d _ => d = .i .i64 (chkE l e)) := by
  have hk := echk_at l r e r2 hl he htx
  obtain ⟨y, hy, hx⟩ := chkD_two l e
  rw [hy] at hk
  refine FSpec.of_ok tok Tryz.func8 rfl Tryz.call8 (by simp) ?_
  rcases hx with rfl | ⟨x, rfl⟩
  · (try (conv => whnf)); repeat' (first | refine Ok.seq ?_ | refine OkL.cons ?_ | ((first | refine Ok.region tok ?_ | refine Ok.region_draw tok follows (by kernel_rfl) ?_ | refine Ok.cond ?_); conv => whnf) | refine Ok.block ?_ | ((first | refine Ok.skip ?_ | refine Ok.exit ?_ | refine Ok.ret ?_ | refine nI ?_ | refine ix _ (by assumption) ?_ | refine ixI (by omega) (by assumption) ?_ | refine ix_new _ (by omega) fun _ _ => ?_ | refine ixI_new (by omega) (by omega) fun _ _ => ?_ | refine ⟨_, by assumption, ?_⟩); conv => whnf) | (refine Or.inl ?_; (conv => whnf); (repeat (refine aI ?_; conv => whnf)); refine ⟨_, hk, rfl, ?_⟩; conv => whnf) | (refine ⟨_, hk, rfl, ?_⟩; conv => whnf) | (refine Or.inr (Or.inl ?_); (conv => whnf); (repeat (refine aI ?_; conv => whnf)); refine ⟨_, hk, ?_⟩; rintro _ _ ⟨rfl, rfl⟩; conv => whnf) | ((first | refine Alt2.l (aI ?_) | refine Alt2.r (aI ?_)); conv => whnf) | (refine Ok.scope ?_) | ((first | refine Ok.label ?_ | refine rd rfl (by assumption) ?_ | refine ⟨_, .inl ⟨rfl, rfl⟩, ?_⟩ | refine ⟨_, _, rfl, rfl, ?_⟩); conv => whnf) | (refine ⟨fun _ => ?_, fun _ => ?_⟩ <;> (conv => whnf) <;> (try (exfalso; omega))) | ((first | refine aJ ?_ | refine num_any ?_ | refine ⟨_, rfl, ?_⟩); conv => whnf) | fail)
    refine Or.inl ?_; (conv => whnf)
    rfl
  · (try (conv => whnf)); repeat' (first | refine Ok.seq ?_ | refine OkL.cons ?_ | ((first | refine Ok.region tok ?_ | refine Ok.region_draw tok follows (by kernel_rfl) ?_ | refine Ok.cond ?_); conv => whnf) | refine Ok.block ?_ | ((first | refine Ok.skip ?_ | refine Ok.exit ?_ | refine Ok.ret ?_ | refine nI ?_ | refine ix _ (by assumption) ?_ | refine ixI (by omega) (by assumption) ?_ | refine ix_new _ (by omega) fun _ _ => ?_ | refine ixI_new (by omega) (by omega) fun _ _ => ?_ | refine ⟨_, by assumption, ?_⟩); conv => whnf) | (refine Or.inl ?_; (conv => whnf); (repeat (refine aI ?_; conv => whnf)); refine ⟨_, hk, rfl, ?_⟩; conv => whnf) | (refine ⟨_, hk, rfl, ?_⟩; conv => whnf) | (refine Or.inr (Or.inl ?_); (conv => whnf); (repeat (refine aI ?_; conv => whnf)); refine ⟨_, hk, ?_⟩; rintro _ _ ⟨rfl, rfl⟩; conv => whnf) | ((first | refine Alt2.l (aI ?_) | refine Alt2.r (aI ?_)); conv => whnf) | (refine Ok.scope ?_) | ((first | refine Ok.label ?_ | refine rd rfl (by assumption) ?_ | refine ⟨_, .inl ⟨rfl, rfl⟩, ?_⟩ | refine ⟨_, _, rfl, rfl, ?_⟩); conv => whnf) | (refine ⟨fun _ => ?_, fun _ => ?_⟩ <;> (conv => whnf) <;> (try (exfalso; omega))) | ((first | refine aJ ?_ | refine num_any ?_ | refine ⟨_, rfl, ?_⟩); conv => whnf) | fail)
    refine Or.inl ?_; (conv => whnf)
    rfl
set_option maxHeartbeats 16000000 in
theorem rechk_at (l : List Fd) (r : List (List D)) (e : List Nd) (r2 : List (List D)) (hl : l.length ≤ 1000) (he : e.length ≤ 1000) (htx : TxtOk e) :
    FSpec Tryz.prog T 10 [.lst 34 (l.map frow) r, .lst 56 (e.map nrow) r2] (fun d _ => d = .i .i64 (chkE l e)) := by
  have h1 : (l.map frow).length = l.length := by simp
  have h2 : (e.map nrow).length = e.length := by simp
  have hch := rcheck_at l r hl
  refine FSpec.of_ok tok Tryz.func10 rfl Tryz.call10 (by simp) ?_
  by_cases c1 : (chkO l).1 = 0
  case neg =>
    rw [chkE_f c1]
    generalize (chkO l).1 = k at *
    (try (conv => whnf)); repeat' (first | refine Ok.seq ?_ | refine OkL.cons ?_ | ((first | refine Ok.region tok ?_ | refine Ok.region_draw tok follows (by kernel_rfl) ?_ | refine Ok.cond ?_); conv => whnf) | refine Ok.block ?_ | ((first | refine Ok.skip ?_ | refine Ok.exit ?_ | refine Ok.ret ?_ | refine nI ?_ | refine ix _ (by assumption) ?_ | refine ixI (by omega) (by assumption) ?_ | refine ix_new _ (by omega) fun _ _ => ?_ | refine ixI_new (by omega) (by omega) fun _ _ => ?_ | refine ⟨_, by assumption, ?_⟩); conv => whnf) | (refine Or.inl ?_; (conv => whnf); (repeat (refine aI ?_; conv => whnf)); refine ⟨_, hch, rfl, ?_⟩; conv => whnf) | (refine ⟨_, hch, rfl, ?_⟩; conv => whnf) | (refine Or.inr (Or.inl ?_); (conv => whnf); (repeat (refine aI ?_; conv => whnf)); refine ⟨_, hch, ?_⟩; rintro _ _ ⟨rfl, rfl⟩; conv => whnf) | ((first | refine Alt2.l (aI ?_) | refine Alt2.r (aI ?_)); conv => whnf) | (refine Ok.scope ?_) | ((first | refine Ok.label ?_ | refine rd rfl (by assumption) ?_ | refine ⟨_, .inl ⟨rfl, rfl⟩, ?_⟩ | refine ⟨_, _, rfl, rfl, ?_⟩); conv => whnf) | (refine ⟨fun _ => ?_, fun _ => ?_⟩ <;> (conv => whnf) <;> (try (exfalso; omega))) | ((first | refine aJ ?_ | refine num_any ?_ | refine ⟨_, rfl, ?_⟩); conv => whnf) | fail)
    all_goals first
      | (exfalso; omega)
      | (refine Or.inl ?_; (conv => whnf)
         rfl)
      | trace_state
  by_cases c2 : 64 < e.length
  · rw [chkE_l c1 c2]
    (try (conv => whnf)); repeat' (first | refine Ok.seq ?_ | refine OkL.cons ?_ | ((first | refine Ok.region tok ?_ | refine Ok.region_draw tok follows (by kernel_rfl) ?_ | refine Ok.cond ?_); conv => whnf) | refine Ok.block ?_ | ((first | refine Ok.skip ?_ | refine Ok.exit ?_ | refine Ok.ret ?_ | refine nI ?_ | refine ix _ (by assumption) ?_ | refine ixI (by omega) (by assumption) ?_ | refine ix_new _ (by omega) fun _ _ => ?_ | refine ixI_new (by omega) (by omega) fun _ _ => ?_ | refine ⟨_, by assumption, ?_⟩); conv => whnf) | (refine Or.inl ?_; (conv => whnf); (repeat (refine aI ?_; conv => whnf)); refine ⟨_, hch, rfl, ?_⟩; conv => whnf) | (refine ⟨_, hch, rfl, ?_⟩; conv => whnf) | (refine Or.inr (Or.inl ?_); (conv => whnf); (repeat (refine aI ?_; conv => whnf)); refine ⟨_, hch, ?_⟩; rintro _ _ ⟨rfl, rfl⟩; conv => whnf) | ((first | refine Alt2.l (aI ?_) | refine Alt2.r (aI ?_)); conv => whnf) | (refine Ok.scope ?_) | ((first | refine Ok.label ?_ | refine rd rfl (by assumption) ?_ | refine ⟨_, .inl ⟨rfl, rfl⟩, ?_⟩ | refine ⟨_, _, rfl, rfl, ?_⟩); conv => whnf) | (refine ⟨fun _ => ?_, fun _ => ?_⟩ <;> (conv => whnf) <;> (try (exfalso; omega))) | ((first | refine aJ ?_ | refine num_any ?_ | refine ⟨_, rfl, ?_⟩); conv => whnf) | fail)
    all_goals first
      | (exfalso; omega)
      | (refine Or.inl ?_; (conv => whnf)
         rfl)
      | trace_state
  have htl := tell_at e r2 (by omega) htx
  unfold tellP at htl
  cases hb : bldO e with
  | none =>
    rw [chkE_b c1 c2 hb]
    rw [hb] at htl
    dsimp only at htl
    (try (conv => whnf)); repeat' (first | (refine ⟨fun _ => ?_, fun h => absurd (fun h2 => h2) h⟩; (conv => whnf)) | refine Ok.seq ?_ | refine OkL.cons ?_ | ((first | refine Ok.region tok ?_ | refine Ok.region_draw tok follows (by kernel_rfl) ?_ | refine Ok.cond ?_); conv => whnf) | refine Ok.block ?_ | ((first | refine Ok.skip ?_ | refine Ok.exit ?_ | refine Ok.ret ?_ | refine nI ?_ | refine ix _ (by assumption) ?_ | refine ixI (by omega) (by assumption) ?_ | refine ix_new _ (by omega) fun _ _ => ?_ | refine ixI_new (by omega) (by omega) fun _ _ => ?_ | refine ⟨_, by assumption, ?_⟩); conv => whnf) | (refine Or.inl ?_; (conv => whnf); (repeat (refine aI ?_; conv => whnf)); refine ⟨_, hch, rfl, ?_⟩; conv => whnf) | (refine Or.inl ?_; (conv => whnf); (repeat (refine aI ?_; conv => whnf)); refine ⟨_, htl, rfl, ?_⟩; conv => whnf) | ((first | refine ⟨_, hch, rfl, ?_⟩ | refine ⟨_, htl, rfl, ?_⟩); conv => whnf) | (refine Or.inr (Or.inl ?_); (conv => whnf); (repeat (refine aI ?_; conv => whnf)); refine ⟨_, hch, ?_⟩; rintro _ _ ⟨rfl, rfl⟩; conv => whnf) | (refine Or.inr (Or.inl ?_); (conv => whnf); (repeat (refine aI ?_; conv => whnf)); refine ⟨_, htl, ?_⟩; rintro _ _ ⟨rfl, rfl⟩; conv => whnf) | ((first | refine Alt2.l (aI ?_) | refine Alt2.r (aI ?_)); conv => whnf) | (refine Ok.scope ?_) | ((first | refine Ok.label ?_ | refine rd rfl (by assumption) ?_ | refine ⟨_, .inl ⟨rfl, rfl⟩, ?_⟩ | refine ⟨_, _, rfl, rfl, ?_⟩); conv => whnf) | (refine ⟨fun _ => ?_, fun _ => ?_⟩ <;> (conv => whnf) <;> (try (exfalso; omega))) | ((first | refine aJ ?_ | refine num_any ?_ | refine ⟨_, rfl, ?_⟩); conv => whnf) | fail)
    all_goals first
      | (exfalso; omega)
      | (rename_i h; exact absurd (fun h2 => h2) h)
      | (refine Or.inl ?_; (conv => whnf)
         rfl)
      | trace_state
  | some x =>
    rw [hb] at htl
    dsimp only at htl
    have hsz := bldO_sz hb
    have hnx := nest_le x
    by_cases c4 : 32 < x.nest
    · rw [chkE_d c1 c2 hb c4]
      (try (conv => whnf)); repeat' (first | (refine ⟨fun h => absurd trivial h, fun _ => ?_⟩; (conv => whnf)) | refine Ok.seq ?_ | refine OkL.cons ?_ | ((first | refine Ok.region tok ?_ | refine Ok.region_draw tok follows (by kernel_rfl) ?_ | refine Ok.cond ?_); conv => whnf) | refine Ok.block ?_ | ((first | refine Ok.skip ?_ | refine Ok.exit ?_ | refine Ok.ret ?_ | refine nI ?_ | refine ix _ (by assumption) ?_ | refine ixI (by omega) (by assumption) ?_ | refine ix_new _ (by omega) fun _ _ => ?_ | refine ixI_new (by omega) (by omega) fun _ _ => ?_ | refine ⟨_, by assumption, ?_⟩); conv => whnf) | (refine Or.inl ?_; (conv => whnf); (repeat (refine aI ?_; conv => whnf)); refine ⟨_, hch, rfl, ?_⟩; conv => whnf) | (refine ⟨_, hch, rfl, ?_⟩; conv => whnf) | (refine Or.inr (Or.inl ?_); (conv => whnf); (repeat (refine aI ?_; conv => whnf)); refine ⟨_, hch, ?_⟩; rintro _ _ ⟨rfl, rfl⟩; conv => whnf) | (refine Or.inr (Or.inl ?_); (conv => whnf); (repeat (refine aI ?_; conv => whnf)); refine ⟨_, htl , ?_⟩; rintro _ _ ⟨⟨s, rfl⟩, rfl⟩ <;> (conv => whnf)) | ((first | refine Alt2.l (aI ?_) | refine Alt2.r (aI ?_)); conv => whnf) | (refine Ok.scope ?_) | ((first | refine Ok.label ?_ | refine rd rfl (by assumption) ?_ | refine ⟨_, .inl ⟨rfl, rfl⟩, ?_⟩ | refine ⟨_, _, rfl, rfl, ?_⟩); conv => whnf) | (refine ⟨fun _ => ?_, fun _ => ?_⟩ <;> (conv => whnf) <;> (try (exfalso; omega))) | ((first | refine aJ ?_ | refine num_any ?_ | refine ⟨_, rfl, ?_⟩); conv => whnf) | fail)
      all_goals first
        | (exfalso; omega)
        | (refine Or.inl ?_; (conv => whnf)
           rfl)
        | trace_state
    · rw [chkE_t c1 c2 hb c4]
      (try (conv => whnf)); repeat' (first | (refine ⟨fun h => absurd trivial h, fun _ => ?_⟩; (conv => whnf)) | refine Ok.seq ?_ | refine OkL.cons ?_ | ((first | refine Ok.region tok ?_ | refine Ok.region_draw tok follows (by kernel_rfl) ?_ | refine Ok.cond ?_); conv => whnf) | refine Ok.block ?_ | ((first | refine Ok.skip ?_ | refine Ok.exit ?_ | refine Ok.ret ?_ | refine nI ?_ | refine ix _ (by assumption) ?_ | refine ixI (by omega) (by assumption) ?_ | refine ix_new _ (by omega) fun _ _ => ?_ | refine ixI_new (by omega) (by omega) fun _ _ => ?_ | refine ⟨_, by assumption, ?_⟩); conv => whnf) | (refine Or.inl ?_; (conv => whnf); (repeat (refine aI ?_; conv => whnf)); refine ⟨_, hch, rfl, ?_⟩; conv => whnf) | (refine ⟨_, hch, rfl, ?_⟩; conv => whnf) | (refine Or.inr (Or.inl ?_); (conv => whnf); (repeat (refine aI ?_; conv => whnf)); refine ⟨_, hch, ?_⟩; rintro _ _ ⟨rfl, rfl⟩; conv => whnf) | (refine Or.inr (Or.inl ?_); (conv => whnf); (repeat (refine aI ?_; conv => whnf)); refine ⟨_, htl , ?_⟩; rintro _ _ ⟨⟨s, rfl⟩, rfl⟩ <;> (conv => whnf)) | ((first | refine Alt2.l (aI ?_) | refine Alt2.r (aI ?_)); conv => whnf) | (refine Ok.scope ?_) | ((first | refine Ok.label ?_ | refine rd rfl (by assumption) ?_ | refine ⟨_, .inl ⟨rfl, rfl⟩, ?_⟩ | refine ⟨_, _, rfl, rfl, ?_⟩); conv => whnf) | (refine ⟨fun _ => ?_, fun _ => ?_⟩ <;> (conv => whnf) <;> (try (exfalso; omega))) | ((first | refine aJ ?_ | refine num_any ?_ | refine ⟨_, rfl, ?_⟩); conv => whnf) | fail)
      all_goals first
        | (exfalso; omega)
        | skip
      refine Ok.loopU [0, 1] [9] 0 0 (fun (i : Nat) => [.i .i64 (i : Nat)]) (fun _ b => b) (fun _ r => r) (fun (i : Nat) => i ≤ e.length ∧ tstE l e = tstE l (e.drop i)) (fun (i : Nat) => e.length - i) (0) (⟨Nat.zero_le _, rfl⟩) ?_; (conv => whnf); refine ⟨by ((conv => whnf); first | rfl | (simp [envCat, List.take_of_length_le, nrow, frow, bcell, srow, tcells, crow, qrow, prow]; done) | (simp [envCat, List.take_of_length_le, nrow, frow, bcell, srow, tcells, crow, qrow, prow]; rw [IntKind.wrap_i64]; omega)), ?_⟩
      rintro i ⟨hi, ht⟩
      (conv => whnf)
      by_cases hil : i < e.length
      · obtain ⟨c, hc⟩ : ∃ c, e[i]? = some c := ⟨_, List.getElem?_eq_getElem hil⟩
        have hcI : e[((i : Nat) : Int).toNat]? = some c := hc
        have htc := htx c (List.mem_of_getElem? hc)
        rw [fdrop_at hc] at ht
        by_cases hk : c.kind = 3
        · by_cases hE : errC l c.t = 0
          · have hcu := rcubes_ok l r hl c.t.f c.t.op c.t.form c.t.lo c.t.hi c.t.len c.t.pat htc.2 hE
            generalize cubL l ⟨c.t.f, c.t.op, c.t.form, c.t.lo, c.t.hi, c.t.len, c.t.pat⟩ = Q at *
            rw [tstE_ok (fun h => h.2 hE)] at ht
            (try (conv => whnf)); repeat' (first | refine Ok.seq ?_ | refine OkL.cons ?_ | ((first | refine Ok.region tok ?_ | refine Ok.region_draw tok follows (by kernel_rfl) ?_ | refine Ok.cond ?_); conv => whnf) | refine Ok.block ?_ | ((first | refine Ok.skip ?_ | refine Ok.exit ?_ | refine Ok.ret ?_ | refine nI ?_ | refine ix _ (by assumption) ?_ | refine ixI (by omega) (by assumption) ?_ | refine ix_new _ (by omega) fun _ _ => ?_ | refine ixI_new (by omega) (by omega) fun _ _ => ?_ | refine ⟨_, by assumption, ?_⟩); conv => whnf) | (refine Or.inl ?_; (conv => whnf); (repeat (refine aI ?_; conv => whnf)); refine ⟨_, hcu, rfl, ?_⟩; conv => whnf) | (refine ⟨_, hcu, rfl, ?_⟩; conv => whnf) | (refine Or.inr (Or.inl ?_); (conv => whnf); (repeat (refine aI ?_; conv => whnf)); refine ⟨_, hcu, ?_⟩; rintro _ _ ⟨rfl, rfl⟩; conv => whnf) | ((first | refine Alt2.l (aI ?_) | refine Alt2.r (aI ?_)); conv => whnf) | (refine Ok.scope ?_) | ((first | refine Ok.label ?_ | refine rd rfl (by assumption) ?_ | refine ⟨_, .inl ⟨rfl, rfl⟩, ?_⟩ | refine ⟨_, _, rfl, rfl, ?_⟩); conv => whnf) | (refine ⟨fun _ => ?_, fun _ => ?_⟩ <;> (conv => whnf) <;> (try (exfalso; omega))) | ((first | refine aJ ?_ | refine num_any ?_ | refine ⟨_, rfl, ?_⟩); conv => whnf) | fail)
            all_goals first
              | (exfalso; omega)
              | (refine ⟨i + 1, by omega, ⟨by omega, ht⟩, ?_⟩
                 (conv => whnf)
                 rfl)
              | trace_state
          · have hcu := rcubes_err l r hl c.t.f c.t.op c.t.form c.t.lo c.t.hi c.t.len c.t.pat htc.2 hE
            rw [tstE_bad hk hE] at ht
            rw [ht]
            have hE2 : errC l ⟨c.t.f, c.t.op, c.t.form, c.t.lo, c.t.hi, c.t.len, c.t.pat⟩ = errC l c.t := rfl
            rw [hE2] at hcu
            generalize errC l c.t = k at *
            (try (conv => whnf)); repeat' (first | refine Ok.seq ?_ | refine OkL.cons ?_ | ((first | refine Ok.region tok ?_ | refine Ok.region_draw tok follows (by kernel_rfl) ?_ | refine Ok.cond ?_); conv => whnf) | refine Ok.block ?_ | ((first | refine Ok.skip ?_ | refine Ok.exit ?_ | refine Ok.ret ?_ | refine nI ?_ | refine ix _ (by assumption) ?_ | refine ixI (by omega) (by assumption) ?_ | refine ix_new _ (by omega) fun _ _ => ?_ | refine ixI_new (by omega) (by omega) fun _ _ => ?_ | refine ⟨_, by assumption, ?_⟩); conv => whnf) | (refine Or.inl ?_; (conv => whnf); (repeat (refine aI ?_; conv => whnf)); refine ⟨_, hcu, rfl, ?_⟩; conv => whnf) | (refine ⟨_, hcu, rfl, ?_⟩; conv => whnf) | (refine Or.inr (Or.inl ?_); (conv => whnf); (repeat (refine aI ?_; conv => whnf)); refine ⟨_, hcu, ?_⟩; rintro _ _ ⟨rfl, rfl⟩; conv => whnf) | ((first | refine Alt2.l (aI ?_) | refine Alt2.r (aI ?_)); conv => whnf) | (refine Ok.scope ?_) | ((first | refine Ok.label ?_ | refine rd rfl (by assumption) ?_ | refine ⟨_, .inl ⟨rfl, rfl⟩, ?_⟩ | refine ⟨_, _, rfl, rfl, ?_⟩); conv => whnf) | (refine ⟨fun _ => ?_, fun _ => ?_⟩ <;> (conv => whnf) <;> (try (exfalso; omega))) | ((first | refine aJ ?_ | refine num_any ?_ | refine ⟨_, rfl, ?_⟩); conv => whnf) | fail)
            all_goals first
              | (exfalso; omega)
              | (refine Or.inl ?_; (conv => whnf)
                 rfl)
              | trace_state
        · rw [tstE_ok (fun h => hk h.1)] at ht
          (try (conv => whnf)); repeat' (first | refine Ok.seq ?_ | refine OkL.cons ?_ | ((first | refine Ok.region tok ?_ | refine Ok.region_draw tok follows (by kernel_rfl) ?_ | refine Ok.cond ?_); conv => whnf) | refine Ok.block ?_ | ((first | refine Ok.skip ?_ | refine Ok.exit ?_ | refine Ok.ret ?_ | refine nI ?_ | refine ix _ (by assumption) ?_ | refine ixI (by omega) (by assumption) ?_ | refine ix_new _ (by omega) fun _ _ => ?_ | refine ixI_new (by omega) (by omega) fun _ _ => ?_ | refine ⟨_, by assumption, ?_⟩ | refine Alt2.l (aI ?_) | refine Alt2.r (aI ?_)); conv => whnf) | (refine Ok.scope ?_) | ((first | refine Ok.label ?_ | refine rd rfl (by assumption) ?_ | refine ⟨_, .inl ⟨rfl, rfl⟩, ?_⟩ | refine ⟨_, _, rfl, rfl, ?_⟩); conv => whnf) | (refine ⟨fun _ => ?_, fun _ => ?_⟩ <;> (conv => whnf) <;> (try (exfalso; omega))) | ((first | refine aJ ?_ | refine num_any ?_ | refine ⟨_, rfl, ?_⟩); conv => whnf) | fail)
          all_goals first
            | (exfalso; omega)
            | (refine ⟨i + 1, by omega, ⟨by omega, ht⟩, ?_⟩
               (conv => whnf)
               rfl)
            | trace_state
      · have hie : i = e.length := by omega
        subst hie
        rw [List.drop_length] at ht
        rw [ht]
        (try (conv => whnf)); repeat' (first | refine Ok.seq ?_ | refine OkL.cons ?_ | ((first | refine Ok.region tok ?_ | refine Ok.region_draw tok follows (by kernel_rfl) ?_ | refine Ok.cond ?_); conv => whnf) | refine Ok.block ?_ | ((first | refine Ok.skip ?_ | refine Ok.exit ?_ | refine Ok.ret ?_ | refine nI ?_ | refine ix _ (by assumption) ?_ | refine ixI (by omega) (by assumption) ?_ | refine ix_new _ (by omega) fun _ _ => ?_ | refine ixI_new (by omega) (by omega) fun _ _ => ?_ | refine ⟨_, by assumption, ?_⟩ | refine Alt2.l (aI ?_) | refine Alt2.r (aI ?_)); conv => whnf) | (refine Ok.scope ?_) | ((first | refine Ok.label ?_ | refine rd rfl (by assumption) ?_ | refine ⟨_, .inl ⟨rfl, rfl⟩, ?_⟩ | refine ⟨_, _, rfl, rfl, ?_⟩); conv => whnf) | (refine ⟨fun _ => ?_, fun _ => ?_⟩ <;> (conv => whnf) <;> (try (exfalso; omega))) | ((first | refine aJ ?_ | refine num_any ?_ | refine ⟨_, rfl, ?_⟩); conv => whnf) | fail)
        all_goals first
          | (exfalso; omega)
          | (refine Or.inl ?_; (conv => whnf)
             rfl)
          | trace_state
end Go.Proofs.YtagmibogginaaaaGreatDoor
namespace Go.Proofs.YtagmibogginaaaaGreatDoor
open Go Go.Vx Go.Shelf
theorem chkFrom_le {all : List Fd} : ∀ (r : List Fd) (i : Nat) (sum : Int), 0 ≤ (chkFrom all r i sum).1 ∧ (chkFrom all r i sum).1 ≤ 100
  | [], _, _ => ⟨Int.le_refl _, by show (0 : Int) ≤ 100; omega⟩
  | f :: r, i, sum => by
    by_cases hb : badF (all.take i) f sum
    · rw [chkFrom_bad hb]; exact ⟨by show (0 : Int) ≤ 40; omega, by show (40 : Int) ≤ 100; omega⟩
    · rw [chkFrom_ok hb]; exact chkFrom_le r _ _
theorem chkO_le (l : List Fd) : 0 ≤ (chkO l).1 ∧ (chkO l).1 ≤ 100 := by
  by_cases h1 : 12 < l.length
  · rw [chkO_long h1]; exact ⟨by show (0 : Int) ≤ 2; omega, by show (2 : Int) ≤ 100; omega⟩
  by_cases h2 : l.length = 0
  · rw [chkO_nil h2]; exact ⟨by show (0 : Int) ≤ 40; omega, by show (40 : Int) ≤ 100; omega⟩
  rw [chkO_of h1 h2]
  exact chkFrom_le _ _ _
theorem errT_le (t : Tst) (b : Nat) : 0 ≤ errT t b ∧ errT t b ≤ 100 := by
  unfold errT
  repeat' split
  all_goals omega
theorem errF_le (l : List Fd) (t : Tst) : 0 ≤ errF l t ∧ errF l t ≤ 100 := by
  rcases find_cases t.f l with h | ⟨k, c, h, hc⟩
  · rw [errF_none h]; omega
  · rw [errF_some h hc]; exact errT_le _ _
theorem errC_le (l : List Fd) (t : Tst) : 0 ≤ errC l t ∧ errC l t ≤ 100 := by
  by_cases h : (chkO l).1 = 0
  · rw [errC_f h]; exact errF_le _ _
  · rw [errC_chk h]; exact chkO_le _
theorem tstE_le (l : List Fd) : ∀ e : List Nd, 0 ≤ tstE l e ∧ tstE l e ≤ 100
  | [] => ⟨Int.le_refl _, by show (0 : Int) ≤ 100; omega⟩
  | c :: r => by
    by_cases h : c.kind = 3 ∧ errC l c.t ≠ 0
    · rw [tstE_bad h.1 h.2]; exact errC_le _ _
    · rw [tstE_ok h]; exact tstE_le l r
theorem chkE_le (l : List Fd) (e : List Nd) : 0 ≤ chkE l e ∧ chkE l e ≤ 100 := by
  by_cases h : (chkO l).1 = 0
  · by_cases h2 : 64 < e.length
    · rw [chkE_l h h2]; omega
    · cases hb : bldO e with
      | none => rw [chkE_b h h2 hb]; omega
      | some x =>
        by_cases h4 : 32 < x.nest
        · rw [chkE_d h h2 hb h4]; omega
        · rw [chkE_t h h2 hb h4]; exact tstE_le _ _
  · rw [chkE_f h]; exact chkO_le _
theorem num_at (k : Int) (h : 0 ≤ k ∧ k ≤ 100) : FSpec Tryz.prog T 9 [.i .i64 k] (fun d _ => d = .i .i64 k) := by
  refine FSpec.of_ok tok Tryz.func9 rfl Tryz.call9 (by simp) ?_
  (try (conv => whnf)); repeat' (first | refine Ok.seq ?_ | refine OkL.cons ?_ | ((first | refine Ok.region tok ?_ | refine Ok.region_draw tok follows (by kernel_rfl) ?_ | refine Ok.cond ?_); conv => whnf) | refine Ok.block ?_ | ((first | refine Ok.skip ?_ | refine Ok.exit ?_ | refine Ok.ret ?_ | refine nI ?_ | refine ix _ (by assumption) ?_ | refine ixI (by omega) (by assumption) ?_ | refine ix_new _ (by omega) fun _ _ => ?_ | refine ixI_new (by omega) (by omega) fun _ _ => ?_ | refine ⟨_, by assumption, ?_⟩ | refine Alt2.l (aI ?_) | refine Alt2.r (aI ?_)); conv => whnf) | (refine Ok.scope ?_) | ((first | refine Ok.label ?_ | refine rd rfl (by assumption) ?_ | refine ⟨_, .inl ⟨rfl, rfl⟩, ?_⟩ | refine ⟨_, _, rfl, rfl, ?_⟩); conv => whnf) | (refine ⟨fun _ => ?_, fun _ => ?_⟩ <;> (conv => whnf) <;> (try (exfalso; omega))) | ((first | refine aJ ?_ | refine num_any ?_ | refine ⟨_, rfl, ?_⟩); conv => whnf) | fail)
  refine Or.inl ?_; (conv => whnf)
  rfl
theorem pcheck_own (l : List Fd) (e : List Nd) {ra sa rb sb : List (List D)} (ha : ra = l.map frow) (hb : rb = e.map nrow) (hl : l.length ≤ 1000) (he : e.length ≤ 1000) (htx : TxtOk e) :
    FSpec Tryz.prog T 8 [.lst 34 ra sa, .lst 56 rb sb] (fun d _ => d = .i .i64 (chkE l e)) := by subst ha hb; exact pcheck_at l _ e _ hl he htx
theorem rcheck_own (l : List Fd) (e : List Nd) {ra sa rb sb : List (List D)} (ha : ra = l.map frow) (hb : rb = e.map nrow) (hl : l.length ≤ 1000) (he : e.length ≤ 1000) (htx : TxtOk e) :
    FSpec Tryz.prog T 10 [.lst 34 ra sa, .lst 56 rb sb] (fun d _ => d = .i .i64 (chkE l e)) := by subst ha hb; exact rechk_at l _ e _ hl he htx
theorem untouched_own (e : List Nd) {ra sa rb sb : List (List D)} (ha : ra = e.map nrow) (hs : sa = [mk91, mk92].map nrow) (hb : rb = e.map nrow) (he : e.length ≤ 1000) :
    FSpec Tryz.prog T 11 [.lst 56 ra sa, .lst 56 rb sb] (fun d _ => d = .tt) := by subst ha hs hb; exact (untouched_at e _ he).tt trivial
theorem kept_own (l : List Fd) {ra sa rb sb : List (List D)} (ha : ra = l.map frow) (hs : sa = [mkF].map frow) (hb : rb = l.map frow) (he : l.length ≤ 16) :
    FSpec Tryz.prog T 12 [.lst 34 ra sa, .lst 34 rb sb] (fun d _ => d = .tt) := by subst ha hs hb; exact (kept1_at l _ he).tt trivial
def othF (l : List Fd) : List Fd := List.zipWith (fun a b => ⟨a.name, b.bits⟩) l l.reverse
theorem othF_len (l : List Fd) : (othF l).length = l.length := by simp [othF]
theorem othF_at {l : List Fd} {i : Nat} {a b : Fd} (ha : l[i]? = some a) (hb : l[l.length - 1 - i]? = some b) : (othF l)[i]? = some ⟨a.name, b.bits⟩ := by
  have hi := (List.getElem?_eq_some_iff.1 ha).1
  unfold othF
  rw [List.getElem?_zipWith, ha, List.getElem?_reverse hi, hb]
theorem txt_rev {e : List Nd} (h : TxtOk e) : TxtOk e.reverse := fun c hc => h c (List.mem_reverse.1 hc)
end Go.Proofs.YtagmibogginaaaaGreatDoor
namespace Go.Proofs.YtagmibogginaaaaGreatDoor
open Go Go.Vx Go.Shelf
theorem mixA {α : Type} {a b : List α} {k : Nat} (hk : (a.take k).length = k) (x : List α) (y : α) (hb : b[k]? = some y) : ((a.take k ++ b.drop k) ++ x)[k]? = some y := by
  have hi := (List.getElem?_eq_some_iff.1 hb).1
  rw [List.append_assoc, List.getElem?_append_right (by omega), hk, Nat.sub_self, List.getElem?_append_left (by simp; omega), List.getElem?_drop, Nat.add_zero, hb]
theorem mixS {α : Type} {a b : List α} {k : Nat} {c : α} (hk : (a.take k).length = k) (x : List α) (ha : a[k]? = some c) (hb : k < b.length) : ((a.take k ++ b.drop k) ++ x).set k c = (a.take (k + 1) ++ b.drop (k + 1)) ++ x := by
  rw [List.append_assoc, List.set_append_right _ _ (by omega), hk, Nat.sub_self, List.drop_eq_getElem_cons hb, List.cons_append, List.set_cons_zero, take_snoc ha]
  simp only [List.append_assoc, List.cons_append, List.nil_append]
theorem mixE {α : Type} {a b : List α} (h : a.length = b.length) : a.take b.length ++ b.drop b.length = a := by
  rw [List.take_of_length_le (by omega), List.drop_of_length_le (Nat.le_refl _), List.append_nil]
set_option maxHeartbeats 32000000 in
theorem checks_law (Fs : List Fd) (rF : List (List D)) (Es : List Nd) (rE : List (List D)) (htx : TxtOk Es) : FSpec Tryz.prog T 3 [.lst 34 (Fs.map frow) rF, .lst 56 (Es.map nrow) rE] (fun d _ => d = .b True) := by
  have h1 : (Fs.map frow).length = Fs.length := by simp
  have h2 : (Es.map nrow).length = Es.length := by simp
  refine FSpec.of_ok tok Tryz.func3 rfl Tryz.call3 (by simp) ?_
  by_cases hbig : 1000 < Es.length ∨ 16 < Fs.length
  · (try (conv => whnf)); repeat' (first | refine Ok.seq ?_ | refine OkL.cons ?_ | ((first | refine Ok.region tok ?_ | refine Ok.region_plan (id := 18) tok follows [(5, 16, [15]), (14, 16, [15]), (5, 17, [16, 15]), (14, 17, [16, 15]), (16, 17, [])] [.q 0, .q 1, .q 2, .q 3, .q 4, .q 5, .q 6, .q 7, .q 8, .q 9, .q 10, .q 11, .q 12, .q 13, .q 14, .q 15, .l 16, .l 17, .q 18] (by kernel_rfl) ?_ | refine Ok.region_draw tok follows (by kernel_rfl) ?_ | refine Ok.cond ?_); conv => whnf) | refine Ok.block ?_ | ((first | refine Ok.skip ?_ | refine Ok.exit ?_ | refine Ok.ret ?_ | refine nI ?_ | refine ix _ (by assumption) ?_ | refine ixI (by omega) (by assumption) ?_ | refine ix_new _ (by omega) fun _ _ => ?_ | refine ixI_new (by omega) (by omega) fun _ _ => ?_ | refine ⟨_, by assumption, ?_⟩ | refine Alt2.l (aI ?_) | refine Alt2.r (aI ?_)); conv => whnf) | (refine Ok.scope ?_) | ((first | refine Ok.label ?_ | refine rd rfl (by assumption) ?_ | refine ⟨_, .inl ⟨rfl, rfl⟩, ?_⟩ | refine ⟨_, _, rfl, rfl, ?_⟩); conv => whnf) | (refine ⟨fun _ => ?_, fun _ => ?_⟩ <;> (conv => whnf) <;> (try (exfalso; omega))) | ((first | refine aJ ?_ | refine num_any ?_ | refine ⟨_, rfl, ?_⟩); conv => whnf) | fail)
    all_goals first
      | (exfalso; omega)
      | (refine Or.inl ?_; (conv => whnf)
         rfl)
      | trace_state
  have hE : Es.length ≤ 1000 := by omega
  have hF : Fs.length ≤ 16 := by omega
  have hR : Es.reverse.length = Es.length := by simp
  have htr := txt_rev htx
  have e1 : ((Es ++ [mk91, mk92]).map nrow).take Es.length = Es.map nrow := by simp
  have e2 : ((Es ++ [mk91, mk92]).map nrow).drop Es.length = [mk91, mk92].map nrow := by simp
  have e3 : ((Es.reverse ++ [mk91, mk92]).map nrow).take Es.length = Es.reverse.map nrow := by rw [← hR]; simp
  have f1 : ((Fs ++ [mkF]).map frow).take Fs.length = Fs.map frow := by simp
  have f2 : ((Fs ++ [mkF]).map frow).drop Fs.length = [mkF].map frow := by simp
  have l1 : ((Fs ++ [mkF]).map frow).length = Fs.length + 1 := by simp
  have l2 : ((Es ++ [mk91, mk92]).map nrow).length = Es.length + 2 := by simp
  have l3 : ((Es.reverse ++ [mk91, mk92]).map nrow).length = Es.length + 2 := by simp
  have k1 := num_at (chkE Fs Es) (chkE_le _ _)
  have k2 := num_at (chkE Fs Es.reverse) (chkE_le _ _)
  have p1 := fun sa sb => pcheck_own Fs Es (sa := sa) (sb := sb) f1 e1 (by omega) hE htx
  have p2 := fun sa sb => pcheck_own Fs Es.reverse (sa := sa) (sb := sb) f1 e3 (by omega) (by omega) htr
  have q1 := rechk_at Fs rF Es rE (by omega) hE htx
  have q2 := fun rm => rechk_at Fs rF Es.reverse rm (by omega) (by omega) htr
  have tu := turned_at Es rE hE
  have u1 := untouched_own Es (sb := rE) e1 e2 rfl hE
  have v1 := kept_own Fs (sb := rF) f1 f2 rfl hF
  generalize chkE Fs Es = K1 at *
  generalize chkE Fs Es.reverse = K2 at *
  (try (conv => whnf)); repeat' (first | refine Ok.seq ?_ | refine OkL.cons ?_ | ((first | refine Ok.region tok ?_ | refine Ok.region_plan (id := 18) tok follows [(5, 16, [15]), (14, 16, [15]), (5, 17, [16, 15]), (14, 17, [16, 15]), (16, 17, [])] [.q 0, .q 1, .q 2, .q 3, .q 4, .q 5, .q 6, .q 7, .q 8, .q 9, .q 10, .q 11, .q 12, .q 13, .q 14, .q 15, .l 16, .l 17, .q 18] (by kernel_rfl) ?_ | refine Ok.region_draw tok follows (by kernel_rfl) ?_ | refine Ok.cond ?_); conv => whnf) | refine Ok.block ?_ | ((first | refine Ok.skip ?_ | refine Ok.exit ?_ | refine Ok.ret ?_ | refine nI ?_ | refine ix _ (by assumption) ?_ | refine ixI (by omega) (by assumption) ?_ | refine ix_new _ (by omega) fun _ _ => ?_ | refine ixI_new (by omega) (by omega) fun _ _ => ?_ | refine ⟨_, by assumption, ?_⟩); conv => whnf) | (refine Or.inl ?_; (conv => whnf); (repeat (refine aI ?_; conv => whnf)); refine ⟨_, layout1_at Fs rF hF, rfl, ?_⟩; conv => whnf) | (refine Or.inl ?_; (conv => whnf); (repeat (refine aI ?_; conv => whnf)); refine ⟨_, nodes_at Es rE hE, rfl, ?_⟩; conv => whnf) | (refine Or.inl ?_; (conv => whnf); (repeat (refine aI ?_; conv => whnf)); refine ⟨_, p1 _ _, rfl, ?_⟩; conv => whnf) | (refine Or.inl ?_; (conv => whnf); (repeat (refine aI ?_; conv => whnf)); refine ⟨_, q1, rfl, ?_⟩; conv => whnf) | (refine Or.inl ?_; (conv => whnf); (repeat (refine aI ?_; conv => whnf)); refine ⟨_, k1, rfl, ?_⟩; conv => whnf) | (refine Or.inl ?_; (conv => whnf); (repeat (refine aI ?_; conv => whnf)); refine ⟨_, u1, rfl, ?_⟩; conv => whnf) | (refine Or.inl ?_; (conv => whnf); (repeat (refine aI ?_; conv => whnf)); refine ⟨_, v1, rfl, ?_⟩; conv => whnf) | ((first | refine ⟨_, layout1_at Fs rF hF, rfl, ?_⟩ | refine ⟨_, nodes_at Es rE hE, rfl, ?_⟩ | refine ⟨_, p1 _ _, rfl, ?_⟩ | refine ⟨_, q1, rfl, ?_⟩ | refine ⟨_, k1, rfl, ?_⟩ | refine ⟨_, u1, rfl, ?_⟩ | refine ⟨_, v1, rfl, ?_⟩); conv => whnf) | (refine Or.inr (Or.inl ?_); (conv => whnf); (repeat (refine aI ?_; conv => whnf)); refine ⟨_, layout1_at Fs rF hF, ?_⟩; rintro _ _ ⟨rfl, rfl⟩; conv => whnf) | (refine Or.inr (Or.inl ?_); (conv => whnf); (repeat (refine aI ?_; conv => whnf)); refine ⟨_, nodes_at Es rE hE, ?_⟩; rintro _ _ ⟨rfl, rfl⟩; conv => whnf) | (refine Or.inr (Or.inl ?_); (conv => whnf); (repeat (refine aI ?_; conv => whnf)); refine ⟨_, p1 _ _, ?_⟩; rintro _ _ ⟨rfl, rfl⟩; conv => whnf) | (refine Or.inr (Or.inl ?_); (conv => whnf); (repeat (refine aI ?_; conv => whnf)); refine ⟨_, q1, ?_⟩; rintro _ _ ⟨rfl, rfl⟩; conv => whnf) | (refine Or.inr (Or.inl ?_); (conv => whnf); (repeat (refine aI ?_; conv => whnf)); refine ⟨_, k1, ?_⟩; rintro _ _ ⟨rfl, rfl⟩; conv => whnf) | (refine Or.inr (Or.inl ?_); (conv => whnf); (repeat (refine aI ?_; conv => whnf)); refine ⟨_, u1, ?_⟩; rintro _ _ ⟨rfl, rfl⟩; conv => whnf) | (refine Or.inr (Or.inl ?_); (conv => whnf); (repeat (refine aI ?_; conv => whnf)); refine ⟨_, v1, ?_⟩; rintro _ _ ⟨rfl, rfl⟩; conv => whnf) | (refine Or.inr (Or.inl ?_); (conv => whnf); (repeat (refine aI ?_; conv => whnf)); refine ⟨_, tu , ?_⟩; rintro _ _ ⟨rfl, rm, rfl⟩ <;> (conv => whnf)) | ((first | refine Alt2.l (aI ?_) | refine Alt2.r (aI ?_)); conv => whnf) | (refine Ok.scope ?_) | ((first | refine Ok.label ?_ | refine rd rfl (by assumption) ?_ | refine ⟨_, .inl ⟨rfl, rfl⟩, ?_⟩ | refine ⟨_, _, rfl, rfl, ?_⟩); conv => whnf) | (refine ⟨fun _ => ?_, fun _ => ?_⟩ <;> (conv => whnf) <;> (try (exfalso; omega))) | ((first | refine aJ ?_ | refine num_any ?_ | refine ⟨_, rfl, ?_⟩); conv => whnf) | fail)
  refine Or.inr (Or.inr (Or.inl ?_)); (conv => whnf); refine ⟨_, _, Tryz.func14, rfl, Tryz.call14, ?_⟩; (conv => whnf)
  refine Ok.joinU [18, 19, 23, 24, 26] [] 2 0 (fun (x : Unit) => []) (fun _ b => b) (fun (x : Unit) (_ : Vx.Rows) => [some (34, (Fs ++ [mkF]).map frow), some (56, (Es.reverse ++ [mk91, mk92]).map nrow)]) (fun e (x : Unit) => e = .normal) ?_; (conv => whnf); refine And.intro ?_ ?_
  · (try (conv => whnf)); repeat' (first | refine Ok.seq ?_ | refine OkL.cons ?_ | ((first | refine Ok.region tok ?_ | refine Ok.region_draw tok follows (by kernel_rfl) ?_ | refine Ok.cond ?_); conv => whnf) | refine Ok.block ?_ | ((first | refine Ok.skip ?_ | refine Ok.exit ?_ | refine Ok.ret ?_ | refine nI ?_ | refine ix _ (by assumption) ?_ | refine ixI (by omega) (by assumption) ?_ | refine ix_new _ (by omega) fun _ _ => ?_ | refine ixI_new (by omega) (by omega) fun _ _ => ?_ | refine ⟨_, by assumption, ?_⟩ | refine Alt2.l (aI ?_) | refine Alt2.r (aI ?_)); conv => whnf) | (refine Ok.scope ?_) | ((first | refine Ok.label ?_ | refine rd rfl (by assumption) ?_ | refine ⟨_, .inl ⟨rfl, rfl⟩, ?_⟩ | refine ⟨_, _, rfl, rfl, ?_⟩); conv => whnf) | (refine ⟨fun _ => ?_, fun _ => ?_⟩ <;> (conv => whnf) <;> (try (exfalso; omega))) | ((first | refine aJ ?_ | refine num_any ?_ | refine ⟨_, rfl, ?_⟩); conv => whnf) | fail)
    refine Ok.loopU [0, 1, 18, 19, 23, 24, 26] [4] 2 0 (fun (k : Nat) => [.i .i64 (k : Nat)]) (fun _ b => b) (fun (k : Nat) (_ : Vx.Rows) => [some (34, (Fs ++ [mkF]).map frow), some (56, ((Es.reverse.take k ++ Es.drop k) ++ [mk91, mk92]).map nrow)]) (fun (k : Nat) => k ≤ Es.length) (fun (k : Nat) => Es.length - k) (0) (Nat.zero_le _) ?_; (conv => whnf); refine ⟨by ((conv => whnf); first | rfl | (simp [envCat, List.take_of_length_le, nrow, frow, bcell, srow, tcells, crow, qrow, prow]; done) | (simp [envCat, List.take_of_length_le, nrow, frow, bcell, srow, tcells, crow, qrow, prow]; rw [IntKind.wrap_i64]; omega)), ?_⟩
    rintro k hk
    have htl : (Es.reverse.take k).length = k := by simp; omega
    have hl2 : (((Es.reverse.take k ++ Es.drop k) ++ [mk91, mk92]).map nrow).length = Es.length + 2 := by simp; omega
    have hnm : (Es.reverse.map nrow).length = Es.length := by simp
    (conv => whnf)
    by_cases hkl : k < Es.length
    · obtain ⟨a, ha⟩ : ∃ a, Es.reverse[k]? = some a := ⟨_, List.getElem?_eq_getElem (by omega)⟩
      obtain ⟨b, hb⟩ : ∃ b, Es[k]? = some b := ⟨_, List.getElem?_eq_getElem (by omega)⟩
      have haI : Es.reverse[((k : Nat) : Int).toNat]? = some a := ha
      have hb' := mixA htl [mk91, mk92] b hb
      have hbI : ((Es.reverse.take k ++ Es.drop k) ++ [mk91, mk92])[((k : Nat) : Int).toNat]? = some b := hb'
      have e5 := mixS htl [mk91, mk92] ha (show k < Es.length by omega)
      (try (conv => whnf)); repeat' (first | (refine st a hbI (by simp) rfl ?_; (conv => whnf)) | refine Ok.seq ?_ | refine OkL.cons ?_ | ((first | refine Ok.region tok ?_ | refine Ok.region_draw tok follows (by kernel_rfl) ?_ | refine Ok.cond ?_); conv => whnf) | refine Ok.block ?_ | ((first | refine Ok.skip ?_ | refine Ok.exit ?_ | refine Ok.ret ?_ | refine nI ?_ | refine ix _ (by assumption) ?_ | refine ixI (by omega) (by assumption) ?_ | refine ix_new _ (by omega) fun _ _ => ?_ | refine ixI_new (by omega) (by omega) fun _ _ => ?_ | refine ⟨_, by assumption, ?_⟩ | refine Alt2.l (aI ?_) | refine Alt2.r (aI ?_)); conv => whnf) | (refine Ok.scope ?_) | ((first | refine Ok.label ?_ | refine rd rfl (by assumption) ?_ | refine ⟨_, .inl ⟨rfl, rfl⟩, ?_⟩ | refine ⟨_, _, rfl, rfl, ?_⟩); conv => whnf) | (refine ⟨fun _ => ?_, fun _ => ?_⟩ <;> (conv => whnf) <;> (try (exfalso; omega))) | ((first | refine aJ ?_ | refine num_any ?_ | refine ⟨_, rfl, ?_⟩); conv => whnf) | fail)
      all_goals first
        | (exfalso; omega)
        | skip
      refine ⟨k + 1, by omega, by omega, ?_⟩
      rw [← e5]
      (conv => whnf); (first | rfl | simp [envCat, List.take_of_length_le, nrow, frow, bcell, srow, tcells, crow, qrow, prow])
    · have hkk : k = Es.length := by omega
      subst hkk
      (try (conv => whnf)); repeat' (first | refine Ok.seq ?_ | refine OkL.cons ?_ | ((first | refine Ok.region tok ?_ | refine Ok.region_draw tok follows (by kernel_rfl) ?_ | refine Ok.cond ?_); conv => whnf) | refine Ok.block ?_ | ((first | refine Ok.skip ?_ | refine Ok.exit ?_ | refine Ok.ret ?_ | refine nI ?_ | refine ix _ (by assumption) ?_ | refine ixI (by omega) (by assumption) ?_ | refine ix_new _ (by omega) fun _ _ => ?_ | refine ixI_new (by omega) (by omega) fun _ _ => ?_ | refine ⟨_, by assumption, ?_⟩ | refine Alt2.l (aI ?_) | refine Alt2.r (aI ?_)); conv => whnf) | (refine Ok.scope ?_) | ((first | refine Ok.label ?_ | refine rd rfl (by assumption) ?_ | refine ⟨_, .inl ⟨rfl, rfl⟩, ?_⟩ | refine ⟨_, _, rfl, rfl, ?_⟩); conv => whnf) | (refine ⟨fun _ => ?_, fun _ => ?_⟩ <;> (conv => whnf) <;> (try (exfalso; omega))) | ((first | refine aJ ?_ | refine num_any ?_ | refine ⟨_, rfl, ?_⟩); conv => whnf) | fail)
      all_goals first
        | (exfalso; omega)
        | skip
      refine ⟨(), rfl, ?_⟩
      rw [mixE hR]
      (conv => whnf); (first | rfl | simp [envCat, List.take_of_length_le, nrow, frow, bcell, srow, tcells, crow, qrow, prow])
  rintro e x rfl
  (try (conv => whnf)); repeat' (first | refine Ok.seq ?_ | refine OkL.cons ?_ | ((first | refine Ok.region tok ?_ | refine Ok.region_plan (id := 18) tok follows [(5, 16, [15]), (14, 16, [15]), (5, 17, [16, 15]), (14, 17, [16, 15]), (16, 17, [])] [.q 0, .q 1, .q 2, .q 3, .q 4, .q 5, .q 6, .q 7, .q 8, .q 9, .q 10, .q 11, .q 12, .q 13, .q 14, .q 15, .l 16, .l 17, .q 18] (by kernel_rfl) ?_ | refine Ok.region_draw tok follows (by kernel_rfl) ?_ | refine Ok.cond ?_); conv => whnf) | refine Ok.block ?_ | ((first | refine Ok.skip ?_ | refine Ok.exit ?_ | refine Ok.ret ?_ | refine nI ?_ | refine ix _ (by assumption) ?_ | refine ixI (by omega) (by assumption) ?_ | refine ix_new _ (by omega) fun _ _ => ?_ | refine ixI_new (by omega) (by omega) fun _ _ => ?_ | refine ⟨_, by assumption, ?_⟩); conv => whnf) | (refine Or.inl ?_; (conv => whnf); (repeat (refine aI ?_; conv => whnf)); refine ⟨_, p2 _ _, rfl, ?_⟩; conv => whnf) | (refine Or.inl ?_; (conv => whnf); (repeat (refine aI ?_; conv => whnf)); refine ⟨_, q2 _, rfl, ?_⟩; conv => whnf) | (refine Or.inl ?_; (conv => whnf); (repeat (refine aI ?_; conv => whnf)); refine ⟨_, k2, rfl, ?_⟩; conv => whnf) | ((first | refine ⟨_, p2 _ _, rfl, ?_⟩ | refine ⟨_, q2 _, rfl, ?_⟩ | refine ⟨_, k2, rfl, ?_⟩); conv => whnf) | (refine Or.inr (Or.inl ?_); (conv => whnf); (repeat (refine aI ?_; conv => whnf)); refine ⟨_, p2 _ _, ?_⟩; rintro _ _ ⟨rfl, rfl⟩; conv => whnf) | (refine Or.inr (Or.inl ?_); (conv => whnf); (repeat (refine aI ?_; conv => whnf)); refine ⟨_, q2 _, ?_⟩; rintro _ _ ⟨rfl, rfl⟩; conv => whnf) | (refine Or.inr (Or.inl ?_); (conv => whnf); (repeat (refine aI ?_; conv => whnf)); refine ⟨_, k2, ?_⟩; rintro _ _ ⟨rfl, rfl⟩; conv => whnf) | ((first | refine Alt2.l (aI ?_) | refine Alt2.r (aI ?_)); conv => whnf) | (refine Ok.scope ?_) | ((first | refine Ok.label ?_ | refine rd rfl (by assumption) ?_ | refine ⟨_, .inl ⟨rfl, rfl⟩, ?_⟩ | refine ⟨_, _, rfl, rfl, ?_⟩); conv => whnf) | (refine ⟨fun _ => ?_, fun _ => ?_⟩ <;> (conv => whnf) <;> (try (exfalso; omega))) | ((first | refine aJ ?_ | refine num_any ?_ | refine ⟨_, rfl, ?_⟩); conv => whnf) | fail)
  all_goals first
    | (exfalso; omega)
    | skip
  refine Or.inr (Or.inr (Or.inl ?_)); (conv => whnf); refine ⟨_, _, Tryz.func14, rfl, Tryz.call14, ?_⟩; (conv => whnf)
  refine Ok.joinU [18, 19, 23, 24] [] 2 0 (fun (x : Unit) => []) (fun _ b => b) (fun (x : Unit) (_ : Vx.Rows) => [some (34, (Fs ++ [mkF]).map frow), some (56, (Es ++ [mk91, mk92]).map nrow)]) (fun e (x : Unit) => e = .normal) ?_; (conv => whnf); refine And.intro ?_ ?_
  · (try (conv => whnf)); repeat' (first | refine Ok.seq ?_ | refine OkL.cons ?_ | ((first | refine Ok.region tok ?_ | refine Ok.region_draw tok follows (by kernel_rfl) ?_ | refine Ok.cond ?_); conv => whnf) | refine Ok.block ?_ | ((first | refine Ok.skip ?_ | refine Ok.exit ?_ | refine Ok.ret ?_ | refine nI ?_ | refine ix _ (by assumption) ?_ | refine ixI (by omega) (by assumption) ?_ | refine ix_new _ (by omega) fun _ _ => ?_ | refine ixI_new (by omega) (by omega) fun _ _ => ?_ | refine ⟨_, by assumption, ?_⟩ | refine Alt2.l (aI ?_) | refine Alt2.r (aI ?_)); conv => whnf) | (refine Ok.scope ?_) | ((first | refine Ok.label ?_ | refine rd rfl (by assumption) ?_ | refine ⟨_, .inl ⟨rfl, rfl⟩, ?_⟩ | refine ⟨_, _, rfl, rfl, ?_⟩); conv => whnf) | (refine ⟨fun _ => ?_, fun _ => ?_⟩ <;> (conv => whnf) <;> (try (exfalso; omega))) | ((first | refine aJ ?_ | refine num_any ?_ | refine ⟨_, rfl, ?_⟩); conv => whnf) | fail)
    refine Ok.loopU [0, 1, 18, 19, 23, 24] [4] 2 0 (fun (k : Nat) => [.i .i64 (k : Nat)]) (fun _ b => b) (fun (k : Nat) (_ : Vx.Rows) => [some (34, (Fs ++ [mkF]).map frow), some (56, ((Es.take k ++ Es.reverse.drop k) ++ [mk91, mk92]).map nrow)]) (fun (k : Nat) => k ≤ Es.length) (fun (k : Nat) => Es.length - k) (0) (Nat.zero_le _) ?_; (conv => whnf); refine ⟨by ((conv => whnf); first | rfl | (simp [envCat, List.take_of_length_le, nrow, frow, bcell, srow, tcells, crow, qrow, prow]; done) | (simp [envCat, List.take_of_length_le, nrow, frow, bcell, srow, tcells, crow, qrow, prow]; rw [IntKind.wrap_i64]; omega)), ?_⟩
    rintro k hk
    have htl : (Es.take k).length = k := by simp; omega
    have hl2 : (((Es.take k ++ Es.reverse.drop k) ++ [mk91, mk92]).map nrow).length = Es.length + 2 := by simp; omega
    have hnm : (Es.map nrow).length = Es.length := by simp
    (conv => whnf)
    by_cases hkl : k < Es.length
    · obtain ⟨a, ha⟩ : ∃ a, Es[k]? = some a := ⟨_, List.getElem?_eq_getElem (by omega)⟩
      obtain ⟨b, hb⟩ : ∃ b, Es.reverse[k]? = some b := ⟨_, List.getElem?_eq_getElem (by omega)⟩
      have haI : Es[((k : Nat) : Int).toNat]? = some a := ha
      have hb' := mixA htl [mk91, mk92] b hb
      have hbI : ((Es.take k ++ Es.reverse.drop k) ++ [mk91, mk92])[((k : Nat) : Int).toNat]? = some b := hb'
      have e5 := mixS htl [mk91, mk92] ha (show k < Es.reverse.length by omega)
      (try (conv => whnf)); repeat' (first | (refine st a hbI (by simp) rfl ?_; (conv => whnf)) | refine Ok.seq ?_ | refine OkL.cons ?_ | ((first | refine Ok.region tok ?_ | refine Ok.region_draw tok follows (by kernel_rfl) ?_ | refine Ok.cond ?_); conv => whnf) | refine Ok.block ?_ | ((first | refine Ok.skip ?_ | refine Ok.exit ?_ | refine Ok.ret ?_ | refine nI ?_ | refine ix _ (by assumption) ?_ | refine ixI (by omega) (by assumption) ?_ | refine ix_new _ (by omega) fun _ _ => ?_ | refine ixI_new (by omega) (by omega) fun _ _ => ?_ | refine ⟨_, by assumption, ?_⟩ | refine Alt2.l (aI ?_) | refine Alt2.r (aI ?_)); conv => whnf) | (refine Ok.scope ?_) | ((first | refine Ok.label ?_ | refine rd rfl (by assumption) ?_ | refine ⟨_, .inl ⟨rfl, rfl⟩, ?_⟩ | refine ⟨_, _, rfl, rfl, ?_⟩); conv => whnf) | (refine ⟨fun _ => ?_, fun _ => ?_⟩ <;> (conv => whnf) <;> (try (exfalso; omega))) | ((first | refine aJ ?_ | refine num_any ?_ | refine ⟨_, rfl, ?_⟩); conv => whnf) | fail)
      all_goals first
        | (exfalso; omega)
        | skip
      refine ⟨k + 1, by omega, by omega, ?_⟩
      rw [← e5]
      (conv => whnf); (first | rfl | simp [envCat, List.take_of_length_le, nrow, frow, bcell, srow, tcells, crow, qrow, prow])
    · have hkk : k = Es.length := by omega
      subst hkk
      (try (conv => whnf)); repeat' (first | refine Ok.seq ?_ | refine OkL.cons ?_ | ((first | refine Ok.region tok ?_ | refine Ok.region_draw tok follows (by kernel_rfl) ?_ | refine Ok.cond ?_); conv => whnf) | refine Ok.block ?_ | ((first | refine Ok.skip ?_ | refine Ok.exit ?_ | refine Ok.ret ?_ | refine nI ?_ | refine ix _ (by assumption) ?_ | refine ixI (by omega) (by assumption) ?_ | refine ix_new _ (by omega) fun _ _ => ?_ | refine ixI_new (by omega) (by omega) fun _ _ => ?_ | refine ⟨_, by assumption, ?_⟩ | refine Alt2.l (aI ?_) | refine Alt2.r (aI ?_)); conv => whnf) | (refine Ok.scope ?_) | ((first | refine Ok.label ?_ | refine rd rfl (by assumption) ?_ | refine ⟨_, .inl ⟨rfl, rfl⟩, ?_⟩ | refine ⟨_, _, rfl, rfl, ?_⟩); conv => whnf) | (refine ⟨fun _ => ?_, fun _ => ?_⟩ <;> (conv => whnf) <;> (try (exfalso; omega))) | ((first | refine aJ ?_ | refine num_any ?_ | refine ⟨_, rfl, ?_⟩); conv => whnf) | fail)
      all_goals first
        | (exfalso; omega)
        | skip
      refine ⟨(), rfl, ?_⟩
      rw [show Es.take Es.length ++ Es.reverse.drop Es.length = Es by rw [← hR]; exact mixE hR.symm]
      (conv => whnf); (first | rfl | simp [envCat, List.take_of_length_le, nrow, frow, bcell, srow, tcells, crow, qrow, prow])
  rintro e x rfl
  (try (conv => whnf)); repeat' (first | refine Ok.seq ?_ | refine OkL.cons ?_ | ((first | refine Ok.region tok ?_ | refine Ok.region_plan (id := 18) tok follows [(5, 16, [15]), (14, 16, [15]), (5, 17, [16, 15]), (14, 17, [16, 15]), (16, 17, [])] [.q 0, .q 1, .q 2, .q 3, .q 4, .q 5, .q 6, .q 7, .q 8, .q 9, .q 10, .q 11, .q 12, .q 13, .q 14, .q 15, .l 16, .l 17, .q 18] (by kernel_rfl) ?_ | refine Ok.region_draw tok follows (by kernel_rfl) ?_ | refine Ok.cond ?_); conv => whnf) | refine Ok.block ?_ | ((first | refine Ok.skip ?_ | refine Ok.exit ?_ | refine Ok.ret ?_ | refine nI ?_ | refine ix _ (by assumption) ?_ | refine ixI (by omega) (by assumption) ?_ | refine ix_new _ (by omega) fun _ _ => ?_ | refine ixI_new (by omega) (by omega) fun _ _ => ?_ | refine ⟨_, by assumption, ?_⟩ | refine Alt2.l (aI ?_) | refine Alt2.r (aI ?_)); conv => whnf) | (refine Ok.scope ?_) | ((first | refine Ok.label ?_ | refine rd rfl (by assumption) ?_ | refine ⟨_, .inl ⟨rfl, rfl⟩, ?_⟩ | refine ⟨_, _, rfl, rfl, ?_⟩); conv => whnf) | (refine ⟨fun _ => ?_, fun _ => ?_⟩ <;> (conv => whnf) <;> (try (exfalso; omega))) | ((first | refine aJ ?_ | refine num_any ?_ | refine ⟨_, rfl, ?_⟩); conv => whnf) | fail)
  refine Ok.ghost 9 34 rfl ?_
  (conv => whnf)
  have hG := othF_len Fs
  generalize hGG : othF Fs = G at *
  refine Ok.loopU [0, 1, 5, 6] [9, 10] 3 0 (fun (i : Nat) => [.own 2 i, .i .i64 (i : Nat)]) (fun _ b => b) (fun (i : Nat) (_ : Vx.Rows) => [some (34, ((G.take i ++ Fs.drop i) ++ [mkF]).map frow), some (56, (Es ++ [mk91, mk92]).map nrow), some (34, (G.take i).map frow)]) (fun (i : Nat) => i ≤ Fs.length) (fun (i : Nat) => Fs.length - i) (0) (Nat.zero_le _) ?_; (conv => whnf); refine ⟨by ((conv => whnf); first | rfl | (simp [envCat, List.take_of_length_le, nrow, frow, bcell, srow, tcells, crow, qrow, prow]; done) | (simp [envCat, List.take_of_length_le, nrow, frow, bcell, srow, tcells, crow, qrow, prow]; rw [IntKind.wrap_i64]; omega)), ?_⟩
  rintro i hi
  have hti : (G.take i).length = i := by simp; omega
  have htm : ((G.take i).map frow).length = i := by rw [List.length_map, hti]
  have hl0 : (((G.take i ++ Fs.drop i) ++ [mkF]).map frow).length = Fs.length + 1 := by simp; omega
  (conv => whnf)
  by_cases hil : i < Fs.length
  · obtain ⟨a, ha⟩ : ∃ a, Fs[i]? = some a := ⟨_, List.getElem?_eq_getElem hil⟩
    obtain ⟨b, hb⟩ : ∃ b, Fs[Fs.length - 1 - i]? = some b := ⟨_, List.getElem?_eq_getElem (by omega)⟩
    have hg : G[i]? = some ⟨a.name, b.bits⟩ := by rw [← hGG]; exact othF_at ha hb
    have haI : Fs[((i : Nat) : Int).toNat]? = some a := ha
    have hbI : Fs[(((Fs.map frow).length : Nat) : Int) - 1 - (i : Nat) |>.toNat]? = some b := by
      rw [show ((((Fs.map frow).length : Nat) : Int) - 1 - (i : Nat)).toNat = Fs.length - 1 - i by omega]; exact hb
    have hsn : (G.take (i + 1)).map frow = (G.take i).map frow ++ [frow ⟨a.name, b.bits⟩] := by rw [take_snoc hg, List.map_append]; rfl
    have hln : ((G.take i).map frow ++ [[D.s a.name, D.i .i64 b.bits]]).length = i + 1 := by rw [List.length_append, htm]; rfl
    have hgt : ((G.take i).map frow ++ [[D.s a.name, D.i .i64 b.bits]])[((i : Nat) : Int).toNat]? = some [D.s a.name, D.i .i64 b.bits] := by
      rw [show ((i : Nat) : Int).toNat = i by omega, List.getElem?_append_right (by omega), htm, Nat.sub_self]; rfl
    have hm : ((G.take i ++ Fs.drop i) ++ [mkF])[((i : Nat) : Int).toNat]? = some a := mixA hti [mkF] a ha
    have e5 := mixS hti [mkF] hg hil
    (try (conv => whnf)); repeat' (first | (refine ⟨rfl, _, hgt, ?_⟩; (conv => whnf)) | (refine st (⟨a.name, b.bits⟩ : Fd) hm (by simp) rfl ?_; (conv => whnf)) | refine Ok.seq ?_ | refine OkL.cons ?_ | ((first | refine Ok.region tok ?_ | refine Ok.region_plan (id := 18) tok follows [(5, 16, [15]), (14, 16, [15]), (5, 17, [16, 15]), (14, 17, [16, 15]), (16, 17, [])] [.q 0, .q 1, .q 2, .q 3, .q 4, .q 5, .q 6, .q 7, .q 8, .q 9, .q 10, .q 11, .q 12, .q 13, .q 14, .q 15, .l 16, .l 17, .q 18] (by kernel_rfl) ?_ | refine Ok.region_draw tok follows (by kernel_rfl) ?_ | refine Ok.cond ?_); conv => whnf) | refine Ok.block ?_ | ((first | refine Ok.skip ?_ | refine Ok.exit ?_ | refine Ok.ret ?_ | refine nI ?_ | refine ix _ (by assumption) ?_ | refine ixI (by omega) (by assumption) ?_ | refine ix_new _ (by omega) fun _ _ => ?_ | refine ixI_new (by omega) (by omega) fun _ _ => ?_ | refine ⟨_, by assumption, ?_⟩ | refine Alt2.l (aI ?_) | refine Alt2.r (aI ?_)); conv => whnf) | (refine Ok.scope ?_) | ((first | refine Ok.label ?_ | refine rd rfl (by assumption) ?_ | refine ⟨_, .inl ⟨rfl, rfl⟩, ?_⟩ | refine ⟨_, _, rfl, rfl, ?_⟩); conv => whnf) | (refine ⟨fun _ => ?_, fun _ => ?_⟩ <;> (conv => whnf) <;> (try (exfalso; omega))) | ((first | refine aJ ?_ | refine num_any ?_ | refine ⟨_, rfl, ?_⟩); conv => whnf) | fail)
    all_goals first
      | (exfalso; omega)
      | skip
    refine ⟨i + 1, by omega, by omega, ?_⟩
    rw [hsn, ← e5]
    (conv => whnf)
    simp [envCat]
    try omega
  · have hie : i = Fs.length := by omega
    subst hie
    rw [mixE hG, show G.take Fs.length = G from List.take_of_length_le (by omega)]
    have g0 : (G.map frow).length = Fs.length := by rw [List.length_map, hG]
    have g1 : ((G ++ [mkF]).map frow).take Fs.length = G.map frow := by rw [← hG]; simp
    have g2 : ((G ++ [mkF]).map frow).drop Fs.length = [mkF].map frow := by rw [← hG]; simp
    have g3 : (G.map frow).take Fs.length = G.map frow := List.take_of_length_le (by omega)
    have g4 : ((G ++ [mkF]).map frow).length = Fs.length + 1 := by simp [hG]
    have k3 := num_at (chkE G Es) (chkE_le _ _)
    have p3 := fun sa sb => pcheck_own G Es (sa := sa) (sb := sb) g1 e1 (by omega) hE htx
    have q3 := fun sa => rcheck_own G Es (sa := sa) (sb := rE) g3 rfl (by omega) hE htx
    have v3 := fun sb => kept_own G (sb := sb) g1 g2 g3 (by omega)
    generalize chkE G Es = K3 at *
    (try (conv => whnf)); repeat' (first | refine Ok.seq ?_ | refine OkL.cons ?_ | ((first | refine Ok.region tok ?_ | refine Ok.region_plan (id := 18) tok follows [(5, 16, [15]), (14, 16, [15]), (5, 17, [16, 15]), (14, 17, [16, 15]), (16, 17, [])] [.q 0, .q 1, .q 2, .q 3, .q 4, .q 5, .q 6, .q 7, .q 8, .q 9, .q 10, .q 11, .q 12, .q 13, .q 14, .q 15, .l 16, .l 17, .q 18] (by kernel_rfl) ?_ | refine Ok.region_draw tok follows (by kernel_rfl) ?_ | refine Ok.cond ?_); conv => whnf) | refine Ok.block ?_ | ((first | refine Ok.skip ?_ | refine Ok.exit ?_ | refine Ok.ret ?_ | refine nI ?_ | refine ix _ (by assumption) ?_ | refine ixI (by omega) (by assumption) ?_ | refine ix_new _ (by omega) fun _ _ => ?_ | refine ixI_new (by omega) (by omega) fun _ _ => ?_ | refine ⟨_, by assumption, ?_⟩); conv => whnf) | (refine Or.inl ?_; (conv => whnf); (repeat (refine aI ?_; conv => whnf)); refine ⟨_, p3 _ _, rfl, ?_⟩; conv => whnf) | (refine Or.inl ?_; (conv => whnf); (repeat (refine aI ?_; conv => whnf)); refine ⟨_, q3 _, rfl, ?_⟩; conv => whnf) | (refine Or.inl ?_; (conv => whnf); (repeat (refine aI ?_; conv => whnf)); refine ⟨_, k3, rfl, ?_⟩; conv => whnf) | (refine Or.inl ?_; (conv => whnf); (repeat (refine aI ?_; conv => whnf)); refine ⟨_, u1, rfl, ?_⟩; conv => whnf) | (refine Or.inl ?_; (conv => whnf); (repeat (refine aI ?_; conv => whnf)); refine ⟨_, v3 _, rfl, ?_⟩; conv => whnf) | ((first | refine ⟨_, p3 _ _, rfl, ?_⟩ | refine ⟨_, q3 _, rfl, ?_⟩ | refine ⟨_, k3, rfl, ?_⟩ | refine ⟨_, u1, rfl, ?_⟩ | refine ⟨_, v3 _, rfl, ?_⟩); conv => whnf) | (refine Or.inr (Or.inl ?_); (conv => whnf); (repeat (refine aI ?_; conv => whnf)); refine ⟨_, p3 _ _, ?_⟩; rintro _ _ ⟨rfl, rfl⟩; conv => whnf) | (refine Or.inr (Or.inl ?_); (conv => whnf); (repeat (refine aI ?_; conv => whnf)); refine ⟨_, q3 _, ?_⟩; rintro _ _ ⟨rfl, rfl⟩; conv => whnf) | (refine Or.inr (Or.inl ?_); (conv => whnf); (repeat (refine aI ?_; conv => whnf)); refine ⟨_, k3, ?_⟩; rintro _ _ ⟨rfl, rfl⟩; conv => whnf) | (refine Or.inr (Or.inl ?_); (conv => whnf); (repeat (refine aI ?_; conv => whnf)); refine ⟨_, u1, ?_⟩; rintro _ _ ⟨rfl, rfl⟩; conv => whnf) | (refine Or.inr (Or.inl ?_); (conv => whnf); (repeat (refine aI ?_; conv => whnf)); refine ⟨_, v3 _, ?_⟩; rintro _ _ ⟨rfl, rfl⟩; conv => whnf) | ((first | refine Alt2.l (aI ?_) | refine Alt2.r (aI ?_)); conv => whnf) | (refine Ok.scope ?_) | ((first | refine Ok.label ?_ | refine rd rfl (by assumption) ?_ | refine ⟨_, .inl ⟨rfl, rfl⟩, ?_⟩ | refine ⟨_, _, rfl, rfl, ?_⟩); conv => whnf) | (refine ⟨fun _ => ?_, fun _ => ?_⟩ <;> (conv => whnf) <;> (try (exfalso; omega))) | ((first | refine aJ ?_ | refine num_any ?_ | refine ⟨_, rfl, ?_⟩); conv => whnf) | fail)
    all_goals first
      | (exfalso; omega)
      | (refine Or.inl ?_; (conv => whnf)
         first | rfl | exact tt_b)
      | trace_state
end Go.Proofs.YtagmibogginaaaaGreatDoor
namespace Go.Proofs.YtagmibogginaaaaGreatDoor
open Go Go.Vx Go.Shelf
theorem fld_of {B : Nat} (r : List D) (h : TySs B [.str, .int .i64] r) : ∃ a : Fd, r = frow a ∧ a.name.length ≤ B := by
  obtain ⟨_, _, rfl, h1, h⟩ := ss_cons h
  obtain ⟨_, _, rfl, h2, h⟩ := ss_cons h
  obtain rfl := ss_nil h
  obtain ⟨a, rfl, ha⟩ := str_of h1
  obtain ⟨b, rfl, _⟩ := int_of h2
  exact ⟨⟨a, b⟩, rfl, ha⟩
theorem nd_of {B : Nat} (r : List D) (h : TySs B [.int .i64, .str, .int .i64, .int .i64, .int .i64, .int .i64, .int .i64, .str] r) : ∃ a : Nd, r = nrow a ∧ a.t.f.length ≤ B ∧ a.t.pat.length ≤ B := by
  obtain ⟨_, _, rfl, h0, h⟩ := ss_cons h
  obtain ⟨_, _, rfl, h1, h⟩ := ss_cons h
  obtain ⟨_, _, rfl, h2, h⟩ := ss_cons h
  obtain ⟨_, _, rfl, h3, h⟩ := ss_cons h
  obtain ⟨_, _, rfl, h4, h⟩ := ss_cons h
  obtain ⟨_, _, rfl, h5, h⟩ := ss_cons h
  obtain ⟨_, _, rfl, h6, h⟩ := ss_cons h
  obtain ⟨_, _, rfl, h7, h⟩ := ss_cons h
  obtain rfl := ss_nil h
  obtain ⟨k, rfl, _⟩ := int_of h0
  obtain ⟨f, rfl, hf⟩ := str_of h1
  obtain ⟨a, rfl, _⟩ := int_of h2
  obtain ⟨b, rfl, _⟩ := int_of h3
  obtain ⟨c, rfl, _⟩ := int_of h4
  obtain ⟨d, rfl, _⟩ := int_of h5
  obtain ⟨e, rfl, _⟩ := int_of h6
  obtain ⟨p, rfl, hp⟩ := str_of h7
  exact ⟨⟨k, f, a, b, c, d, e, p⟩, rfl, hf, hp⟩
theorem exprChecks_ats : ∃ ls, shapes T 9 [22, 23] = some ls ∧ ∀ xs, TyAs T 1048576 [22, 23] ls xs → FSpec Tryz.prog T 3 xs (fun d _ => d = .b True) := by
  refine ⟨_, rfl, fun xs h => ?_⟩
  obtain ⟨_, _, rfl, h0, h⟩ := as_cons h
  obtain ⟨_, _, rfl, h1, h⟩ := as_cons h
  obtain rfl := as_nil h
  obtain ⟨x0, r0, rfl, b0, c0, d0⟩ := lst_of (leaf h0 rfl) fld_of
  obtain ⟨x1, r1, rfl, b1, c1, d1⟩ := lst_of (leaf h1 rfl) nd_of
  exact checks_law x0 _ x1 _ fun c hc => by
    have := c1 c hc
    omega
end Go.Proofs.YtagmibogginaaaaGreatDoor
namespace Go.Proofs.YtagmibogginaaaaGreatDoor
open Go Go.Vx
theorem len4 {α : Type} {l : List α} (h : l.length = 4) : ∃ a b c d, l = [a, b, c, d] := match l, h with | [a, b, c, d], _ => ⟨a, b, c, d, rfl⟩
theorem len5 {α : Type} {l : List α} (h : l.length = 5) : ∃ a b c d e, l = [a, b, c, d, e] := match l, h with | [a, b, c, d, e], _ => ⟨a, b, c, d, e, rfl⟩
theorem len20 {α : Type} {l : List α} (h : l.length = 20) : ∃ v0 v1 v2 v3 v4 v5 v6 v7 v8 v9 v10 v11 v12 v13 v14 v15 v16 v17 v18 v19, l = [v0, v1, v2, v3, v4, v5, v6, v7, v8, v9, v10, v11, v12, v13, v14, v15, v16, v17, v18, v19] := match l, h with | [v0, v1, v2, v3, v4, v5, v6, v7, v8, v9, v10, v11, v12, v13, v14, v15, v16, v17, v18, v19], _ => ⟨v0, v1, v2, v3, v4, v5, v6, v7, v8, v9, v10, v11, v12, v13, v14, v15, v16, v17, v18, v19, rfl⟩
theorem st4 {W : World} {fuel : Nat} {cs : List Value} {y : DataW Unit × List MemPlace} {a b c d : Bool} (h : DataW.trod (fun _ => ()) Tryz.prog W 0 (fun _ => true) false fuel 170 cs = some y)
    (hy : y.1 = .agg [.lit (.bool a), .lit (.bool b), .lit (.bool c), .lit (.bool d)]) : cs = [.bool a, .bool b, .bool c, .bool d] := by
  obtain ⟨xs, n, _, rfl, hl, hlen, hf⟩ := DataW.trod_struct Tryz.underlying170 h
  have hc4 : Tryz.prog.cellsOf 170 = 4 := by kernel_rfl
  have hcb : Tryz.prog.cellsOf 4 = 1 := by kernel_rfl
  rw [hc4] at hl
  have hx4 : xs.length = 4 := hlen
  obtain ⟨z0, z1, z2, z3, rfl⟩ := len4 hx4
  obtain ⟨v0, v1, v2, v3, rfl⟩ := len4 hl
  ·
    simp only [List.map_cons, List.map_nil, DataW.agg.injEq, List.cons.injEq, and_true] at hy
    obtain ⟨e0, e1, e2, e3⟩ := hy
    have f0 : DataW.trod (fun _ => ()) Tryz.prog W 0 (fun _ => true) false n 4 (List.take (Tryz.prog.cellsOf 4) (List.drop 0 [v0, v1, v2, v3])) = some z0 := hf 0 _ rfl
    rw [hcb, show List.take 1 (List.drop 0 [v0, v1, v2, v3]) = [v0] from rfl] at f0
    have f1 : DataW.trod (fun _ => ()) Tryz.prog W 0 (fun _ => true) false n 4 (List.take (Tryz.prog.cellsOf 4) (List.drop 1 [v0, v1, v2, v3])) = some z1 := hf 1 _ rfl
    rw [hcb, show List.take 1 (List.drop 1 [v0, v1, v2, v3]) = [v1] from rfl] at f1
    have f2 : DataW.trod (fun _ => ()) Tryz.prog W 0 (fun _ => true) false n 4 (List.take (Tryz.prog.cellsOf 4) (List.drop 2 [v0, v1, v2, v3])) = some z2 := hf 2 _ rfl
    rw [hcb, show List.take 1 (List.drop 2 [v0, v1, v2, v3]) = [v2] from rfl] at f2
    have f3 : DataW.trod (fun _ => ()) Tryz.prog W 0 (fun _ => true) false n 4 (List.take (Tryz.prog.cellsOf 4) (List.drop 3 [v0, v1, v2, v3])) = some z3 := hf 3 _ rfl
    rw [hcb, show List.take 1 (List.drop 3 [v0, v1, v2, v3]) = [v3] from rfl] at f3
    obtain ⟨b0, h0, rfl⟩ := DataW.trod_bool Tryz.underlying4 f0
    obtain ⟨b1, h1, rfl⟩ := DataW.trod_bool Tryz.underlying4 f1
    obtain ⟨b2, h2, rfl⟩ := DataW.trod_bool Tryz.underlying4 f2
    obtain ⟨b3, h3, rfl⟩ := DataW.trod_bool Tryz.underlying4 f3
    clear hf h
    simp only [List.cons.injEq, and_true] at h0 h1 h2 h3
    simp only [DataW.lit.injEq, Lit.bool.injEq] at e0 e1 e2 e3
    rw [h0, h1, h2, h3, e0, e1, e2, e3]
theorem used_of {W : World} {fuel : Nat} {cs : List Value} {p : List MemPlace} (h : DataW.trod (fun _ => ()) Tryz.prog W 0 (fun _ => true) false fuel 171 cs = some (Rows.laid_reach_field_used, p)) :
    cs = [.bool false, .bool false, .bool false, .bool false, .bool true, .bool false, .bool false, .bool false, .bool true, .bool false, .bool true, .bool false, .bool true, .bool true, .bool false, .bool false, .bool false, .bool false, .bool false, .bool true] := by
  obtain ⟨xs, m, _, hx, hl, hxl, hf⟩ := DataW.trod_array Tryz.underlying171 h
  have hc : Tryz.prog.cellsOf 171 = 20 := by kernel_rfl
  have hc4 : Tryz.prog.cellsOf 170 = 4 := by kernel_rfl
  rw [hc] at hl
  rw [hc4] at hf
  have hx1 := (Prod.mk.inj hx).1
  unfold Rows.laid_reach_field_used at hx1
  obtain ⟨y0, y1, y2, y3, y4, rfl⟩ := len5 hxl
  obtain ⟨v0, v1, v2, v3, v4, v5, v6, v7, v8, v9, v10, v11, v12, v13, v14, v15, v16, v17, v18, v19, rfl⟩ := len20 hl
  ·
    simp only [List.map_cons, List.map_nil, DataW.agg.injEq, List.cons.injEq, and_true] at hx1
    obtain ⟨e0, e1, e2, e3, e4⟩ := hx1
    have g0 := st4 (hf 0 (by decide)) e0.symm
    have g1 := st4 (hf 1 (by decide)) e1.symm
    have g2 := st4 (hf 2 (by decide)) e2.symm
    have g3 := st4 (hf 3 (by decide)) e3.symm
    have g4 := st4 (hf 4 (by decide)) e4.symm
    simp at g0 g1 g2 g3 g4
    simp [g0, g1, g2, g3, g4]
theorem glUsed {W : World} (h : laidMetH Tryz.prog Rows.exprChecksUptoRow.laid W) : VLe glV (heapV W) := by
  rw [MakeChecks.laidMetH_plain _ _ _ (by kernel_rfl)] at h
  obtain ⟨ps, ⟨_, _, _, _, _, _, _, _, _, _, ⟨g, t, cs, fuel, p, q, hg, ht, hvar, hd, _, _⟩, _⟩, _⟩ := h
  have hg0 : Tryz.prog.globalNamed "reach/field.used" = some 0 := by kernel_rfl
  have ht0 : (Tryz.prog.globals[0]?).map (·.type) = some 171 := by kernel_rfl
  obtain rfl := Option.some.inj (hg0.symm.trans hg)
  obtain rfl := Option.some.inj (ht0.symm.trans ht)
  have hcs := used_of hd
  intro pp v hp
  unfold glV at hp
  obtain ⟨b, o, sp⟩ := pp
  cases sp with
  | some _ => cases hp
  | none =>
    dsimp only at hp
    match b, hp with
    | 0, hp =>
      have h1 := World.var?_cell hg0 hvar o
      show W.cell? ⟨0, o, none⟩ = some v
      rw [h1, ← Array.getElem?_toList, hcs]
      have hg2 : glD 0 = some [.ff, .ff, .ff, .ff, .tt, .ff, .ff, .ff, .tt, .ff, .tt, .ff, .tt, .tt, .ff, .ff, .ff, .ff, .ff, .tt] := rfl
      rw [hg2] at hp
      dsimp only at hp
      rw [← List.getElem?_map] at hp
      exact hp
    | n + 1, hp => cases hp
end Go.Proofs.YtagmibogginaaaaGreatDoor
