/- The walks and the plain laws that a law of spaces needs, part 5 of 6. -/
import Derived.Test.YtaiondckookpiaaDoorPQD
import Derived.RangeFuncIn
set_option linter.unusedVariables false
set_option linter.unusedSimpArgs false
namespace Go.Proofs.YtaiondckookpiaaDoor
open Go Go.Vx Go.Shelf
set_option maxRecDepth 100000 in
set_option maxHeartbeats 8000000 in
theorem parse2_at (b : Int) (s : Str) : FSpec Tryd.prog T 13 [.i .i64 b, .s s] (POut (parO b s)) := by
  refine FSpec.of_deferK 7 tok Tryd.func13 rfl Tryd.call13 (by simp) def_parse (zd1 := [.i .i64 0, .nilS]) (zd2 := [.i .i64 3]) rfl rfl (by simp [Value.oneCell']) (by simp [Value.oneCell']) rfl ?_
  by_cases hlong : 33024 < s.length
  · rw [parO_long hlong]
    (try (conv => whnf)); repeat' (first | refine Ok.seq ?_ | refine OkL.cons ?_ | ((first | refine Ok.region tok ?_ | refine Ok.region_tree (id := 31) tok follows [(2, 6, []), (5, 6, []), (2, 11, []), (5, 11, []), (6, 11, []), (10, 11, [])] (.q 0 (.q 1 (.q 2 (.q 3 (.q 4 (.alt 5 (.alt 6 (.q 7 (.q 8 (.q 9 (.l 10 (.l 11 (.q 12 .nil)))))) (.alt 10 (.l 6 (.q 7 (.q 8 (.q 9 (.l 11 (.q 12 .nil)))))) .nil)) (.alt 10 (.l 5 (.l 6 (.q 7 (.q 8 (.q 9 (.l 11 (.q 12 .nil))))))) .nil))))))) (by kernel_rfl) ?_ | refine Ok.region_draw tok follows (by kernel_rfl) ?_ | refine Ok.cond ?_); conv => whnf) | refine Ok.block ?_ | ((first | refine Ok.skip ?_ | refine Ok.exit ?_ | refine Ok.ret ?_ | refine nI ?_ | refine ix _ (by assumption) ?_ | refine ixI (by omega) (by assumption) ?_ | refine ix_new _ (by omega) fun _ _ => ?_ | refine ixI_new (by omega) (by omega) fun _ _ => ?_ | refine ⟨_, by assumption, ?_⟩ | refine Alt2.l (aI ?_) | refine Alt2.r (aI ?_)); conv => whnf) | (refine Ok.scope ?_) | ((first | refine Ok.label ?_ | refine rd rfl (by assumption) ?_ | refine ⟨_, .inl ⟨rfl, rfl⟩, ?_⟩ | refine ⟨_, _, rfl, rfl, ?_⟩); conv => whnf) | (refine ⟨fun _ => ?_, fun _ => ?_⟩ <;> (conv => whnf) <;> (try (exfalso; omega))) | ((first | refine aJ ?_ | refine num_any ?_ | refine ⟨_, rfl, ?_⟩); conv => whnf) | (exact True.intro) | (refine And.intro ?_ ?_ <;> (conv => whnf)) | fail)
    refine Or.inl ?_; (conv => whnf)
    exact ⟨rfl, _, rfl, PSp.nil 0⟩
  by_cases hb : b < 1 ∨ 256 < b
  · rw [parO_arg hlong hb]
    (try (conv => whnf)); repeat' (first | refine Ok.seq ?_ | refine OkL.cons ?_ | ((first | refine Ok.region tok ?_ | refine Ok.region_tree (id := 31) tok follows [(2, 6, []), (5, 6, []), (2, 11, []), (5, 11, []), (6, 11, []), (10, 11, [])] (.q 0 (.q 1 (.q 2 (.q 3 (.q 4 (.alt 5 (.alt 6 (.q 7 (.q 8 (.q 9 (.l 10 (.l 11 (.q 12 .nil)))))) (.alt 10 (.l 6 (.q 7 (.q 8 (.q 9 (.l 11 (.q 12 .nil)))))) .nil)) (.alt 10 (.l 5 (.l 6 (.q 7 (.q 8 (.q 9 (.l 11 (.q 12 .nil))))))) .nil))))))) (by kernel_rfl) ?_ | refine Ok.region_draw tok follows (by kernel_rfl) ?_ | refine Ok.cond ?_); conv => whnf) | refine Ok.block ?_ | ((first | refine Ok.skip ?_ | refine Ok.exit ?_ | refine Ok.ret ?_ | refine nI ?_ | refine ix _ (by assumption) ?_ | refine ixI (by omega) (by assumption) ?_ | refine ix_new _ (by omega) fun _ _ => ?_ | refine ixI_new (by omega) (by omega) fun _ _ => ?_ | refine ⟨_, by assumption, ?_⟩ | refine Alt2.l (aI ?_) | refine Alt2.r (aI ?_)); conv => whnf) | (refine Ok.scope ?_) | ((first | refine Ok.label ?_ | refine rd rfl (by assumption) ?_ | refine ⟨_, .inl ⟨rfl, rfl⟩, ?_⟩ | refine ⟨_, _, rfl, rfl, ?_⟩); conv => whnf) | (refine ⟨fun _ => ?_, fun _ => ?_⟩ <;> (conv => whnf) <;> (try (exfalso; omega))) | ((first | refine aJ ?_ | refine num_any ?_ | refine ⟨_, rfl, ?_⟩); conv => whnf) | (exact True.intro) | (refine And.intro ?_ ?_ <;> (conv => whnf)) | fail)
    all_goals
      refine Or.inl ?_; (conv => whnf)
      exact ⟨rfl, _, rfl, PSp.nil 0⟩
  have hnb : noneB b = b := by unfold noneB; rw [if_neg hb]
  have hnone := none_at b
  rw [hnb] at hnone
  by_cases hnn : s = [110, 111, 110, 101]
  · rw [parO_none hlong hb hnn]
    (try (conv => whnf)); repeat' (first | refine Ok.seq ?_ | refine OkL.cons ?_ | ((first | refine Ok.region tok ?_ | refine Ok.region_tree (id := 31) tok follows [(2, 6, []), (5, 6, []), (2, 11, []), (5, 11, []), (6, 11, []), (10, 11, [])] (.q 0 (.q 1 (.q 2 (.q 3 (.q 4 (.alt 5 (.alt 6 (.q 7 (.q 8 (.q 9 (.l 10 (.l 11 (.q 12 .nil)))))) (.alt 10 (.l 6 (.q 7 (.q 8 (.q 9 (.l 11 (.q 12 .nil)))))) .nil)) (.alt 10 (.l 5 (.l 6 (.q 7 (.q 8 (.q 9 (.l 11 (.q 12 .nil))))))) .nil))))))) (by kernel_rfl) ?_ | refine Ok.region_draw tok follows (by kernel_rfl) ?_ | refine Ok.cond ?_); conv => whnf) | refine Ok.block ?_ | ((first | refine Ok.skip ?_ | refine Ok.exit ?_ | refine Ok.ret ?_ | refine nI ?_ | refine ix _ (by assumption) ?_ | refine ixI (by omega) (by assumption) ?_ | refine ix_new _ (by omega) fun _ _ => ?_ | refine ixI_new (by omega) (by omega) fun _ _ => ?_ | refine ⟨_, by assumption, ?_⟩); conv => whnf) | (refine Or.inr (Or.inl ?_); (conv => whnf); (repeat (refine aI ?_; conv => whnf)); refine ⟨_, hnone, ?_⟩; rintro _ _ ⟨rfl, rfl⟩ <;> (conv => whnf)) | ((first | refine Alt2.l (aI ?_) | refine Alt2.r (aI ?_)); conv => whnf) | (refine Ok.scope ?_) | ((first | refine Ok.label ?_ | refine rd rfl (by assumption) ?_ | refine ⟨_, .inl ⟨rfl, rfl⟩, ?_⟩ | refine ⟨_, _, rfl, rfl, ?_⟩); conv => whnf) | (refine ⟨fun _ => ?_, fun _ => ?_⟩ <;> (conv => whnf) <;> (try (exfalso; omega))) | ((first | refine aJ ?_ | refine num_any ?_ | refine ⟨_, rfl, ?_⟩); conv => whnf) | (exact True.intro) | (refine And.intro ?_ ?_ <;> (conv => whnf)) | fail)
    · refine Or.inl ?_; (conv => whnf)
      exact ⟨rfl, _, rfl, PSp.nil b⟩
    · exact absurd hnn (by assumption)
  have hLn := cutL_len 43 s
  have hLl : ((cutL 43 s).map srow).length = (cutL 43 s).length := by simp
  have hLm : ∀ x ∈ cutL 43 s, x.length ≤ s.length := fun x hx => cutL_mem 43 hx
  have hcl : ∀ i, cntP ((pieces s).take i) ≤ (pieces s).length * (s.length + 1) := cntP_le fun m hm => (pieces_mem hm).2.1
  have hpl := pieces_len s
  have hmul : (pieces s).length * (s.length + 1) ≤ 33025 * 33025 := Nat.mul_le_mul (by omega) (by omega)
  (try (conv => whnf)); repeat' (first | refine Ok.seq ?_ | refine OkL.cons ?_ | ((first | refine Ok.region tok ?_ | refine Ok.region_tree (id := 31) tok follows [(2, 6, []), (5, 6, []), (2, 11, []), (5, 11, []), (6, 11, []), (10, 11, [])] (.q 0 (.q 1 (.q 2 (.q 3 (.q 4 (.alt 5 (.alt 6 (.q 7 (.q 8 (.q 9 (.l 10 (.l 11 (.q 12 .nil)))))) (.alt 10 (.l 6 (.q 7 (.q 8 (.q 9 (.l 11 (.q 12 .nil)))))) .nil)) (.alt 10 (.l 5 (.l 6 (.q 7 (.q 8 (.q 9 (.l 11 (.q 12 .nil))))))) .nil))))))) (by kernel_rfl) ?_ | refine Ok.region_draw tok follows (by kernel_rfl) ?_ | refine Ok.cond ?_); conv => whnf) | refine Ok.block ?_ | ((first | refine Ok.skip ?_ | refine Ok.exit ?_ | refine Ok.ret ?_ | refine nI ?_ | refine ix _ (by assumption) ?_ | refine ixI (by omega) (by assumption) ?_ | refine ix_new _ (by omega) fun _ _ => ?_ | refine ixI_new (by omega) (by omega) fun _ _ => ?_ | refine ⟨_, by assumption, ?_⟩); conv => whnf) | (refine Or.inr (Or.inl ?_); (conv => whnf); (repeat (refine aI ?_; conv => whnf)); refine ⟨_, hnone, ?_⟩; rintro _ _ ⟨rfl, rfl⟩ <;> (conv => whnf)) | ((first | refine Alt2.l (aI ?_) | refine Alt2.r (aI ?_)); conv => whnf) | (refine Ok.scope ?_) | ((first | refine Ok.label ?_ | refine rd rfl (by assumption) ?_ | refine ⟨_, .inl ⟨rfl, rfl⟩, ?_⟩ | refine ⟨_, _, rfl, rfl, ?_⟩); conv => whnf) | (refine ⟨fun _ => ?_, fun _ => ?_⟩ <;> (conv => whnf) <;> (try (exfalso; omega))) | ((first | refine aJ ?_ | refine num_any ?_ | refine ⟨_, rfl, ?_⟩); conv => whnf) | (exact True.intro) | (refine And.intro ?_ ?_ <;> (conv => whnf)) | fail)
  · exact absurd (by assumption) hnn
  refine OkL.nil ?_
  (conv => whnf)
  refine ⟨0, 1, rfl, rfl, by decide, by decide, by decide, rfl, ?_⟩
  have hsp : ∀ t : Str, ∀ c : UInt8, t.length ≤ s.length → FSpec Tryd.prog T 43 [.s t, .s [c]] fun d rows => d = .own 0 (cutL c t).length ∧ rows = [some (9, (cutL c t).map srow)] := fun t c h => splitAt t c (by omega)
  (try (conv => whnf)); repeat' (first | refine Ok.seq ?_ | refine OkL.cons ?_ | ((first | refine Ok.region tok ?_ | refine Ok.region_tree (id := 31) tok follows [(2, 6, []), (5, 6, []), (2, 11, []), (5, 11, []), (6, 11, []), (10, 11, [])] (.q 0 (.q 1 (.q 2 (.q 3 (.q 4 (.alt 5 (.alt 6 (.q 7 (.q 8 (.q 9 (.l 10 (.l 11 (.q 12 .nil)))))) (.alt 10 (.l 6 (.q 7 (.q 8 (.q 9 (.l 11 (.q 12 .nil)))))) .nil)) (.alt 10 (.l 5 (.l 6 (.q 7 (.q 8 (.q 9 (.l 11 (.q 12 .nil))))))) .nil))))))) (by kernel_rfl) ?_ | refine Ok.region_draw tok follows (by kernel_rfl) ?_ | refine Ok.cond ?_); conv => whnf) | refine Ok.block ?_ | ((first | refine Ok.skip ?_ | refine Ok.exit ?_ | refine Ok.ret ?_ | refine nI ?_ | refine ix _ (by assumption) ?_ | refine ixI (by omega) (by assumption) ?_ | refine ix_new _ (by omega) fun _ _ => ?_ | refine ixI_new (by omega) (by omega) fun _ _ => ?_ | refine ⟨_, by assumption, ?_⟩); conv => whnf) | (refine Or.inl ?_; (conv => whnf); (repeat (refine aI ?_; conv => whnf)); refine ⟨_, hsp s 43 (Nat.le_refl _), rfl, ?_⟩; conv => whnf) | (refine ⟨_, hsp s 43 (Nat.le_refl _), rfl, ?_⟩; conv => whnf) | (refine Or.inr (Or.inl ?_); (conv => whnf); (repeat (refine aI ?_; conv => whnf)); refine ⟨_, hsp s 43 (Nat.le_refl _), ?_⟩; rintro _ _ ⟨rfl, rfl⟩; conv => whnf) | ((first | refine Alt2.l (aI ?_) | refine Alt2.r (aI ?_)); conv => whnf) | (refine Ok.scope ?_) | ((first | refine Ok.label ?_ | refine rd rfl (by assumption) ?_ | refine ⟨_, .inl ⟨rfl, rfl⟩, ?_⟩ | refine ⟨_, _, rfl, rfl, ?_⟩); conv => whnf) | (refine ⟨fun _ => ?_, fun _ => ?_⟩ <;> (conv => whnf) <;> (try (exfalso; omega))) | ((first | refine aJ ?_ | refine num_any ?_ | refine ⟨_, rfl, ?_⟩); conv => whnf) | (exact True.intro) | (refine And.intro ?_ ?_ <;> (conv => whnf)) | fail)
  refine Ok.ghost 6 52 rfl ?_
  (conv => whnf)
  refine Ok.loopU [0, 4, 5, 37, 38] [6, 7, 39] 2 2 (fun (x : Nat × List LR) => [.own 1 x.2.length, .i .i64 (cntP ((pieces s).take x.1) : Nat), .i .i64 (x.1 : Nat)]) (fun _ b => b) (fun (x : Nat × List LR) (_ : Vx.Rows) => [some (9, (cutL 43 s).map srow), some (52, x.2.map lrow)]) (fun (x : Nat × List LR) => x.1 ≤ (cutL 43 s).length ∧ x.2.map LR.l = (pieces s).take x.1 ∧ OkP b ((pieces s).take x.1)) (fun (x : Nat × List LR) => (cutL 43 s).length - x.1) ((0, [])) (⟨Nat.zero_le _, by simp, by simp [OkP]⟩) ?_; (conv => whnf); refine ⟨by ((conv => whnf); first | rfl | (simp [envCat, List.take_of_length_le, crow, trow]; done) | (simp [envCat, List.take_of_length_le, crow, trow]; rw [IntKind.wrap_i64]; omega)), ?_⟩
  rintro ⟨i, lss⟩ ⟨hi, hls, hok⟩
  dsimp only at hi hls hok ⊢
  have hlsl : (lss.map lrow).length = lss.length := by simp
  have hlsn : lss.length ≤ 40000 := by
    have := congrArg List.length hls
    simp at this
    omega
  have hci := hcl i
  (conv => whnf)
  by_cases hil : i < (cutL 43 s).length
  · obtain ⟨x, hx⟩ : ∃ x, (cutL 43 s)[i]? = some x := ⟨_, List.getElem?_eq_getElem hil⟩
    have hpx := pieces_get hx
    have hxl := hLm x (List.mem_of_getElem? hx)
    have hnx := cntP_take hpx
    have hml := cutL_len 45 x
    have hmm : ((cutL 45 x).map srow).length = (cutL 45 x).length := by simp
    have hokx := okP_take (b := b) hpx hok
    have hwl : ∀ w ∈ cutL 45 x, w.length ≤ x.length := fun w hw => cutL_mem 45 hw
    have hbad : ∀ w ∈ cutL 45 x, ¬ OkW b w → ¬ OkP b (pieces s) := fun w hw h q => h (q _ (List.mem_of_getElem? hpx) w hw)
    have hsx := hsp x 45 hxl
    generalize cntP ((pieces s).take i) = K at *
    generalize hM : cutL 45 x = M at *
    (try (conv => whnf)); repeat' (first | refine Ok.seq ?_ | refine OkL.cons ?_ | ((first | refine Ok.region tok ?_ | refine Ok.region_tree (id := 31) tok follows [(2, 6, []), (5, 6, []), (2, 11, []), (5, 11, []), (6, 11, []), (10, 11, [])] (.q 0 (.q 1 (.q 2 (.q 3 (.q 4 (.alt 5 (.alt 6 (.q 7 (.q 8 (.q 9 (.l 10 (.l 11 (.q 12 .nil)))))) (.alt 10 (.l 6 (.q 7 (.q 8 (.q 9 (.l 11 (.q 12 .nil)))))) .nil)) (.alt 10 (.l 5 (.l 6 (.q 7 (.q 8 (.q 9 (.l 11 (.q 12 .nil))))))) .nil))))))) (by kernel_rfl) ?_ | refine Ok.region_draw tok follows (by kernel_rfl) ?_ | refine Ok.cond ?_); conv => whnf) | refine Ok.block ?_ | ((first | refine Ok.skip ?_ | refine Ok.exit ?_ | refine Ok.ret ?_ | refine nI ?_ | refine ix _ (by assumption) ?_ | refine ixI (by omega) (by assumption) ?_ | refine ix_new _ (by omega) fun _ _ => ?_ | refine ixI_new (by omega) (by omega) fun _ _ => ?_ | refine ⟨_, by assumption, ?_⟩); conv => whnf) | (refine Or.inl ?_; (conv => whnf); (repeat (refine aI ?_; conv => whnf)); refine ⟨_, hsx, rfl, ?_⟩; conv => whnf) | (refine ⟨_, hsx, rfl, ?_⟩; conv => whnf) | (refine Or.inr (Or.inl ?_); (conv => whnf); (repeat (refine aI ?_; conv => whnf)); refine ⟨_, hsx, ?_⟩; rintro _ _ ⟨rfl, rfl⟩; conv => whnf) | ((first | refine Alt2.l (aI ?_) | refine Alt2.r (aI ?_)); conv => whnf) | (refine Ok.scope ?_) | ((first | refine Ok.label ?_ | refine rd rfl (by assumption) ?_ | refine ⟨_, .inl ⟨rfl, rfl⟩, ?_⟩ | refine ⟨_, _, rfl, rfl, ?_⟩); conv => whnf) | (refine ⟨fun _ => ?_, fun _ => ?_⟩ <;> (conv => whnf) <;> (try (exfalso; omega))) | ((first | refine aJ ?_ | refine num_any ?_ | refine ⟨_, rfl, ?_⟩); conv => whnf) | (exact True.intro) | (refine And.intro ?_ ?_ <;> (conv => whnf)) | fail)
    refine Ok.ghost 10 69 rfl ?_
    (conv => whnf)
    refine Ok.loopU [0, 4, 5, 6, 7, 37, 38, 39, 44, 45] [10, 46] 4 2 (fun (j : Nat) => [.own 3 j, .i .i64 (j : Nat)]) (fun _ b => b) (fun (j : Nat) (_ : Vx.Rows) => [some (9, (cutL 43 s).map srow), some (52, lss.map lrow), some (9, M.map srow), some (69, (M.take j).map crow)]) (fun (j : Nat) => j ≤ M.length ∧ ∀ w ∈ M.take j, OkW b w) (fun (j : Nat) => M.length - j) (0) (⟨Nat.zero_le _, by simp⟩) ?_; (conv => whnf); refine ⟨by ((conv => whnf); first | rfl | (simp [envCat, List.take_of_length_le, crow, trow]; done) | (simp [envCat, List.take_of_length_le, crow, trow]; rw [IntKind.wrap_i64]; omega)), ?_⟩
    rintro j ⟨hj, hw⟩
    have hjm : ((M.take j).map crow).length = j := by simp; omega
    (conv => whnf)
    by_cases hjl : j < M.length
    · obtain ⟨y, hy⟩ : ∃ y, M[j]? = some y := ⟨_, List.getElem?_eq_getElem hjl⟩
      have hyI : M[((j : Nat) : Int).toNat]? = some y := hy
      have hym := List.mem_of_getElem? hy
      have hyl := hwl y hym
      have hpy := parse_at y
      by_cases hgood : OkW b y
      · have hg1 := hgood.1
        rw [zer_of hgood.2, perr_of hgood.2] at hpy
        (try (conv => whnf)); repeat' (first | refine Ok.seq ?_ | refine OkL.cons ?_ | ((first | refine Ok.region tok ?_ | refine Ok.region_tree (id := 31) tok follows [(2, 6, []), (5, 6, []), (2, 11, []), (5, 11, []), (6, 11, []), (10, 11, [])] (.q 0 (.q 1 (.q 2 (.q 3 (.q 4 (.alt 5 (.alt 6 (.q 7 (.q 8 (.q 9 (.l 10 (.l 11 (.q 12 .nil)))))) (.alt 10 (.l 6 (.q 7 (.q 8 (.q 9 (.l 11 (.q 12 .nil)))))) .nil)) (.alt 10 (.l 5 (.l 6 (.q 7 (.q 8 (.q 9 (.l 11 (.q 12 .nil))))))) .nil))))))) (by kernel_rfl) ?_ | refine Ok.region_draw tok follows (by kernel_rfl) ?_ | refine Ok.cond ?_); conv => whnf) | refine Ok.block ?_ | ((first | refine Ok.skip ?_ | refine Ok.exit ?_ | refine Ok.ret ?_ | refine nI ?_ | refine ix _ (by assumption) ?_ | refine ixI (by omega) (by assumption) ?_ | refine ix_new _ (by omega) fun _ _ => ?_ | refine ixI_new (by omega) (by omega) fun _ _ => ?_ | refine ⟨_, by assumption, ?_⟩); conv => whnf) | (refine Or.inr (Or.inl ?_); (conv => whnf); (repeat (refine aI ?_; conv => whnf)); refine ⟨_, hpy, ?_⟩; rintro _ _ ⟨rfl, rfl⟩ <;> (conv => whnf)) | ((first | refine Alt2.l (aI ?_) | refine Alt2.r (aI ?_)); conv => whnf) | (refine Ok.scope ?_) | ((first | refine Ok.label ?_ | refine rd rfl (by assumption) ?_ | refine ⟨_, .inl ⟨rfl, rfl⟩, ?_⟩ | refine ⟨_, _, rfl, rfl, ?_⟩); conv => whnf) | (refine ⟨fun _ => ?_, fun _ => ?_⟩ <;> (conv => whnf) <;> (try (exfalso; omega))) | ((first | refine aJ ?_ | refine num_any ?_ | refine ⟨_, rfl, ?_⟩); conv => whnf) | (exact True.intro) | (refine And.intro ?_ ?_ <;> (conv => whnf)) | fail)
        refine ⟨j + 1, by omega, ⟨by omega, fun w hw2 => ?_⟩, ?_⟩
        · rw [take_snoc hy] at hw2
          rcases List.mem_append.1 hw2 with h | h
          · exact hw w h
          · simp at h; rw [h]; exact hgood
        · rw [take_snoc hy]
          (conv => whnf)
          simp [envCat]
          omega
      · have hno := hbad y hym hgood
        by_cases hoc : okC y
        · have hne : (y.length : Int) ≠ b := fun e => hgood ⟨e, hoc⟩
          rw [perr_of hoc] at hpy
          (try (conv => whnf)); repeat' (first | refine Ok.seq ?_ | refine OkL.cons ?_ | ((first | refine Ok.region tok ?_ | refine Ok.region_tree (id := 31) tok follows [(2, 6, []), (5, 6, []), (2, 11, []), (5, 11, []), (6, 11, []), (10, 11, [])] (.q 0 (.q 1 (.q 2 (.q 3 (.q 4 (.alt 5 (.alt 6 (.q 7 (.q 8 (.q 9 (.l 10 (.l 11 (.q 12 .nil)))))) (.alt 10 (.l 6 (.q 7 (.q 8 (.q 9 (.l 11 (.q 12 .nil)))))) .nil)) (.alt 10 (.l 5 (.l 6 (.q 7 (.q 8 (.q 9 (.l 11 (.q 12 .nil))))))) .nil))))))) (by kernel_rfl) ?_ | refine Ok.region_draw tok follows (by kernel_rfl) ?_ | refine Ok.cond ?_); conv => whnf) | refine Ok.block ?_ | ((first | refine Ok.skip ?_ | refine Ok.exit ?_ | refine Ok.ret ?_ | refine nI ?_ | refine ix _ (by assumption) ?_ | refine ixI (by omega) (by assumption) ?_ | refine ix_new _ (by omega) fun _ _ => ?_ | refine ixI_new (by omega) (by omega) fun _ _ => ?_ | refine ⟨_, by assumption, ?_⟩); conv => whnf) | (refine Or.inr (Or.inl ?_); (conv => whnf); (repeat (refine aI ?_; conv => whnf)); refine ⟨_, hpy, ?_⟩; rintro _ _ ⟨rfl, rfl⟩ <;> (conv => whnf)) | ((first | refine Alt2.l (aI ?_) | refine Alt2.r (aI ?_)); conv => whnf) | (refine Ok.scope ?_) | ((first | refine Ok.label ?_ | refine rd rfl (by assumption) ?_ | refine ⟨_, .inl ⟨rfl, rfl⟩, ?_⟩ | refine ⟨_, _, rfl, rfl, ?_⟩); conv => whnf) | (refine ⟨fun _ => ?_, fun _ => ?_⟩ <;> (conv => whnf) <;> (try (exfalso; omega))) | ((first | refine aJ ?_ | refine num_any ?_ | refine ⟨_, rfl, ?_⟩); conv => whnf) | (exact True.intro) | (refine And.intro ?_ ?_ <;> (conv => whnf)) | fail)
          all_goals first
            | (rw [parO_word hlong hb hnn hno]
               refine Or.inl ?_; (conv => whnf)
               exact ⟨rfl, _, rfl, PSp.nil 0⟩)
            | (exfalso; omega)
        · have hpe := perr_not hoc
          generalize perr y = E at *
          (try (conv => whnf)); repeat' (first | refine Ok.seq ?_ | refine OkL.cons ?_ | ((first | refine Ok.region tok ?_ | refine Ok.region_tree (id := 31) tok follows [(2, 6, []), (5, 6, []), (2, 11, []), (5, 11, []), (6, 11, []), (10, 11, [])] (.q 0 (.q 1 (.q 2 (.q 3 (.q 4 (.alt 5 (.alt 6 (.q 7 (.q 8 (.q 9 (.l 10 (.l 11 (.q 12 .nil)))))) (.alt 10 (.l 6 (.q 7 (.q 8 (.q 9 (.l 11 (.q 12 .nil)))))) .nil)) (.alt 10 (.l 5 (.l 6 (.q 7 (.q 8 (.q 9 (.l 11 (.q 12 .nil))))))) .nil))))))) (by kernel_rfl) ?_ | refine Ok.region_draw tok follows (by kernel_rfl) ?_ | refine Ok.cond ?_); conv => whnf) | refine Ok.block ?_ | ((first | refine Ok.skip ?_ | refine Ok.exit ?_ | refine Ok.ret ?_ | refine nI ?_ | refine ix _ (by assumption) ?_ | refine ixI (by omega) (by assumption) ?_ | refine ix_new _ (by omega) fun _ _ => ?_ | refine ixI_new (by omega) (by omega) fun _ _ => ?_ | refine ⟨_, by assumption, ?_⟩); conv => whnf) | (refine Or.inr (Or.inl ?_); (conv => whnf); (repeat (refine aI ?_; conv => whnf)); refine ⟨_, hpy, ?_⟩; rintro _ _ ⟨rfl, rfl⟩ <;> (conv => whnf)) | ((first | refine Alt2.l (aI ?_) | refine Alt2.r (aI ?_)); conv => whnf) | (refine Ok.scope ?_) | ((first | refine Ok.label ?_ | refine rd rfl (by assumption) ?_ | refine ⟨_, .inl ⟨rfl, rfl⟩, ?_⟩ | refine ⟨_, _, rfl, rfl, ?_⟩); conv => whnf) | (refine ⟨fun _ => ?_, fun _ => ?_⟩ <;> (conv => whnf) <;> (try (exfalso; omega))) | ((first | refine aJ ?_ | refine num_any ?_ | refine ⟨_, rfl, ?_⟩); conv => whnf) | (exact True.intro) | (refine And.intro ?_ ?_ <;> (conv => whnf)) | fail)
          all_goals first
            | (rw [parO_word hlong hb hnn hno]
               refine Or.inl ?_; (conv => whnf)
               exact ⟨rfl, _, rfl, PSp.nil 0⟩)
            | (exfalso; omega)
    · have hje : j = M.length := by omega
      subst hje
      rw [List.take_length] at hw hjm ⊢
      have hok2 := hokx hw
      refine Ok.pub 3 ?_
      (conv => whnf)
      (try (conv => whnf)); repeat' (first | refine Ok.seq ?_ | refine OkL.cons ?_ | ((first | refine Ok.region tok ?_ | refine Ok.region_tree (id := 31) tok follows [(2, 6, []), (5, 6, []), (2, 11, []), (5, 11, []), (6, 11, []), (10, 11, [])] (.q 0 (.q 1 (.q 2 (.q 3 (.q 4 (.alt 5 (.alt 6 (.q 7 (.q 8 (.q 9 (.l 10 (.l 11 (.q 12 .nil)))))) (.alt 10 (.l 6 (.q 7 (.q 8 (.q 9 (.l 11 (.q 12 .nil)))))) .nil)) (.alt 10 (.l 5 (.l 6 (.q 7 (.q 8 (.q 9 (.l 11 (.q 12 .nil))))))) .nil))))))) (by kernel_rfl) ?_ | refine Ok.region_draw tok follows (by kernel_rfl) ?_ | refine Ok.cond ?_); conv => whnf) | refine Ok.block ?_ | ((first | refine Ok.skip ?_ | refine Ok.exit ?_ | refine Ok.ret ?_ | refine nI ?_ | refine ix _ (by assumption) ?_ | refine ixI (by omega) (by assumption) ?_ | refine ix_new _ (by omega) fun _ _ => ?_ | refine ixI_new (by omega) (by omega) fun _ _ => ?_ | refine ⟨_, by assumption, ?_⟩ | refine Alt2.l (aI ?_) | refine Alt2.r (aI ?_)); conv => whnf) | (refine Ok.scope ?_) | ((first | refine Ok.label ?_ | refine rd rfl (by assumption) ?_ | refine ⟨_, .inl ⟨rfl, rfl⟩, ?_⟩ | refine ⟨_, _, rfl, rfl, ?_⟩); conv => whnf) | (refine ⟨fun _ => ?_, fun _ => ?_⟩ <;> (conv => whnf) <;> (try (exfalso; omega))) | ((first | refine aJ ?_ | refine num_any ?_ | refine ⟨_, rfl, ?_⟩); conv => whnf) | (exact True.intro) | (refine And.intro ?_ ?_ <;> (conv => whnf)) | fail)
      refine ⟨(i + 1, lss ++ [⟨M, List.drop M.length (M.map crow)⟩]), by dsimp only; omega, ⟨by dsimp only; omega, ?_, hok2⟩, ?_⟩
      · dsimp only
        rw [List.map_append, hls, take_snoc hpx]
        rfl
      · dsimp only
        rw [hnx]
        (conv => whnf)
        simp [envCat, List.take_of_length_le]
        rw [IntKind.wrap_i64] <;> omega
  · have hie : i = (cutL 43 s).length := by omega
    subst hie
    rw [pieces_all] at hok hci hls
    rw [pieces_all]
    have hgood := trms_good (n := b) (fun m hm => (pieces_mem hm).1) hok
    have hne : ∀ m ∈ pieces s, m ≠ [] := fun m hm => (pieces_mem hm).1
    have hlsL : lss.length = (cutL 43 s).length := by
      have := congrArg List.length hls
      simp [pieces] at this
      exact this
    by_cases hmany : 128 < cntP (pieces s)
    · rw [parO_many hlong hb hnn hok hmany]
      (try (conv => whnf)); repeat' (first | refine Ok.seq ?_ | refine OkL.cons ?_ | ((first | refine Ok.region tok ?_ | refine Ok.region_tree (id := 31) tok follows [(2, 6, []), (5, 6, []), (2, 11, []), (5, 11, []), (6, 11, []), (10, 11, [])] (.q 0 (.q 1 (.q 2 (.q 3 (.q 4 (.alt 5 (.alt 6 (.q 7 (.q 8 (.q 9 (.l 10 (.l 11 (.q 12 .nil)))))) (.alt 10 (.l 6 (.q 7 (.q 8 (.q 9 (.l 11 (.q 12 .nil)))))) .nil)) (.alt 10 (.l 5 (.l 6 (.q 7 (.q 8 (.q 9 (.l 11 (.q 12 .nil))))))) .nil))))))) (by kernel_rfl) ?_ | refine Ok.region_draw tok follows (by kernel_rfl) ?_ | refine Ok.cond ?_); conv => whnf) | refine Ok.block ?_ | ((first | refine Ok.skip ?_ | refine Ok.exit ?_ | refine Ok.ret ?_ | refine nI ?_ | refine ix _ (by assumption) ?_ | refine ixI (by omega) (by assumption) ?_ | refine ix_new _ (by omega) fun _ _ => ?_ | refine ixI_new (by omega) (by omega) fun _ _ => ?_ | refine ⟨_, by assumption, ?_⟩ | refine Alt2.l (aI ?_) | refine Alt2.r (aI ?_)); conv => whnf) | (refine Ok.scope ?_) | ((first | refine Ok.label ?_ | refine rd rfl (by assumption) ?_ | refine ⟨_, .inl ⟨rfl, rfl⟩, ?_⟩ | refine ⟨_, _, rfl, rfl, ?_⟩); conv => whnf) | (refine ⟨fun _ => ?_, fun _ => ?_⟩ <;> (conv => whnf) <;> (try (exfalso; omega))) | ((first | refine aJ ?_ | refine num_any ?_ | refine ⟨_, rfl, ?_⟩); conv => whnf) | (exact True.intro) | (refine And.intro ?_ ?_ <;> (conv => whnf)) | fail)
      · refine Or.inl ?_; (conv => whnf)
        exact ⟨rfl, _, rfl, PSp.nil 0⟩
      all_goals exact absurd hmany (by omega)
    · rw [parO_form hlong hb hnn hok hmany]
      have hsz := szT_trms hne
      (try (conv => whnf)); repeat' (first | refine Ok.seq ?_ | refine OkL.cons ?_ | ((first | refine Ok.region tok ?_ | refine Ok.cond ?_); conv => whnf) | refine Ok.block ?_ | ((first | refine Ok.skip ?_ | refine Ok.exit ?_ | refine Ok.ret ?_ | refine nI ?_ | refine ix _ (by assumption) ?_ | refine ixI (by omega) (by assumption) ?_ | refine ix_new _ (by omega) fun _ _ => ?_ | refine ixI_new (by omega) (by omega) fun _ _ => ?_ | refine ⟨_, by assumption, ?_⟩ | refine Alt2.l (aI ?_) | refine Alt2.r (aI ?_)); conv => whnf) | (refine Ok.scope ?_) | ((first | refine Ok.label ?_ | refine rd rfl (by assumption) ?_ | refine ⟨_, .inl ⟨rfl, rfl⟩, ?_⟩ | refine ⟨_, _, rfl, rfl, ?_⟩); conv => whnf) | (refine ⟨fun _ => ?_, fun _ => ?_⟩ <;> (conv => whnf) <;> (try (exfalso; omega))) | ((first | refine aJ ?_ | refine num_any ?_ | refine ⟨_, rfl, ?_⟩); conv => whnf) | fail)
      refine Ok.ghost 15 81 rfl ?_
      (conv => whnf)
      refine Ok.loopU [0, 4, 5, 81, 82] [15, 83] 3 2 (fun (x : Nat × List TR) => [.own 2 x.2.length, .i .i64 (x.1 : Nat)]) (fun _ b => b) (fun (x : Nat × List TR) (_ : Vx.Rows) => [some (9, (cutL 43 s).map srow), some (52, lss.map lrow), some (81, x.2.map trow)]) (fun (x : Nat × List TR) => x.1 ≤ (cutL 43 s).length ∧ x.2.map TR.t = trms ((pieces s).take x.1) ∧ x.2.length ≤ x.1) (fun (x : Nat × List TR) => (cutL 43 s).length - x.1) ((0, [])) (⟨Nat.zero_le _, by simp [trms], by simp⟩) ?_; (conv => whnf); refine ⟨by ((conv => whnf); first | rfl | (simp [envCat, List.take_of_length_le, crow, trow]; done) | (simp [envCat, List.take_of_length_le, crow, trow]; rw [IntKind.wrap_i64]; omega)), ?_⟩
      rintro ⟨i, l⟩ ⟨hi, hl, hll⟩
      dsimp only at hi hl hll ⊢
      have hlm : (l.map trow).length = l.length := by simp
      (conv => whnf)
      by_cases hil : i < (cutL 43 s).length
      · obtain ⟨x, hx⟩ : ∃ x, (cutL 43 s)[i]? = some x := ⟨_, List.getElem?_eq_getElem hil⟩
        have hpx := pieces_get hx
        have hxl := hLm x (List.mem_of_getElem? hx)
        have hml := cutL_len 45 x
        have hoks := hok _ (List.mem_of_getElem? hpx)
        obtain ⟨p, less, hm⟩ : ∃ p less, cutL 45 x = p :: less := by
          cases h : cutL 45 x with
          | nil => exact absurd h (cutL_ne _ _)
          | cons a l => exact ⟨a, l, rfl⟩
        rw [hm] at hpx hml hoks
        simp at hml
        obtain ⟨rm1, hlx⟩ := lrows hls hpx
        have hp := hoks p (by simp)
        have hlo : ∀ m ∈ less, CT m := fun m h => (hoks m (by simp [h])).2.1
        have hlm2 : (less.map crow).length = less.length := by simp
        have hsl : ∀ rm : List (List D), List.drop 1 (List.take (List.map crow (p :: less)).length (List.map crow (p :: less) ++ rm)) = less.map crow := fun rm => by
          rw [List.take_left' rfl]
          rfl
        have hnew : ∀ rl room, rl = List.map lrow [⟨less, List.drop (List.map crow (p :: less)).length (List.map crow (p :: less) ++ rm1)⟩] → FSpec Tryd.prog T 45 [.agg (crow p), .lst 52 rl room] (NewT p less) := fun rl room h => by
          have := newTerm_at p [⟨less, List.drop (List.map crow (p :: less)).length (List.map crow (p :: less) ++ rm1)⟩] (room := room) ⟨hp.2.1, hp.2.2⟩ (by simpa using hlo) (by simp [allL]; omega) (by simp) h
          rwa [show allL [⟨less, List.drop (List.map crow (p :: less)).length (List.map crow (p :: less) ++ rm1)⟩] = less by simp [allL]] at this
        (try (conv => whnf)); repeat' (first | refine Ok.seq ?_ | refine OkL.cons ?_ | ((first | refine Ok.region tok ?_ | refine Ok.region_tree (id := 31) tok follows [(2, 6, []), (5, 6, []), (2, 11, []), (5, 11, []), (6, 11, []), (10, 11, [])] (.q 0 (.q 1 (.q 2 (.q 3 (.q 4 (.alt 5 (.alt 6 (.q 7 (.q 8 (.q 9 (.l 10 (.l 11 (.q 12 .nil)))))) (.alt 10 (.l 6 (.q 7 (.q 8 (.q 9 (.l 11 (.q 12 .nil)))))) .nil)) (.alt 10 (.l 5 (.l 6 (.q 7 (.q 8 (.q 9 (.l 11 (.q 12 .nil))))))) .nil))))))) (by kernel_rfl) ?_ | refine Ok.region_draw tok follows (by kernel_rfl) ?_ | refine Ok.cond ?_); conv => whnf) | refine Ok.block ?_ | ((first | refine Ok.skip ?_ | refine Ok.exit ?_ | refine Ok.ret ?_ | refine nI ?_ | refine ix _ (by assumption) ?_ | refine ixI (by omega) (by assumption) ?_ | refine ix_new _ (by omega) fun _ _ => ?_ | refine ixI_new (by omega) (by omega) fun _ _ => ?_ | refine ⟨_, by assumption, ?_⟩); conv => whnf) | (refine Or.inr (Or.inl ?_); (conv => whnf); (repeat (refine aI ?_; conv => whnf)); refine ⟨_, hnew _ _ (by simp only [hsl]; rfl) , ?_⟩; rintro _ _ ⟨rfl, (⟨ht, rfl⟩ | ⟨t, rm3, ht, rfl⟩)⟩ <;> (conv => whnf)) | ((first | refine Alt2.l (aI ?_) | refine Alt2.r (aI ?_)); conv => whnf) | (refine Ok.scope ?_) | ((first | refine Ok.label ?_ | refine rd rfl (by assumption) ?_ | refine ⟨_, .inl ⟨rfl, rfl⟩, ?_⟩ | refine ⟨_, _, rfl, rfl, ?_⟩); conv => whnf) | (refine ⟨fun _ => ?_, fun _ => ?_⟩ <;> (conv => whnf) <;> (try (exfalso; omega))) | ((first | refine aJ ?_ | refine num_any ?_ | refine ⟨_, rfl, ?_⟩); conv => whnf) | (exact True.intro) | (refine And.intro ?_ ?_ <;> (conv => whnf)) | fail)
        all_goals first
          | (rename_i h; exact absurd trivial h)
          | (refine ⟨(i + 1, l), by dsimp only; omega, ⟨by dsimp only; omega, by dsimp only; rw [trms_none hpx (show trm (p :: less) = none from ht)]; exact hl, by dsimp only; omega⟩, ?_⟩
             (conv => whnf)
             rfl)
          | (refine ⟨(i + 1, l ++ [⟨t, rm3⟩]), by dsimp only; omega, ⟨by dsimp only; omega, by dsimp only; rw [trms_some hpx (show trm (p :: less) = some t from ht), List.map_append, hl]; rfl, by simp; omega⟩, ?_⟩
             (conv => whnf)
             simp [envCat])
      · have hie : i = (cutL 43 s).length := by omega
        subst hie
        rw [pieces_all] at hl
        have hto : ∀ x ∈ l, TO b.toNat x := fun x hx => (hgood _ (mem_of_map hl hx)).to (by
          have := szT_mem (mem_of_map hl hx)
          omega)
        have hll2 : l.length ≤ 1048576 := by
          have := szT_len (trms (pieces s))
          rw [← hl, List.length_map] at this
          omega
        have hsz2 : szT (formT (l.map TR.t)) ≤ 128 := by
          rw [hl]
          have := szT_form (trms (pieces s))
          omega
        have htk : List.take l.length (l.map trow) = l.map trow := List.take_of_length_le (by simp)
        (try (conv => whnf)); repeat' (first | refine Ok.seq ?_ | refine OkL.cons ?_ | ((first | refine Ok.region tok ?_ | refine Ok.region_tree (id := 31) tok follows [(2, 6, []), (5, 6, []), (2, 11, []), (5, 11, []), (6, 11, []), (10, 11, [])] (.q 0 (.q 1 (.q 2 (.q 3 (.q 4 (.alt 5 (.alt 6 (.q 7 (.q 8 (.q 9 (.l 10 (.l 11 (.q 12 .nil)))))) (.alt 10 (.l 6 (.q 7 (.q 8 (.q 9 (.l 11 (.q 12 .nil)))))) .nil)) (.alt 10 (.l 5 (.l 6 (.q 7 (.q 8 (.q 9 (.l 11 (.q 12 .nil))))))) .nil))))))) (by kernel_rfl) ?_ | refine Ok.region_draw tok follows (by kernel_rfl) ?_ | refine Ok.cond ?_); conv => whnf) | refine Ok.block ?_ | ((first | refine Ok.skip ?_ | refine Ok.exit ?_ | refine Ok.ret ?_ | refine nI ?_ | refine ix _ (by assumption) ?_ | refine ixI (by omega) (by assumption) ?_ | refine ix_new _ (by omega) fun _ _ => ?_ | refine ixI_new (by omega) (by omega) fun _ _ => ?_ | refine ⟨_, by assumption, ?_⟩); conv => whnf) | (refine Or.inr (Or.inl ?_); (conv => whnf); (repeat (refine aI ?_; conv => whnf)); refine ⟨_, form_at b b.toNat l hll2 hto htk hsz2 , ?_⟩; rintro _ _ ⟨ks, rm4, rfl, rfl, hks, hkm⟩ <;> (conv => whnf)) | ((first | refine Alt2.l (aI ?_) | refine Alt2.r (aI ?_)); conv => whnf) | (refine Ok.scope ?_) | ((first | refine Ok.label ?_ | refine rd rfl (by assumption) ?_ | refine ⟨_, .inl ⟨rfl, rfl⟩, ?_⟩ | refine ⟨_, _, rfl, rfl, ?_⟩); conv => whnf) | (refine ⟨fun _ => ?_, fun _ => ?_⟩ <;> (conv => whnf) <;> (try (exfalso; omega))) | ((first | refine aJ ?_ | refine num_any ?_ | refine ⟨_, rfl, ?_⟩); conv => whnf) | (exact True.intro) | (refine And.intro ?_ ?_ <;> (conv => whnf)) | fail)
        refine Or.inl ?_; (conv => whnf)
        exact ⟨rfl, _, rfl, ks, rm4, rfl, by rw [hks, hl]⟩
end Go.Proofs.YtaiondckookpiaaDoor
namespace Go.Proofs.YtaiondckookpiaaDoor
open Go Go.Vx
theorem Fine.cast {n : Int} {ts : List Term} (h : Fine n ts) : ((n.toNat : Nat) : Int) = n := by have := h.n0; omega
theorem Fine.mlen {n : Int} {ts : List Term} (h : Fine n ts) {l : List TR} (e : l.map TR.t = ts) : l.length ≤ 1048576 := by
  have := h.len
  rw [← e, List.length_map] at this
  omega
theorem Fine.mless {n : Int} {ts : List Term} (h : Fine n ts) {l : List TR} (e : l.map TR.t = ts) : ∀ x ∈ l, x.t.less.length ≤ 1048576 := fun x hx => Nat.le_trans (h.less (mem_of_map e hx)) (by decide)
end Go.Proofs.YtaiondckookpiaaDoor
namespace Go.Proofs.YtaiondckookpiaaDoor
open Go Go.Vx
def bndO (n : Int) (l : List Term) : Int × Int × List Term := if szT l ≤ 128 then (0, n, l) else (3, 0, [])
theorem bndO_le {n : Int} {l : List Term} (h : szT l ≤ 128) : bndO n l = (0, n, l) := if_pos h
theorem DOut.form {n : Int} {l : List Term} {ks : List TR} {rm : List (List D)} (e : ks.map TR.t = formT l) (h : szT (ks.map TR.t) ≤ 128) : DOut (bndO n (formT l)) (.tup [.agg [.i .i64 n, .lst 111 (ks.map drow) rm], .i .i64 0]) [] := by
  rw [bndO_le (by rw [← e]; exact h)]
  exact ⟨rfl, _, rfl, ks, rm, rfl, e⟩
end Go.Proofs.YtaiondckookpiaaDoor
namespace Go.Proofs.YtaiondckookpiaaDoor
open Go Go.Vx
theorem GoodT.len {n : Nat} {t : Term} (h : GoodT n t) : t.p.length = n := h.ok.p
theorem tr_get {ks : List TR} {ts : List Term} {i : Nat} {x : TR} (e : ks.map TR.t = ts) (h : ks[i]? = some x) : ts[i]? = some x.t := by rw [← e, List.getElem?_map, h]; rfl
end Go.Proofs.YtaiondckookpiaaDoor
namespace Go.Proofs.YtaiondckookpiaaDoor
open Go Go.Vx
theorem drop_get {α : Type} {l : List α} {i : Nat} {x : α} (h : l[i]? = some x) : l.drop i = x :: l.drop (i + 1) := by
  obtain ⟨hl, e⟩ := List.getElem?_eq_some_iff.1 h
  rw [List.drop_eq_getElem_cons hl, e]
end Go.Proofs.YtaiondckookpiaaDoor
namespace Go.Proofs.YtaiondckookpiaaDoor
open Go Go.Vx
@[reducible] def w4 (f : Nat → Bool) : List D := [.i .u64 ((wof f 0).toNat : Int), .i .u64 ((wof f 1).toNat : Int), .i .u64 ((wof f 2).toNat : Int), .i .u64 ((wof f 3).toNat : Int)]
set_option maxHeartbeats 4000000 in
theorem at_one (f : Nat → Bool) (i : Nat) (hi : i < 256) : FSpec Tryd.prog T 64 [.ep (w4 f), .i .i64 (i : Int)] (fun d rows => d = .b (f i = true) ∧ rows = []) := by
  refine FSpec.of_ok tok Tryd.func64 rfl Tryd.call64 (by simp) ?_
  obtain ⟨q, r, hqr, hr, hq⟩ := split64 i (by omega)
  have hrem := rem64 hqr hr
  have hquo := quo64 hqr hr (by omega)
  have hrr : ((r : Nat) : Int) = ((r : Nat) : Int) ∧ r < 64 := ⟨rfl, hr⟩
  have hca := at_word (f := f) hqr hr
  rcases hq with rfl | rfl | rfl | rfl
  all_goals
    (try (conv => whnf)); repeat' (first | ((with_reducible_and_instances (first | refine nShr (by assumption) ?_ | refine nShl1' rfl (by assumption) ?_ | refine nAnd ?_ | refine nOr ?_ | refine nXor ?_ | refine nAndNot ?_ | refine nAnd1' rfl ?_)); conv => whnf) | refine Ok.seq ?_ | refine OkL.cons ?_ | ((first | refine Ok.region tok ?_ | refine ⟨_, (hquo.symm).symm, ?_⟩ | refine ⟨_, (hrem.symm).symm, ?_⟩ | refine Ok.region_draw tok follows (by kernel_rfl) ?_ | refine Ok.cond ?_); conv => whnf) | refine Ok.block ?_ | ((first | refine Ok.skip ?_ | refine Ok.exit ?_ | refine Ok.ret ?_ | refine nI ?_ | refine ix _ (by assumption) ?_ | refine ixI (by omega) (by assumption) ?_ | refine ix_new _ (by omega) fun _ _ => ?_ | refine ixI_new (by omega) (by omega) fun _ _ => ?_ | refine ⟨_, by assumption, ?_⟩ | refine Alt2.l (aI ?_) | refine Alt2.r (aI ?_)); conv => whnf) | (refine Ok.scope ?_) | ((first | refine Ok.label ?_ | refine rd rfl (by assumption) ?_ | refine ⟨_, .inl ⟨rfl, rfl⟩, ?_⟩ | refine ⟨_, _, rfl, rfl, ?_⟩); conv => whnf) | (refine ⟨fun _ => ?_, fun _ => ?_⟩ <;> (conv => whnf) <;> (try (exfalso; omega))) | ((first | refine aJ ?_ | refine num_any ?_ | refine ⟨_, rfl, ?_⟩); conv => whnf) | fail)
    refine Or.inl ?_; (conv => whnf)
    exact ⟨congrArg D.b (propext hca), rfl⟩
set_option maxHeartbeats 4000000 in
theorem at_two (f g : Nat → Bool) (i : Nat) (hi : i < 256) : FSpec Tryd.prog T 64 [.ep (w4 f ++ w4 g), .i .i64 (i : Int)] (fun d rows => d = .b (f i = true) ∧ rows = []) := by
  refine FSpec.of_ok tok Tryd.func64 rfl Tryd.call64 (by simp) ?_
  obtain ⟨q, r, hqr, hr, hq⟩ := split64 i (by omega)
  have hrem := rem64 hqr hr
  have hquo := quo64 hqr hr (by omega)
  have hrr : ((r : Nat) : Int) = ((r : Nat) : Int) ∧ r < 64 := ⟨rfl, hr⟩
  have hca := at_word (f := f) hqr hr
  rcases hq with rfl | rfl | rfl | rfl
  all_goals
    (try (conv => whnf)); repeat' (first | ((with_reducible_and_instances (first | refine nShr (by assumption) ?_ | refine nShl1' rfl (by assumption) ?_ | refine nAnd ?_ | refine nOr ?_ | refine nXor ?_ | refine nAndNot ?_ | refine nAnd1' rfl ?_)); conv => whnf) | refine Ok.seq ?_ | refine OkL.cons ?_ | ((first | refine Ok.region tok ?_ | refine ⟨_, (hquo.symm).symm, ?_⟩ | refine ⟨_, (hrem.symm).symm, ?_⟩ | refine Ok.region_draw tok follows (by kernel_rfl) ?_ | refine Ok.cond ?_); conv => whnf) | refine Ok.block ?_ | ((first | refine Ok.skip ?_ | refine Ok.exit ?_ | refine Ok.ret ?_ | refine nI ?_ | refine ix _ (by assumption) ?_ | refine ixI (by omega) (by assumption) ?_ | refine ix_new _ (by omega) fun _ _ => ?_ | refine ixI_new (by omega) (by omega) fun _ _ => ?_ | refine ⟨_, by assumption, ?_⟩ | refine Alt2.l (aI ?_) | refine Alt2.r (aI ?_)); conv => whnf) | (refine Ok.scope ?_) | ((first | refine Ok.label ?_ | refine rd rfl (by assumption) ?_ | refine ⟨_, .inl ⟨rfl, rfl⟩, ?_⟩ | refine ⟨_, _, rfl, rfl, ?_⟩); conv => whnf) | (refine ⟨fun _ => ?_, fun _ => ?_⟩ <;> (conv => whnf) <;> (try (exfalso; omega))) | ((first | refine aJ ?_ | refine num_any ?_ | refine ⟨_, rfl, ?_⟩); conv => whnf) | fail)
    refine Or.inl ?_; (conv => whnf)
    exact ⟨congrArg D.b (propext hca), rfl⟩
theorem ints_crow (c : Str) : ∀ d ∈ crow c, ∃ k n, d = .i k n := by
  intro d hd
  simp only [List.mem_cons, List.not_mem_nil, or_false] at hd
  rcases hd with rfl | rfl | rfl | rfl | rfl | rfl | rfl | rfl | rfl <;> exact ⟨_, _, rfl⟩
theorem pk2 {box : List (List D)} {a b x y : D} (h1 : Pk box a x) (h2 : Pk box b y) : ∀ (j : Nat) d e, [a, b][j]? = some d → [x, y][j]? = some e → Pk box d e := by
  intro j d e hd he
  match j, hd, he with
  | 0, hd, he => cases hd; cases he; exact h1
  | 1, hd, he => cases hd; cases he; exact h2
  | j + 2, hd, _ => simp at hd
def hasC (c h : Str) : Prop := c ≠ [] ∧ h.length = c.length ∧ (∀ b ∈ h, b = 48 ∨ b = 49) ∧ inL h c
end Go.Proofs.YtaiondckookpiaaDoor
namespace Go.Proofs.YtaiondckookpiaaDoor
open Go Go.Vx
def termHas (t : Term) (h : Str) : Prop := hasC t.p h ∧ ∀ m ∈ t.less, ¬ hasC m h
def hasS (ts : List Term) (h : Str) : Prop := ∃ t ∈ ts, termHas t h
end Go.Proofs.YtaiondckookpiaaDoor
namespace Go.Proofs.YtaiondckookpiaaDoor
open Go Go.Vx
theorem hasC_in {c d h : Str} (hc : hasC c h) (hi : inL c d) : hasC d h := by
  obtain ⟨h1, h2, h3, h4⟩ := hc
  have hl := inL_len hi
  exact ⟨fun e => h1 (List.eq_nil_of_length_eq_zero (by rw [hl, e]; rfl)), by omega, h3, inL_trans h4 hi⟩
theorem hasC_meet {c d m h : Str} (hm : meetT c d = some m) : hasC m h ↔ hasC c h ∧ hasC d h := by
  have hne : c ≠ [] := fun e => by rw [e] at hm; simp [meetT] at hm
  rw [meetT_eq hne] at hm
  have hi := meetL_in hm
  have hl := meetL_len hm
  constructor
  · intro hh
    exact ⟨hasC_in hh hi.1, hasC_in hh hi.2⟩
  · rintro ⟨h1, h2⟩
    obtain ⟨m', hm', hi'⟩ := meetL_glb h1.2.2.2 h2.2.2.2
    rw [hm] at hm'
    cases hm'
    exact ⟨fun e => hne (List.eq_nil_of_length_eq_zero (by rw [hl.1, e]; rfl)), by rw [h1.2.1, hl.1], h1.2.2.1, hi'⟩
theorem hasC_meets {c d h : Str} (h1 : hasC c h) (h2 : hasC d h) : ∃ m, meetT c d = some m ∧ hasC m h := by
  obtain ⟨m, hm, _⟩ := meetL_glb h1.2.2.2 h2.2.2.2
  have := (meetT_eq h1.1).trans hm
  exact ⟨m, this, (hasC_meet this).2 ⟨h1, h2⟩⟩
theorem termHas_cov {t u : Term} {h : Str} (hc : covT t u) (ht : termHas t h) : termHas u h := by
  refine ⟨hasC_in ht.1 hc.1.2, fun m hm hh => ?_⟩
  obtain ⟨c, hcm, hch⟩ := hasC_meets hh ht.1
  obtain ⟨n, hn, hcn⟩ := hc.2 m hm c hcm
  exact ht.2 n hn (hasC_in hch hcn.2)
theorem hasS_form {n : Nat} {l : List Term} (hl : ∀ t ∈ l, t.Ok n) (h : Str) : hasS (formT l) h ↔ hasS l h := by
  have ha := grG_anti covT_trans l fun t ht => covT_refl (hl t ht)
  constructor
  · rintro ⟨t, ht, hh⟩
    exact ⟨t, formT_mem ht, hh⟩
  · rintro ⟨t, ht, hh⟩
    obtain ⟨u, hu, hc⟩ := ha.cov t ht
    exact ⟨u, (srt_perm aheadT _).mem_iff.2 hu, termHas_cov hc hh⟩
def rawHas (p : Str) (less : List Str) (h : Str) : Prop := hasC p h ∧ ∀ m ∈ less, ¬ hasC m h
theorem PK_has {p : Str} {less : List Str} {h : Str} (hp : hasC p h) : (∃ m ∈ PK p less, hasC m h) ↔ ∃ m ∈ less, hasC m h := by
  have hb := (putG_fold (R := inL) (L := blt) inL_refl (fun _ _ _ => inL_trans) blt_trans blt_total (metL p less)).1
  constructor
  · rintro ⟨m, hm, hh⟩
    obtain ⟨x, hx, hxm⟩ := metL_mem (hb.sub m hm)
    exact ⟨x, hx, ((hasC_meet hxm).1 hh).1⟩
  · rintro ⟨m, hm, hh⟩
    obtain ⟨c, hc, hch⟩ := hasC_meets hh hp
    obtain ⟨y, hy, hcy⟩ := hb.cov c (List.mem_filterMap.2 ⟨m, hm, hc⟩)
    exact ⟨y, hy, hasC_in hch hcy⟩
theorem termT_has {p : Str} {less : List Str} (h : Str) : (∃ t, termT p less = some t ∧ termHas t h) ↔ rawHas p less h := by
  by_cases hk : PK p less = [p]
  · rw [termT_pk0 hk]
    constructor
    · rintro ⟨t, ht, _⟩; cases ht
    · rintro ⟨h1, h2⟩
      obtain ⟨m, hm, hh⟩ := (PK_has (less := less) h1).1 ⟨p, by rw [hk]; simp, h1⟩
      exact absurd hh (h2 m hm)
  · rw [termT_pk1 hk]
    constructor
    · rintro ⟨t, ht, h1, h2⟩
      cases ht
      exact ⟨h1, fun m hm hh => by
        obtain ⟨y, hy, hyh⟩ := (PK_has (less := less) h1).2 ⟨m, hm, hh⟩
        exact h2 y hy hyh⟩
    · rintro ⟨h1, h2⟩
      exact ⟨_, rfl, h1, fun m hm hh => by
        obtain ⟨y, hy, hyh⟩ := (PK_has (less := less) h1).1 ⟨m, hm, hh⟩
        exact h2 y hy hyh⟩
def saidM (m : List Str) (h : Str) : Prop := rawHas (m.headD []) m.tail h
def saidP (ms : List (List Str)) (h : Str) : Prop := ∃ m ∈ ms, saidM m h
theorem trms_has {ms : List (List Str)} (h : Str) : hasS (trms ms) h ↔ saidP ms h := by
  constructor
  · rintro ⟨t, ht, hh⟩
    obtain ⟨m, hm, htm⟩ := List.mem_filterMap.1 ht
    exact ⟨m, hm, (termT_has h).1 ⟨t, htm, hh⟩⟩
  · rintro ⟨m, hm, hh⟩
    obtain ⟨t, ht, hth⟩ := (termT_has h).2 hh
    exact ⟨t, List.mem_filterMap.2 ⟨m, hm, ht⟩, hth⟩
end Go.Proofs.YtaiondckookpiaaDoor
namespace Go.Proofs.YtaiondckookpiaaDoor
open Go Go.Vx
structure TermF (t : Term) : Prop where
  sorted : t.less.Pairwise blt
  anti : t.less.Pairwise fun x y => ¬ inL x y ∧ ¬ inL y x
  proper : t.less ≠ [t.p]
structure InF (ts : List Term) : Prop where
  t : ∀ t ∈ ts, TermF t
  anti : ts.Pairwise fun x y => ¬ covT x y ∧ ¬ covT y x
  sorted : ts.Pairwise aheadT
theorem InF.nil : InF [] := ⟨by simp, by simp, by simp⟩
theorem CN.no {c : Str} (h : CN c) {b : UInt8} (hb : b ≠ 48 ∧ b ≠ 49 ∧ b ≠ 120) : b ∉ c := fun hm => by
  rcases h.1.cub b hm with e | e | e
  · exact hb.1 e
  · exact hb.2.1 e
  · exact hb.2.2 e
end Go.Proofs.YtaiondckookpiaaDoor
namespace Go.Proofs.YtaiondckookpiaaDoor
open Go Go.Vx
section
variable {α : Type} {R L : α → α → Prop} {r b : α → α → Bool}
def addB (r : α → α → Bool) (k : List α) (x : α) : List α := if k.any (r x) = true then k else k.filter (fun y => !r y x) ++ [x]
def grB (r : α → α → Bool) (l : List α) : List α := l.foldl (addB r) []
def insB (b : α → α → Bool) (c : α) : List α → List α
  | [] => [c]
  | x :: q => if b c x = true then c :: x :: q else x :: insB b c q
def putB (r b : α → α → Bool) (k : List α) (c : α) : List α := if k.any (r c) = true then k else insB b c (k.filter fun x => !r x c)
def srtB (b : α → α → Bool) (l : List α) : List α := l.foldl (fun acc x => insB b x acc) []
theorem filt_eq (h : ∀ x y, R x y ↔ r x y = true) (k : List α) (x : α) [∀ y, Decidable (¬ R y x)] : k.filter (fun y => decide (¬ R y x)) = k.filter (fun y => !r y x) := by
  refine List.filter_congr fun y _ => ?_
  cases hr : r y x with
  | true => simp [(h y x).2 hr]
  | false =>
    have hn : ¬ R y x := fun e => by rw [(h y x).1 e] at hr; cases hr
    simp [hn]
theorem any_eq (h : ∀ x y, R x y ↔ r x y = true) (k : List α) (x : α) : (∃ y ∈ k, R x y) ↔ k.any (r x) = true := by simp [h]
theorem addG_eq (h : ∀ x y, R x y ↔ r x y = true) (k : List α) (x : α) : addG R k x = addB r k x := by
  unfold addG addB
  by_cases hk : k.any (r x) = true
  · rw [if_pos ((any_eq h k x).2 hk), if_pos hk]
  · rw [if_neg (fun e => hk ((any_eq h k x).1 e)), if_neg hk, filt_eq h]
theorem grG_eq (h : ∀ x y, R x y ↔ r x y = true) (l : List α) : grG R l = grB r l := by
  have e : addG R = addB r := by funext k x; exact addG_eq h k x
  unfold grG grB
  rw [e]
theorem insG_eq (h : ∀ x y, L x y ↔ b x y = true) (c : α) : ∀ l : List α, insG L c l = insB b c l
  | [] => rfl
  | x :: q => by
    unfold insG insB
    by_cases hk : b c x = true
    · rw [if_pos ((h c x).2 hk), if_pos hk]
    · rw [if_neg (fun e => hk ((h c x).1 e)), if_neg hk, insG_eq h c q]
theorem putG_eq (h : ∀ x y, R x y ↔ r x y = true) (h2 : ∀ x y, L x y ↔ b x y = true) (k : List α) (c : α) : putG R L k c = putB r b k c := by
  unfold putG putB
  by_cases hk : k.any (r c) = true
  · rw [if_pos ((any_eq h k c).2 hk), if_pos hk]
  · rw [if_neg (fun e => hk ((any_eq h k c).1 e)), if_neg hk, filt_eq h, insG_eq h2]
theorem srt_eq (h : ∀ x y, L x y ↔ b x y = true) (l : List α) : srt L l = srtB b l := by
  unfold srt srtB
  congr 1
  funext acc x
  exact insG_eq h x acc
end
def inB : Str → Str → Bool
  | [], [] => true
  | a :: c, b :: d => (b == 120 || b == a) && inB c d
  | _, _ => false
theorem inL_b : ∀ c d : Str, inL c d ↔ inB c d = true
  | [], [] => by simp [inL, inB]
  | [], _ :: _ => by simp [inL, inB]
  | _ :: _, [] => by simp [inL, inB]
  | a :: c, b :: d => by simp [inL, inB, inL_b c d]
def inTB (c d : Str) : Bool := !c.isEmpty && inB c d
theorem inT_b (c d : Str) : inT c d ↔ inTB c d = true := by
  unfold inT inTB
  rw [inL_b]
  cases c <;> simp
theorem blt_b (c d : Str) : blt c d ↔ Op.bytesLess c d = true := .rfl
def termB (p : Str) (less : List Str) : Option Term := if (metL p less).foldl (putB inB Op.bytesLess) [] = [p] then none else some ⟨p, (metL p less).foldl (putB inB Op.bytesLess) []⟩
theorem termT_b (p : Str) (less : List Str) : termT p less = termB p less := by
  have e : putG inL blt = putB inB Op.bytesLess := by funext k c; exact putG_eq inL_b blt_b k c
  unfold termT termB
  rw [e]
def covB (t u : Term) : Bool := inTB t.p u.p && u.less.all fun m => match meetT m t.p with | none => true | some c => t.less.any fun n => inTB c n
theorem covT_b (t u : Term) : covT t u ↔ covB t u = true := by
  unfold covT covB
  rw [inT_b, Bool.and_eq_true, List.all_eq_true]
  refine and_congr_right fun _ => forall_congr' fun m => forall_congr' fun _ => ?_
  cases meetT m t.p with
  | none => simp
  | some c => simp [inT_b]
def lexB : List Str → List Str → Bool
  | _, [] => false
  | [], _ :: _ => true
  | x :: a, y :: b => Op.bytesLess x y || (x == y && lexB a b)
theorem lexL_b : ∀ a b : List Str, lexL a b ↔ lexB a b = true
  | a, [] => by cases a <;> simp [lexL, lexB]
  | [], _ :: _ => by simp [lexL, lexB]
  | x :: a, y :: b => by simp [lexL, lexB, lexL_b a b]
def formB (l : List Term) : List Term := srtB (fun t u => lexB (t.p :: t.less) (u.p :: u.less)) (grB covB l)
theorem formT_b (l : List Term) : formT l = formB l := by
  unfold formT formB
  rw [grG_eq covT_b]
  exact srt_eq (L := aheadT) (b := fun t u => lexB (t.p :: t.less) (u.p :: u.less)) (fun t u => lexL_b _ _) _
theorem trms_b (ms : List (List Str)) : trms ms = ms.filterMap fun m => termB (m.headD []) m.tail := by
  unfold trms
  congr 1
  funext m
  exact termT_b _ _
instance (n : Int) (w : Str) : Decidable (OkW n w) := decidable_of_iff ((w.length : Int) = n ∧ (w.length ≤ 256 ∧ ∀ b ∈ w, b = 48 ∨ b = 49 ∨ b = 120) ∧ w ≠ []) ⟨fun h => ⟨h.1, ⟨h.2.1.1, h.2.1.2⟩, h.2.2⟩, fun h => ⟨h.1, ⟨h.2.1.1, h.2.1.2⟩, h.2.2⟩⟩
instance (n : Int) (ms : List (List Str)) : Decidable (OkP n ms) := inferInstanceAs (Decidable (∀ m ∈ ms, ∀ w ∈ m, OkW n w))
def exS : Str := [49, 48, 120, 120, 45, 49, 49, 49, 49, 45, 49, 48, 49, 120, 45, 49, 48, 49, 48, 43, 48, 120, 120, 120, 45, 49, 120, 120, 120]
def exT : List Term := [⟨[48, 120, 120, 120], []⟩, ⟨[49, 48, 120, 120], [[49, 48, 49, 120]]⟩]
theorem ex_form : formB ((pieces exS).filterMap fun m => termB (m.headD []) m.tail) = exT := by
  kernel_rfl
theorem parO_ex : parO 4 exS = (0, 4, exT) := by
  unfold parO
  rw [if_neg (by decide), if_neg (by decide), if_neg (by decide), if_neg (fun h => h (by decide)), if_neg (by decide), formT_b, trms_b, ex_form]
theorem text_ex : textS exT = [48, 120, 120, 120, 43, 49, 48, 120, 120, 45, 49, 48, 49, 120] := by
  unfold textS
  rw [if_neg (by simp [exT])]
  decide
theorem sptext_at {n : Int} {ts : List Term} (hf : Fine n ts) (ks : List TR) (rm : List (List D)) (h1 : ks.map TR.t = ts) : FSpec Tryd.prog T 15 [.agg [.i .i64 n, .lst 81 (ks.map trow) rm]] (fun d _ => d = .s (textS ts)) := by
  have h := text2_at n.toNat ks (room := rm) (hf.sp h1) rfl
  rw [hf.cast, h1] at h
  exact h
theorem spsize_at {n : Int} {ts : List Term} (hf : Fine n ts) (ks : List TR) (rm : List (List D)) (h1 : ks.map TR.t = ts) : FSpec Tryd.prog T 32 [.agg [.i .i64 n, .lst 81 (ks.map trow) rm]] (fun d _ => d = .i .i64 (szT ts : Nat)) := by
  have h := size_at n ks (room := rm) (hf.mlen h1) (hf.mless h1) rfl
  rw [h1] at h
  exact h
set_option maxHeartbeats 4000000 in
theorem awake_at : FSpec Tryd.prog T 17 [] (fun r _ => r = .b True) := by
  have hp := parse2_at 4 exS
  have hf := parO_fine 4 exS
  unfold POut at hp
  rw [parO_ex] at hp hf
  have htx := fun ks rm h1 => sptext_at hf ks rm h1
  have hsz := fun ks rm h1 => spsize_at hf ks rm h1
  dsimp only at hp htx hsz
  rw [text_ex] at htx
  rw [show szT exT = 3 from rfl] at hsz
  refine FSpec.of_ok tok Tryd.func17 rfl Tryd.call17 (by simp) ?_
  (try (conv => whnf)); repeat' (first | refine Ok.seq ?_ | refine OkL.cons ?_ | ((first | refine Ok.region tok ?_ | refine Ok.region_draw tok follows (by kernel_rfl) ?_ | refine Ok.cond ?_); conv => whnf) | refine Ok.block ?_ | ((first | refine Ok.skip ?_ | refine Ok.exit ?_ | refine Ok.ret ?_ | refine nI ?_ | refine ix _ (by assumption) ?_ | refine ixI (by omega) (by assumption) ?_ | refine ix_new _ (by omega) fun _ _ => ?_ | refine ixI_new (by omega) (by omega) fun _ _ => ?_ | refine ⟨_, by assumption, ?_⟩); conv => whnf) | (refine Or.inl ?_; (conv => whnf); (repeat (refine aI ?_; conv => whnf)); refine ⟨_, htx ks rm hk, rfl, ?_⟩; conv => whnf) | (refine Or.inl ?_; (conv => whnf); (repeat (refine aI ?_; conv => whnf)); refine ⟨_, hsz ks rm hk, rfl, ?_⟩; conv => whnf) | (refine Or.inl ?_; (conv => whnf); (repeat (refine aI ?_; conv => whnf)); refine ⟨_, bits_at 4 (.lst 81 (ks.map trow) rm) ⟨_, _, _, rfl⟩, rfl, ?_⟩; conv => whnf) | ((first | refine ⟨_, htx ks rm hk, rfl, ?_⟩ | refine ⟨_, hsz ks rm hk, rfl, ?_⟩ | refine ⟨_, bits_at 4 (.lst 81 (ks.map trow) rm) ⟨_, _, _, rfl⟩, rfl, ?_⟩); conv => whnf) | (refine Or.inr (Or.inl ?_); (conv => whnf); (repeat (refine aI ?_; conv => whnf)); refine ⟨_, htx ks rm hk, ?_⟩; rintro _ _ ⟨rfl, rfl⟩; conv => whnf) | (refine Or.inr (Or.inl ?_); (conv => whnf); (repeat (refine aI ?_; conv => whnf)); refine ⟨_, hsz ks rm hk, ?_⟩; rintro _ _ ⟨rfl, rfl⟩; conv => whnf) | (refine Or.inr (Or.inl ?_); (conv => whnf); (repeat (refine aI ?_; conv => whnf)); refine ⟨_, bits_at 4 (.lst 81 (ks.map trow) rm) ⟨_, _, _, rfl⟩, ?_⟩; rintro _ _ ⟨rfl, rfl⟩; conv => whnf) | (refine Or.inr (Or.inl ?_); (conv => whnf); (repeat (refine aI ?_; conv => whnf)); refine ⟨_, hp , ?_⟩; rintro _ _ ⟨rfl, _, rfl, ks, rm, rfl, hk⟩ <;> (conv => whnf)) | ((first | refine Alt2.l (aI ?_) | refine Alt2.r (aI ?_)); conv => whnf) | (refine Ok.scope ?_) | ((first | refine Ok.label ?_ | refine rd rfl (by assumption) ?_ | refine ⟨_, .inl ⟨rfl, rfl⟩, ?_⟩ | refine ⟨_, _, rfl, rfl, ?_⟩); conv => whnf) | (refine ⟨fun _ => ?_, fun _ => ?_⟩ <;> (conv => whnf) <;> (try (exfalso; omega))) | ((first | refine aJ ?_ | refine num_any ?_ | refine ⟨_, rfl, ?_⟩); conv => whnf) | fail)
  all_goals first
    | (rename_i h; exact absurd rfl h)
    | (refine Or.inl ?_; (conv => whnf)
       exact congrArg D.b (propext ⟨fun _ => trivial, fun _ => rfl⟩))
end Go.Proofs.YtaiondckookpiaaDoor
namespace Go.Proofs.YtaiondckookpiaaDoor
open Go Go.Vx
theorem inL_all : ∀ {c d : Str}, c.length = d.length → (∀ (k : Nat) a b, c[k]? = some a → d[k]? = some b → b = 120 ∨ b = a) → inL c d
  | [], [], _, _ => trivial
  | [], _ :: _, h, _ => by simp at h
  | _ :: _, [], h, _ => by simp at h
  | a :: c, b :: d, h, hh => ⟨hh 0 a b rfl rfl, inL_all (by simpa using h) fun k x y h1 h2 => hh (k + 1) x y (by simpa using h1) (by simpa using h2)⟩
theorem inL_get : ∀ {c d : Str} {k : Nat} {a b : UInt8}, inL c d → c[k]? = some a → d[k]? = some b → b = 120 ∨ b = a
  | [], _, k, a, b, _, h, _ => by simp at h
  | _ :: _, [], k, a, b, _, _, h => by simp at h
  | x :: c, y :: d, 0, a, b, hi, h1, h2 => by simp at h1 h2; subst h1 h2; exact hi.1
  | x :: c, y :: d, k + 1, a, b, hi, h1, h2 => inL_get hi.2 (by simpa using h1) (by simpa using h2)
set_option maxHeartbeats 4000000 in
theorem fits3_at (h c : Str) (hc : c.length ≤ 100000) : FSpec Tryd.prog T 35 [.s h, .s c] (fun r _ => r = .b (inL h c)) := by
  refine FSpec.of_ok tok Tryd.func35 rfl Tryd.call35 (by simp) ?_
  (try (conv => whnf)); repeat' (first | refine Ok.seq ?_ | refine OkL.cons ?_ | ((first | refine Ok.region tok ?_ | refine Ok.region_draw tok follows (by kernel_rfl) ?_ | refine Ok.cond ?_); conv => whnf) | refine Ok.block ?_ | ((first | refine Ok.skip ?_ | refine Ok.exit ?_ | refine Ok.ret ?_ | refine nI ?_ | refine ix _ (by assumption) ?_ | refine ixI (by omega) (by assumption) ?_ | refine ix_new _ (by omega) fun _ _ => ?_ | refine ixI_new (by omega) (by omega) fun _ _ => ?_ | refine ⟨_, by assumption, ?_⟩ | refine Alt2.l (aI ?_) | refine Alt2.r (aI ?_)); conv => whnf) | (refine Ok.scope ?_) | ((first | refine Ok.label ?_ | refine rd rfl (by assumption) ?_ | refine ⟨_, .inl ⟨rfl, rfl⟩, ?_⟩ | refine ⟨_, _, rfl, rfl, ?_⟩); conv => whnf) | (refine ⟨fun _ => ?_, fun _ => ?_⟩ <;> (conv => whnf) <;> (try (exfalso; omega))) | ((first | refine aJ ?_ | refine num_any ?_ | refine ⟨_, rfl, ?_⟩); conv => whnf) | fail)
  · refine Or.inl ?_; (conv => whnf)
    show D.b False = _
    exact congrArg D.b (propext ⟨fun h => h.elim, fun h2 => by have := inL_len h2; omega⟩)
  have hl : h.length = c.length := by omega
  refine Ok.loopU [0, 1] [5] 0 0 (fun (i : Nat) => [.i .i64 (i : Nat)]) (fun _ b => b) (fun _ r => r) (fun (i : Nat) => i ≤ c.length ∧ ∀ (k : Nat) a b, k < i → h[k]? = some a → c[k]? = some b → b = 120 ∨ b = a) (fun (i : Nat) => c.length - i) (0) (⟨Nat.zero_le _, fun k _ _ hk => absurd hk (by omega)⟩) ?_; (conv => whnf); refine ⟨by ((conv => whnf); first | rfl | (simp [envCat, List.take_of_length_le, bcell, srow]; done) | (simp [envCat, List.take_of_length_le, bcell, srow]; rw [IntKind.wrap_i64]; omega)), ?_⟩
  rintro i ⟨hi, hall⟩
  (conv => whnf)
  by_cases hil : i < c.length
  · obtain ⟨a, ha⟩ : ∃ a, h[i]? = some a := ⟨_, List.getElem?_eq_getElem (by omega)⟩
    obtain ⟨b, hb⟩ : ∃ b, c[i]? = some b := ⟨_, List.getElem?_eq_getElem hil⟩
    have haI : h[((i : Nat) : Int).toNat]? = some a := ha
    have hbI : c[((i : Nat) : Int).toNat]? = some b := hb
    have step : (b = 120 ∨ b = a) → ∀ (k : Nat) x y, k < i + 1 → h[k]? = some x → c[k]? = some y → y = 120 ∨ y = x := fun hh k x y hk hx hy => by
      by_cases hki : k = i
      · subst hki
        rw [ha] at hx
        rw [hb] at hy
        cases hx
        cases hy
        exact hh
      · exact hall k x y (by omega) hx hy
    by_cases hb1 : b = 120 ∨ b = a
    · have hb3 : ((b.toNat : Nat) : Int) = 120 ∨ ((b.toNat : Nat) : Int) = ((a.toNat : Nat) : Int) := by
        rcases hb1 with rfl | rfl
        · exact .inl rfl
        · exact .inr rfl
      (try (conv => whnf)); repeat' (first | refine Ok.seq ?_ | refine OkL.cons ?_ | ((first | refine Ok.region tok ?_ | refine Ok.region_draw tok follows (by kernel_rfl) ?_ | refine Ok.cond ?_); conv => whnf) | refine Ok.block ?_ | ((first | refine Ok.skip ?_ | refine Ok.exit ?_ | refine Ok.ret ?_ | refine nI ?_ | refine ix _ (by assumption) ?_ | refine ixI (by omega) (by assumption) ?_ | refine ix_new _ (by omega) fun _ _ => ?_ | refine ixI_new (by omega) (by omega) fun _ _ => ?_ | refine ⟨_, by assumption, ?_⟩ | refine Alt2.l (aI ?_) | refine Alt2.r (aI ?_)); conv => whnf) | (refine Ok.scope ?_) | ((first | refine Ok.label ?_ | refine rd rfl (by assumption) ?_ | refine ⟨_, .inl ⟨rfl, rfl⟩, ?_⟩ | refine ⟨_, _, rfl, rfl, ?_⟩); conv => whnf) | (refine ⟨fun _ => ?_, fun _ => ?_⟩ <;> (conv => whnf) <;> (try (exfalso; omega))) | ((first | refine aJ ?_ | refine num_any ?_ | refine ⟨_, rfl, ?_⟩); conv => whnf) | fail)
      all_goals first
        | (exfalso; omega)
        | (refine ⟨i + 1, by omega, ⟨by omega, step hb1⟩, ?_⟩
           (conv => whnf)
           rfl)
    · have hb3 := u8_ne (fun e => hb1 (.inl e) : b ≠ 120)
      have hb4 := u8_ne (fun e => hb1 (.inr e) : b ≠ a)
      rw [show (((120 : UInt8).toNat : Nat) : Int) = 120 from rfl] at hb3
      (try (conv => whnf)); repeat' (first | refine Ok.seq ?_ | refine OkL.cons ?_ | ((first | refine Ok.region tok ?_ | refine Ok.region_draw tok follows (by kernel_rfl) ?_ | refine Ok.cond ?_); conv => whnf) | refine Ok.block ?_ | ((first | refine Ok.skip ?_ | refine Ok.exit ?_ | refine Ok.ret ?_ | refine nI ?_ | refine ix _ (by assumption) ?_ | refine ixI (by omega) (by assumption) ?_ | refine ix_new _ (by omega) fun _ _ => ?_ | refine ixI_new (by omega) (by omega) fun _ _ => ?_ | refine ⟨_, by assumption, ?_⟩ | refine Alt2.l (aI ?_) | refine Alt2.r (aI ?_)); conv => whnf) | (refine Ok.scope ?_) | ((first | refine Ok.label ?_ | refine rd rfl (by assumption) ?_ | refine ⟨_, .inl ⟨rfl, rfl⟩, ?_⟩ | refine ⟨_, _, rfl, rfl, ?_⟩); conv => whnf) | (refine ⟨fun _ => ?_, fun _ => ?_⟩ <;> (conv => whnf) <;> (try (exfalso; omega))) | ((first | refine aJ ?_ | refine num_any ?_ | refine ⟨_, rfl, ?_⟩); conv => whnf) | fail)
      all_goals first
        | (exfalso; omega)
        | (refine Or.inl ?_; (conv => whnf)
           show D.b False = _
           exact congrArg D.b (propext ⟨fun h => h.elim, fun h2 => hb1 (inL_get h2 ha hb)⟩))
  · have hie : i = c.length := by omega
    subst hie
    (try (conv => whnf)); repeat' (first | refine Ok.seq ?_ | refine OkL.cons ?_ | ((first | refine Ok.region tok ?_ | refine Ok.region_draw tok follows (by kernel_rfl) ?_ | refine Ok.cond ?_); conv => whnf) | refine Ok.block ?_ | ((first | refine Ok.skip ?_ | refine Ok.exit ?_ | refine Ok.ret ?_ | refine nI ?_ | refine ix _ (by assumption) ?_ | refine ixI (by omega) (by assumption) ?_ | refine ix_new _ (by omega) fun _ _ => ?_ | refine ixI_new (by omega) (by omega) fun _ _ => ?_ | refine ⟨_, by assumption, ?_⟩ | refine Alt2.l (aI ?_) | refine Alt2.r (aI ?_)); conv => whnf) | (refine Ok.scope ?_) | ((first | refine Ok.label ?_ | refine rd rfl (by assumption) ?_ | refine ⟨_, .inl ⟨rfl, rfl⟩, ?_⟩ | refine ⟨_, _, rfl, rfl, ?_⟩); conv => whnf) | (refine ⟨fun _ => ?_, fun _ => ?_⟩ <;> (conv => whnf) <;> (try (exfalso; omega))) | ((first | refine aJ ?_ | refine num_any ?_ | refine ⟨_, rfl, ?_⟩); conv => whnf) | fail)
    all_goals first
      | (exfalso; omega)
      | skip
    refine Or.inl ?_; (conv => whnf)
    exact congrArg D.b (propext ⟨fun _ => inL_all hl fun k x y hx hy => hall k x y ((List.getElem?_eq_some_iff.1 hy).1) hx hy, fun _ => trivial⟩)
def hdrX (n : Int) (h : Str) : Prop := (h.length : Int) = n ∧ ∀ b ∈ h, b = 48 ∨ b = 49
set_option maxHeartbeats 4000000 in
theorem isHeader_at (n : Int) (h : Str) (hn : n ≤ 100000) : FSpec Tryd.prog T 19 [.i .i64 n, .s h] (fun r _ => r = .b (hdrX n h)) := by
  refine FSpec.of_ok tok Tryd.func19 rfl Tryd.call19 (by simp) ?_
  (try (conv => whnf)); repeat' (first | refine Ok.seq ?_ | refine OkL.cons ?_ | ((first | refine Ok.region tok ?_ | refine Ok.region_draw tok follows (by kernel_rfl) ?_ | refine Ok.cond ?_); conv => whnf) | refine Ok.block ?_ | ((first | refine Ok.skip ?_ | refine Ok.exit ?_ | refine Ok.ret ?_ | refine nI ?_ | refine ix _ (by assumption) ?_ | refine ixI (by omega) (by assumption) ?_ | refine ix_new _ (by omega) fun _ _ => ?_ | refine ixI_new (by omega) (by omega) fun _ _ => ?_ | refine ⟨_, by assumption, ?_⟩ | refine Alt2.l (aI ?_) | refine Alt2.r (aI ?_)); conv => whnf) | (refine Ok.scope ?_) | ((first | refine Ok.label ?_ | refine rd rfl (by assumption) ?_ | refine ⟨_, .inl ⟨rfl, rfl⟩, ?_⟩ | refine ⟨_, _, rfl, rfl, ?_⟩); conv => whnf) | (refine ⟨fun _ => ?_, fun _ => ?_⟩ <;> (conv => whnf) <;> (try (exfalso; omega))) | ((first | refine aJ ?_ | refine num_any ?_ | refine ⟨_, rfl, ?_⟩); conv => whnf) | fail)
  · rename_i h0
    refine Or.inl ?_; (conv => whnf)
    show D.b False = _
    exact congrArg D.b (propext ⟨fun h => h.elim, fun h2 => h0 h2.1⟩)
  have hl : (h.length : Int) = n := by omega
  refine Ok.loopU [1] [5] 0 0 (fun (i : Nat) => [.i .i64 (i : Nat)]) (fun _ b => b) (fun _ r => r) (fun (i : Nat) => i ≤ h.length ∧ ∀ b ∈ h.take i, b = 48 ∨ b = 49) (fun (i : Nat) => h.length - i) (0) (⟨Nat.zero_le _, by simp⟩) ?_; (conv => whnf); refine ⟨by ((conv => whnf); first | rfl | (simp [envCat, List.take_of_length_le, bcell, srow]; done) | (simp [envCat, List.take_of_length_le, bcell, srow]; rw [IntKind.wrap_i64]; omega)), ?_⟩
  rintro i ⟨hi, hall⟩
  (conv => whnf)
  by_cases hil : i < h.length
  · obtain ⟨a, ha⟩ : ∃ a, h[i]? = some a := ⟨_, List.getElem?_eq_getElem hil⟩
    have haI : h[((i : Nat) : Int).toNat]? = some a := ha
    by_cases hb1 : a = 48 ∨ a = 49
    · have hb3 : ((a.toNat : Nat) : Int) = 48 ∨ ((a.toNat : Nat) : Int) = 49 := by
        rcases hb1 with rfl | rfl
        · exact .inl rfl
        · exact .inr rfl
      (try (conv => whnf)); repeat' (first | refine Ok.seq ?_ | refine OkL.cons ?_ | ((first | refine Ok.region tok ?_ | refine Ok.region_draw tok follows (by kernel_rfl) ?_ | refine Ok.cond ?_); conv => whnf) | refine Ok.block ?_ | ((first | refine Ok.skip ?_ | refine Ok.exit ?_ | refine Ok.ret ?_ | refine nI ?_ | refine ix _ (by assumption) ?_ | refine ixI (by omega) (by assumption) ?_ | refine ix_new _ (by omega) fun _ _ => ?_ | refine ixI_new (by omega) (by omega) fun _ _ => ?_ | refine ⟨_, by assumption, ?_⟩ | refine Alt2.l (aI ?_) | refine Alt2.r (aI ?_)); conv => whnf) | (refine Ok.scope ?_) | ((first | refine Ok.label ?_ | refine rd rfl (by assumption) ?_ | refine ⟨_, .inl ⟨rfl, rfl⟩, ?_⟩ | refine ⟨_, _, rfl, rfl, ?_⟩); conv => whnf) | (refine ⟨fun _ => ?_, fun _ => ?_⟩ <;> (conv => whnf) <;> (try (exfalso; omega))) | ((first | refine aJ ?_ | refine num_any ?_ | refine ⟨_, rfl, ?_⟩); conv => whnf) | fail)
      all_goals first
        | (exfalso; omega)
        | (refine ⟨i + 1, by omega, ⟨by omega, fun b hb => by
            rw [take_snoc ha] at hb
            rcases List.mem_append.1 hb with hb | hb
            · exact hall b hb
            · simp at hb; rw [hb]; exact hb1⟩, ?_⟩
           (conv => whnf)
           rfl)
    · have hb3 := u8_ne (fun e => hb1 (.inl e) : a ≠ 48)
      have hb4 := u8_ne (fun e => hb1 (.inr e) : a ≠ 49)
      rw [show (((48 : UInt8).toNat : Nat) : Int) = 48 from rfl] at hb3
      rw [show (((49 : UInt8).toNat : Nat) : Int) = 49 from rfl] at hb4
      (try (conv => whnf)); repeat' (first | refine Ok.seq ?_ | refine OkL.cons ?_ | ((first | refine Ok.region tok ?_ | refine Ok.region_draw tok follows (by kernel_rfl) ?_ | refine Ok.cond ?_); conv => whnf) | refine Ok.block ?_ | ((first | refine Ok.skip ?_ | refine Ok.exit ?_ | refine Ok.ret ?_ | refine nI ?_ | refine ix _ (by assumption) ?_ | refine ixI (by omega) (by assumption) ?_ | refine ix_new _ (by omega) fun _ _ => ?_ | refine ixI_new (by omega) (by omega) fun _ _ => ?_ | refine ⟨_, by assumption, ?_⟩ | refine Alt2.l (aI ?_) | refine Alt2.r (aI ?_)); conv => whnf) | (refine Ok.scope ?_) | ((first | refine Ok.label ?_ | refine rd rfl (by assumption) ?_ | refine ⟨_, .inl ⟨rfl, rfl⟩, ?_⟩ | refine ⟨_, _, rfl, rfl, ?_⟩); conv => whnf) | (refine ⟨fun _ => ?_, fun _ => ?_⟩ <;> (conv => whnf) <;> (try (exfalso; omega))) | ((first | refine aJ ?_ | refine num_any ?_ | refine ⟨_, rfl, ?_⟩); conv => whnf) | fail)
      all_goals first
        | (exfalso; omega)
        | (refine Or.inl ?_; (conv => whnf)
           show D.b False = _
           exact congrArg D.b (propext ⟨fun h => h.elim, fun h2 => hb1 (h2.2 a (List.mem_of_getElem? ha))⟩))
  · have hie : i = h.length := by omega
    subst hie
    rw [List.take_length] at hall
    (try (conv => whnf)); repeat' (first | refine Ok.seq ?_ | refine OkL.cons ?_ | ((first | refine Ok.region tok ?_ | refine Ok.region_draw tok follows (by kernel_rfl) ?_ | refine Ok.cond ?_); conv => whnf) | refine Ok.block ?_ | ((first | refine Ok.skip ?_ | refine Ok.exit ?_ | refine Ok.ret ?_ | refine nI ?_ | refine ix _ (by assumption) ?_ | refine ixI (by omega) (by assumption) ?_ | refine ix_new _ (by omega) fun _ _ => ?_ | refine ixI_new (by omega) (by omega) fun _ _ => ?_ | refine ⟨_, by assumption, ?_⟩ | refine Alt2.l (aI ?_) | refine Alt2.r (aI ?_)); conv => whnf) | (refine Ok.scope ?_) | ((first | refine Ok.label ?_ | refine rd rfl (by assumption) ?_ | refine ⟨_, .inl ⟨rfl, rfl⟩, ?_⟩ | refine ⟨_, _, rfl, rfl, ?_⟩); conv => whnf) | (refine ⟨fun _ => ?_, fun _ => ?_⟩ <;> (conv => whnf) <;> (try (exfalso; omega))) | ((first | refine aJ ?_ | refine num_any ?_ | refine ⟨_, rfl, ?_⟩); conv => whnf) | fail)
    all_goals first
      | (exfalso; omega)
      | skip
    refine Or.inl ?_; (conv => whnf)
    exact congrArg D.b (propext ⟨fun _ => ⟨hl, hall⟩, fun _ => trivial⟩)
end Go.Proofs.YtaiondckookpiaaDoor
namespace Go.Proofs.YtaiondckookpiaaDoor
open Go Go.Vx
theorem cutL_pre {c : UInt8} : ∀ {q : Str} (r : Str), c ∉ q → cutL c (q ++ r) = (q ++ (cutL c r).headD []) :: (cutL c r).tail
  | [], r, _ => by
    have := cutL_ne c r
    cases hr : cutL c r with
    | nil => exact absurd hr this
    | cons a l => simp [hr]
  | b :: q, r, h => by
    rw [List.mem_cons, not_or] at h
    rw [List.cons_append, cutL, if_neg (Ne.symm h.1), cutL_pre r h.2]
    rfl
theorem pieces_ne (s : Str) : pieces s ≠ [] := by
  unfold pieces
  intro e
  exact cutL_ne 43 s (by simpa using e)
theorem pieces_minus {p r : Str} (h1 : (43 : UInt8) ∉ p) (h2 : (45 : UInt8) ∉ p) : pieces (p ++ 45 :: r) = (p :: (pieces r).headD []) :: (pieces r).tail := by
  unfold pieces
  have e : p ++ 45 :: r = (p ++ [45]) ++ r := by simp
  rw [e, cutL_pre r (by simp [h1])]
  have hne := cutL_ne 43 r
  cases hr : cutL 43 r with
  | nil => exact absurd hr hne
  | cons a l => simp [cutL_at h2]
theorem pieces_plus {p r : Str} (h1 : (43 : UInt8) ∉ p) (h2 : (45 : UInt8) ∉ p) : pieces (p ++ 43 :: r) = [p] :: pieces r := by
  unfold pieces
  rw [cutL_at h1, List.map_cons, cutL_none h2]
theorem pieces_last {p : Str} (h1 : (43 : UInt8) ∉ p) (h2 : (45 : UInt8) ∉ p) : pieces p = [[p]] := by
  unfold pieces
  rw [cutL_none h1, List.map_cons, cutL_none h2]
  rfl
theorem drop_at {s : Str} {i f : Nat} {c : UInt8} (hf : f ≤ i) (hi : s[i]? = some c) : s.drop f = (s.take i).drop f ++ c :: s.drop (i + 1) := by
  obtain ⟨hl, e⟩ := List.getElem?_eq_some_iff.1 hi
  conv => lhs; rw [← List.take_append_drop i s, List.drop_append_of_le_length (by simp; omega), List.drop_eq_getElem_cons hl, e]
def okM (h : Str) (m : List Str) : Prop := inL h (m.headD []) ∧ ∀ x ∈ m.tail, ¬ inL h x
def saidX (s h : Str) : Prop := s ≠ [110, 111, 110, 101] ∧ ∃ m ∈ pieces s, okM h m
def curX (h : Str) (inn fi : Bool) (m : List Str) : Prop := inn = true ∧ ((fi = true → okM h m) ∧ (fi = false → ∀ x ∈ m, ¬ inL h x))
def resX (h : Str) (inn fi sm : Bool) (ms : List (List Str)) : Prop := sm = true ∨ curX h inn fi (ms.headD []) ∨ ∃ m ∈ ms.tail, okM h m
theorem resX_start (h : Str) {ms : List (List Str)} (hm : ms ≠ []) (sm : Bool) : resX h true true sm ms ↔ sm = true ∨ ∃ m ∈ ms, okM h m := by
  cases ms with
  | nil => exact absurd rfl hm
  | cons a l => simp [resX, curX]
def nxt (has : Prop) [Decidable has] (inn fi : Bool) : Bool := inn && (if fi = true then decide has else !decide has)
theorem resX_minus {h p : Str} {inn fi sm : Bool} {ms : List (List Str)} [Decidable (inL h p)] : resX h inn fi sm ((p :: ms.headD []) :: ms.tail) ↔ resX h (nxt (inL h p) inn fi) false sm ms := by
  unfold resX curX nxt okM
  cases inn <;> cases fi <;> simp
theorem resX_plus {h p : Str} {inn fi sm : Bool} {ms : List (List Str)} (hm : ms ≠ []) [Decidable (inL h p)] : resX h inn fi sm ([p] :: ms) ↔ resX h true true (sm || nxt (inL h p) inn fi) ms := by
  rw [resX_start h hm]
  unfold resX curX nxt okM
  cases inn <;> cases fi <;> cases sm <;> simp
theorem resX_last {h p : Str} {inn fi sm : Bool} [Decidable (inL h p)] : resX h inn fi sm [[p]] ↔ (sm || nxt (inL h p) inn fi) = true := by
  unfold resX curX nxt okM
  cases inn <;> cases fi <;> cases sm <;> simp
theorem nxt_yes {has : Prop} [Decidable has] {inn fi : Bool} (h : has) : nxt has inn fi = (inn && fi) := by unfold nxt; cases fi <;> simp [h]
theorem nxt_no {has : Prop} [Decidable has] {inn fi : Bool} (h : ¬ has) : nxt has inn fi = (inn && !fi) := by unfold nxt; cases fi <;> simp [h]
def SInv (s h : Str) (x : Nat × Nat × Bool × Bool × Bool) : Prop :=
  (x.1 ≤ s.length ∧ x.2.1 ≤ x.1 ∧ (43 : UInt8) ∉ (s.take x.1).drop x.2.1 ∧ (45 : UInt8) ∉ (s.take x.1).drop x.2.1 ∧ ((∃ m ∈ pieces s, okM h m) ↔ resX h x.2.2.1 x.2.2.2.1 x.2.2.2.2 (pieces (s.drop x.2.1)))) ∨
    (x.1 = s.length + 1 ∧ ((∃ m ∈ pieces s, okM h m) ↔ x.2.2.2.2 = true))
open Classical in
set_option maxRecDepth 100000 in
set_option maxHeartbeats 8000000 in
theorem said_at (s h : Str) (hs : s.length ≤ 100000) : FSpec Tryd.prog T 21 [.s s, .s h] (fun r _ => r = .b (saidX s h)) := by
  refine FSpec.of_ok tok Tryd.func21 rfl Tryd.call21 (by simp) ?_
  by_cases hnone : s = [110, 111, 110, 101]
  · (try (conv => whnf)); repeat' (first | refine Ok.seq ?_ | refine OkL.cons ?_ | ((first | refine Ok.region tok ?_ | refine Ok.region_draw tok follows (by kernel_rfl) ?_ | refine Ok.cond ?_); conv => whnf) | refine Ok.block ?_ | ((first | refine Ok.skip ?_ | refine Ok.exit ?_ | refine Ok.ret ?_ | refine nI ?_ | refine ix _ (by assumption) ?_ | refine ixI (by omega) (by assumption) ?_ | refine ix_new _ (by omega) fun _ _ => ?_ | refine ixI_new (by omega) (by omega) fun _ _ => ?_ | refine ⟨_, by assumption, ?_⟩ | refine Alt2.l (aI ?_) | refine Alt2.r (aI ?_)); conv => whnf) | (refine Ok.scope ?_) | ((first | refine Ok.label ?_ | refine rd rfl (by assumption) ?_ | refine ⟨_, .inl ⟨rfl, rfl⟩, ?_⟩ | refine ⟨_, _, rfl, rfl, ?_⟩); conv => whnf) | (refine ⟨fun _ => ?_, fun _ => ?_⟩ <;> (conv => whnf) <;> (try (exfalso; omega))) | ((first | refine aJ ?_ | refine num_any ?_ | refine ⟨_, rfl, ?_⟩); conv => whnf) | fail)
    all_goals first
      | (rename_i hh; exact absurd hnone hh)
      | (refine Or.inl ?_; (conv => whnf)
         show D.b False = _
         exact congrArg D.b (propext ⟨fun h => h.elim, fun h2 => h2.1 hnone⟩))
  (try (conv => whnf)); repeat' (first | refine Ok.seq ?_ | refine OkL.cons ?_ | ((first | refine Ok.region tok ?_ | refine Ok.region_draw tok follows (by kernel_rfl) ?_ | refine Ok.cond ?_); conv => whnf) | refine Ok.block ?_ | ((first | refine Ok.skip ?_ | refine Ok.exit ?_ | refine Ok.ret ?_ | refine nI ?_ | refine ix _ (by assumption) ?_ | refine ixI (by omega) (by assumption) ?_ | refine ix_new _ (by omega) fun _ _ => ?_ | refine ixI_new (by omega) (by omega) fun _ _ => ?_ | refine ⟨_, by assumption, ?_⟩ | refine Alt2.l (aI ?_) | refine Alt2.r (aI ?_)); conv => whnf) | (refine Ok.scope ?_) | ((first | refine Ok.label ?_ | refine rd rfl (by assumption) ?_ | refine ⟨_, .inl ⟨rfl, rfl⟩, ?_⟩ | refine ⟨_, _, rfl, rfl, ?_⟩); conv => whnf) | (refine ⟨fun _ => ?_, fun _ => ?_⟩ <;> (conv => whnf) <;> (try (exfalso; omega))) | ((first | refine aJ ?_ | refine num_any ?_ | refine ⟨_, rfl, ?_⟩); conv => whnf) | fail)
  all_goals first
    | (rename_i hh; exact absurd hh hnone)
    | skip
  have hsx : saidX s h ↔ ∃ m ∈ pieces s, okM h m := ⟨fun q => q.2, fun q => ⟨hnone, q⟩⟩
  refine Ok.loopU [0, 1] [5, 6, 7, 8, 9] 0 0 (fun (x : Nat × Nat × Bool × Bool × Bool) => [.i .i64 (x.2.1 : Nat), bD x.2.2.1, bD x.2.2.2.1, bD x.2.2.2.2, .i .i64 (x.1 : Nat)]) (fun _ b => b) (fun _ r => r) (fun (x : Nat × Nat × Bool × Bool × Bool) => SInv s h x) (fun (x : Nat × Nat × Bool × Bool × Bool) => s.length + 1 - x.1) ((0, 0, true, true, false)) (.inl ⟨Nat.zero_le _, Nat.le_refl _, by simp, by simp, by show _ ↔ resX h true true false (pieces (s.drop 0)); rw [List.drop_zero, resX_start h (pieces_ne s)]; simp⟩) ?_; (conv => whnf); refine ⟨by ((conv => whnf); first | rfl | (simp [envCat, List.take_of_length_le, bcell, srow]; done) | (simp [envCat, List.take_of_length_le, bcell, srow]; rw [IntKind.wrap_i64]; omega)), ?_⟩
  rintro ⟨i, f, inn, fi, sm⟩ (⟨hi, hfi, hno1, hno2, hq⟩ | ⟨hi, hq⟩)
  case inr =>
    dsimp only at hi hq
    cases sm
    all_goals
      (conv => whnf)
      (try (conv => whnf)); repeat' (first | refine Ok.seq ?_ | refine OkL.cons ?_ | ((first | refine Ok.region tok ?_ | refine Ok.region_draw tok follows (by kernel_rfl) ?_ | refine Ok.cond ?_); conv => whnf) | refine Ok.block ?_ | ((first | refine Ok.skip ?_ | refine Ok.exit ?_ | refine Ok.ret ?_ | refine nI ?_ | refine ix _ (by assumption) ?_ | refine ixI (by omega) (by assumption) ?_ | refine ix_new _ (by omega) fun _ _ => ?_ | refine ixI_new (by omega) (by omega) fun _ _ => ?_ | refine ⟨_, by assumption, ?_⟩ | refine Alt2.l (aI ?_) | refine Alt2.r (aI ?_)); conv => whnf) | (refine Ok.scope ?_) | ((first | refine Ok.label ?_ | refine rd rfl (by assumption) ?_ | refine ⟨_, .inl ⟨rfl, rfl⟩, ?_⟩ | refine ⟨_, _, rfl, rfl, ?_⟩); conv => whnf) | (refine ⟨fun _ => ?_, fun _ => ?_⟩ <;> (conv => whnf) <;> (try (exfalso; omega))) | ((first | refine aJ ?_ | refine num_any ?_ | refine ⟨_, rfl, ?_⟩); conv => whnf) | fail)
      all_goals first
        | (exfalso; omega)
        | skip
    · refine Or.inl ?_; (conv => whnf)
      show D.b False = _
      exact congrArg D.b (propext ⟨fun h => h.elim, fun q => absurd (hq.1 (hsx.1 q)) (by decide)⟩)
    · refine Or.inl ?_; (conv => whnf)
      show D.b True = _
      exact congrArg D.b (propext ⟨fun _ => hsx.2 (hq.2 rfl), fun _ => trivial⟩)
  dsimp only at hi hfi hno1 hno2 hq
  by_cases hil : i < s.length
  · obtain ⟨b, hb⟩ : ∃ b, s[i]? = some b := ⟨_, List.getElem?_eq_getElem hil⟩
    have hbI : s[((i : Nat) : Int).toNat]? = some b := hb
    have hdr := drop_at hfi hb
    have hz : ∀ c : UInt8, c ∉ (s.take (i + 1)).drop (i + 1) := fun c => by rw [List.drop_eq_nil_of_le (by simp; omega)]; simp
    have hfit := fits3_at h ((s.take i).drop f) (by simp; omega)
    by_cases h43 : b = 43
    · subst h43
      have hn : (((43 : UInt8).toNat : Nat) : Int) = 43 := rfl
      rw [hdr, pieces_plus hno1 hno2, resX_plus (pieces_ne _)] at hq
      clear hdr
      cases inn <;> cases fi <;> cases sm
      all_goals
        (conv => whnf)
        (try (conv => whnf)); repeat' (first | refine Ok.seq ?_ | refine OkL.cons ?_ | ((first | refine Ok.region tok ?_ | refine Ok.region_draw tok follows (by kernel_rfl) ?_ | refine Ok.cond ?_); conv => whnf) | refine Ok.block ?_ | ((first | refine Ok.skip ?_ | refine Ok.exit ?_ | refine Ok.ret ?_ | refine nI ?_ | refine ix _ (by assumption) ?_ | refine ixI (by omega) (by assumption) ?_ | refine ix_new _ (by omega) fun _ _ => ?_ | refine ixI_new (by omega) (by omega) fun _ _ => ?_ | refine ⟨_, by assumption, ?_⟩); conv => whnf) | (refine Or.inl ?_; (conv => whnf); (repeat (refine aI ?_; conv => whnf)); refine ⟨_, hfit, rfl, ?_⟩; conv => whnf) | (refine ⟨_, hfit, rfl, ?_⟩; conv => whnf) | (refine Or.inr (Or.inl ?_); (conv => whnf); (repeat (refine aI ?_; conv => whnf)); refine ⟨_, hfit, ?_⟩; rintro _ _ ⟨rfl, rfl⟩; conv => whnf) | ((first | refine Alt2.l (aI ?_) | refine Alt2.r (aI ?_)); conv => whnf) | (refine Ok.scope ?_) | ((first | refine Ok.label ?_ | refine rd rfl (by assumption) ?_ | refine ⟨_, .inl ⟨rfl, rfl⟩, ?_⟩ | refine ⟨_, _, rfl, rfl, ?_⟩); conv => whnf) | (refine ⟨fun _ => ?_, fun _ => ?_⟩ <;> (conv => whnf) <;> (try (exfalso; omega))) | ((first | refine aJ ?_ | refine num_any ?_ | refine ⟨_, rfl, ?_⟩); conv => whnf) | fail)
        all_goals first
        | (exfalso; omega)
        | (rw [nxt_yes (has := inL h ((s.take i).drop f)) (by first | assumption | exact Classical.not_not.1 (by assumption))] at hq
           refine ⟨(i + 1, i + 1, true, true, _), by dsimp only; omega, .inl ⟨by dsimp only; omega, Nat.le_refl _, hz 43, hz 45, hq⟩, ?_⟩
           (conv => whnf)
           rfl)
        | (rw [nxt_no (has := inL h ((s.take i).drop f)) (by assumption)] at hq
           refine ⟨(i + 1, i + 1, true, true, _), by dsimp only; omega, .inl ⟨by dsimp only; omega, Nat.le_refl _, hz 43, hz 45, hq⟩, ?_⟩
           (conv => whnf)
           rfl)
        | trace_state
    have h43b := u8_ne h43
    rw [show (((43 : UInt8).toNat : Nat) : Int) = 43 from rfl] at h43b
    by_cases h45 : b = 45
    · subst h45
      have hn : (((45 : UInt8).toNat : Nat) : Int) = 45 := rfl
      rw [hdr, pieces_minus hno1 hno2, resX_minus] at hq
      clear hdr
      cases inn <;> cases fi <;> cases sm
      all_goals
        (conv => whnf)
        (try (conv => whnf)); repeat' (first | refine Ok.seq ?_ | refine OkL.cons ?_ | ((first | refine Ok.region tok ?_ | refine Ok.region_draw tok follows (by kernel_rfl) ?_ | refine Ok.cond ?_); conv => whnf) | refine Ok.block ?_ | ((first | refine Ok.skip ?_ | refine Ok.exit ?_ | refine Ok.ret ?_ | refine nI ?_ | refine ix _ (by assumption) ?_ | refine ixI (by omega) (by assumption) ?_ | refine ix_new _ (by omega) fun _ _ => ?_ | refine ixI_new (by omega) (by omega) fun _ _ => ?_ | refine ⟨_, by assumption, ?_⟩); conv => whnf) | (refine Or.inl ?_; (conv => whnf); (repeat (refine aI ?_; conv => whnf)); refine ⟨_, hfit, rfl, ?_⟩; conv => whnf) | (refine ⟨_, hfit, rfl, ?_⟩; conv => whnf) | (refine Or.inr (Or.inl ?_); (conv => whnf); (repeat (refine aI ?_; conv => whnf)); refine ⟨_, hfit, ?_⟩; rintro _ _ ⟨rfl, rfl⟩; conv => whnf) | ((first | refine Alt2.l (aI ?_) | refine Alt2.r (aI ?_)); conv => whnf) | (refine Ok.scope ?_) | ((first | refine Ok.label ?_ | refine rd rfl (by assumption) ?_ | refine ⟨_, .inl ⟨rfl, rfl⟩, ?_⟩ | refine ⟨_, _, rfl, rfl, ?_⟩); conv => whnf) | (refine ⟨fun _ => ?_, fun _ => ?_⟩ <;> (conv => whnf) <;> (try (exfalso; omega))) | ((first | refine aJ ?_ | refine num_any ?_ | refine ⟨_, rfl, ?_⟩); conv => whnf) | fail)
        all_goals first
        | (exfalso; omega)
        | (rw [nxt_yes (has := inL h ((s.take i).drop f)) (by first | assumption | exact Classical.not_not.1 (by assumption))] at hq
           refine ⟨(i + 1, i + 1, _, false, _), by dsimp only; omega, .inl ⟨by dsimp only; omega, Nat.le_refl _, hz 43, hz 45, hq⟩, ?_⟩
           (conv => whnf)
           rfl)
        | (rw [nxt_no (has := inL h ((s.take i).drop f)) (by assumption)] at hq
           refine ⟨(i + 1, i + 1, _, false, _), by dsimp only; omega, .inl ⟨by dsimp only; omega, Nat.le_refl _, hz 43, hz 45, hq⟩, ?_⟩
           (conv => whnf)
           rfl)
        | trace_state
    have h45b := u8_ne h45
    rw [show (((45 : UInt8).toNat : Nat) : Int) = 45 from rfl] at h45b
    have hm1 := cut_more hfi hb h43 hno1
    have hm2 := cut_more hfi hb h45 hno2
    cases inn <;> cases fi <;> cases sm
    all_goals
      (conv => whnf)
      (try (conv => whnf)); repeat' (first | refine Ok.seq ?_ | refine OkL.cons ?_ | ((first | refine Ok.region tok ?_ | refine Ok.region_draw tok follows (by kernel_rfl) ?_ | refine Ok.cond ?_); conv => whnf) | refine Ok.block ?_ | ((first | refine Ok.skip ?_ | refine Ok.exit ?_ | refine Ok.ret ?_ | refine nI ?_ | refine ix _ (by assumption) ?_ | refine ixI (by omega) (by assumption) ?_ | refine ix_new _ (by omega) fun _ _ => ?_ | refine ixI_new (by omega) (by omega) fun _ _ => ?_ | refine ⟨_, by assumption, ?_⟩ | refine Alt2.l (aI ?_) | refine Alt2.r (aI ?_)); conv => whnf) | (refine Ok.scope ?_) | ((first | refine Ok.label ?_ | refine rd rfl (by assumption) ?_ | refine ⟨_, .inl ⟨rfl, rfl⟩, ?_⟩ | refine ⟨_, _, rfl, rfl, ?_⟩); conv => whnf) | (refine ⟨fun _ => ?_, fun _ => ?_⟩ <;> (conv => whnf) <;> (try (exfalso; omega))) | ((first | refine aJ ?_ | refine num_any ?_ | refine ⟨_, rfl, ?_⟩); conv => whnf) | fail)
      all_goals first
        | (exfalso; omega)
        | (refine ⟨(i + 1, f, _, _, _), by dsimp only; omega, .inl ⟨by dsimp only; omega, by dsimp only; omega, hm1, hm2, hq⟩, ?_⟩
           (conv => whnf)
           rfl)
        | trace_state
  · have hie : i = s.length := by omega
    subst hie
    have hfit := fits3_at h ((s.take s.length).drop f) (by simp; omega)
    have hp : s.drop f = (s.take s.length).drop f := by rw [List.take_length]
    rw [hp, pieces_last hno1 hno2, resX_last] at hq
    clear hp
    cases inn <;> cases fi <;> cases sm
    all_goals
      (conv => whnf)
      (try (conv => whnf)); repeat' (first | refine Ok.seq ?_ | refine OkL.cons ?_ | ((first | refine Ok.region tok ?_ | refine Ok.region_draw tok follows (by kernel_rfl) ?_ | refine Ok.cond ?_); conv => whnf) | refine Ok.block ?_ | ((first | refine Ok.skip ?_ | refine Ok.exit ?_ | refine Ok.ret ?_ | refine nI ?_ | refine ix _ (by assumption) ?_ | refine ixI (by omega) (by assumption) ?_ | refine ix_new _ (by omega) fun _ _ => ?_ | refine ixI_new (by omega) (by omega) fun _ _ => ?_ | refine ⟨_, by assumption, ?_⟩); conv => whnf) | (refine Or.inl ?_; (conv => whnf); (repeat (refine aI ?_; conv => whnf)); refine ⟨_, hfit, rfl, ?_⟩; conv => whnf) | (refine ⟨_, hfit, rfl, ?_⟩; conv => whnf) | (refine Or.inr (Or.inl ?_); (conv => whnf); (repeat (refine aI ?_; conv => whnf)); refine ⟨_, hfit, ?_⟩; rintro _ _ ⟨rfl, rfl⟩; conv => whnf) | ((first | refine Alt2.l (aI ?_) | refine Alt2.r (aI ?_)); conv => whnf) | (refine Ok.scope ?_) | ((first | refine Ok.label ?_ | refine rd rfl (by assumption) ?_ | refine ⟨_, .inl ⟨rfl, rfl⟩, ?_⟩ | refine ⟨_, _, rfl, rfl, ?_⟩); conv => whnf) | (refine ⟨fun _ => ?_, fun _ => ?_⟩ <;> (conv => whnf) <;> (try (exfalso; omega))) | ((first | refine aJ ?_ | refine num_any ?_ | refine ⟨_, rfl, ?_⟩); conv => whnf) | fail)
      all_goals first
      | (exfalso; omega)
      | (rw [nxt_yes (has := inL h ((s.take s.length).drop f)) (by first | assumption | exact Classical.not_not.1 (by assumption))] at hq
         refine ⟨(s.length + 1, s.length + 1, true, true, _), by dsimp only; omega, .inr ⟨rfl, hq⟩, ?_⟩
         (conv => whnf)
         rfl)
      | (rw [nxt_no (has := inL h ((s.take s.length).drop f)) (by assumption)] at hq
         refine ⟨(s.length + 1, s.length + 1, true, true, _), by dsimp only; omega, .inr ⟨rfl, hq⟩, ?_⟩
         (conv => whnf)
         rfl)
      | trace_state
end Go.Proofs.YtaiondckookpiaaDoor
namespace Go.Proofs.YtaiondckookpiaaDoor
open Go Go.Vx
section
variable {p : Int → Prop} {a c r : Int} {k m j : Nat}
theorem wrap_small {x : Int} (h1 : 0 ≤ x) (h2 : x ≤ 9223372036854775807) : IntKind.i64.wrap x = x := by
  rw [IntKind.wrap_i64]
  omega
theorem iShl1 (hc : c = 1) (hr : r = (k : Int) ∧ k ≤ 8) (h : p ((2 ^ k : Nat) : Int)) : ∃ n, n = IntKind.i64.wrap (c * 2 ^ (min r.toNat IntKind.i64.bits)) ∧ p n := by
  obtain ⟨rfl, hk⟩ := hr
  subst hc
  refine ⟨_, rfl, ?_⟩
  have e1 : min ((k : Int).toNat) IntKind.i64.bits = k := by show min k 64 = k; omega
  have e2 : (1 : Int) * 2 ^ k = ((2 ^ k : Nat) : Int) := by simp
  have h3 : 2 ^ k ≤ 2 ^ 8 := Nat.pow_le_pow_right (by decide) hk
  have h4 : ((2 ^ k : Nat) : Int) ≤ ((2 ^ 8 : Nat) : Int) := Int.ofNat_le.2 h3
  have h5 : ((2 ^ 8 : Nat) : Int) = 256 := rfl
  rw [e1, e2, wrap_small (Int.natCast_nonneg _) (by rw [h5] at h4; exact Int.le_trans h4 (by decide))]
  exact h
theorem iShr (ha : a = (m : Int)) (hr : r = (j : Int) ∧ j ≤ 8) (h : p ((m >>> j : Nat) : Int)) : ∃ n, n = a.fdiv (2 ^ (min r.toNat IntKind.i64.bits)) ∧ p n := by
  obtain ⟨rfl, hk⟩ := hr
  subst ha
  refine ⟨_, rfl, ?_⟩
  have e1 : min ((j : Int).toNat) IntKind.i64.bits = j := by show min j 64 = j; omega
  have e2 : (m : Int).fdiv (2 ^ j) = ((m >>> j : Nat) : Int) := by
    rw [Nat.shiftRight_eq_div_pow]
    have : (2 : Int) ^ j = ((2 ^ j : Nat) : Int) := by simp
    rw [this, Int.fdiv_eq_ediv_of_nonneg _ (Int.natCast_nonneg _)]
    simp
  rw [e1, e2]
  exact h
theorem iAnd1 (ha : a = (m : Int)) (hm : m < 256) (hc : c = 1) (h : p ((m % 2 : Nat) : Int)) : ∃ n, n = IntKind.i64.wrap ((BitVec.ofInt IntKind.i64.bits a &&& BitVec.ofInt IntKind.i64.bits c).toNat : Int) ∧ p n := by
  subst ha hc
  refine ⟨_, rfl, ?_⟩
  have e : ((BitVec.ofInt IntKind.i64.bits (m : Int) &&& BitVec.ofInt IntKind.i64.bits 1).toNat) = m % 2 := by
    show ((BitVec.ofInt 64 (m : Int) &&& BitVec.ofInt 64 1).toNat) = m % 2
    rw [BitVec.toNat_and]
    have h1 : (BitVec.ofInt 64 (m : Int)).toNat = m := by simp [BitVec.toNat_ofInt]; omega
    have h2 : (BitVec.ofInt 64 1).toNat = 1 := rfl
    rw [h1, h2, Nat.and_one_is_mod]
  rw [e, wrap_small (by omega) (by omega)]
  exact h
theorem iU8 {x : Int} (h1 : 0 ≤ x ∧ x ≤ 255) (h : p x) : ∃ n, n = IntKind.u8.wrap x ∧ p n := by
  refine ⟨_, rfl, ?_⟩
  have : IntKind.u8.wrap x = x := by
    show x % 256 = x
    omega
  rw [this]
  exact h
end
def dg (k m i : Nat) : UInt8 := UInt8.ofNat (48 + (m >>> (k - 1 - i)) % 2)
theorem dg_nat (k m i : Nat) : (dg k m i).toNat = 48 + (m >>> (k - 1 - i)) % 2 := by
  unfold dg
  rw [UInt8.toNat_ofNat']
  omega
def binS (k m : Nat) : Str := (List.range k).map (dg k m)
theorem binS_len (k m : Nat) : (binS k m).length = k := by simp [binS]
theorem binS_get {k m i : Nat} (h : i < k) : (binS k m)[i]? = some (dg k m i) := by simp [binS, h]
def allH (k : Nat) : List Str := (List.range (2 ^ k)).map (binS k)
def hdrsL (n : Int) (given : List Str) : List Str := if n < 1 ∨ 8 < n then given.take 64 else allH n.toNat
set_option maxRecDepth 100000 in
set_option maxHeartbeats 8000000 in
theorem headers_at (n : Int) (given : List Str) (room : List (List D)) : FSpec Tryd.prog T 18 [.i .i64 n, .lst 9 (given.map srow) room] (fun d rows => rows = [] ∧ ∃ rm, d = .lst 9 ((hdrsL n given).map srow) rm) := by
  have hgl : (given.map srow).length = given.length := by simp
  refine FSpec.of_ok tok Tryd.func18 rfl Tryd.call18 (by simp) ?_
  by_cases hn : n < 1 ∨ 8 < n
  · rw [show hdrsL n given = given.take 64 from if_pos hn]
    by_cases hg : 64 < given.length
    · (try (conv => whnf)); repeat' (first | refine Ok.seq ?_ | refine OkL.cons ?_ | ((first | refine Ok.region tok ?_ | refine Ok.region_draw tok follows (by kernel_rfl) ?_ | refine Ok.cond ?_); conv => whnf) | refine Ok.block ?_ | ((first | refine Ok.skip ?_ | refine Ok.exit ?_ | refine Ok.ret ?_ | refine nI ?_ | refine ix _ (by assumption) ?_ | refine ixI (by omega) (by assumption) ?_ | refine ix_new _ (by omega) fun _ _ => ?_ | refine ixI_new (by omega) (by omega) fun _ _ => ?_ | refine ⟨_, by assumption, ?_⟩ | refine Alt2.l (aI ?_) | refine Alt2.r (aI ?_)); conv => whnf) | (refine Ok.scope ?_) | ((first | refine Ok.label ?_ | refine rd rfl (by assumption) ?_ | refine ⟨_, .inl ⟨rfl, rfl⟩, ?_⟩ | refine ⟨_, _, rfl, rfl, ?_⟩); conv => whnf) | (refine ⟨fun _ => ?_, fun _ => ?_⟩ <;> (conv => whnf) <;> (try (exfalso; omega))) | ((first | refine aJ ?_ | refine num_any ?_ | refine ⟨_, rfl, ?_⟩); conv => whnf) | fail)
      all_goals first
        | (exfalso; omega)
        | (refine Or.inl ?_; (conv => whnf)
           have e : List.drop 0 (List.take 64 (given.map srow ++ room)) = (given.take 64).map srow := by rw [List.drop_zero, List.take_append_of_le_length (by simp; omega), ← List.map_take]
           refine ⟨rfl, List.drop 64 (given.map srow ++ room), ?_⟩
           exact congrArg (fun x => D.lst 9 x _) e)
        | trace_state
    · have : given.take 64 = given := List.take_of_length_le (by omega)
      rw [this]
      (try (conv => whnf)); repeat' (first | refine Ok.seq ?_ | refine OkL.cons ?_ | ((first | refine Ok.region tok ?_ | refine Ok.region_draw tok follows (by kernel_rfl) ?_ | refine Ok.cond ?_); conv => whnf) | refine Ok.block ?_ | ((first | refine Ok.skip ?_ | refine Ok.exit ?_ | refine Ok.ret ?_ | refine nI ?_ | refine ix _ (by assumption) ?_ | refine ixI (by omega) (by assumption) ?_ | refine ix_new _ (by omega) fun _ _ => ?_ | refine ixI_new (by omega) (by omega) fun _ _ => ?_ | refine ⟨_, by assumption, ?_⟩ | refine Alt2.l (aI ?_) | refine Alt2.r (aI ?_)); conv => whnf) | (refine Ok.scope ?_) | ((first | refine Ok.label ?_ | refine rd rfl (by assumption) ?_ | refine ⟨_, .inl ⟨rfl, rfl⟩, ?_⟩ | refine ⟨_, _, rfl, rfl, ?_⟩); conv => whnf) | (refine ⟨fun _ => ?_, fun _ => ?_⟩ <;> (conv => whnf) <;> (try (exfalso; omega))) | ((first | refine aJ ?_ | refine num_any ?_ | refine ⟨_, rfl, ?_⟩); conv => whnf) | fail)
      all_goals first
        | (exfalso; omega)
        | (refine Or.inl ?_; (conv => whnf)
           exact ⟨rfl, room, rfl⟩)
        | trace_state
  obtain ⟨k, rfl⟩ : ∃ k : Nat, n = (k : Int) := ⟨n.toNat, by omega⟩
  rw [show hdrsL (k : Int) given = allH k from if_neg hn]
  (try (conv => whnf)); repeat' (first | refine Ok.seq ?_ | refine OkL.cons ?_ | ((first | refine Ok.region tok ?_ | refine Ok.region_draw tok follows (by kernel_rfl) ?_ | refine Ok.cond ?_); conv => whnf) | refine Ok.block ?_ | ((first | refine Ok.skip ?_ | refine Ok.exit ?_ | refine Ok.ret ?_ | refine nI ?_ | refine ix _ (by assumption) ?_ | refine ixI (by omega) (by assumption) ?_ | refine ix_new _ (by omega) fun _ _ => ?_ | refine ixI_new (by omega) (by omega) fun _ _ => ?_ | refine ⟨_, by assumption, ?_⟩ | refine Alt2.l (aI ?_) | refine Alt2.r (aI ?_)); conv => whnf) | (refine Ok.scope ?_) | ((first | refine Ok.label ?_ | refine rd rfl (by assumption) ?_ | refine ⟨_, .inl ⟨rfl, rfl⟩, ?_⟩ | refine ⟨_, _, rfl, rfl, ?_⟩); conv => whnf) | (refine ⟨fun _ => ?_, fun _ => ?_⟩ <;> (conv => whnf) <;> (try (exfalso; omega))) | ((first | refine aJ ?_ | refine num_any ?_ | refine ⟨_, rfl, ?_⟩); conv => whnf) | fail)
  all_goals first
    | (exfalso; omega)
    | skip
  refine Ok.ghost 5 9 rfl ?_
  (conv => whnf)
  have hk8 : 2 ^ k ≤ 2 ^ 8 := Nat.pow_le_pow_right (by decide) (by omega)
  refine Ok.loopU [0] [5, 6] 1 0 (fun (m : Nat) => [.own 0 m, .i .i64 (m : Nat)]) (fun _ b => b) (fun (m : Nat) (_ : Vx.Rows) => [some (9, ((List.range m).map (binS k)).map srow)]) (fun (m : Nat) => m ≤ 2 ^ k) (fun (m : Nat) => 2 ^ k - m) (0) (Nat.zero_le _) ?_; (conv => whnf); refine ⟨by ((conv => whnf); first | rfl | (simp [envCat, List.take_of_length_le, bcell, srow]; done) | (simp [envCat, List.take_of_length_le, bcell, srow]; rw [IntKind.wrap_i64]; omega)), ?_⟩
  rintro m hm
  have hrm : (((List.range m).map (binS k)).map srow).length = m := by simp
  (conv => whnf)
  by_cases hml : m < 2 ^ k
  · (try (conv => whnf)); repeat' (first | (refine iShl1 rfl ⟨rfl, by omega⟩ ?_; (conv => whnf)) | refine Ok.seq ?_ | refine OkL.cons ?_ | ((first | refine Ok.region tok ?_ | refine Ok.region_draw tok follows (by kernel_rfl) ?_ | refine Ok.cond ?_); conv => whnf) | refine Ok.block ?_ | ((first | refine Ok.skip ?_ | refine Ok.exit ?_ | refine Ok.ret ?_ | refine nI ?_ | refine ix _ (by assumption) ?_ | refine ixI (by omega) (by assumption) ?_ | refine ix_new _ (by omega) fun _ _ => ?_ | refine ixI_new (by omega) (by omega) fun _ _ => ?_ | refine ⟨_, by assumption, ?_⟩ | refine Alt2.l (aI ?_) | refine Alt2.r (aI ?_)); conv => whnf) | (refine Ok.scope ?_) | ((first | refine Ok.label ?_ | refine rd rfl (by assumption) ?_ | refine ⟨_, .inl ⟨rfl, rfl⟩, ?_⟩ | refine ⟨_, _, rfl, rfl, ?_⟩); conv => whnf) | (refine ⟨fun _ => ?_, fun _ => ?_⟩ <;> (conv => whnf) <;> (try (exfalso; omega))) | ((first | refine aJ ?_ | refine num_any ?_ | refine ⟨_, rfl, ?_⟩); conv => whnf) | fail)
    all_goals first
      | (exfalso; omega)
      | skip
    refine Ok.loopU [0, 5, 6, 7] [8] 2 0 (fun (i : Nat) => [.i .i64 (i : Nat)]) (fun _ b => b) (fun (i : Nat) (_ : Vx.Rows) => [some (9, ((List.range m).map (binS k)).map srow), some (5, ((binS k m).take i ++ List.replicate (k - i) 0).map bcell)]) (fun (i : Nat) => i ≤ k) (fun (i : Nat) => k - i) (0) (Nat.zero_le _) ?_; (conv => whnf); refine ⟨by ((conv => whnf); first | rfl | (simp [envCat, List.take_of_length_le, bcell, srow]; done) | (simp [envCat, List.take_of_length_le, bcell, srow]; rw [IntKind.wrap_i64]; omega)), ?_⟩
    rintro i hi
    have hbl := binS_len k m
    have hll : ((binS k m).take i ++ List.replicate (k - i) (0 : UInt8)).length = k := by simp [hbl]; omega
    have hlm : (((binS k m).take i ++ List.replicate (k - i) (0 : UInt8)).map bcell).length = k := by rw [List.length_map, hll]
    (conv => whnf)
    by_cases hil : i < k
    · have hfa := fill_at (t := binS k m) (i := i) (by omega)
      have hfs := fill_set (binS_get (m := m) hil)
      rw [hbl] at hfa hfs
      have hj : ((k : Int) - 1 - (i : Int)) = ((k - 1 - i : Nat) : Int) ∧ k - 1 - i ≤ 8 := by omega
      have hdn := dg_nat k m i
      (try (conv => whnf)); repeat' (first | (refine iShr rfl (by assumption) ?_; (conv => whnf)) | (refine iAnd1 rfl (by have := Nat.shiftRight_le m (k - 1 - i); omega) rfl ?_; (conv => whnf)) | (refine iU8 (by omega) ?_; (conv => whnf)) | refine Ok.seq ?_ | refine OkL.cons ?_ | ((first | refine Ok.region tok ?_ | refine Ok.region_draw tok follows (by kernel_rfl) ?_ | refine Ok.cond ?_); conv => whnf) | refine Ok.block ?_ | ((first | refine Ok.skip ?_ | refine Ok.exit ?_ | refine Ok.ret ?_ | refine nI ?_ | refine ix _ (by assumption) ?_ | refine ixI (by omega) (by assumption) ?_ | refine ix_new _ (by omega) fun _ _ => ?_ | refine ixI_new (by omega) (by omega) fun _ _ => ?_ | refine ⟨_, by assumption, ?_⟩ | refine Alt2.l (aI ?_) | refine Alt2.r (aI ?_)); conv => whnf) | (refine Ok.scope ?_) | ((first | refine Ok.label ?_ | refine rd rfl (by assumption) ?_ | refine ⟨_, .inl ⟨rfl, rfl⟩, ?_⟩ | refine ⟨_, _, rfl, rfl, ?_⟩); conv => whnf) | (refine ⟨fun _ => ?_, fun _ => ?_⟩ <;> (conv => whnf) <;> (try (exfalso; omega))) | ((first | refine aJ ?_ | refine num_any ?_ | refine ⟨_, rfl, ?_⟩); conv => whnf) | fail)
      all_goals first
        | (exfalso; omega)
        | skip
      refine st (dg k m i) hfa (by simp [bcell]) (by simp [setCells, bcell, hdn]) ?_
      (try (conv => whnf)); repeat' (first | refine Ok.seq ?_ | refine OkL.cons ?_ | ((first | refine Ok.region tok ?_ | refine Ok.region_draw tok follows (by kernel_rfl) ?_ | refine Ok.cond ?_); conv => whnf) | refine Ok.block ?_ | ((first | refine Ok.skip ?_ | refine Ok.exit ?_ | refine Ok.ret ?_ | refine nI ?_ | refine ix _ (by assumption) ?_ | refine ixI (by omega) (by assumption) ?_ | refine ix_new _ (by omega) fun _ _ => ?_ | refine ixI_new (by omega) (by omega) fun _ _ => ?_ | refine ⟨_, by assumption, ?_⟩ | refine Alt2.l (aI ?_) | refine Alt2.r (aI ?_)); conv => whnf) | (refine Ok.scope ?_) | ((first | refine Ok.label ?_ | refine rd rfl (by assumption) ?_ | refine ⟨_, .inl ⟨rfl, rfl⟩, ?_⟩ | refine ⟨_, _, rfl, rfl, ?_⟩); conv => whnf) | (refine ⟨fun _ => ?_, fun _ => ?_⟩ <;> (conv => whnf) <;> (try (exfalso; omega))) | ((first | refine aJ ?_ | refine num_any ?_ | refine ⟨_, rfl, ?_⟩); conv => whnf) | fail)
      refine ⟨i + 1, by omega, by omega, ?_⟩
      (conv => whnf)
      simp only [toNat_cast, hfs, envCat]
      rfl
    · have hie : i = k := by omega
      subst hie
      have ht : (binS i m).take i = binS i m := by
        have := binS_len i m
        exact List.take_of_length_le (by omega)
      rw [ht, Nat.sub_self, List.replicate_zero, List.append_nil] at *
      (try (conv => whnf)); repeat' (first | refine Ok.seq ?_ | refine OkL.cons ?_ | ((first | refine Ok.region tok ?_ | refine Ok.region_draw tok follows (by kernel_rfl) ?_ | refine Ok.cond ?_); conv => whnf) | refine Ok.block ?_ | ((first | refine Ok.skip ?_ | refine Ok.exit ?_ | refine Ok.ret ?_ | refine nI ?_ | refine ix _ (by assumption) ?_ | refine ixI (by omega) (by assumption) ?_ | refine ix_new _ (by omega) fun _ _ => ?_ | refine ixI_new (by omega) (by omega) fun _ _ => ?_ | refine ⟨_, by assumption, ?_⟩ | refine Alt2.l (aI ?_) | refine Alt2.r (aI ?_)); conv => whnf) | (refine Ok.scope ?_) | ((first | refine Ok.label ?_ | refine rd rfl (by assumption) ?_ | refine ⟨_, .inl ⟨rfl, rfl⟩, ?_⟩ | refine ⟨_, _, rfl, rfl, ?_⟩); conv => whnf) | (refine ⟨fun _ => ?_, fun _ => ?_⟩ <;> (conv => whnf) <;> (try (exfalso; omega))) | ((first | refine aJ ?_ | refine num_any ?_ | refine ⟨_, rfl, ?_⟩); conv => whnf) | fail)
      refine ⟨binS i m, by rw [List.take_of_length_le (by rw [List.length_map]; omega)], ?_⟩
      (try (conv => whnf)); repeat' (first | refine Ok.seq ?_ | refine OkL.cons ?_ | ((first | refine Ok.region tok ?_ | refine Ok.region_draw tok follows (by kernel_rfl) ?_ | refine Ok.cond ?_); conv => whnf) | refine Ok.block ?_ | ((first | refine Ok.skip ?_ | refine Ok.exit ?_ | refine Ok.ret ?_ | refine nI ?_ | refine ix _ (by assumption) ?_ | refine ixI (by omega) (by assumption) ?_ | refine ix_new _ (by omega) fun _ _ => ?_ | refine ixI_new (by omega) (by omega) fun _ _ => ?_ | refine ⟨_, by assumption, ?_⟩ | refine Alt2.l (aI ?_) | refine Alt2.r (aI ?_)); conv => whnf) | (refine Ok.scope ?_) | ((first | refine Ok.label ?_ | refine rd rfl (by assumption) ?_ | refine ⟨_, .inl ⟨rfl, rfl⟩, ?_⟩ | refine ⟨_, _, rfl, rfl, ?_⟩); conv => whnf) | (refine ⟨fun _ => ?_, fun _ => ?_⟩ <;> (conv => whnf) <;> (try (exfalso; omega))) | ((first | refine aJ ?_ | refine num_any ?_ | refine ⟨_, rfl, ?_⟩); conv => whnf) | fail)
      refine ⟨m + 1, by omega, by omega, ?_⟩
      rw [List.range_succ, List.map_append, List.map_append]
      (conv => whnf)
      simp [envCat]
  · have hme : m = 2 ^ k := by omega
    subst hme
    (try (conv => whnf)); repeat' (first | (refine iShl1 rfl ⟨rfl, by omega⟩ ?_; (conv => whnf)) | refine Ok.seq ?_ | refine OkL.cons ?_ | ((first | refine Ok.region tok ?_ | refine Ok.region_draw tok follows (by kernel_rfl) ?_ | refine Ok.cond ?_); conv => whnf) | refine Ok.block ?_ | ((first | refine Ok.skip ?_ | refine Ok.exit ?_ | refine Ok.ret ?_ | refine nI ?_ | refine ix _ (by assumption) ?_ | refine ixI (by omega) (by assumption) ?_ | refine ix_new _ (by omega) fun _ _ => ?_ | refine ixI_new (by omega) (by omega) fun _ _ => ?_ | refine ⟨_, by assumption, ?_⟩ | refine Alt2.l (aI ?_) | refine Alt2.r (aI ?_)); conv => whnf) | (refine Ok.scope ?_) | ((first | refine Ok.label ?_ | refine rd rfl (by assumption) ?_ | refine ⟨_, .inl ⟨rfl, rfl⟩, ?_⟩ | refine ⟨_, _, rfl, rfl, ?_⟩); conv => whnf) | (refine ⟨fun _ => ?_, fun _ => ?_⟩ <;> (conv => whnf) <;> (try (exfalso; omega))) | ((first | refine aJ ?_ | refine num_any ?_ | refine ⟨_, rfl, ?_⟩); conv => whnf) | fail)
    all_goals first
      | (exfalso; omega)
      | skip
    refine Or.inl ?_; (conv => whnf)
    refine ⟨rfl, [], ?_⟩
    rw [List.take_of_length_le (by simp), List.drop_of_length_le (by simp)]
    rfl
end Go.Proofs.YtaiondckookpiaaDoor
namespace Go.Proofs.YtaiondckookpiaaDoor
open Go Go.Vx
theorem parO_cases (b : Int) (s : Str) : (∃ e, e ≠ 0 ∧ parO b s = (e, 0, [])) ∨ (1 ≤ b ∧ b ≤ 256 ∧ s.length ≤ 33024 ∧ ((s = [110, 111, 110, 101] ∧ parO b s = (0, b, [])) ∨ (s ≠ [110, 111, 110, 101] ∧ OkP b (pieces s) ∧ parO b s = (0, b, formT (trms (pieces s)))))) := by
  by_cases h1 : 33024 < s.length
  · exact .inl ⟨2, by decide, parO_long h1⟩
  by_cases h2 : b < 1 ∨ 256 < b
  · exact .inl ⟨1, by decide, parO_arg h1 h2⟩
  by_cases h3 : s = [110, 111, 110, 101]
  · exact .inr ⟨by omega, by omega, by omega, .inl ⟨h3, parO_none h1 h2 h3⟩⟩
  by_cases h4 : OkP b (pieces s)
  · by_cases h5 : 128 < cntP (pieces s)
    · exact .inl ⟨3, by decide, parO_many h1 h2 h3 h4 h5⟩
    · exact .inr ⟨by omega, by omega, by omega, .inr ⟨h3, h4, parO_form h1 h2 h3 h4 h5⟩⟩
  · exact .inl ⟨20, by decide, parO_word h1 h2 h3 h4⟩
theorem hasC_inL {n : Int} {c h : Str} (hd : hdrX n h) (hc : c ≠ []) (hl : (c.length : Int) = n) : hasC c h ↔ inL h c :=
  ⟨fun q => q.2.2.2, fun q => ⟨hc, inL_len q, hd.2, q⟩⟩
theorem saidM_ok {n : Int} {h : Str} {m : List Str} (hd : hdrX n h) (hm : m ≠ []) (ho : ∀ w ∈ m, OkW n w) : saidM m h ↔ okM h m := by
  cases m with
  | nil => exact absurd rfl hm
  | cons p l =>
    have hp := ho p (by simp)
    unfold saidM rawHas okM
    simp only [List.headD_cons, List.tail_cons]
    rw [hasC_inL hd hp.2.2 hp.1]
    exact and_congr_right fun _ => forall_congr' fun x => forall_congr' fun hx => not_congr (hasC_inL hd (ho x (by simp [hx])).2.2 (ho x (by simp [hx])).1)
theorem said_has {n : Int} {s h : Str} (hp : (parO n s).1 = 0) (hd : hdrX n h) : saidX s h ↔ hasS (parO n s).2.2 h := by
  rcases parO_cases n s with ⟨e, he, h1⟩ | ⟨_, _, _, ⟨h3, h1⟩ | ⟨h3, h4, h1⟩⟩
  · rw [h1] at hp; exact absurd hp he
  · rw [h1]
    exact ⟨fun q => absurd h3 q.1, fun ⟨t, ht, _⟩ => by simp at ht⟩
  · rw [h1]
    show _ ↔ hasS (formT (trms (pieces s))) h
    rw [hasS_form (n := n.toNat) (fun t ht => (trms_good (fun m hm => (pieces_mem hm).1) h4 t ht).ok), trms_has]
    unfold saidX saidP
    constructor
    · rintro ⟨_, m, hm, q⟩
      exact ⟨m, hm, (saidM_ok hd (pieces_mem hm).1 (h4 m hm)).2 q⟩
    · rintro ⟨m, hm, q⟩
      exact ⟨h3, m, hm, (saidM_ok hd (pieces_mem hm).1 (h4 m hm)).1 q⟩
theorem hdrsL_len (n : Int) (given : List Str) : (hdrsL n given).length ≤ 256 := by
  unfold hdrsL
  split
  · simp; omega
  · rename_i h
    have h1 : 2 ^ n.toNat ≤ 2 ^ 8 := Nat.pow_le_pow_right (by decide) (by omega)
    simp only [allH, List.length_map, List.length_range]
    exact h1
end Go.Proofs.YtaiondckookpiaaDoor
namespace Go.Vx
open Go.RowKit
def fen (ρ : Option Nat) : Fence := { Fence.wide with round := ρ }
section
variable {P : Program} {T : Tab} {s : St} {Q : Exit → St → Prop} {w0 : World} {V0 : Fr}
theorem fen_room (ρ : Option Nat) (k : Nat) : (fen ρ).room k := fun _ h => by cases h
theorem opIn_of {ρ : Option Nat} {o : Oper} {a : Act} {w : World} {next : Act → World → Prop} {R : Exit → Act → World → Prop} (h : o.wp P a w next R) (hd : ∀ c, o.op ≠ .defer c) : o.wpIn (fen ρ) 0 P a w next R := by
  refine ⟨fun _ _ => trivial, ?_⟩
  show o.uponIn (fen ρ) 0 P a next R ((o.semAt ρ a.eval).run P w)
  rw [Oper.semAt_eq ρ _ _ hd]
  unfold Oper.wp at h
  generalize (execOp a.eval o).run P w = r at h
  unfold Oper.upon at h
  unfold Oper.uponIn
  split at h
  · exact h
  · exact h
  · exact h
  · refine ⟨(fun hh => by cases hh), ?_⟩
    exact (callsIn_wide (n := 0)).2 h
  · refine ⟨(fun hh => by cases hh), ?_⟩
    intro c cs _
    obtain ⟨v, w', hr, hs⟩ := h c cs
    exact ⟨v, w', hr, stepsIn_wide.2 hs⟩
  · exact h
  · exact h.elim
theorem vop_nodefer {o : Oper} {K : D → St → Prop} (h : vop P T s o K) : ∀ c, o.op ≠ .defer c := by
  intro c hc
  unfold vop at h
  rw [hc] at h
  dsimp only at h
  unfold qop at h
  rw [hc] at h
  exact h
theorem vopsIn_sound (hT : TOk P T) {ρ : Option Nat} {ops : List Oper} {R : Exit → Act → World → Prop} : ∀ (rest : List Oper) (s : St) (V : Vw) (μ : List Nat) (ω : List Value) (a : Act) (w : World) (K : St → Prop), Sim (szOf T) w0 V0 V μ ω s a w →
    vops P T ops rest s K → (∀ s V μ ω a w, K s → Sim (szOf T) w0 V0 V μ ω s a w → R .normal a w) → wpListIn (fen ρ) 0 P ops.toArray R rest a w
  | [], s, V, μ, ω, a, w, K, hS, h, hq => hq s V μ ω a w h hS
  | o :: rest, s, V, μ, ω, a, w, K, hS, h, hq => by
    simp only [vops] at h
    unfold wpListIn
    rcases wantK_sound hS h with ⟨hw, s1, h, hS⟩ | ⟨hw, s1, h, hS⟩
    · rw [if_pos hw]
      refine opIn_of (vop_sound hT hS h _ _ fun d v s2 V2 μ2 ω2 w2 hk hr hS2 _ => ?_) (vop_nodefer h)
      obtain ⟨s3, h, hS3⟩ := putK_sound hS2 hr hk
      exact vopsIn_sound hT rest s3 _ _ _ _ _ K hS3 h hq
    · rw [if_neg (by rw [hw]; simp)]
      obtain ⟨s3, h, hS3⟩ := putK_sound hS (v := undef) (d := .tup []) (RS.tup [] #[] rfl (fun j v d h => by simp at h)) h
      exact ⟨fun _ _ => trivial, vopsIn_sound hT rest s3 _ _ _ _ _ K hS3 h hq⟩
theorem vopsCutIn_sound (hT : TOk P T) {ρ : Option Nat} {ops : List Oper} {R : Exit → Act → World → Prop} : ∀ (n : Nat) (rest : List Oper) (s : St) (V : Vw) (μ : List Nat) (ω : List Value) (a : Act) (w : World) (K : Oper → St → Prop), Sim (szOf T) w0 V0 V μ ω s a w →
    vopsCut P T ops n rest s K → (∀ o r s V μ ω a w, rest.drop n = o :: r → K o s → Sim (szOf T) w0 V0 V μ ω s a w → wpListIn (fen ρ) 0 P ops.toArray R (o :: r) a w) → wpListIn (fen ρ) 0 P ops.toArray R rest a w
  | 0, [], _, _, _, _, _, _, _, _, h, _ => by simp [vopsCut] at h
  | _ + 1, [], _, _, _, _, _, _, _, _, h, _ => by simp [vopsCut] at h
  | 0, o :: rest, s, V, μ, ω, a, w, K, hS, h, hq => hq o rest s V μ ω a w rfl h hS
  | n + 1, o :: rest, s, V, μ, ω, a, w, K, hS, h, hq => by
    simp only [vopsCut] at h
    unfold wpListIn
    rcases wantK_sound hS h with ⟨hw, s1, h, hS⟩ | ⟨hw, s1, h, hS⟩
    · rw [if_pos hw]
      refine opIn_of (vop_sound hT hS h _ _ fun d v s2 V2 μ2 ω2 w2 hk hr hS2 _ => ?_) (vop_nodefer h)
      obtain ⟨s3, h, hS3⟩ := putK_sound hS2 hr hk
      exact vopsCutIn_sound hT n rest s3 _ _ _ _ _ K hS3 h hq
    · rw [if_neg (by rw [hw]; simp)]
      obtain ⟨s3, h, hS3⟩ := putK_sound hS (v := undef) (d := .tup []) (RS.tup [] #[] rfl (fun j v d h => by simp at h)) h
      exact ⟨fun _ _ => trivial, vopsCutIn_sound hT n rest s3 _ _ _ _ _ K hS3 h hq⟩
structure OkR (P : Program) (T : Tab) (c : Code) (Q : Exit → St → Prop) (s : St) : Prop where
  run : ∀ (l : Nat) (w0 : World) (V0 : Fr) (V : Vw) (μ : List Nat) (ω : List Value) (a : Act) (w : World), Sim (szOf T) w0 V0 V μ ω s a w →
    c.wpIn (fen (some l)) 0 P (fun e a' w' => ∃ s' V' μ' ω', Q e s' ∧ Sim (szOf T) w0 V0 V' μ' ω' s' a' w') a w
theorem OkR.mono {c : Code} {Q' : Exit → St → Prop} (h : OkR P T c Q s) (hq : ∀ e s, Q e s → Q' e s) : OkR P T c Q' s := by
  refine ⟨fun l w0 V0 V μ ω a w hS => wpIn_mono (h.run l w0 V0 V μ ω a w hS) ?_⟩
  rintro e a' w' ⟨s', V', μ', ω', hk, hS'⟩
  exact ⟨s', V', μ', ω', hq _ _ hk, hS'⟩
theorem OkR.region (hT : TOk P T) {id : Nat} {l : List Oper} (h : vops P T l l s (Q .normal)) : OkR P T (.region id l.toArray false) Q s :=
  ⟨fun _ w0 V0 V μ ω a w hS => wpIn_region_lit (vopsIn_sound hT l s V μ ω a w _ hS h fun s' V' μ' ω' a' w' hk hS' => ⟨s', V', μ', ω', hk, hS'⟩)⟩
theorem OkR.seq {x y : Code} (h : OkR P T x (thenQ (OkR P T y Q) Q) s) : OkR P T (.seq x y) Q s := by
  refine ⟨fun l w0 V0 V μ ω a w hS => wpIn_seq (wpIn_mono (h.run l w0 V0 V μ ω a w hS) ?_)⟩
  rintro e a' w' ⟨s', V', μ', ω', hk, hS'⟩
  cases e with
  | normal => exact OkR.run hk l w0 V0 V' μ' ω' a' w' hS'
  | _ => exact ⟨s', V', μ', ω', hk, hS'⟩
theorem OkR.skip (h : Q .normal s) : OkR P T .skip Q s := ⟨fun _ _ _ V μ ω _ _ hS => wpIn_skip ⟨s, V, μ, ω, h, hS⟩⟩
theorem OkR.ret (h : Q .ret s) : OkR P T .ret Q s := ⟨fun _ _ _ V μ ω _ _ hS => wpIn_ret ⟨s, V, μ, ω, h, hS⟩⟩
theorem OkR.exit {id : Nat} (h : Q (.exit id) s) : OkR P T (.exit id) Q s := ⟨fun _ _ _ V μ ω _ _ hS => wpIn_exit ⟨s, V, μ, ω, h, hS⟩⟩
theorem OkR.block {id : Nat} {c : Code} (h : OkR P T c (blockQ id Q) s) : OkR P T (.block id c) Q s := by
  refine ⟨fun l w0 V0 V μ ω a w hS => wpIn_block (wpIn_mono (h.run l w0 V0 V μ ω a w hS) ?_)⟩
  rintro e a' w' ⟨s', V', μ', ω', hk, hS'⟩
  cases e with
  | exit id' =>
    simp only [blockQ] at hk
    simp only [Exit.inBlock]
    split at hk
    · rename_i hb
      rw [if_pos (beq_nat_true hb)]
      exact ⟨s', V', μ', ω', hk, hS'⟩
    · rename_i hb
      rw [if_neg (by rintro rfl; rw [Nat.beq_refl] at hb; cases hb)]
      exact ⟨s', V', μ', ω', hk, hS'⟩
  | _ => exact ⟨s', V', μ', ω', hk, hS'⟩
theorem OkR.cond {c : Operand} {x y : Code} (h : condK s c (OkR P T x Q) (OkR P T y Q)) : OkR P T (.cond c x y) Q s := by
  refine ⟨fun l w0 V0 V μ ω a w hS => ?_⟩
  have hc := hS.get c
  unfold condK at h
  split at h
  · rename_i hd; rw [hd] at hc; exact wpIn_cond_true hc.tt_ (h.run l w0 V0 V μ ω a w hS)
  · rename_i hd; rw [hd] at hc; exact wpIn_cond_false hc.ff_ (h.run l w0 V0 V μ ω a w hS)
  · rename_i p hd
    rw [hd] at hc
    obtain ⟨b, hb, hbp⟩ := hc.bool
    cases b with
    | true => exact wpIn_cond_true hb ((h.1 (hbp.1 rfl)).run l w0 V0 V μ ω a w (hS.know c (by rw [hb]; exact .imm _ _ .tt)))
    | false => exact wpIn_cond_false hb ((h.2 (fun hp => by simpa using hbp.2 hp)).run l w0 V0 V μ ω a w (hS.know c (by rw [hb]; exact .imm _ _ .ff)))
  · exact h.elim
theorem OkR.region_throw {id t1 t2 n : Nat} {ty : TypeId} {env : List (Nat × D)} {box : List (List D)} {row : Rows} {y1 y2 y3 : TypeId} {p1 p2 p3 : String} {a1 a2 a3 : Array Edge}
    (hb : ∀ w, (Instr.build ty #[]).run P w = .ok (.agg #[]) w) (hc : P.concrete ty = true) (h1 : t1 < n) (h2 : t2 < n)
    (h : Q (.panic [{ v := .iface ty (.agg #[]), recovered := false }]) ⟨(t2, .u) :: (t1, .u) :: env, box, row, n⟩) :
    OkR P T (.region id #[⟨some t1, .build ty #[], y1, p1, a1, none⟩, ⟨some t2, .makeInterface ty (.tmp t1), y2, p2, a2, none⟩, ⟨none, .panic (.tmp t2), y3, p3, a3, none⟩] false) Q ⟨env, box, row, n⟩ := by
  refine ⟨fun l w0 V0 V μ ω a w hS => wpIn_region_lit ?_⟩
  have hsz : a.tmps.size = n := hS.tmps
  have ps : ∀ {a : Act} {t : Nat} {v : Value}, t < a.tmps.size → (a.put (some t) v).eval (.tmp t) = v := fun h => by simp [Act.put, Act.eval, Array.getD, h]
  unfold wpListIn
  rw [if_pos (by simp [Region.wanted])]
  refine opIn_of ?_ (by intro c; simp)
  unfold Oper.wp
  have r1 : (execOp a.eval ⟨some t1, .build ty #[], y1, p1, a1, none⟩).run P w = .ok (.value (.agg #[])) w := by
    simp only [execOp, Sem.run_bind, Array.map_empty, List.map_toArray, List.map_nil, hb, Result.andThen_ok, Sem.run_pure]
  rw [r1]
  show wpListIn _ _ P _ _ [_, _] (a.put (some t1) _) w
  unfold wpListIn
  rw [if_pos (by simp [Region.wanted])]
  refine opIn_of ?_ (by intro c; simp)
  unfold Oper.wp
  have r2 : (execOp (a.put (some t1) (.agg #[])).eval ⟨some t2, .makeInterface ty (.tmp t1), y2, p2, a2, none⟩).run P w = .ok (.value (.iface ty (.agg #[]))) w := by
    simp only [execOp, ps (a := a) (t := t1) (v := .agg #[]) (by omega), Sem.run_bind, run_makeInterface w ty _ hc, Result.andThen_ok, Sem.run_pure]
  rw [r2]
  show wpListIn _ _ P _ _ [_] ((a.put (some t1) _).put (some t2) _) w
  unfold wpListIn
  rw [if_pos (by simp [Region.wanted])]
  refine opIn_of ?_ (by intro c; simp)
  unfold Oper.wp
  have r3 : (execOp ((a.put (some t1) (.agg #[])).put (some t2) (.iface ty (.agg #[]))).eval ⟨none, .panic (.tmp t2), y3, p3, a3, none⟩).run P w = .halt (.panic (.iface ty (.agg #[]))) w := by
    have e : ((a.put (some t1) (.agg #[])).put (some t2) (.iface ty (.agg #[]))).eval (.tmp t2) = .iface ty (.agg #[]) := ps (by simp [Act.put]; omega)
    simp [execOp, e, Instr.panic, goPanic]
  rw [r3]
  exact ⟨_, V, μ, ω, h, (hS.put h1 (.imm _ _ (.u _))).put h2 (.imm _ _ (.u _))⟩
end
end Go.Vx
namespace Go.Vx
open Go.RowKit
section
variable {P : Program} {T : Tab}
def wpG (P : Program) (G : FuncId → Prop) (c : Code) (Q : Exit → Act → World → Prop) (a : Act) (w : World) : Prop :=
  ∀ (b : Frame) (k : List Item) (cs : List Frame), G b.fn → ∃ e a' w', Q e a' w' ∧ Arrives P (lone (b.at a (.code c :: k)) cs w) b k cs e a' w'
variable {G : FuncId → Prop} {Q : Exit → Act → World → Prop} {a : Act} {w : World}
theorem wpG_of {c : Code} (h : c.wp P Q a w) : wpG P G c Q a w := fun b k cs _ => h b k cs
theorem wp_of_G {c : Code} (h : wpG P (fun _ => True) c Q a w) : c.wp P Q a w := fun b k cs => h b k cs trivial
theorem wpG_mono {c : Code} {Q' : Exit → Act → World → Prop} (h : wpG P G c Q a w) (hq : ∀ e a w, Q e a w → Q' e a w) : wpG P G c Q' a w :=
  fun b k cs hG => let ⟨e, a', w', q, r⟩ := h b k cs hG; ⟨e, a', w', hq _ _ _ q, r⟩
theorem wpG_seq {x y : Code} (h : wpG P G x (Exit.then (wpG P G y Q) Q) a w) : wpG P G (Code.seq x y) Q a w := by
  intro b k cs hG
  obtain ⟨e, a₁, w₁, hq, harr⟩ := h b (.code y :: k) cs hG
  cases e with
  | normal =>
    obtain ⟨e₂, a₂, w₂, hq₂, harr₂⟩ := hq b k cs hG
    exact ⟨e₂, a₂, w₂, hq₂, .of_steps (.head step_seq harr) harr₂⟩
  | exit id => exact ⟨_, a₁, w₁, hq, .of_steps (.one step_seq) (.pass (x := .code y) rfl (fun _ _ => .inl (by simp)) harr)⟩
  | goto l => exact ⟨_, a₁, w₁, hq, .of_steps (.one step_seq) (.pass (x := .code y) rfl (fun _ _ => .inl (by simp)) harr)⟩
  | ret => exact ⟨_, a₁, w₁, hq, .of_steps (.one step_seq) (.pass (x := .code y) rfl (fun _ _ => .inl (by simp)) harr)⟩
  | panic ch => exact ⟨_, a₁, w₁, hq, .of_steps (.one step_seq) (.pass (x := .code y) rfl (fun _ _ => .inl (by simp)) harr)⟩
  | outgrown => exact ⟨_, a₁, w₁, hq, .of_steps (.one step_seq) (.pass (x := .code y) rfl (fun _ _ => .inl (by simp)) harr)⟩
theorem wpG_block {id : Nat} {c : Code} (h : wpG P G c (Exit.inBlock id Q) a w) : wpG P G (Code.block id c) Q a w := by
  intro b k cs hG
  obtain ⟨e, a₁, w₁, hq, harr⟩ := h b (.inBlock id :: k) cs hG
  cases e with
  | normal => exact ⟨.normal, a₁, w₁, hq, .head step_block (Steps.trans harr (.one step_inBlock))⟩
  | exit id' =>
    by_cases hid : id' = id
    · simp only [Exit.inBlock, hid, if_true] at hq
      exact ⟨.normal, a₁, w₁, hq, .head step_block (harr k (by simp [exitTo, hid]))⟩
    · simp only [Exit.inBlock, hid, if_false] at hq
      refine ⟨.exit id', a₁, w₁, hq, fun k' hk => .head step_block (harr k' ?_)⟩
      have : (id == id') = false := by simp; exact fun h => hid h.symm
      simp [exitTo, this, hk]
  | goto l => exact ⟨_, a₁, w₁, hq, fun k' hk => .head step_block (harr k' (by simp [gotoIn, hk]))⟩
  | ret => exact ⟨_, a₁, w₁, hq, .of_steps (.one step_block) harr⟩
  | panic ch => exact ⟨_, a₁, w₁, hq, .of_steps (.one step_block) harr⟩
  | outgrown => exact ⟨_, a₁, w₁, hq, .of_steps (b := b) (k := k) (cs := cs) (e := .outgrown) (.one step_block) harr⟩
theorem calls_of_wpG {f : FuncId} {fn : Func} {c : Code} {args : Array Value} {w : World} {R : Ending → World → Prop} (hf : P.funcs[f]? = some fn) (hb : fn.body = some c) (hG : G f)
    (h : wpG P G c (bodyPostX P fn R) { tmps := args ++ Array.replicate (fn.ntmps - args.size) undef, defers := [] } w) : Calls P f args w R := by
  intro cs
  let b : Frame := { (default : Frame) with fn := f, kind := .normal }
  have henter : Frame.enter P f args .normal =
      b.at { tmps := args ++ Array.replicate (fn.ntmps - args.size) undef, defers := [] } [.code c] := by
    simp [Frame.enter, Frame.at, hf, hb, b]
  obtain ⟨e, a', w', hq, harr⟩ := h b [] cs hG
  rw [← henter] at harr
  cases e with
  | normal =>
    obtain ⟨e', w'', fr', hR, hs, hfn, hl⟩ := leaves_stepsX a'.defers .returning w' { b.at a' [] with mode := .returning } cs rfl rfl rfl hf rfl hq
    exact ⟨e', w'', fr', hR, Comes.of_steps (Steps.trans harr (.one step_end)) hs, hfn, hl⟩
  | ret =>
    obtain ⟨todo, hs₀⟩ := harr
    obtain ⟨e', w'', fr', hR, hs, hfn, hl⟩ := leaves_stepsX a'.defers .returning w' { b.at a' todo with mode := .returning } cs rfl rfl rfl hf rfl hq
    exact ⟨e', w'', fr', hR, Comes.of_steps hs₀ hs, hfn, hl⟩
  | panic chain =>
    obtain ⟨todo, hs₀⟩ := harr
    obtain ⟨e', w'', fr', hR, hs, hfn, hl⟩ := leaves_stepsX a'.defers (.panicking chain) w' { b.at a' todo with mode := .panicking chain } cs rfl rfl rfl hf rfl hq
    exact ⟨e', w'', fr', hR, Comes.of_steps hs₀ hs, hfn, hl⟩
  | exit id => exact hq.elim
  | goto l => exact hq.elim
  | outgrown => exact ⟨.outgrown, w', b, hq, harr.resolve_left (by simp [b]), rfl, trivial⟩
def rangePostG (P : Program) (G : FuncId → Prop) (l : Nat) (Q : Exit → Act → World → Prop) (a' : Act) : Ending → World → Prop
  | .returned _, w₃ => ∃ jump w₄, (Instr.endLoop l).run P w₃ = .ok jump w₄ ∧
      (match jump with
       | none => Q .normal a' w₄
       | some c => wpG P G c Q a' w₄)
  | .panicked chain, w₃ => Q (.panic chain) a' w₃
  | .outgrown, _ => False
theorem wpG_rangeFunc {g : Operand} {ps : Array Tmp} {assign body : Code}
    (h : ∀ fn, G fn → ∃ (l : Nat) (mark : List Deferred) (w₁ : World) (d : Deferred) (w₁' : World) (f : FuncId) (args : Array Value) (w₂ : World),
      (Instr.enterLoop fn a.tmps ps assign body none).run P w = .ok (l, mark) w₁ ∧
      (resolve a.eval (rangeCall g l) 0).run P w₁ = .ok d w₁' ∧
      (invoke d.target d.args).run P w₁' = .ok (.enter f args) w₂ ∧
      Calls P f args w₂ (rangePostG P G l Q { a with defers := mark ++ a.defers })) :
    wpG P G (Code.rangeFunc g ps assign body) Q a w := by
  intro b k cs hG
  obtain ⟨l, mark, w₁, d, w₁', f, args, w₂, he, hres, hinv, hcall⟩ := h b.fn hG
  obtain ⟨b0, hb0⟩ : ∃ b0 : Frame, b0 = { b with roundOf := none } := ⟨_, rfl⟩
  have hr0 : b0.roundOf = none := by rw [hb0]
  have hat : ∀ a k, b0.atR a k = b.at a k := fun a k => by rw [Frame.atR_of_none hr0, hb0]; rfl
  have henter := stepR_rangeFunc (P := P) (b := b0) (a := a) (k := k) (cs := cs) (w := w) (by rw [hr0, hb0]; exact he) hres hinv
  obtain ⟨e, w₃, fr, hR, hsteps, hfn, hleave⟩ := hcall (b0.atR { a with defers := mark ++ a.defers } (.inRangeFunc l :: k) :: cs)
  rw [hat] at henter
  cases e with
  | outgrown => exact hR.elim
  | returned v =>
    obtain ⟨jump, w₄, hend, hj⟩ := hR
    have sback : Steps P (lone (b.at a (.code (.rangeFunc g ps assign body) :: k)) cs w) (lone (b.at { a with defers := mark ++ a.defers } ((jump.map Item.code).toList ++ k)) cs w₄) := by
      have s2 : step P (lone fr (b0.atR { a with defers := mark ++ a.defers } (.inRangeFunc l :: k) :: cs) w₃) = .next (lone (b0.atR { a with defers := mark ++ a.defers } (.endRangeFunc l :: k)) cs w₃) := by
        rw [← finish_atR_inRangeFunc l v]; exact step_leave_returned hleave
      have s3 := stepR_endRangeFunc (P := P) (b := b0) (a := { a with defers := mark ++ a.defers }) (k := k) (cs := cs) hend
      rw [hat _ ((jump.map Item.code).toList ++ k)] at s3
      exact .head henter (Steps.trans hsteps (.head s2 (.one s3)))
    cases jump with
    | none => exact ⟨.normal, _, w₄, hj, sback⟩
    | some c =>
      obtain ⟨e', a'', w₅, hq, harr⟩ := hj b k cs hG
      exact ⟨e', a'', w₅, hq, .of_steps sback harr⟩
  | panicked chain =>
    refine ⟨.panic chain, _, w₃, hR, .inRangeFunc l :: k, .head henter (Steps.trans hsteps (.one ?_))⟩
    have := step_leave_panicked (P := P) (c := b0.atR { a with defers := mark ++ a.defers } (.inRangeFunc l :: k)) (cs := cs) hleave
    rw [Frame.raise_atR, hat] at this
    rw [hat]
    exact this
def roundPostV (P : Program) (l : Nat) (f : FuncId) (R : Ending → World → Prop) : Exit → Act → World → Prop
  | .panic ch, a, w => ∃ fn, P.funcs[f]? = some fn ∧ LeavesX P fn a.tmps (fun e w' => e = .panicked ch ∧ R e w') a.defers (.panicking ch) w
  | .normal, _, w => ∃ v w', (Instr.endRound l none).run P w = .ok v w' ∧ R (.returned v) w'
  | .ret, _, w => ∃ v w', (Instr.endRound l (some .ret)).run P w = .ok v w' ∧ R (.returned v) w'
  | .exit id, _, w => ∃ v w', (Instr.endRound l (some (.exit id))).run P w = .ok v w' ∧ R (.returned v) w'
  | .goto _, _, _ => False
  | .outgrown, _, _ => False
theorem roundIn_of {l : Nat} {f : FuncId} {tmps : Array Value} {assign body : Code} {w : World} {R : Ending → World → Prop}
    (h : assign.wpIn (fen (some l)) 0 P (Exit.then (fun a₁ w₁ => ∃ w₂, (Instr.beginRound l).run P w₁ = .ok () w₂ ∧ body.wpIn (fen (some l)) 0 P (roundPostV P l f R) a₁ w₂) (fun _ _ _ => False))
      { tmps := tmps, defers := [] } w) :
    RoundIn Fence.wide 0 P l f tmps assign body w R := by
  refine ⟨trivial, fun c cs hr => ?_⟩
  let b : Frame := { (default : Frame) with fn := f, kind := .normal, roundOf := some l }
  have hb0 : Frame.round l f tmps assign body .normal = b.atR { tmps := tmps, defers := [] } [.code assign, .beginRound, .code body] := by
    simp [Frame.round, Frame.atR, b]
  obtain ⟨e, a₁, w₁, hq, harr⟩ := h b [.beginRound, .code body] (c :: cs) rfl trivial (fen_room _ _)
  rw [← hb0] at harr
  have w_ : ∀ {m m'}, StepsIn (Machine.fenced P (fen (some l))) P m m' → Steps P m m' := fun h => h.steps
  cases e with
  | normal =>
    obtain ⟨w₂, hbr, hbody⟩ := hq
    have s1 : Steps P (lone (b.atR a₁ [.beginRound, .code body]) (c :: cs) w₁) (lone (b.atR a₁ [.code body]) (c :: cs) w₂) := .one (stepR_beginRound rfl hbr)
    obtain ⟨e₂, a₂, w₃, hq₂, harr₂⟩ := hbody b [] (c :: cs) rfl trivial (fen_room _ _)
    cases e₂ with
    | normal =>
      obtain ⟨v, w₄, hend, hR⟩ := hq₂
      exact ⟨.returned v, w₄, hR, comesIn_wide.2 (((w_ harr).trans s1).trans ((w_ harr₂).trans (.one (stepR_round_end rfl rfl hend))))⟩
    | ret =>
      obtain ⟨v, w₄, hend, hR⟩ := hq₂
      obtain ⟨k₁, hs⟩ := harr₂.2 rfl
      exact ⟨.returned v, w₄, hR, comesIn_wide.2 (((w_ harr).trans s1).trans ((w_ hs).trans (.one (stepR_round_ret rfl rfl hend))))⟩
    | exit id =>
      obtain ⟨v, w₄, hend, hR⟩ := hq₂
      obtain ⟨k₁, hk, hs⟩ := harr₂.2 rfl rfl
      exact ⟨.returned v, w₄, hR, comesIn_wide.2 (((w_ harr).trans s1).trans ((w_ hs).trans (.one (stepR_round_exit rfl rfl hk hend))))⟩
    | goto t => exact hq₂.elim
    | panic chain =>
      obtain ⟨fn, hfn, hl⟩ := hq₂
      obtain ⟨todo, hs⟩ := harr₂
      obtain ⟨e', w'', fr', ⟨he', hR'⟩, hs', hfn', hl'⟩ := leaves_stepsX a₂.defers (.panicking chain) w₃ { b.atR a₂ todo with mode := .panicking chain } (c :: cs) rfl rfl rfl hfn rfl hl
      subst he'
      exact ⟨.panicked chain, w'', hR', comesIn_wide.2 (((w_ harr).trans s1).trans ((w_ hs).trans (Steps.trans hs' (.one (step_leave_panicked hl')))))⟩
    | outgrown => exact hq₂.elim
  | exit id => exact hq.elim
  | goto l => exact hq.elim
  | ret => exact hq.elim
  | panic chain => exact hq.elim
  | outgrown => exact hq.elim
end
end Go.Vx
namespace Go.Vx
open Go.RowKit
section
variable {P : Program} {T : Tab}
structure Yields (P : Program) (T : Tab) (l B : Nat) (xs : List (List D)) (J : Option Nat → Vw → World → Prop) (Jp : List PanicEntry → World → Prop) : Prop where
  vok : ∀ k V W, J k V W → VOk V W
  size : ∀ k V W, J k V W → B ≤ W.heap.size
  grow : ∀ k V V' W W', J k V W → Ext W W' → VLe V V' → VOk V' W' → (∀ p v, V' p = some v → V p = some v ∨ W.heap.size ≤ p.block) → J k V' W'
  shut : ∀ k V W D, J k V W → B ≤ D → W.heap[D]? = some (.deferred (some [])) → J k V (W.putObj D (.deferred none))
  shutp : ∀ c W D, Jp c W → B ≤ D → W.heap[D]? = some (.deferred (some [])) → Jp c (W.putObj D (.deferred none))
  round : ∀ (k : Nat) x V W (vs : List Value), xs[k]? = some x → J (some k) V W → vs.length = x.length → (∀ (j : Nat) v d, vs[j]? = some v → x[j]? = some d → RI (szOf T) V v d) →
    ∀ E : List (Nat × Obj), (∀ x ∈ E, B ≤ x.1 ∧ W.heap[x.1]? = some x.2 ∧ noC x.2) →
    ∃ fn tmps assign body, (Instr.yield l vs.toArray).run P W = .ok (.round l fn tmps assign body) W ∧
      RoundIn Fence.wide 0 P l fn tmps assign body W fun e W' => (∀ x ∈ E, W'.heap[x.1]? = some x.2) ∧
        ((∃ V', VLe V V' ∧ ((e = .returned (.bool true) ∧ J (some (k + 1)) V' W') ∨ (e = .returned (.bool false) ∧ J none V' W'))) ∨ ∃ c, e = .panicked c ∧ Jp c W')
structure YSpec (P : Program) (T : Tab) (f : FuncId) (cap : List D) (xs : List (List D)) : Prop where
  call : ∀ args w, (callFunc f args).run P w = .ok (.enter f args) w
  run : ∀ (V : Vw) (w : World) (args : Array Value), args.size = cap.length → (∀ (j : Nat) v d, args[j]? = some v → cap[j]? = some d → RI (szOf T) V v d) →
    ∀ l J Jp, Yields P T l w.heap.size xs J Jp → J (some 0) V w →
    Calls P f (#[.func (.yield l) #[] #[]] ++ args) w fun e w' => ((∃ v, e = .returned v) ∧ ∃ V', J (some xs.length) V' w' ∨ J none V' w') ∨ ∃ c, e = .panicked c ∧ Jp c w'
structure YSpecI (P : Program) (T : Tab) (f : FuncId) (cap : List D) (xs : List (List D)) (I : Nat → Prop) : Prop where
  call : ∀ args w, (callFunc f args).run P w = .ok (.enter f args) w
  run : ∀ (V : Vw) (w : World) (args : Array Value), args.size = cap.length → (∀ (j : Nat) v d, args[j]? = some v → cap[j]? = some d → RI (szOf T) V v d) →
    ∀ l J Jp, Yields P T l w.heap.size xs J Jp → (∀ k V W, J (some k) V W → I k) → J (some 0) V w →
    Calls P f (#[.func (.yield l) #[] #[]] ++ args) w fun e w' => ((∃ v, e = .returned v) ∧ ∃ V', J (some xs.length) V' w' ∨ J none V' w') ∨ ∃ c, e = .panicked c ∧ Jp c w'
theorem YSpec.toI {f : FuncId} {cap : List D} {xs : List (List D)} (h : YSpec P T f cap xs) (I : Nat → Prop) : YSpecI P T f cap xs I := ⟨h.call, fun V w args a b l J Jp hY _ hJ => h.run V w args a b l J Jp hY hJ⟩
variable {w0 w w' : World} {V V' : Vw} {μ : List Nat} {ω : List Value} {box : List (List D)} {row : Rows} {s : St} {a : Act} {sz : TypeId → Nat}
theorem Mem.grow {F : Fr} (h : Mem sz w0 F V μ ω box row w) (he : Ext w w') (hV : VLe V V') (hok : VOk V' w') (hn : ∀ p v, V' p = some v → V p = some v ∨ w.heap.size ≤ p.block) : Mem sz w0 F V' μ ω box row w' := by
  have h1 := h.ext he
  refine ⟨h1.below, hok, fun p v hp => hV p v (h.vle p v hp), fun p hp => ?_, h1.bl, fun i g cs a b => ?_, h1.rl, fun r v e xs a b => ?_, h1.uniq, h1.new, fun p u l hp ho => ?_⟩
  · rw [← h.vold p hp]
    cases hv : V' p with
    | none =>
      cases hv2 : V p with
      | none => rfl
      | some u => rw [hV p u hv2] at hv; cases hv
    | some u =>
      rcases hn p u hv with hq | hq
      · exact hq.symm
      · have := h.below.size; omega
  · obtain ⟨vs, t, c1, c2, c3, c4, c5⟩ := h1.hbox i g cs a b
    exact ⟨vs, t, c1, c2, c3, fun j v d e1 e2 => (c4 j v d e1 e2).mono hV (.refl _) (.refl _), c5⟩
  · obtain ⟨vals, c1, c2, c3, c4⟩ := h1.hrow r v e xs a b
    exact ⟨vals, c1, c2, c3, fun i rw j d e1 e2 => let ⟨u, x1, x2⟩ := c4 i rw j d e1 e2; ⟨u, x1, x2.mono hV⟩⟩
  · have hg := (h.new l p.block ho).2
    rcases hn p u hp with hq | hq
    · exact h.vmut p u l hq ho
    · omega
theorem Sim.grow {F : Fr} (h : Sim sz w0 F V μ ω s a w) (he : Ext w w') (hV : VLe V V') (hok : VOk V' w') (hn : ∀ p v, V' p = some v → V p = some v ∨ w.heap.size ≤ p.block) : Sim sz w0 F V' μ ω s a w' :=
  ⟨h.tmps, h.defers.ext he, fun t => (h.env t).mono hV (.refl _) (.refl _), h.mem.grow he hV hok hn⟩
theorem Sim.turn {V0 : Vw} {gv : Nat → Value} {df : List Deferred} {l : Nat} {o : Obj} {R : List (Nat × Obj)} (h : Sim sz w0 ⟨V0, gv, df, (l, o) :: R⟩ V μ ω s a w) (o' : Obj) (hR : ∀ x ∈ R, x.1 ≠ l) (ho' : noC o') :
    Sim sz w0 ⟨V0, gv, df, (l, o') :: R⟩ V μ ω s a (w.putObj l o') := by
  obtain ⟨h1, h2, h3⟩ := h.defers.kept (l, o) (by simp)
  have hlt : l < w.heap.size := (Array.getElem?_eq_some_iff.1 h1).1
  refine ⟨h.tmps, ⟨?_, fun x hx => ?_⟩, h.env, (h.mem.putOther o' h1 h2 h3).fr rfl⟩
  · obtain ⟨ms, e1, e2, e3⟩ := h.defers.marks
    refine ⟨ms, e1, e2, fun D hD => ?_⟩
    obtain ⟨k1, k2, k3⟩ := e3 D hD
    have hne : l ≠ D := k3 (l, o) (by simp)
    refine ⟨(World.putObj_heap_other (Ne.symm hne)).trans k1, k2, fun x hx => ?_⟩
    rcases List.mem_cons.1 hx with rfl | hx
    · exact hne
    · exact k3 x (List.mem_cons_of_mem _ hx)
  · rcases List.mem_cons.1 hx with rfl | hx
    · exact ⟨World.putObj_heap_same hlt, ho', h3⟩
    · obtain ⟨k1, k2⟩ := h.defers.kept x (List.mem_cons_of_mem _ hx)
      exact ⟨(World.putObj_heap_other (hR x hx)).trans k1, k2⟩
theorem Sim.unkeep {V0 : Vw} {gv : Nat → Value} {df : List Deferred} {x : Nat × Obj} {R : List (Nat × Obj)} (h : Sim sz w0 ⟨V0, gv, df, x :: R⟩ V μ ω s a w) : Sim sz w0 ⟨V0, gv, df, R⟩ V μ ω s a w := by
  refine ⟨h.tmps, ⟨?_, fun y hy => h.defers.kept y (List.mem_cons_of_mem _ hy)⟩, h.env, h.mem.fr rfl⟩
  obtain ⟨ms, e1, e2, e3⟩ := h.defers.marks
  exact ⟨ms, e1, e2, fun D hD => ⟨(e3 D hD).1, (e3 D hD).2.1, fun y hy => (e3 D hD).2.2 y (List.mem_cons_of_mem _ hy)⟩⟩
theorem Sim.putOld {F : Fr} (h : Sim sz w0 F V μ ω s a w) {D : Nat} {o : Obj} (o' : Obj) (hD : w.heap[D]? = some o) (hn : noC o) (hb : w0.heap.size ≤ D) (hk : ∀ x ∈ F.kp, x.1 ≠ D) (hm : ∀ ms : List Nat, a.defers = ms.map mkD ++ F.df → D ∉ ms) :
    Sim sz w0 F V μ ω s a (w.putObj D o') := by
  refine ⟨h.tmps, ⟨?_, fun x hx => ⟨(World.putObj_heap_other (hk x hx)).trans (h.defers.kept x hx).1, (h.defers.kept x hx).2⟩⟩, h.env, h.mem.putOther o' hD hn hb⟩
  obtain ⟨ms, e1, e2, e3⟩ := h.defers.marks
  refine ⟨ms, e1, e2, fun E hE => ⟨(World.putObj_heap_other (k := E) (r := D) fun e => hm ms e1 (e ▸ hE)).trans (e3 E hE).1, (e3 E hE).2⟩⟩
theorem Mem.base {F F' : Fr} (h : Mem sz w0 F V μ ω box row w) (h1 : VLe F'.V F.V) (h2 : ∀ p, p.block < w0.heap.size → F.V p = F'.V p) : Mem sz w0 F' V μ ω box row w :=
  ⟨h.below, h.vok, fun p v hp => h.vle p v (h1 p v hp), fun p hp => (h.vold p hp).trans (h2 p hp), h.bl, h.hbox, h.rl, h.hrow, h.uniq, h.new, h.vmut⟩
theorem Mem.rebase {F F' : Fr} (h : Mem sz w0 F V μ ω box row w) (h1 : F'.V = V) : Mem sz w0 F' V μ ω box row w :=
  ⟨h.below, h.vok, by rw [h1]; exact fun _ _ h => h, fun p _ => by rw [h1], h.bl, h.hbox, h.rl, h.hrow, h.uniq, h.new, h.vmut⟩
def putPs : List Nat → List D → List (Nat × D) → (List (Nat × D) → Prop) → Prop
  | p :: ps, x :: xs, env, K => x.force fun x => putPs ps xs ((p, x) :: env) K
  | [], [], env, K => K env
  | _, _, _, _ => False
def cutE (n : Nat) : List (Nat × D) → (List (Nat × D) → Prop) → Prop
  | [], K => K []
  | (t, d) :: r, K => match Nat.blt t n with | true => cutE n r fun r => K ((t, d) :: r) | false => cutE n r K
def inRoundK (ps : List Nat) (x : List D) (s : St) (K : St → Prop) : Prop :=
  match s with
  | ⟨env, box, row, n⟩ => shE n env fun env2 => cutE n env fun env1 => catK env1 env2 fun env2 => putPs ps x env2 fun env2 => K ⟨env2, box, row, n⟩
def offRoundK (s : St) (K : St → Prop) : Prop := match s with | ⟨env, box, row, n⟩ => unE n env fun env => K ⟨env, box, row, n⟩
theorem cutE_eq (n : Nat) : ∀ (env : List (Nat × D)) (K : List (Nat × D) → Prop), cutE n env K → K (env.filter fun x => x.1 < n)
  | [], K, h => h
  | (t, d) :: r, K, h => by
    unfold cutE at h
    split at h
    · rename_i hb
      have := cutE_eq n r _ h
      rw [List.filter_cons_of_pos (by simpa using blt_true hb)]
      exact this
    · rename_i hb
      have := cutE_eq n r _ h
      rw [List.filter_cons_of_neg (by
        simp only [decide_eq_true_eq]
        intro hlt
        have : Nat.blt t n = true := by unfold Nat.blt; rw [Nat.ble_eq]; exact hlt
        rw [hb] at this
        cases this)]
      exact this
theorem look_filter (env : List (Nat × D)) (n t : Nat) : look (env.filter fun x => x.1 < n) t = if t < n then look env t else .u := by
  induction env with
  | nil => simp [look]
  | cons x r ih =>
    obtain ⟨k, d⟩ := x
    by_cases hk : k < n
    · rw [List.filter_cons_of_pos (by simpa using hk)]
      unfold look
      cases hb : Nat.beq k t with
      | true =>
        have := beq_nat_true hb
        subst this
        rw [if_pos hk]
      | false => exact ih
    · rw [List.filter_cons_of_neg (by simpa using hk), ih]
      split
      · rename_i ht
        show look r t = (match Nat.beq k t with | true => d | false => look r t)
        cases hb : Nat.beq k t with
        | true => have := beq_nat_true hb; omega
        | false => rfl
      · rfl
theorem putPs_sound {F : Fr} {n : Nat} : ∀ (ps : List Nat) (x : List D) (env : List (Nat × D)) (a : Act) (vs : List Value) (K : List (Nat × D) → Prop), (∀ p ∈ ps, p < n) → a.tmps.size = n → vs.length = x.length → (∀ (j : Nat) v d, vs[j]? = some v → x[j]? = some d → RS sz V μ ω v d) →
    (∀ t, RS sz V μ ω (slotV F n a t) (look env t)) → putPs ps x env K →
    ∃ env', K env' ∧ (List.foldl (fun tmps (x : Nat × Value) => tmps.setIfInBounds x.1 x.2) a.tmps (ps.zip vs)).size = n ∧ ∀ t, RS sz V μ ω (slotV F n { a with tmps := List.foldl (fun tmps (x : Nat × Value) => tmps.setIfInBounds x.1 x.2) a.tmps (ps.zip vs) } t) (look env' t)
  | [], [], env, a, vs, K, _, hn, hl, _, he, h => by
    obtain rfl : vs = [] := List.eq_nil_of_length_eq_zero hl
    exact ⟨env, h, by simpa using hn, by simpa using he⟩
  | [], _ :: _, _, _, _, _, _, _, _, _, _, h => h.elim
  | _ :: _, [], _, _, _, _, _, _, _, _, _, h => h.elim
  | p :: ps, d :: x, env, a, v :: vs, K, hp, hn, hl, hR, he, h => by
    simp only [putPs, D.force_eq] at h
    exact putPs_sound ps x ((p, d) :: env) (a.put (some p) v) vs K (fun q hq => hp q (by simp [hq])) (by simpa [Act.put] using hn) (by simpa using hl) (fun j u e h1 h2 => hR (j + 1) u e (by simpa using h1) (by simpa using h2))
      (fun t => look_put hn (hp p (by simp)) (hR 0 v d rfl rfl) he) h
  | _ :: _, _ :: _, _, _, [], _, _, _, hl, _, _, _ => by simp at hl
theorem zip_fold (ps : Array Tmp) (vs : List Value) (A : Array Value) : (ps.zip vs.toArray).foldl (fun tmps (t, a) => tmps.setIfInBounds t a) A = List.foldl (fun tmps (x : Nat × Value) => tmps.setIfInBounds x.1 x.2) A (ps.toList.zip vs) := by
  obtain ⟨ps⟩ := ps
  simp [List.zip_toArray]
theorem look_round {env : List (Nat × D)} {n : Nat} {F F' : Fr} {a : Act} (he : ∀ t, RS sz V μ ω (slotV F n a t) (look env t)) (hF : ∀ t, F'.gv t = slotV F n a (t - n)) (ds : List Deferred) :
    ∀ t, RS sz V μ ω (slotV F' n { tmps := a.tmps, defers := ds } t) (look (env.filter (fun x => x.1 < n) ++ env.map fun x => (x.1 + n, x.2)) t) := by
  intro t
  by_cases ht : t < n
  · have h1 := he t
    unfold slotV at h1 ⊢
    rw [if_pos ht] at h1 ⊢
    have h2 : look (env.filter (fun x => x.1 < n) ++ env.map fun x => (x.1 + n, x.2)) t = look env t := by
      by_cases hx : ∃ x ∈ env.filter (fun x => x.1 < n), x.1 = t
      · rw [look_append_in _ _ _ hx, look_filter, if_pos ht]
      · rw [look_append _ _ _ (fun x hm e => hx ⟨x, hm, e⟩), look_shift_lt _ _ _ ht]
        have h3 := look_filter env n t
        rw [if_pos ht] at h3
        rw [← h3]
        have : ∀ l : List (Nat × D), (¬ ∃ x ∈ l, x.1 = t) → look l t = .u := by
          intro l
          induction l with
          | nil => intro _; rfl
          | cons y r ih =>
            intro hno
            unfold look
            cases hb : Nat.beq y.1 t with
            | true => exact absurd ⟨y, by simp, beq_nat_true hb⟩ hno
            | false => exact ih fun ⟨x, hm, e⟩ => hno ⟨x, by simp [hm], e⟩
        rw [this _ hx]
    rw [h2]
    exact h1
  · unfold slotV
    rw [if_neg ht, hF]
    rw [look_append _ _ _ (fun x hm => by
      have := (List.mem_filter.1 hm).2
      simp only [decide_eq_true_eq] at this
      omega)]
    have e2 : t = (t - n) + n := by omega
    rw [e2, look_shift, ← e2]
    exact he (t - n)
end
end Go.Vx
namespace Go.Vx
open Go.RowKit
theorem mkD_inj {l m : List Nat} (h : l.map mkD = m.map mkD) : l = m := by
  induction l generalizing m with
  | nil => cases m with
    | nil => rfl
    | cons _ _ => simp at h
  | cons x l ih => cases m with
    | nil => simp at h
    | cons y m =>
      simp only [List.map_cons, List.cons.injEq] at h
      obtain ⟨h1, h2⟩ := h
      simp only [mkD, Deferred.mk.injEq, Target.collected.injEq, and_true] at h1
      rw [h1, ih h2]
section
variable {P : Program} {T : Tab} {G : FuncId → Prop} {Q : Exit → St → Prop}
def rndQ (P : Program) (G : FuncId → Prop) (Q : Exit → St → Prop) (L : List Nat) (nr nb : Nat) (s1 : St) (p : Prop) : Exit → St → Prop
  | .normal, s' => p ∧ offRoundK s' fun s' => keepK L nr nb s' (· = s1)
  | .ret, s' => offRoundK s' (Q .ret)
  | .exit id, s' => offRoundK s' (Q (.exit id))
  | .panic c, s' => (∀ fn, G fn → (P.funcs[fn]?).isSome = true) ∧ offRoundK s' (Q (.panic c))
  | _, _ => False
theorem RS.fn_ {sz : TypeId → Nat} {V : Vw} {μ : List Nat} {ω : List Value} {v : Value} {f : FuncId} {cap : List D} (h : RS sz V μ ω v (.fn f [] cap)) : ∃ us : Array Value, v = .func (.func f) #[] us ∧ us.size = cap.length ∧ ∀ (j : Nat) v d, us[j]? = some v → cap[j]? = some d → RI sz V v d := by
  cases h with
  | imm _ _ h =>
    cases h with
    | fn f first cap vs us h1 h2 hR1 hR2 =>
      obtain rfl : vs = #[] := Array.eq_empty_of_size_eq_zero h1
      exact ⟨us, rfl, h2, hR2⟩
theorem Sim.offRound {sz : TypeId → Nat} {w0 w : World} {V0 V V' : Vw} {gv : Nat → Value} {df : List Deferred} {kp : List (Nat × Obj)} {F : Fr} {μ : List Nat} {ω : List Value} {a a' : Act} {n : Nat} {x : Nat × Obj} {msA : List Nat} {s' : St} {K : St → Prop}
    (h : Sim sz w0 F V' μ ω s' a w) (hF : F.V = V) (hg : ∀ t, F.gv t = slotV ⟨V0, gv, df, kp⟩ n a' (t - n)) {E : List (Nat × Obj)} (hk : F.kp = x :: (kp ++ keptOf msA ++ E)) (hV : VLe V0 V) (hVo : ∀ p, p.block < w0.heap.size → V p = V0 p) (hn : a'.tmps.size = n)
    (hd : a'.defers = msA.map mkD ++ df) (hm1 : msA.Nodup) (hm2 : ∀ D ∈ msA, w0.heap.size ≤ D ∧ (∀ y ∈ kp, y.1 ≠ D) ∧ x.1 ≠ D) (hn2 : s'.n = n) (hK : offRoundK s' K) :
    ∃ s2, K s2 ∧ s2.n = n ∧ Sim sz w0 ⟨V0, gv, df, x :: kp⟩ V' μ ω s2 a' w := by
  obtain ⟨env, box, row, m⟩ := s'
  dsimp only at hn2
  subst hn2
  simp only [offRoundK, unE_eq] at hK
  refine ⟨_, hK, rfl, hn, ⟨⟨msA, hd, hm1, fun D hD => ⟨?_, (hm2 D hD).1, fun y hy => ?_⟩⟩, fun y hy => h.defers.kept y ?_⟩, fun t => ?_, h.mem.base (by rw [hF]; exact hV) (by rw [hF]; exact hVo)⟩
  · exact (h.defers.kept (D, .deferred (some [])) (by rw [hk]; exact List.mem_cons_of_mem _ (List.mem_append_left _ (List.mem_append_right _ (List.mem_map.2 ⟨D, hD, rfl⟩))))).1
  · rcases List.mem_cons.1 hy with rfl | hy
    · exact (hm2 D hD).2.2
    · exact (hm2 D hD).2.1 y hy
  · rw [hk]
    rcases List.mem_cons.1 hy with rfl | hy
    · simp
    · exact List.mem_cons_of_mem _ (List.mem_append_left _ (List.mem_append_left _ hy))
  · have := h.env (t + m)
    unfold slotV at this
    dsimp only at this
    rw [if_neg (by omega), hg] at this
    dsimp only
    rw [look_unEF]
    have e3 : t + m - m = t := by omega
    rw [e3] at this
    exact this
theorem range_sound {s : St} {g : Operand} {ps : Array Tmp} {assign body : Code} {f : FuncId} {cap : List D} {xs : List (List D)} {n : Nat} (L : List Nat) (nr nb : Nat) (mk : Nat → St) (I : Nat → Prop) (hI : I 0) (hs : keepK L nr nb s (· = mk 0)) (hg : (mk 0).get g = .fn f [] cap)
    (hY : YSpecI P T f cap xs I) (hmk : ∀ k, (mk k).n = n) (hps : ∀ p ∈ ps.toList, p < n)
    (round : ∀ (k : Nat) x, xs[k]? = some x → I k → x.length = ps.size ∧ inRoundK ps.toList x (mk k) fun s1 => OkR P T assign (thenQ (fun s2 => OkR P T body (fun e s3 => s3.n = n ∧ rndQ P G Q L nr nb (mk (k + 1)) (I (k + 1)) e s3) s2) (fun _ _ => False)) s1)
    (done : I xs.length → Q .normal (mk xs.length)) {w0 : World} {V0 : Fr} {V : Vw} {μ : List Nat} {ω : List Value} {a : Act} {w : World} (hS : Sim (szOf T) w0 V0 V μ ω s a w) :
    wpG P G (.rangeFunc g ps assign body) (fun e a' w' => ∃ s' V' μ' ω', Q e s' ∧ Sim (szOf T) w0 V0 V' μ' ω' s' a' w') a w := by
  obtain ⟨_, μ, ω, rfl, hS⟩ := keepK_sound hS hs
  clear hs
  obtain ⟨V00, gv, df, kp⟩ := V0
  refine wpG_rangeFunc ?_
  intro fn hfn
  obtain ⟨rec, hrec⟩ : ∃ rec : LoopState → Option Code → Loop, rec = fun st pe => { state := st, pending := pe, fn, tmps := a.tmps, params := ps, assign, body, defers := w.heap.size } := ⟨_, rfl⟩
  obtain ⟨W1, hW1⟩ : ∃ W1, (w.alloc (.deferred (some []))).alloc (.loop (rec .ready none)) = W1 := ⟨_, rfl⟩
  obtain ⟨a', ha'⟩ : ∃ a' : Act, a' = { a with defers := mkD w.heap.size :: a.defers } := ⟨_, rfl⟩
  obtain ⟨l, hl⟩ : ∃ l, l = w.heap.size + 1 := ⟨_, rfl⟩
  have hL1 : W1.heap[l]? = some (.loop (rec .ready none)) := by
    rw [← hW1, hl]; have := World.alloc_heap_new (w.alloc (.deferred (some []))) (.loop (rec .ready none)); rwa [World.size_alloc] at this
  have hK1 : W1.heap[w.heap.size]? = some (.deferred (some [])) := by
    rw [← hW1]; exact (Below.heap_alloc _ _ _ (by simp)).trans (World.alloc_heap_new w _)
  have hx1 : Ext w W1 := by
    rw [← hW1]; exact (Ext.alloc w _).trans (Ext.alloc _ _)
  obtain ⟨ms0, e1, e2, e3⟩ := hS.defers.marks
  have hsz0 := hS.mem.below.size
  have hkl : ∀ x ∈ kp, x.1 < w.heap.size := fun x hx => (Array.getElem?_eq_some_iff.1 (hS.defers.kept x hx).1).1
  have hml : ∀ D ∈ ms0, D < w.heap.size := fun D hD => (Array.getElem?_eq_some_iff.1 (e3 D hD).1).1
  obtain ⟨msA, hmsA⟩ : ∃ msA, msA = w.heap.size :: ms0 := ⟨_, rfl⟩
  have hda : a'.defers = msA.map mkD ++ df := by rw [ha', hmsA]; simp [e1]
  have hmn : msA.Nodup := by rw [hmsA]; exact List.nodup_cons.2 ⟨fun h => by have := hml _ h; omega, e2⟩
  have hm2 : ∀ D ∈ msA, w0.heap.size ≤ D ∧ (∀ y ∈ kp, y.1 ≠ D) ∧ l ≠ D := by
    intro D hD
    rw [hmsA] at hD
    rcases List.mem_cons.1 hD with rfl | hD
    · exact ⟨hsz0, fun y hy e => by have := hkl y hy; omega, by omega⟩
    · exact ⟨(e3 D hD).2.1, (e3 D hD).2.2, by have := hml D hD; omega⟩
  have hlk : ∀ x ∈ kp, x.1 ≠ l := fun x hx => by have := hkl x hx; omega
  have htm : a'.tmps = a.tmps := by rw [ha']
  have hns : a'.tmps.size = n := by rw [htm, hS.tmps, hmk]
  have noL : ∀ r, noC (.loop r) := fun r _ _ _ e => by cases e
  have hS1 : Sim (szOf T) w0 ⟨V00, gv, df, (l, .loop (rec .ready none)) :: kp⟩ V μ ω (mk 0) a' W1 := by
    have h := hS.ext hx1
    refine ⟨by rw [htm]; exact h.tmps, ⟨⟨msA, hda, hmn, fun D hD => ⟨?_, (hm2 D hD).1, fun x hx => ?_⟩⟩, fun x hx => ?_⟩, fun t => ?_, h.mem.fr rfl⟩
    · rw [hmsA] at hD
      rcases List.mem_cons.1 hD with rfl | hD
      · exact hK1
      · exact hx1.heap (e3 D hD).1
    · rcases List.mem_cons.1 hx with rfl | hx
      · exact (hm2 D hD).2.2
      · exact (hm2 D hD).2.1 x hx
    · rcases List.mem_cons.1 hx with rfl | hx
      · exact ⟨hL1, noL _, by show w0.heap.size ≤ l; omega⟩
      · exact h.defers.kept x hx
    · have := h.env t
      unfold slotV at this ⊢
      rw [htm]
      exact this
  obtain ⟨us, hev, hus, hri⟩ := (by have := hS1.get g; rw [hg] at this; exact this.fn_ : ∃ us : Array Value, a'.eval g = .func (.func f) #[] us ∧ us.size = cap.length ∧ ∀ (j : Nat) v d, us[j]? = some v → cap[j]? = some d → RI (szOf T) V v d)
  have hev : a.eval g = .func (.func f) #[] us := by rw [← hev]; cases g <;> simp [Act.eval, htm]
  obtain ⟨J, hJ⟩ : ∃ J : Option Nat → Vw → World → Prop, J = fun k V W => match k with
    | some k => I k ∧ ∃ μ ω, Sim (szOf T) w0 ⟨V00, gv, df, (l, .loop (rec .ready none)) :: kp⟩ V μ ω (mk k) a' W
    | none => ∃ c s' μ ω, ((c = Code.ret ∧ Q .ret s') ∨ ∃ id, c = Code.exit id ∧ Q (.exit id) s') ∧ Sim (szOf T) w0 ⟨V00, gv, df, (l, .loop (rec .done (some c))) :: kp⟩ V μ ω s' a' W := ⟨_, rfl⟩
  obtain ⟨Jp, hJp⟩ : ∃ Jp : List PanicEntry → World → Prop, Jp = fun c W => ∃ s' V' μ' ω', Q (.panic c) s' ∧ Sim (szOf T) w0 ⟨V00, gv, df, kp⟩ V' μ' ω' s' a' W := ⟨_, rfl⟩
  have hYl : Yields P T l W1.heap.size xs J Jp := by
    have hBl : l < W1.heap.size := (Array.getElem?_eq_some_iff.1 hL1).1
    have hBm : ∀ (D : Nat), W1.heap.size ≤ D → ∀ ms : List Nat, a'.defers = ms.map mkD ++ df → D ∉ ms := fun D hD ms hm hin => by
      rw [hda] at hm
      rw [← mkD_inj (List.append_cancel_right hm), hmsA] at hin
      have hws := hx1.size
      rcases List.mem_cons.1 hin with rfl | hin
      · omega
      · have := hml D hin; omega
    have hBk : ∀ (D : Nat), W1.heap.size ≤ D → ∀ (r : Loop), ∀ x ∈ ((l, Obj.loop r) :: kp), x.1 ≠ D := fun D hD r x hx e => by
      have hws := hx1.size
      rcases List.mem_cons.1 hx with rfl | hx
      · dsimp only at e; omega
      · have := hkl x hx; omega
    have hB0 : ∀ (D : Nat), W1.heap.size ≤ D → w0.heap.size ≤ D := fun D hD => by have := hx1.size; omega
    refine ⟨fun k V W h => ?_, fun k V W h => ?_, fun k V V' W W' h he hV hok hn => ?_, fun k V W D h hD hh => ?_, fun c W D h hD hh => ?_, fun k x V W vs hx h hvl hvr E hE => ?_⟩
    · subst hJ
      cases k with
      | some k => obtain ⟨_, μ, ω, h⟩ := h; exact h.mem.vok
      | none => obtain ⟨c, s', μ, ω, _, h⟩ := h; exact h.mem.vok
    · subst hJ
      have hBs : W1.heap.size = l + 1 := by rw [← hW1, hl]; simp
      have key : ∀ {r : Loop} {W : World}, W.heap[l]? = some (.loop r) → W1.heap.size ≤ W.heap.size := fun h => by have := (Array.getElem?_eq_some_iff.1 h).1; omega
      cases k with
      | some k => obtain ⟨_, μ, ω, h⟩ := h; exact key (h.defers.kept _ (List.mem_cons_self)).1
      | none => obtain ⟨c, s', μ, ω, _, h⟩ := h; exact key (h.defers.kept _ (List.mem_cons_self)).1
    · subst hJ
      cases k with
      | some k => obtain ⟨hik, μ, ω, h⟩ := h; exact ⟨hik, μ, ω, h.grow he hV hok hn⟩
      | none => obtain ⟨c, s', μ, ω, hc, h⟩ := h; exact ⟨c, s', μ, ω, hc, h.grow he hV hok hn⟩
    · subst hJ
      cases k with
      | some k => obtain ⟨hik, μ, ω, h⟩ := h; exact ⟨hik, μ, ω, h.putOld _ hh (fun _ _ _ e => by cases e) (hB0 D hD) (hBk D hD _) (hBm D hD)⟩
      | none => obtain ⟨c, s', μ, ω, hc, h⟩ := h; exact ⟨c, s', μ, ω, hc, h.putOld _ hh (fun _ _ _ e => by cases e) (hB0 D hD) (hBk D hD _) (hBm D hD)⟩
    · subst hJp
      obtain ⟨s', V', μ', ω', hq, h⟩ := h
      exact ⟨s', V', μ', ω', hq, h.putOld _ hh (fun _ _ _ e => by cases e) (hB0 D hD) (fun x hx => hBk D hD (rec .ready none) x (List.mem_cons_of_mem _ hx)) (hBm D hD)⟩
    · have h' : I k ∧ ∃ μ ω, Sim (szOf T) w0 ⟨V00, gv, df, (l, .loop (rec .ready none)) :: kp⟩ V μ ω (mk k) a' W := by rw [hJ] at h; exact h
      obtain ⟨hik, μ, ω, hS⟩ := h'
      obtain ⟨hxl, hround⟩ := round k x hx hik
      have hlW := (hS.defers.kept (l, .loop (rec .ready none)) (by simp)).1
      have hy := run_yield (P := P) (args := vs.toArray) hlW (by rw [hrec]; simp [hvl, hxl])
      rw [hrec] at hy
      rw [zip_fold] at hy
      refine ⟨fn, _, assign, body, hy, ?_⟩
      clear hy
      have hV0 : VLe V00 V := hS.mem.vle
      have hVo : ∀ p, p.block < w0.heap.size → V p = V00 p := hS.mem.vold
      obtain ⟨gv2, hgv2⟩ : ∃ gv2 : Nat → Value, gv2 = fun t => slotV ⟨V00, gv, df, kp⟩ n a' (t - n) := ⟨_, rfl⟩
      obtain ⟨R2, hR2⟩ : ∃ R2, R2 = kp ++ keptOf msA ++ E := ⟨_, rfl⟩
      have hRk : ∀ x ∈ R2, x.1 ≠ l := fun x hx => by
        rw [hR2] at hx
        rcases List.mem_append.1 hx with hx | hx
        · rcases List.mem_append.1 hx with hx | hx
          · exact hlk x hx
          · obtain ⟨D, hD, rfl⟩ := List.mem_map.1 hx; exact fun e => (hm2 D hD).2.2 e.symm
        · have := (hE x hx).1
          have := (Array.getElem?_eq_some_iff.1 hL1).1
          omega
      have hmk' := hmk k
      obtain ⟨env, box, row, n', hmkk⟩ : ∃ env box row n', mk k = ⟨env, box, row, n'⟩ := ⟨_, _, _, _, rfl⟩
      rw [hmkk] at hround hS hmk'
      dsimp only at hmk'
      subst hmk'
      simp only [inRoundK, shE_eq] at hround
      have hround := cutE_eq _ _ _ hround
      rw [catK_eq] at hround
      obtain ⟨env', hk, hsz', henv'⟩ := putPs_sound (F := ⟨V, gv2, [], (l, .loop (rec .ready none)) :: R2⟩) (μ := μ) (ω := ω) ps.toList x _ { tmps := a.tmps, defers := [] } vs _ hps (by rw [← htm]; exact hns) hvl (fun j v d h1 h2 => .imm _ _ (hvr j v d h1 h2))
        (by rw [← htm]; exact look_round hS.env (fun t => by rw [hgv2]; rfl) []) hround
      have hmarks : ∀ D ∈ msA, W.heap[D]? = some (.deferred (some [])) := by
        obtain ⟨ms', f1, f2, f3⟩ := hS.defers.marks
        have f1 : a'.defers = ms'.map mkD ++ df := f1
        rw [hda] at f1
        have := mkD_inj (List.append_cancel_right f1)
        rw [this]
        exact fun D hD => (f3 D hD).1
      have hSr : Sim (szOf T) w0 ⟨V, gv2, [], (l, .loop (rec .ready none)) :: R2⟩ V μ ω ⟨env', box, row, n'⟩ { tmps := List.foldl (fun tmps (x : Nat × Value) => tmps.setIfInBounds x.1 x.2) a.tmps (ps.toList.zip vs), defers := [] } W := by
        refine ⟨hsz', ⟨⟨[], rfl, List.nodup_nil, by simp⟩, fun x hx => ?_⟩, henv', hS.mem.rebase rfl⟩
        rcases List.mem_cons.1 hx with rfl | hx
        · exact hS.defers.kept _ (by simp)
        · rw [hR2] at hx
          rcases List.mem_append.1 hx with hx | hx
          · rcases List.mem_append.1 hx with hx | hx
            · exact hS.defers.kept _ (List.mem_cons_of_mem _ hx)
            · obtain ⟨D, hD, rfl⟩ := List.mem_map.1 hx
              exact ⟨hmarks D hD, (fun _ _ _ e => by cases e), (hm2 D hD).1⟩
          · have := hx1.size
            exact ⟨(hE x hx).2.1, (hE x hx).2.2, by have := (hE x hx).1; omega⟩
      have keepE : ∀ {r : Loop} {V' : Vw} {μ' : List Nat} {ω' : List Value} {s3 : St} {a3 : Act} {W3 : World}, Sim (szOf T) w0 ⟨V, gv2, [], (l, .loop r) :: R2⟩ V' μ' ω' s3 a3 W3 → ∀ x ∈ E, W3.heap[x.1]? = some x.2 := fun h x hx =>
        (h.defers.kept x (List.mem_cons_of_mem _ (by rw [hR2]; exact List.mem_append_right _ hx))).1
      have back : ∀ {r : Loop} {V' : Vw} {μ' : List Nat} {ω' : List Value} {s3 : St} {a3 : Act} {W3 : World} {K : St → Prop}, Sim (szOf T) w0 ⟨V, gv2, [], (l, .loop r) :: R2⟩ V' μ' ω' s3 a3 W3 → s3.n = n' → offRoundK s3 K →
          ∃ s2, K s2 ∧ s2.n = n' ∧ Sim (szOf T) w0 ⟨V00, gv, df, (l, .loop r) :: kp⟩ V' μ' ω' s2 a' W3 := fun h hn hK =>
        h.offRound rfl (fun t => by rw [hgv2]) (by rw [hR2]) hV0 hVo hns hda hmn (fun D hD => hm2 D hD) hn hK
      refine roundIn_of (wpIn_mono (hk.run l w0 _ V μ ω _ W hSr) ?_)
      rintro e a1 W1' ⟨s2, V2, μ2, ω2, hq, hS2⟩
      cases e with
      | normal =>
        have hl2 := (hS2.defers.kept (l, .loop (rec .ready none)) (by simp)).1
        have hS3 := hS2.turn (.loop { rec .ready none with state := .busy }) hRk (noL _)
        refine ⟨_, run_beginRound hl2 (by rw [hrec]), wpIn_mono (OkR.run hq l w0 _ V2 μ2 ω2 a1 _ hS3) ?_⟩
        rintro e a2 W2 ⟨s3, V3, μ3, ω3, ⟨hn3, hq3⟩, hS4⟩
        have hl4 := (hS4.defers.kept (l, .loop { rec .ready none with state := .busy }) (by simp)).1
        cases e with
        | normal =>
          obtain ⟨hik1, hq3⟩ := hq3
          have hq3 : offRoundK s3 (fun s' => keepK L nr nb s' (· = mk (k + 1))) := hq3
          have hS5 := hS4.turn (.loop (rec .ready none)) hRk (noL _)
          obtain ⟨s4, hk4, _, hS6⟩ := back hS5 hn3 hq3
          obtain ⟨_, μ5, ω5, rfl, hS7⟩ := keepK_sound hS6 hk4
          refine ⟨_, W2.putObj l (.loop (rec .ready none)), by have := run_endRound (P := P) none hl4; rw [hrec] at this ⊢; exact this, keepE hS5, .inl ⟨V3, hS4.mem.vle, .inl ⟨rfl, ?_⟩⟩⟩
          rw [hJ]
          exact ⟨hik1, μ5, ω5, hS7⟩
        | ret =>
          have hq3 : offRoundK s3 (Q .ret) := hq3
          have hS5 := hS4.turn (.loop (rec .done (some .ret))) hRk (noL _)
          obtain ⟨s4, hk4, _, hS6⟩ := back hS5 hn3 hq3
          refine ⟨_, W2.putObj l (.loop (rec .done (some .ret))), by have := run_endRound (P := P) (some .ret) hl4; rw [hrec] at this ⊢; exact this, keepE hS5, .inl ⟨V3, hS4.mem.vle, .inr ⟨rfl, ?_⟩⟩⟩
          rw [hJ]
          exact ⟨_, s4, μ3, ω3, .inl ⟨rfl, hk4⟩, hS6⟩
        | exit id =>
          have hq3 : offRoundK s3 (Q (.exit id)) := hq3
          have hS5 := hS4.turn (.loop (rec .done (some (.exit id)))) hRk (noL _)
          obtain ⟨s4, hk4, _, hS6⟩ := back hS5 hn3 hq3
          refine ⟨_, W2.putObj l (.loop (rec .done (some (.exit id)))), by have := run_endRound (P := P) (some (.exit id)) hl4; rw [hrec] at this ⊢; exact this, keepE hS5, .inl ⟨V3, hS4.mem.vle, .inr ⟨rfl, ?_⟩⟩⟩
          rw [hJ]
          exact ⟨_, s4, μ3, ω3, .inr ⟨id, rfl, hk4⟩, hS6⟩
        | panic c =>
          obtain ⟨hval, hq3⟩ := hq3
          obtain ⟨fn', hfn'⟩ := Option.isSome_iff_exists.1 (hval fn hfn)
          obtain ⟨ms2, f1, f2, f3, hS5⟩ := hS4.shut
          obtain ⟨s4, hk4, _, hS6⟩ := back hS5 hn3 hq3
          refine ⟨fn', hfn', ?_⟩
          rw [f1]
          refine leavesX_marks (by simp) ms2 W2 f2 f3 ⟨rfl, keepE hS5, .inr ⟨c, rfl, ?_⟩⟩
          rw [hJp]
          exact ⟨s4, V3, μ3, ω3, hk4, hS6.unkeep⟩
        | goto t => exact hq3.elim
        | outgrown => exact hq3.elim
      | _ => exact hq.elim
  refine ⟨l, [mkD w.heap.size], W1, { target := .fn (.func f) us, args := #[.func (.yield l) #[] #[]] }, W1, f, #[.func (.yield l) #[] #[]] ++ us, W1, ?_, ?_, ?_, ?_⟩
  · rw [← hW1, hrec, hl]; exact run_enterLoop_outer _ _ _ _ _
  · simp only [resolve, hev]
    simp [go_sem]
  · simp [invoke, go_sem, hY.call]
  · refine (hY.run V W1 us hus hri l J Jp hYl (fun k V W h => by rw [hJ] at h; exact h.1) (by rw [hJ]; exact ⟨hI, μ, ω, hS1⟩)).mono ?_
    have haa : ({ a with defers := [mkD w.heap.size] ++ a.defers } : Act) = a' := by rw [ha']; rfl
    rw [haa]
    rintro e w' (⟨⟨v, rfl⟩, V', h⟩ | ⟨c, rfl, h⟩)
    · rw [hJ] at h
      rcases h with ⟨hik, μ', ω', hS'⟩ | ⟨c, s', μ', ω', hc, hS'⟩
      · have hl' := (hS'.defers.kept (l, .loop (rec .ready none)) (by simp)).1
        refine ⟨none, _, by have := run_endLoop (P := P) hl' (by rw [hrec]; simp); rw [hrec] at this; exact this, ?_⟩
        exact ⟨_, V', μ', ω', done hik, (hS'.turn _ hlk (noL _)).unkeep⟩
      · have hl' := (hS'.defers.kept (l, .loop (rec .done (some c))) (by simp)).1
        refine ⟨some c, _, by have := run_endLoop (P := P) hl' (by rw [hrec]; simp); rw [hrec] at this; exact this, ?_⟩
        have hS2 := (hS'.turn (.loop { rec .done (some c) with state := .exhausted }) hlk (noL _)).unkeep
        rw [hrec] at hS2
        rcases hc with ⟨rfl, hq⟩ | ⟨id, rfl, hq⟩
        · exact wpG_of (wp_ret ⟨_, V', μ', ω', hq, hS2⟩)
        · exact wpG_of (wp_exit ⟨_, V', μ', ω', hq, hS2⟩)
    · rw [hJp] at h
      obtain ⟨s', V', μ', ω', hq, hS'⟩ := h
      exact ⟨s', V', μ', ω', hq, hS'⟩
end
end Go.Vx
namespace Go.Vx
open Go.RowKit
section
variable {P : Program} {T : Tab} {G : FuncId → Prop} {Q : Exit → St → Prop} {s : St}
theorem Ok.rangeI {g : Operand} {ps : Array Tmp} {assign body : Code} {f : FuncId} {cap : List D} {xs : List (List D)} {n : Nat} (L : List Nat) (nr nb : Nat) (mk : Nat → St) (I : Nat → Prop) (hI : I 0) (hs : keepK L nr nb s (· = mk 0)) (hg : (mk 0).get g = .fn f [] cap)
    (hY : YSpecI P T f cap xs I) (hmk : ∀ k, (mk k).n = n) (hps : ∀ p ∈ ps.toList, p < n)
    (round : ∀ (k : Nat) x, xs[k]? = some x → I k → x.length = ps.size ∧ inRoundK ps.toList x (mk k) fun s1 => OkR P T assign (thenQ (fun s2 => OkR P T body (fun e s3 => s3.n = n ∧ rndQ P (fun _ => True) Q L nr nb (mk (k + 1)) (I (k + 1)) e s3) s2) (fun _ _ => False)) s1)
    (done : I xs.length → Q .normal (mk xs.length)) : Ok P T (.rangeFunc g ps assign body) Q s :=
  ⟨fun _ _ _ _ _ _ _ hS => wp_of_G (range_sound L nr nb mk I hI hs hg hY hmk hps round done hS)⟩
structure OkG (P : Program) (T : Tab) (G : FuncId → Prop) (c : Code) (Q : Exit → St → Prop) (s : St) : Prop where
  run : ∀ (w0 : World) (V0 : Fr) (V : Vw) (μ : List Nat) (ω : List Value) (a : Act) (w : World), Sim (szOf T) w0 V0 V μ ω s a w →
    wpG P G c (fun e a' w' => ∃ s' V' μ' ω', Q e s' ∧ Sim (szOf T) w0 V0 V' μ' ω' s' a' w') a w
theorem OkG.of {c : Code} (h : Ok P T c Q s) : OkG P T G c Q s := ⟨fun w0 V0 V μ ω a w hS => wpG_of (h.run w0 V0 V μ ω a w hS)⟩
theorem OkG.seq {x y : Code} (h : OkG P T G x (thenQ (OkG P T G y Q) Q) s) : OkG P T G (.seq x y) Q s := by
  refine ⟨fun w0 V0 V μ ω a w hS => wpG_seq (wpG_mono (h.run w0 V0 V μ ω a w hS) ?_)⟩
  rintro e a' w' ⟨s', V', μ', ω', hk, hS'⟩
  cases e with
  | normal => exact OkG.run hk w0 V0 V' μ' ω' a' w' hS'
  | _ => exact ⟨s', V', μ', ω', hk, hS'⟩
theorem OkG.block {id : Nat} {c : Code} (h : OkG P T G c (blockQ id Q) s) : OkG P T G (.block id c) Q s := by
  refine ⟨fun w0 V0 V μ ω a w hS => wpG_block (wpG_mono (h.run w0 V0 V μ ω a w hS) ?_)⟩
  rintro e a' w' ⟨s', V', μ', ω', hk, hS'⟩
  cases e with
  | exit id' =>
    simp only [blockQ] at hk
    simp only [Exit.inBlock]
    split at hk
    · rename_i hb
      rw [if_pos (beq_nat_true hb)]
      exact ⟨s', V', μ', ω', hk, hS'⟩
    · rename_i hb
      rw [if_neg (by rintro rfl; rw [Nat.beq_refl] at hb; cases hb)]
      exact ⟨s', V', μ', ω', hk, hS'⟩
  | _ => exact ⟨s', V', μ', ω', hk, hS'⟩
theorem OkG.range {g : Operand} {ps : Array Tmp} {assign body : Code} {f : FuncId} {cap : List D} {xs : List (List D)} {n : Nat} (L : List Nat) (nr nb : Nat) (mk : Nat → St) (I : Nat → Prop) (hI : I 0) (hs : keepK L nr nb s (· = mk 0)) (hg : (mk 0).get g = .fn f [] cap)
    (hY : YSpec P T f cap xs) (hmk : ∀ k, (mk k).n = n) (hps : ∀ p ∈ ps.toList, p < n)
    (round : ∀ (k : Nat) x, xs[k]? = some x → I k → x.length = ps.size ∧ inRoundK ps.toList x (mk k) fun s1 => OkR P T assign (thenQ (fun s2 => OkR P T body (fun e s3 => s3.n = n ∧ rndQ P G Q L nr nb (mk (k + 1)) (I (k + 1)) e s3) s2) (fun _ _ => False)) s1)
    (done : I xs.length → Q .normal (mk xs.length)) : OkG P T G (.rangeFunc g ps assign body) Q s :=
  ⟨fun _ _ _ _ _ _ _ hS => range_sound L nr nb mk I hI hs hg (hY.toI I) hmk hps round done hS⟩
def isFn (P : Program) (f : FuncId) : Prop := (P.funcs[f]?).isSome = true
theorem FSpec.of_okG (hT : TOk P T) {f : FuncId} {fn : Func} {c : Code} (hf : P.funcs[f]? = some fn) (hb : fn.body = some c) (hcall : ∀ args w, (callFunc f args).run P w = .ok (.enter f args) w) {ds : List D} {R : D → Rows → Prop} (hn : ds.length ≤ fn.ntmps)
    (h : OkG P T (isFn P) c (endQ T fn R) ⟨envOf 0 ds, [], [], fn.ntmps⟩) : FSpec P T f ds R := by
  refine ⟨hcall, fun V w args hV hl hR => calls_of_wpG hf hb (G := isFn P) (by unfold isFn; rw [hf]; rfl) ?_⟩
  refine wpG_mono (h.run w ⟨V, fun _ => undef, [], []⟩ V [] [] _ w (start_sim hn hV hl hR)) ?_
  rintro e a' w' ⟨s', V', μ', ω', hq, hS'⟩
  have fin : retK T fn R s' → LeavesX P fn a'.tmps (fun e w' => ∃ V' ω row v' d, e = .returned v' ∧ R d row ∧ RS (szOf T) V' [] ω v' d ∧ Res (szOf T) V V' ω row w w') a'.defers .returning w' := by
    intro hr
    obtain ⟨ms', e1, e2, e3, hS'⟩ := hS'.shut
    rw [e1]
    refine leavesX_marks (by simp) ms' w' e2 e3 ?_
    obtain ⟨v, hv, hr⟩ := retK_leaves (P := P) hT rfl hS' hr
    exact ⟨v, hv, hr⟩
  cases e <;> simp only [endQ] at hq
  · exact fin hq
  · exact fin hq
theorem PSpec.of_okG {f : FuncId} {fn : Func} {c : Code} (hf : P.funcs[f]? = some fn) (hb : fn.body = some c) (hcall : ∀ args w, (callFunc f args).run P w = .ok (.enter f args) w) {ds : List D} {v : Value} (hn : ds.length ≤ fn.ntmps)
    (h : OkG P T (isFn P) c (panQ v) ⟨envOf 0 ds, [], [], fn.ntmps⟩) : PSpec P T f ds v := by
  refine ⟨hcall, fun V w args hV hl hR => calls_of_wpG hf hb (G := isFn P) (by unfold isFn; rw [hf]; rfl) ?_⟩
  refine wpG_mono (h.run w ⟨V, fun _ => undef, [], []⟩ V [] [] _ w (start_sim hn hV hl hR)) ?_
  rintro e a' w' ⟨s', V', μ', ω', hq, hS'⟩
  cases e <;> simp only [panQ] at hq
  subst hq
  obtain ⟨ms', e1, e2, e3, hS'⟩ := hS'.shut
  show LeavesX _ _ _ _ a'.defers _ _
  rw [e1]
  exact leavesX_marks (by simp) ms' w' e2 e3 ⟨rfl, hS'.mem.below⟩
def pbD1 (box : List (List D)) (d : D) (K : D → Prop) : Prop :=
  match d with
  | .bp i off => match box[i]? with | some cs => forceL (cs.drop off) fun cs => K (.ep cs) | none => K .u
  | .own .. => K .u
  | .op .. => K .u
  | .agg cs => match immL cs with | true => K (.agg cs) | false => K .u
  | .tup _ => K .u
  | .fnh .. => K .u
  | d => d.force K
def pbL (box : List (List D)) : List D → (List D → Prop) → Prop
  | [], K => K []
  | d :: r, K => pbD1 box d fun d => pbL box r fun r => K (d :: r)
def pbD (box : List (List D)) (d : D) (K : D → Prop) : Prop :=
  match d with
  | .fnh f x y => pbL box x fun x => pbL box y fun y => K (.fn f x y)
  | d => pbD1 box d K
def pbE (box : List (List D)) : List (Nat × D) → (List (Nat × D) → Prop) → Prop
  | [], K => K []
  | (t, d) :: r, K => pbD box d fun d => pbE box r fun r => K ((t, d) :: r)
def immLL : List (List D) → Bool | [] => true | c :: r => immL c && immLL r
theorem immLL_at : ∀ {l : List (List D)}, immLL l = true → ∀ (i : Nat) c, l[i]? = some c → immL c = true
  | [], _, i, c, h => by simp at h
  | x :: l, hf, i, c, h => by
    simp only [immLL, Bool.and_eq_true] at hf
    cases i with
    | zero => simp at h; subst h; exact hf.1
    | succ i => exact immLL_at hf.2 i c (by simpa using h)
section
variable {sz : TypeId → Nat} {w0 w : World} {V0 : Fr} {V V' : Vw} {μ : List Nat} {ω : List Value} {box : List (List D)} {row : Rows} {a : Act}
theorem RS.fnh_ {v : Value} {f : FuncId} {x y : List D} (h : RS sz V μ ω v (.fnh f x y)) : ∃ vs us : Array Value, v = .func (.func f) vs us ∧ vs.size = x.length ∧ us.size = y.length ∧ (∀ (j : Nat) v d, vs[j]? = some v → x[j]? = some d → RS sz V μ ω v d) ∧
    ∀ (j : Nat) v d, us[j]? = some v → y[j]? = some d → RS sz V μ ω v d := by
  cases h with
  | imm _ _ h => cases h
  | fnh f x y vs us h1 h2 hR1 hR2 => exact ⟨vs, us, rfl, h1, h2, hR1, hR2⟩
theorem pbD1_sound (hM : Mem sz w0 V0 V μ ω box row w) (hi : immLL box = true) (hV : VLe V V') (hp : ∀ (i g : Nat) (off : Nat) v, μ[i]? = some g → w.cell? ⟨g, off, none⟩ = some v → V' ⟨g, off, none⟩ = some v) {d : D} {K : D → Prop} (h : pbD1 box d K) :
    ∃ d', K d' ∧ ∀ v, RS sz V μ ω v d → RI sz V' v d' := by
  unfold pbD1 at h
  split at h
  · rename_i i off
    split at h
    · rename_i cs hcs
      rw [forceL_eq] at h
      refine ⟨_, h, fun v hv => ?_⟩
      obtain ⟨g, hg, rfl⟩ := hv.bp_
      obtain ⟨vs, t, hh, hs, ho, hR, _⟩ := hM.hbox i g cs hg hcs
      refine .ep _ _ (fun j => vs.getD (off + j) undef) (fun j d hd => ?_) fun j d hd => ?_
      · rw [List.getElem?_drop] at hd
        have hlt : off + j < vs.size := by rw [hs]; exact (List.getElem?_eq_some_iff.1 hd).1
        have hvj : vs[off + j]? = some vs[off + j] := Array.getElem?_eq_getElem hlt
        have hadd : (⟨g, off, none⟩ : Addr).add j = ⟨g, off + j, none⟩ := by unfold Addr.add; split <;> simp_all
        rw [hadd]
        have hcell : w.cell? ⟨g, off + j, none⟩ = some vs[off + j] := by rw [cell_of_row w g (off + j) vs t (0, 0) hh, hvj]
        refine ⟨?_, ?_⟩
        · rw [hp i g _ _ hg hcell]
          simp [Array.getD, hlt]
        · rw [show vs.getD (off + j) undef = vs[off + j] by simp [Array.getD, hlt]]
          exact ho _ (by simp)
      · rw [List.getElem?_drop] at hd
        have hlt : off + j < vs.size := by rw [hs]; exact (List.getElem?_eq_some_iff.1 hd).1
        rw [show vs.getD (off + j) undef = vs[off + j] by simp [Array.getD, hlt]]
        exact (imm1_ri (hR _ _ d (Array.getElem?_eq_getElem hlt) hd) (immL_at (immLL_at hi i cs hcs) _ d hd)).mono hV
    · exact ⟨_, h, fun v _ => .u v⟩
  · exact ⟨_, h, fun v _ => .u v⟩
  · exact ⟨_, h, fun v _ => .u v⟩
  · split at h
    · rename_i cs hc
      exact ⟨_, h, fun v hv => (immD_ri hv hc).mono hV⟩
    · exact ⟨_, h, fun v _ => .u v⟩
  · exact ⟨_, h, fun v _ => .u v⟩
  · exact ⟨_, h, fun v _ => .u v⟩
  · rename_i h1 h2 h3 h4 h5 h6
    rw [D.force_eq] at h
    refine ⟨d, h, fun v hv => (imm1_ri hv ?_).mono hV⟩
    cases d <;> first | rfl | (exfalso; first | exact h1 _ _ rfl | exact h2 _ _ rfl | exact h3 _ _ _ _ rfl | exact h4 _ rfl | exact h5 _ rfl | exact h6 _ _ _ rfl)
theorem pbL_sound (hM : Mem sz w0 V0 V μ ω box row w) (hi : immLL box = true) (hV : VLe V V') (hp : ∀ (i g : Nat) (off : Nat) v, μ[i]? = some g → w.cell? ⟨g, off, none⟩ = some v → V' ⟨g, off, none⟩ = some v) : ∀ {l : List D} {K : List D → Prop}, pbL box l K →
    ∃ l', K l' ∧ l'.length = l.length ∧ ∀ (j : Nat) d d' v, l[j]? = some d → l'[j]? = some d' → RS sz V μ ω v d → RI sz V' v d'
  | [], K, h => ⟨[], h, rfl, fun j d d' v h1 => by simp at h1⟩
  | d :: l, K, h => by
    simp only [pbL] at h
    obtain ⟨d', h, hd⟩ := pbD1_sound hM hi hV hp h
    obtain ⟨l', h, hl, hr⟩ := pbL_sound hM hi hV hp h
    refine ⟨d' :: l', h, by simp [hl], fun j e e' v h1 h2 hv => ?_⟩
    cases j with
    | zero => simp at h1 h2; subst h1 h2; exact hd v hv
    | succ j => exact hr j e e' v (by simpa using h1) (by simpa using h2) hv
theorem pbD_sound (hM : Mem sz w0 V0 V μ ω box row w) (hi : immLL box = true) (hV : VLe V V') (hp : ∀ (i g : Nat) (off : Nat) v, μ[i]? = some g → w.cell? ⟨g, off, none⟩ = some v → V' ⟨g, off, none⟩ = some v) {d : D} {K : D → Prop} (h : pbD box d K) :
    ∃ d', K d' ∧ ∀ v, RS sz V μ ω v d → RI sz V' v d' := by
  unfold pbD at h
  split at h
  · obtain ⟨x', h, hx, hxr⟩ := pbL_sound hM hi hV hp h
    obtain ⟨y', h, hy, hyr⟩ := pbL_sound hM hi hV hp h
    refine ⟨_, h, fun v hv => ?_⟩
    obtain ⟨vs, us, rfl, h1, h2, hR1, hR2⟩ := hv.fnh_
    refine .fn _ _ _ vs us (by rw [h1, hx]) (by rw [h2, hy]) (fun j v d' a b => ?_) fun j v d' a b => ?_
    · obtain ⟨hlt, _⟩ := Array.getElem?_eq_some_iff.1 a
      have := List.getElem?_eq_getElem (show j < _ by rw [← h1]; exact hlt)
      exact hxr j _ d' v this b (hR1 j v _ a this)
    · obtain ⟨hlt, _⟩ := Array.getElem?_eq_some_iff.1 a
      have := List.getElem?_eq_getElem (show j < _ by rw [← h2]; exact hlt)
      exact hyr j _ d' v this b (hR2 j v _ a this)
  · exact pbD1_sound hM hi hV hp h
theorem pbE_sound {n : Nat} (hM : Mem sz w0 V0 V μ ω box row w) (hi : immLL box = true) (hV : VLe V V') (hp : ∀ (i g : Nat) (off : Nat) v, μ[i]? = some g → w.cell? ⟨g, off, none⟩ = some v → V' ⟨g, off, none⟩ = some v) : ∀ {env : List (Nat × D)} {K : List (Nat × D) → Prop}, pbE box env K →
    ∃ env', K env' ∧ ∀ t v, RS sz V μ ω v (look env t) → RI sz V' v (look env' t)
  | [], K, h => ⟨[], h, fun t v _ => .u v⟩
  | (k, d) :: env, K, h => by
    simp only [pbE] at h
    obtain ⟨d', h, hd⟩ := pbD_sound hM hi hV hp h
    obtain ⟨env', h, he⟩ := pbE_sound (n := n) hM hi hV hp h
    refine ⟨(k, d') :: env', h, fun t v hv => ?_⟩
    unfold look at hv ⊢
    cases hb : Nat.beq k t with
    | true => rw [hb] at hv; exact hd v hv
    | false => rw [hb] at hv; exact he t v hv
theorem Ok.pubB {c : Code} {env : List (Nat × D)} {box : List (List D)} {row : Rows} {n : Nat} (hi : immLL box = true) (h : pbE box env fun env' => Ok P T c Q ⟨env', [], [], n⟩) : Ok P T c Q ⟨env, box, row, n⟩ := by
  refine ⟨fun w0 V0 V μ ω a w hS => ?_⟩
  have hM := hS.mem
  dsimp only at hM
  classical
  obtain ⟨V', hV'⟩ : ∃ V' : Vw, V' = (fun p => if ∃ i : Nat, μ[i]? = some p.block then w.cell? p else V p : Vw) := ⟨(fun p => if ∃ i : Nat, μ[i]? = some p.block then w.cell? p else V p : Vw), rfl⟩
  have hok : VOk V' w := fun p v hp => by
    rw [hV'] at hp
    dsimp only at hp
    split at hp
    · exact hp
    · exact hM.vok p v hp
  have hle : VLe V V' := fun p v hp => by
    rw [hV']
    dsimp only
    split
    · exact hM.vok p v hp
    · exact hp
  obtain ⟨env', hk, he⟩ := pbE_sound (n := n) hM hi hle (fun i g off v h1 h2 => by rw [hV']; dsimp only; rw [if_pos ⟨i, h1⟩]; exact h2) h
  refine hk.run w0 V0 V' [] [] a w ⟨hS.tmps, hS.defers, fun t => .imm _ _ (he t _ (hS.env t)), ?_⟩
  refine ⟨hM.below, hok, fun p v hp => hle p v (hM.vle p v hp), fun p hp => ?_, rfl, by simp, rfl, by simp, fun l l' g h1 => ?_, fun l g h1 => ?_, fun p u l _ h1 => ?_⟩
  · rw [← hM.vold p hp, hV']
    dsimp only
    rw [if_neg]
    rintro ⟨i, hi⟩
    have := (hM.new (.inl i) p.block hi).1
    omega
  all_goals
    cases l with
    | inl i => simp [Own] at h1
    | inr r => obtain ⟨v, x, h1, _⟩ := h1; simp at h1
end
end
end Go.Vx
namespace Go.Vx
open Go.RowKit
section
variable {P : Program} {T : Tab}
structure PureS (sz : TypeId → Nat) (B : Nat) (V : Vw) (env : List (Nat × D)) (n : Nat) (a : Act) (w : World) : Prop where
  tmps : a.tmps.size = n
  marks : ∃ ms : List Nat, a.defers = ms.map mkD ∧ ms.Nodup ∧ ∀ D ∈ ms, B ≤ D ∧ w.heap[D]? = some (.deferred (some []))
  size : B ≤ w.heap.size
  vok : VOk V w
  env : ∀ t, RS sz V [] [] (slotV ⟨V, fun _ => undef, [], []⟩ n a t) (look env t)
theorem PureS.sim {B : Nat} {V : Vw} {env : List (Nat × D)} {n : Nat} {a : Act} {w : World} (h : PureS (szOf T) B V env n a w) : Sim (szOf T) w ⟨V, fun _ => undef, a.defers, []⟩ V [] [] ⟨env, [], [], n⟩ a w :=
  ⟨h.tmps, .start, h.env, (Mem.start h.vok).fr rfl⟩
def purE : List (Nat × D) → (List (Nat × D) → Prop) → Prop
  | [], K => K []
  | (t, d) :: r, K => match immD d with | true => d.force fun d => purE r fun r => K ((t, d) :: r) | false => purE r fun r => K ((t, .u) :: r)
def purK (n : Nat) (s : St) (K : List (Nat × D) → Prop) : Prop := match s with | ⟨env, _, _, m⟩ => eqN m n <| purE env K
theorem purE_sound {sz : TypeId → Nat} {V : Vw} {μ : List Nat} {ω : List Value} : ∀ {env : List (Nat × D)} {K : List (Nat × D) → Prop}, purE env K → ∃ env', K env' ∧ ∀ t v, RS sz V μ ω v (look env t) → RI sz V v (look env' t)
  | [], K, h => ⟨[], h, fun t v _ => .u v⟩
  | (k, d) :: env, K, h => by
    simp only [purE] at h
    split at h
    · rename_i hd
      rw [D.force_eq] at h
      obtain ⟨env', h, he⟩ := purE_sound (sz := sz) (V := V) (μ := μ) (ω := ω) h
      refine ⟨_, h, fun t v hv => ?_⟩
      unfold look at hv ⊢
      cases hb : Nat.beq k t with
      | true => rw [hb] at hv; exact immD_ri hv hd
      | false => rw [hb] at hv; exact he t v hv
    · obtain ⟨env', h, he⟩ := purE_sound (sz := sz) (V := V) (μ := μ) (ω := ω) h
      refine ⟨_, h, fun t v hv => ?_⟩
      unfold look at hv ⊢
      cases hb : Nat.beq k t with
      | true => exact .u v
      | false => rw [hb] at hv; exact he t v hv
theorem PureS.after {B : Nat} {V V' : Vw} {env : List (Nat × D)} {n : Nat} {a a' : Act} {w w' : World} {μ' : List Nat} {ω' : List Value} {s' : St} {K : List (Nat × D) → Prop} (h : PureS (szOf T) B V env n a w)
    (hS : Sim (szOf T) w ⟨V, fun _ => undef, a.defers, []⟩ V' μ' ω' s' a' w') (hK : purK n s' K) : ∃ env', K env' ∧ PureS (szOf T) B V' env' n a' w' := by
  obtain ⟨env2, box, row, m⟩ := s'
  obtain ⟨hmn, hK2⟩ := eqN_iff hK
  subst hmn
  obtain ⟨env', hk, he⟩ := purE_sound (sz := szOf T) (V := V') (μ := μ') (ω := ω') hK2
  obtain ⟨ms, e1, e2, e3⟩ := h.marks
  obtain ⟨ms', f1, f2, f3⟩ := hS.defers.marks
  have hsz := h.size
  refine ⟨env', hk, hS.tmps, ⟨ms' ++ ms, ?_, ?_, fun D hD => ?_⟩, by have := hS.mem.below.size; omega, hS.mem.vok, fun t => .imm _ _ (he t _ (hS.env t))⟩
  · rw [f1, List.map_append]
    show ms'.map mkD ++ a.defers = _
    rw [e1]
  · refine List.nodup_append.2 ⟨f2, e2, fun x hx y hy e => ?_⟩
    have h1 := (f3 x hx).2.1
    have h2 := (Array.getElem?_eq_some_iff.1 (e3 y hy).2).1
    omega
  · rcases List.mem_append.1 hD with hD | hD
    · exact ⟨by have := (f3 D hD).2.1; omega, (f3 D hD).1⟩
    · exact ⟨(e3 D hD).1, by rw [hS.mem.below.block D (Array.getElem?_eq_some_iff.1 (e3 D hD).2).1]; exact (e3 D hD).2⟩
theorem fresh_of {F : Fr} {V V' : Vw} {μ : List Nat} {ω : List Value} {box : List (List D)} {row : Rows} {w w' : World} {sz : TypeId → Nat} (h : Mem sz w F V' μ ω box row w') (hF : F.V = V) : ∀ p v, V' p = some v → V p = some v ∨ w.heap.size ≤ p.block := by
  intro p v hp
  by_cases hb : p.block < w.heap.size
  · left
    rw [← hF, ← h.vold p hb]
    exact hp
  · right; omega
def yPost (P : Program) (T : Tab) (B : Nat) (J : Option Nat → Vw → World → Prop) (Jp : List PanicEntry → World → Prop) (n : Nat) (Q : Exit → Option Nat → List (Nat × D) → Prop) (e : Exit) (a' : Act) (w' : World) : Prop :=
  (∃ g' env' V', Q e g' env' ∧ J g' V' w' ∧ PureS (szOf T) B V' env' n a' w') ∨
    ∃ ch, e = .panic ch ∧ Jp ch w' ∧ ∃ ms : List Nat, a'.defers = ms.map mkD ∧ ms.Nodup ∧ ∀ D ∈ ms, B ≤ D ∧ w'.heap[D]? = some (.deferred (some []))
structure OkY (P : Program) (T : Tab) (l : Nat) (xs : List (List D)) (n : Nat) (c : Code) (Q : Exit → Option Nat → List (Nat × D) → Prop) (g : Option Nat) (env : List (Nat × D)) : Prop where
  run : ∀ (B : Nat) J Jp, Yields P T l B xs J Jp → ∀ (V : Vw) (a : Act) (w : World), J g V w → PureS (szOf T) B V env n a w → c.wp P (yPost P T B J Jp n Q) a w
variable {l : Nat} {xs : List (List D)} {n : Nat} {Q : Exit → Option Nat → List (Nat × D) → Prop} {g : Option Nat} {env : List (Nat × D)}
theorem OkY.piece {c : Code} (h : Ok P T c (fun e s' => purK n s' fun env' => Q e g env') ⟨env, [], [], n⟩) : OkY P T l xs n c Q g env := by
  refine ⟨fun B J Jp hY V a w hJ hp => wp_mono (h.run w _ V [] [] a w hp.sim) ?_⟩
  rintro e a' w' ⟨s', V', μ', ω', hq, hS⟩
  obtain ⟨env', hk, hp'⟩ := hp.after hS hq
  exact .inl ⟨g, env', V', hk, hY.grow g V V' w w' hJ hS.mem.below hS.mem.vle hS.mem.vok (fresh_of hS.mem rfl), hp'⟩
theorem OkY.mono {c : Code} {Q' : Exit → Option Nat → List (Nat × D) → Prop} (h : OkY P T l xs n c Q g env) (hq : ∀ e g env, Q e g env → Q' e g env) : OkY P T l xs n c Q' g env := by
  refine ⟨fun B J Jp hY V a w hJ hp => wp_mono (h.run B J Jp hY V a w hJ hp) ?_⟩
  rintro e a' w' (⟨g', env', V', hk, h1, h2⟩ | h)
  · exact .inl ⟨g', env', V', hq _ _ _ hk, h1, h2⟩
  · exact .inr h
def thenY (N : Option Nat → List (Nat × D) → Prop) (Q : Exit → Option Nat → List (Nat × D) → Prop) : Exit → Option Nat → List (Nat × D) → Prop
  | .normal, g, env => N g env
  | e, g, env => Q e g env
theorem OkY.seq {x y : Code} (h : OkY P T l xs n x (thenY (OkY P T l xs n y Q) Q) g env) : OkY P T l xs n (.seq x y) Q g env := by
  refine ⟨fun B J Jp hY V a w hJ hp => wp_seq (wp_mono (h.run B J Jp hY V a w hJ hp) ?_)⟩
  rintro e a' w' (⟨g', env', V', hk, h1, h2⟩ | ⟨ch, rfl, h⟩)
  · cases e with
    | normal => exact OkY.run hk B J Jp hY V' a' w' h1 h2
    | _ => exact .inl ⟨g', env', V', hk, h1, h2⟩
  · exact .inr ⟨ch, rfl, h⟩
theorem OkY.skip (h : Q .normal g env) : OkY P T l xs n .skip Q g env := ⟨fun _ _ _ _ V _ _ hJ hp => wp_skip (.inl ⟨g, env, V, h, hJ, hp⟩)⟩
theorem OkY.ret (h : Q .ret g env) : OkY P T l xs n .ret Q g env := ⟨fun _ _ _ _ V _ _ hJ hp => wp_ret (.inl ⟨g, env, V, h, hJ, hp⟩)⟩
theorem OkY.exit {id : Nat} (h : Q (.exit id) g env) : OkY P T l xs n (.exit id) Q g env := ⟨fun _ _ _ _ V _ _ hJ hp => wp_exit (.inl ⟨g, env, V, h, hJ, hp⟩)⟩
def blockY (id : Nat) (Q : Exit → Option Nat → List (Nat × D) → Prop) : Exit → Option Nat → List (Nat × D) → Prop
  | .exit id', g, env => match Nat.beq id' id with | true => Q .normal g env | false => Q (.exit id') g env
  | e, g, env => Q e g env
theorem OkY.block {id : Nat} {c : Code} (h : OkY P T l xs n c (blockY id Q) g env) : OkY P T l xs n (.block id c) Q g env := by
  refine ⟨fun B J Jp hY V a w hJ hp => wp_block (wp_mono (h.run B J Jp hY V a w hJ hp) ?_)⟩
  rintro e a' w' (⟨g', env', V', hk, h1, h2⟩ | ⟨ch, rfl, h⟩)
  · cases e with
    | exit id' =>
      simp only [blockY] at hk
      simp only [Exit.inBlock]
      split at hk
      · rename_i hb
        rw [if_pos (beq_nat_true hb)]
        exact .inl ⟨g', env', V', hk, h1, h2⟩
      · rename_i hb
        rw [if_neg (by rintro rfl; rw [Nat.beq_refl] at hb; cases hb)]
        exact .inl ⟨g', env', V', hk, h1, h2⟩
    | _ => exact .inl ⟨g', env', V', hk, h1, h2⟩
  · exact .inr ⟨ch, rfl, h⟩
def condY (env : List (Nat × D)) (n : Nat) (c : Operand) (X Y : List (Nat × D) → Prop) : Prop :=
  condK ⟨env, [], [], n⟩ c (fun s => X s.env) (fun s => Y s.env)
theorem PureS.know {B : Nat} {V : Vw} {a : Act} {w : World} (hp : PureS (szOf T) B V env n a w) (c : Operand) {d : D} (hd : RS (szOf T) V [] [] (a.eval c) d) : PureS (szOf T) B V ((⟨env, [], [], n⟩ : St).know c d).env n a w := by
  have h := hp.sim.know c hd
  have hn : ((⟨env, [], [], n⟩ : St).know c d).n = n := by
    unfold St.know
    split
    · split <;> rfl
    · rfl
  refine ⟨hp.tmps, hp.marks, hp.size, hp.vok, fun t => ?_⟩
  have := h.env t
  rw [hn] at this
  exact this
theorem OkY.cond {c : Operand} {x y : Code} (h : condY env n c (OkY P T l xs n x Q g) (OkY P T l xs n y Q g)) : OkY P T l xs n (.cond c x y) Q g env := by
  refine ⟨fun B J Jp hY V a w hJ hp => ?_⟩
  have hc := hp.sim.get c
  unfold condY condK at h
  split at h
  · rename_i hd; rw [hd] at hc; exact wp_cond_true hc.tt_ (h.run B J Jp hY V a w hJ hp)
  · rename_i hd; rw [hd] at hc; exact wp_cond_false hc.ff_ (h.run B J Jp hY V a w hJ hp)
  · rename_i p hd
    rw [hd] at hc
    obtain ⟨b, hb, hbp⟩ := hc.bool
    cases b with
    | true => exact wp_cond_true hb ((h.1 (hbp.1 rfl)).run B J Jp hY V a w hJ (hp.know c (by rw [hb]; exact .imm _ _ .tt)))
    | false => exact wp_cond_false hb ((h.2 (fun hp => by simpa using hbp.2 hp)).run B J Jp hY V a w hJ (hp.know c (by rw [hb]; exact .imm _ _ .ff)))
  · exact h.elim
def selE (env : List (Nat × D)) : List Nat → (List (Nat × D) → Prop) → Prop
  | [], K => K []
  | t :: L, K => (look env t).force fun d => selE env L fun r => K ((t, d) :: r)
theorem selE_sound {sz : TypeId → Nat} {V : Vw} {env : List (Nat × D)} : ∀ {L : List Nat} {K : List (Nat × D) → Prop}, selE env L K → ∃ env', K env' ∧ ∀ t v, RS sz V [] [] v (look env t) → RS sz V [] [] v (look env' t)
  | [], K, h => ⟨[], h, fun t v _ => .imm _ _ (.u v)⟩
  | x :: L, K, h => by
    simp only [selE, D.force_eq] at h
    obtain ⟨env', h, he⟩ := selE_sound (sz := sz) (V := V) h
    refine ⟨_, h, fun t v hv => ?_⟩
    show RS sz V [] [] v (match Nat.beq x t with | true => look env x | false => look env' t)
    cases hb : Nat.beq x t with
    | true => rw [← beq_nat_true hb] at hv; exact hv
    | false => exact he t v hv
theorem OkY.keep {c : Code} (L : List Nat) (h : selE env L fun env => OkY P T l xs n c Q g env) : OkY P T l xs n c Q g env := by
  refine ⟨fun B J Jp hY V a w hJ hp => ?_⟩
  obtain ⟨env', hk, he⟩ := selE_sound (sz := szOf T) (V := V) h
  exact hk.run B J Jp hY V a w hJ ⟨hp.tmps, hp.marks, hp.size, hp.vok, fun t => he t _ (hp.env t)⟩
theorem OkY.loopK {c : Code} {ι : Type} (L : List Nat) (mk : ι → List (Nat × D)) (gk : ι → Option Nat) (I : ι → Prop) (m : ι → Nat) (x0 : ι) (h0 : I x0) (hg : g = gk x0) (hs : selE env L (· = mk x0))
    (round : ∀ x, I x → OkY P T l xs n c (thenY (fun g' env' => ∃ x', m x' < m x ∧ I x' ∧ g' = gk x' ∧ selE env' L (· = mk x')) Q) (gk x) (mk x)) : OkY P T l xs n (.loop c) Q g env := by
  refine ⟨fun B J Jp hY V a w hJ hp => ?_⟩
  obtain ⟨env', hk, he⟩ := selE_sound (sz := szOf T) (V := V) hs
  subst hg
  refine wp_loop_at (fun k a w => ∃ x V, m x = k ∧ I x ∧ J (gk x) V w ∧ PureS (szOf T) B V (mk x) n a w) ?_ ⟨x0, V, rfl, h0, hJ, by rw [← hk]; exact ⟨hp.tmps, hp.marks, hp.size, hp.vok, fun t => he t _ (hp.env t)⟩⟩
  rintro k a w ⟨x, V, rfl, hI, hJ, hp⟩
  refine wp_mono ((round x hI).run B J Jp hY V a w hJ hp) ?_
  rintro e a' w' (⟨g', env', V', hk, h1, h2⟩ | ⟨ch, rfl, h⟩)
  · cases e with
    | normal =>
      obtain ⟨x', hlt, hI', rfl, hs'⟩ := hk
      obtain ⟨env2, hk2, he2⟩ := selE_sound (sz := szOf T) (V := V') hs'
      exact ⟨m x', hlt, x', V', rfl, hI', h1, by rw [← hk2]; exact ⟨h2.tmps, h2.marks, h2.size, h2.vok, fun t => he2 t _ (h2.env t)⟩⟩
    | _ => exact .inl ⟨g', env', V', hk, h1, h2⟩
  · exact .inr ⟨ch, rfl, h⟩
theorem OkY.loop {c : Code} {ι : Type} (I : ι → Option Nat → List (Nat × D) → Prop) (m : ι → Nat) (x0 : ι) (h0 : I x0 g env)
    (round : ∀ x g env, I x g env → OkY P T l xs n c (thenY (fun g' env' => ∃ x', m x' < m x ∧ I x' g' env') Q) g env) : OkY P T l xs n (.loop c) Q g env := by
  refine ⟨fun B J Jp hY V a w hJ hp => ?_⟩
  refine wp_loop_at (fun k a w => ∃ x g env V, m x = k ∧ I x g env ∧ J g V w ∧ PureS (szOf T) B V env n a w) ?_ ⟨x0, g, env, V, rfl, h0, hJ, hp⟩
  rintro k a w ⟨x, g, env, V, rfl, hI, hJ, hp⟩
  refine wp_mono ((round x g env hI).run B J Jp hY V a w hJ hp) ?_
  rintro e a' w' (⟨g', env', V', hk, h1, h2⟩ | ⟨ch, rfl, h⟩)
  · cases e with
    | normal =>
      obtain ⟨x', hlt, hI'⟩ := hk
      exact ⟨m x', hlt, x', g', env', V', rfl, hI', h1, h2⟩
    | _ => exact .inl ⟨g', env', V', hk, h1, h2⟩
  · exact .inr ⟨ch, rfl, h⟩
def yCallK (P : Program) (T : Tab) (l n : Nat) (ops r : List Oper) (x : List D) (Q : Exit → Option Nat → List (Nat × D) → Prop) (k : Nat) (o : Oper) (s : St) : Prop :=
  match o.guard with
  | some _ => False
  | none => match o.op with
    | .call { callee := .value (.tmp t), args, argTypes := _ } => s.get (.tmp t) = .yld l ∧ s.gets args.toList = x ∧ imms x = true ∧ purK n s fun env' =>
        (putK ⟨env', [], [], n⟩ o.dst .tt fun s => vops P T ops r s fun s' => purK n s' (Q .normal (some (k + 1)))) ∧ (putK ⟨env', [], [], n⟩ o.dst .ff fun s => vops P T ops r s fun s' => purK n s' (Q .normal none))
    | _ => False
theorem RS.yld_ {sz : TypeId → Nat} {V : Vw} {μ : List Nat} {ω : List Value} {v : Value} {l : Nat} (h : RS sz V μ ω v (.yld l)) : v = .func (.yield l) #[] #[] := by
  cases h with | imm _ _ h => cases h; rfl
structure OkZ (P : Program) (T : Tab) (l : Nat) (xs : List (List D)) (n : Nat) (c : Code) (Q : Exit → Option Nat → List (Nat × D) → Prop) (g : Option Nat) (s : St) : Prop where
  run : ∀ (B : Nat) J Jp, Yields P T l B xs J Jp → ∀ (V : Vw) (a0 : Act) (w0 : World) (env : List (Nat × D)), J g V w0 → PureS (szOf T) B V env n a0 w0 →
    ∀ (V' : Vw) (μ : List Nat) (ω : List Value) (a : Act) (w : World), Sim (szOf T) w0 ⟨V, fun _ => undef, a0.defers, []⟩ V' μ ω s a w → c.wp P (yPost P T B J Jp n Q) a w
theorem OkY.ofZ {c : Code} (h : OkZ P T l xs n c Q g ⟨env, [], [], n⟩) : OkY P T l xs n c Q g env :=
  ⟨fun B J Jp hY V a w hJ hp => h.run B J Jp hY V a w env hJ hp V [] [] a w hp.sim⟩
theorem OkZ.seq {x y : Code} {s : St} (h : Ok P T x (thenQ (OkZ P T l xs n y Q g) (fun e s' => purK n s' fun env' => Q e g env')) s) : OkZ P T l xs n (.seq x y) Q g s := by
  refine ⟨fun B J Jp hY V a0 w0 env hJ hp V' μ ω a w hS => wp_seq (wp_mono (h.run w0 _ V' μ ω a w hS) ?_)⟩
  rintro e a' w' ⟨s', V2, μ', ω', hq, hS2⟩
  have pur : ∀ e, purK n s' (fun env' => Q e g env') → yPost P T B J Jp n Q e a' w' := fun e hq => by
    obtain ⟨env', hk, hp'⟩ := hp.after hS2 hq
    exact .inl ⟨g, env', V2, hk, hY.grow g V V2 w0 w' hJ hS2.mem.below hS2.mem.vle hS2.mem.vok (fresh_of hS2.mem rfl), hp'⟩
  cases e with
  | normal => exact OkZ.run hq B J Jp hY V a0 w0 env hJ hp V2 μ' ω' a' w' hS2
  | _ => exact pur _ hq
theorem OkZ.seqY {x y : Code} {s : St} (h : OkZ P T l xs n x (thenY (OkY P T l xs n y Q) Q) g s) : OkZ P T l xs n (.seq x y) Q g s := by
  refine ⟨fun B J Jp hY V a0 w0 env hJ hp V' μ ω a w hS => wp_seq (wp_mono (h.run B J Jp hY V a0 w0 env hJ hp V' μ ω a w hS) ?_)⟩
  rintro e a' w' (⟨g', env', V', hk, h1, h2⟩ | ⟨ch, rfl, h⟩)
  · cases e with
    | normal => exact OkY.run hk B J Jp hY V' a' w' h1 h2
    | _ => exact .inl ⟨g', env', V', hk, h1, h2⟩
  · exact .inr ⟨ch, rfl, h⟩
theorem OkZ.ofY {c : Code} {s : St} (h : purK n s fun env' => OkY P T l xs n c Q g env') : OkZ P T l xs n c Q g s := by
  refine ⟨fun B J Jp hY V a0 w0 env hJ hp V' μ ω a w hS => ?_⟩
  obtain ⟨env', hk, hp'⟩ := hp.after hS h
  exact hk.run B J Jp hY V' a w (hY.grow g V V' w0 w hJ hS.mem.below hS.mem.vle hS.mem.vok (fresh_of hS.mem rfl)) hp'
theorem OkZ.yreg (hT : TOk P T) {s0 : St} {id : Nat} {ops : List Oper} (j k : Nat) (x : List D) (hx : xs[k]? = some x) (h : vopsCut P T ops j ops s0 (yCallK P T l n ops (ops.drop (j + 1)) x Q k)) :
    OkZ P T l xs n (.region id ops.toArray false) Q (some k) s0 := by
  refine ⟨fun B J Jp hY V a0 w0 env hJ hp V' μ ω a w hS0 => (wpIn_wide (n := 0)).1 ?_⟩
  show Code.wpIn (fen none) 0 P _ _ a w
  refine wpIn_region_lit (vopsCutIn_sound hT j ops _ V' μ ω a w _ hS0 h ?_)
  intro o r s V1 μ1 ω1 a1 w1 hr hk hS1
  have hr2 : ops.drop (j + 1) = r := by rw [← List.drop_drop, hr]; rfl
  rw [hr2] at hk
  obtain ⟨dst, op, type, pos, after, guard⟩ := o
  unfold yCallK at hk
  split at hk
  · exact hk.elim
  rename_i hg
  dsimp only at hg
  subst hg
  split at hk
  case h_2 => exact hk.elim
  rename_i t args ats hop
  dsimp only at hop
  subst hop
  obtain ⟨hyl, hgs, him, hk⟩ := hk
  have hev : a1.eval (.tmp t) = .func (.yield l) #[] #[] := by have := hS1.get (.tmp t); rw [hyl] at this; exact this.yld_
  obtain ⟨env', ⟨hk1, hk2⟩, hp1⟩ := hp.after hS1 hk
  have hJ1 := hY.grow _ _ _ _ _ hJ hS1.mem.below hS1.mem.vle hS1.mem.vok (fresh_of hS1.mem rfl)
  obtain ⟨ms, e1, e2, e3⟩ := hp1.marks
  have hvals := hS1.gets args.toList
  rw [hgs] at hvals
  obtain ⟨fn, tmps, assign, body, hyi, hround⟩ := hY.round k x V1 w1 (args.toList.map a1.eval) hx hJ1 hvals.1 (fun i v d h1 h2 => immD_ri (hvals.2 i v d h1 h2) (imms_at him i d h2)) (keptOf ms) (fun y hy => by
    obtain ⟨D, hD, rfl⟩ := List.mem_map.1 hy
    exact ⟨(e3 D hD).1, (e3 D hD).2, fun _ _ _ e => by cases e⟩)
  unfold wpListIn
  rw [if_pos (by simp [Region.wanted])]
  refine ⟨fun _ _ => trivial, ?_⟩
  have hrun : (execOp a1.eval ⟨dst, .call ⟨.value (.tmp t), args, ats⟩, type, pos, after, none⟩).run P w1 = .ok (.round l fn tmps assign body) w1 := by
    have ha : (args.toList.map a1.eval).toArray = args.map a1.eval := by apply Array.ext'; simp
    rw [ha] at hyi
    simp only [execOp, resolve, hev, Deferred.ofValue, Sem.run_bind, Sem.run_pure, Result.andThen_ok]
    simp [invoke, go_sem, hyi]
  have hsem : ∀ o, Oper.semAt (fen none).round a1.eval o = execOp a1.eval o := fun o => Oper.semAt_none _ _
  rw [hsem, hrun]
  refine ⟨(fun hh => by cases hh), ?_⟩
  refine RoundIn.mono hround ?_
  rintro e W' ⟨hE, h⟩
  have hmk : ∃ ms : List Nat, a1.defers = ms.map mkD ∧ ms.Nodup ∧ ∀ D ∈ ms, B ≤ D ∧ W'.heap[D]? = some (.deferred (some [])) := ⟨ms, e1, e2, fun D hD => ⟨(e3 D hD).1, hE (D, _) (List.mem_map.2 ⟨D, hD, rfl⟩)⟩⟩
  have go : ∀ {g' : Option Nat} {V2 : Vw} {d : D} {v : Value}, VLe V1 V2 → J g' V2 W' → RS (szOf T) V2 [] [] v d → (putK ⟨env', [], [], n⟩ dst d fun s => vops P T ops r s fun s' => purK n s' (Q .normal g')) →
      wpListIn (fen none) 0 P ops.toArray (yPost P T B J Jp n Q) r (a1.put dst v) W' := by
    intro g' V2 d v hle hJ2 hv hput
    have hp2 : PureS (szOf T) B V2 env' n a1 W' := ⟨hp1.tmps, hmk, hY.size _ _ _ hJ2, hY.vok _ _ _ hJ2, fun t => (hp1.env t).mono hle (.refl _) (.refl _)⟩
    obtain ⟨s3, hq3, hS3⟩ := putK_sound hp2.sim hv hput
    refine vopsIn_sound hT r s3 V2 [] [] _ W' _ hS3 hq3 ?_
    intro s4 V4 μ4 ω4 a4 w4 hk4 hS4
    obtain ⟨env5, hk5, hp5⟩ := hp2.after (a' := a4) (w' := w4) hS4 hk4
    exact .inl ⟨g', env5, V4, hk5, hY.grow _ _ _ _ _ hJ2 hS4.mem.below hS4.mem.vle hS4.mem.vok (fresh_of hS4.mem rfl), hp5⟩
  rcases h with ⟨V2, hle, ⟨rfl, hJ2⟩ | ⟨rfl, hJ2⟩⟩ | ⟨c, rfl, hJp⟩
  · exact go hle hJ2 (.imm _ _ .tt) hk1
  · exact go hle hJ2 (.imm _ _ .ff) hk2
  · exact .inr ⟨c, rfl, hJp, hmk⟩
theorem OkY.yreg (hT : TOk P T) {id : Nat} {ops : List Oper} (j k : Nat) (x : List D) (hx : xs[k]? = some x) (h : vopsCut P T ops j ops ⟨env, [], [], n⟩ (yCallK P T l n ops (ops.drop (j + 1)) x Q k)) :
    OkY P T l xs n (.region id ops.toArray false) Q (some k) env := .ofZ (.yreg hT j k x hx h)
theorem J_shut {l B : Nat} {xs : List (List D)} {J : Option Nat → Vw → World → Prop} {Jp : List PanicEntry → World → Prop} (hY : Yields P T l B xs J Jp) : ∀ (ms : List Nat) (w : World), ms.Nodup → (∀ D ∈ ms, B ≤ D ∧ w.heap[D]? = some (.deferred (some []))) →
    (∀ g V, J g V w → J g V (shut ms w)) ∧ ∀ c, Jp c w → Jp c (shut ms w)
  | [], w, _, _ => ⟨fun _ _ h => h, fun _ h => h⟩
  | D :: ms, w, hn, hd => by
    obtain ⟨h1, h2⟩ := List.nodup_cons.1 hn
    obtain ⟨a, b⟩ := J_shut hY ms (w.putObj D (.deferred none)) h2 (fun E hE => ⟨(hd E (by simp [hE])).1, (World.putObj_heap_other (r := D) (k := E) fun e => h1 (e ▸ hE)).trans (hd E (by simp [hE])).2⟩)
    exact ⟨fun g V h => a g V (hY.shut g V w D h (hd D (by simp)).1 (hd D (by simp)).2), fun c h => b c (hY.shutp c w D h (hd D (by simp)).1 (hd D (by simp)).2)⟩
theorem YSpec.of_okY {f : FuncId} {fn : Func} {c : Code} (hf : P.funcs[f]? = some fn) (hb : fn.body = some c) (hcall : ∀ args w, (callFunc f args).run P w = .ok (.enter f args) w) {cap : List D} (hres : fn.results = #[]) (hn : cap.length + 1 ≤ fn.ntmps)
    (h : ∀ l, OkY P T l xs fn.ntmps c (fun e g _ => (e = .normal ∨ e = .ret) ∧ (g = some xs.length ∨ g = none)) (some 0) (envOf 0 (.yld l :: cap))) : YSpec P T f cap xs := by
  refine ⟨hcall, fun V w args hl hR l J Jp hY hJ => calls_of_wp_X hf hb ?_⟩
  have hst := start_sim (T := T) (fn := fn) (ds := .yld l :: cap) (V := V) (w := w) (args := #[.func (.yield l) #[] #[]] ++ args) (df := []) (by simpa using hn) (hY.vok _ _ _ hJ) (by simp; omega) (fun j v d h1 h2 => by
    cases j with
    | zero =>
      rw [Array.getElem?_append_left (by simp)] at h1
      simp at h1 h2
      subst h1 h2
      exact .yld l
    | succ j =>
      refine hR j v d ?_ (by simpa using h2)
      rw [Array.getElem?_append_right (by simp)] at h1
      simpa using h1)
  refine wp_mono ((h l).run w.heap.size J Jp hY V _ w hJ ⟨hst.tmps, ⟨[], rfl, List.nodup_nil, by simp⟩, Nat.le_refl _, hY.vok _ _ _ hJ, hst.env⟩) ?_
  rintro e a' w' (⟨g', env', V', ⟨he, hg⟩, hJ', hp⟩ | ⟨ch, rfl, hJp, ms, e1, e2, e3⟩)
  · obtain ⟨ms, e1, e2, e3⟩ := hp.marks
    have fin : LeavesX P fn a'.tmps (fun e w' => ((∃ v, e = .returned v) ∧ ∃ V', J (some xs.length) V' w' ∨ J none V' w') ∨ ∃ c, e = .panicked c ∧ Jp c w') a'.defers .returning w' := by
      rw [e1, ← List.append_nil (ms.map mkD)]
      refine leavesX_marks (by simp) ms w' e2 (fun D hD => (e3 D hD).2) ⟨.tuple #[], ?_, .inl ⟨⟨_, rfl⟩, V', ?_⟩⟩
      · rw [results_eq, hres]
        simp
      · have := (J_shut hY ms w' e2 e3).1 g' V' hJ'
        rcases hg with rfl | rfl
        · exact .inl this
        · exact .inr this
    rcases he with rfl | rfl
    · exact fin
    · exact fin
  · show LeavesX P fn a'.tmps _ a'.defers _ w'
    rw [e1, ← List.append_nil (ms.map mkD)]
    exact leavesX_marks (by simp) ms w' e2 (fun D hD => (e3 D hD).2) (.inr ⟨ch, rfl, (J_shut hY ms w' e2 e3).2 ch hJp⟩)
theorem effW.of {s : St} {f : FuncId} {ds : List D} {K : D → St → Prop} (h : effK P T s f ds K) : effW P T s f ds K :=
  ⟨h.call, fun w0 V0 V μ ω a w vs hS hl hR => (h.run w0 V0 V μ ω a w vs hS hl hR).mono fun _ _ ⟨v, d, s', V', μ', ω', h1, h2, h3, h4, _⟩ => ⟨v, d, s', V', μ', ω', h1, h2, h3, h4⟩⟩
end
end Go.Vx
namespace Go.Vx
open Go.RowKit
section
variable {P : Program} {T : Tab} {l : Nat} {x : List D} {n : Nat} {Q : Exit → List (Nat × D) → Prop} {s : St}
structure OkO (P : Program) (T : Tab) (l : Nat) (x : List D) (n : Nat) (c : Code) (Q : Exit → List (Nat × D) → Prop) (s : St) : Prop where
  run : ∀ (B : Nat) J Jp, Yields P T l B [x] J Jp → (∀ V W, ¬ J (some 1) V W) → ∀ (V : Vw) (a0 : Act) (w0 : World) (env : List (Nat × D)), J (some 0) V w0 → PureS (szOf T) B V env n a0 w0 →
    ∀ (V' : Vw) (μ : List Nat) (ω : List Value) (a : Act) (w : World), Sim (szOf T) w0 ⟨V, fun _ => undef, a0.defers, []⟩ V' μ ω s a w → c.wp P (yPost P T B J Jp n fun e g env => g = none ∧ Q e env) a w
theorem OkO.seq {c y : Code} (h : Ok P T c (thenQ (OkO P T l x n y Q) (fun _ _ => False)) s) : OkO P T l x n (.seq c y) Q s := by
  refine ⟨fun B J Jp hY h1 V a0 w0 env hJ hp V' μ ω a w hS => wp_seq (wp_mono (h.run w0 _ V' μ ω a w hS) ?_)⟩
  rintro e a' w' ⟨s', V2, μ', ω', hq, hS2⟩
  cases e with
  | normal => exact OkO.run hq B J Jp hY h1 V a0 w0 env hJ hp V2 μ' ω' a' w' hS2
  | _ => exact False.elim hq
def thenO (N : List (Nat × D) → Prop) (Q : Exit → List (Nat × D) → Prop) : Exit → List (Nat × D) → Prop
  | .normal, env => N env
  | e, env => Q e env
theorem OkO.seqY {c y : Code} (h : OkO P T l x n c (thenO (OkY P T l [x] n y (fun e g env => g = none ∧ Q e env) none) Q) s) : OkO P T l x n (.seq c y) Q s := by
  refine ⟨fun B J Jp hY h1 V a0 w0 env hJ hp V' μ ω a w hS => wp_seq (wp_mono (h.run B J Jp hY h1 V a0 w0 env hJ hp V' μ ω a w hS) ?_)⟩
  rintro e a' w' (⟨g', env', V', ⟨rfl, hk⟩, h1, h2⟩ | ⟨ch, rfl, h⟩)
  · cases e with
    | normal => exact OkY.run hk B J Jp hY V' a' w' h1 h2
    | _ => exact .inl ⟨none, env', V', ⟨rfl, hk⟩, h1, h2⟩
  · exact .inr ⟨ch, rfl, h⟩
def blockO (id : Nat) (Q : Exit → List (Nat × D) → Prop) : Exit → List (Nat × D) → Prop
  | .exit id', env => match Nat.beq id' id with | true => Q .normal env | false => Q (.exit id') env
  | e, env => Q e env
theorem OkO.block {id : Nat} {c : Code} (h : OkO P T l x n c (blockO id Q) s) : OkO P T l x n (.block id c) Q s := by
  refine ⟨fun B J Jp hY h1 V a0 w0 env hJ hp V' μ ω a w hS => wp_block (wp_mono (h.run B J Jp hY h1 V a0 w0 env hJ hp V' μ ω a w hS) ?_)⟩
  rintro e a' w' (⟨g', env', V', ⟨rfl, hk⟩, h1, h2⟩ | ⟨ch, rfl, h⟩)
  · cases e with
    | exit id' =>
      simp only [blockO] at hk
      simp only [Exit.inBlock]
      split at hk
      · rename_i hb
        rw [if_pos (beq_nat_true hb)]
        exact .inl ⟨none, env', V', ⟨rfl, hk⟩, h1, h2⟩
      · rename_i hb
        rw [if_neg (by rintro rfl; rw [Nat.beq_refl] at hb; cases hb)]
        exact .inl ⟨none, env', V', ⟨rfl, hk⟩, h1, h2⟩
    | _ => exact .inl ⟨none, env', V', ⟨rfl, hk⟩, h1, h2⟩
  · exact .inr ⟨ch, rfl, h⟩
theorem OkO.loop {c : Code} (h : OkO P T l x n c (thenO (fun _ => False) Q) s) : OkO P T l x n (.loop c) Q s := by
  refine ⟨fun B J Jp hY h1 V a0 w0 env hJ hp V' μ ω a w hS => wp_loop_at (fun k a1 w1 => k = 0 ∧ a1 = a ∧ w1 = w) ?_ ⟨rfl, rfl, rfl⟩⟩
  rintro k a1 w1 ⟨rfl, rfl, rfl⟩
  refine wp_mono (h.run B J Jp hY h1 V a0 w0 env hJ hp V' μ ω _ _ hS) ?_
  rintro e a' w' (⟨g', env', V', ⟨rfl, hk⟩, h1, h2⟩ | ⟨ch, rfl, h⟩)
  · cases e with
    | normal => exact False.elim hk
    | _ => exact .inl ⟨none, env', V', ⟨rfl, hk⟩, h1, h2⟩
  · exact .inr ⟨ch, rfl, h⟩
def yCallO (P : Program) (T : Tab) (l n : Nat) (ops r : List Oper) (x : List D) (Q : Exit → List (Nat × D) → Prop) (o : Oper) (s : St) : Prop :=
  match o.guard with
  | some _ => False
  | none => match o.op with
    | .call { callee := .value (.tmp t), args, argTypes := _ } => s.get (.tmp t) = .yld l ∧ s.gets args.toList = x ∧ imms x = true ∧ purK n s fun env' =>
        putK ⟨env', [], [], n⟩ o.dst .ff fun s => vops P T ops r s fun s' => purK n s' (Q .normal)
    | _ => False
theorem OkO.yreg (hT : TOk P T) {id : Nat} {ops : List Oper} (j : Nat) (h : vopsCut P T ops j ops s (yCallO P T l n ops (ops.drop (j + 1)) x Q)) :
    OkO P T l x n (.region id ops.toArray false) Q s := by
  refine ⟨fun B J Jp hY h1 V a0 w0 env hJ hp V' μ ω a w hS0 => (wpIn_wide (n := 0)).1 ?_⟩
  show Code.wpIn (fen none) 0 P _ _ a w
  refine wpIn_region_lit (vopsCutIn_sound hT j ops _ V' μ ω a w _ hS0 h ?_)
  intro o r s V1 μ1 ω1 a1 w1 hr hk hS1
  have hr2 : ops.drop (j + 1) = r := by rw [← List.drop_drop, hr]; rfl
  rw [hr2] at hk
  obtain ⟨dst, op, type, pos, after, guard⟩ := o
  unfold yCallO at hk
  split at hk
  · exact hk.elim
  rename_i hg
  dsimp only at hg
  subst hg
  split at hk
  case h_2 => exact hk.elim
  rename_i t args ats hop
  dsimp only at hop
  subst hop
  obtain ⟨hyl, hgs, him, hk⟩ := hk
  have hev : a1.eval (.tmp t) = .func (.yield l) #[] #[] := by have := hS1.get (.tmp t); rw [hyl] at this; exact this.yld_
  obtain ⟨env', hk2, hp1⟩ := hp.after hS1 hk
  have hJ1 := hY.grow _ _ _ _ _ hJ hS1.mem.below hS1.mem.vle hS1.mem.vok (fresh_of hS1.mem rfl)
  obtain ⟨ms, e1, e2, e3⟩ := hp1.marks
  have hvals := hS1.gets args.toList
  rw [hgs] at hvals
  obtain ⟨fn, tmps, assign, body, hyi, hround⟩ := hY.round 0 x V1 w1 (args.toList.map a1.eval) rfl hJ1 hvals.1 (fun i v d h1 h2 => immD_ri (hvals.2 i v d h1 h2) (imms_at him i d h2)) (keptOf ms) (fun y hy => by
    obtain ⟨D, hD, rfl⟩ := List.mem_map.1 hy
    exact ⟨(e3 D hD).1, (e3 D hD).2, fun _ _ _ e => by cases e⟩)
  unfold wpListIn
  rw [if_pos (by simp [Region.wanted])]
  refine ⟨fun _ _ => trivial, ?_⟩
  have hrun : (execOp a1.eval ⟨dst, .call ⟨.value (.tmp t), args, ats⟩, type, pos, after, none⟩).run P w1 = .ok (.round l fn tmps assign body) w1 := by
    have ha : (args.toList.map a1.eval).toArray = args.map a1.eval := by apply Array.ext'; simp
    rw [ha] at hyi
    simp only [execOp, resolve, hev, Deferred.ofValue, Sem.run_bind, Sem.run_pure, Result.andThen_ok]
    simp [invoke, go_sem, hyi]
  have hsem : ∀ o, Oper.semAt (fen none).round a1.eval o = execOp a1.eval o := fun o => Oper.semAt_none _ _
  rw [hsem, hrun]
  refine ⟨(fun hh => by cases hh), ?_⟩
  refine RoundIn.mono hround ?_
  rintro e W' ⟨hE, h⟩
  have hmk : ∃ ms : List Nat, a1.defers = ms.map mkD ∧ ms.Nodup ∧ ∀ D ∈ ms, B ≤ D ∧ W'.heap[D]? = some (.deferred (some [])) := ⟨ms, e1, e2, fun D hD => ⟨(e3 D hD).1, hE (D, _) (List.mem_map.2 ⟨D, hD, rfl⟩)⟩⟩
  rcases h with ⟨V2, hle, ⟨rfl, hJ2⟩ | ⟨rfl, hJ2⟩⟩ | ⟨c, rfl, hJp⟩
  · exact absurd hJ2 (h1 _ _)
  · have hp2 : PureS (szOf T) B V2 env' n a1 W' := ⟨hp1.tmps, hmk, hY.size _ _ _ hJ2, hY.vok _ _ _ hJ2, fun t => (hp1.env t).mono hle (.refl _) (.refl _)⟩
    obtain ⟨s3, hq3, hS3⟩ := putK_sound hp2.sim (.imm _ _ .ff) hk2
    refine vopsIn_sound hT r s3 V2 [] [] _ W' _ hS3 hq3 ?_
    intro s4 V4 μ4 ω4 a4 w4 hk4 hS4
    obtain ⟨env5, hk5, hp5⟩ := hp2.after (a' := a4) (w' := w4) hS4 hk4
    exact .inl ⟨none, env5, V4, ⟨rfl, hk5⟩, hY.grow _ _ _ _ _ hJ2 hS4.mem.below hS4.mem.vle hS4.mem.vok (fresh_of hS4.mem rfl), hp5⟩
  · exact .inr ⟨c, rfl, hJp, hmk⟩
theorem YSpecI.of_okO {f : FuncId} {fn : Func} {c : Code} (hf : P.funcs[f]? = some fn) (hb : fn.body = some c) (hcall : ∀ args w, (callFunc f args).run P w = .ok (.enter f args) w) {cap : List D} (hres : fn.results = #[]) (hn : cap.length + 1 ≤ fn.ntmps)
    (h : ∀ l, OkO P T l x fn.ntmps c (fun e _ => e = .normal ∨ e = .ret) ⟨envOf 0 (.yld l :: cap), [], [], fn.ntmps⟩) : YSpecI P T f cap [x] (· = 0) := by
  refine ⟨hcall, fun V w args hl hR l J Jp hY hI hJ => calls_of_wp_X hf hb ?_⟩
  have hst := start_sim (T := T) (fn := fn) (ds := .yld l :: cap) (V := V) (w := w) (args := #[.func (.yield l) #[] #[]] ++ args) (df := []) (by simpa using hn) (hY.vok _ _ _ hJ) (by simp; omega) (fun j v d h1 h2 => by
    cases j with
    | zero =>
      rw [Array.getElem?_append_left (by simp)] at h1
      simp at h1 h2
      subst h1 h2
      exact .yld l
    | succ j =>
      refine hR j v d ?_ (by simpa using h2)
      rw [Array.getElem?_append_right (by simp)] at h1
      simpa using h1)
  have hps : PureS (szOf T) w.heap.size V (envOf 0 (.yld l :: cap)) fn.ntmps _ w := ⟨hst.tmps, ⟨[], rfl, List.nodup_nil, by simp⟩, Nat.le_refl _, hY.vok _ _ _ hJ, hst.env⟩
  refine wp_mono ((h l).run w.heap.size J Jp hY (fun V W h => by have := hI 1 V W h; omega) V _ w _ hJ hps V [] [] _ w hps.sim) ?_
  rintro e a' w' (⟨g', env', V', ⟨rfl, he⟩, hJ', hp⟩ | ⟨ch, rfl, hJp, ms, e1, e2, e3⟩)
  · obtain ⟨ms, e1, e2, e3⟩ := hp.marks
    have fin : LeavesX P fn a'.tmps (fun e w' => ((∃ v, e = .returned v) ∧ ∃ V', J (some [x].length) V' w' ∨ J none V' w') ∨ ∃ c, e = .panicked c ∧ Jp c w') a'.defers .returning w' := by
      rw [e1, ← List.append_nil (ms.map mkD)]
      refine leavesX_marks (by simp) ms w' e2 (fun D hD => (e3 D hD).2) ⟨.tuple #[], ?_, .inl ⟨⟨_, rfl⟩, V', .inr ((J_shut hY ms w' e2 e3).1 none V' hJ')⟩⟩
      rw [results_eq, hres]
      simp
    rcases he with rfl | rfl
    · exact fin
    · exact fin
  · show LeavesX P fn a'.tmps _ a'.defers _ w'
    rw [e1, ← List.append_nil (ms.map mkD)]
    exact leavesX_marks (by simp) ms w' e2 (fun D hD => (e3 D hD).2) (.inr ⟨ch, rfl, (J_shut hY ms w' e2 e3).2 ch hJp⟩)
end
end Go.Vx
namespace Go.Proofs.YtaiondckookpiaaDoor
open Go Go.Vx
def ov1 (a b : UInt8) : UInt8 := if a = 120 then b else a
def curL (c d : Str) (i : Nat) : Str := List.zipWith ov1 (c.take i) (d.take i) ++ c.drop i
def pcT (c d : Str) (j : Nat) : Option Str :=
  match c[j]?, d[j]? with
  | some a, some b => if a = 120 ∧ b ≠ 120 then some ((curL c d j).set j (97 - b)) else none
  | _, _ => none
def pcsT (c d : Str) (i : Nat) : List Str := (List.range i).filterMap (pcT c d)
def splitT (c d : Str) : List Str := if (meetT c d).isSome then pcsT c d c.length else [c]
theorem pcsT_some {c d : Str} {i : Nat} {x : Str} (h : pcT c d i = some x) : pcsT c d (i + 1) = pcsT c d i ++ [x] := by
  unfold pcsT; rw [List.range_succ, List.filterMap_append]; simp [h]
theorem pcsT_none {c d : Str} {i : Nat} (h : pcT c d i = none) : pcsT c d (i + 1) = pcsT c d i := by
  unfold pcsT; rw [List.range_succ, List.filterMap_append]; simp [h]
theorem pcT_at {c d : Str} {j : Nat} {a b : UInt8} (ha : c[j]? = some a) (hb : d[j]? = some b) : pcT c d j = if a = 120 ∧ b ≠ 120 then some ((curL c d j).set j (97 - b)) else none := by
  unfold pcT; rw [ha, hb]
theorem curL_len {c d : Str} (hl : d.length = c.length) (i : Nat) : (curL c d i).length = c.length := by simp [curL]; omega
theorem curL_at {c d : Str} {i : Nat} {a : UInt8} (ha : c[i]? = some a) (hd : i < d.length) : (curL c d i)[i]? = some a := by
  have hi : i < c.length := (List.getElem?_eq_some_iff.1 ha).1
  have hl : (List.zipWith ov1 (c.take i) (d.take i)).length = i := by simp; omega
  unfold curL
  rw [List.getElem?_append_right (by omega), hl, Nat.sub_self, List.getElem?_drop]
  exact ha
theorem curL_succ {c d : Str} {i : Nat} {a b : UInt8} (ha : c[i]? = some a) (hb : d[i]? = some b) : curL c d (i + 1) = (curL c d i).set i (ov1 a b) := by
  have hi : i < c.length := (List.getElem?_eq_some_iff.1 ha).1
  have hi2 : i < d.length := (List.getElem?_eq_some_iff.1 hb).1
  have hl : (List.zipWith ov1 (c.take i) (d.take i)).length = i := by simp; omega
  unfold curL
  rw [List.set_append, if_neg (by omega), hl, Nat.sub_self, List.drop_eq_getElem_cons hi, List.set_cons_zero, take_snoc ha, take_snoc hb]
  rw [List.zipWith_append (by simp; omega)]
  simp
theorem curL_zero (c d : Str) : curL c d 0 = c := by simp [curL]
theorem set_self {l : Str} {i : Nat} {a : UInt8} (h : l[i]? = some a) : l.set i a = l := by
  have hi := (List.getElem?_eq_some_iff.1 h).1
  apply List.ext_getElem?
  intro k
  by_cases hk : k = i
  · subst hk; rw [List.getElem?_set_self hi, h]
  · rw [List.getElem?_set_ne (Ne.symm hk)]
theorem curL_same {c d : Str} {i : Nat} {a b : UInt8} (ha : c[i]? = some a) (hb : d[i]? = some b) (h : ¬ (a = 120 ∧ b ≠ 120)) : curL c d (i + 1) = curL c d i := by
  rw [curL_succ ha hb, show ov1 a b = a by
    unfold ov1
    split
    · rename_i he
      by_cases hb2 : b = 120
      · rw [hb2, he]
      · exact absurd ⟨he, hb2⟩ h
    · rfl]
  exact set_self (curL_at ha (List.getElem?_eq_some_iff.1 hb).1)
theorem ct_set {l : Str} {i : Nat} {b : UInt8} (h : CT l) (hb : b = 48 ∨ b = 49 ∨ b = 120) : CT (l.set i b) := by
  refine ⟨by rw [List.length_set]; exact h.len, fun x hx => ?_⟩
  rcases List.mem_or_eq_of_mem_set hx with hx | rfl
  · exact h.cub x hx
  · exact hb
theorem ov1_cub {a b : UInt8} (ha : a = 48 ∨ a = 49 ∨ a = 120) (hb : b = 48 ∨ b = 49 ∨ b = 120) : ov1 a b = 48 ∨ ov1 a b = 49 ∨ ov1 a b = 120 := by
  unfold ov1; split
  · exact hb
  · exact ha
theorem curL_ct {c d : Str} (hc : CT c) (hd : CT d) (hl : d.length = c.length) (i : Nat) : CT (curL c d i) := by
  induction i with
  | zero => rw [curL_zero]; exact hc
  | succ i ih =>
    by_cases hi : i < c.length
    · have ha := List.getElem?_eq_getElem hi
      have hb := List.getElem?_eq_getElem (show i < d.length by omega)
      rw [curL_succ ha hb]
      exact ct_set ih (ov1_cub (hc.cub _ (List.mem_of_getElem? ha)) (hd.cub _ (List.mem_of_getElem? hb)))
    · rw [show curL c d (i + 1) = curL c d i by
        unfold curL
        rw [List.take_of_length_le (show c.length ≤ i + 1 by omega), List.take_of_length_le (show d.length ≤ i + 1 by omega), List.take_of_length_le (show c.length ≤ i by omega), List.take_of_length_le (show d.length ≤ i by omega), List.drop_of_length_le (show c.length ≤ i + 1 by omega), List.drop_of_length_le (show c.length ≤ i by omega)]]
      exact ih
theorem opp_cub {b : UInt8} (hb : b = 48 ∨ b = 49 ∨ b = 120) (h : b ≠ 120) : 97 - b = 48 ∨ 97 - b = 49 ∨ 97 - b = 120 := by
  rcases hb with rfl | rfl | rfl
  · right; left; rfl
  · left; rfl
  · exact absurd rfl h
theorem pcsT_cn {c d : Str} (hc : CN c) (hd : CT d) (hl : d.length = c.length) (i : Nat) : ∀ x ∈ pcsT c d i, CN x ∧ x.length = c.length := by
  intro x hx
  obtain ⟨j, _, hj⟩ := List.mem_filterMap.1 hx
  unfold pcT at hj
  split at hj
  · rename_i a b ha hb
    split at hj
    · rename_i hab
      cases hj
      have h1 := curL_len hl j
      refine ⟨⟨ct_set (curL_ct hc.1 hd hl j) (opp_cub (hd.cub _ (List.mem_of_getElem? hb)) hab.2), fun e => hc.2 ?_⟩, by rw [List.length_set]; exact h1⟩
      have := congrArg List.length e
      rw [List.length_set, h1] at this
      exact List.eq_nil_of_length_eq_zero (by simpa using this)
    · cases hj
  · cases hj
theorem splitT_cn {c d : Str} (hc : CN c) (hd : CT d) : ∀ x ∈ splitT c d, CN x ∧ x.length = c.length := by
  intro x hx
  unfold splitT at hx
  split at hx
  · rename_i h
    obtain ⟨m, hm⟩ := Option.isSome_iff_exists.1 h
    rw [meetT_eq hc.2] at hm
    have := meetL_len hm
    exact pcsT_cn hc hd (by omega) _ x hx
  · simp at hx; subst hx; exact ⟨hc, rfl⟩
theorem pcsT_len (c d : Str) (i : Nat) : (pcsT c d i).length ≤ i := by
  have := List.length_filterMap_le (pcT c d) (List.range i)
  simpa [pcsT] using this
theorem splitT_len {c d : Str} (hc : c.length ≤ 256) : (splitT c d).length ≤ 256 := by
  unfold splitT
  split
  · exact Nat.le_trans (pcsT_len _ _ _) hc
  · simp
end Go.Proofs.YtaiondckookpiaaDoor
namespace Go.Proofs.YtaiondckookpiaaDoor
open Go Go.Vx
theorem car_set {l : Str} {i : Nat} {b : UInt8} (h : l[i]? = some 120) (hb : dig b = true) (j : Nat) : car (l.set i b) j = (car l j || decide (j = i)) := by
  have hi := (List.getElem?_eq_some_iff.1 h).1
  by_cases hj : j = i
  · subst hj
    have h2 : (l.set j b)[j]? = some b := List.getElem?_set_self hi
    rw [(at_b h2).1, hb]
    simp
  · have : (l.set i b)[j]? = l[j]? := List.getElem?_set_ne (Ne.symm hj)
    simp only [car, this, hj, decide_false, Bool.or_false]
theorem one_set {l : Str} {i : Nat} (h : l[i]? = some 120) (j : Nat) : one (l.set i 49) j = (one l j || decide (j = i)) := by
  have hi := (List.getElem?_eq_some_iff.1 h).1
  by_cases hj : j = i
  · subst hj
    have h2 : (l.set j 49)[j]? = some 49 := List.getElem?_set_self hi
    rw [(at_b h2).2]
    simp
  · have : (l.set i 49)[j]? = l[j]? := List.getElem?_set_ne (Ne.symm hj)
    simp only [one, this, hj, decide_false, Bool.or_false]
theorem one_set0 {l : Str} {i : Nat} (h : l[i]? = some 120) (j : Nat) : one (l.set i 48) j = one l j := by
  have hi := (List.getElem?_eq_some_iff.1 h).1
  by_cases hj : j = i
  · subst hj
    have h2 : (l.set j 48)[j]? = some 48 := List.getElem?_set_self hi
    rw [(at_b h2).2, (at_b h).2]
    rfl
  · have : (l.set i 48)[j]? = l[j]? := List.getElem?_set_ne (Ne.symm hj)
    simp only [one, this]
end Go.Proofs.YtaiondckookpiaaDoor
