/- The walks and the plain laws that a law of spaces needs, part 5 of 6. -/
import Derived.Test.YtaiondckookpiaaDoorPMD
set_option linter.unusedVariables false
set_option linter.unusedSimpArgs false
namespace Go.Proofs.YtaiondckookpiaaDoor
open Go Go.Vx Go.Shelf
set_option maxRecDepth 100000 in
set_option maxHeartbeats 8000000 in
theorem parse2_at (b : Int) (s : Str) : FSpec Tryd.prog T 13 [.i .i64 b, .s s] (POut (parO b s)) := by
  refine FSpec.of_deferK 7 tok Tryd.func13 rfl Tryd.call13 (by simp) def_parse (zd1 := [.i .i64 0, .nilS]) (zd2 := [.i .i64 3]) rfl rfl (by simp [Value.oneCell']) (by simp [Value.oneCell']) rfl ?_
  by_cases hlong : 33024 < s.length
  · rw [parO_long hlong]
    (try (conv => whnf)); repeat' (first | refine Ok.seq ?_ | refine OkL.cons ?_ | ((first | refine Ok.region tok ?_ | refine Ok.region_tree (id := 31) tok follows [(2, 6, []), (5, 6, []), (2, 11, []), (5, 11, []), (6, 11, []), (10, 11, [])] (.q 0 (.q 1 (.q 2 (.q 3 (.q 4 (.alt 5 (.alt 6 (.q 7 (.q 8 (.q 9 (.l 10 (.l 11 (.q 12 .nil)))))) (.alt 10 (.l 6 (.q 7 (.q 8 (.q 9 (.l 11 (.q 12 .nil)))))) .nil)) (.alt 10 (.l 5 (.l 6 (.q 7 (.q 8 (.q 9 (.l 11 (.q 12 .nil))))))) .nil))))))) (by kernel_rfl) ?_ | refine Ok.region_draw tok follows (by kernel_rfl) ?_ | refine Ok.cond ?_); conv => whnf) | refine Ok.block ?_ | ((first | refine Ok.skip ?_ | refine Ok.exit ?_ | refine Ok.ret ?_ | refine nI ?_ | refine ix _ (by assumption) ?_ | refine ixI (by omega) (by assumption) ?_ | refine ix_new _ (by omega) fun _ _ => ?_ | refine ixI_new (by omega) (by omega) fun _ _ => ?_ | refine ⟨_, by assumption, ?_⟩ | refine Alt2.l (aI ?_) | refine Alt2.r (aI ?_)); conv => whnf) | (refine Ok.scope ?_) | ((first | refine Ok.label ?_ | refine rd rfl (by assumption) ?_ | refine ⟨_, .inl ⟨rfl, rfl⟩, ?_⟩ | refine ⟨_, _, rfl, rfl, ?_⟩); conv => whnf) | (refine ⟨fun _ => ?_, fun _ => ?_⟩ <;> (conv => whnf) <;> (try (exfalso; omega))) | ((first | refine aJ ?_ | refine num_any ?_ | refine ⟨_, rfl, ?_⟩); conv => whnf) | (exact True.intro) | (refine And.intro ?_ ?_ <;> (conv => whnf)) | fail)
    refine Or.inl ?_; (conv => whnf)
    exact ⟨rfl, _, rfl, PSp.nil 0⟩
  by_cases hb : b < 1 ∨ 256 < b
  · rw [parO_arg hlong hb]
    (try (conv => whnf)); repeat' (first | refine Ok.seq ?_ | refine OkL.cons ?_ | ((first | refine Ok.region tok ?_ | refine Ok.region_tree (id := 31) tok follows [(2, 6, []), (5, 6, []), (2, 11, []), (5, 11, []), (6, 11, []), (10, 11, [])] (.q 0 (.q 1 (.q 2 (.q 3 (.q 4 (.alt 5 (.alt 6 (.q 7 (.q 8 (.q 9 (.l 10 (.l 11 (.q 12 .nil)))))) (.alt 10 (.l 6 (.q 7 (.q 8 (.q 9 (.l 11 (.q 12 .nil)))))) .nil)) (.alt 10 (.l 5 (.l 6 (.q 7 (.q 8 (.q 9 (.l 11 (.q 12 .nil))))))) .nil))))))) (by kernel_rfl) ?_ | refine Ok.region_draw tok follows (by kernel_rfl) ?_ | refine Ok.cond ?_); conv => whnf) | refine Ok.block ?_ | ((first | refine Ok.skip ?_ | refine Ok.exit ?_ | refine Ok.ret ?_ | refine nI ?_ | refine ix _ (by assumption) ?_ | refine ixI (by omega) (by assumption) ?_ | refine ix_new _ (by omega) fun _ _ => ?_ | refine ixI_new (by omega) (by omega) fun _ _ => ?_ | refine ⟨_, by assumption, ?_⟩ | refine Alt2.l (aI ?_) | refine Alt2.r (aI ?_)); conv => whnf) | (refine Ok.scope ?_) | ((first | refine Ok.label ?_ | refine rd rfl (by assumption) ?_ | refine ⟨_, .inl ⟨rfl, rfl⟩, ?_⟩ | refine ⟨_, _, rfl, rfl, ?_⟩); conv => whnf) | (refine ⟨fun _ => ?_, fun _ => ?_⟩ <;> (conv => whnf) <;> (try (exfalso; omega))) | ((first | refine aJ ?_ | refine num_any ?_ | refine ⟨_, rfl, ?_⟩); conv => whnf) | (exact True.intro) | (refine And.intro ?_ ?_ <;> (conv => whnf)) | fail)
    all_goals
      refine Or.inl ?_; (conv => whnf)
      exact ⟨rfl, _, rfl, PSp.nil 0⟩
  have hnb : noneB b = b := by unfold noneB; rw [if_neg hb]
  have hnone := none_at b
  rw [hnb] at hnone
  by_cases hnn : s = [110, 111, 110, 101]
  · rw [parO_none hlong hb hnn]
    (try (conv => whnf)); repeat' (first | refine Ok.seq ?_ | refine OkL.cons ?_ | ((first | refine Ok.region tok ?_ | refine Ok.region_tree (id := 31) tok follows [(2, 6, []), (5, 6, []), (2, 11, []), (5, 11, []), (6, 11, []), (10, 11, [])] (.q 0 (.q 1 (.q 2 (.q 3 (.q 4 (.alt 5 (.alt 6 (.q 7 (.q 8 (.q 9 (.l 10 (.l 11 (.q 12 .nil)))))) (.alt 10 (.l 6 (.q 7 (.q 8 (.q 9 (.l 11 (.q 12 .nil)))))) .nil)) (.alt 10 (.l 5 (.l 6 (.q 7 (.q 8 (.q 9 (.l 11 (.q 12 .nil))))))) .nil))))))) (by kernel_rfl) ?_ | refine Ok.region_draw tok follows (by kernel_rfl) ?_ | refine Ok.cond ?_); conv => whnf) | refine Ok.block ?_ | ((first | refine Ok.skip ?_ | refine Ok.exit ?_ | refine Ok.ret ?_ | refine nI ?_ | refine ix _ (by assumption) ?_ | refine ixI (by omega) (by assumption) ?_ | refine ix_new _ (by omega) fun _ _ => ?_ | refine ixI_new (by omega) (by omega) fun _ _ => ?_ | refine ⟨_, by assumption, ?_⟩); conv => whnf) | (refine Or.inr (Or.inl ?_); (conv => whnf); (repeat (refine aI ?_; conv => whnf)); refine ⟨_, hnone, ?_⟩; rintro _ _ ⟨rfl, rfl⟩ <;> (conv => whnf)) | ((first | refine Alt2.l (aI ?_) | refine Alt2.r (aI ?_)); conv => whnf) | (refine Ok.scope ?_) | ((first | refine Ok.label ?_ | refine rd rfl (by assumption) ?_ | refine ⟨_, .inl ⟨rfl, rfl⟩, ?_⟩ | refine ⟨_, _, rfl, rfl, ?_⟩); conv => whnf) | (refine ⟨fun _ => ?_, fun _ => ?_⟩ <;> (conv => whnf) <;> (try (exfalso; omega))) | ((first | refine aJ ?_ | refine num_any ?_ | refine ⟨_, rfl, ?_⟩); conv => whnf) | (exact True.intro) | (refine And.intro ?_ ?_ <;> (conv => whnf)) | fail)
    · refine Or.inl ?_; (conv => whnf)
      exact ⟨rfl, _, rfl, PSp.nil b⟩
    · exact absurd hnn (by assumption)
  have hLn := cutL_len 43 s
  have hLl : ((cutL 43 s).map srow).length = (cutL 43 s).length := by simp
  have hLm : ∀ x ∈ cutL 43 s, x.length ≤ s.length := fun x hx => cutL_mem 43 hx
  have hcl : ∀ i, cntP ((pieces s).take i) ≤ (pieces s).length * (s.length + 1) := cntP_le fun m hm => (pieces_mem hm).2.1
  have hpl := pieces_len s
  have hmul : (pieces s).length * (s.length + 1) ≤ 33025 * 33025 := Nat.mul_le_mul (by omega) (by omega)
  (try (conv => whnf)); repeat' (first | refine Ok.seq ?_ | refine OkL.cons ?_ | ((first | refine Ok.region tok ?_ | refine Ok.region_tree (id := 31) tok follows [(2, 6, []), (5, 6, []), (2, 11, []), (5, 11, []), (6, 11, []), (10, 11, [])] (.q 0 (.q 1 (.q 2 (.q 3 (.q 4 (.alt 5 (.alt 6 (.q 7 (.q 8 (.q 9 (.l 10 (.l 11 (.q 12 .nil)))))) (.alt 10 (.l 6 (.q 7 (.q 8 (.q 9 (.l 11 (.q 12 .nil)))))) .nil)) (.alt 10 (.l 5 (.l 6 (.q 7 (.q 8 (.q 9 (.l 11 (.q 12 .nil))))))) .nil))))))) (by kernel_rfl) ?_ | refine Ok.region_draw tok follows (by kernel_rfl) ?_ | refine Ok.cond ?_); conv => whnf) | refine Ok.block ?_ | ((first | refine Ok.skip ?_ | refine Ok.exit ?_ | refine Ok.ret ?_ | refine nI ?_ | refine ix _ (by assumption) ?_ | refine ixI (by omega) (by assumption) ?_ | refine ix_new _ (by omega) fun _ _ => ?_ | refine ixI_new (by omega) (by omega) fun _ _ => ?_ | refine ⟨_, by assumption, ?_⟩); conv => whnf) | (refine Or.inr (Or.inl ?_); (conv => whnf); (repeat (refine aI ?_; conv => whnf)); refine ⟨_, hnone, ?_⟩; rintro _ _ ⟨rfl, rfl⟩ <;> (conv => whnf)) | ((first | refine Alt2.l (aI ?_) | refine Alt2.r (aI ?_)); conv => whnf) | (refine Ok.scope ?_) | ((first | refine Ok.label ?_ | refine rd rfl (by assumption) ?_ | refine ⟨_, .inl ⟨rfl, rfl⟩, ?_⟩ | refine ⟨_, _, rfl, rfl, ?_⟩); conv => whnf) | (refine ⟨fun _ => ?_, fun _ => ?_⟩ <;> (conv => whnf) <;> (try (exfalso; omega))) | ((first | refine aJ ?_ | refine num_any ?_ | refine ⟨_, rfl, ?_⟩); conv => whnf) | (exact True.intro) | (refine And.intro ?_ ?_ <;> (conv => whnf)) | fail)
  · exact absurd (by assumption) hnn
  refine OkL.nil ?_
  (conv => whnf)
  refine ⟨0, 1, rfl, rfl, by decide, by decide, by decide, rfl, ?_⟩
  have hsp : ∀ t : Str, ∀ c : UInt8, t.length ≤ s.length → FSpec Tryd.prog T 43 [.s t, .s [c]] fun d rows => d = .own 0 (cutL c t).length ∧ rows = [some (9, (cutL c t).map srow)] := fun t c h => splitAt t c (by omega)
  (try (conv => whnf)); repeat' (first | refine Ok.seq ?_ | refine OkL.cons ?_ | ((first | refine Ok.region tok ?_ | refine Ok.region_tree (id := 31) tok follows [(2, 6, []), (5, 6, []), (2, 11, []), (5, 11, []), (6, 11, []), (10, 11, [])] (.q 0 (.q 1 (.q 2 (.q 3 (.q 4 (.alt 5 (.alt 6 (.q 7 (.q 8 (.q 9 (.l 10 (.l 11 (.q 12 .nil)))))) (.alt 10 (.l 6 (.q 7 (.q 8 (.q 9 (.l 11 (.q 12 .nil)))))) .nil)) (.alt 10 (.l 5 (.l 6 (.q 7 (.q 8 (.q 9 (.l 11 (.q 12 .nil))))))) .nil))))))) (by kernel_rfl) ?_ | refine Ok.region_draw tok follows (by kernel_rfl) ?_ | refine Ok.cond ?_); conv => whnf) | refine Ok.block ?_ | ((first | refine Ok.skip ?_ | refine Ok.exit ?_ | refine Ok.ret ?_ | refine nI ?_ | refine ix _ (by assumption) ?_ | refine ixI (by omega) (by assumption) ?_ | refine ix_new _ (by omega) fun _ _ => ?_ | refine ixI_new (by omega) (by omega) fun _ _ => ?_ | refine ⟨_, by assumption, ?_⟩); conv => whnf) | (refine Or.inl ?_; (conv => whnf); (repeat (refine aI ?_; conv => whnf)); refine ⟨_, hsp s 43 (Nat.le_refl _), rfl, ?_⟩; conv => whnf) | (refine ⟨_, hsp s 43 (Nat.le_refl _), rfl, ?_⟩; conv => whnf) | (refine Or.inr (Or.inl ?_); (conv => whnf); (repeat (refine aI ?_; conv => whnf)); refine ⟨_, hsp s 43 (Nat.le_refl _), ?_⟩; rintro _ _ ⟨rfl, rfl⟩; conv => whnf) | ((first | refine Alt2.l (aI ?_) | refine Alt2.r (aI ?_)); conv => whnf) | (refine Ok.scope ?_) | ((first | refine Ok.label ?_ | refine rd rfl (by assumption) ?_ | refine ⟨_, .inl ⟨rfl, rfl⟩, ?_⟩ | refine ⟨_, _, rfl, rfl, ?_⟩); conv => whnf) | (refine ⟨fun _ => ?_, fun _ => ?_⟩ <;> (conv => whnf) <;> (try (exfalso; omega))) | ((first | refine aJ ?_ | refine num_any ?_ | refine ⟨_, rfl, ?_⟩); conv => whnf) | (exact True.intro) | (refine And.intro ?_ ?_ <;> (conv => whnf)) | fail)
  refine Ok.ghost 6 52 rfl ?_
  (conv => whnf)
  refine Ok.loopU [0, 4, 5, 37, 38] [6, 7, 39] 2 2 (fun (x : Nat × List LR) => [.own 1 x.2.length, .i .i64 (cntP ((pieces s).take x.1) : Nat), .i .i64 (x.1 : Nat)]) (fun _ b => b) (fun (x : Nat × List LR) (_ : Vx.Rows) => [some (9, (cutL 43 s).map srow), some (52, x.2.map lrow)]) (fun (x : Nat × List LR) => x.1 ≤ (cutL 43 s).length ∧ x.2.map LR.l = (pieces s).take x.1 ∧ OkP b ((pieces s).take x.1)) (fun (x : Nat × List LR) => (cutL 43 s).length - x.1) ((0, [])) (⟨Nat.zero_le _, by simp, by simp [OkP]⟩) ?_; (conv => whnf); refine ⟨by ((conv => whnf); first | rfl | (simp [envCat, List.take_of_length_le, crow, trow]; done) | (simp [envCat, List.take_of_length_le, crow, trow]; rw [IntKind.wrap_i64]; omega)), ?_⟩
  rintro ⟨i, lss⟩ ⟨hi, hls, hok⟩
  dsimp only at hi hls hok ⊢
  have hlsl : (lss.map lrow).length = lss.length := by simp
  have hlsn : lss.length ≤ 40000 := by
    have := congrArg List.length hls
    simp at this
    omega
  have hci := hcl i
  (conv => whnf)
  by_cases hil : i < (cutL 43 s).length
  · obtain ⟨x, hx⟩ : ∃ x, (cutL 43 s)[i]? = some x := ⟨_, List.getElem?_eq_getElem hil⟩
    have hpx := pieces_get hx
    have hxl := hLm x (List.mem_of_getElem? hx)
    have hnx := cntP_take hpx
    have hml := cutL_len 45 x
    have hmm : ((cutL 45 x).map srow).length = (cutL 45 x).length := by simp
    have hokx := okP_take (b := b) hpx hok
    have hwl : ∀ w ∈ cutL 45 x, w.length ≤ x.length := fun w hw => cutL_mem 45 hw
    have hbad : ∀ w ∈ cutL 45 x, ¬ OkW b w → ¬ OkP b (pieces s) := fun w hw h q => h (q _ (List.mem_of_getElem? hpx) w hw)
    have hsx := hsp x 45 hxl
    generalize cntP ((pieces s).take i) = K at *
    generalize hM : cutL 45 x = M at *
    (try (conv => whnf)); repeat' (first | refine Ok.seq ?_ | refine OkL.cons ?_ | ((first | refine Ok.region tok ?_ | refine Ok.region_tree (id := 31) tok follows [(2, 6, []), (5, 6, []), (2, 11, []), (5, 11, []), (6, 11, []), (10, 11, [])] (.q 0 (.q 1 (.q 2 (.q 3 (.q 4 (.alt 5 (.alt 6 (.q 7 (.q 8 (.q 9 (.l 10 (.l 11 (.q 12 .nil)))))) (.alt 10 (.l 6 (.q 7 (.q 8 (.q 9 (.l 11 (.q 12 .nil)))))) .nil)) (.alt 10 (.l 5 (.l 6 (.q 7 (.q 8 (.q 9 (.l 11 (.q 12 .nil))))))) .nil))))))) (by kernel_rfl) ?_ | refine Ok.region_draw tok follows (by kernel_rfl) ?_ | refine Ok.cond ?_); conv => whnf) | refine Ok.block ?_ | ((first | refine Ok.skip ?_ | refine Ok.exit ?_ | refine Ok.ret ?_ | refine nI ?_ | refine ix _ (by assumption) ?_ | refine ixI (by omega) (by assumption) ?_ | refine ix_new _ (by omega) fun _ _ => ?_ | refine ixI_new (by omega) (by omega) fun _ _ => ?_ | refine ⟨_, by assumption, ?_⟩); conv => whnf) | (refine Or.inl ?_; (conv => whnf); (repeat (refine aI ?_; conv => whnf)); refine ⟨_, hsx, rfl, ?_⟩; conv => whnf) | (refine ⟨_, hsx, rfl, ?_⟩; conv => whnf) | (refine Or.inr (Or.inl ?_); (conv => whnf); (repeat (refine aI ?_; conv => whnf)); refine ⟨_, hsx, ?_⟩; rintro _ _ ⟨rfl, rfl⟩; conv => whnf) | ((first | refine Alt2.l (aI ?_) | refine Alt2.r (aI ?_)); conv => whnf) | (refine Ok.scope ?_) | ((first | refine Ok.label ?_ | refine rd rfl (by assumption) ?_ | refine ⟨_, .inl ⟨rfl, rfl⟩, ?_⟩ | refine ⟨_, _, rfl, rfl, ?_⟩); conv => whnf) | (refine ⟨fun _ => ?_, fun _ => ?_⟩ <;> (conv => whnf) <;> (try (exfalso; omega))) | ((first | refine aJ ?_ | refine num_any ?_ | refine ⟨_, rfl, ?_⟩); conv => whnf) | (exact True.intro) | (refine And.intro ?_ ?_ <;> (conv => whnf)) | fail)
    refine Ok.ghost 10 69 rfl ?_
    (conv => whnf)
    refine Ok.loopU [0, 4, 5, 6, 7, 37, 38, 39, 44, 45] [10, 46] 4 2 (fun (j : Nat) => [.own 3 j, .i .i64 (j : Nat)]) (fun _ b => b) (fun (j : Nat) (_ : Vx.Rows) => [some (9, (cutL 43 s).map srow), some (52, lss.map lrow), some (9, M.map srow), some (69, (M.take j).map crow)]) (fun (j : Nat) => j ≤ M.length ∧ ∀ w ∈ M.take j, OkW b w) (fun (j : Nat) => M.length - j) (0) (⟨Nat.zero_le _, by simp⟩) ?_; (conv => whnf); refine ⟨by ((conv => whnf); first | rfl | (simp [envCat, List.take_of_length_le, crow, trow]; done) | (simp [envCat, List.take_of_length_le, crow, trow]; rw [IntKind.wrap_i64]; omega)), ?_⟩
    rintro j ⟨hj, hw⟩
    have hjm : ((M.take j).map crow).length = j := by simp; omega
    (conv => whnf)
    by_cases hjl : j < M.length
    · obtain ⟨y, hy⟩ : ∃ y, M[j]? = some y := ⟨_, List.getElem?_eq_getElem hjl⟩
      have hyI : M[((j : Nat) : Int).toNat]? = some y := hy
      have hym := List.mem_of_getElem? hy
      have hyl := hwl y hym
      have hpy := parse_at y
      by_cases hgood : OkW b y
      · have hg1 := hgood.1
        rw [zer_of hgood.2, perr_of hgood.2] at hpy
        (try (conv => whnf)); repeat' (first | refine Ok.seq ?_ | refine OkL.cons ?_ | ((first | refine Ok.region tok ?_ | refine Ok.region_tree (id := 31) tok follows [(2, 6, []), (5, 6, []), (2, 11, []), (5, 11, []), (6, 11, []), (10, 11, [])] (.q 0 (.q 1 (.q 2 (.q 3 (.q 4 (.alt 5 (.alt 6 (.q 7 (.q 8 (.q 9 (.l 10 (.l 11 (.q 12 .nil)))))) (.alt 10 (.l 6 (.q 7 (.q 8 (.q 9 (.l 11 (.q 12 .nil)))))) .nil)) (.alt 10 (.l 5 (.l 6 (.q 7 (.q 8 (.q 9 (.l 11 (.q 12 .nil))))))) .nil))))))) (by kernel_rfl) ?_ | refine Ok.region_draw tok follows (by kernel_rfl) ?_ | refine Ok.cond ?_); conv => whnf) | refine Ok.block ?_ | ((first | refine Ok.skip ?_ | refine Ok.exit ?_ | refine Ok.ret ?_ | refine nI ?_ | refine ix _ (by assumption) ?_ | refine ixI (by omega) (by assumption) ?_ | refine ix_new _ (by omega) fun _ _ => ?_ | refine ixI_new (by omega) (by omega) fun _ _ => ?_ | refine ⟨_, by assumption, ?_⟩); conv => whnf) | (refine Or.inr (Or.inl ?_); (conv => whnf); (repeat (refine aI ?_; conv => whnf)); refine ⟨_, hpy, ?_⟩; rintro _ _ ⟨rfl, rfl⟩ <;> (conv => whnf)) | ((first | refine Alt2.l (aI ?_) | refine Alt2.r (aI ?_)); conv => whnf) | (refine Ok.scope ?_) | ((first | refine Ok.label ?_ | refine rd rfl (by assumption) ?_ | refine ⟨_, .inl ⟨rfl, rfl⟩, ?_⟩ | refine ⟨_, _, rfl, rfl, ?_⟩); conv => whnf) | (refine ⟨fun _ => ?_, fun _ => ?_⟩ <;> (conv => whnf) <;> (try (exfalso; omega))) | ((first | refine aJ ?_ | refine num_any ?_ | refine ⟨_, rfl, ?_⟩); conv => whnf) | (exact True.intro) | (refine And.intro ?_ ?_ <;> (conv => whnf)) | fail)
        refine ⟨j + 1, by omega, ⟨by omega, fun w hw2 => ?_⟩, ?_⟩
        · rw [take_snoc hy] at hw2
          rcases List.mem_append.1 hw2 with h | h
          · exact hw w h
          · simp at h; rw [h]; exact hgood
        · rw [take_snoc hy]
          (conv => whnf)
          simp [envCat]
          omega
      · have hno := hbad y hym hgood
        by_cases hoc : okC y
        · have hne : (y.length : Int) ≠ b := fun e => hgood ⟨e, hoc⟩
          rw [perr_of hoc] at hpy
          (try (conv => whnf)); repeat' (first | refine Ok.seq ?_ | refine OkL.cons ?_ | ((first | refine Ok.region tok ?_ | refine Ok.region_tree (id := 31) tok follows [(2, 6, []), (5, 6, []), (2, 11, []), (5, 11, []), (6, 11, []), (10, 11, [])] (.q 0 (.q 1 (.q 2 (.q 3 (.q 4 (.alt 5 (.alt 6 (.q 7 (.q 8 (.q 9 (.l 10 (.l 11 (.q 12 .nil)))))) (.alt 10 (.l 6 (.q 7 (.q 8 (.q 9 (.l 11 (.q 12 .nil)))))) .nil)) (.alt 10 (.l 5 (.l 6 (.q 7 (.q 8 (.q 9 (.l 11 (.q 12 .nil))))))) .nil))))))) (by kernel_rfl) ?_ | refine Ok.region_draw tok follows (by kernel_rfl) ?_ | refine Ok.cond ?_); conv => whnf) | refine Ok.block ?_ | ((first | refine Ok.skip ?_ | refine Ok.exit ?_ | refine Ok.ret ?_ | refine nI ?_ | refine ix _ (by assumption) ?_ | refine ixI (by omega) (by assumption) ?_ | refine ix_new _ (by omega) fun _ _ => ?_ | refine ixI_new (by omega) (by omega) fun _ _ => ?_ | refine ⟨_, by assumption, ?_⟩); conv => whnf) | (refine Or.inr (Or.inl ?_); (conv => whnf); (repeat (refine aI ?_; conv => whnf)); refine ⟨_, hpy, ?_⟩; rintro _ _ ⟨rfl, rfl⟩ <;> (conv => whnf)) | ((first | refine Alt2.l (aI ?_) | refine Alt2.r (aI ?_)); conv => whnf) | (refine Ok.scope ?_) | ((first | refine Ok.label ?_ | refine rd rfl (by assumption) ?_ | refine ⟨_, .inl ⟨rfl, rfl⟩, ?_⟩ | refine ⟨_, _, rfl, rfl, ?_⟩); conv => whnf) | (refine ⟨fun _ => ?_, fun _ => ?_⟩ <;> (conv => whnf) <;> (try (exfalso; omega))) | ((first | refine aJ ?_ | refine num_any ?_ | refine ⟨_, rfl, ?_⟩); conv => whnf) | (exact True.intro) | (refine And.intro ?_ ?_ <;> (conv => whnf)) | fail)
          all_goals first
            | (rw [parO_word hlong hb hnn hno]
               refine Or.inl ?_; (conv => whnf)
               exact ⟨rfl, _, rfl, PSp.nil 0⟩)
            | (exfalso; omega)
        · have hpe := perr_not hoc
          generalize perr y = E at *
          (try (conv => whnf)); repeat' (first | refine Ok.seq ?_ | refine OkL.cons ?_ | ((first | refine Ok.region tok ?_ | refine Ok.region_tree (id := 31) tok follows [(2, 6, []), (5, 6, []), (2, 11, []), (5, 11, []), (6, 11, []), (10, 11, [])] (.q 0 (.q 1 (.q 2 (.q 3 (.q 4 (.alt 5 (.alt 6 (.q 7 (.q 8 (.q 9 (.l 10 (.l 11 (.q 12 .nil)))))) (.alt 10 (.l 6 (.q 7 (.q 8 (.q 9 (.l 11 (.q 12 .nil)))))) .nil)) (.alt 10 (.l 5 (.l 6 (.q 7 (.q 8 (.q 9 (.l 11 (.q 12 .nil))))))) .nil))))))) (by kernel_rfl) ?_ | refine Ok.region_draw tok follows (by kernel_rfl) ?_ | refine Ok.cond ?_); conv => whnf) | refine Ok.block ?_ | ((first | refine Ok.skip ?_ | refine Ok.exit ?_ | refine Ok.ret ?_ | refine nI ?_ | refine ix _ (by assumption) ?_ | refine ixI (by omega) (by assumption) ?_ | refine ix_new _ (by omega) fun _ _ => ?_ | refine ixI_new (by omega) (by omega) fun _ _ => ?_ | refine ⟨_, by assumption, ?_⟩); conv => whnf) | (refine Or.inr (Or.inl ?_); (conv => whnf); (repeat (refine aI ?_; conv => whnf)); refine ⟨_, hpy, ?_⟩; rintro _ _ ⟨rfl, rfl⟩ <;> (conv => whnf)) | ((first | refine Alt2.l (aI ?_) | refine Alt2.r (aI ?_)); conv => whnf) | (refine Ok.scope ?_) | ((first | refine Ok.label ?_ | refine rd rfl (by assumption) ?_ | refine ⟨_, .inl ⟨rfl, rfl⟩, ?_⟩ | refine ⟨_, _, rfl, rfl, ?_⟩); conv => whnf) | (refine ⟨fun _ => ?_, fun _ => ?_⟩ <;> (conv => whnf) <;> (try (exfalso; omega))) | ((first | refine aJ ?_ | refine num_any ?_ | refine ⟨_, rfl, ?_⟩); conv => whnf) | (exact True.intro) | (refine And.intro ?_ ?_ <;> (conv => whnf)) | fail)
          all_goals first
            | (rw [parO_word hlong hb hnn hno]
               refine Or.inl ?_; (conv => whnf)
               exact ⟨rfl, _, rfl, PSp.nil 0⟩)
            | (exfalso; omega)
    · have hje : j = M.length := by omega
      subst hje
      rw [List.take_length] at hw hjm ⊢
      have hok2 := hokx hw
      refine Ok.pub 3 ?_
      (conv => whnf)
      (try (conv => whnf)); repeat' (first | refine Ok.seq ?_ | refine OkL.cons ?_ | ((first | refine Ok.region tok ?_ | refine Ok.region_tree (id := 31) tok follows [(2, 6, []), (5, 6, []), (2, 11, []), (5, 11, []), (6, 11, []), (10, 11, [])] (.q 0 (.q 1 (.q 2 (.q 3 (.q 4 (.alt 5 (.alt 6 (.q 7 (.q 8 (.q 9 (.l 10 (.l 11 (.q 12 .nil)))))) (.alt 10 (.l 6 (.q 7 (.q 8 (.q 9 (.l 11 (.q 12 .nil)))))) .nil)) (.alt 10 (.l 5 (.l 6 (.q 7 (.q 8 (.q 9 (.l 11 (.q 12 .nil))))))) .nil))))))) (by kernel_rfl) ?_ | refine Ok.region_draw tok follows (by kernel_rfl) ?_ | refine Ok.cond ?_); conv => whnf) | refine Ok.block ?_ | ((first | refine Ok.skip ?_ | refine Ok.exit ?_ | refine Ok.ret ?_ | refine nI ?_ | refine ix _ (by assumption) ?_ | refine ixI (by omega) (by assumption) ?_ | refine ix_new _ (by omega) fun _ _ => ?_ | refine ixI_new (by omega) (by omega) fun _ _ => ?_ | refine ⟨_, by assumption, ?_⟩ | refine Alt2.l (aI ?_) | refine Alt2.r (aI ?_)); conv => whnf) | (refine Ok.scope ?_) | ((first | refine Ok.label ?_ | refine rd rfl (by assumption) ?_ | refine ⟨_, .inl ⟨rfl, rfl⟩, ?_⟩ | refine ⟨_, _, rfl, rfl, ?_⟩); conv => whnf) | (refine ⟨fun _ => ?_, fun _ => ?_⟩ <;> (conv => whnf) <;> (try (exfalso; omega))) | ((first | refine aJ ?_ | refine num_any ?_ | refine ⟨_, rfl, ?_⟩); conv => whnf) | (exact True.intro) | (refine And.intro ?_ ?_ <;> (conv => whnf)) | fail)
      refine ⟨(i + 1, lss ++ [⟨M, List.drop M.length (M.map crow)⟩]), by dsimp only; omega, ⟨by dsimp only; omega, ?_, hok2⟩, ?_⟩
      · dsimp only
        rw [List.map_append, hls, take_snoc hpx]
        rfl
      · dsimp only
        rw [hnx]
        (conv => whnf)
        simp [envCat, List.take_of_length_le]
        rw [IntKind.wrap_i64] <;> omega
  · have hie : i = (cutL 43 s).length := by omega
    subst hie
    rw [pieces_all] at hok hci hls
    rw [pieces_all]
    have hgood := trms_good (n := b) (fun m hm => (pieces_mem hm).1) hok
    have hne : ∀ m ∈ pieces s, m ≠ [] := fun m hm => (pieces_mem hm).1
    have hlsL : lss.length = (cutL 43 s).length := by
      have := congrArg List.length hls
      simp [pieces] at this
      exact this
    by_cases hmany : 128 < cntP (pieces s)
    · rw [parO_many hlong hb hnn hok hmany]
      (try (conv => whnf)); repeat' (first | refine Ok.seq ?_ | refine OkL.cons ?_ | ((first | refine Ok.region tok ?_ | refine Ok.region_tree (id := 31) tok follows [(2, 6, []), (5, 6, []), (2, 11, []), (5, 11, []), (6, 11, []), (10, 11, [])] (.q 0 (.q 1 (.q 2 (.q 3 (.q 4 (.alt 5 (.alt 6 (.q 7 (.q 8 (.q 9 (.l 10 (.l 11 (.q 12 .nil)))))) (.alt 10 (.l 6 (.q 7 (.q 8 (.q 9 (.l 11 (.q 12 .nil)))))) .nil)) (.alt 10 (.l 5 (.l 6 (.q 7 (.q 8 (.q 9 (.l 11 (.q 12 .nil))))))) .nil))))))) (by kernel_rfl) ?_ | refine Ok.region_draw tok follows (by kernel_rfl) ?_ | refine Ok.cond ?_); conv => whnf) | refine Ok.block ?_ | ((first | refine Ok.skip ?_ | refine Ok.exit ?_ | refine Ok.ret ?_ | refine nI ?_ | refine ix _ (by assumption) ?_ | refine ixI (by omega) (by assumption) ?_ | refine ix_new _ (by omega) fun _ _ => ?_ | refine ixI_new (by omega) (by omega) fun _ _ => ?_ | refine ⟨_, by assumption, ?_⟩ | refine Alt2.l (aI ?_) | refine Alt2.r (aI ?_)); conv => whnf) | (refine Ok.scope ?_) | ((first | refine Ok.label ?_ | refine rd rfl (by assumption) ?_ | refine ⟨_, .inl ⟨rfl, rfl⟩, ?_⟩ | refine ⟨_, _, rfl, rfl, ?_⟩); conv => whnf) | (refine ⟨fun _ => ?_, fun _ => ?_⟩ <;> (conv => whnf) <;> (try (exfalso; omega))) | ((first | refine aJ ?_ | refine num_any ?_ | refine ⟨_, rfl, ?_⟩); conv => whnf) | (exact True.intro) | (refine And.intro ?_ ?_ <;> (conv => whnf)) | fail)
      · refine Or.inl ?_; (conv => whnf)
        exact ⟨rfl, _, rfl, PSp.nil 0⟩
      all_goals exact absurd hmany (by omega)
    · rw [parO_form hlong hb hnn hok hmany]
      have hsz := szT_trms hne
      (try (conv => whnf)); repeat' (first | refine Ok.seq ?_ | refine OkL.cons ?_ | ((first | refine Ok.region tok ?_ | refine Ok.cond ?_); conv => whnf) | refine Ok.block ?_ | ((first | refine Ok.skip ?_ | refine Ok.exit ?_ | refine Ok.ret ?_ | refine nI ?_ | refine ix _ (by assumption) ?_ | refine ixI (by omega) (by assumption) ?_ | refine ix_new _ (by omega) fun _ _ => ?_ | refine ixI_new (by omega) (by omega) fun _ _ => ?_ | refine ⟨_, by assumption, ?_⟩ | refine Alt2.l (aI ?_) | refine Alt2.r (aI ?_)); conv => whnf) | (refine Ok.scope ?_) | ((first | refine Ok.label ?_ | refine rd rfl (by assumption) ?_ | refine ⟨_, .inl ⟨rfl, rfl⟩, ?_⟩ | refine ⟨_, _, rfl, rfl, ?_⟩); conv => whnf) | (refine ⟨fun _ => ?_, fun _ => ?_⟩ <;> (conv => whnf) <;> (try (exfalso; omega))) | ((first | refine aJ ?_ | refine num_any ?_ | refine ⟨_, rfl, ?_⟩); conv => whnf) | fail)
      refine Ok.ghost 15 81 rfl ?_
      (conv => whnf)
      refine Ok.loopU [0, 4, 5, 81, 82] [15, 83] 3 2 (fun (x : Nat × List TR) => [.own 2 x.2.length, .i .i64 (x.1 : Nat)]) (fun _ b => b) (fun (x : Nat × List TR) (_ : Vx.Rows) => [some (9, (cutL 43 s).map srow), some (52, lss.map lrow), some (81, x.2.map trow)]) (fun (x : Nat × List TR) => x.1 ≤ (cutL 43 s).length ∧ x.2.map TR.t = trms ((pieces s).take x.1) ∧ x.2.length ≤ x.1) (fun (x : Nat × List TR) => (cutL 43 s).length - x.1) ((0, [])) (⟨Nat.zero_le _, by simp [trms], by simp⟩) ?_; (conv => whnf); refine ⟨by ((conv => whnf); first | rfl | (simp [envCat, List.take_of_length_le, crow, trow]; done) | (simp [envCat, List.take_of_length_le, crow, trow]; rw [IntKind.wrap_i64]; omega)), ?_⟩
      rintro ⟨i, l⟩ ⟨hi, hl, hll⟩
      dsimp only at hi hl hll ⊢
      have hlm : (l.map trow).length = l.length := by simp
      (conv => whnf)
      by_cases hil : i < (cutL 43 s).length
      · obtain ⟨x, hx⟩ : ∃ x, (cutL 43 s)[i]? = some x := ⟨_, List.getElem?_eq_getElem hil⟩
        have hpx := pieces_get hx
        have hxl := hLm x (List.mem_of_getElem? hx)
        have hml := cutL_len 45 x
        have hoks := hok _ (List.mem_of_getElem? hpx)
        obtain ⟨p, less, hm⟩ : ∃ p less, cutL 45 x = p :: less := by
          cases h : cutL 45 x with
          | nil => exact absurd h (cutL_ne _ _)
          | cons a l => exact ⟨a, l, rfl⟩
        rw [hm] at hpx hml hoks
        simp at hml
        obtain ⟨rm1, hlx⟩ := lrows hls hpx
        have hp := hoks p (by simp)
        have hlo : ∀ m ∈ less, CT m := fun m h => (hoks m (by simp [h])).2.1
        have hlm2 : (less.map crow).length = less.length := by simp
        have hsl : ∀ rm : List (List D), List.drop 1 (List.take (List.map crow (p :: less)).length (List.map crow (p :: less) ++ rm)) = less.map crow := fun rm => by
          rw [List.take_left' rfl]
          rfl
        have hnew : ∀ rl room, rl = List.map lrow [⟨less, List.drop (List.map crow (p :: less)).length (List.map crow (p :: less) ++ rm1)⟩] → FSpec Tryd.prog T 45 [.agg (crow p), .lst 52 rl room] (NewT p less) := fun rl room h => by
          have := newTerm_at p [⟨less, List.drop (List.map crow (p :: less)).length (List.map crow (p :: less) ++ rm1)⟩] (room := room) ⟨hp.2.1, hp.2.2⟩ (by simpa using hlo) (by simp [allL]; omega) (by simp) h
          rwa [show allL [⟨less, List.drop (List.map crow (p :: less)).length (List.map crow (p :: less) ++ rm1)⟩] = less by simp [allL]] at this
        (try (conv => whnf)); repeat' (first | refine Ok.seq ?_ | refine OkL.cons ?_ | ((first | refine Ok.region tok ?_ | refine Ok.region_tree (id := 31) tok follows [(2, 6, []), (5, 6, []), (2, 11, []), (5, 11, []), (6, 11, []), (10, 11, [])] (.q 0 (.q 1 (.q 2 (.q 3 (.q 4 (.alt 5 (.alt 6 (.q 7 (.q 8 (.q 9 (.l 10 (.l 11 (.q 12 .nil)))))) (.alt 10 (.l 6 (.q 7 (.q 8 (.q 9 (.l 11 (.q 12 .nil)))))) .nil)) (.alt 10 (.l 5 (.l 6 (.q 7 (.q 8 (.q 9 (.l 11 (.q 12 .nil))))))) .nil))))))) (by kernel_rfl) ?_ | refine Ok.region_draw tok follows (by kernel_rfl) ?_ | refine Ok.cond ?_); conv => whnf) | refine Ok.block ?_ | ((first | refine Ok.skip ?_ | refine Ok.exit ?_ | refine Ok.ret ?_ | refine nI ?_ | refine ix _ (by assumption) ?_ | refine ixI (by omega) (by assumption) ?_ | refine ix_new _ (by omega) fun _ _ => ?_ | refine ixI_new (by omega) (by omega) fun _ _ => ?_ | refine ⟨_, by assumption, ?_⟩); conv => whnf) | (refine Or.inr (Or.inl ?_); (conv => whnf); (repeat (refine aI ?_; conv => whnf)); refine ⟨_, hnew _ _ (by simp only [hsl]; rfl) , ?_⟩; rintro _ _ ⟨rfl, (⟨ht, rfl⟩ | ⟨t, rm3, ht, rfl⟩)⟩ <;> (conv => whnf)) | ((first | refine Alt2.l (aI ?_) | refine Alt2.r (aI ?_)); conv => whnf) | (refine Ok.scope ?_) | ((first | refine Ok.label ?_ | refine rd rfl (by assumption) ?_ | refine ⟨_, .inl ⟨rfl, rfl⟩, ?_⟩ | refine ⟨_, _, rfl, rfl, ?_⟩); conv => whnf) | (refine ⟨fun _ => ?_, fun _ => ?_⟩ <;> (conv => whnf) <;> (try (exfalso; omega))) | ((first | refine aJ ?_ | refine num_any ?_ | refine ⟨_, rfl, ?_⟩); conv => whnf) | (exact True.intro) | (refine And.intro ?_ ?_ <;> (conv => whnf)) | fail)
        all_goals first
          | (rename_i h; exact absurd trivial h)
          | (refine ⟨(i + 1, l), by dsimp only; omega, ⟨by dsimp only; omega, by dsimp only; rw [trms_none hpx (show trm (p :: less) = none from ht)]; exact hl, by dsimp only; omega⟩, ?_⟩
             (conv => whnf)
             rfl)
          | (refine ⟨(i + 1, l ++ [⟨t, rm3⟩]), by dsimp only; omega, ⟨by dsimp only; omega, by dsimp only; rw [trms_some hpx (show trm (p :: less) = some t from ht), List.map_append, hl]; rfl, by simp; omega⟩, ?_⟩
             (conv => whnf)
             simp [envCat])
      · have hie : i = (cutL 43 s).length := by omega
        subst hie
        rw [pieces_all] at hl
        have hto : ∀ x ∈ l, TO b.toNat x := fun x hx => (hgood _ (mem_of_map hl hx)).to (by
          have := szT_mem (mem_of_map hl hx)
          omega)
        have hll2 : l.length ≤ 1048576 := by
          have := szT_len (trms (pieces s))
          rw [← hl, List.length_map] at this
          omega
        have hsz2 : szT (formT (l.map TR.t)) ≤ 128 := by
          rw [hl]
          have := szT_form (trms (pieces s))
          omega
        have htk : List.take l.length (l.map trow) = l.map trow := List.take_of_length_le (by simp)
        (try (conv => whnf)); repeat' (first | refine Ok.seq ?_ | refine OkL.cons ?_ | ((first | refine Ok.region tok ?_ | refine Ok.region_tree (id := 31) tok follows [(2, 6, []), (5, 6, []), (2, 11, []), (5, 11, []), (6, 11, []), (10, 11, [])] (.q 0 (.q 1 (.q 2 (.q 3 (.q 4 (.alt 5 (.alt 6 (.q 7 (.q 8 (.q 9 (.l 10 (.l 11 (.q 12 .nil)))))) (.alt 10 (.l 6 (.q 7 (.q 8 (.q 9 (.l 11 (.q 12 .nil)))))) .nil)) (.alt 10 (.l 5 (.l 6 (.q 7 (.q 8 (.q 9 (.l 11 (.q 12 .nil))))))) .nil))))))) (by kernel_rfl) ?_ | refine Ok.region_draw tok follows (by kernel_rfl) ?_ | refine Ok.cond ?_); conv => whnf) | refine Ok.block ?_ | ((first | refine Ok.skip ?_ | refine Ok.exit ?_ | refine Ok.ret ?_ | refine nI ?_ | refine ix _ (by assumption) ?_ | refine ixI (by omega) (by assumption) ?_ | refine ix_new _ (by omega) fun _ _ => ?_ | refine ixI_new (by omega) (by omega) fun _ _ => ?_ | refine ⟨_, by assumption, ?_⟩); conv => whnf) | (refine Or.inr (Or.inl ?_); (conv => whnf); (repeat (refine aI ?_; conv => whnf)); refine ⟨_, form_at b b.toNat l hll2 hto htk hsz2 , ?_⟩; rintro _ _ ⟨ks, rm4, rfl, rfl, hks, hkm⟩ <;> (conv => whnf)) | ((first | refine Alt2.l (aI ?_) | refine Alt2.r (aI ?_)); conv => whnf) | (refine Ok.scope ?_) | ((first | refine Ok.label ?_ | refine rd rfl (by assumption) ?_ | refine ⟨_, .inl ⟨rfl, rfl⟩, ?_⟩ | refine ⟨_, _, rfl, rfl, ?_⟩); conv => whnf) | (refine ⟨fun _ => ?_, fun _ => ?_⟩ <;> (conv => whnf) <;> (try (exfalso; omega))) | ((first | refine aJ ?_ | refine num_any ?_ | refine ⟨_, rfl, ?_⟩); conv => whnf) | (exact True.intro) | (refine And.intro ?_ ?_ <;> (conv => whnf)) | fail)
        refine Or.inl ?_; (conv => whnf)
        exact ⟨rfl, _, rfl, ks, rm4, rfl, by rw [hks, hl]⟩
end Go.Proofs.YtaiondckookpiaaDoor
namespace Go.Proofs.YtaiondckookpiaaDoor
open Go Go.Vx
theorem Fine.cast {n : Int} {ts : List Term} (h : Fine n ts) : ((n.toNat : Nat) : Int) = n := by have := h.n0; omega
theorem Fine.mlen {n : Int} {ts : List Term} (h : Fine n ts) {l : List TR} (e : l.map TR.t = ts) : l.length ≤ 1048576 := by
  have := h.len
  rw [← e, List.length_map] at this
  omega
theorem Fine.mless {n : Int} {ts : List Term} (h : Fine n ts) {l : List TR} (e : l.map TR.t = ts) : ∀ x ∈ l, x.t.less.length ≤ 1048576 := fun x hx => Nat.le_trans (h.less (mem_of_map e hx)) (by decide)
end Go.Proofs.YtaiondckookpiaaDoor
namespace Go.Proofs.YtaiondckookpiaaDoor
open Go Go.Vx
def bndO (n : Int) (l : List Term) : Int × Int × List Term := if szT l ≤ 128 then (0, n, l) else (3, 0, [])
def fitP (n m : Int) : Prop := n = m ∧ 0 < n
open Classical in
noncomputable def joinO (n m : Int) (ts us : List Term) : Int × Int × List Term := if fitP n m then bndO n (formT (ts ++ us)) else (11, 0, [])
theorem fits2_at (n m : Int) : FSpec Tryd.prog T 51 [.i .i64 n, .i .i64 m] (fun r _ => r = .b (fitP n m)) := by
  refine FSpec.of_ok tok Tryd.func51 rfl Tryd.call51 (by simp) ?_
  (try (conv => whnf)); repeat' (first | refine Ok.seq ?_ | refine OkL.cons ?_ | ((first | refine Ok.region tok ?_ | refine Ok.region_draw tok follows (by kernel_rfl) ?_ | refine Ok.cond ?_); conv => whnf) | refine Ok.block ?_ | ((first | refine Ok.skip ?_ | refine Ok.exit ?_ | refine Ok.ret ?_ | refine nI ?_ | refine ix _ (by assumption) ?_ | refine ixI (by omega) (by assumption) ?_ | refine ix_new _ (by omega) fun _ _ => ?_ | refine ixI_new (by omega) (by omega) fun _ _ => ?_ | refine ⟨_, by assumption, ?_⟩ | refine Alt2.l (aI ?_) | refine Alt2.r (aI ?_)); conv => whnf) | (refine Ok.scope ?_) | ((first | refine Ok.label ?_ | refine rd rfl (by assumption) ?_ | refine ⟨_, .inl ⟨rfl, rfl⟩, ?_⟩ | refine ⟨_, _, rfl, rfl, ?_⟩); conv => whnf) | (refine ⟨fun _ => ?_, fun _ => ?_⟩ <;> (conv => whnf) <;> (try (exfalso; omega))) | ((first | refine aJ ?_ | refine num_any ?_ | refine ⟨_, rfl, ?_⟩); conv => whnf) | fail)
  · rename_i h
    refine Or.inl ?_; (conv => whnf)
    exact congrArg D.b (propext ⟨fun h2 => ⟨h, h2⟩, fun h2 => h2.2⟩)
  · rename_i h
    refine Or.inl ?_; (conv => whnf)
    show D.b False = _
    exact congrArg D.b (propext ⟨fun h2 => h2.elim, fun h2 => h h2.1⟩)
theorem bndO_fine {n : Int} {l : List Term} (h0 : 0 ≤ n) (h1 : n ≤ 256) (hg : ∀ t ∈ l, GoodT n.toNat t) : Fine (bndO n (formT l)).2.1 (bndO n (formT l)).2.2 := by
  unfold bndO
  split
  · rename_i h; exact .form h0 h1 hg h
  · exact .nil (by decide) (by decide)
theorem joinO_fine {n m : Int} {ts us : List Term} (hf : Fine n ts) (hg : Fine m us) : Fine (joinO n m ts us).2.1 (joinO n m ts us).2.2 := by
  unfold joinO
  split
  · rename_i h
    obtain ⟨rfl, h0⟩ := h
    exact bndO_fine hf.n0 hf.n1 fun t ht => (List.mem_append.1 ht).elim (hf.good t) (hg.good t)
  · exact .nil (by decide) (by decide)
theorem bndO_le {n : Int} {l : List Term} (h : szT l ≤ 128) : bndO n l = (0, n, l) := if_pos h
theorem bndO_gt {n : Int} {l : List Term} (h : 128 < szT l) : bndO n l = (3, 0, []) := if_neg (by omega)
theorem joinO_fit {n m : Int} {ts us : List Term} (h : fitP n m) : joinO n m ts us = bndO n (formT (ts ++ us)) := if_pos h
theorem joinO_not {n m : Int} {ts us : List Term} (h : ¬ fitP n m) : joinO n m ts us = (11, 0, []) := if_neg h
theorem DOut.form {n : Int} {l : List Term} {ks : List TR} {rm : List (List D)} (e : ks.map TR.t = formT l) (h : szT (ks.map TR.t) ≤ 128) : DOut (bndO n (formT l)) (.tup [.agg [.i .i64 n, .lst 111 (ks.map drow) rm], .i .i64 0]) [] := by
  rw [bndO_le (by rw [← e]; exact h)]
  exact ⟨rfl, _, rfl, ks, rm, rfl, e⟩
set_option maxRecDepth 100000 in
set_option maxHeartbeats 4000000 in
theorem join_at {n m : Int} {ts us : List Term} (hf : Fine n ts) (hg : Fine m us) (ks ks2 : List TR) (rm rm2 : List (List D)) (h1 : ks.map TR.t = ts) (h2 : ks2.map TR.t = us) :
    FSpec Tryd.prog T 22 [.agg [.i .i64 n, .lst 81 (ks.map trow) rm], .agg [.i .i64 m, .lst 81 (ks2.map trow) rm2]] (POut (joinO n m ts us)) := by
  have hfit := fits2_at n m
  have hl1 := hf.len
  have hl2 := hg.len
  rw [← h1, List.length_map] at hl1
  rw [← h2, List.length_map] at hl2
  have htk : List.take (List.map trow ks ++ List.map trow ks2).length (List.map trow ks ++ List.map trow ks2) = (ks ++ ks2).map trow := by rw [List.take_of_length_le (Nat.le_refl _), List.map_append]
  have hk1 : (List.map trow ks).length = ks.length := by simp
  have hk2 : (List.map trow ks2).length = ks2.length := by simp
  refine FSpec.of_deferK 3 tok Tryd.func22 rfl Tryd.call22 (by simp) def_join (zd1 := [.i .i64 0, .nilS]) (zd2 := [.i .i64 3]) rfl rfl (by simp [Value.oneCell']) (by simp [Value.oneCell']) rfl ?_
  by_cases hfp : fitP n m
  · have hnm := hfp.1
    subst hnm
    have hto : ∀ x ∈ ks ++ ks2, TO n.toNat x := fun x hx => (List.mem_append.1 hx).elim (hf.to h1 x) (hg.to h2 x)
    have hts : (ks ++ ks2).map TR.t = ts ++ us := by rw [List.map_append, h1, h2]
    rw [joinO_fit hfp, ← hts]
    have hln : (ks ++ ks2).length ≤ 1048576 := by simp; omega
    (try (conv => whnf)); repeat' (first | refine Ok.seq ?_ | refine OkL.cons ?_ | ((first | refine Ok.region tok ?_ | refine Ok.region_plan (id := 6) tok follows [(4, 5, []), (1, 6, []), (4, 6, [5]), (5, 6, []), (1, 7, []), (4, 7, []), (5, 7, []), (6, 7, []), (1, 8, []), (4, 8, []), (5, 8, []), (6, 8, []), (7, 8, [])] [.q 0, .q 1, .q 2, .q 3, .q 4, .l 5, .l 6, .l 7, .l 8] (by kernel_rfl) ?_ | refine Ok.region_draw tok follows (by kernel_rfl) ?_ | refine Ok.cond ?_); conv => whnf) | refine Ok.block ?_ | ((first | refine Ok.skip ?_ | refine Ok.exit ?_ | refine Ok.ret ?_ | refine nI ?_ | refine ix _ (by assumption) ?_ | refine ixI (by omega) (by assumption) ?_ | refine ix_new _ (by omega) fun _ _ => ?_ | refine ixI_new (by omega) (by omega) fun _ _ => ?_ | refine ⟨_, by assumption, ?_⟩); conv => whnf) | (refine Or.inl ?_; (conv => whnf); (repeat (refine aI ?_; conv => whnf)); refine ⟨_, hfit, rfl, ?_⟩; conv => whnf) | (refine ⟨_, hfit, rfl, ?_⟩; conv => whnf) | (refine Or.inr (Or.inl ?_); (conv => whnf); (repeat (refine aI ?_; conv => whnf)); refine ⟨_, hfit, ?_⟩; rintro _ _ ⟨rfl, rfl⟩; conv => whnf) | ((first | refine Alt2.l (aI ?_) | refine Alt2.r (aI ?_)); conv => whnf) | (refine Ok.scope ?_) | ((first | refine Ok.label ?_ | refine rd rfl (by assumption) ?_ | refine ⟨_, .inl ⟨rfl, rfl⟩, ?_⟩ | refine ⟨_, _, rfl, rfl, ?_⟩); conv => whnf) | (refine ⟨fun _ => ?_, fun _ => ?_⟩ <;> (conv => whnf) <;> (try (exfalso; omega))) | ((first | refine aJ ?_ | refine num_any ?_ | refine ⟨_, rfl, ?_⟩); conv => whnf) | fail)
    · exact absurd hfp (by assumption)
    refine OkL.nil ?_
    (conv => whnf)
    refine ⟨2, 3, rfl, rfl, by decide, by decide, by decide, rfl, ?_⟩
    by_cases hsz : szT (formT ((ks ++ ks2).map TR.t)) ≤ 128
    · rw [bndO_le hsz]
      (try (conv => whnf)); repeat' (first | refine Ok.seq ?_ | refine OkL.cons ?_ | ((first | refine Ok.region tok ?_ | refine Ok.region_plan (id := 6) tok follows [(4, 5, []), (1, 6, []), (4, 6, [5]), (5, 6, []), (1, 7, []), (4, 7, []), (5, 7, []), (6, 7, []), (1, 8, []), (4, 8, []), (5, 8, []), (6, 8, []), (7, 8, [])] [.q 0, .q 1, .q 2, .q 3, .q 4, .l 5, .l 6, .l 7, .l 8] (by kernel_rfl) ?_ | refine Ok.region_draw tok follows (by kernel_rfl) ?_ | refine Ok.cond ?_); conv => whnf) | refine Ok.block ?_ | ((first | refine Ok.skip ?_ | refine Ok.exit ?_ | refine Ok.ret ?_ | refine nI ?_ | refine ix _ (by assumption) ?_ | refine ixI (by omega) (by assumption) ?_ | refine ix_new _ (by omega) fun _ _ => ?_ | refine ixI_new (by omega) (by omega) fun _ _ => ?_ | refine ⟨_, by assumption, ?_⟩); conv => whnf) | (refine Or.inr (Or.inl ?_); (conv => whnf); (repeat (refine aI ?_; conv => whnf)); refine ⟨_, form_at n n.toNat (ks ++ ks2) hln hto htk hsz , ?_⟩; rintro _ _ ⟨ks3, rm3, rfl, rfl, hks3, hkm⟩ <;> (conv => whnf)) | ((first | refine Alt2.l (aI ?_) | refine Alt2.r (aI ?_)); conv => whnf) | (refine Ok.scope ?_) | ((first | refine Ok.label ?_ | refine rd rfl (by assumption) ?_ | refine ⟨_, .inl ⟨rfl, rfl⟩, ?_⟩ | refine ⟨_, _, rfl, rfl, ?_⟩); conv => whnf) | (refine ⟨fun _ => ?_, fun _ => ?_⟩ <;> (conv => whnf) <;> (try (exfalso; omega))) | ((first | refine aJ ?_ | refine num_any ?_ | refine ⟨_, rfl, ?_⟩); conv => whnf) | fail)
      refine Or.inl ?_; (conv => whnf)
      exact ⟨rfl, _, rfl, ks3, rm3, rfl, hks3⟩
    · rw [bndO_gt (by omega)]
      (try (conv => whnf)); repeat' (first | refine Ok.seq ?_ | refine OkL.cons ?_ | ((first | refine Ok.region tok ?_ | refine Ok.cond ?_); conv => whnf) | refine Ok.block ?_ | ((first | refine Ok.skip ?_ | refine Ok.exit ?_ | refine Ok.ret ?_ | refine nI ?_ | refine ix _ (by assumption) ?_ | refine ixI (by omega) (by assumption) ?_ | refine ix_new _ (by omega) fun _ _ => ?_ | refine ixI_new (by omega) (by omega) fun _ _ => ?_ | refine ⟨_, by assumption, ?_⟩ | refine Alt2.l (aI ?_) | refine Alt2.r (aI ?_)); conv => whnf) | (refine Ok.scope ?_) | ((first | refine Ok.label ?_ | refine rd rfl (by assumption) ?_ | refine ⟨_, .inl ⟨rfl, rfl⟩, ?_⟩ | refine ⟨_, _, rfl, rfl, ?_⟩); conv => whnf) | (refine ⟨fun _ => ?_, fun _ => ?_⟩ <;> (conv => whnf) <;> (try (exfalso; omega))) | ((first | refine aJ ?_ | refine num_any ?_ | refine ⟨_, rfl, ?_⟩); conv => whnf) | fail)
      refine Ok.region_planpanS tok follows [(4, 5, [])] [.q 0, .q 1, .q 2, .q 3, .q 4, .l 5] 6 (by kernel_rfl) ?_; (conv => whnf)
      (try (conv => whnf)); repeat' (first | refine Ok.seq ?_ | refine OkL.cons ?_ | ((first | refine Ok.region tok ?_ | refine Ok.cond ?_); conv => whnf) | refine Ok.block ?_ | ((first | refine Ok.skip ?_ | refine Ok.exit ?_ | refine Ok.ret ?_ | refine nI ?_ | refine ix _ (by assumption) ?_ | refine ixI (by omega) (by assumption) ?_ | refine ix_new _ (by omega) fun _ _ => ?_ | refine ixI_new (by omega) (by omega) fun _ _ => ?_ | refine ⟨_, by assumption, ?_⟩ | refine Alt2.l (aI ?_) | refine Alt2.r (aI ?_)); conv => whnf) | (refine Ok.scope ?_) | ((first | refine Ok.label ?_ | refine rd rfl (by assumption) ?_ | refine ⟨_, .inl ⟨rfl, rfl⟩, ?_⟩ | refine ⟨_, _, rfl, rfl, ?_⟩); conv => whnf) | (refine ⟨fun _ => ?_, fun _ => ?_⟩ <;> (conv => whnf) <;> (try (exfalso; omega))) | ((first | refine aJ ?_ | refine num_any ?_ | refine ⟨_, rfl, ?_⟩); conv => whnf) | fail)
      refine ⟨_, form_pan n n.toNat (ks ++ ks2) hln hto htk (by omega), ?_⟩
      (conv => whnf)
      refine ⟨rfl, 2, 3, _, _, rfl, rfl, rfl, rfl, rfl, rfl, by decide, rfl, ?_⟩
      (conv => whnf)
      refine Or.inl ?_; (conv => whnf)
      exact ⟨rfl, _, rfl, PSp.nil 0⟩
  · rw [joinO_not hfp]
    (try (conv => whnf)); repeat' (first | refine Ok.seq ?_ | refine OkL.cons ?_ | ((first | refine Ok.region tok ?_ | refine Ok.region_plan (id := 6) tok follows [(4, 5, []), (1, 6, []), (4, 6, [5]), (5, 6, []), (1, 7, []), (4, 7, []), (5, 7, []), (6, 7, []), (1, 8, []), (4, 8, []), (5, 8, []), (6, 8, []), (7, 8, [])] [.q 0, .q 1, .q 2, .q 3, .q 4, .l 5, .l 6, .l 7, .l 8] (by kernel_rfl) ?_ | refine Ok.region_draw tok follows (by kernel_rfl) ?_ | refine Ok.cond ?_); conv => whnf) | refine Ok.block ?_ | ((first | refine Ok.skip ?_ | refine Ok.exit ?_ | refine Ok.ret ?_ | refine nI ?_ | refine ix _ (by assumption) ?_ | refine ixI (by omega) (by assumption) ?_ | refine ix_new _ (by omega) fun _ _ => ?_ | refine ixI_new (by omega) (by omega) fun _ _ => ?_ | refine ⟨_, by assumption, ?_⟩); conv => whnf) | (refine Or.inl ?_; (conv => whnf); (repeat (refine aI ?_; conv => whnf)); refine ⟨_, hfit, rfl, ?_⟩; conv => whnf) | (refine ⟨_, hfit, rfl, ?_⟩; conv => whnf) | (refine Or.inr (Or.inl ?_); (conv => whnf); (repeat (refine aI ?_; conv => whnf)); refine ⟨_, hfit, ?_⟩; rintro _ _ ⟨rfl, rfl⟩; conv => whnf) | ((first | refine Alt2.l (aI ?_) | refine Alt2.r (aI ?_)); conv => whnf) | (refine Ok.scope ?_) | ((first | refine Ok.label ?_ | refine rd rfl (by assumption) ?_ | refine ⟨_, .inl ⟨rfl, rfl⟩, ?_⟩ | refine ⟨_, _, rfl, rfl, ?_⟩); conv => whnf) | (refine ⟨fun _ => ?_, fun _ => ?_⟩ <;> (conv => whnf) <;> (try (exfalso; omega))) | ((first | refine aJ ?_ | refine num_any ?_ | refine ⟨_, rfl, ?_⟩); conv => whnf) | fail)
    · refine Or.inl ?_; (conv => whnf)
      exact ⟨rfl, _, rfl, PSp.nil 0⟩
    · rename_i h
      exact absurd hfp h
end Go.Proofs.YtaiondckookpiaaDoor
namespace Go.Proofs.YtaiondckookpiaaDoor
open Go Go.Vx
noncomputable def meet2 (a b : Term) : Option Term := (meetT a.p b.p).bind fun p => termT p (a.less ++ b.less)
noncomputable def meets (ts us : List Term) : List Term := ts.flatMap fun a => us.filterMap (meet2 a)
open Classical in
noncomputable def meetO (n m : Int) (ts us : List Term) : Int × Int × List Term := if fitP n m then (if ts.length * us.length ≤ 2048 then bndO n (formT (meets ts us)) else (3, 0, [])) else (11, 0, [])
theorem GoodT.len {n : Nat} {t : Term} (h : GoodT n t) : t.p.length = n := h.ok.p
theorem meet2_good {n : Nat} {a b t : Term} (ha : GoodT n a) (hb : GoodT n b) (h : meet2 a b = some t) : GoodT n t := by
  unfold meet2 at h
  obtain ⟨p, hp, ht⟩ := Option.bind_eq_some_iff.1 h
  have hm := meetT_ct hp ha.p.1 hb.p.1
  exact (termT_good ⟨hm.1, fun e => hm.2.2 (List.eq_nil_of_length_eq_zero (by rw [← hm.2.1, e]; rfl))⟩ (by rw [hm.2.1, ha.len]) (fun m hm => (List.mem_append.1 hm).elim (fun h => (ha.less m h).1) (fun h => (hb.less m h).1)) ht).1
theorem meets_good {n : Nat} {ts us : List Term} (h1 : ∀ t ∈ ts, GoodT n t) (h2 : ∀ t ∈ us, GoodT n t) : ∀ t ∈ meets ts us, GoodT n t := by
  intro t ht
  obtain ⟨a, ha, h⟩ := List.mem_flatMap.1 ht
  obtain ⟨b, hb, h⟩ := List.mem_filterMap.1 h
  exact meet2_good (h1 a ha) (h2 b hb) h
theorem meet2_less {a b t : Term} (h : meet2 a b = some t) : t.less.length ≤ a.less.length + b.less.length := by
  unfold meet2 at h
  obtain ⟨p, hp, ht⟩ := Option.bind_eq_some_iff.1 h
  have := termT_sz ht
  rw [List.length_append] at this
  exact this
theorem meets_less {ts us : List Term} {k : Nat} (h1 : ∀ t ∈ ts, t.less.length ≤ k) (h2 : ∀ t ∈ us, t.less.length ≤ k) : ∀ t ∈ meets ts us, t.less.length ≤ k + k := by
  intro t ht
  obtain ⟨a, ha, h⟩ := List.mem_flatMap.1 ht
  obtain ⟨b, hb, h⟩ := List.mem_filterMap.1 h
  have := meet2_less h
  have := h1 a ha
  have := h2 b hb
  omega
theorem meets_snoc {ts us : List Term} {i : Nat} {a : Term} (h : ts[i]? = some a) : meets (ts.take (i + 1)) us = meets (ts.take i) us ++ us.filterMap (meet2 a) := by
  unfold meets
  rw [take_snoc h, List.flatMap_append]
  simp
theorem fm_some {α β : Type} {f : α → Option β} {l : List α} {i : Nat} {a : α} {b : β} (h : l[i]? = some a) (hb : f a = some b) : (l.take (i + 1)).filterMap f = (l.take i).filterMap f ++ [b] := by
  rw [take_snoc h]; simp [hb]
theorem fm_none {α β : Type} {f : α → Option β} {l : List α} {i : Nat} {a : α} (h : l[i]? = some a) (hb : f a = none) : (l.take (i + 1)).filterMap f = (l.take i).filterMap f := by
  rw [take_snoc h]; simp [hb]
theorem tr_get {ks : List TR} {ts : List Term} {i : Nat} {x : TR} (e : ks.map TR.t = ts) (h : ks[i]? = some x) : ts[i]? = some x.t := by rw [← e, List.getElem?_map, h]; rfl
theorem meetO_fit {n m : Int} {ts us : List Term} (h : fitP n m) (h2 : ts.length * us.length ≤ 2048) : meetO n m ts us = bndO n (formT (meets ts us)) := by unfold meetO; rw [if_pos h, if_pos h2]
theorem meetO_raw {n m : Int} {ts us : List Term} (h : fitP n m) (h2 : ¬ ts.length * us.length ≤ 2048) : meetO n m ts us = (3, 0, []) := by unfold meetO; rw [if_pos h, if_neg h2]
theorem meetO_not {n m : Int} {ts us : List Term} (h : ¬ fitP n m) : meetO n m ts us = (11, 0, []) := if_neg h
theorem meetO_fine {n m : Int} {ts us : List Term} (hf : Fine n ts) (hg : Fine m us) : Fine (meetO n m ts us).2.1 (meetO n m ts us).2.2 := by
  by_cases h : fitP n m
  · by_cases h2 : ts.length * us.length ≤ 2048
    · rw [meetO_fit h h2]
      obtain ⟨rfl, h0⟩ := h
      exact bndO_fine hf.n0 hf.n1 (meets_good hf.good hg.good)
    · rw [meetO_raw h h2]; exact .nil (by decide) (by decide)
  · rw [meetO_not h]; exact .nil (by decide) (by decide)
theorem raw_at {n : Int} (h : n ≤ 2048) : FSpec Tryd.prog T 54 [.i .i64 n] (fun d _ => d = .tup []) := by
  refine FSpec.of_ok tok Tryd.func54 rfl Tryd.call54 (by simp) ?_
  (try (conv => whnf)); repeat' (first | refine Ok.seq ?_ | refine OkL.cons ?_ | ((first | refine Ok.region tok ?_ | refine Ok.region_draw tok follows (by kernel_rfl) ?_ | refine Ok.cond ?_); conv => whnf) | refine Ok.block ?_ | ((first | refine Ok.skip ?_ | refine Ok.exit ?_ | refine Ok.ret ?_ | refine nI ?_ | refine ix _ (by assumption) ?_ | refine ixI (by omega) (by assumption) ?_ | refine ix_new _ (by omega) fun _ _ => ?_ | refine ixI_new (by omega) (by omega) fun _ _ => ?_ | refine ⟨_, by assumption, ?_⟩ | refine Alt2.l (aI ?_) | refine Alt2.r (aI ?_)); conv => whnf) | (refine Ok.scope ?_) | ((first | refine Ok.label ?_ | refine rd rfl (by assumption) ?_ | refine ⟨_, .inl ⟨rfl, rfl⟩, ?_⟩ | refine ⟨_, _, rfl, rfl, ?_⟩); conv => whnf) | (refine ⟨fun _ => ?_, fun _ => ?_⟩ <;> (conv => whnf) <;> (try (exfalso; omega))) | ((first | refine aJ ?_ | refine num_any ?_ | refine ⟨_, rfl, ?_⟩); conv => whnf) | fail)
  refine Or.inl ?_; (conv => whnf)
  rfl
theorem raw_pan {n : Int} (h : 2048 < n) : PSpec Tryd.prog T 54 [.i .i64 n] passedV := by
  refine PSpec.of_ok Tryd.func54 rfl Tryd.call54 (by simp) ?_
  refine Ok.seq ?_
  (refine Ok.region tok ?_; conv => whnf)
  (conv => whnf)
  refine Ok.cond ?_
  (conv => whnf)
  refine ⟨fun _ => ?_, fun h2 => absurd h h2⟩
  refine Ok.region_throw (fun w => by kernel_rfl) (by kernel_rfl) (by decide) (by decide) ?_
  rfl
end Go.Proofs.YtaiondckookpiaaDoor
namespace Go.Proofs.YtaiondckookpiaaDoor
open Go Go.Vx
set_option maxRecDepth 100000 in
set_option maxHeartbeats 8000000 in
theorem meet2_at {n m : Int} {ts us : List Term} (hf : Fine n ts) (hg : Fine m us) (ks ks2 : List TR) (rm rm2 : List (List D)) (h1 : ks.map TR.t = ts) (h2 : ks2.map TR.t = us) :
    FSpec Tryd.prog T 24 [.agg [.i .i64 n, .lst 81 (ks.map trow) rm], .agg [.i .i64 m, .lst 81 (ks2.map trow) rm2]] (POut (meetO n m ts us)) := by
  have hfit := fits2_at n m
  have hl1 : ks.length = ts.length := by rw [← h1, List.length_map]
  have hl2 : ks2.length = us.length := by rw [← h2, List.length_map]
  have hm1 : (ks.map trow).length = ts.length := by simp [hl1]
  have hm2 : (ks2.map trow).length = us.length := by simp [hl2]
  have hk1 := hf.len
  have hk2 := hg.len
  refine FSpec.of_deferK 3 tok Tryd.func24 rfl Tryd.call24 (by simp) def_meet (zd1 := [.i .i64 0, .nilS]) (zd2 := [.i .i64 3]) rfl rfl (by simp [Value.oneCell']) (by simp [Value.oneCell']) rfl ?_
  by_cases hfp : fitP n m
  · have hnm := hfp.1
    subst hnm
    have hmul : ((List.map trow ks).length : Int) * ((List.map trow ks2).length : Int) = ((ts.length * us.length : Nat) : Int) := by rw [hm1, hm2]; simp
    have hmb : ts.length * us.length ≤ 128 * 128 := Nat.mul_le_mul hk1 hk2
    (try (conv => whnf)); repeat' (first | refine Ok.seq ?_ | refine OkL.cons ?_ | ((first | refine Ok.region tok ?_ | refine Ok.region_draw tok follows (by kernel_rfl) ?_ | refine Ok.cond ?_); conv => whnf) | refine Ok.block ?_ | ((first | refine Ok.skip ?_ | refine Ok.exit ?_ | refine Ok.ret ?_ | refine nI ?_ | refine ix _ (by assumption) ?_ | refine ixI (by omega) (by assumption) ?_ | refine ix_new _ (by omega) fun _ _ => ?_ | refine ixI_new (by omega) (by omega) fun _ _ => ?_ | refine ⟨_, by assumption, ?_⟩); conv => whnf) | (refine Or.inl ?_; (conv => whnf); (repeat (refine aI ?_; conv => whnf)); refine ⟨_, hfit, rfl, ?_⟩; conv => whnf) | (refine ⟨_, hfit, rfl, ?_⟩; conv => whnf) | (refine Or.inr (Or.inl ?_); (conv => whnf); (repeat (refine aI ?_; conv => whnf)); refine ⟨_, hfit, ?_⟩; rintro _ _ ⟨rfl, rfl⟩; conv => whnf) | ((first | refine Alt2.l (aI ?_) | refine Alt2.r (aI ?_)); conv => whnf) | (refine Ok.scope ?_) | ((first | refine Ok.label ?_ | refine rd rfl (by assumption) ?_ | refine ⟨_, .inl ⟨rfl, rfl⟩, ?_⟩ | refine ⟨_, _, rfl, rfl, ?_⟩); conv => whnf) | (refine ⟨fun _ => ?_, fun _ => ?_⟩ <;> (conv => whnf) <;> (try (exfalso; omega))) | ((first | refine aJ ?_ | refine num_any ?_ | refine ⟨_, rfl, ?_⟩); conv => whnf) | fail)
    · exact absurd hfp (by assumption)
    refine OkL.nil ?_
    (conv => whnf)
    refine ⟨2, 3, rfl, rfl, by decide, by decide, by decide, rfl, ?_⟩
    by_cases hraw : ts.length * us.length ≤ 2048
    · rw [meetO_fit hfp hraw]
      (try (conv => whnf)); repeat' (first | refine Ok.seq ?_ | refine OkL.cons ?_ | ((first | refine Ok.region tok ?_ | refine Ok.region_draw tok follows (by kernel_rfl) ?_ | refine Ok.cond ?_); conv => whnf) | refine Ok.block ?_ | ((first | refine Ok.skip ?_ | refine Ok.exit ?_ | refine Ok.ret ?_ | refine nI ?_ | refine ix _ (by assumption) ?_ | refine ixI (by omega) (by assumption) ?_ | refine ix_new _ (by omega) fun _ _ => ?_ | refine ixI_new (by omega) (by omega) fun _ _ => ?_ | refine ⟨_, by assumption, ?_⟩); conv => whnf) | (refine Or.inl ?_; (conv => whnf); (repeat (refine aI ?_; conv => whnf)); refine ⟨_, raw_at (n := ((List.map trow ks).length : Int) * ((List.map trow ks2).length : Int)) (by rw [hmul]; omega), rfl, ?_⟩; conv => whnf) | (refine ⟨_, raw_at (n := ((List.map trow ks).length : Int) * ((List.map trow ks2).length : Int)) (by rw [hmul]; omega), rfl, ?_⟩; conv => whnf) | (refine Or.inr (Or.inl ?_); (conv => whnf); (repeat (refine aI ?_; conv => whnf)); refine ⟨_, raw_at (n := ((List.map trow ks).length : Int) * ((List.map trow ks2).length : Int)) (by rw [hmul]; omega), ?_⟩; rintro _ _ ⟨rfl, rfl⟩; conv => whnf) | ((first | refine Alt2.l (aI ?_) | refine Alt2.r (aI ?_)); conv => whnf) | (refine Ok.scope ?_) | ((first | refine Ok.label ?_ | refine rd rfl (by assumption) ?_ | refine ⟨_, .inl ⟨rfl, rfl⟩, ?_⟩ | refine ⟨_, _, rfl, rfl, ?_⟩); conv => whnf) | (refine ⟨fun _ => ?_, fun _ => ?_⟩ <;> (conv => whnf) <;> (try (exfalso; omega))) | ((first | refine aJ ?_ | refine num_any ?_ | refine ⟨_, rfl, ?_⟩); conv => whnf) | fail)
      refine Ok.ghost 6 81 rfl ?_
      (conv => whnf)
      refine Ok.loopU [2, 3, 4, 5, 32, 33, 75, 76] [6, 34] 1 4 (fun (x : Nat × List TR) => [.own 0 x.2.length, .i .i64 (x.1 : Nat)]) (fun _ b => b) (fun (x : Nat × List TR) (_ : Vx.Rows) => [some (81, x.2.map trow)]) (fun (x : Nat × List TR) => x.1 ≤ ts.length ∧ x.2.map TR.t = meets (ts.take x.1) us ∧ x.2.length ≤ x.1 * us.length) (fun (x : Nat × List TR) => ts.length - x.1) ((0, [])) (⟨Nat.zero_le _, by simp [meets], by simp⟩) ?_; (conv => whnf); refine ⟨by ((conv => whnf); first | rfl | (simp [envCat, List.take_of_length_le, crow, trow, srow, drow]; done) | (simp [envCat, List.take_of_length_le, crow, trow, srow, drow]; rw [IntKind.wrap_i64]; omega)), ?_⟩
      rintro ⟨i, l⟩ ⟨hi, hl, hll⟩
      dsimp only at hi hl hll ⊢
      have hlm : (l.map trow).length = l.length := by simp
      have hib : i * us.length ≤ 128 * 128 := Nat.mul_le_mul (by omega) hk2
      (conv => whnf)
      by_cases hil : i < ts.length
      · obtain ⟨a, ha⟩ : ∃ a, ks[i]? = some a := ⟨_, List.getElem?_eq_getElem (by omega)⟩
        have haI : ks[((i : Nat) : Int).toNat]? = some a := ha
        have hat := tr_get h1 ha
        have hag := hf.good _ (List.mem_of_getElem? hat)
        have hal := hf.less (List.mem_of_getElem? hat)
        have hal2 : (a.t.less.map crow).length = a.t.less.length := by simp
        have hsn := meets_snoc (us := us) hat
        have hi1 : (i + 1) * us.length = i * us.length + us.length := by rw [Nat.add_mul, Nat.one_mul]
        (try (conv => whnf)); repeat' (first | refine Ok.seq ?_ | refine OkL.cons ?_ | ((first | refine Ok.region tok ?_ | refine Ok.region_draw tok follows (by kernel_rfl) ?_ | refine Ok.cond ?_); conv => whnf) | refine Ok.block ?_ | ((first | refine Ok.skip ?_ | refine Ok.exit ?_ | refine Ok.ret ?_ | refine nI ?_ | refine ix _ (by assumption) ?_ | refine ixI (by omega) (by assumption) ?_ | refine ix_new _ (by omega) fun _ _ => ?_ | refine ixI_new (by omega) (by omega) fun _ _ => ?_ | refine ⟨_, by assumption, ?_⟩ | refine Alt2.l (aI ?_) | refine Alt2.r (aI ?_)); conv => whnf) | (refine Ok.scope ?_) | ((first | refine Ok.label ?_ | refine rd rfl (by assumption) ?_ | refine ⟨_, .inl ⟨rfl, rfl⟩, ?_⟩ | refine ⟨_, _, rfl, rfl, ?_⟩); conv => whnf) | (refine ⟨fun _ => ?_, fun _ => ?_⟩ <;> (conv => whnf) <;> (try (exfalso; omega))) | ((first | refine aJ ?_ | refine num_any ?_ | refine ⟨_, rfl, ?_⟩); conv => whnf) | fail)
        refine Ok.loopU [2, 3, 4, 5, 8, 32, 33, 34, 39, 40, 75, 76] [6, 41] 1 5 (fun (x : Nat × List TR) => [.own 0 x.2.length, .i .i64 (x.1 : Nat)]) (fun _ b => b) (fun (x : Nat × List TR) (_ : Vx.Rows) => [some (81, x.2.map trow)]) (fun (x : Nat × List TR) => x.1 ≤ us.length ∧ x.2.map TR.t = meets (ts.take i) us ++ (us.take x.1).filterMap (meet2 a.t) ∧ x.2.length ≤ i * us.length + x.1) (fun (x : Nat × List TR) => us.length - x.1) ((0, l)) (⟨Nat.zero_le _, by simpa using hl, by simpa using hll⟩) ?_; (conv => whnf); refine ⟨by ((conv => whnf); first | rfl | (simp [envCat, List.take_of_length_le, crow, trow, srow, drow]; done) | (simp [envCat, List.take_of_length_le, crow, trow, srow, drow]; rw [IntKind.wrap_i64]; omega)), ?_⟩
        rintro ⟨j, l2⟩ ⟨hj, hl2e, hl2l⟩
        dsimp only at hj hl2e hl2l ⊢
        have hl2m : (l2.map trow).length = l2.length := by simp
        (conv => whnf)
        by_cases hjl : j < us.length
        · obtain ⟨b, hb⟩ : ∃ b, ks2[j]? = some b := ⟨_, List.getElem?_eq_getElem (by omega)⟩
          have hbI : ks2[((j : Nat) : Int).toNat]? = some b := hb
          have hbt := tr_get h2 hb
          have hbg := hg.good _ (List.mem_of_getElem? hbt)
          have hbl := hg.less (List.mem_of_getElem? hbt)
          have hbl2 : (b.t.less.map crow).length = b.t.less.length := by simp
          have hsp := meet_at a.t.p b.t.p hag.p.1 hbg.p.1
          cases hm : meetT a.t.p b.t.p with
          | none =>
            have hno : meet2 a.t b.t = none := by unfold meet2; rw [hm]; rfl
            rw [hm] at hsp
            (try (conv => whnf)); repeat' (first | refine Ok.seq ?_ | refine OkL.cons ?_ | ((first | refine Ok.region tok ?_ | refine Ok.region_draw tok follows (by kernel_rfl) ?_ | refine Ok.cond ?_); conv => whnf) | refine Ok.block ?_ | ((first | refine Ok.skip ?_ | refine Ok.exit ?_ | refine Ok.ret ?_ | refine nI ?_ | refine ix _ (by assumption) ?_ | refine ixI (by omega) (by assumption) ?_ | refine ix_new _ (by omega) fun _ _ => ?_ | refine ixI_new (by omega) (by omega) fun _ _ => ?_ | refine ⟨_, by assumption, ?_⟩); conv => whnf) | (refine Or.inr (Or.inl ?_); (conv => whnf); (repeat (refine aI ?_; conv => whnf)); refine ⟨_, hsp, ?_⟩; rintro _ _ ⟨rfl, rfl⟩ <;> (conv => whnf)) | ((first | refine Alt2.l (aI ?_) | refine Alt2.r (aI ?_)); conv => whnf) | (refine Ok.scope ?_) | ((first | refine Ok.label ?_ | refine rd rfl (by assumption) ?_ | refine ⟨_, .inl ⟨rfl, rfl⟩, ?_⟩ | refine ⟨_, _, rfl, rfl, ?_⟩); conv => whnf) | (refine ⟨fun _ => ?_, fun _ => ?_⟩ <;> (conv => whnf) <;> (try (exfalso; omega))) | ((first | refine aJ ?_ | refine num_any ?_ | refine ⟨_, rfl, ?_⟩); conv => whnf) | fail)
            · rename_i h
              cases h
            · refine ⟨(j + 1, l2), by dsimp only; omega, ⟨by dsimp only; omega, by dsimp only; rw [fm_none hbt hno]; exact hl2e, by dsimp only; omega⟩, ?_⟩
              (conv => whnf)
              rfl
          | some p =>
            rw [hm] at hsp
            have hmc := meetT_ct hm hag.p.1 hbg.p.1
            have hpn : p ≠ [] := fun e => hmc.2.2 (List.eq_nil_of_length_eq_zero (by rw [← hmc.2.1, e]; rfl))
            have hm2 : meet2 a.t b.t = termT p (a.t.less ++ b.t.less) := by unfold meet2; rw [hm]; rfl
            have hnew : ∀ room, FSpec Tryd.prog T 45 [.agg (crow p), .lst 52 (List.map lrow [⟨a.t.less, a.room⟩, ⟨b.t.less, b.room⟩]) room] (NewT p (a.t.less ++ b.t.less)) := fun room => by
              have := newTerm_at p [⟨a.t.less, a.room⟩, ⟨b.t.less, b.room⟩] (room := room) ⟨hmc.1, hpn⟩ (by
                intro x hx m hm
                simp at hx
                rcases hx with rfl | rfl
                · exact (hag.less m hm).1
                · exact (hbg.less m hm).1) (by simp [allL]; omega) (by simp) rfl
              rwa [show allL [⟨a.t.less, a.room⟩, ⟨b.t.less, b.room⟩] = a.t.less ++ b.t.less by simp [allL]] at this
            (try (conv => whnf)); repeat' (first | refine Ok.seq ?_ | refine OkL.cons ?_ | ((first | refine Ok.region tok ?_ | refine Ok.region_draw tok follows (by kernel_rfl) ?_ | refine Ok.cond ?_); conv => whnf) | refine Ok.block ?_ | ((first | refine Ok.skip ?_ | refine Ok.exit ?_ | refine Ok.ret ?_ | refine nI ?_ | refine ix _ (by assumption) ?_ | refine ixI (by omega) (by assumption) ?_ | refine ix_new _ (by omega) fun _ _ => ?_ | refine ixI_new (by omega) (by omega) fun _ _ => ?_ | refine ⟨_, by assumption, ?_⟩); conv => whnf) | (refine Or.inr (Or.inl ?_); (conv => whnf); (repeat (refine aI ?_; conv => whnf)); refine ⟨_, hsp, ?_⟩; rintro _ _ ⟨rfl, rfl⟩ <;> (conv => whnf)) | (refine Or.inr (Or.inl ?_); (conv => whnf); (repeat (refine aI ?_; conv => whnf)); refine ⟨_, hnew _ , ?_⟩; rintro _ _ ⟨rfl, (⟨ht, rfl⟩ | ⟨t, rm4, ht, rfl⟩)⟩ <;> (conv => whnf)) | ((first | refine Alt2.l (aI ?_) | refine Alt2.r (aI ?_)); conv => whnf) | (refine Ok.scope ?_) | ((first | refine Ok.label ?_ | refine rd rfl (by assumption) ?_ | refine ⟨_, .inl ⟨rfl, rfl⟩, ?_⟩ | refine ⟨_, _, rfl, rfl, ?_⟩); conv => whnf) | (refine ⟨fun _ => ?_, fun _ => ?_⟩ <;> (conv => whnf) <;> (try (exfalso; omega))) | ((first | refine aJ ?_ | refine num_any ?_ | refine ⟨_, rfl, ?_⟩); conv => whnf) | fail)
            all_goals first
              | (rename_i h; exact absurd rfl h)
              | (rename_i h; exact absurd trivial h)
              | (refine ⟨(j + 1, l2), by dsimp only; omega, ⟨by dsimp only; omega, by dsimp only; rw [fm_none hbt (hm2.trans ht)]; exact hl2e, by dsimp only; omega⟩, ?_⟩
                 (conv => whnf)
                 rfl)
              | (refine ⟨(j + 1, l2 ++ [⟨t, rm4⟩]), by dsimp only; omega, ⟨by dsimp only; omega, by dsimp only; rw [fm_some hbt (hm2.trans ht), List.map_append, hl2e, List.append_assoc]; rfl, by simp; omega⟩, ?_⟩
                 (conv => whnf)
                 simp [envCat])
        · have hje : j = us.length := by omega
          subst hje
          rw [List.take_length] at hl2e
          (try (conv => whnf)); repeat' (first | refine Ok.seq ?_ | refine OkL.cons ?_ | ((first | refine Ok.region tok ?_ | refine Ok.region_draw tok follows (by kernel_rfl) ?_ | refine Ok.cond ?_); conv => whnf) | refine Ok.block ?_ | ((first | refine Ok.skip ?_ | refine Ok.exit ?_ | refine Ok.ret ?_ | refine nI ?_ | refine ix _ (by assumption) ?_ | refine ixI (by omega) (by assumption) ?_ | refine ix_new _ (by omega) fun _ _ => ?_ | refine ixI_new (by omega) (by omega) fun _ _ => ?_ | refine ⟨_, by assumption, ?_⟩ | refine Alt2.l (aI ?_) | refine Alt2.r (aI ?_)); conv => whnf) | (refine Ok.scope ?_) | ((first | refine Ok.label ?_ | refine rd rfl (by assumption) ?_ | refine ⟨_, .inl ⟨rfl, rfl⟩, ?_⟩ | refine ⟨_, _, rfl, rfl, ?_⟩); conv => whnf) | (refine ⟨fun _ => ?_, fun _ => ?_⟩ <;> (conv => whnf) <;> (try (exfalso; omega))) | ((first | refine aJ ?_ | refine num_any ?_ | refine ⟨_, rfl, ?_⟩); conv => whnf) | fail)
          refine ⟨(i + 1, l2), by dsimp only; omega, ⟨by dsimp only; omega, by dsimp only; rw [hsn]; exact hl2e, by dsimp only; omega⟩, ?_⟩
          (conv => whnf)
          rfl
      · have hie : i = ts.length := by omega
        subst hie
        rw [List.take_length] at hl
        have hgood := meets_good hf.good hg.good
        have hlb := meets_less (fun t ht => hf.less ht) (fun t ht => hg.less ht)
        have hle : ∀ x ∈ l, x.t.less.length ≤ 1048576 := fun x hx => Nat.le_trans (hlb _ (mem_of_map hl hx)) (by decide)
        have hto : ∀ x ∈ l, TO n.toNat x := fun x hx => (hgood _ (mem_of_map hl hx)).to (hle x hx)
        have htk : List.take l.length (l.map trow) = l.map trow := List.take_of_length_le (by simp)
        have hln : l.length ≤ 1048576 := by omega
        rw [← hl]
        by_cases hsz : szT (formT (l.map TR.t)) ≤ 128
        · rw [bndO_le hsz]
          (try (conv => whnf)); repeat' (first | refine Ok.seq ?_ | refine OkL.cons ?_ | ((first | refine Ok.region tok ?_ | refine Ok.region_draw tok follows (by kernel_rfl) ?_ | refine Ok.cond ?_); conv => whnf) | refine Ok.block ?_ | ((first | refine Ok.skip ?_ | refine Ok.exit ?_ | refine Ok.ret ?_ | refine nI ?_ | refine ix _ (by assumption) ?_ | refine ixI (by omega) (by assumption) ?_ | refine ix_new _ (by omega) fun _ _ => ?_ | refine ixI_new (by omega) (by omega) fun _ _ => ?_ | refine ⟨_, by assumption, ?_⟩); conv => whnf) | (refine Or.inr (Or.inl ?_); (conv => whnf); (repeat (refine aI ?_; conv => whnf)); refine ⟨_, form_at n n.toNat l hln hto htk hsz , ?_⟩; rintro _ _ ⟨ks3, rm3, rfl, rfl, hks3, hkm⟩ <;> (conv => whnf)) | ((first | refine Alt2.l (aI ?_) | refine Alt2.r (aI ?_)); conv => whnf) | (refine Ok.scope ?_) | ((first | refine Ok.label ?_ | refine rd rfl (by assumption) ?_ | refine ⟨_, .inl ⟨rfl, rfl⟩, ?_⟩ | refine ⟨_, _, rfl, rfl, ?_⟩); conv => whnf) | (refine ⟨fun _ => ?_, fun _ => ?_⟩ <;> (conv => whnf) <;> (try (exfalso; omega))) | ((first | refine aJ ?_ | refine num_any ?_ | refine ⟨_, rfl, ?_⟩); conv => whnf) | fail)
          refine Or.inl ?_; (conv => whnf)
          exact ⟨rfl, _, rfl, ks3, rm3, rfl, hks3⟩
        · rw [bndO_gt (by omega)]
          (try (conv => whnf)); repeat' (first | (refine Ok.region_pan (id := 19) tok 3 ?_; (conv => whnf)) | refine Ok.seq ?_ | refine OkL.cons ?_ | ((first | refine Ok.region tok ?_ | refine Ok.cond ?_); conv => whnf) | refine Ok.block ?_ | ((first | refine Ok.skip ?_ | refine Ok.exit ?_ | refine Ok.ret ?_ | refine nI ?_ | refine ix _ (by assumption) ?_ | refine ixI (by omega) (by assumption) ?_ | refine ix_new _ (by omega) fun _ _ => ?_ | refine ixI_new (by omega) (by omega) fun _ _ => ?_ | refine ⟨_, by assumption, ?_⟩ | refine Alt2.l (aI ?_) | refine Alt2.r (aI ?_)); conv => whnf) | (refine Ok.scope ?_) | ((first | refine Ok.label ?_ | refine rd rfl (by assumption) ?_ | refine ⟨_, .inl ⟨rfl, rfl⟩, ?_⟩ | refine ⟨_, _, rfl, rfl, ?_⟩); conv => whnf) | (refine ⟨fun _ => ?_, fun _ => ?_⟩ <;> (conv => whnf) <;> (try (exfalso; omega))) | ((first | refine aJ ?_ | refine num_any ?_ | refine ⟨_, rfl, ?_⟩); conv => whnf) | fail)
          refine ⟨_, form_pan n n.toNat l hln hto htk (by omega), ?_⟩
          (conv => whnf)
          refine ⟨rfl, 2, 3, _, _, rfl, rfl, rfl, rfl, rfl, rfl, by decide, rfl, ?_⟩
          (conv => whnf)
          refine Or.inl ?_; (conv => whnf)
          exact ⟨rfl, _, rfl, PSp.nil 0⟩
    · rw [meetO_raw hfp hraw]
      refine OkL.cons ?_
      refine Ok.region_pan tok 7 ?_
      (conv => whnf)
      (try (conv => whnf)); repeat' (first | refine Ok.seq ?_ | refine OkL.cons ?_ | ((first | refine Ok.region tok ?_ | refine Ok.cond ?_); conv => whnf) | refine Ok.block ?_ | ((first | refine Ok.skip ?_ | refine Ok.exit ?_ | refine Ok.ret ?_ | refine nI ?_ | refine ix _ (by assumption) ?_ | refine ixI (by omega) (by assumption) ?_ | refine ix_new _ (by omega) fun _ _ => ?_ | refine ixI_new (by omega) (by omega) fun _ _ => ?_ | refine ⟨_, by assumption, ?_⟩ | refine Alt2.l (aI ?_) | refine Alt2.r (aI ?_)); conv => whnf) | (refine Ok.scope ?_) | ((first | refine Ok.label ?_ | refine rd rfl (by assumption) ?_ | refine ⟨_, .inl ⟨rfl, rfl⟩, ?_⟩ | refine ⟨_, _, rfl, rfl, ?_⟩); conv => whnf) | (refine ⟨fun _ => ?_, fun _ => ?_⟩ <;> (conv => whnf) <;> (try (exfalso; omega))) | ((first | refine aJ ?_ | refine num_any ?_ | refine ⟨_, rfl, ?_⟩); conv => whnf) | fail)
      refine ⟨_, raw_pan (by rw [hmul]; omega), ?_⟩
      (conv => whnf)
      refine ⟨rfl, 2, 3, _, _, rfl, rfl, rfl, rfl, rfl, rfl, by decide, rfl, ?_⟩
      (conv => whnf)
      refine Or.inl ?_; (conv => whnf)
      exact ⟨rfl, _, rfl, PSp.nil 0⟩
  · rw [meetO_not hfp]
    (try (conv => whnf)); repeat' (first | refine Ok.seq ?_ | refine OkL.cons ?_ | ((first | refine Ok.region tok ?_ | refine Ok.region_draw tok follows (by kernel_rfl) ?_ | refine Ok.cond ?_); conv => whnf) | refine Ok.block ?_ | ((first | refine Ok.skip ?_ | refine Ok.exit ?_ | refine Ok.ret ?_ | refine nI ?_ | refine ix _ (by assumption) ?_ | refine ixI (by omega) (by assumption) ?_ | refine ix_new _ (by omega) fun _ _ => ?_ | refine ixI_new (by omega) (by omega) fun _ _ => ?_ | refine ⟨_, by assumption, ?_⟩); conv => whnf) | (refine Or.inl ?_; (conv => whnf); (repeat (refine aI ?_; conv => whnf)); refine ⟨_, hfit, rfl, ?_⟩; conv => whnf) | (refine ⟨_, hfit, rfl, ?_⟩; conv => whnf) | (refine Or.inr (Or.inl ?_); (conv => whnf); (repeat (refine aI ?_; conv => whnf)); refine ⟨_, hfit, ?_⟩; rintro _ _ ⟨rfl, rfl⟩; conv => whnf) | ((first | refine Alt2.l (aI ?_) | refine Alt2.r (aI ?_)); conv => whnf) | (refine Ok.scope ?_) | ((first | refine Ok.label ?_ | refine rd rfl (by assumption) ?_ | refine ⟨_, .inl ⟨rfl, rfl⟩, ?_⟩ | refine ⟨_, _, rfl, rfl, ?_⟩); conv => whnf) | (refine ⟨fun _ => ?_, fun _ => ?_⟩ <;> (conv => whnf) <;> (try (exfalso; omega))) | ((first | refine aJ ?_ | refine num_any ?_ | refine ⟨_, rfl, ?_⟩); conv => whnf) | fail)
    · refine Or.inl ?_; (conv => whnf)
      exact ⟨rfl, _, rfl, PSp.nil 0⟩
    · rename_i h
      exact absurd hfp h
end Go.Proofs.YtaiondckookpiaaDoor
namespace Go.Proofs.YtaiondckookpiaaDoor
open Go Go.Vx
theorem opt_some {o : Option Term} (h : o.isSome = true) : o = some (o.getD ⟨[], []⟩) := by
  cases o with
  | none => cases h
  | some t => rfl
theorem opt_none {o : Option Term} (h : ¬ o.isSome = true) : o = none := by
  cases o with
  | none => rfl
  | some t => exact absurd rfl h
theorem newTerm1_at (p : Str) (lss : List LR) {rl room : List (List D)} (hp : CN p) (hok : ∀ x ∈ lss, ∀ m ∈ x.l, CT m) (hn : (allL lss).length ≤ 100000) (h1 : lss.length ≤ 100000) (h : rl = lss.map lrow) :
    FSpec Tryd.prog T 45 [.agg (crow p), .lst 52 rl room] (fun d rows => ∃ rm, d = .tup [.agg (trow ⟨(termT p (allL lss)).getD ⟨[], []⟩, rm⟩), .b ((termT p (allL lss)).isSome = true)] ∧ rows = []) := by
  refine FSpec.mono (newTerm_at p lss hp hok hn h1 h) ?_
  rintro d rows ⟨rfl, ⟨ht, rfl⟩ | ⟨t, rm, ht, rfl⟩⟩
  · refine ⟨[], ?_, rfl⟩
    rw [ht]
    simp
  · refine ⟨rm, ?_, rfl⟩
    rw [ht]
    simp
noncomputable def wout1 (a u : Term) : Option Term := termT a.p (a.less ++ [u.p])
noncomputable def wout2 (a : Term) (m : Str) : Option Term := (meetT a.p m).bind fun p => termT p a.less
noncomputable def wouts (ts : List Term) (u : Term) : List Term := ts.flatMap fun a => (wout1 a u).toList ++ u.less.filterMap (wout2 a)
noncomputable def withoutO (n : Int) (ts : List Term) (u : Term) : Int × Int × List Term := if ts.length * (1 + u.less.length) ≤ 2048 then bndO n (formT (wouts ts u)) else (3, 0, [])
theorem wout1_good {n : Nat} {a u t : Term} (ha : GoodT n a) (hu : GoodT n u) (h : wout1 a u = some t) : GoodT n t :=
  (termT_good ha.p ha.len (fun m hm => (List.mem_append.1 hm).elim (fun h => (ha.less m h).1) (fun h => by simp at h; rw [h]; exact hu.p.1)) h).1
theorem wout2_good {n : Nat} {a t : Term} {m : Str} (ha : GoodT n a) (hm : CN m) (h : wout2 a m = some t) : GoodT n t := by
  unfold wout2 at h
  obtain ⟨p, hp, ht⟩ := Option.bind_eq_some_iff.1 h
  have hc := meetT_ct hp ha.p.1 hm.1
  exact (termT_good ⟨hc.1, fun e => hc.2.2 (List.eq_nil_of_length_eq_zero (by rw [← hc.2.1, e]; rfl))⟩ (by rw [hc.2.1, ha.len]) (fun x hx => (ha.less x hx).1) ht).1
theorem wouts_good {n : Nat} {ts : List Term} {u : Term} (h1 : ∀ t ∈ ts, GoodT n t) (h2 : GoodT n u) : ∀ t ∈ wouts ts u, GoodT n t := by
  intro t ht
  obtain ⟨a, ha, h⟩ := List.mem_flatMap.1 ht
  rcases List.mem_append.1 h with h | h
  · exact wout1_good (h1 a ha) h2 (Option.mem_toList.1 h)
  · obtain ⟨m, hm, h⟩ := List.mem_filterMap.1 h
    exact wout2_good (h1 a ha) (h2.less m hm) h
theorem wouts_less {ts : List Term} {u : Term} {k : Nat} (h1 : ∀ t ∈ ts, t.less.length ≤ k) : ∀ t ∈ wouts ts u, t.less.length ≤ k + 1 := by
  intro t ht
  obtain ⟨a, ha, h⟩ := List.mem_flatMap.1 ht
  rcases List.mem_append.1 h with h | h
  · have := termT_sz (Option.mem_toList.1 h)
    have := h1 a ha
    rw [List.length_append] at *
    simp at *
    omega
  · obtain ⟨m, hm, h⟩ := List.mem_filterMap.1 h
    unfold wout2 at h
    obtain ⟨p, hp, ht⟩ := Option.bind_eq_some_iff.1 h
    have := termT_sz ht
    have := h1 a ha
    omega
theorem wouts_snoc {ts : List Term} {u : Term} {i : Nat} {a : Term} (h : ts[i]? = some a) : wouts (ts.take (i + 1)) u = wouts (ts.take i) u ++ ((wout1 a u).toList ++ u.less.filterMap (wout2 a)) := by
  unfold wouts
  rw [take_snoc h, List.flatMap_append]
  simp
theorem withoutO_ok {n : Int} {ts : List Term} {u : Term} (h : ts.length * (1 + u.less.length) ≤ 2048) : withoutO n ts u = bndO n (formT (wouts ts u)) := if_pos h
theorem withoutO_raw {n : Int} {ts : List Term} {u : Term} (h : ¬ ts.length * (1 + u.less.length) ≤ 2048) : withoutO n ts u = (3, 0, []) := if_neg h
end Go.Proofs.YtaiondckookpiaaDoor
namespace Go.Proofs.YtaiondckookpiaaDoor
open Go Go.Vx
set_option maxRecDepth 100000 in
set_option maxHeartbeats 8000000 in
theorem without_at {n : Int} {ts : List Term} (hf : Fine n ts) (u : TR) (hu : GoodT n.toNat u.t) (hul : u.t.less.length ≤ 127) (ks : List TR) (rm : List (List D)) (h1 : ks.map TR.t = ts) :
    FSpec Tryd.prog T 62 [.lst 81 (ks.map trow) rm, .agg (trow u)] (fun d rows => ∃ (l : List TR) (rm' : List (List D)), d = .lst 81 (l.map trow) rm' ∧ rows = [] ∧ l.map TR.t = wouts ts u.t) := by
  have hl1 : ks.length = ts.length := by rw [← h1, List.length_map]
  have hm1 : (ks.map trow).length = ts.length := by simp [hl1]
  have hm2 : (u.t.less.map crow).length = u.t.less.length := by simp
  have hk1 := hf.len
  refine FSpec.of_ok tok Tryd.func62 rfl Tryd.call62 (by simp) ?_
  (try (conv => whnf)); repeat' (first | refine Ok.seq ?_ | refine OkL.cons ?_ | ((first | refine Ok.region tok ?_ | refine Ok.region_draw tok follows (by kernel_rfl) ?_ | refine Ok.cond ?_); conv => whnf) | refine Ok.block ?_ | ((first | refine Ok.skip ?_ | refine Ok.exit ?_ | refine Ok.ret ?_ | refine nI ?_ | refine ix _ (by assumption) ?_ | refine ixI (by omega) (by assumption) ?_ | refine ix_new _ (by omega) fun _ _ => ?_ | refine ixI_new (by omega) (by omega) fun _ _ => ?_ | refine ⟨_, by assumption, ?_⟩ | refine Alt2.l (aI ?_) | refine Alt2.r (aI ?_)); conv => whnf) | (refine Ok.scope ?_) | ((first | refine Ok.label ?_ | refine rd rfl (by assumption) ?_ | refine ⟨_, .inl ⟨rfl, rfl⟩, ?_⟩ | refine ⟨_, _, rfl, rfl, ?_⟩); conv => whnf) | (refine ⟨fun _ => ?_, fun _ => ?_⟩ <;> (conv => whnf) <;> (try (exfalso; omega))) | ((first | refine aJ ?_ | refine num_any ?_ | refine ⟨_, rfl, ?_⟩); conv => whnf) | fail)
  refine Ok.ghost 5 81 rfl ?_
  (conv => whnf)
  refine Ok.loopU [3, 16, 17] [5, 18] 1 1 (fun (x : Nat × List TR) => [.own 0 x.2.length, .i .i64 (x.1 : Nat)]) (fun _ b => b) (fun (x : Nat × List TR) (_ : Vx.Rows) => [some (81, x.2.map trow)]) (fun (x : Nat × List TR) => x.1 ≤ ts.length ∧ x.2.map TR.t = wouts (ts.take x.1) u.t ∧ x.2.length ≤ x.1 * 128) (fun (x : Nat × List TR) => ts.length - x.1) ((0, [])) (⟨Nat.zero_le _, by simp [wouts], by simp⟩) ?_; (conv => whnf); refine ⟨by ((conv => whnf); first | rfl | (simp [envCat, List.take_of_length_le, crow, trow, srow, drow]; done) | (simp [envCat, List.take_of_length_le, crow, trow, srow, drow]; rw [IntKind.wrap_i64]; omega)), ?_⟩
  rintro ⟨i, l⟩ ⟨hi, hl, hll⟩
  dsimp only at hi hl hll ⊢
  have hlm : (l.map trow).length = l.length := by simp
  (conv => whnf)
  by_cases hil : i < ts.length
  · obtain ⟨a, ha⟩ : ∃ a, ks[i]? = some a := ⟨_, List.getElem?_eq_getElem (by omega)⟩
    have haI : ks[((i : Nat) : Int).toNat]? = some a := ha
    have hat := tr_get h1 ha
    have hag := hf.good _ (List.mem_of_getElem? hat)
    have hal := hf.less (List.mem_of_getElem? hat)
    have hal2 : (a.t.less.map crow).length = a.t.less.length := by simp
    have hsn := wouts_snoc (u := u.t) hat
    have hnew : ∀ rl room, rl = List.map lrow [⟨a.t.less, a.room⟩, ⟨[u.t.p], []⟩] → FSpec Tryd.prog T 45 [.agg (crow a.t.p), .lst 52 rl room] (fun d rows => ∃ rm, d = .tup [.agg (trow ⟨(wout1 a.t u.t).getD ⟨[], []⟩, rm⟩), .b ((wout1 a.t u.t).isSome = true)] ∧ rows = []) := fun rl room h => by
      have := newTerm1_at a.t.p [⟨a.t.less, a.room⟩, ⟨[u.t.p], []⟩] (room := room) hag.p (by
        intro x hx m hm
        simp at hx
        rcases hx with rfl | rfl
        · exact (hag.less m hm).1
        · simp at hm; rw [hm]; exact hu.p.1) (by simp [allL]; omega) (by simp) h
      rwa [show allL [⟨a.t.less, a.room⟩, ⟨[u.t.p], []⟩] = a.t.less ++ [u.t.p] by simp [allL]] at this
    have hwl : (wout1 a.t u.t).toList.length ≤ 1 := by cases wout1 a.t u.t <;> simp
    (try (conv => whnf)); repeat' (first | (refine Ok.seqU (c1 := .seq (.region 5 _ _) _) [3, 7, 16, 17, 18] [5] 1 2 (fun x : List TR => [.own 0 x.length]) (fun _ b => b) (fun (x : List TR) (_ : Vx.Rows) => [some (81, x.map trow)]) (fun x => x.map TR.t = wouts (ts.take i) u.t ++ (wout1 a.t u.t).toList ∧ x.length ≤ l.length + 1) ?_; (conv => whnf); refine And.intro ?_ ?_) | refine Ok.seq ?_ | refine OkL.cons ?_ | ((first | refine Ok.region tok ?_ | refine Ok.region_draw tok follows (by kernel_rfl) ?_ | refine Ok.cond ?_); conv => whnf) | refine Ok.block ?_ | ((first | refine Ok.skip ?_ | refine Ok.exit ?_ | refine Ok.ret ?_ | refine nI ?_ | refine ix _ (by assumption) ?_ | refine ixI (by omega) (by assumption) ?_ | refine ix_new _ (by omega) fun _ _ => ?_ | refine ixI_new (by omega) (by omega) fun _ _ => ?_ | refine ⟨_, by assumption, ?_⟩); conv => whnf) | (refine Or.inr (Or.inl ?_); (conv => whnf); (repeat (refine aI ?_; conv => whnf)); refine ⟨_, hnew _ _ rfl , ?_⟩; rintro _ _ ⟨rm4, rfl, rfl⟩ <;> (conv => whnf)) | ((first | refine Alt2.l (aI ?_) | refine Alt2.r (aI ?_)); conv => whnf) | (refine Ok.scope ?_) | ((first | refine Ok.label ?_ | refine rd rfl (by assumption) ?_ | refine ⟨_, .inl ⟨rfl, rfl⟩, ?_⟩ | refine ⟨_, _, rfl, rfl, ?_⟩); conv => whnf) | (refine ⟨fun _ => ?_, fun _ => ?_⟩ <;> (conv => whnf) <;> (try (exfalso; omega))) | ((first | refine aJ ?_ | refine num_any ?_ | refine ⟨_, rfl, ?_⟩); conv => whnf) | fail)
    · rename_i h
      refine ⟨l ++ [⟨(wout1 a.t u.t).getD ⟨[], []⟩, rm4⟩], ⟨?_, by simp⟩, ?_⟩
      · rw [List.map_append, hl, opt_some h]
        rfl
      · (conv => whnf)
        simp [envCat]
    · rename_i h
      refine ⟨l, ⟨?_, by omega⟩, ?_⟩
      · rw [hl, opt_none h]
        simp
      · (conv => whnf)
        rfl
    rintro l1 ⟨hl1e, hl1l⟩
    (conv => whnf)
    (try (conv => whnf)); repeat' (first | refine Ok.seq ?_ | refine OkL.cons ?_ | ((first | refine Ok.region tok ?_ | refine Ok.region_draw tok follows (by kernel_rfl) ?_ | refine Ok.cond ?_); conv => whnf) | refine Ok.block ?_ | ((first | refine Ok.skip ?_ | refine Ok.exit ?_ | refine Ok.ret ?_ | refine nI ?_ | refine ix _ (by assumption) ?_ | refine ixI (by omega) (by assumption) ?_ | refine ix_new _ (by omega) fun _ _ => ?_ | refine ixI_new (by omega) (by omega) fun _ _ => ?_ | refine ⟨_, by assumption, ?_⟩ | refine Alt2.l (aI ?_) | refine Alt2.r (aI ?_)); conv => whnf) | (refine Ok.scope ?_) | ((first | refine Ok.label ?_ | refine rd rfl (by assumption) ?_ | refine ⟨_, .inl ⟨rfl, rfl⟩, ?_⟩ | refine ⟨_, _, rfl, rfl, ?_⟩); conv => whnf) | (refine ⟨fun _ => ?_, fun _ => ?_⟩ <;> (conv => whnf) <;> (try (exfalso; omega))) | ((first | refine aJ ?_ | refine num_any ?_ | refine ⟨_, rfl, ?_⟩); conv => whnf) | fail)
    refine Ok.loopU [3, 7, 16, 17, 18, 40, 41] [5, 42] 1 2 (fun (x : Nat × List TR) => [.own 0 x.2.length, .i .i64 (x.1 : Nat)]) (fun _ b => b) (fun (x : Nat × List TR) (_ : Vx.Rows) => [some (81, x.2.map trow)]) (fun (x : Nat × List TR) => x.1 ≤ u.t.less.length ∧ x.2.map TR.t = wouts (ts.take i) u.t ++ ((wout1 a.t u.t).toList ++ (u.t.less.take x.1).filterMap (wout2 a.t)) ∧ x.2.length ≤ l.length + 1 + x.1) (fun (x : Nat × List TR) => u.t.less.length - x.1) ((0, l1)) (⟨Nat.zero_le _, by simpa using hl1e, by simpa using hl1l⟩) ?_; (conv => whnf); refine ⟨by ((conv => whnf); first | rfl | (simp [envCat, List.take_of_length_le, crow, trow, srow, drow]; done) | (simp [envCat, List.take_of_length_le, crow, trow, srow, drow]; rw [IntKind.wrap_i64]; omega)), ?_⟩
    rintro ⟨j, l2⟩ ⟨hj, hl2e, hl2l⟩
    dsimp only at hj hl2e hl2l ⊢
    have hl2m : (l2.map trow).length = l2.length := by simp
    (conv => whnf)
    by_cases hjl : j < u.t.less.length
    · obtain ⟨m, hm⟩ : ∃ m, u.t.less[j]? = some m := ⟨_, List.getElem?_eq_getElem hjl⟩
      have hmI : u.t.less[((j : Nat) : Int).toNat]? = some m := hm
      have hmc := hu.less m (List.mem_of_getElem? hm)
      have hsp := meet_at a.t.p m hag.p.1 hmc.1
      cases hmt : meetT a.t.p m with
      | none =>
        have hno : wout2 a.t m = none := by unfold wout2; rw [hmt]; rfl
        rw [hmt] at hsp
        (try (conv => whnf)); repeat' (first | refine Ok.seq ?_ | refine OkL.cons ?_ | ((first | refine Ok.region tok ?_ | refine Ok.region_draw tok follows (by kernel_rfl) ?_ | refine Ok.cond ?_); conv => whnf) | refine Ok.block ?_ | ((first | refine Ok.skip ?_ | refine Ok.exit ?_ | refine Ok.ret ?_ | refine nI ?_ | refine ix _ (by assumption) ?_ | refine ixI (by omega) (by assumption) ?_ | refine ix_new _ (by omega) fun _ _ => ?_ | refine ixI_new (by omega) (by omega) fun _ _ => ?_ | refine ⟨_, by assumption, ?_⟩); conv => whnf) | (refine Or.inr (Or.inl ?_); (conv => whnf); (repeat (refine aI ?_; conv => whnf)); refine ⟨_, hsp, ?_⟩; rintro _ _ ⟨rfl, rfl⟩ <;> (conv => whnf)) | ((first | refine Alt2.l (aI ?_) | refine Alt2.r (aI ?_)); conv => whnf) | (refine Ok.scope ?_) | ((first | refine Ok.label ?_ | refine rd rfl (by assumption) ?_ | refine ⟨_, .inl ⟨rfl, rfl⟩, ?_⟩ | refine ⟨_, _, rfl, rfl, ?_⟩); conv => whnf) | (refine ⟨fun _ => ?_, fun _ => ?_⟩ <;> (conv => whnf) <;> (try (exfalso; omega))) | ((first | refine aJ ?_ | refine num_any ?_ | refine ⟨_, rfl, ?_⟩); conv => whnf) | fail)
        · rename_i h
          cases h
        · refine ⟨(j + 1, l2), by dsimp only; omega, ⟨by dsimp only; omega, by dsimp only; rw [fm_none hm hno]; exact hl2e, by dsimp only; omega⟩, ?_⟩
          (conv => whnf)
          rfl
      | some p =>
        have hpc := meetT_ct hmt hag.p.1 hmc.1
        have hpn : p ≠ [] := fun e => hpc.2.2 (List.eq_nil_of_length_eq_zero (by rw [← hpc.2.1, e]; rfl))
        have hm3 : wout2 a.t m = termT p a.t.less := by unfold wout2; rw [hmt]; rfl
        rw [hmt] at hsp
        have hnew2 : ∀ room, FSpec Tryd.prog T 45 [.agg (crow p), .lst 52 (List.map lrow [⟨a.t.less, a.room⟩]) room] (fun d rows => ∃ rm, d = .tup [.agg (trow ⟨(termT p a.t.less).getD ⟨[], []⟩, rm⟩), .b ((termT p a.t.less).isSome = true)] ∧ rows = []) := fun room => by
          have := newTerm1_at p [⟨a.t.less, a.room⟩] (room := room) ⟨hpc.1, hpn⟩ (by
            intro x hx m hm
            simp at hx
            subst hx
            exact (hag.less m hm).1) (by simp [allL]; omega) (by simp) rfl
          rwa [show allL [⟨a.t.less, a.room⟩] = a.t.less by simp [allL]] at this
        (try (conv => whnf)); repeat' (first | refine Ok.seq ?_ | refine OkL.cons ?_ | ((first | refine Ok.region tok ?_ | refine Ok.region_draw tok follows (by kernel_rfl) ?_ | refine Ok.cond ?_); conv => whnf) | refine Ok.block ?_ | ((first | refine Ok.skip ?_ | refine Ok.exit ?_ | refine Ok.ret ?_ | refine nI ?_ | refine ix _ (by assumption) ?_ | refine ixI (by omega) (by assumption) ?_ | refine ix_new _ (by omega) fun _ _ => ?_ | refine ixI_new (by omega) (by omega) fun _ _ => ?_ | refine ⟨_, by assumption, ?_⟩); conv => whnf) | (refine Or.inr (Or.inl ?_); (conv => whnf); (repeat (refine aI ?_; conv => whnf)); refine ⟨_, hsp, ?_⟩; rintro _ _ ⟨rfl, rfl⟩ <;> (conv => whnf)) | (refine Or.inr (Or.inl ?_); (conv => whnf); (repeat (refine aI ?_; conv => whnf)); refine ⟨_, hnew2 _ , ?_⟩; rintro _ _ ⟨rm5, rfl, rfl⟩ <;> (conv => whnf)) | ((first | refine Alt2.l (aI ?_) | refine Alt2.r (aI ?_)); conv => whnf) | (refine Ok.scope ?_) | ((first | refine Ok.label ?_ | refine rd rfl (by assumption) ?_ | refine ⟨_, .inl ⟨rfl, rfl⟩, ?_⟩ | refine ⟨_, _, rfl, rfl, ?_⟩); conv => whnf) | (refine ⟨fun _ => ?_, fun _ => ?_⟩ <;> (conv => whnf) <;> (try (exfalso; omega))) | ((first | refine aJ ?_ | refine num_any ?_ | refine ⟨_, rfl, ?_⟩); conv => whnf) | fail)
        · rename_i h
          refine ⟨(j + 1, l2 ++ [⟨(termT p a.t.less).getD ⟨[], []⟩, rm5⟩]), by dsimp only; omega, ⟨by dsimp only; omega, ?_, by simp; omega⟩, ?_⟩
          · dsimp only
            rw [fm_some hm (hm3.trans (opt_some h)), List.map_append, hl2e]
            simp
          · (conv => whnf)
            simp [envCat]
        · rename_i h
          refine ⟨(j + 1, l2), by dsimp only; omega, ⟨by dsimp only; omega, by dsimp only; rw [fm_none hm (hm3.trans (opt_none h))]; exact hl2e, by dsimp only; omega⟩, ?_⟩
          (conv => whnf)
          rfl
        · rename_i h
          exact absurd rfl h
    · have hje : j = u.t.less.length := by omega
      subst hje
      rw [List.take_length] at hl2e
      (try (conv => whnf)); repeat' (first | refine Ok.seq ?_ | refine OkL.cons ?_ | ((first | refine Ok.region tok ?_ | refine Ok.region_draw tok follows (by kernel_rfl) ?_ | refine Ok.cond ?_); conv => whnf) | refine Ok.block ?_ | ((first | refine Ok.skip ?_ | refine Ok.exit ?_ | refine Ok.ret ?_ | refine nI ?_ | refine ix _ (by assumption) ?_ | refine ixI (by omega) (by assumption) ?_ | refine ix_new _ (by omega) fun _ _ => ?_ | refine ixI_new (by omega) (by omega) fun _ _ => ?_ | refine ⟨_, by assumption, ?_⟩ | refine Alt2.l (aI ?_) | refine Alt2.r (aI ?_)); conv => whnf) | (refine Ok.scope ?_) | ((first | refine Ok.label ?_ | refine rd rfl (by assumption) ?_ | refine ⟨_, .inl ⟨rfl, rfl⟩, ?_⟩ | refine ⟨_, _, rfl, rfl, ?_⟩); conv => whnf) | (refine ⟨fun _ => ?_, fun _ => ?_⟩ <;> (conv => whnf) <;> (try (exfalso; omega))) | ((first | refine aJ ?_ | refine num_any ?_ | refine ⟨_, rfl, ?_⟩); conv => whnf) | fail)
      refine ⟨(i + 1, l2), by dsimp only; omega, ⟨by dsimp only; omega, by dsimp only; rw [hsn]; exact hl2e, by dsimp only; omega⟩, ?_⟩
      (conv => whnf)
      rfl
  · have hie : i = ts.length := by omega
    subst hie
    rw [List.take_length] at hl
    (try (conv => whnf)); repeat' (first | refine Ok.seq ?_ | refine OkL.cons ?_ | ((first | refine Ok.region tok ?_ | refine Ok.region_draw tok follows (by kernel_rfl) ?_ | refine Ok.cond ?_); conv => whnf) | refine Ok.block ?_ | ((first | refine Ok.skip ?_ | refine Ok.exit ?_ | refine Ok.ret ?_ | refine nI ?_ | refine ix _ (by assumption) ?_ | refine ixI (by omega) (by assumption) ?_ | refine ix_new _ (by omega) fun _ _ => ?_ | refine ixI_new (by omega) (by omega) fun _ _ => ?_ | refine ⟨_, by assumption, ?_⟩ | refine Alt2.l (aI ?_) | refine Alt2.r (aI ?_)); conv => whnf) | (refine Ok.scope ?_) | ((first | refine Ok.label ?_ | refine rd rfl (by assumption) ?_ | refine ⟨_, .inl ⟨rfl, rfl⟩, ?_⟩ | refine ⟨_, _, rfl, rfl, ?_⟩); conv => whnf) | (refine ⟨fun _ => ?_, fun _ => ?_⟩ <;> (conv => whnf) <;> (try (exfalso; omega))) | ((first | refine aJ ?_ | refine num_any ?_ | refine ⟨_, rfl, ?_⟩); conv => whnf) | fail)
    refine Or.inl ?_; (conv => whnf)
    refine ⟨l, [], ?_, rfl, hl⟩
    rw [List.take_of_length_le (by simp), List.drop_of_length_le (by simp)]
    rfl
end Go.Proofs.YtaiondckookpiaaDoor
namespace Go.Proofs.YtaiondckookpiaaDoor
open Go Go.Vx
noncomputable def minusL (n : Int) : List Term → List Term → Int × Int × List Term
  | ts, [] => (0, n, ts)
  | ts, u :: us => if (withoutO n ts u).1 = 0 then minusL n (withoutO n ts u).2.2 us else ((withoutO n ts u).1, 0, [])
theorem withoutO_cases (n : Int) (ts : List Term) (u : Term) : withoutO n ts u = (3, 0, []) ∨ (withoutO n ts u = (0, n, formT (wouts ts u)) ∧ szT (formT (wouts ts u)) ≤ 128 ∧ ts.length * (1 + u.less.length) ≤ 2048) := by
  by_cases h : ts.length * (1 + u.less.length) ≤ 2048
  · rw [withoutO_ok h]
    by_cases h2 : szT (formT (wouts ts u)) ≤ 128
    · rw [bndO_le h2]; exact .inr ⟨rfl, h2, h⟩
    · rw [bndO_gt (by omega)]; exact .inl rfl
  · rw [withoutO_raw h]; exact .inl rfl
theorem minusL_stop {n : Int} {ts us : List Term} {u : Term} (h : withoutO n ts u = (3, 0, [])) : minusL n ts (u :: us) = (3, 0, []) := by
  unfold minusL
  rw [h, if_neg (by decide)]
theorem minusL_go {n : Int} {ts us l : List Term} {u : Term} (h : withoutO n ts u = (0, n, l)) : minusL n ts (u :: us) = minusL n l us := by
  conv => lhs; unfold minusL
  rw [h, if_pos rfl]
theorem minusL_fine {n : Int} : ∀ {us ts : List Term}, Fine n ts → (∀ u ∈ us, GoodT n.toNat u) → Fine (minusL n ts us).2.1 (minusL n ts us).2.2
  | [], ts, hf, _ => hf
  | u :: us, ts, hf, hg => by
    rcases withoutO_cases n ts u with h | ⟨h, hs, _⟩
    · rw [minusL_stop h]; exact .nil (by decide) (by decide)
    · rw [minusL_go h]
      exact minusL_fine (.form hf.n0 hf.n1 (wouts_good hf.good (hg u (by simp))) hs) fun x hx => hg x (by simp [hx])
open Classical in
noncomputable def minusO (n m : Int) (ts us : List Term) : Int × Int × List Term := if fitP n m then minusL n ts us else (11, 0, [])
theorem minusO_fit {n m : Int} {ts us : List Term} (h : fitP n m) : minusO n m ts us = minusL n ts us := if_pos h
theorem minusO_not {n m : Int} {ts us : List Term} (h : ¬ fitP n m) : minusO n m ts us = (11, 0, []) := if_neg h
theorem minusO_fine {n m : Int} {ts us : List Term} (hf : Fine n ts) (hg : Fine m us) : Fine (minusO n m ts us).2.1 (minusO n m ts us).2.2 := by
  by_cases h : fitP n m
  · rw [minusO_fit h]
    obtain ⟨rfl, _⟩ := h
    exact minusL_fine hf hg.good
  · rw [minusO_not h]; exact .nil (by decide) (by decide)
theorem wouts_len (ts : List Term) (u : Term) : (wouts ts u).length ≤ ts.length * (1 + u.less.length) := by
  induction ts with
  | nil => simp [wouts]
  | cons a ts ih =>
    unfold wouts at *
    rw [List.flatMap_cons, List.length_append, List.length_append, List.length_cons, Nat.add_mul]
    have h1 : (wout1 a u).toList.length ≤ 1 := by cases wout1 a u <;> simp
    have h2 := List.length_filterMap_le (wout2 a) u.less
    omega
theorem drop_get {α : Type} {l : List α} {i : Nat} {x : α} (h : l[i]? = some x) : l.drop i = x :: l.drop (i + 1) := by
  obtain ⟨hl, e⟩ := List.getElem?_eq_some_iff.1 h
  rw [List.drop_eq_getElem_cons hl, e]
set_option maxRecDepth 100000 in
set_option maxHeartbeats 8000000 in
theorem minus_at {n m : Int} {ts us : List Term} (hf : Fine n ts) (hg : Fine m us) (ks ks2 : List TR) (rm rm2 : List (List D)) (h1 : ks.map TR.t = ts) (h2 : ks2.map TR.t = us) :
    FSpec Tryd.prog T 33 [.agg [.i .i64 n, .lst 81 (ks.map trow) rm], .agg [.i .i64 m, .lst 81 (ks2.map trow) rm2]] (POut (minusO n m ts us)) := by
  have hfit := fits2_at n m
  have hl2 : ks2.length = us.length := by rw [← h2, List.length_map]
  have hm2 : (ks2.map trow).length = us.length := by simp [hl2]
  have hk2 := hg.len
  refine FSpec.of_deferK 3 tok Tryd.func33 rfl Tryd.call33 (by simp) def_minus (zd1 := [.i .i64 0, .nilS]) (zd2 := [.i .i64 3]) rfl rfl (by simp [Value.oneCell']) (by simp [Value.oneCell']) rfl ?_
  by_cases hfp : fitP n m
  · have hnm := hfp.1
    subst hnm
    rw [minusO_fit hfp]
    (try (conv => whnf)); repeat' (first | refine Ok.seq ?_ | refine OkL.cons ?_ | ((first | refine Ok.region tok ?_ | refine Ok.region_plan (id := 8) tok follows [(3, 5, []), (4, 5, []), (1, 6, []), (3, 6, [5]), (4, 6, [5]), (5, 6, []), (1, 7, []), (3, 7, []), (4, 7, []), (5, 7, []), (6, 7, [])] [.q 0, .q 1, .q 2, .q 3, .q 4, .l 5, .l 6, .l 7] (by kernel_rfl) ?_ | refine Ok.region_draw tok follows (by kernel_rfl) ?_ | refine Ok.cond ?_); conv => whnf) | refine Ok.block ?_ | ((first | refine Ok.skip ?_ | refine Ok.exit ?_ | refine Ok.ret ?_ | refine nI ?_ | refine ix _ (by assumption) ?_ | refine ixI (by omega) (by assumption) ?_ | refine ix_new _ (by omega) fun _ _ => ?_ | refine ixI_new (by omega) (by omega) fun _ _ => ?_ | refine ⟨_, by assumption, ?_⟩); conv => whnf) | (refine Or.inl ?_; (conv => whnf); (repeat (refine aI ?_; conv => whnf)); refine ⟨_, hfit, rfl, ?_⟩; conv => whnf) | (refine ⟨_, hfit, rfl, ?_⟩; conv => whnf) | (refine Or.inr (Or.inl ?_); (conv => whnf); (repeat (refine aI ?_; conv => whnf)); refine ⟨_, hfit, ?_⟩; rintro _ _ ⟨rfl, rfl⟩; conv => whnf) | ((first | refine Alt2.l (aI ?_) | refine Alt2.r (aI ?_)); conv => whnf) | (refine Ok.scope ?_) | ((first | refine Ok.label ?_ | refine rd rfl (by assumption) ?_ | refine ⟨_, .inl ⟨rfl, rfl⟩, ?_⟩ | refine ⟨_, _, rfl, rfl, ?_⟩); conv => whnf) | (refine ⟨fun _ => ?_, fun _ => ?_⟩ <;> (conv => whnf) <;> (try (exfalso; omega))) | ((first | refine aJ ?_ | refine num_any ?_ | refine ⟨_, rfl, ?_⟩); conv => whnf) | fail)
    · exact absurd hfp (by assumption)
    refine OkL.nil ?_
    (conv => whnf)
    refine ⟨2, 3, rfl, rfl, by decide, by decide, by decide, rfl, ?_⟩
    (try (conv => whnf)); repeat' (first | refine Ok.seq ?_ | refine OkL.cons ?_ | ((first | refine Ok.region tok ?_ | refine Ok.region_plan (id := 8) tok follows [(3, 5, []), (4, 5, []), (1, 6, []), (3, 6, [5]), (4, 6, [5]), (5, 6, []), (1, 7, []), (3, 7, []), (4, 7, []), (5, 7, []), (6, 7, [])] [.q 0, .q 1, .q 2, .q 3, .q 4, .l 5, .l 6, .l 7] (by kernel_rfl) ?_ | refine Ok.region_draw tok follows (by kernel_rfl) ?_ | refine Ok.cond ?_); conv => whnf) | refine Ok.block ?_ | ((first | refine Ok.skip ?_ | refine Ok.exit ?_ | refine Ok.ret ?_ | refine nI ?_ | refine ix _ (by assumption) ?_ | refine ixI (by omega) (by assumption) ?_ | refine ix_new _ (by omega) fun _ _ => ?_ | refine ixI_new (by omega) (by omega) fun _ _ => ?_ | refine ⟨_, by assumption, ?_⟩ | refine Alt2.l (aI ?_) | refine Alt2.r (aI ?_)); conv => whnf) | (refine Ok.scope ?_) | ((first | refine Ok.label ?_ | refine rd rfl (by assumption) ?_ | refine ⟨_, .inl ⟨rfl, rfl⟩, ?_⟩ | refine ⟨_, _, rfl, rfl, ?_⟩); conv => whnf) | (refine ⟨fun _ => ?_, fun _ => ?_⟩ <;> (conv => whnf) <;> (try (exfalso; omega))) | ((first | refine aJ ?_ | refine num_any ?_ | refine ⟨_, rfl, ?_⟩); conv => whnf) | fail)
    refine Ok.loopU [2, 4, 5, 17, 18, 41, 42] [19] 0 4 (fun (x : Nat × List TR × List (List D)) => [.i .i64 (x.1 : Nat)]) (fun (x : Nat × List TR × List (List D)) (_ : List (List D)) => [[.i .i64 n, .lst 81 (x.2.1.map trow) x.2.2], [.i .i64 n, .lst 81 (ks2.map trow) rm2], [.i .i64 0, .nilS], [.i .i64 0]]) (fun _ r => r) (fun (x : Nat × List TR × List (List D)) => x.1 ≤ us.length ∧ Fine n (x.2.1.map TR.t) ∧ minusL n ts us = minusL n (x.2.1.map TR.t) (us.drop x.1)) (fun (x : Nat × List TR × List (List D)) => us.length - x.1) ((0, ks, rm)) (⟨Nat.zero_le _, by rw [h1]; exact hf, by rw [h1]; rfl⟩) ?_; (conv => whnf); refine ⟨by ((conv => whnf); first | rfl | (simp [envCat, List.take_of_length_le, crow, trow, srow, drow]; done) | (simp [envCat, List.take_of_length_le, crow, trow, srow, drow]; rw [IntKind.wrap_i64]; omega)), ?_⟩
    rintro ⟨i, kr, rr⟩ ⟨hi, hfr, hml⟩
    dsimp only at hi hfr hml ⊢
    have hkr : (kr.map trow).length = (kr.map TR.t).length := by simp
    have hkl := hfr.len
    (conv => whnf)
    by_cases hil : i < us.length
    · obtain ⟨u, hu⟩ : ∃ u, ks2[i]? = some u := ⟨_, List.getElem?_eq_getElem (by omega)⟩
      have huI : ks2[((i : Nat) : Int).toNat]? = some u := hu
      have hut := tr_get h2 hu
      have hug := hg.good _ (List.mem_of_getElem? hut)
      have hul := hg.less (List.mem_of_getElem? hut)
      have hul2 : (u.t.less.map crow).length = u.t.less.length := by simp
      have hmul : ((kr.map trow).length : Int) * (1 + ((u.t.less.map crow).length : Int)) = (((kr.map TR.t).length * (1 + u.t.less.length) : Nat) : Int) := by rw [hkr, hul2]; simp
      have hmb : (kr.map TR.t).length * (1 + u.t.less.length) ≤ 128 * 128 := Nat.mul_le_mul hkl (by omega)
      have hsp := without_at hfr u hug hul kr rr rfl
      have hwg := wouts_good hfr.good hug
      have hwl := wouts_less (u := u.t) (fun t ht => hfr.less (t := t) ht)
      have hto : ∀ l : List TR, l.map TR.t = wouts (kr.map TR.t) u.t → ∀ x ∈ l, TO n.toNat x := fun l e x hx => (hwg _ (mem_of_map e hx)).to (Nat.le_trans (hwl _ (mem_of_map e hx)) (by decide))
      have hln : ∀ l : List TR, l.map TR.t = wouts (kr.map TR.t) u.t → l.length ≤ 1048576 := fun l e => by
        have h1 := wouts_len (kr.map TR.t) u.t
        rw [← e] at h1
        rw [List.length_map] at h1
        omega
      rw [drop_get hut] at hml
      by_cases hraw : (kr.map TR.t).length * (1 + u.t.less.length) ≤ 2048
      · by_cases hsz : szT (formT (wouts (kr.map TR.t) u.t)) ≤ 128
        · have hw : withoutO n (kr.map TR.t) u.t = (0, n, formT (wouts (kr.map TR.t) u.t)) := by rw [withoutO_ok hraw, bndO_le hsz]
          rw [minusL_go hw] at hml
          (try (conv => whnf)); repeat' (first | refine Ok.seq ?_ | refine OkL.cons ?_ | ((first | refine Ok.region tok ?_ | refine Ok.region_plan (id := 8) tok follows [(3, 5, []), (4, 5, []), (1, 6, []), (3, 6, [5]), (4, 6, [5]), (5, 6, []), (1, 7, []), (3, 7, []), (4, 7, []), (5, 7, []), (6, 7, [])] [.q 0, .q 1, .q 2, .q 3, .q 4, .l 5, .l 6, .l 7] (by kernel_rfl) ?_ | refine Ok.region_draw tok follows (by kernel_rfl) ?_ | refine Ok.cond ?_); conv => whnf) | refine Ok.block ?_ | ((first | refine Ok.skip ?_ | refine Ok.exit ?_ | refine Ok.ret ?_ | refine nI ?_ | refine ix _ (by assumption) ?_ | refine ixI (by omega) (by assumption) ?_ | refine ix_new _ (by omega) fun _ _ => ?_ | refine ixI_new (by omega) (by omega) fun _ _ => ?_ | refine ⟨_, by assumption, ?_⟩); conv => whnf) | (refine Or.inl ?_; (conv => whnf); (repeat (refine aI ?_; conv => whnf)); refine ⟨_, raw_at (n := ((kr.map trow).length : Int) * (1 + ((u.t.less.map crow).length : Int))) (by rw [hmul]; omega), rfl, ?_⟩; conv => whnf) | (refine ⟨_, raw_at (n := ((kr.map trow).length : Int) * (1 + ((u.t.less.map crow).length : Int))) (by rw [hmul]; omega), rfl, ?_⟩; conv => whnf) | (refine Or.inr (Or.inl ?_); (conv => whnf); (repeat (refine aI ?_; conv => whnf)); refine ⟨_, raw_at (n := ((kr.map trow).length : Int) * (1 + ((u.t.less.map crow).length : Int))) (by rw [hmul]; omega), ?_⟩; rintro _ _ ⟨rfl, rfl⟩; conv => whnf) | (refine Or.inr (Or.inl ?_); (conv => whnf); (repeat (refine aI ?_; conv => whnf)); refine ⟨_, hsp , ?_⟩; rintro _ _ ⟨l, rm3, rfl, rfl, hl⟩ <;> (conv => whnf)) | (refine Or.inr (Or.inl ?_); (conv => whnf); (repeat (refine aI ?_; conv => whnf)); refine ⟨_, form_at n n.toNat l (hln l hl) (hto l hl) rfl (by rw [hl]; exact hsz) , ?_⟩; rintro _ _ ⟨ks3, rm4, rfl, rfl, hks3, hkm⟩ <;> (conv => whnf)) | ((first | refine Alt2.l (aI ?_) | refine Alt2.r (aI ?_)); conv => whnf) | (refine Ok.scope ?_) | ((first | refine Ok.label ?_ | refine rd rfl (by assumption) ?_ | refine ⟨_, .inl ⟨rfl, rfl⟩, ?_⟩ | refine ⟨_, _, rfl, rfl, ?_⟩); conv => whnf) | (refine ⟨fun _ => ?_, fun _ => ?_⟩ <;> (conv => whnf) <;> (try (exfalso; omega))) | ((first | refine aJ ?_ | refine num_any ?_ | refine ⟨_, rfl, ?_⟩); conv => whnf) | fail)
          refine ⟨(i + 1, ks3, rm4), by dsimp only; omega, ⟨by dsimp only; omega, by dsimp only; rw [hks3, hl]; exact .form hfr.n0 hfr.n1 hwg hsz, by dsimp only; rw [hks3, hl]; exact hml⟩, ?_⟩
          (conv => whnf)
          rfl
        · have hw : withoutO n (kr.map TR.t) u.t = (3, 0, []) := by rw [withoutO_ok hraw, bndO_gt (by omega)]
          rw [minusL_stop hw] at hml
          rw [hml]
          (try (conv => whnf)); repeat' (first | refine Ok.seq ?_ | refine OkL.cons ?_ | ((first | refine Ok.region tok ?_ | refine Ok.cond ?_); conv => whnf) | refine Ok.block ?_ | ((first | refine Ok.skip ?_ | refine Ok.exit ?_ | refine Ok.ret ?_ | refine nI ?_ | refine ix _ (by assumption) ?_ | refine ixI (by omega) (by assumption) ?_ | refine ix_new _ (by omega) fun _ _ => ?_ | refine ixI_new (by omega) (by omega) fun _ _ => ?_ | refine ⟨_, by assumption, ?_⟩); conv => whnf) | (refine Or.inl ?_; (conv => whnf); (repeat (refine aI ?_; conv => whnf)); refine ⟨_, raw_at (n := ((kr.map trow).length : Int) * (1 + ((u.t.less.map crow).length : Int))) (by rw [hmul]; omega), rfl, ?_⟩; conv => whnf) | (refine ⟨_, raw_at (n := ((kr.map trow).length : Int) * (1 + ((u.t.less.map crow).length : Int))) (by rw [hmul]; omega), rfl, ?_⟩; conv => whnf) | (refine Or.inr (Or.inl ?_); (conv => whnf); (repeat (refine aI ?_; conv => whnf)); refine ⟨_, raw_at (n := ((kr.map trow).length : Int) * (1 + ((u.t.less.map crow).length : Int))) (by rw [hmul]; omega), ?_⟩; rintro _ _ ⟨rfl, rfl⟩; conv => whnf) | ((first | refine Alt2.l (aI ?_) | refine Alt2.r (aI ?_)); conv => whnf) | (refine Ok.scope ?_) | ((first | refine Ok.label ?_ | refine rd rfl (by assumption) ?_ | refine ⟨_, .inl ⟨rfl, rfl⟩, ?_⟩ | refine ⟨_, _, rfl, rfl, ?_⟩); conv => whnf) | (refine ⟨fun _ => ?_, fun _ => ?_⟩ <;> (conv => whnf) <;> (try (exfalso; omega))) | ((first | refine aJ ?_ | refine num_any ?_ | refine ⟨_, rfl, ?_⟩); conv => whnf) | fail)
          refine Ok.region_planpanS tok follows [(3, 5, []), (4, 5, [])] [.q 0, .q 1, .q 2, .q 3, .q 4, .l 5] 6 (by kernel_rfl) ?_; (conv => whnf)
          (try (conv => whnf)); repeat' (first | refine Ok.seq ?_ | refine OkL.cons ?_ | ((first | refine Ok.region tok ?_ | refine Ok.cond ?_); conv => whnf) | refine Ok.block ?_ | ((first | refine Ok.skip ?_ | refine Ok.exit ?_ | refine Ok.ret ?_ | refine nI ?_ | refine ix _ (by assumption) ?_ | refine ixI (by omega) (by assumption) ?_ | refine ix_new _ (by omega) fun _ _ => ?_ | refine ixI_new (by omega) (by omega) fun _ _ => ?_ | refine ⟨_, by assumption, ?_⟩); conv => whnf) | (refine Or.inr (Or.inl ?_); (conv => whnf); (repeat (refine aI ?_; conv => whnf)); refine ⟨_, hsp , ?_⟩; rintro _ _ ⟨l, rm3, rfl, rfl, hl⟩ <;> (conv => whnf)) | ((first | refine Alt2.l (aI ?_) | refine Alt2.r (aI ?_)); conv => whnf) | (refine Ok.scope ?_) | ((first | refine Ok.label ?_ | refine rd rfl (by assumption) ?_ | refine ⟨_, .inl ⟨rfl, rfl⟩, ?_⟩ | refine ⟨_, _, rfl, rfl, ?_⟩); conv => whnf) | (refine ⟨fun _ => ?_, fun _ => ?_⟩ <;> (conv => whnf) <;> (try (exfalso; omega))) | ((first | refine aJ ?_ | refine num_any ?_ | refine ⟨_, rfl, ?_⟩); conv => whnf) | fail)
          refine ⟨_, form_pan n n.toNat l (hln l hl) (hto l hl) rfl (by rw [hl]; omega), ?_⟩
          (conv => whnf)
          refine ⟨rfl, 2, 3, _, _, rfl, rfl, rfl, rfl, rfl, rfl, by decide, rfl, ?_⟩
          (conv => whnf)
          refine Or.inl ?_; (conv => whnf)
          exact ⟨rfl, _, rfl, PSp.nil 0⟩
      · have hw : withoutO n (kr.map TR.t) u.t = (3, 0, []) := withoutO_raw hraw
        rw [minusL_stop hw] at hml
        rw [hml]
        (try (conv => whnf)); repeat' (first | (refine Ok.region_pan (id := 7) tok 8 ?_; (conv => whnf)) | refine Ok.seq ?_ | refine OkL.cons ?_ | ((first | refine Ok.region tok ?_ | refine Ok.region_plan (id := 8) tok follows [(3, 5, []), (4, 5, []), (1, 6, []), (3, 6, [5]), (4, 6, [5]), (5, 6, []), (1, 7, []), (3, 7, []), (4, 7, []), (5, 7, []), (6, 7, [])] [.q 0, .q 1, .q 2, .q 3, .q 4, .l 5, .l 6, .l 7] (by kernel_rfl) ?_ | refine Ok.region_draw tok follows (by kernel_rfl) ?_ | refine Ok.cond ?_); conv => whnf) | refine Ok.block ?_ | ((first | refine Ok.skip ?_ | refine Ok.exit ?_ | refine Ok.ret ?_ | refine nI ?_ | refine ix _ (by assumption) ?_ | refine ixI (by omega) (by assumption) ?_ | refine ix_new _ (by omega) fun _ _ => ?_ | refine ixI_new (by omega) (by omega) fun _ _ => ?_ | refine ⟨_, by assumption, ?_⟩ | refine Alt2.l (aI ?_) | refine Alt2.r (aI ?_)); conv => whnf) | (refine Ok.scope ?_) | ((first | refine Ok.label ?_ | refine rd rfl (by assumption) ?_ | refine ⟨_, .inl ⟨rfl, rfl⟩, ?_⟩ | refine ⟨_, _, rfl, rfl, ?_⟩); conv => whnf) | (refine ⟨fun _ => ?_, fun _ => ?_⟩ <;> (conv => whnf) <;> (try (exfalso; omega))) | ((first | refine aJ ?_ | refine num_any ?_ | refine ⟨_, rfl, ?_⟩); conv => whnf) | fail)
        refine ⟨_, raw_pan (by rw [hmul]; omega), ?_⟩
        (conv => whnf)
        refine ⟨rfl, 2, 3, _, _, rfl, rfl, rfl, rfl, rfl, rfl, by decide, rfl, ?_⟩
        (conv => whnf)
        refine Or.inl ?_; (conv => whnf)
        exact ⟨rfl, _, rfl, PSp.nil 0⟩
    · have hie : i = us.length := by omega
      subst hie
      rw [List.drop_length] at hml
      rw [hml]
      (try (conv => whnf)); repeat' (first | refine Ok.seq ?_ | refine OkL.cons ?_ | ((first | refine Ok.region tok ?_ | refine Ok.region_plan (id := 8) tok follows [(3, 5, []), (4, 5, []), (1, 6, []), (3, 6, [5]), (4, 6, [5]), (5, 6, []), (1, 7, []), (3, 7, []), (4, 7, []), (5, 7, []), (6, 7, [])] [.q 0, .q 1, .q 2, .q 3, .q 4, .l 5, .l 6, .l 7] (by kernel_rfl) ?_ | refine Ok.region_draw tok follows (by kernel_rfl) ?_ | refine Ok.cond ?_); conv => whnf) | refine Ok.block ?_ | ((first | refine Ok.skip ?_ | refine Ok.exit ?_ | refine Ok.ret ?_ | refine nI ?_ | refine ix _ (by assumption) ?_ | refine ixI (by omega) (by assumption) ?_ | refine ix_new _ (by omega) fun _ _ => ?_ | refine ixI_new (by omega) (by omega) fun _ _ => ?_ | refine ⟨_, by assumption, ?_⟩ | refine Alt2.l (aI ?_) | refine Alt2.r (aI ?_)); conv => whnf) | (refine Ok.scope ?_) | ((first | refine Ok.label ?_ | refine rd rfl (by assumption) ?_ | refine ⟨_, .inl ⟨rfl, rfl⟩, ?_⟩ | refine ⟨_, _, rfl, rfl, ?_⟩); conv => whnf) | (refine ⟨fun _ => ?_, fun _ => ?_⟩ <;> (conv => whnf) <;> (try (exfalso; omega))) | ((first | refine aJ ?_ | refine num_any ?_ | refine ⟨_, rfl, ?_⟩); conv => whnf) | fail)
      refine Or.inl ?_; (conv => whnf)
      exact ⟨rfl, _, rfl, kr, rr, rfl, rfl⟩
  · rw [minusO_not hfp]
    (try (conv => whnf)); repeat' (first | refine Ok.seq ?_ | refine OkL.cons ?_ | ((first | refine Ok.region tok ?_ | refine Ok.region_plan (id := 8) tok follows [(3, 5, []), (4, 5, []), (1, 6, []), (3, 6, [5]), (4, 6, [5]), (5, 6, []), (1, 7, []), (3, 7, []), (4, 7, []), (5, 7, []), (6, 7, [])] [.q 0, .q 1, .q 2, .q 3, .q 4, .l 5, .l 6, .l 7] (by kernel_rfl) ?_ | refine Ok.region_draw tok follows (by kernel_rfl) ?_ | refine Ok.cond ?_); conv => whnf) | refine Ok.block ?_ | ((first | refine Ok.skip ?_ | refine Ok.exit ?_ | refine Ok.ret ?_ | refine nI ?_ | refine ix _ (by assumption) ?_ | refine ixI (by omega) (by assumption) ?_ | refine ix_new _ (by omega) fun _ _ => ?_ | refine ixI_new (by omega) (by omega) fun _ _ => ?_ | refine ⟨_, by assumption, ?_⟩); conv => whnf) | (refine Or.inl ?_; (conv => whnf); (repeat (refine aI ?_; conv => whnf)); refine ⟨_, hfit, rfl, ?_⟩; conv => whnf) | (refine ⟨_, hfit, rfl, ?_⟩; conv => whnf) | (refine Or.inr (Or.inl ?_); (conv => whnf); (repeat (refine aI ?_; conv => whnf)); refine ⟨_, hfit, ?_⟩; rintro _ _ ⟨rfl, rfl⟩; conv => whnf) | ((first | refine Alt2.l (aI ?_) | refine Alt2.r (aI ?_)); conv => whnf) | (refine Ok.scope ?_) | ((first | refine Ok.label ?_ | refine rd rfl (by assumption) ?_ | refine ⟨_, .inl ⟨rfl, rfl⟩, ?_⟩ | refine ⟨_, _, rfl, rfl, ?_⟩); conv => whnf) | (refine ⟨fun _ => ?_, fun _ => ?_⟩ <;> (conv => whnf) <;> (try (exfalso; omega))) | ((first | refine aJ ?_ | refine num_any ?_ | refine ⟨_, rfl, ?_⟩); conv => whnf) | fail)
    · refine Or.inl ?_; (conv => whnf)
      exact ⟨rfl, _, rfl, PSp.nil 0⟩
    · rename_i h
      exact absurd hfp h
end Go.Proofs.YtaiondckookpiaaDoor
namespace Go.Proofs.YtaiondckookpiaaDoor
open Go Go.Vx
@[reducible] def w4 (f : Nat → Bool) : List D := [.i .u64 ((wof f 0).toNat : Int), .i .u64 ((wof f 1).toNat : Int), .i .u64 ((wof f 2).toNat : Int), .i .u64 ((wof f 3).toNat : Int)]
set_option maxHeartbeats 4000000 in
theorem at_one (f : Nat → Bool) (i : Nat) (hi : i < 256) : FSpec Tryd.prog T 64 [.ep (w4 f), .i .i64 (i : Int)] (fun d rows => d = .b (f i = true) ∧ rows = []) := by
  refine FSpec.of_ok tok Tryd.func64 rfl Tryd.call64 (by simp) ?_
  obtain ⟨q, r, hqr, hr, hq⟩ := split64 i (by omega)
  have hrem := rem64 hqr hr
  have hquo := quo64 hqr hr (by omega)
  have hrr : ((r : Nat) : Int) = ((r : Nat) : Int) ∧ r < 64 := ⟨rfl, hr⟩
  have hca := at_word (f := f) hqr hr
  rcases hq with rfl | rfl | rfl | rfl
  all_goals
    (try (conv => whnf)); repeat' (first | ((with_reducible_and_instances (first | refine nShr (by assumption) ?_ | refine nShl1' rfl (by assumption) ?_ | refine nAnd ?_ | refine nOr ?_ | refine nXor ?_ | refine nAndNot ?_ | refine nAnd1' rfl ?_)); conv => whnf) | refine Ok.seq ?_ | refine OkL.cons ?_ | ((first | refine Ok.region tok ?_ | refine ⟨_, (hquo.symm).symm, ?_⟩ | refine ⟨_, (hrem.symm).symm, ?_⟩ | refine Ok.region_draw tok follows (by kernel_rfl) ?_ | refine Ok.cond ?_); conv => whnf) | refine Ok.block ?_ | ((first | refine Ok.skip ?_ | refine Ok.exit ?_ | refine Ok.ret ?_ | refine nI ?_ | refine ix _ (by assumption) ?_ | refine ixI (by omega) (by assumption) ?_ | refine ix_new _ (by omega) fun _ _ => ?_ | refine ixI_new (by omega) (by omega) fun _ _ => ?_ | refine ⟨_, by assumption, ?_⟩ | refine Alt2.l (aI ?_) | refine Alt2.r (aI ?_)); conv => whnf) | (refine Ok.scope ?_) | ((first | refine Ok.label ?_ | refine rd rfl (by assumption) ?_ | refine ⟨_, .inl ⟨rfl, rfl⟩, ?_⟩ | refine ⟨_, _, rfl, rfl, ?_⟩); conv => whnf) | (refine ⟨fun _ => ?_, fun _ => ?_⟩ <;> (conv => whnf) <;> (try (exfalso; omega))) | ((first | refine aJ ?_ | refine num_any ?_ | refine ⟨_, rfl, ?_⟩); conv => whnf) | fail)
    refine Or.inl ?_; (conv => whnf)
    exact ⟨congrArg D.b (propext hca), rfl⟩
set_option maxHeartbeats 4000000 in
theorem at_two (f g : Nat → Bool) (i : Nat) (hi : i < 256) : FSpec Tryd.prog T 64 [.ep (w4 f ++ w4 g), .i .i64 (i : Int)] (fun d rows => d = .b (f i = true) ∧ rows = []) := by
  refine FSpec.of_ok tok Tryd.func64 rfl Tryd.call64 (by simp) ?_
  obtain ⟨q, r, hqr, hr, hq⟩ := split64 i (by omega)
  have hrem := rem64 hqr hr
  have hquo := quo64 hqr hr (by omega)
  have hrr : ((r : Nat) : Int) = ((r : Nat) : Int) ∧ r < 64 := ⟨rfl, hr⟩
  have hca := at_word (f := f) hqr hr
  rcases hq with rfl | rfl | rfl | rfl
  all_goals
    (try (conv => whnf)); repeat' (first | ((with_reducible_and_instances (first | refine nShr (by assumption) ?_ | refine nShl1' rfl (by assumption) ?_ | refine nAnd ?_ | refine nOr ?_ | refine nXor ?_ | refine nAndNot ?_ | refine nAnd1' rfl ?_)); conv => whnf) | refine Ok.seq ?_ | refine OkL.cons ?_ | ((first | refine Ok.region tok ?_ | refine ⟨_, (hquo.symm).symm, ?_⟩ | refine ⟨_, (hrem.symm).symm, ?_⟩ | refine Ok.region_draw tok follows (by kernel_rfl) ?_ | refine Ok.cond ?_); conv => whnf) | refine Ok.block ?_ | ((first | refine Ok.skip ?_ | refine Ok.exit ?_ | refine Ok.ret ?_ | refine nI ?_ | refine ix _ (by assumption) ?_ | refine ixI (by omega) (by assumption) ?_ | refine ix_new _ (by omega) fun _ _ => ?_ | refine ixI_new (by omega) (by omega) fun _ _ => ?_ | refine ⟨_, by assumption, ?_⟩ | refine Alt2.l (aI ?_) | refine Alt2.r (aI ?_)); conv => whnf) | (refine Ok.scope ?_) | ((first | refine Ok.label ?_ | refine rd rfl (by assumption) ?_ | refine ⟨_, .inl ⟨rfl, rfl⟩, ?_⟩ | refine ⟨_, _, rfl, rfl, ?_⟩); conv => whnf) | (refine ⟨fun _ => ?_, fun _ => ?_⟩ <;> (conv => whnf) <;> (try (exfalso; omega))) | ((first | refine aJ ?_ | refine num_any ?_ | refine ⟨_, rfl, ?_⟩); conv => whnf) | fail)
    refine Or.inl ?_; (conv => whnf)
    exact ⟨congrArg D.b (propext hca), rfl⟩
theorem ints_crow (c : Str) : ∀ d ∈ crow c, ∃ k n, d = .i k n := by
  intro d hd
  simp only [List.mem_cons, List.not_mem_nil, or_false] at hd
  rcases hd with rfl | rfl | rfl | rfl | rfl | rfl | rfl | rfl | rfl <;> exact ⟨_, _, rfl⟩
theorem pk2 {box : List (List D)} {a b x y : D} (h1 : Pk box a x) (h2 : Pk box b y) : ∀ (j : Nat) d e, [a, b][j]? = some d → [x, y][j]? = some e → Pk box d e := by
  intro j d e hd he
  match j, hd, he with
  | 0, hd, he => cases hd; cases he; exact h1
  | 1, hd, he => cases hd; cases he; exact h2
  | j + 2, hd, _ => simp at hd
def hasC (c h : Str) : Prop := c ≠ [] ∧ h.length = c.length ∧ (∀ b ∈ h, b = 48 ∨ b = 49) ∧ inL h c
set_option maxHeartbeats 4000000 in
theorem has_at (c h : Str) (hc : CT c) : FSpec Tryd.prog T 79 [.agg (crow c), .s h] (fun r _ => r = .b (hasC c h)) := by
  have hcl := hc.len
  refine FSpec.of_ok tok Tryd.func79 rfl Tryd.call79 (by simp) ?_
  (try (conv => whnf)); repeat' (first | ((with_reducible_and_instances (first | refine nShr (by assumption) ?_ | refine nShl1' rfl (by assumption) ?_ | refine nAnd ?_ | refine nOr ?_ | refine nXor ?_ | refine nAndNot ?_ | refine nAnd1' rfl ?_)); conv => whnf) | refine Ok.seq ?_ | refine OkL.cons ?_ | ((first | refine Ok.region tok ?_ | refine Ok.region_plan (id := 8) tok follows [(2, 6, [3])] [.q 0, .q 1, .l 2, .q 3, .q 4, .q 5, .q 7, .q 8, .q 9, .q 10, .l 6, .q 11, .q 12] (by kernel_rfl) ?_ | refine Ok.region_draw tok follows (by kernel_rfl) ?_ | refine Ok.cond ?_); conv => whnf) | refine Ok.block ?_ | ((first | refine Ok.skip ?_ | refine Ok.exit ?_ | refine Ok.ret ?_ | refine nI ?_ | refine ix _ (by assumption) ?_ | refine ixI (by omega) (by assumption) ?_ | refine ix_new _ (by omega) fun _ _ => ?_ | refine ixI_new (by omega) (by omega) fun _ _ => ?_ | refine ⟨_, by assumption, ?_⟩ | refine Alt2.l (aI ?_) | refine Alt2.r (aI ?_)); conv => whnf) | (refine Ok.scope ?_) | ((first | refine Ok.label ?_ | refine rd rfl (by assumption) ?_ | refine ⟨_, .inl ⟨rfl, rfl⟩, ?_⟩ | refine ⟨_, _, rfl, rfl, ?_⟩); conv => whnf) | (refine ⟨fun _ => ?_, fun _ => ?_⟩ <;> (conv => whnf) <;> (try (exfalso; omega))) | ((first | refine aJ ?_ | refine num_any ?_ | refine ⟨_, rfl, ?_⟩); conv => whnf) | fail)
  · rename_i h0
    refine Or.inl ?_; (conv => whnf)
    show D.b False = _
    exact congrArg D.b (propext ⟨fun q => q.elim, fun q => q.1 (List.eq_nil_of_length_eq_zero (by omega))⟩)
  · rename_i h0 h1
    refine Or.inl ?_; (conv => whnf)
    show D.b False = _
    exact congrArg D.b (propext ⟨fun q => q.elim, fun q => by have := q.2.1; omega⟩)
  rename_i h0 h1
  have hl : h.length = c.length := by omega
  have hne : c ≠ [] := fun e => h0 (by rw [e]; rfl)
  refine Ok.loopU [1, 2, 17] [18] 0 1 (fun (i : Nat) => [.i .i64 (i : Nat)]) (fun _ b => b) (fun _ r => r) (fun (i : Nat) => i ≤ c.length ∧ (∀ (k : Nat) a b, k < i → h[k]? = some a → c[k]? = some b → (a = 48 ∨ a = 49) ∧ (b = 120 ∨ b = a))) (fun (i : Nat) => c.length - i) (0) (⟨Nat.zero_le _, fun k _ _ hk => absurd hk (by omega)⟩) ?_; (conv => whnf); refine ⟨by ((conv => whnf); first | rfl | (simp [envCat, List.take_of_length_le, cells9, crow, trow]; done) | (simp [envCat, List.take_of_length_le, cells9, crow, trow]; rw [IntKind.wrap_i64]; omega)), ?_⟩
  rintro i ⟨hi, hall⟩
  (conv => whnf)
  by_cases hil : i < c.length
  · obtain ⟨a, ha⟩ : ∃ a, h[i]? = some a := ⟨_, List.getElem?_eq_getElem (by omega)⟩
    obtain ⟨b, hb⟩ : ∃ b, c[i]? = some b := ⟨_, List.getElem?_eq_getElem hil⟩
    have haI : h[((i : Nat) : Int).toNat]? = some a := ha
    have s1 := at_two (car c) (one c) i (by omega)
    have s2 := at_one (one c) i (by omega)
    have miss : ¬ ((a = 48 ∨ a = 49) ∧ (b = 120 ∨ b = a)) → ¬ hasC c h := fun hm q => hm ⟨q.2.2.1 a (List.mem_of_getElem? ha), (inL_iff.1 q.2.2.2).2 i a b ha hb⟩
    have step : (a = 48 ∨ a = 49) ∧ (b = 120 ∨ b = a) → ∀ (k : Nat) x y, k < i + 1 → h[k]? = some x → c[k]? = some y → (x = 48 ∨ x = 49) ∧ (y = 120 ∨ y = x) := fun hm k x y hk hx hy => by
      by_cases hki : k = i
      · subst hki
        rw [ha] at hx
        rw [hb] at hy
        cases hx
        cases hy
        exact hm
      · exact hall k x y (by omega) hx hy
    by_cases hd : a = 48 ∨ a = 49
    · have hbc := hc.cub b (List.mem_of_getElem? hb)
      rw [(at_b hb).1] at s1
      rw [(at_b hb).2] at s2
      rcases hbc with rfl | rfl | rfl <;> rcases hd with rfl | rfl
      all_goals
        (try (conv => whnf)); repeat' (first | ((with_reducible_and_instances (first | refine nShr (by assumption) ?_ | refine nShl1' rfl (by assumption) ?_ | refine nAnd ?_ | refine nOr ?_ | refine nXor ?_ | refine nAndNot ?_ | refine nAnd1' rfl ?_)); conv => whnf) | refine Ok.seq ?_ | refine OkL.cons ?_ | ((first | refine Ok.region tok ?_ | refine Ok.region_plan (id := 8) tok follows [(2, 6, [3])] [.q 0, .q 1, .l 2, .q 3, .q 4, .q 5, .q 7, .q 8, .q 9, .q 10, .l 6, .q 11, .q 12] (by kernel_rfl) ?_ | refine Ok.region_draw tok follows (by kernel_rfl) ?_ | refine Ok.cond ?_); conv => whnf) | refine Ok.block ?_ | ((first | refine Ok.skip ?_ | refine Ok.exit ?_ | refine Ok.ret ?_ | refine nI ?_ | refine ix _ (by assumption) ?_ | refine ixI (by omega) (by assumption) ?_ | refine ix_new _ (by omega) fun _ _ => ?_ | refine ixI_new (by omega) (by omega) fun _ _ => ?_ | refine ⟨_, by assumption, ?_⟩); conv => whnf) | (refine Or.inr (Or.inr (Or.inr (Or.inr ?_))); (conv => whnf); refine effW.of (effK.peek (by rfl) (pk2 (.bp _ _ ( crow c) rfl (fun d hd => ints_crow _ d (List.mem_of_mem_drop hd))) (.i _ _)) (s1 ) ?_); rintro _ _ ⟨rfl, rfl⟩; (refine And.intro (by simp [gRowsP, grounds, D.ground]) ?_; conv => whnf)) | (refine Or.inr (Or.inr (Or.inr ?_)); (conv => whnf); refine effK.peek (by rfl) (pk2 (.bp _ _ ( crow c) rfl (fun d hd => ints_crow _ d (List.mem_of_mem_drop hd))) (.i _ _)) (s1 ) ?_; rintro _ _ ⟨rfl, rfl⟩; (refine And.intro (by simp [gRowsP, grounds, D.ground]) ?_; conv => whnf)) | (refine Or.inr (Or.inr (Or.inr (Or.inr ?_))); (conv => whnf); refine effW.of (effK.peek (by rfl) (pk2 (.bp _ _ ( crow c) rfl (fun d hd => ints_crow _ d (List.mem_of_mem_drop hd))) (.i _ _)) (s2 ) ?_); rintro _ _ ⟨rfl, rfl⟩; (refine And.intro (by simp [gRowsP, grounds, D.ground]) ?_; conv => whnf)) | (refine Or.inr (Or.inr (Or.inr ?_)); (conv => whnf); refine effK.peek (by rfl) (pk2 (.bp _ _ ( crow c) rfl (fun d hd => ints_crow _ d (List.mem_of_mem_drop hd))) (.i _ _)) (s2 ) ?_; rintro _ _ ⟨rfl, rfl⟩; (refine And.intro (by simp [gRowsP, grounds, D.ground]) ?_; conv => whnf)) | ((first | refine Alt2.l (aI ?_) | refine Alt2.r (aI ?_)); conv => whnf) | (refine Ok.scope ?_) | ((first | refine Ok.label ?_ | refine rd rfl (by assumption) ?_ | refine ⟨_, .inl ⟨rfl, rfl⟩, ?_⟩ | refine ⟨_, _, rfl, rfl, ?_⟩); conv => whnf) | (refine ⟨fun _ => ?_, fun _ => ?_⟩ <;> (conv => whnf) <;> (try (exfalso; omega))) | ((first | refine aJ ?_ | refine num_any ?_ | refine ⟨_, rfl, ?_⟩); conv => whnf) | fail)
        all_goals first
          | contradiction
          | (refine ⟨i + 1, by omega, ⟨by omega, step (by decide)⟩, ?_⟩
             (conv => whnf)
             rfl)
          | (refine Or.inl ?_; (conv => whnf)
             show D.b False = _
             exact congrArg D.b (propext ⟨fun q => q.elim, fun q => miss (by decide) q⟩))
    · have hb3 := u8_ne (fun e => hd (.inl e) : a ≠ 48)
      have hb4 := u8_ne (fun e => hd (.inr e) : a ≠ 49)
      rw [show (((48 : UInt8).toNat : Nat) : Int) = 48 from rfl] at hb3
      rw [show (((49 : UInt8).toNat : Nat) : Int) = 49 from rfl] at hb4
      (try (conv => whnf)); repeat' (first | ((with_reducible_and_instances (first | refine nShr (by assumption) ?_ | refine nShl1' rfl (by assumption) ?_ | refine nAnd ?_ | refine nOr ?_ | refine nXor ?_ | refine nAndNot ?_ | refine nAnd1' rfl ?_)); conv => whnf) | refine Ok.seq ?_ | refine OkL.cons ?_ | ((first | refine Ok.region tok ?_ | refine Ok.region_plan (id := 8) tok follows [(2, 6, [3])] [.q 0, .q 1, .l 2, .q 3, .q 4, .q 5, .q 7, .q 8, .q 9, .q 10, .l 6, .q 11, .q 12] (by kernel_rfl) ?_ | refine Ok.region_draw tok follows (by kernel_rfl) ?_ | refine Ok.cond ?_); conv => whnf) | refine Ok.block ?_ | ((first | refine Ok.skip ?_ | refine Ok.exit ?_ | refine Ok.ret ?_ | refine nI ?_ | refine ix _ (by assumption) ?_ | refine ixI (by omega) (by assumption) ?_ | refine ix_new _ (by omega) fun _ _ => ?_ | refine ixI_new (by omega) (by omega) fun _ _ => ?_ | refine ⟨_, by assumption, ?_⟩); conv => whnf) | (refine Or.inr (Or.inr (Or.inr (Or.inr ?_))); (conv => whnf); refine effW.of (effK.peek (by rfl) (pk2 (.bp _ _ ( crow c) rfl (fun d hd => ints_crow _ d (List.mem_of_mem_drop hd))) (.i _ _)) (s1 ) ?_); rintro _ _ ⟨rfl, rfl⟩; (refine And.intro (by simp [gRowsP, grounds, D.ground]) ?_; conv => whnf)) | (refine Or.inr (Or.inr (Or.inr ?_)); (conv => whnf); refine effK.peek (by rfl) (pk2 (.bp _ _ ( crow c) rfl (fun d hd => ints_crow _ d (List.mem_of_mem_drop hd))) (.i _ _)) (s1 ) ?_; rintro _ _ ⟨rfl, rfl⟩; (refine And.intro (by simp [gRowsP, grounds, D.ground]) ?_; conv => whnf)) | (refine Or.inr (Or.inr (Or.inr (Or.inr ?_))); (conv => whnf); refine effW.of (effK.peek (by rfl) (pk2 (.bp _ _ ( crow c) rfl (fun d hd => ints_crow _ d (List.mem_of_mem_drop hd))) (.i _ _)) (s2 ) ?_); rintro _ _ ⟨rfl, rfl⟩; (refine And.intro (by simp [gRowsP, grounds, D.ground]) ?_; conv => whnf)) | (refine Or.inr (Or.inr (Or.inr ?_)); (conv => whnf); refine effK.peek (by rfl) (pk2 (.bp _ _ ( crow c) rfl (fun d hd => ints_crow _ d (List.mem_of_mem_drop hd))) (.i _ _)) (s2 ) ?_; rintro _ _ ⟨rfl, rfl⟩; (refine And.intro (by simp [gRowsP, grounds, D.ground]) ?_; conv => whnf)) | ((first | refine Alt2.l (aI ?_) | refine Alt2.r (aI ?_)); conv => whnf) | (refine Ok.scope ?_) | ((first | refine Ok.label ?_ | refine rd rfl (by assumption) ?_ | refine ⟨_, .inl ⟨rfl, rfl⟩, ?_⟩ | refine ⟨_, _, rfl, rfl, ?_⟩); conv => whnf) | (refine ⟨fun _ => ?_, fun _ => ?_⟩ <;> (conv => whnf) <;> (try (exfalso; omega))) | ((first | refine aJ ?_ | refine num_any ?_ | refine ⟨_, rfl, ?_⟩); conv => whnf) | fail)
      all_goals first
        | contradiction
        | (refine Or.inl ?_; (conv => whnf)
           show D.b False = _
           exact congrArg D.b (propext ⟨fun q => q.elim, fun q => miss (fun m => hd m.1) q⟩))
  · have hie : i = c.length := by omega
    subst hie
    (try (conv => whnf)); repeat' (first | ((with_reducible_and_instances (first | refine nShr (by assumption) ?_ | refine nShl1' rfl (by assumption) ?_ | refine nAnd ?_ | refine nOr ?_ | refine nXor ?_ | refine nAndNot ?_ | refine nAnd1' rfl ?_)); conv => whnf) | refine Ok.seq ?_ | refine OkL.cons ?_ | ((first | refine Ok.region tok ?_ | refine Ok.region_plan (id := 8) tok follows [(2, 6, [3])] [.q 0, .q 1, .l 2, .q 3, .q 4, .q 5, .q 7, .q 8, .q 9, .q 10, .l 6, .q 11, .q 12] (by kernel_rfl) ?_ | refine Ok.region_draw tok follows (by kernel_rfl) ?_ | refine Ok.cond ?_); conv => whnf) | refine Ok.block ?_ | ((first | refine Ok.skip ?_ | refine Ok.exit ?_ | refine Ok.ret ?_ | refine nI ?_ | refine ix _ (by assumption) ?_ | refine ixI (by omega) (by assumption) ?_ | refine ix_new _ (by omega) fun _ _ => ?_ | refine ixI_new (by omega) (by omega) fun _ _ => ?_ | refine ⟨_, by assumption, ?_⟩ | refine Alt2.l (aI ?_) | refine Alt2.r (aI ?_)); conv => whnf) | (refine Ok.scope ?_) | ((first | refine Ok.label ?_ | refine rd rfl (by assumption) ?_ | refine ⟨_, .inl ⟨rfl, rfl⟩, ?_⟩ | refine ⟨_, _, rfl, rfl, ?_⟩); conv => whnf) | (refine ⟨fun _ => ?_, fun _ => ?_⟩ <;> (conv => whnf) <;> (try (exfalso; omega))) | ((first | refine aJ ?_ | refine num_any ?_ | refine ⟨_, rfl, ?_⟩); conv => whnf) | fail)
    refine Or.inl ?_; (conv => whnf)
    show D.b True = _
    refine congrArg D.b (propext ⟨fun _ => ⟨hne, hl, fun b hb => ?_, inL_iff.2 ⟨hl, fun k x y hx hy => (hall k x y (by have := (List.getElem?_eq_some_iff.1 hy).1; omega) hx hy).2⟩⟩, fun _ => trivial⟩)
    obtain ⟨k, hk⟩ := List.getElem?_of_mem hb
    have hkl := (List.getElem?_eq_some_iff.1 hk).1
    exact (hall k b _ (by omega) hk (List.getElem?_eq_getElem (by omega))).1
end Go.Proofs.YtaiondckookpiaaDoor
namespace Go.Proofs.YtaiondckookpiaaDoor
open Go Go.Vx
def termHas (t : Term) (h : Str) : Prop := hasC t.p h ∧ ∀ m ∈ t.less, ¬ hasC m h
def hasS (ts : List Term) (h : Str) : Prop := ∃ t ∈ ts, termHas t h
set_option maxHeartbeats 4000000 in
theorem termHas_at (x : TR) (hx : TN x) (h : Str) : FSpec Tryd.prog T 50 [.agg (trow x), .s h] (fun r _ => r = .b (termHas x.t h)) := by
  have hn := hx.n
  have hll : (x.t.less.map crow).length = x.t.less.length := by simp
  refine FSpec.of_ok tok Tryd.func50 rfl Tryd.call50 (by simp) ?_
  (try (conv => whnf)); repeat' (first | refine Ok.seq ?_ | refine OkL.cons ?_ | ((first | refine Ok.region tok ?_ | refine Ok.region_draw tok follows (by kernel_rfl) ?_ | refine Ok.cond ?_); conv => whnf) | refine Ok.block ?_ | ((first | refine Ok.skip ?_ | refine Ok.exit ?_ | refine Ok.ret ?_ | refine nI ?_ | refine ix _ (by assumption) ?_ | refine ixI (by omega) (by assumption) ?_ | refine ix_new _ (by omega) fun _ _ => ?_ | refine ixI_new (by omega) (by omega) fun _ _ => ?_ | refine ⟨_, by assumption, ?_⟩); conv => whnf) | (refine Or.inl ?_; (conv => whnf); (repeat (refine aI ?_; conv => whnf)); refine ⟨_, has_at x.t.p h hx.p.1, rfl, ?_⟩; conv => whnf) | (refine ⟨_, has_at x.t.p h hx.p.1, rfl, ?_⟩; conv => whnf) | (refine Or.inr (Or.inl ?_); (conv => whnf); (repeat (refine aI ?_; conv => whnf)); refine ⟨_, has_at x.t.p h hx.p.1, ?_⟩; rintro _ _ ⟨rfl, rfl⟩; conv => whnf) | ((first | refine Alt2.l (aI ?_) | refine Alt2.r (aI ?_)); conv => whnf) | (refine Ok.scope ?_) | ((first | refine Ok.label ?_ | refine rd rfl (by assumption) ?_ | refine ⟨_, .inl ⟨rfl, rfl⟩, ?_⟩ | refine ⟨_, _, rfl, rfl, ?_⟩); conv => whnf) | (refine ⟨fun _ => ?_, fun _ => ?_⟩ <;> (conv => whnf) <;> (try (exfalso; omega))) | ((first | refine aJ ?_ | refine num_any ?_ | refine ⟨_, rfl, ?_⟩); conv => whnf) | fail)
  · rename_i h0
    refine Or.inl ?_; (conv => whnf)
    show D.b False = _
    exact congrArg D.b (propext ⟨fun q => q.elim, fun q => h0 q.1⟩)
  rename_i h0
  have hp := Classical.not_not.1 h0
  refine Ok.loopU [1, 13, 14] [15] 0 1 (fun (i : Nat) => [.i .i64 (i : Nat)]) (fun _ b => b) (fun _ r => r) (fun (i : Nat) => i ≤ x.t.less.length ∧ ∀ m ∈ x.t.less.take i, ¬ hasC m h) (fun (i : Nat) => x.t.less.length - i) (0) (⟨Nat.zero_le _, by simp⟩) ?_; (conv => whnf); refine ⟨by ((conv => whnf); first | rfl | (simp [envCat, List.take_of_length_le, crow, trow, srow, drow]; done) | (simp [envCat, List.take_of_length_le, crow, trow, srow, drow]; rw [IntKind.wrap_i64]; omega)), ?_⟩
  rintro i ⟨hi, hno⟩
  (conv => whnf)
  by_cases hil : i < x.t.less.length
  · obtain ⟨m, hm⟩ : ∃ m, x.t.less[i]? = some m := ⟨_, List.getElem?_eq_getElem hil⟩
    have hmc := hx.less m (List.mem_of_getElem? hm)
    (try (conv => whnf)); repeat' (first | refine Ok.seq ?_ | refine OkL.cons ?_ | ((first | refine Ok.region tok ?_ | refine Ok.region_draw tok follows (by kernel_rfl) ?_ | refine Ok.cond ?_); conv => whnf) | refine Ok.block ?_ | ((first | refine Ok.skip ?_ | refine Ok.exit ?_ | refine Ok.ret ?_ | refine nI ?_ | refine ix _ (by assumption) ?_ | refine ixI (by omega) (by assumption) ?_ | refine ix_new _ (by omega) fun _ _ => ?_ | refine ixI_new (by omega) (by omega) fun _ _ => ?_ | refine ⟨_, by assumption, ?_⟩); conv => whnf) | (refine Or.inl ?_; (conv => whnf); (repeat (refine aI ?_; conv => whnf)); refine ⟨_, has_at m h hmc.1, rfl, ?_⟩; conv => whnf) | (refine ⟨_, has_at m h hmc.1, rfl, ?_⟩; conv => whnf) | (refine Or.inr (Or.inl ?_); (conv => whnf); (repeat (refine aI ?_; conv => whnf)); refine ⟨_, has_at m h hmc.1, ?_⟩; rintro _ _ ⟨rfl, rfl⟩; conv => whnf) | ((first | refine Alt2.l (aI ?_) | refine Alt2.r (aI ?_)); conv => whnf) | (refine Ok.scope ?_) | ((first | refine Ok.label ?_ | refine rd rfl (by assumption) ?_ | refine ⟨_, .inl ⟨rfl, rfl⟩, ?_⟩ | refine ⟨_, _, rfl, rfl, ?_⟩); conv => whnf) | (refine ⟨fun _ => ?_, fun _ => ?_⟩ <;> (conv => whnf) <;> (try (exfalso; omega))) | ((first | refine aJ ?_ | refine num_any ?_ | refine ⟨_, rfl, ?_⟩); conv => whnf) | fail)
    · rename_i h1
      refine Or.inl ?_; (conv => whnf)
      show D.b False = _
      exact congrArg D.b (propext ⟨fun q => q.elim, fun q => q.2 m (List.mem_of_getElem? hm) h1⟩)
    · rename_i h1
      refine ⟨i + 1, by omega, ⟨by omega, fun z hz => ?_⟩, ?_⟩
      · rw [take_snoc hm] at hz
        rcases List.mem_append.1 hz with hz | hz
        · exact hno z hz
        · simp at hz; rw [hz]; exact h1
      · (conv => whnf)
        rfl
  · have hie : i = x.t.less.length := by omega
    subst hie
    rw [List.take_length] at hno
    (try (conv => whnf)); repeat' (first | refine Ok.seq ?_ | refine OkL.cons ?_ | ((first | refine Ok.region tok ?_ | refine Ok.region_draw tok follows (by kernel_rfl) ?_ | refine Ok.cond ?_); conv => whnf) | refine Ok.block ?_ | ((first | refine Ok.skip ?_ | refine Ok.exit ?_ | refine Ok.ret ?_ | refine nI ?_ | refine ix _ (by assumption) ?_ | refine ixI (by omega) (by assumption) ?_ | refine ix_new _ (by omega) fun _ _ => ?_ | refine ixI_new (by omega) (by omega) fun _ _ => ?_ | refine ⟨_, by assumption, ?_⟩ | refine Alt2.l (aI ?_) | refine Alt2.r (aI ?_)); conv => whnf) | (refine Ok.scope ?_) | ((first | refine Ok.label ?_ | refine rd rfl (by assumption) ?_ | refine ⟨_, .inl ⟨rfl, rfl⟩, ?_⟩ | refine ⟨_, _, rfl, rfl, ?_⟩); conv => whnf) | (refine ⟨fun _ => ?_, fun _ => ?_⟩ <;> (conv => whnf) <;> (try (exfalso; omega))) | ((first | refine aJ ?_ | refine num_any ?_ | refine ⟨_, rfl, ?_⟩); conv => whnf) | fail)
    refine Or.inl ?_; (conv => whnf)
    show D.b True = _
    exact congrArg D.b (propext ⟨fun _ => ⟨hp, hno⟩, fun _ => trivial⟩)
set_option maxHeartbeats 4000000 in
theorem hasS_at {n : Int} {ts : List Term} (hf : Fine n ts) (ks : List TR) (rm : List (List D)) (h1 : ks.map TR.t = ts) (h : Str) : FSpec Tryd.prog T 20 [.agg [.i .i64 n, .lst 81 (ks.map trow) rm], .s h] (fun r _ => r = .b (hasS ts h)) := by
  have hll : (ks.map trow).length = ks.length := by simp
  have hkl := hf.mlen h1
  refine FSpec.of_ok tok Tryd.func20 rfl Tryd.call20 (by simp) ?_
  (try (conv => whnf)); repeat' (first | refine Ok.seq ?_ | refine OkL.cons ?_ | ((first | refine Ok.region tok ?_ | refine Ok.region_draw tok follows (by kernel_rfl) ?_ | refine Ok.cond ?_); conv => whnf) | refine Ok.block ?_ | ((first | refine Ok.skip ?_ | refine Ok.exit ?_ | refine Ok.ret ?_ | refine nI ?_ | refine ix _ (by assumption) ?_ | refine ixI (by omega) (by assumption) ?_ | refine ix_new _ (by omega) fun _ _ => ?_ | refine ixI_new (by omega) (by omega) fun _ _ => ?_ | refine ⟨_, by assumption, ?_⟩ | refine Alt2.l (aI ?_) | refine Alt2.r (aI ?_)); conv => whnf) | (refine Ok.scope ?_) | ((first | refine Ok.label ?_ | refine rd rfl (by assumption) ?_ | refine ⟨_, .inl ⟨rfl, rfl⟩, ?_⟩ | refine ⟨_, _, rfl, rfl, ?_⟩); conv => whnf) | (refine ⟨fun _ => ?_, fun _ => ?_⟩ <;> (conv => whnf) <;> (try (exfalso; omega))) | ((first | refine aJ ?_ | refine num_any ?_ | refine ⟨_, rfl, ?_⟩); conv => whnf) | fail)
  refine Ok.loopU [1, 8, 9] [10] 0 1 (fun (i : Nat) => [.i .i64 (i : Nat)]) (fun _ b => b) (fun _ r => r) (fun (i : Nat) => i ≤ ks.length ∧ ∀ x ∈ ks.take i, ¬ termHas x.t h) (fun (i : Nat) => ks.length - i) (0) (⟨Nat.zero_le _, by simp⟩) ?_; (conv => whnf); refine ⟨by ((conv => whnf); first | rfl | (simp [envCat, List.take_of_length_le, crow, trow, srow, drow]; done) | (simp [envCat, List.take_of_length_le, crow, trow, srow, drow]; rw [IntKind.wrap_i64]; omega)), ?_⟩
  rintro i ⟨hi, hno⟩
  (conv => whnf)
  by_cases hil : i < ks.length
  · obtain ⟨x, hx⟩ : ∃ x, ks[i]? = some x := ⟨_, List.getElem?_eq_getElem hil⟩
    have hxm := List.mem_of_getElem? hx
    (try (conv => whnf)); repeat' (first | refine Ok.seq ?_ | refine OkL.cons ?_ | ((first | refine Ok.region tok ?_ | refine Ok.region_draw tok follows (by kernel_rfl) ?_ | refine Ok.cond ?_); conv => whnf) | refine Ok.block ?_ | ((first | refine Ok.skip ?_ | refine Ok.exit ?_ | refine Ok.ret ?_ | refine nI ?_ | refine ix _ (by assumption) ?_ | refine ixI (by omega) (by assumption) ?_ | refine ix_new _ (by omega) fun _ _ => ?_ | refine ixI_new (by omega) (by omega) fun _ _ => ?_ | refine ⟨_, by assumption, ?_⟩); conv => whnf) | (refine Or.inl ?_; (conv => whnf); (repeat (refine aI ?_; conv => whnf)); refine ⟨_, termHas_at x (hf.to h1 x hxm).tn h, rfl, ?_⟩; conv => whnf) | (refine ⟨_, termHas_at x (hf.to h1 x hxm).tn h, rfl, ?_⟩; conv => whnf) | (refine Or.inr (Or.inl ?_); (conv => whnf); (repeat (refine aI ?_; conv => whnf)); refine ⟨_, termHas_at x (hf.to h1 x hxm).tn h, ?_⟩; rintro _ _ ⟨rfl, rfl⟩; conv => whnf) | ((first | refine Alt2.l (aI ?_) | refine Alt2.r (aI ?_)); conv => whnf) | (refine Ok.scope ?_) | ((first | refine Ok.label ?_ | refine rd rfl (by assumption) ?_ | refine ⟨_, .inl ⟨rfl, rfl⟩, ?_⟩ | refine ⟨_, _, rfl, rfl, ?_⟩); conv => whnf) | (refine ⟨fun _ => ?_, fun _ => ?_⟩ <;> (conv => whnf) <;> (try (exfalso; omega))) | ((first | refine aJ ?_ | refine num_any ?_ | refine ⟨_, rfl, ?_⟩); conv => whnf) | fail)
    · rename_i h2
      refine Or.inl ?_; (conv => whnf)
      show D.b True = _
      exact congrArg D.b (propext ⟨fun _ => ⟨x.t, mem_of_map h1 hxm, h2⟩, fun _ => trivial⟩)
    · rename_i h2
      refine ⟨i + 1, by omega, ⟨by omega, fun z hz => ?_⟩, ?_⟩
      · rw [take_snoc hx] at hz
        rcases List.mem_append.1 hz with hz | hz
        · exact hno z hz
        · simp at hz; rw [hz]; exact h2
      · (conv => whnf)
        rfl
  · have hie : i = ks.length := by omega
    subst hie
    rw [List.take_length] at hno
    (try (conv => whnf)); repeat' (first | refine Ok.seq ?_ | refine OkL.cons ?_ | ((first | refine Ok.region tok ?_ | refine Ok.region_draw tok follows (by kernel_rfl) ?_ | refine Ok.cond ?_); conv => whnf) | refine Ok.block ?_ | ((first | refine Ok.skip ?_ | refine Ok.exit ?_ | refine Ok.ret ?_ | refine nI ?_ | refine ix _ (by assumption) ?_ | refine ixI (by omega) (by assumption) ?_ | refine ix_new _ (by omega) fun _ _ => ?_ | refine ixI_new (by omega) (by omega) fun _ _ => ?_ | refine ⟨_, by assumption, ?_⟩ | refine Alt2.l (aI ?_) | refine Alt2.r (aI ?_)); conv => whnf) | (refine Ok.scope ?_) | ((first | refine Ok.label ?_ | refine rd rfl (by assumption) ?_ | refine ⟨_, .inl ⟨rfl, rfl⟩, ?_⟩ | refine ⟨_, _, rfl, rfl, ?_⟩); conv => whnf) | (refine ⟨fun _ => ?_, fun _ => ?_⟩ <;> (conv => whnf) <;> (try (exfalso; omega))) | ((first | refine aJ ?_ | refine num_any ?_ | refine ⟨_, rfl, ?_⟩); conv => whnf) | fail)
    refine Or.inl ?_; (conv => whnf)
    show D.b False = _
    refine congrArg D.b (propext ⟨fun q => q.elim, fun ⟨t, ht, q⟩ => ?_⟩)
    rw [← h1] at ht
    obtain ⟨x, hx, rfl⟩ := List.mem_map.1 ht
    exact hno x hx q
end Go.Proofs.YtaiondckookpiaaDoor
namespace Go.Proofs.YtaiondckookpiaaDoor
open Go Go.Vx
theorem hasC_in {c d h : Str} (hc : hasC c h) (hi : inL c d) : hasC d h := by
  obtain ⟨h1, h2, h3, h4⟩ := hc
  have hl := inL_len hi
  exact ⟨fun e => h1 (List.eq_nil_of_length_eq_zero (by rw [hl, e]; rfl)), by omega, h3, inL_trans h4 hi⟩
theorem hasC_meet {c d m h : Str} (hm : meetT c d = some m) : hasC m h ↔ hasC c h ∧ hasC d h := by
  have hne : c ≠ [] := fun e => by rw [e] at hm; simp [meetT] at hm
  rw [meetT_eq hne] at hm
  have hi := meetL_in hm
  have hl := meetL_len hm
  constructor
  · intro hh
    exact ⟨hasC_in hh hi.1, hasC_in hh hi.2⟩
  · rintro ⟨h1, h2⟩
    obtain ⟨m', hm', hi'⟩ := meetL_glb h1.2.2.2 h2.2.2.2
    rw [hm] at hm'
    cases hm'
    exact ⟨fun e => hne (List.eq_nil_of_length_eq_zero (by rw [hl.1, e]; rfl)), by rw [h1.2.1, hl.1], h1.2.2.1, hi'⟩
theorem hasC_meets {c d h : Str} (h1 : hasC c h) (h2 : hasC d h) : ∃ m, meetT c d = some m ∧ hasC m h := by
  obtain ⟨m, hm, _⟩ := meetL_glb h1.2.2.2 h2.2.2.2
  have := (meetT_eq h1.1).trans hm
  exact ⟨m, this, (hasC_meet this).2 ⟨h1, h2⟩⟩
theorem termHas_cov {t u : Term} {h : Str} (hc : covT t u) (ht : termHas t h) : termHas u h := by
  refine ⟨hasC_in ht.1 hc.1.2, fun m hm hh => ?_⟩
  obtain ⟨c, hcm, hch⟩ := hasC_meets hh ht.1
  obtain ⟨n, hn, hcn⟩ := hc.2 m hm c hcm
  exact ht.2 n hn (hasC_in hch hcn.2)
theorem hasS_form {n : Nat} {l : List Term} (hl : ∀ t ∈ l, t.Ok n) (h : Str) : hasS (formT l) h ↔ hasS l h := by
  have ha := grG_anti covT_trans l fun t ht => covT_refl (hl t ht)
  constructor
  · rintro ⟨t, ht, hh⟩
    exact ⟨t, formT_mem ht, hh⟩
  · rintro ⟨t, ht, hh⟩
    obtain ⟨u, hu, hc⟩ := ha.cov t ht
    exact ⟨u, (srt_perm aheadT _).mem_iff.2 hu, termHas_cov hc hh⟩
def rawHas (p : Str) (less : List Str) (h : Str) : Prop := hasC p h ∧ ∀ m ∈ less, ¬ hasC m h
theorem PK_has {p : Str} {less : List Str} {h : Str} (hp : hasC p h) : (∃ m ∈ PK p less, hasC m h) ↔ ∃ m ∈ less, hasC m h := by
  have hb := (putG_fold (R := inL) (L := blt) inL_refl (fun _ _ _ => inL_trans) blt_trans blt_total (metL p less)).1
  constructor
  · rintro ⟨m, hm, hh⟩
    obtain ⟨x, hx, hxm⟩ := metL_mem (hb.sub m hm)
    exact ⟨x, hx, ((hasC_meet hxm).1 hh).1⟩
  · rintro ⟨m, hm, hh⟩
    obtain ⟨c, hc, hch⟩ := hasC_meets hh hp
    obtain ⟨y, hy, hcy⟩ := hb.cov c (List.mem_filterMap.2 ⟨m, hm, hc⟩)
    exact ⟨y, hy, hasC_in hch hcy⟩
theorem termT_has {p : Str} {less : List Str} (h : Str) : (∃ t, termT p less = some t ∧ termHas t h) ↔ rawHas p less h := by
  by_cases hk : PK p less = [p]
  · rw [termT_pk0 hk]
    constructor
    · rintro ⟨t, ht, _⟩; cases ht
    · rintro ⟨h1, h2⟩
      obtain ⟨m, hm, hh⟩ := (PK_has (less := less) h1).1 ⟨p, by rw [hk]; simp, h1⟩
      exact absurd hh (h2 m hm)
  · rw [termT_pk1 hk]
    constructor
    · rintro ⟨t, ht, h1, h2⟩
      cases ht
      exact ⟨h1, fun m hm hh => by
        obtain ⟨y, hy, hyh⟩ := (PK_has (less := less) h1).2 ⟨m, hm, hh⟩
        exact h2 y hy hyh⟩
    · rintro ⟨h1, h2⟩
      exact ⟨_, rfl, h1, fun m hm hh => by
        obtain ⟨y, hy, hyh⟩ := (PK_has (less := less) h1).1 ⟨m, hm, hh⟩
        exact h2 y hy hyh⟩
theorem hasS_append {a b : List Term} {h : Str} : hasS (a ++ b) h ↔ hasS a h ∨ hasS b h := by
  unfold hasS
  constructor
  · rintro ⟨t, ht, hh⟩
    rcases List.mem_append.1 ht with ht | ht
    · exact .inl ⟨t, ht, hh⟩
    · exact .inr ⟨t, ht, hh⟩
  · rintro (⟨t, ht, hh⟩ | ⟨t, ht, hh⟩)
    · exact ⟨t, List.mem_append_left _ ht, hh⟩
    · exact ⟨t, List.mem_append_right _ ht, hh⟩
theorem meet2_has {a b : Term} (h : Str) : (∃ t, meet2 a b = some t ∧ termHas t h) ↔ termHas a h ∧ termHas b h := by
  unfold meet2
  cases hm : meetT a.p b.p with
  | none =>
    constructor
    · rintro ⟨t, ht, _⟩; cases ht
    · rintro ⟨h1, h2⟩
      obtain ⟨m, hm2, _⟩ := hasC_meets h1.1 h2.1
      rw [hm] at hm2; cases hm2
  | some p =>
    rw [Option.bind_some, termT_has]
    unfold rawHas termHas
    rw [hasC_meet hm]
    constructor
    · rintro ⟨⟨h1, h2⟩, h3⟩
      exact ⟨⟨h1, fun m hm => h3 m (List.mem_append_left _ hm)⟩, h2, fun m hm => h3 m (List.mem_append_right _ hm)⟩
    · rintro ⟨⟨h1, h2⟩, h3, h4⟩
      exact ⟨⟨h1, h3⟩, fun m hm => (List.mem_append.1 hm).elim (h2 m) (h4 m)⟩
theorem meets_has {ts us : List Term} (h : Str) : hasS (meets ts us) h ↔ hasS ts h ∧ hasS us h := by
  constructor
  · rintro ⟨t, ht, hh⟩
    obtain ⟨a, ha, ht⟩ := List.mem_flatMap.1 ht
    obtain ⟨b, hb, hab⟩ := List.mem_filterMap.1 ht
    obtain ⟨h1, h2⟩ := (meet2_has h).1 ⟨t, hab, hh⟩
    exact ⟨⟨a, ha, h1⟩, ⟨b, hb, h2⟩⟩
  · rintro ⟨⟨a, ha, h1⟩, ⟨b, hb, h2⟩⟩
    obtain ⟨t, hab, hh⟩ := (meet2_has h).2 ⟨h1, h2⟩
    exact ⟨t, List.mem_flatMap.2 ⟨a, ha, List.mem_filterMap.2 ⟨b, hb, hab⟩⟩, hh⟩
theorem wouts_has {ts : List Term} {u : Term} (h : Str) : hasS (wouts ts u) h ↔ hasS ts h ∧ ¬ termHas u h := by
  constructor
  · rintro ⟨t, ht, hh⟩
    obtain ⟨a, ha, ht⟩ := List.mem_flatMap.1 ht
    rcases List.mem_append.1 ht with ht | ht
    · have h1 := (termT_has (p := a.p) (less := a.less ++ [u.p]) h).1 ⟨t, by simpa [wout1] using ht, hh⟩
      exact ⟨⟨a, ha, h1.1, fun m hm => h1.2 m (List.mem_append_left _ hm)⟩, fun hu => h1.2 u.p (by simp) hu.1⟩
    · obtain ⟨m, hm, hb⟩ := List.mem_filterMap.1 ht
      unfold wout2 at hb
      cases hmt : meetT a.p m with
      | none => rw [hmt] at hb; cases hb
      | some p =>
        rw [hmt, Option.bind_some] at hb
        have h1 := (termT_has (p := p) (less := a.less) h).1 ⟨t, hb, hh⟩
        have h2 := (hasC_meet hmt).1 h1.1
        exact ⟨⟨a, ha, h2.1, h1.2⟩, fun hu => hu.2 m hm h2.2⟩
  · rintro ⟨⟨a, ha, h1, h2⟩, hu⟩
    by_cases hp : hasC u.p h
    · have : ∃ m ∈ u.less, hasC m h := Classical.byContradiction fun hno => hu ⟨hp, fun m hm hh => hno ⟨m, hm, hh⟩⟩
      obtain ⟨m, hm, hh⟩ := this
      obtain ⟨p, hpm, hph⟩ := hasC_meets h1 hh
      obtain ⟨t, ht, hth⟩ := (termT_has (p := p) (less := a.less) h).2 ⟨hph, h2⟩
      refine ⟨t, List.mem_flatMap.2 ⟨a, ha, List.mem_append_right _ (List.mem_filterMap.2 ⟨m, hm, ?_⟩)⟩, hth⟩
      unfold wout2
      rw [hpm]
      exact ht
    · obtain ⟨t, ht, hth⟩ := (termT_has (p := a.p) (less := a.less ++ [u.p]) h).2 ⟨h1, fun m hm => by
        rcases List.mem_append.1 hm with hm | hm
        · exact h2 m hm
        · simp at hm; rw [hm]; exact hp⟩
      exact ⟨t, List.mem_flatMap.2 ⟨a, ha, List.mem_append_left _ (by rw [wout1, ht]; simp)⟩, hth⟩
theorem bndO_zero {n : Int} {l : List Term} (h : (bndO n l).1 = 0) : bndO n l = (0, n, l) := by
  unfold bndO at h ⊢
  split
  · rfl
  · rename_i hh; rw [if_neg hh] at h; cases h
theorem joinO_has {n m : Int} {ts us : List Term} (hf : Fine n ts) (hg : Fine m us) (h0 : (joinO n m ts us).1 = 0) (h : Str) : hasS (joinO n m ts us).2.2 h ↔ hasS ts h ∨ hasS us h := by
  unfold joinO at h0 ⊢
  by_cases hfit : fitP n m
  · rw [if_pos hfit] at h0 ⊢
    rw [bndO_zero h0]
    obtain ⟨rfl, _⟩ := hfit
    show hasS (formT (ts ++ us)) h ↔ _
    rw [hasS_form (n := n.toNat) (fun t ht => by
      rcases List.mem_append.1 ht with ht | ht
      · exact (hf.good t ht).ok
      · exact (hg.good t ht).ok), hasS_append]
  · rw [if_neg hfit] at h0; cases h0
theorem meets_good2 {n : Nat} {ts us : List Term} (hf : ∀ t ∈ ts, GoodT n t) (hg : ∀ t ∈ us, GoodT n t) : ∀ t ∈ meets ts us, GoodT n t := by
  intro t ht
  obtain ⟨a, ha, ht⟩ := List.mem_flatMap.1 ht
  obtain ⟨b, hb, hab⟩ := List.mem_filterMap.1 ht
  unfold meet2 at hab
  cases hm : meetT a.p b.p with
  | none => rw [hm] at hab; cases hab
  | some p =>
    rw [hm, Option.bind_some] at hab
    have hct := meetT_ct hm (hf a ha).p.1 (hg b hb).p.1
    have hpl : p.length = n := by rw [hct.2.1]; exact (hf a ha).ok.p
    refine (termT_good ⟨hct.1, fun e => ?_⟩ hpl (fun m hm => ?_) hab).1
    · have := (hf a ha).ok.pos; rw [e] at hpl; simp at hpl; omega
    · rcases List.mem_append.1 hm with hm | hm
      · exact ((hf a ha).less m hm).1
      · exact ((hg b hb).less m hm).1
theorem meetO_has {n m : Int} {ts us : List Term} (hf : Fine n ts) (hg : Fine m us) (h0 : (meetO n m ts us).1 = 0) (h : Str) : hasS (meetO n m ts us).2.2 h ↔ hasS ts h ∧ hasS us h := by
  unfold meetO at h0 ⊢
  by_cases hfit : fitP n m
  · rw [if_pos hfit] at h0 ⊢
    by_cases hl : ts.length * us.length ≤ 2048
    · rw [if_pos hl] at h0 ⊢
      rw [bndO_zero h0]
      obtain ⟨rfl, _⟩ := hfit
      show hasS (formT (meets ts us)) h ↔ _
      rw [hasS_form (n := n.toNat) (fun t ht => (meets_good2 hf.good hg.good t ht).ok), meets_has]
    · rw [if_neg hl] at h0; cases h0
  · rw [if_neg hfit] at h0; cases h0
theorem minusL_has {n : Int} : ∀ {us ts : List Term}, Fine n ts → (∀ u ∈ us, GoodT n.toNat u) → (minusL n ts us).1 = 0 → ∀ h, hasS (minusL n ts us).2.2 h ↔ hasS ts h ∧ ¬ hasS us h
  | [], ts, _, _, _, h => by
    unfold minusL
    exact ⟨fun q => ⟨q, fun ⟨_, hu, _⟩ => by simp at hu⟩, fun q => q.1⟩
  | u :: us, ts, hf, hg, h0, h => by
    rcases withoutO_cases n ts u with hw | ⟨hw, hs, _⟩
    · rw [minusL_stop hw] at h0; cases h0
    · rw [minusL_go hw] at h0 ⊢
      have hfw := wouts_good hf.good (hg u (by simp))
      have hfo : Fine n (formT (wouts ts u)) := .form hf.n0 hf.n1 hfw hs
      rw [minusL_has hfo (fun x hx => hg x (by simp [hx])) h0 h, hasS_form (fun t ht => (hfw t ht).ok), wouts_has]
      constructor
      · rintro ⟨⟨h1, h2⟩, h3⟩
        exact ⟨h1, fun ⟨t, ht, hh⟩ => by
          rcases List.mem_cons.1 ht with rfl | ht
          · exact h2 hh
          · exact h3 ⟨t, ht, hh⟩⟩
      · rintro ⟨h1, h2⟩
        exact ⟨⟨h1, fun hh => h2 ⟨u, by simp, hh⟩⟩, fun ⟨t, ht, hh⟩ => h2 ⟨t, by simp [ht], hh⟩⟩
theorem minusO_has {n m : Int} {ts us : List Term} (hf : Fine n ts) (hg : Fine m us) (h0 : (minusO n m ts us).1 = 0) (h : Str) : hasS (minusO n m ts us).2.2 h ↔ hasS ts h ∧ ¬ hasS us h := by
  by_cases hfit : fitP n m
  · rw [minusO_fit hfit] at h0 ⊢
    obtain ⟨rfl, _⟩ := hfit
    exact minusL_has hf hg.good h0 h
  · rw [minusO_not hfit] at h0; cases h0
def saidM (m : List Str) (h : Str) : Prop := rawHas (m.headD []) m.tail h
def saidP (ms : List (List Str)) (h : Str) : Prop := ∃ m ∈ ms, saidM m h
theorem trms_has {ms : List (List Str)} (h : Str) : hasS (trms ms) h ↔ saidP ms h := by
  constructor
  · rintro ⟨t, ht, hh⟩
    obtain ⟨m, hm, htm⟩ := List.mem_filterMap.1 ht
    exact ⟨m, hm, (termT_has h).1 ⟨t, htm, hh⟩⟩
  · rintro ⟨m, hm, hh⟩
    obtain ⟨t, ht, hth⟩ := (termT_has h).2 hh
    exact ⟨t, List.mem_filterMap.2 ⟨m, hm, ht⟩, hth⟩
end Go.Proofs.YtaiondckookpiaaDoor
namespace Go.Proofs.YtaiondckookpiaaDoor
open Go Go.Vx
structure TermF (t : Term) : Prop where
  sorted : t.less.Pairwise blt
  anti : t.less.Pairwise fun x y => ¬ inL x y ∧ ¬ inL y x
  proper : t.less ≠ [t.p]
structure InF (ts : List Term) : Prop where
  t : ∀ t ∈ ts, TermF t
  anti : ts.Pairwise fun x y => ¬ covT x y ∧ ¬ covT y x
  sorted : ts.Pairwise aheadT
theorem InF.nil : InF [] := ⟨by simp, by simp, by simp⟩
theorem CN.no {c : Str} (h : CN c) {b : UInt8} (hb : b ≠ 48 ∧ b ≠ 49 ∧ b ≠ 120) : b ∉ c := fun hm => by
  rcases h.1.cub b hm with e | e | e
  · exact hb.1 e
  · exact hb.2.1 e
  · exact hb.2.2 e
end Go.Proofs.YtaiondckookpiaaDoor
namespace Go.Proofs.YtaiondckookpiaaDoor
open Go Go.Vx
section
variable {α : Type} {R L : α → α → Prop} {r b : α → α → Bool}
def addB (r : α → α → Bool) (k : List α) (x : α) : List α := if k.any (r x) = true then k else k.filter (fun y => !r y x) ++ [x]
def grB (r : α → α → Bool) (l : List α) : List α := l.foldl (addB r) []
def insB (b : α → α → Bool) (c : α) : List α → List α
  | [] => [c]
  | x :: q => if b c x = true then c :: x :: q else x :: insB b c q
def putB (r b : α → α → Bool) (k : List α) (c : α) : List α := if k.any (r c) = true then k else insB b c (k.filter fun x => !r x c)
def srtB (b : α → α → Bool) (l : List α) : List α := l.foldl (fun acc x => insB b x acc) []
theorem filt_eq (h : ∀ x y, R x y ↔ r x y = true) (k : List α) (x : α) [∀ y, Decidable (¬ R y x)] : k.filter (fun y => decide (¬ R y x)) = k.filter (fun y => !r y x) := by
  refine List.filter_congr fun y _ => ?_
  cases hr : r y x with
  | true => simp [(h y x).2 hr]
  | false =>
    have hn : ¬ R y x := fun e => by rw [(h y x).1 e] at hr; cases hr
    simp [hn]
theorem any_eq (h : ∀ x y, R x y ↔ r x y = true) (k : List α) (x : α) : (∃ y ∈ k, R x y) ↔ k.any (r x) = true := by simp [h]
theorem addG_eq (h : ∀ x y, R x y ↔ r x y = true) (k : List α) (x : α) : addG R k x = addB r k x := by
  unfold addG addB
  by_cases hk : k.any (r x) = true
  · rw [if_pos ((any_eq h k x).2 hk), if_pos hk]
  · rw [if_neg (fun e => hk ((any_eq h k x).1 e)), if_neg hk, filt_eq h]
theorem grG_eq (h : ∀ x y, R x y ↔ r x y = true) (l : List α) : grG R l = grB r l := by
  have e : addG R = addB r := by funext k x; exact addG_eq h k x
  unfold grG grB
  rw [e]
theorem insG_eq (h : ∀ x y, L x y ↔ b x y = true) (c : α) : ∀ l : List α, insG L c l = insB b c l
  | [] => rfl
  | x :: q => by
    unfold insG insB
    by_cases hk : b c x = true
    · rw [if_pos ((h c x).2 hk), if_pos hk]
    · rw [if_neg (fun e => hk ((h c x).1 e)), if_neg hk, insG_eq h c q]
theorem putG_eq (h : ∀ x y, R x y ↔ r x y = true) (h2 : ∀ x y, L x y ↔ b x y = true) (k : List α) (c : α) : putG R L k c = putB r b k c := by
  unfold putG putB
  by_cases hk : k.any (r c) = true
  · rw [if_pos ((any_eq h k c).2 hk), if_pos hk]
  · rw [if_neg (fun e => hk ((any_eq h k c).1 e)), if_neg hk, filt_eq h, insG_eq h2]
theorem srt_eq (h : ∀ x y, L x y ↔ b x y = true) (l : List α) : srt L l = srtB b l := by
  unfold srt srtB
  congr 1
  funext acc x
  exact insG_eq h x acc
end
def inB : Str → Str → Bool
  | [], [] => true
  | a :: c, b :: d => (b == 120 || b == a) && inB c d
  | _, _ => false
theorem inL_b : ∀ c d : Str, inL c d ↔ inB c d = true
  | [], [] => by simp [inL, inB]
  | [], _ :: _ => by simp [inL, inB]
  | _ :: _, [] => by simp [inL, inB]
  | a :: c, b :: d => by simp [inL, inB, inL_b c d]
def inTB (c d : Str) : Bool := !c.isEmpty && inB c d
theorem inT_b (c d : Str) : inT c d ↔ inTB c d = true := by
  unfold inT inTB
  rw [inL_b]
  cases c <;> simp
theorem blt_b (c d : Str) : blt c d ↔ Op.bytesLess c d = true := .rfl
def termB (p : Str) (less : List Str) : Option Term := if (metL p less).foldl (putB inB Op.bytesLess) [] = [p] then none else some ⟨p, (metL p less).foldl (putB inB Op.bytesLess) []⟩
theorem termT_b (p : Str) (less : List Str) : termT p less = termB p less := by
  have e : putG inL blt = putB inB Op.bytesLess := by funext k c; exact putG_eq inL_b blt_b k c
  unfold termT termB
  rw [e]
def covB (t u : Term) : Bool := inTB t.p u.p && u.less.all fun m => match meetT m t.p with | none => true | some c => t.less.any fun n => inTB c n
theorem covT_b (t u : Term) : covT t u ↔ covB t u = true := by
  unfold covT covB
  rw [inT_b, Bool.and_eq_true, List.all_eq_true]
  refine and_congr_right fun _ => forall_congr' fun m => forall_congr' fun _ => ?_
  cases meetT m t.p with
  | none => simp
  | some c => simp [inT_b]
def lexB : List Str → List Str → Bool
  | _, [] => false
  | [], _ :: _ => true
  | x :: a, y :: b => Op.bytesLess x y || (x == y && lexB a b)
theorem lexL_b : ∀ a b : List Str, lexL a b ↔ lexB a b = true
  | a, [] => by cases a <;> simp [lexL, lexB]
  | [], _ :: _ => by simp [lexL, lexB]
  | x :: a, y :: b => by simp [lexL, lexB, lexL_b a b]
def formB (l : List Term) : List Term := srtB (fun t u => lexB (t.p :: t.less) (u.p :: u.less)) (grB covB l)
theorem formT_b (l : List Term) : formT l = formB l := by
  unfold formT formB
  rw [grG_eq covT_b]
  exact srt_eq (L := aheadT) (b := fun t u => lexB (t.p :: t.less) (u.p :: u.less)) (fun t u => lexL_b _ _) _
theorem trms_b (ms : List (List Str)) : trms ms = ms.filterMap fun m => termB (m.headD []) m.tail := by
  unfold trms
  congr 1
  funext m
  exact termT_b _ _
instance (n : Int) (w : Str) : Decidable (OkW n w) := decidable_of_iff ((w.length : Int) = n ∧ (w.length ≤ 256 ∧ ∀ b ∈ w, b = 48 ∨ b = 49 ∨ b = 120) ∧ w ≠ []) ⟨fun h => ⟨h.1, ⟨h.2.1.1, h.2.1.2⟩, h.2.2⟩, fun h => ⟨h.1, ⟨h.2.1.1, h.2.1.2⟩, h.2.2⟩⟩
instance (n : Int) (ms : List (List Str)) : Decidable (OkP n ms) := inferInstanceAs (Decidable (∀ m ∈ ms, ∀ w ∈ m, OkW n w))
def exS : Str := [49, 48, 120, 120, 45, 49, 49, 49, 49, 45, 49, 48, 49, 120, 45, 49, 48, 49, 48, 43, 48, 120, 120, 120, 45, 49, 120, 120, 120]
def exT : List Term := [⟨[48, 120, 120, 120], []⟩, ⟨[49, 48, 120, 120], [[49, 48, 49, 120]]⟩]
theorem ex_form : formB ((pieces exS).filterMap fun m => termB (m.headD []) m.tail) = exT := by
  kernel_rfl
theorem parO_ex : parO 4 exS = (0, 4, exT) := by
  unfold parO
  rw [if_neg (by decide), if_neg (by decide), if_neg (by decide), if_neg (fun h => h (by decide)), if_neg (by decide), formT_b, trms_b, ex_form]
theorem text_ex : textS exT = [48, 120, 120, 120, 43, 49, 48, 120, 120, 45, 49, 48, 49, 120] := by
  unfold textS
  rw [if_neg (by simp [exT])]
  decide
theorem sptext_at {n : Int} {ts : List Term} (hf : Fine n ts) (ks : List TR) (rm : List (List D)) (h1 : ks.map TR.t = ts) : FSpec Tryd.prog T 15 [.agg [.i .i64 n, .lst 81 (ks.map trow) rm]] (fun d _ => d = .s (textS ts)) := by
  have h := text2_at n.toNat ks (room := rm) (hf.sp h1) rfl
  rw [hf.cast, h1] at h
  exact h
theorem spsize_at {n : Int} {ts : List Term} (hf : Fine n ts) (ks : List TR) (rm : List (List D)) (h1 : ks.map TR.t = ts) : FSpec Tryd.prog T 32 [.agg [.i .i64 n, .lst 81 (ks.map trow) rm]] (fun d _ => d = .i .i64 (szT ts : Nat)) := by
  have h := size_at n ks (room := rm) (hf.mlen h1) (hf.mless h1) rfl
  rw [h1] at h
  exact h
set_option maxHeartbeats 4000000 in
theorem awake_at : FSpec Tryd.prog T 17 [] (fun r _ => r = .b True) := by
  have hp := parse2_at 4 exS
  have hf := parO_fine 4 exS
  unfold POut at hp
  rw [parO_ex] at hp hf
  have htx := fun ks rm h1 => sptext_at hf ks rm h1
  have hsz := fun ks rm h1 => spsize_at hf ks rm h1
  dsimp only at hp htx hsz
  rw [text_ex] at htx
  rw [show szT exT = 3 from rfl] at hsz
  refine FSpec.of_ok tok Tryd.func17 rfl Tryd.call17 (by simp) ?_
  (try (conv => whnf)); repeat' (first | refine Ok.seq ?_ | refine OkL.cons ?_ | ((first | refine Ok.region tok ?_ | refine Ok.region_draw tok follows (by kernel_rfl) ?_ | refine Ok.cond ?_); conv => whnf) | refine Ok.block ?_ | ((first | refine Ok.skip ?_ | refine Ok.exit ?_ | refine Ok.ret ?_ | refine nI ?_ | refine ix _ (by assumption) ?_ | refine ixI (by omega) (by assumption) ?_ | refine ix_new _ (by omega) fun _ _ => ?_ | refine ixI_new (by omega) (by omega) fun _ _ => ?_ | refine ⟨_, by assumption, ?_⟩); conv => whnf) | (refine Or.inl ?_; (conv => whnf); (repeat (refine aI ?_; conv => whnf)); refine ⟨_, htx ks rm hk, rfl, ?_⟩; conv => whnf) | (refine Or.inl ?_; (conv => whnf); (repeat (refine aI ?_; conv => whnf)); refine ⟨_, hsz ks rm hk, rfl, ?_⟩; conv => whnf) | (refine Or.inl ?_; (conv => whnf); (repeat (refine aI ?_; conv => whnf)); refine ⟨_, bits_at 4 (.lst 81 (ks.map trow) rm) ⟨_, _, _, rfl⟩, rfl, ?_⟩; conv => whnf) | ((first | refine ⟨_, htx ks rm hk, rfl, ?_⟩ | refine ⟨_, hsz ks rm hk, rfl, ?_⟩ | refine ⟨_, bits_at 4 (.lst 81 (ks.map trow) rm) ⟨_, _, _, rfl⟩, rfl, ?_⟩); conv => whnf) | (refine Or.inr (Or.inl ?_); (conv => whnf); (repeat (refine aI ?_; conv => whnf)); refine ⟨_, htx ks rm hk, ?_⟩; rintro _ _ ⟨rfl, rfl⟩; conv => whnf) | (refine Or.inr (Or.inl ?_); (conv => whnf); (repeat (refine aI ?_; conv => whnf)); refine ⟨_, hsz ks rm hk, ?_⟩; rintro _ _ ⟨rfl, rfl⟩; conv => whnf) | (refine Or.inr (Or.inl ?_); (conv => whnf); (repeat (refine aI ?_; conv => whnf)); refine ⟨_, bits_at 4 (.lst 81 (ks.map trow) rm) ⟨_, _, _, rfl⟩, ?_⟩; rintro _ _ ⟨rfl, rfl⟩; conv => whnf) | (refine Or.inr (Or.inl ?_); (conv => whnf); (repeat (refine aI ?_; conv => whnf)); refine ⟨_, hp , ?_⟩; rintro _ _ ⟨rfl, _, rfl, ks, rm, rfl, hk⟩ <;> (conv => whnf)) | ((first | refine Alt2.l (aI ?_) | refine Alt2.r (aI ?_)); conv => whnf) | (refine Ok.scope ?_) | ((first | refine Ok.label ?_ | refine rd rfl (by assumption) ?_ | refine ⟨_, .inl ⟨rfl, rfl⟩, ?_⟩ | refine ⟨_, _, rfl, rfl, ?_⟩); conv => whnf) | (refine ⟨fun _ => ?_, fun _ => ?_⟩ <;> (conv => whnf) <;> (try (exfalso; omega))) | ((first | refine aJ ?_ | refine num_any ?_ | refine ⟨_, rfl, ?_⟩); conv => whnf) | fail)
  all_goals first
    | (rename_i h; exact absurd rfl h)
    | (refine Or.inl ?_; (conv => whnf)
       exact congrArg D.b (propext ⟨fun _ => trivial, fun _ => rfl⟩))
end Go.Proofs.YtaiondckookpiaaDoor
namespace Go.Proofs.YtaiondckookpiaaDoor
open Go Go.Vx
theorem inL_all : ∀ {c d : Str}, c.length = d.length → (∀ (k : Nat) a b, c[k]? = some a → d[k]? = some b → b = 120 ∨ b = a) → inL c d
  | [], [], _, _ => trivial
  | [], _ :: _, h, _ => by simp at h
  | _ :: _, [], h, _ => by simp at h
  | a :: c, b :: d, h, hh => ⟨hh 0 a b rfl rfl, inL_all (by simpa using h) fun k x y h1 h2 => hh (k + 1) x y (by simpa using h1) (by simpa using h2)⟩
theorem inL_get : ∀ {c d : Str} {k : Nat} {a b : UInt8}, inL c d → c[k]? = some a → d[k]? = some b → b = 120 ∨ b = a
  | [], _, k, a, b, _, h, _ => by simp at h
  | _ :: _, [], k, a, b, _, _, h => by simp at h
  | x :: c, y :: d, 0, a, b, hi, h1, h2 => by simp at h1 h2; subst h1 h2; exact hi.1
  | x :: c, y :: d, k + 1, a, b, hi, h1, h2 => inL_get hi.2 (by simpa using h1) (by simpa using h2)
set_option maxHeartbeats 4000000 in
theorem fits3_at (h c : Str) (hc : c.length ≤ 100000) : FSpec Tryd.prog T 35 [.s h, .s c] (fun r _ => r = .b (inL h c)) := by
  refine FSpec.of_ok tok Tryd.func35 rfl Tryd.call35 (by simp) ?_
  (try (conv => whnf)); repeat' (first | refine Ok.seq ?_ | refine OkL.cons ?_ | ((first | refine Ok.region tok ?_ | refine Ok.region_draw tok follows (by kernel_rfl) ?_ | refine Ok.cond ?_); conv => whnf) | refine Ok.block ?_ | ((first | refine Ok.skip ?_ | refine Ok.exit ?_ | refine Ok.ret ?_ | refine nI ?_ | refine ix _ (by assumption) ?_ | refine ixI (by omega) (by assumption) ?_ | refine ix_new _ (by omega) fun _ _ => ?_ | refine ixI_new (by omega) (by omega) fun _ _ => ?_ | refine ⟨_, by assumption, ?_⟩ | refine Alt2.l (aI ?_) | refine Alt2.r (aI ?_)); conv => whnf) | (refine Ok.scope ?_) | ((first | refine Ok.label ?_ | refine rd rfl (by assumption) ?_ | refine ⟨_, .inl ⟨rfl, rfl⟩, ?_⟩ | refine ⟨_, _, rfl, rfl, ?_⟩); conv => whnf) | (refine ⟨fun _ => ?_, fun _ => ?_⟩ <;> (conv => whnf) <;> (try (exfalso; omega))) | ((first | refine aJ ?_ | refine num_any ?_ | refine ⟨_, rfl, ?_⟩); conv => whnf) | fail)
  · refine Or.inl ?_; (conv => whnf)
    show D.b False = _
    exact congrArg D.b (propext ⟨fun h => h.elim, fun h2 => by have := inL_len h2; omega⟩)
  have hl : h.length = c.length := by omega
  refine Ok.loopU [0, 1] [5] 0 0 (fun (i : Nat) => [.i .i64 (i : Nat)]) (fun _ b => b) (fun _ r => r) (fun (i : Nat) => i ≤ c.length ∧ ∀ (k : Nat) a b, k < i → h[k]? = some a → c[k]? = some b → b = 120 ∨ b = a) (fun (i : Nat) => c.length - i) (0) (⟨Nat.zero_le _, fun k _ _ hk => absurd hk (by omega)⟩) ?_; (conv => whnf); refine ⟨by ((conv => whnf); first | rfl | (simp [envCat, List.take_of_length_le, bcell, srow]; done) | (simp [envCat, List.take_of_length_le, bcell, srow]; rw [IntKind.wrap_i64]; omega)), ?_⟩
  rintro i ⟨hi, hall⟩
  (conv => whnf)
  by_cases hil : i < c.length
  · obtain ⟨a, ha⟩ : ∃ a, h[i]? = some a := ⟨_, List.getElem?_eq_getElem (by omega)⟩
    obtain ⟨b, hb⟩ : ∃ b, c[i]? = some b := ⟨_, List.getElem?_eq_getElem hil⟩
    have haI : h[((i : Nat) : Int).toNat]? = some a := ha
    have hbI : c[((i : Nat) : Int).toNat]? = some b := hb
    have step : (b = 120 ∨ b = a) → ∀ (k : Nat) x y, k < i + 1 → h[k]? = some x → c[k]? = some y → y = 120 ∨ y = x := fun hh k x y hk hx hy => by
      by_cases hki : k = i
      · subst hki
        rw [ha] at hx
        rw [hb] at hy
        cases hx
        cases hy
        exact hh
      · exact hall k x y (by omega) hx hy
    by_cases hb1 : b = 120 ∨ b = a
    · have hb3 : ((b.toNat : Nat) : Int) = 120 ∨ ((b.toNat : Nat) : Int) = ((a.toNat : Nat) : Int) := by
        rcases hb1 with rfl | rfl
        · exact .inl rfl
        · exact .inr rfl
      (try (conv => whnf)); repeat' (first | refine Ok.seq ?_ | refine OkL.cons ?_ | ((first | refine Ok.region tok ?_ | refine Ok.region_draw tok follows (by kernel_rfl) ?_ | refine Ok.cond ?_); conv => whnf) | refine Ok.block ?_ | ((first | refine Ok.skip ?_ | refine Ok.exit ?_ | refine Ok.ret ?_ | refine nI ?_ | refine ix _ (by assumption) ?_ | refine ixI (by omega) (by assumption) ?_ | refine ix_new _ (by omega) fun _ _ => ?_ | refine ixI_new (by omega) (by omega) fun _ _ => ?_ | refine ⟨_, by assumption, ?_⟩ | refine Alt2.l (aI ?_) | refine Alt2.r (aI ?_)); conv => whnf) | (refine Ok.scope ?_) | ((first | refine Ok.label ?_ | refine rd rfl (by assumption) ?_ | refine ⟨_, .inl ⟨rfl, rfl⟩, ?_⟩ | refine ⟨_, _, rfl, rfl, ?_⟩); conv => whnf) | (refine ⟨fun _ => ?_, fun _ => ?_⟩ <;> (conv => whnf) <;> (try (exfalso; omega))) | ((first | refine aJ ?_ | refine num_any ?_ | refine ⟨_, rfl, ?_⟩); conv => whnf) | fail)
      all_goals first
        | (exfalso; omega)
        | (refine ⟨i + 1, by omega, ⟨by omega, step hb1⟩, ?_⟩
           (conv => whnf)
           rfl)
    · have hb3 := u8_ne (fun e => hb1 (.inl e) : b ≠ 120)
      have hb4 := u8_ne (fun e => hb1 (.inr e) : b ≠ a)
      rw [show (((120 : UInt8).toNat : Nat) : Int) = 120 from rfl] at hb3
      (try (conv => whnf)); repeat' (first | refine Ok.seq ?_ | refine OkL.cons ?_ | ((first | refine Ok.region tok ?_ | refine Ok.region_draw tok follows (by kernel_rfl) ?_ | refine Ok.cond ?_); conv => whnf) | refine Ok.block ?_ | ((first | refine Ok.skip ?_ | refine Ok.exit ?_ | refine Ok.ret ?_ | refine nI ?_ | refine ix _ (by assumption) ?_ | refine ixI (by omega) (by assumption) ?_ | refine ix_new _ (by omega) fun _ _ => ?_ | refine ixI_new (by omega) (by omega) fun _ _ => ?_ | refine ⟨_, by assumption, ?_⟩ | refine Alt2.l (aI ?_) | refine Alt2.r (aI ?_)); conv => whnf) | (refine Ok.scope ?_) | ((first | refine Ok.label ?_ | refine rd rfl (by assumption) ?_ | refine ⟨_, .inl ⟨rfl, rfl⟩, ?_⟩ | refine ⟨_, _, rfl, rfl, ?_⟩); conv => whnf) | (refine ⟨fun _ => ?_, fun _ => ?_⟩ <;> (conv => whnf) <;> (try (exfalso; omega))) | ((first | refine aJ ?_ | refine num_any ?_ | refine ⟨_, rfl, ?_⟩); conv => whnf) | fail)
      all_goals first
        | (exfalso; omega)
        | (refine Or.inl ?_; (conv => whnf)
           show D.b False = _
           exact congrArg D.b (propext ⟨fun h => h.elim, fun h2 => hb1 (inL_get h2 ha hb)⟩))
  · have hie : i = c.length := by omega
    subst hie
    (try (conv => whnf)); repeat' (first | refine Ok.seq ?_ | refine OkL.cons ?_ | ((first | refine Ok.region tok ?_ | refine Ok.region_draw tok follows (by kernel_rfl) ?_ | refine Ok.cond ?_); conv => whnf) | refine Ok.block ?_ | ((first | refine Ok.skip ?_ | refine Ok.exit ?_ | refine Ok.ret ?_ | refine nI ?_ | refine ix _ (by assumption) ?_ | refine ixI (by omega) (by assumption) ?_ | refine ix_new _ (by omega) fun _ _ => ?_ | refine ixI_new (by omega) (by omega) fun _ _ => ?_ | refine ⟨_, by assumption, ?_⟩ | refine Alt2.l (aI ?_) | refine Alt2.r (aI ?_)); conv => whnf) | (refine Ok.scope ?_) | ((first | refine Ok.label ?_ | refine rd rfl (by assumption) ?_ | refine ⟨_, .inl ⟨rfl, rfl⟩, ?_⟩ | refine ⟨_, _, rfl, rfl, ?_⟩); conv => whnf) | (refine ⟨fun _ => ?_, fun _ => ?_⟩ <;> (conv => whnf) <;> (try (exfalso; omega))) | ((first | refine aJ ?_ | refine num_any ?_ | refine ⟨_, rfl, ?_⟩); conv => whnf) | fail)
    all_goals first
      | (exfalso; omega)
      | skip
    refine Or.inl ?_; (conv => whnf)
    exact congrArg D.b (propext ⟨fun _ => inL_all hl fun k x y hx hy => hall k x y ((List.getElem?_eq_some_iff.1 hy).1) hx hy, fun _ => trivial⟩)
def hdrX (n : Int) (h : Str) : Prop := (h.length : Int) = n ∧ ∀ b ∈ h, b = 48 ∨ b = 49
set_option maxHeartbeats 4000000 in
theorem isHeader_at (n : Int) (h : Str) (hn : n ≤ 100000) : FSpec Tryd.prog T 19 [.i .i64 n, .s h] (fun r _ => r = .b (hdrX n h)) := by
  refine FSpec.of_ok tok Tryd.func19 rfl Tryd.call19 (by simp) ?_
  (try (conv => whnf)); repeat' (first | refine Ok.seq ?_ | refine OkL.cons ?_ | ((first | refine Ok.region tok ?_ | refine Ok.region_draw tok follows (by kernel_rfl) ?_ | refine Ok.cond ?_); conv => whnf) | refine Ok.block ?_ | ((first | refine Ok.skip ?_ | refine Ok.exit ?_ | refine Ok.ret ?_ | refine nI ?_ | refine ix _ (by assumption) ?_ | refine ixI (by omega) (by assumption) ?_ | refine ix_new _ (by omega) fun _ _ => ?_ | refine ixI_new (by omega) (by omega) fun _ _ => ?_ | refine ⟨_, by assumption, ?_⟩ | refine Alt2.l (aI ?_) | refine Alt2.r (aI ?_)); conv => whnf) | (refine Ok.scope ?_) | ((first | refine Ok.label ?_ | refine rd rfl (by assumption) ?_ | refine ⟨_, .inl ⟨rfl, rfl⟩, ?_⟩ | refine ⟨_, _, rfl, rfl, ?_⟩); conv => whnf) | (refine ⟨fun _ => ?_, fun _ => ?_⟩ <;> (conv => whnf) <;> (try (exfalso; omega))) | ((first | refine aJ ?_ | refine num_any ?_ | refine ⟨_, rfl, ?_⟩); conv => whnf) | fail)
  · rename_i h0
    refine Or.inl ?_; (conv => whnf)
    show D.b False = _
    exact congrArg D.b (propext ⟨fun h => h.elim, fun h2 => h0 h2.1⟩)
  have hl : (h.length : Int) = n := by omega
  refine Ok.loopU [1] [5] 0 0 (fun (i : Nat) => [.i .i64 (i : Nat)]) (fun _ b => b) (fun _ r => r) (fun (i : Nat) => i ≤ h.length ∧ ∀ b ∈ h.take i, b = 48 ∨ b = 49) (fun (i : Nat) => h.length - i) (0) (⟨Nat.zero_le _, by simp⟩) ?_; (conv => whnf); refine ⟨by ((conv => whnf); first | rfl | (simp [envCat, List.take_of_length_le, bcell, srow]; done) | (simp [envCat, List.take_of_length_le, bcell, srow]; rw [IntKind.wrap_i64]; omega)), ?_⟩
  rintro i ⟨hi, hall⟩
  (conv => whnf)
  by_cases hil : i < h.length
  · obtain ⟨a, ha⟩ : ∃ a, h[i]? = some a := ⟨_, List.getElem?_eq_getElem hil⟩
    have haI : h[((i : Nat) : Int).toNat]? = some a := ha
    by_cases hb1 : a = 48 ∨ a = 49
    · have hb3 : ((a.toNat : Nat) : Int) = 48 ∨ ((a.toNat : Nat) : Int) = 49 := by
        rcases hb1 with rfl | rfl
        · exact .inl rfl
        · exact .inr rfl
      (try (conv => whnf)); repeat' (first | refine Ok.seq ?_ | refine OkL.cons ?_ | ((first | refine Ok.region tok ?_ | refine Ok.region_draw tok follows (by kernel_rfl) ?_ | refine Ok.cond ?_); conv => whnf) | refine Ok.block ?_ | ((first | refine Ok.skip ?_ | refine Ok.exit ?_ | refine Ok.ret ?_ | refine nI ?_ | refine ix _ (by assumption) ?_ | refine ixI (by omega) (by assumption) ?_ | refine ix_new _ (by omega) fun _ _ => ?_ | refine ixI_new (by omega) (by omega) fun _ _ => ?_ | refine ⟨_, by assumption, ?_⟩ | refine Alt2.l (aI ?_) | refine Alt2.r (aI ?_)); conv => whnf) | (refine Ok.scope ?_) | ((first | refine Ok.label ?_ | refine rd rfl (by assumption) ?_ | refine ⟨_, .inl ⟨rfl, rfl⟩, ?_⟩ | refine ⟨_, _, rfl, rfl, ?_⟩); conv => whnf) | (refine ⟨fun _ => ?_, fun _ => ?_⟩ <;> (conv => whnf) <;> (try (exfalso; omega))) | ((first | refine aJ ?_ | refine num_any ?_ | refine ⟨_, rfl, ?_⟩); conv => whnf) | fail)
      all_goals first
        | (exfalso; omega)
        | (refine ⟨i + 1, by omega, ⟨by omega, fun b hb => by
            rw [take_snoc ha] at hb
            rcases List.mem_append.1 hb with hb | hb
            · exact hall b hb
            · simp at hb; rw [hb]; exact hb1⟩, ?_⟩
           (conv => whnf)
           rfl)
    · have hb3 := u8_ne (fun e => hb1 (.inl e) : a ≠ 48)
      have hb4 := u8_ne (fun e => hb1 (.inr e) : a ≠ 49)
      rw [show (((48 : UInt8).toNat : Nat) : Int) = 48 from rfl] at hb3
      rw [show (((49 : UInt8).toNat : Nat) : Int) = 49 from rfl] at hb4
      (try (conv => whnf)); repeat' (first | refine Ok.seq ?_ | refine OkL.cons ?_ | ((first | refine Ok.region tok ?_ | refine Ok.region_draw tok follows (by kernel_rfl) ?_ | refine Ok.cond ?_); conv => whnf) | refine Ok.block ?_ | ((first | refine Ok.skip ?_ | refine Ok.exit ?_ | refine Ok.ret ?_ | refine nI ?_ | refine ix _ (by assumption) ?_ | refine ixI (by omega) (by assumption) ?_ | refine ix_new _ (by omega) fun _ _ => ?_ | refine ixI_new (by omega) (by omega) fun _ _ => ?_ | refine ⟨_, by assumption, ?_⟩ | refine Alt2.l (aI ?_) | refine Alt2.r (aI ?_)); conv => whnf) | (refine Ok.scope ?_) | ((first | refine Ok.label ?_ | refine rd rfl (by assumption) ?_ | refine ⟨_, .inl ⟨rfl, rfl⟩, ?_⟩ | refine ⟨_, _, rfl, rfl, ?_⟩); conv => whnf) | (refine ⟨fun _ => ?_, fun _ => ?_⟩ <;> (conv => whnf) <;> (try (exfalso; omega))) | ((first | refine aJ ?_ | refine num_any ?_ | refine ⟨_, rfl, ?_⟩); conv => whnf) | fail)
      all_goals first
        | (exfalso; omega)
        | (refine Or.inl ?_; (conv => whnf)
           show D.b False = _
           exact congrArg D.b (propext ⟨fun h => h.elim, fun h2 => hb1 (h2.2 a (List.mem_of_getElem? ha))⟩))
  · have hie : i = h.length := by omega
    subst hie
    rw [List.take_length] at hall
    (try (conv => whnf)); repeat' (first | refine Ok.seq ?_ | refine OkL.cons ?_ | ((first | refine Ok.region tok ?_ | refine Ok.region_draw tok follows (by kernel_rfl) ?_ | refine Ok.cond ?_); conv => whnf) | refine Ok.block ?_ | ((first | refine Ok.skip ?_ | refine Ok.exit ?_ | refine Ok.ret ?_ | refine nI ?_ | refine ix _ (by assumption) ?_ | refine ixI (by omega) (by assumption) ?_ | refine ix_new _ (by omega) fun _ _ => ?_ | refine ixI_new (by omega) (by omega) fun _ _ => ?_ | refine ⟨_, by assumption, ?_⟩ | refine Alt2.l (aI ?_) | refine Alt2.r (aI ?_)); conv => whnf) | (refine Ok.scope ?_) | ((first | refine Ok.label ?_ | refine rd rfl (by assumption) ?_ | refine ⟨_, .inl ⟨rfl, rfl⟩, ?_⟩ | refine ⟨_, _, rfl, rfl, ?_⟩); conv => whnf) | (refine ⟨fun _ => ?_, fun _ => ?_⟩ <;> (conv => whnf) <;> (try (exfalso; omega))) | ((first | refine aJ ?_ | refine num_any ?_ | refine ⟨_, rfl, ?_⟩); conv => whnf) | fail)
    all_goals first
      | (exfalso; omega)
      | skip
    refine Or.inl ?_; (conv => whnf)
    exact congrArg D.b (propext ⟨fun _ => ⟨hl, hall⟩, fun _ => trivial⟩)
end Go.Proofs.YtaiondckookpiaaDoor
namespace Go.Proofs.YtaiondckookpiaaDoor
open Go Go.Vx
theorem cutL_pre {c : UInt8} : ∀ {q : Str} (r : Str), c ∉ q → cutL c (q ++ r) = (q ++ (cutL c r).headD []) :: (cutL c r).tail
  | [], r, _ => by
    have := cutL_ne c r
    cases hr : cutL c r with
    | nil => exact absurd hr this
    | cons a l => simp [hr]
  | b :: q, r, h => by
    rw [List.mem_cons, not_or] at h
    rw [List.cons_append, cutL, if_neg (Ne.symm h.1), cutL_pre r h.2]
    rfl
theorem pieces_ne (s : Str) : pieces s ≠ [] := by
  unfold pieces
  intro e
  exact cutL_ne 43 s (by simpa using e)
theorem pieces_minus {p r : Str} (h1 : (43 : UInt8) ∉ p) (h2 : (45 : UInt8) ∉ p) : pieces (p ++ 45 :: r) = (p :: (pieces r).headD []) :: (pieces r).tail := by
  unfold pieces
  have e : p ++ 45 :: r = (p ++ [45]) ++ r := by simp
  rw [e, cutL_pre r (by simp [h1])]
  have hne := cutL_ne 43 r
  cases hr : cutL 43 r with
  | nil => exact absurd hr hne
  | cons a l => simp [cutL_at h2]
theorem pieces_plus {p r : Str} (h1 : (43 : UInt8) ∉ p) (h2 : (45 : UInt8) ∉ p) : pieces (p ++ 43 :: r) = [p] :: pieces r := by
  unfold pieces
  rw [cutL_at h1, List.map_cons, cutL_none h2]
theorem pieces_last {p : Str} (h1 : (43 : UInt8) ∉ p) (h2 : (45 : UInt8) ∉ p) : pieces p = [[p]] := by
  unfold pieces
  rw [cutL_none h1, List.map_cons, cutL_none h2]
  rfl
theorem drop_at {s : Str} {i f : Nat} {c : UInt8} (hf : f ≤ i) (hi : s[i]? = some c) : s.drop f = (s.take i).drop f ++ c :: s.drop (i + 1) := by
  obtain ⟨hl, e⟩ := List.getElem?_eq_some_iff.1 hi
  conv => lhs; rw [← List.take_append_drop i s, List.drop_append_of_le_length (by simp; omega), List.drop_eq_getElem_cons hl, e]
def okM (h : Str) (m : List Str) : Prop := inL h (m.headD []) ∧ ∀ x ∈ m.tail, ¬ inL h x
def saidX (s h : Str) : Prop := s ≠ [110, 111, 110, 101] ∧ ∃ m ∈ pieces s, okM h m
def curX (h : Str) (inn fi : Bool) (m : List Str) : Prop := inn = true ∧ ((fi = true → okM h m) ∧ (fi = false → ∀ x ∈ m, ¬ inL h x))
def resX (h : Str) (inn fi sm : Bool) (ms : List (List Str)) : Prop := sm = true ∨ curX h inn fi (ms.headD []) ∨ ∃ m ∈ ms.tail, okM h m
theorem resX_start (h : Str) {ms : List (List Str)} (hm : ms ≠ []) (sm : Bool) : resX h true true sm ms ↔ sm = true ∨ ∃ m ∈ ms, okM h m := by
  cases ms with
  | nil => exact absurd rfl hm
  | cons a l => simp [resX, curX]
def nxt (has : Prop) [Decidable has] (inn fi : Bool) : Bool := inn && (if fi = true then decide has else !decide has)
theorem resX_minus {h p : Str} {inn fi sm : Bool} {ms : List (List Str)} [Decidable (inL h p)] : resX h inn fi sm ((p :: ms.headD []) :: ms.tail) ↔ resX h (nxt (inL h p) inn fi) false sm ms := by
  unfold resX curX nxt okM
  cases inn <;> cases fi <;> simp
theorem resX_plus {h p : Str} {inn fi sm : Bool} {ms : List (List Str)} (hm : ms ≠ []) [Decidable (inL h p)] : resX h inn fi sm ([p] :: ms) ↔ resX h true true (sm || nxt (inL h p) inn fi) ms := by
  rw [resX_start h hm]
  unfold resX curX nxt okM
  cases inn <;> cases fi <;> cases sm <;> simp
theorem resX_last {h p : Str} {inn fi sm : Bool} [Decidable (inL h p)] : resX h inn fi sm [[p]] ↔ (sm || nxt (inL h p) inn fi) = true := by
  unfold resX curX nxt okM
  cases inn <;> cases fi <;> cases sm <;> simp
theorem nxt_yes {has : Prop} [Decidable has] {inn fi : Bool} (h : has) : nxt has inn fi = (inn && fi) := by unfold nxt; cases fi <;> simp [h]
theorem nxt_no {has : Prop} [Decidable has] {inn fi : Bool} (h : ¬ has) : nxt has inn fi = (inn && !fi) := by unfold nxt; cases fi <;> simp [h]
def SInv (s h : Str) (x : Nat × Nat × Bool × Bool × Bool) : Prop :=
  (x.1 ≤ s.length ∧ x.2.1 ≤ x.1 ∧ (43 : UInt8) ∉ (s.take x.1).drop x.2.1 ∧ (45 : UInt8) ∉ (s.take x.1).drop x.2.1 ∧ ((∃ m ∈ pieces s, okM h m) ↔ resX h x.2.2.1 x.2.2.2.1 x.2.2.2.2 (pieces (s.drop x.2.1)))) ∨
    (x.1 = s.length + 1 ∧ ((∃ m ∈ pieces s, okM h m) ↔ x.2.2.2.2 = true))
open Classical in
set_option maxRecDepth 100000 in
set_option maxHeartbeats 8000000 in
theorem said_at (s h : Str) (hs : s.length ≤ 100000) : FSpec Tryd.prog T 21 [.s s, .s h] (fun r _ => r = .b (saidX s h)) := by
  refine FSpec.of_ok tok Tryd.func21 rfl Tryd.call21 (by simp) ?_
  by_cases hnone : s = [110, 111, 110, 101]
  · (try (conv => whnf)); repeat' (first | refine Ok.seq ?_ | refine OkL.cons ?_ | ((first | refine Ok.region tok ?_ | refine Ok.region_draw tok follows (by kernel_rfl) ?_ | refine Ok.cond ?_); conv => whnf) | refine Ok.block ?_ | ((first | refine Ok.skip ?_ | refine Ok.exit ?_ | refine Ok.ret ?_ | refine nI ?_ | refine ix _ (by assumption) ?_ | refine ixI (by omega) (by assumption) ?_ | refine ix_new _ (by omega) fun _ _ => ?_ | refine ixI_new (by omega) (by omega) fun _ _ => ?_ | refine ⟨_, by assumption, ?_⟩ | refine Alt2.l (aI ?_) | refine Alt2.r (aI ?_)); conv => whnf) | (refine Ok.scope ?_) | ((first | refine Ok.label ?_ | refine rd rfl (by assumption) ?_ | refine ⟨_, .inl ⟨rfl, rfl⟩, ?_⟩ | refine ⟨_, _, rfl, rfl, ?_⟩); conv => whnf) | (refine ⟨fun _ => ?_, fun _ => ?_⟩ <;> (conv => whnf) <;> (try (exfalso; omega))) | ((first | refine aJ ?_ | refine num_any ?_ | refine ⟨_, rfl, ?_⟩); conv => whnf) | fail)
    all_goals first
      | (rename_i hh; exact absurd hnone hh)
      | (refine Or.inl ?_; (conv => whnf)
         show D.b False = _
         exact congrArg D.b (propext ⟨fun h => h.elim, fun h2 => h2.1 hnone⟩))
  (try (conv => whnf)); repeat' (first | refine Ok.seq ?_ | refine OkL.cons ?_ | ((first | refine Ok.region tok ?_ | refine Ok.region_draw tok follows (by kernel_rfl) ?_ | refine Ok.cond ?_); conv => whnf) | refine Ok.block ?_ | ((first | refine Ok.skip ?_ | refine Ok.exit ?_ | refine Ok.ret ?_ | refine nI ?_ | refine ix _ (by assumption) ?_ | refine ixI (by omega) (by assumption) ?_ | refine ix_new _ (by omega) fun _ _ => ?_ | refine ixI_new (by omega) (by omega) fun _ _ => ?_ | refine ⟨_, by assumption, ?_⟩ | refine Alt2.l (aI ?_) | refine Alt2.r (aI ?_)); conv => whnf) | (refine Ok.scope ?_) | ((first | refine Ok.label ?_ | refine rd rfl (by assumption) ?_ | refine ⟨_, .inl ⟨rfl, rfl⟩, ?_⟩ | refine ⟨_, _, rfl, rfl, ?_⟩); conv => whnf) | (refine ⟨fun _ => ?_, fun _ => ?_⟩ <;> (conv => whnf) <;> (try (exfalso; omega))) | ((first | refine aJ ?_ | refine num_any ?_ | refine ⟨_, rfl, ?_⟩); conv => whnf) | fail)
  all_goals first
    | (rename_i hh; exact absurd hh hnone)
    | skip
  have hsx : saidX s h ↔ ∃ m ∈ pieces s, okM h m := ⟨fun q => q.2, fun q => ⟨hnone, q⟩⟩
  refine Ok.loopU [0, 1] [5, 6, 7, 8, 9] 0 0 (fun (x : Nat × Nat × Bool × Bool × Bool) => [.i .i64 (x.2.1 : Nat), bD x.2.2.1, bD x.2.2.2.1, bD x.2.2.2.2, .i .i64 (x.1 : Nat)]) (fun _ b => b) (fun _ r => r) (fun (x : Nat × Nat × Bool × Bool × Bool) => SInv s h x) (fun (x : Nat × Nat × Bool × Bool × Bool) => s.length + 1 - x.1) ((0, 0, true, true, false)) (.inl ⟨Nat.zero_le _, Nat.le_refl _, by simp, by simp, by show _ ↔ resX h true true false (pieces (s.drop 0)); rw [List.drop_zero, resX_start h (pieces_ne s)]; simp⟩) ?_; (conv => whnf); refine ⟨by ((conv => whnf); first | rfl | (simp [envCat, List.take_of_length_le, bcell, srow]; done) | (simp [envCat, List.take_of_length_le, bcell, srow]; rw [IntKind.wrap_i64]; omega)), ?_⟩
  rintro ⟨i, f, inn, fi, sm⟩ (⟨hi, hfi, hno1, hno2, hq⟩ | ⟨hi, hq⟩)
  case inr =>
    dsimp only at hi hq
    cases sm
    all_goals
      (conv => whnf)
      (try (conv => whnf)); repeat' (first | refine Ok.seq ?_ | refine OkL.cons ?_ | ((first | refine Ok.region tok ?_ | refine Ok.region_draw tok follows (by kernel_rfl) ?_ | refine Ok.cond ?_); conv => whnf) | refine Ok.block ?_ | ((first | refine Ok.skip ?_ | refine Ok.exit ?_ | refine Ok.ret ?_ | refine nI ?_ | refine ix _ (by assumption) ?_ | refine ixI (by omega) (by assumption) ?_ | refine ix_new _ (by omega) fun _ _ => ?_ | refine ixI_new (by omega) (by omega) fun _ _ => ?_ | refine ⟨_, by assumption, ?_⟩ | refine Alt2.l (aI ?_) | refine Alt2.r (aI ?_)); conv => whnf) | (refine Ok.scope ?_) | ((first | refine Ok.label ?_ | refine rd rfl (by assumption) ?_ | refine ⟨_, .inl ⟨rfl, rfl⟩, ?_⟩ | refine ⟨_, _, rfl, rfl, ?_⟩); conv => whnf) | (refine ⟨fun _ => ?_, fun _ => ?_⟩ <;> (conv => whnf) <;> (try (exfalso; omega))) | ((first | refine aJ ?_ | refine num_any ?_ | refine ⟨_, rfl, ?_⟩); conv => whnf) | fail)
      all_goals first
        | (exfalso; omega)
        | skip
    · refine Or.inl ?_; (conv => whnf)
      show D.b False = _
      exact congrArg D.b (propext ⟨fun h => h.elim, fun q => absurd (hq.1 (hsx.1 q)) (by decide)⟩)
    · refine Or.inl ?_; (conv => whnf)
      show D.b True = _
      exact congrArg D.b (propext ⟨fun _ => hsx.2 (hq.2 rfl), fun _ => trivial⟩)
  dsimp only at hi hfi hno1 hno2 hq
  by_cases hil : i < s.length
  · obtain ⟨b, hb⟩ : ∃ b, s[i]? = some b := ⟨_, List.getElem?_eq_getElem hil⟩
    have hbI : s[((i : Nat) : Int).toNat]? = some b := hb
    have hdr := drop_at hfi hb
    have hz : ∀ c : UInt8, c ∉ (s.take (i + 1)).drop (i + 1) := fun c => by rw [List.drop_eq_nil_of_le (by simp; omega)]; simp
    have hfit := fits3_at h ((s.take i).drop f) (by simp; omega)
    by_cases h43 : b = 43
    · subst h43
      have hn : (((43 : UInt8).toNat : Nat) : Int) = 43 := rfl
      rw [hdr, pieces_plus hno1 hno2, resX_plus (pieces_ne _)] at hq
      clear hdr
      cases inn <;> cases fi <;> cases sm
      all_goals
        (conv => whnf)
        (try (conv => whnf)); repeat' (first | refine Ok.seq ?_ | refine OkL.cons ?_ | ((first | refine Ok.region tok ?_ | refine Ok.region_draw tok follows (by kernel_rfl) ?_ | refine Ok.cond ?_); conv => whnf) | refine Ok.block ?_ | ((first | refine Ok.skip ?_ | refine Ok.exit ?_ | refine Ok.ret ?_ | refine nI ?_ | refine ix _ (by assumption) ?_ | refine ixI (by omega) (by assumption) ?_ | refine ix_new _ (by omega) fun _ _ => ?_ | refine ixI_new (by omega) (by omega) fun _ _ => ?_ | refine ⟨_, by assumption, ?_⟩); conv => whnf) | (refine Or.inl ?_; (conv => whnf); (repeat (refine aI ?_; conv => whnf)); refine ⟨_, hfit, rfl, ?_⟩; conv => whnf) | (refine ⟨_, hfit, rfl, ?_⟩; conv => whnf) | (refine Or.inr (Or.inl ?_); (conv => whnf); (repeat (refine aI ?_; conv => whnf)); refine ⟨_, hfit, ?_⟩; rintro _ _ ⟨rfl, rfl⟩; conv => whnf) | ((first | refine Alt2.l (aI ?_) | refine Alt2.r (aI ?_)); conv => whnf) | (refine Ok.scope ?_) | ((first | refine Ok.label ?_ | refine rd rfl (by assumption) ?_ | refine ⟨_, .inl ⟨rfl, rfl⟩, ?_⟩ | refine ⟨_, _, rfl, rfl, ?_⟩); conv => whnf) | (refine ⟨fun _ => ?_, fun _ => ?_⟩ <;> (conv => whnf) <;> (try (exfalso; omega))) | ((first | refine aJ ?_ | refine num_any ?_ | refine ⟨_, rfl, ?_⟩); conv => whnf) | fail)
        all_goals first
        | (exfalso; omega)
        | (rw [nxt_yes (has := inL h ((s.take i).drop f)) (by first | assumption | exact Classical.not_not.1 (by assumption))] at hq
           refine ⟨(i + 1, i + 1, true, true, _), by dsimp only; omega, .inl ⟨by dsimp only; omega, Nat.le_refl _, hz 43, hz 45, hq⟩, ?_⟩
           (conv => whnf)
           rfl)
        | (rw [nxt_no (has := inL h ((s.take i).drop f)) (by assumption)] at hq
           refine ⟨(i + 1, i + 1, true, true, _), by dsimp only; omega, .inl ⟨by dsimp only; omega, Nat.le_refl _, hz 43, hz 45, hq⟩, ?_⟩
           (conv => whnf)
           rfl)
        | trace_state
    have h43b := u8_ne h43
    rw [show (((43 : UInt8).toNat : Nat) : Int) = 43 from rfl] at h43b
    by_cases h45 : b = 45
    · subst h45
      have hn : (((45 : UInt8).toNat : Nat) : Int) = 45 := rfl
      rw [hdr, pieces_minus hno1 hno2, resX_minus] at hq
      clear hdr
      cases inn <;> cases fi <;> cases sm
      all_goals
        (conv => whnf)
        (try (conv => whnf)); repeat' (first | refine Ok.seq ?_ | refine OkL.cons ?_ | ((first | refine Ok.region tok ?_ | refine Ok.region_draw tok follows (by kernel_rfl) ?_ | refine Ok.cond ?_); conv => whnf) | refine Ok.block ?_ | ((first | refine Ok.skip ?_ | refine Ok.exit ?_ | refine Ok.ret ?_ | refine nI ?_ | refine ix _ (by assumption) ?_ | refine ixI (by omega) (by assumption) ?_ | refine ix_new _ (by omega) fun _ _ => ?_ | refine ixI_new (by omega) (by omega) fun _ _ => ?_ | refine ⟨_, by assumption, ?_⟩); conv => whnf) | (refine Or.inl ?_; (conv => whnf); (repeat (refine aI ?_; conv => whnf)); refine ⟨_, hfit, rfl, ?_⟩; conv => whnf) | (refine ⟨_, hfit, rfl, ?_⟩; conv => whnf) | (refine Or.inr (Or.inl ?_); (conv => whnf); (repeat (refine aI ?_; conv => whnf)); refine ⟨_, hfit, ?_⟩; rintro _ _ ⟨rfl, rfl⟩; conv => whnf) | ((first | refine Alt2.l (aI ?_) | refine Alt2.r (aI ?_)); conv => whnf) | (refine Ok.scope ?_) | ((first | refine Ok.label ?_ | refine rd rfl (by assumption) ?_ | refine ⟨_, .inl ⟨rfl, rfl⟩, ?_⟩ | refine ⟨_, _, rfl, rfl, ?_⟩); conv => whnf) | (refine ⟨fun _ => ?_, fun _ => ?_⟩ <;> (conv => whnf) <;> (try (exfalso; omega))) | ((first | refine aJ ?_ | refine num_any ?_ | refine ⟨_, rfl, ?_⟩); conv => whnf) | fail)
        all_goals first
        | (exfalso; omega)
        | (rw [nxt_yes (has := inL h ((s.take i).drop f)) (by first | assumption | exact Classical.not_not.1 (by assumption))] at hq
           refine ⟨(i + 1, i + 1, _, false, _), by dsimp only; omega, .inl ⟨by dsimp only; omega, Nat.le_refl _, hz 43, hz 45, hq⟩, ?_⟩
           (conv => whnf)
           rfl)
        | (rw [nxt_no (has := inL h ((s.take i).drop f)) (by assumption)] at hq
           refine ⟨(i + 1, i + 1, _, false, _), by dsimp only; omega, .inl ⟨by dsimp only; omega, Nat.le_refl _, hz 43, hz 45, hq⟩, ?_⟩
           (conv => whnf)
           rfl)
        | trace_state
    have h45b := u8_ne h45
    rw [show (((45 : UInt8).toNat : Nat) : Int) = 45 from rfl] at h45b
    have hm1 := cut_more hfi hb h43 hno1
    have hm2 := cut_more hfi hb h45 hno2
    cases inn <;> cases fi <;> cases sm
    all_goals
      (conv => whnf)
      (try (conv => whnf)); repeat' (first | refine Ok.seq ?_ | refine OkL.cons ?_ | ((first | refine Ok.region tok ?_ | refine Ok.region_draw tok follows (by kernel_rfl) ?_ | refine Ok.cond ?_); conv => whnf) | refine Ok.block ?_ | ((first | refine Ok.skip ?_ | refine Ok.exit ?_ | refine Ok.ret ?_ | refine nI ?_ | refine ix _ (by assumption) ?_ | refine ixI (by omega) (by assumption) ?_ | refine ix_new _ (by omega) fun _ _ => ?_ | refine ixI_new (by omega) (by omega) fun _ _ => ?_ | refine ⟨_, by assumption, ?_⟩ | refine Alt2.l (aI ?_) | refine Alt2.r (aI ?_)); conv => whnf) | (refine Ok.scope ?_) | ((first | refine Ok.label ?_ | refine rd rfl (by assumption) ?_ | refine ⟨_, .inl ⟨rfl, rfl⟩, ?_⟩ | refine ⟨_, _, rfl, rfl, ?_⟩); conv => whnf) | (refine ⟨fun _ => ?_, fun _ => ?_⟩ <;> (conv => whnf) <;> (try (exfalso; omega))) | ((first | refine aJ ?_ | refine num_any ?_ | refine ⟨_, rfl, ?_⟩); conv => whnf) | fail)
      all_goals first
        | (exfalso; omega)
        | (refine ⟨(i + 1, f, _, _, _), by dsimp only; omega, .inl ⟨by dsimp only; omega, by dsimp only; omega, hm1, hm2, hq⟩, ?_⟩
           (conv => whnf)
           rfl)
        | trace_state
  · have hie : i = s.length := by omega
    subst hie
    have hfit := fits3_at h ((s.take s.length).drop f) (by simp; omega)
    have hp : s.drop f = (s.take s.length).drop f := by rw [List.take_length]
    rw [hp, pieces_last hno1 hno2, resX_last] at hq
    clear hp
    cases inn <;> cases fi <;> cases sm
    all_goals
      (conv => whnf)
      (try (conv => whnf)); repeat' (first | refine Ok.seq ?_ | refine OkL.cons ?_ | ((first | refine Ok.region tok ?_ | refine Ok.region_draw tok follows (by kernel_rfl) ?_ | refine Ok.cond ?_); conv => whnf) | refine Ok.block ?_ | ((first | refine Ok.skip ?_ | refine Ok.exit ?_ | refine Ok.ret ?_ | refine nI ?_ | refine ix _ (by assumption) ?_ | refine ixI (by omega) (by assumption) ?_ | refine ix_new _ (by omega) fun _ _ => ?_ | refine ixI_new (by omega) (by omega) fun _ _ => ?_ | refine ⟨_, by assumption, ?_⟩); conv => whnf) | (refine Or.inl ?_; (conv => whnf); (repeat (refine aI ?_; conv => whnf)); refine ⟨_, hfit, rfl, ?_⟩; conv => whnf) | (refine ⟨_, hfit, rfl, ?_⟩; conv => whnf) | (refine Or.inr (Or.inl ?_); (conv => whnf); (repeat (refine aI ?_; conv => whnf)); refine ⟨_, hfit, ?_⟩; rintro _ _ ⟨rfl, rfl⟩; conv => whnf) | ((first | refine Alt2.l (aI ?_) | refine Alt2.r (aI ?_)); conv => whnf) | (refine Ok.scope ?_) | ((first | refine Ok.label ?_ | refine rd rfl (by assumption) ?_ | refine ⟨_, .inl ⟨rfl, rfl⟩, ?_⟩ | refine ⟨_, _, rfl, rfl, ?_⟩); conv => whnf) | (refine ⟨fun _ => ?_, fun _ => ?_⟩ <;> (conv => whnf) <;> (try (exfalso; omega))) | ((first | refine aJ ?_ | refine num_any ?_ | refine ⟨_, rfl, ?_⟩); conv => whnf) | fail)
      all_goals first
      | (exfalso; omega)
      | (rw [nxt_yes (has := inL h ((s.take s.length).drop f)) (by first | assumption | exact Classical.not_not.1 (by assumption))] at hq
         refine ⟨(s.length + 1, s.length + 1, true, true, _), by dsimp only; omega, .inr ⟨rfl, hq⟩, ?_⟩
         (conv => whnf)
         rfl)
      | (rw [nxt_no (has := inL h ((s.take s.length).drop f)) (by assumption)] at hq
         refine ⟨(s.length + 1, s.length + 1, true, true, _), by dsimp only; omega, .inr ⟨rfl, hq⟩, ?_⟩
         (conv => whnf)
         rfl)
      | trace_state
end Go.Proofs.YtaiondckookpiaaDoor
namespace Go.Proofs.YtaiondckookpiaaDoor
open Go Go.Vx
section
variable {p : Int → Prop} {a c r : Int} {k m j : Nat}
theorem wrap_small {x : Int} (h1 : 0 ≤ x) (h2 : x ≤ 9223372036854775807) : IntKind.i64.wrap x = x := by
  rw [IntKind.wrap_i64]
  omega
theorem iShl1 (hc : c = 1) (hr : r = (k : Int) ∧ k ≤ 8) (h : p ((2 ^ k : Nat) : Int)) : ∃ n, n = IntKind.i64.wrap (c * 2 ^ (min r.toNat IntKind.i64.bits)) ∧ p n := by
  obtain ⟨rfl, hk⟩ := hr
  subst hc
  refine ⟨_, rfl, ?_⟩
  have e1 : min ((k : Int).toNat) IntKind.i64.bits = k := by show min k 64 = k; omega
  have e2 : (1 : Int) * 2 ^ k = ((2 ^ k : Nat) : Int) := by simp
  have h3 : 2 ^ k ≤ 2 ^ 8 := Nat.pow_le_pow_right (by decide) hk
  have h4 : ((2 ^ k : Nat) : Int) ≤ ((2 ^ 8 : Nat) : Int) := Int.ofNat_le.2 h3
  have h5 : ((2 ^ 8 : Nat) : Int) = 256 := rfl
  rw [e1, e2, wrap_small (Int.natCast_nonneg _) (by rw [h5] at h4; exact Int.le_trans h4 (by decide))]
  exact h
theorem iShr (ha : a = (m : Int)) (hr : r = (j : Int) ∧ j ≤ 8) (h : p ((m >>> j : Nat) : Int)) : ∃ n, n = a.fdiv (2 ^ (min r.toNat IntKind.i64.bits)) ∧ p n := by
  obtain ⟨rfl, hk⟩ := hr
  subst ha
  refine ⟨_, rfl, ?_⟩
  have e1 : min ((j : Int).toNat) IntKind.i64.bits = j := by show min j 64 = j; omega
  have e2 : (m : Int).fdiv (2 ^ j) = ((m >>> j : Nat) : Int) := by
    rw [Nat.shiftRight_eq_div_pow]
    have : (2 : Int) ^ j = ((2 ^ j : Nat) : Int) := by simp
    rw [this, Int.fdiv_eq_ediv_of_nonneg _ (Int.natCast_nonneg _)]
    simp
  rw [e1, e2]
  exact h
theorem iAnd1 (ha : a = (m : Int)) (hm : m < 256) (hc : c = 1) (h : p ((m % 2 : Nat) : Int)) : ∃ n, n = IntKind.i64.wrap ((BitVec.ofInt IntKind.i64.bits a &&& BitVec.ofInt IntKind.i64.bits c).toNat : Int) ∧ p n := by
  subst ha hc
  refine ⟨_, rfl, ?_⟩
  have e : ((BitVec.ofInt IntKind.i64.bits (m : Int) &&& BitVec.ofInt IntKind.i64.bits 1).toNat) = m % 2 := by
    show ((BitVec.ofInt 64 (m : Int) &&& BitVec.ofInt 64 1).toNat) = m % 2
    rw [BitVec.toNat_and]
    have h1 : (BitVec.ofInt 64 (m : Int)).toNat = m := by simp [BitVec.toNat_ofInt]; omega
    have h2 : (BitVec.ofInt 64 1).toNat = 1 := rfl
    rw [h1, h2, Nat.and_one_is_mod]
  rw [e, wrap_small (by omega) (by omega)]
  exact h
theorem iU8 {x : Int} (h1 : 0 ≤ x ∧ x ≤ 255) (h : p x) : ∃ n, n = IntKind.u8.wrap x ∧ p n := by
  refine ⟨_, rfl, ?_⟩
  have : IntKind.u8.wrap x = x := by
    show x % 256 = x
    omega
  rw [this]
  exact h
end
def dg (k m i : Nat) : UInt8 := UInt8.ofNat (48 + (m >>> (k - 1 - i)) % 2)
theorem dg_nat (k m i : Nat) : (dg k m i).toNat = 48 + (m >>> (k - 1 - i)) % 2 := by
  unfold dg
  rw [UInt8.toNat_ofNat']
  omega
def binS (k m : Nat) : Str := (List.range k).map (dg k m)
theorem binS_len (k m : Nat) : (binS k m).length = k := by simp [binS]
theorem binS_get {k m i : Nat} (h : i < k) : (binS k m)[i]? = some (dg k m i) := by simp [binS, h]
def allH (k : Nat) : List Str := (List.range (2 ^ k)).map (binS k)
def hdrsL (n : Int) (given : List Str) : List Str := if n < 1 ∨ 8 < n then given.take 64 else allH n.toNat
set_option maxRecDepth 100000 in
set_option maxHeartbeats 8000000 in
theorem headers_at (n : Int) (given : List Str) (room : List (List D)) : FSpec Tryd.prog T 18 [.i .i64 n, .lst 9 (given.map srow) room] (fun d rows => rows = [] ∧ ∃ rm, d = .lst 9 ((hdrsL n given).map srow) rm) := by
  have hgl : (given.map srow).length = given.length := by simp
  refine FSpec.of_ok tok Tryd.func18 rfl Tryd.call18 (by simp) ?_
  by_cases hn : n < 1 ∨ 8 < n
  · rw [show hdrsL n given = given.take 64 from if_pos hn]
    by_cases hg : 64 < given.length
    · (try (conv => whnf)); repeat' (first | refine Ok.seq ?_ | refine OkL.cons ?_ | ((first | refine Ok.region tok ?_ | refine Ok.region_draw tok follows (by kernel_rfl) ?_ | refine Ok.cond ?_); conv => whnf) | refine Ok.block ?_ | ((first | refine Ok.skip ?_ | refine Ok.exit ?_ | refine Ok.ret ?_ | refine nI ?_ | refine ix _ (by assumption) ?_ | refine ixI (by omega) (by assumption) ?_ | refine ix_new _ (by omega) fun _ _ => ?_ | refine ixI_new (by omega) (by omega) fun _ _ => ?_ | refine ⟨_, by assumption, ?_⟩ | refine Alt2.l (aI ?_) | refine Alt2.r (aI ?_)); conv => whnf) | (refine Ok.scope ?_) | ((first | refine Ok.label ?_ | refine rd rfl (by assumption) ?_ | refine ⟨_, .inl ⟨rfl, rfl⟩, ?_⟩ | refine ⟨_, _, rfl, rfl, ?_⟩); conv => whnf) | (refine ⟨fun _ => ?_, fun _ => ?_⟩ <;> (conv => whnf) <;> (try (exfalso; omega))) | ((first | refine aJ ?_ | refine num_any ?_ | refine ⟨_, rfl, ?_⟩); conv => whnf) | fail)
      all_goals first
        | (exfalso; omega)
        | (refine Or.inl ?_; (conv => whnf)
           have e : List.drop 0 (List.take 64 (given.map srow ++ room)) = (given.take 64).map srow := by rw [List.drop_zero, List.take_append_of_le_length (by simp; omega), ← List.map_take]
           refine ⟨rfl, List.drop 64 (given.map srow ++ room), ?_⟩
           exact congrArg (fun x => D.lst 9 x _) e)
        | trace_state
    · have : given.take 64 = given := List.take_of_length_le (by omega)
      rw [this]
      (try (conv => whnf)); repeat' (first | refine Ok.seq ?_ | refine OkL.cons ?_ | ((first | refine Ok.region tok ?_ | refine Ok.region_draw tok follows (by kernel_rfl) ?_ | refine Ok.cond ?_); conv => whnf) | refine Ok.block ?_ | ((first | refine Ok.skip ?_ | refine Ok.exit ?_ | refine Ok.ret ?_ | refine nI ?_ | refine ix _ (by assumption) ?_ | refine ixI (by omega) (by assumption) ?_ | refine ix_new _ (by omega) fun _ _ => ?_ | refine ixI_new (by omega) (by omega) fun _ _ => ?_ | refine ⟨_, by assumption, ?_⟩ | refine Alt2.l (aI ?_) | refine Alt2.r (aI ?_)); conv => whnf) | (refine Ok.scope ?_) | ((first | refine Ok.label ?_ | refine rd rfl (by assumption) ?_ | refine ⟨_, .inl ⟨rfl, rfl⟩, ?_⟩ | refine ⟨_, _, rfl, rfl, ?_⟩); conv => whnf) | (refine ⟨fun _ => ?_, fun _ => ?_⟩ <;> (conv => whnf) <;> (try (exfalso; omega))) | ((first | refine aJ ?_ | refine num_any ?_ | refine ⟨_, rfl, ?_⟩); conv => whnf) | fail)
      all_goals first
        | (exfalso; omega)
        | (refine Or.inl ?_; (conv => whnf)
           exact ⟨rfl, room, rfl⟩)
        | trace_state
  obtain ⟨k, rfl⟩ : ∃ k : Nat, n = (k : Int) := ⟨n.toNat, by omega⟩
  rw [show hdrsL (k : Int) given = allH k from if_neg hn]
  (try (conv => whnf)); repeat' (first | refine Ok.seq ?_ | refine OkL.cons ?_ | ((first | refine Ok.region tok ?_ | refine Ok.region_draw tok follows (by kernel_rfl) ?_ | refine Ok.cond ?_); conv => whnf) | refine Ok.block ?_ | ((first | refine Ok.skip ?_ | refine Ok.exit ?_ | refine Ok.ret ?_ | refine nI ?_ | refine ix _ (by assumption) ?_ | refine ixI (by omega) (by assumption) ?_ | refine ix_new _ (by omega) fun _ _ => ?_ | refine ixI_new (by omega) (by omega) fun _ _ => ?_ | refine ⟨_, by assumption, ?_⟩ | refine Alt2.l (aI ?_) | refine Alt2.r (aI ?_)); conv => whnf) | (refine Ok.scope ?_) | ((first | refine Ok.label ?_ | refine rd rfl (by assumption) ?_ | refine ⟨_, .inl ⟨rfl, rfl⟩, ?_⟩ | refine ⟨_, _, rfl, rfl, ?_⟩); conv => whnf) | (refine ⟨fun _ => ?_, fun _ => ?_⟩ <;> (conv => whnf) <;> (try (exfalso; omega))) | ((first | refine aJ ?_ | refine num_any ?_ | refine ⟨_, rfl, ?_⟩); conv => whnf) | fail)
  all_goals first
    | (exfalso; omega)
    | skip
  refine Ok.ghost 5 9 rfl ?_
  (conv => whnf)
  have hk8 : 2 ^ k ≤ 2 ^ 8 := Nat.pow_le_pow_right (by decide) (by omega)
  refine Ok.loopU [0] [5, 6] 1 0 (fun (m : Nat) => [.own 0 m, .i .i64 (m : Nat)]) (fun _ b => b) (fun (m : Nat) (_ : Vx.Rows) => [some (9, ((List.range m).map (binS k)).map srow)]) (fun (m : Nat) => m ≤ 2 ^ k) (fun (m : Nat) => 2 ^ k - m) (0) (Nat.zero_le _) ?_; (conv => whnf); refine ⟨by ((conv => whnf); first | rfl | (simp [envCat, List.take_of_length_le, bcell, srow]; done) | (simp [envCat, List.take_of_length_le, bcell, srow]; rw [IntKind.wrap_i64]; omega)), ?_⟩
  rintro m hm
  have hrm : (((List.range m).map (binS k)).map srow).length = m := by simp
  (conv => whnf)
  by_cases hml : m < 2 ^ k
  · (try (conv => whnf)); repeat' (first | (refine iShl1 rfl ⟨rfl, by omega⟩ ?_; (conv => whnf)) | refine Ok.seq ?_ | refine OkL.cons ?_ | ((first | refine Ok.region tok ?_ | refine Ok.region_draw tok follows (by kernel_rfl) ?_ | refine Ok.cond ?_); conv => whnf) | refine Ok.block ?_ | ((first | refine Ok.skip ?_ | refine Ok.exit ?_ | refine Ok.ret ?_ | refine nI ?_ | refine ix _ (by assumption) ?_ | refine ixI (by omega) (by assumption) ?_ | refine ix_new _ (by omega) fun _ _ => ?_ | refine ixI_new (by omega) (by omega) fun _ _ => ?_ | refine ⟨_, by assumption, ?_⟩ | refine Alt2.l (aI ?_) | refine Alt2.r (aI ?_)); conv => whnf) | (refine Ok.scope ?_) | ((first | refine Ok.label ?_ | refine rd rfl (by assumption) ?_ | refine ⟨_, .inl ⟨rfl, rfl⟩, ?_⟩ | refine ⟨_, _, rfl, rfl, ?_⟩); conv => whnf) | (refine ⟨fun _ => ?_, fun _ => ?_⟩ <;> (conv => whnf) <;> (try (exfalso; omega))) | ((first | refine aJ ?_ | refine num_any ?_ | refine ⟨_, rfl, ?_⟩); conv => whnf) | fail)
    all_goals first
      | (exfalso; omega)
      | skip
    refine Ok.loopU [0, 5, 6, 7] [8] 2 0 (fun (i : Nat) => [.i .i64 (i : Nat)]) (fun _ b => b) (fun (i : Nat) (_ : Vx.Rows) => [some (9, ((List.range m).map (binS k)).map srow), some (5, ((binS k m).take i ++ List.replicate (k - i) 0).map bcell)]) (fun (i : Nat) => i ≤ k) (fun (i : Nat) => k - i) (0) (Nat.zero_le _) ?_; (conv => whnf); refine ⟨by ((conv => whnf); first | rfl | (simp [envCat, List.take_of_length_le, bcell, srow]; done) | (simp [envCat, List.take_of_length_le, bcell, srow]; rw [IntKind.wrap_i64]; omega)), ?_⟩
    rintro i hi
    have hbl := binS_len k m
    have hll : ((binS k m).take i ++ List.replicate (k - i) (0 : UInt8)).length = k := by simp [hbl]; omega
    have hlm : (((binS k m).take i ++ List.replicate (k - i) (0 : UInt8)).map bcell).length = k := by rw [List.length_map, hll]
    (conv => whnf)
    by_cases hil : i < k
    · have hfa := fill_at (t := binS k m) (i := i) (by omega)
      have hfs := fill_set (binS_get (m := m) hil)
      rw [hbl] at hfa hfs
      have hj : ((k : Int) - 1 - (i : Int)) = ((k - 1 - i : Nat) : Int) ∧ k - 1 - i ≤ 8 := by omega
      have hdn := dg_nat k m i
      (try (conv => whnf)); repeat' (first | (refine iShr rfl (by assumption) ?_; (conv => whnf)) | (refine iAnd1 rfl (by have := Nat.shiftRight_le m (k - 1 - i); omega) rfl ?_; (conv => whnf)) | (refine iU8 (by omega) ?_; (conv => whnf)) | refine Ok.seq ?_ | refine OkL.cons ?_ | ((first | refine Ok.region tok ?_ | refine Ok.region_draw tok follows (by kernel_rfl) ?_ | refine Ok.cond ?_); conv => whnf) | refine Ok.block ?_ | ((first | refine Ok.skip ?_ | refine Ok.exit ?_ | refine Ok.ret ?_ | refine nI ?_ | refine ix _ (by assumption) ?_ | refine ixI (by omega) (by assumption) ?_ | refine ix_new _ (by omega) fun _ _ => ?_ | refine ixI_new (by omega) (by omega) fun _ _ => ?_ | refine ⟨_, by assumption, ?_⟩ | refine Alt2.l (aI ?_) | refine Alt2.r (aI ?_)); conv => whnf) | (refine Ok.scope ?_) | ((first | refine Ok.label ?_ | refine rd rfl (by assumption) ?_ | refine ⟨_, .inl ⟨rfl, rfl⟩, ?_⟩ | refine ⟨_, _, rfl, rfl, ?_⟩); conv => whnf) | (refine ⟨fun _ => ?_, fun _ => ?_⟩ <;> (conv => whnf) <;> (try (exfalso; omega))) | ((first | refine aJ ?_ | refine num_any ?_ | refine ⟨_, rfl, ?_⟩); conv => whnf) | fail)
      all_goals first
        | (exfalso; omega)
        | skip
      refine st (dg k m i) hfa (by simp [bcell]) (by simp [setCells, bcell, hdn]) ?_
      (try (conv => whnf)); repeat' (first | refine Ok.seq ?_ | refine OkL.cons ?_ | ((first | refine Ok.region tok ?_ | refine Ok.region_draw tok follows (by kernel_rfl) ?_ | refine Ok.cond ?_); conv => whnf) | refine Ok.block ?_ | ((first | refine Ok.skip ?_ | refine Ok.exit ?_ | refine Ok.ret ?_ | refine nI ?_ | refine ix _ (by assumption) ?_ | refine ixI (by omega) (by assumption) ?_ | refine ix_new _ (by omega) fun _ _ => ?_ | refine ixI_new (by omega) (by omega) fun _ _ => ?_ | refine ⟨_, by assumption, ?_⟩ | refine Alt2.l (aI ?_) | refine Alt2.r (aI ?_)); conv => whnf) | (refine Ok.scope ?_) | ((first | refine Ok.label ?_ | refine rd rfl (by assumption) ?_ | refine ⟨_, .inl ⟨rfl, rfl⟩, ?_⟩ | refine ⟨_, _, rfl, rfl, ?_⟩); conv => whnf) | (refine ⟨fun _ => ?_, fun _ => ?_⟩ <;> (conv => whnf) <;> (try (exfalso; omega))) | ((first | refine aJ ?_ | refine num_any ?_ | refine ⟨_, rfl, ?_⟩); conv => whnf) | fail)
      refine ⟨i + 1, by omega, by omega, ?_⟩
      (conv => whnf)
      simp only [toNat_cast, hfs, envCat]
      rfl
    · have hie : i = k := by omega
      subst hie
      have ht : (binS i m).take i = binS i m := by
        have := binS_len i m
        exact List.take_of_length_le (by omega)
      rw [ht, Nat.sub_self, List.replicate_zero, List.append_nil] at *
      (try (conv => whnf)); repeat' (first | refine Ok.seq ?_ | refine OkL.cons ?_ | ((first | refine Ok.region tok ?_ | refine Ok.region_draw tok follows (by kernel_rfl) ?_ | refine Ok.cond ?_); conv => whnf) | refine Ok.block ?_ | ((first | refine Ok.skip ?_ | refine Ok.exit ?_ | refine Ok.ret ?_ | refine nI ?_ | refine ix _ (by assumption) ?_ | refine ixI (by omega) (by assumption) ?_ | refine ix_new _ (by omega) fun _ _ => ?_ | refine ixI_new (by omega) (by omega) fun _ _ => ?_ | refine ⟨_, by assumption, ?_⟩ | refine Alt2.l (aI ?_) | refine Alt2.r (aI ?_)); conv => whnf) | (refine Ok.scope ?_) | ((first | refine Ok.label ?_ | refine rd rfl (by assumption) ?_ | refine ⟨_, .inl ⟨rfl, rfl⟩, ?_⟩ | refine ⟨_, _, rfl, rfl, ?_⟩); conv => whnf) | (refine ⟨fun _ => ?_, fun _ => ?_⟩ <;> (conv => whnf) <;> (try (exfalso; omega))) | ((first | refine aJ ?_ | refine num_any ?_ | refine ⟨_, rfl, ?_⟩); conv => whnf) | fail)
      refine ⟨binS i m, by rw [List.take_of_length_le (by rw [List.length_map]; omega)], ?_⟩
      (try (conv => whnf)); repeat' (first | refine Ok.seq ?_ | refine OkL.cons ?_ | ((first | refine Ok.region tok ?_ | refine Ok.region_draw tok follows (by kernel_rfl) ?_ | refine Ok.cond ?_); conv => whnf) | refine Ok.block ?_ | ((first | refine Ok.skip ?_ | refine Ok.exit ?_ | refine Ok.ret ?_ | refine nI ?_ | refine ix _ (by assumption) ?_ | refine ixI (by omega) (by assumption) ?_ | refine ix_new _ (by omega) fun _ _ => ?_ | refine ixI_new (by omega) (by omega) fun _ _ => ?_ | refine ⟨_, by assumption, ?_⟩ | refine Alt2.l (aI ?_) | refine Alt2.r (aI ?_)); conv => whnf) | (refine Ok.scope ?_) | ((first | refine Ok.label ?_ | refine rd rfl (by assumption) ?_ | refine ⟨_, .inl ⟨rfl, rfl⟩, ?_⟩ | refine ⟨_, _, rfl, rfl, ?_⟩); conv => whnf) | (refine ⟨fun _ => ?_, fun _ => ?_⟩ <;> (conv => whnf) <;> (try (exfalso; omega))) | ((first | refine aJ ?_ | refine num_any ?_ | refine ⟨_, rfl, ?_⟩); conv => whnf) | fail)
      refine ⟨m + 1, by omega, by omega, ?_⟩
      rw [List.range_succ, List.map_append, List.map_append]
      (conv => whnf)
      simp [envCat]
  · have hme : m = 2 ^ k := by omega
    subst hme
    (try (conv => whnf)); repeat' (first | (refine iShl1 rfl ⟨rfl, by omega⟩ ?_; (conv => whnf)) | refine Ok.seq ?_ | refine OkL.cons ?_ | ((first | refine Ok.region tok ?_ | refine Ok.region_draw tok follows (by kernel_rfl) ?_ | refine Ok.cond ?_); conv => whnf) | refine Ok.block ?_ | ((first | refine Ok.skip ?_ | refine Ok.exit ?_ | refine Ok.ret ?_ | refine nI ?_ | refine ix _ (by assumption) ?_ | refine ixI (by omega) (by assumption) ?_ | refine ix_new _ (by omega) fun _ _ => ?_ | refine ixI_new (by omega) (by omega) fun _ _ => ?_ | refine ⟨_, by assumption, ?_⟩ | refine Alt2.l (aI ?_) | refine Alt2.r (aI ?_)); conv => whnf) | (refine Ok.scope ?_) | ((first | refine Ok.label ?_ | refine rd rfl (by assumption) ?_ | refine ⟨_, .inl ⟨rfl, rfl⟩, ?_⟩ | refine ⟨_, _, rfl, rfl, ?_⟩); conv => whnf) | (refine ⟨fun _ => ?_, fun _ => ?_⟩ <;> (conv => whnf) <;> (try (exfalso; omega))) | ((first | refine aJ ?_ | refine num_any ?_ | refine ⟨_, rfl, ?_⟩); conv => whnf) | fail)
    all_goals first
      | (exfalso; omega)
      | skip
    refine Or.inl ?_; (conv => whnf)
    refine ⟨rfl, [], ?_⟩
    rw [List.take_of_length_le (by simp), List.drop_of_length_le (by simp)]
    rfl
end Go.Proofs.YtaiondckookpiaaDoor
namespace Go.Proofs.YtaiondckookpiaaDoor
open Go Go.Vx
theorem parO_cases (b : Int) (s : Str) : (∃ e, e ≠ 0 ∧ parO b s = (e, 0, [])) ∨ (1 ≤ b ∧ b ≤ 256 ∧ s.length ≤ 33024 ∧ ((s = [110, 111, 110, 101] ∧ parO b s = (0, b, [])) ∨ (s ≠ [110, 111, 110, 101] ∧ OkP b (pieces s) ∧ parO b s = (0, b, formT (trms (pieces s)))))) := by
  by_cases h1 : 33024 < s.length
  · exact .inl ⟨2, by decide, parO_long h1⟩
  by_cases h2 : b < 1 ∨ 256 < b
  · exact .inl ⟨1, by decide, parO_arg h1 h2⟩
  by_cases h3 : s = [110, 111, 110, 101]
  · exact .inr ⟨by omega, by omega, by omega, .inl ⟨h3, parO_none h1 h2 h3⟩⟩
  by_cases h4 : OkP b (pieces s)
  · by_cases h5 : 128 < cntP (pieces s)
    · exact .inl ⟨3, by decide, parO_many h1 h2 h3 h4 h5⟩
    · exact .inr ⟨by omega, by omega, by omega, .inr ⟨h3, h4, parO_form h1 h2 h3 h4 h5⟩⟩
  · exact .inl ⟨20, by decide, parO_word h1 h2 h3 h4⟩
theorem hasC_inL {n : Int} {c h : Str} (hd : hdrX n h) (hc : c ≠ []) (hl : (c.length : Int) = n) : hasC c h ↔ inL h c :=
  ⟨fun q => q.2.2.2, fun q => ⟨hc, inL_len q, hd.2, q⟩⟩
theorem saidM_ok {n : Int} {h : Str} {m : List Str} (hd : hdrX n h) (hm : m ≠ []) (ho : ∀ w ∈ m, OkW n w) : saidM m h ↔ okM h m := by
  cases m with
  | nil => exact absurd rfl hm
  | cons p l =>
    have hp := ho p (by simp)
    unfold saidM rawHas okM
    simp only [List.headD_cons, List.tail_cons]
    rw [hasC_inL hd hp.2.2 hp.1]
    exact and_congr_right fun _ => forall_congr' fun x => forall_congr' fun hx => not_congr (hasC_inL hd (ho x (by simp [hx])).2.2 (ho x (by simp [hx])).1)
theorem said_has {n : Int} {s h : Str} (hp : (parO n s).1 = 0) (hd : hdrX n h) : saidX s h ↔ hasS (parO n s).2.2 h := by
  rcases parO_cases n s with ⟨e, he, h1⟩ | ⟨_, _, _, ⟨h3, h1⟩ | ⟨h3, h4, h1⟩⟩
  · rw [h1] at hp; exact absurd hp he
  · rw [h1]
    exact ⟨fun q => absurd h3 q.1, fun ⟨t, ht, _⟩ => by simp at ht⟩
  · rw [h1]
    show _ ↔ hasS (formT (trms (pieces s))) h
    rw [hasS_form (n := n.toNat) (fun t ht => (trms_good (fun m hm => (pieces_mem hm).1) h4 t ht).ok), trms_has]
    unfold saidX saidP
    constructor
    · rintro ⟨_, m, hm, q⟩
      exact ⟨m, hm, (saidM_ok hd (pieces_mem hm).1 (h4 m hm)).2 q⟩
    · rintro ⟨m, hm, q⟩
      exact ⟨h3, m, hm, (saidM_ok hd (pieces_mem hm).1 (h4 m hm)).1 q⟩
theorem hdrsL_len (n : Int) (given : List Str) : (hdrsL n given).length ≤ 256 := by
  unfold hdrsL
  split
  · simp; omega
  · rename_i h
    have h1 : 2 ^ n.toNat ≤ 2 ^ 8 := Nat.pow_le_pow_right (by decide) (by omega)
    simp only [allH, List.length_map, List.length_range]
    exact h1
end Go.Proofs.YtaiondckookpiaaDoor
namespace Go.Proofs.YtaiondckookpiaaDoor
open Go Go.Vx
theorem bndO_code (n : Int) (l : List Term) : (bndO n l).1 = 0 ∨ (bndO n l).1 = 3 := by unfold bndO; split <;> simp
theorem joinO_code {n : Int} {ts us : List Term} (h : 0 < n) : (joinO n n ts us).1 = 0 ∨ (joinO n n ts us).1 = 3 := by
  rw [joinO_fit ⟨rfl, h⟩]; exact bndO_code _ _
theorem meetO_code {n : Int} {ts us : List Term} (h : 0 < n) : (meetO n n ts us).1 = 0 ∨ (meetO n n ts us).1 = 3 := by
  by_cases hl : ts.length * us.length ≤ 2048
  · rw [meetO_fit ⟨rfl, h⟩ hl]; exact bndO_code _ _
  · unfold meetO; rw [if_pos ⟨rfl, h⟩, if_neg hl]; exact .inr rfl
theorem minusL_code {n : Int} : ∀ {us ts : List Term}, (minusL n ts us).1 = 0 ∨ (minusL n ts us).1 = 3
  | [], ts => .inl (by unfold minusL; rfl)
  | u :: us, ts => by
    rcases withoutO_cases n ts u with hw | ⟨hw, _, _⟩
    · rw [minusL_stop hw]; exact .inr rfl
    · rw [minusL_go hw]; exact minusL_code
theorem minusO_code {n : Int} {ts us : List Term} (h : 0 < n) : (minusO n n ts us).1 = 0 ∨ (minusO n n ts us).1 = 3 := by
  rw [minusO_fit ⟨rfl, h⟩]; exact minusL_code
end Go.Proofs.YtaiondckookpiaaDoor
