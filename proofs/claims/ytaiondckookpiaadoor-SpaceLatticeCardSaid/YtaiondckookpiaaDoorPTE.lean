/- The walks and the plain laws that a law of spaces needs, part 5 of 5. -/
import Derived.Test.YtaiondckookpiaaDoorPTD
set_option linter.unusedVariables false
set_option linter.unusedSimpArgs false
namespace Go.Proofs.YtaiondckookpiaaDoor
open Go Go.Vx Go.Shelf
set_option maxRecDepth 100000 in
set_option maxHeartbeats 8000000 in
theorem parse2_at (b : Int) (s : Str) : FSpec Tryd.prog T 13 [.i .i64 b, .s s] (POut (parO b s)) := by
  refine FSpec.of_deferK 7 tok Tryd.func13 rfl Tryd.call13 (by simp) def_parse (zd1 := [.i .i64 0, .nilS]) (zd2 := [.i .i64 3]) rfl rfl (by simp [Value.oneCell']) (by simp [Value.oneCell']) rfl ?_
  by_cases hlong : 33024 < s.length
  · rw [parO_long hlong]
    (try (conv => whnf)); repeat' (first | refine Ok.seq ?_ | refine OkL.cons ?_ | ((first | refine Ok.region tok ?_ | refine Ok.region_tree (id := 31) tok follows [(2, 6, []), (5, 6, []), (2, 11, []), (5, 11, []), (6, 11, []), (10, 11, [])] (.q 0 (.q 1 (.q 2 (.q 3 (.q 4 (.alt 5 (.alt 6 (.q 7 (.q 8 (.q 9 (.l 10 (.l 11 (.q 12 .nil)))))) (.alt 10 (.l 6 (.q 7 (.q 8 (.q 9 (.l 11 (.q 12 .nil)))))) .nil)) (.alt 10 (.l 5 (.l 6 (.q 7 (.q 8 (.q 9 (.l 11 (.q 12 .nil))))))) .nil))))))) (by kernel_rfl) ?_ | refine Ok.region_draw tok follows (by kernel_rfl) ?_ | refine Ok.cond ?_); conv => whnf) | refine Ok.block ?_ | ((first | refine Ok.skip ?_ | refine Ok.exit ?_ | refine Ok.ret ?_ | refine nI ?_ | refine ix _ (by assumption) ?_ | refine ixI (by omega) (by assumption) ?_ | refine ix_new _ (by omega) fun _ _ => ?_ | refine ixI_new (by omega) (by omega) fun _ _ => ?_ | refine ⟨_, by assumption, ?_⟩ | refine Alt2.l (aI ?_) | refine Alt2.r (aI ?_)); conv => whnf) | (refine Ok.scope ?_) | ((first | refine Ok.label ?_ | refine rd rfl (by assumption) ?_ | refine ⟨_, .inl ⟨rfl, rfl⟩, ?_⟩ | refine ⟨_, _, rfl, rfl, ?_⟩); conv => whnf) | (refine ⟨fun _ => ?_, fun _ => ?_⟩ <;> (conv => whnf) <;> (try (exfalso; omega))) | ((first | refine aJ ?_ | refine num_any ?_ | refine ⟨_, rfl, ?_⟩); conv => whnf) | (exact True.intro) | (refine And.intro ?_ ?_ <;> (conv => whnf)) | fail)
    refine Or.inl ?_; (conv => whnf)
    exact ⟨rfl, _, rfl, PSp.nil 0⟩
  by_cases hb : b < 1 ∨ 256 < b
  · rw [parO_arg hlong hb]
    (try (conv => whnf)); repeat' (first | refine Ok.seq ?_ | refine OkL.cons ?_ | ((first | refine Ok.region tok ?_ | refine Ok.region_tree (id := 31) tok follows [(2, 6, []), (5, 6, []), (2, 11, []), (5, 11, []), (6, 11, []), (10, 11, [])] (.q 0 (.q 1 (.q 2 (.q 3 (.q 4 (.alt 5 (.alt 6 (.q 7 (.q 8 (.q 9 (.l 10 (.l 11 (.q 12 .nil)))))) (.alt 10 (.l 6 (.q 7 (.q 8 (.q 9 (.l 11 (.q 12 .nil)))))) .nil)) (.alt 10 (.l 5 (.l 6 (.q 7 (.q 8 (.q 9 (.l 11 (.q 12 .nil))))))) .nil))))))) (by kernel_rfl) ?_ | refine Ok.region_draw tok follows (by kernel_rfl) ?_ | refine Ok.cond ?_); conv => whnf) | refine Ok.block ?_ | ((first | refine Ok.skip ?_ | refine Ok.exit ?_ | refine Ok.ret ?_ | refine nI ?_ | refine ix _ (by assumption) ?_ | refine ixI (by omega) (by assumption) ?_ | refine ix_new _ (by omega) fun _ _ => ?_ | refine ixI_new (by omega) (by omega) fun _ _ => ?_ | refine ⟨_, by assumption, ?_⟩ | refine Alt2.l (aI ?_) | refine Alt2.r (aI ?_)); conv => whnf) | (refine Ok.scope ?_) | ((first | refine Ok.label ?_ | refine rd rfl (by assumption) ?_ | refine ⟨_, .inl ⟨rfl, rfl⟩, ?_⟩ | refine ⟨_, _, rfl, rfl, ?_⟩); conv => whnf) | (refine ⟨fun _ => ?_, fun _ => ?_⟩ <;> (conv => whnf) <;> (try (exfalso; omega))) | ((first | refine aJ ?_ | refine num_any ?_ | refine ⟨_, rfl, ?_⟩); conv => whnf) | (exact True.intro) | (refine And.intro ?_ ?_ <;> (conv => whnf)) | fail)
    all_goals
      refine Or.inl ?_; (conv => whnf)
      exact ⟨rfl, _, rfl, PSp.nil 0⟩
  have hnb : noneB b = b := by unfold noneB; rw [if_neg hb]
  have hnone := none_at b
  rw [hnb] at hnone
  by_cases hnn : s = [110, 111, 110, 101]
  · rw [parO_none hlong hb hnn]
    (try (conv => whnf)); repeat' (first | refine Ok.seq ?_ | refine OkL.cons ?_ | ((first | refine Ok.region tok ?_ | refine Ok.region_tree (id := 31) tok follows [(2, 6, []), (5, 6, []), (2, 11, []), (5, 11, []), (6, 11, []), (10, 11, [])] (.q 0 (.q 1 (.q 2 (.q 3 (.q 4 (.alt 5 (.alt 6 (.q 7 (.q 8 (.q 9 (.l 10 (.l 11 (.q 12 .nil)))))) (.alt 10 (.l 6 (.q 7 (.q 8 (.q 9 (.l 11 (.q 12 .nil)))))) .nil)) (.alt 10 (.l 5 (.l 6 (.q 7 (.q 8 (.q 9 (.l 11 (.q 12 .nil))))))) .nil))))))) (by kernel_rfl) ?_ | refine Ok.region_draw tok follows (by kernel_rfl) ?_ | refine Ok.cond ?_); conv => whnf) | refine Ok.block ?_ | ((first | refine Ok.skip ?_ | refine Ok.exit ?_ | refine Ok.ret ?_ | refine nI ?_ | refine ix _ (by assumption) ?_ | refine ixI (by omega) (by assumption) ?_ | refine ix_new _ (by omega) fun _ _ => ?_ | refine ixI_new (by omega) (by omega) fun _ _ => ?_ | refine ⟨_, by assumption, ?_⟩); conv => whnf) | (refine Or.inr (Or.inl ?_); (conv => whnf); (repeat (refine aI ?_; conv => whnf)); refine ⟨_, hnone, ?_⟩; rintro _ _ ⟨rfl, rfl⟩ <;> (conv => whnf)) | ((first | refine Alt2.l (aI ?_) | refine Alt2.r (aI ?_)); conv => whnf) | (refine Ok.scope ?_) | ((first | refine Ok.label ?_ | refine rd rfl (by assumption) ?_ | refine ⟨_, .inl ⟨rfl, rfl⟩, ?_⟩ | refine ⟨_, _, rfl, rfl, ?_⟩); conv => whnf) | (refine ⟨fun _ => ?_, fun _ => ?_⟩ <;> (conv => whnf) <;> (try (exfalso; omega))) | ((first | refine aJ ?_ | refine num_any ?_ | refine ⟨_, rfl, ?_⟩); conv => whnf) | (exact True.intro) | (refine And.intro ?_ ?_ <;> (conv => whnf)) | fail)
    · refine Or.inl ?_; (conv => whnf)
      exact ⟨rfl, _, rfl, PSp.nil b⟩
    · exact absurd hnn (by assumption)
  have hLn := cutL_len 43 s
  have hLl : ((cutL 43 s).map srow).length = (cutL 43 s).length := by simp
  have hLm : ∀ x ∈ cutL 43 s, x.length ≤ s.length := fun x hx => cutL_mem 43 hx
  have hcl : ∀ i, cntP ((pieces s).take i) ≤ (pieces s).length * (s.length + 1) := cntP_le fun m hm => (pieces_mem hm).2.1
  have hpl := pieces_len s
  have hmul : (pieces s).length * (s.length + 1) ≤ 33025 * 33025 := Nat.mul_le_mul (by omega) (by omega)
  (try (conv => whnf)); repeat' (first | refine Ok.seq ?_ | refine OkL.cons ?_ | ((first | refine Ok.region tok ?_ | refine Ok.region_tree (id := 31) tok follows [(2, 6, []), (5, 6, []), (2, 11, []), (5, 11, []), (6, 11, []), (10, 11, [])] (.q 0 (.q 1 (.q 2 (.q 3 (.q 4 (.alt 5 (.alt 6 (.q 7 (.q 8 (.q 9 (.l 10 (.l 11 (.q 12 .nil)))))) (.alt 10 (.l 6 (.q 7 (.q 8 (.q 9 (.l 11 (.q 12 .nil)))))) .nil)) (.alt 10 (.l 5 (.l 6 (.q 7 (.q 8 (.q 9 (.l 11 (.q 12 .nil))))))) .nil))))))) (by kernel_rfl) ?_ | refine Ok.region_draw tok follows (by kernel_rfl) ?_ | refine Ok.cond ?_); conv => whnf) | refine Ok.block ?_ | ((first | refine Ok.skip ?_ | refine Ok.exit ?_ | refine Ok.ret ?_ | refine nI ?_ | refine ix _ (by assumption) ?_ | refine ixI (by omega) (by assumption) ?_ | refine ix_new _ (by omega) fun _ _ => ?_ | refine ixI_new (by omega) (by omega) fun _ _ => ?_ | refine ⟨_, by assumption, ?_⟩); conv => whnf) | (refine Or.inr (Or.inl ?_); (conv => whnf); (repeat (refine aI ?_; conv => whnf)); refine ⟨_, hnone, ?_⟩; rintro _ _ ⟨rfl, rfl⟩ <;> (conv => whnf)) | ((first | refine Alt2.l (aI ?_) | refine Alt2.r (aI ?_)); conv => whnf) | (refine Ok.scope ?_) | ((first | refine Ok.label ?_ | refine rd rfl (by assumption) ?_ | refine ⟨_, .inl ⟨rfl, rfl⟩, ?_⟩ | refine ⟨_, _, rfl, rfl, ?_⟩); conv => whnf) | (refine ⟨fun _ => ?_, fun _ => ?_⟩ <;> (conv => whnf) <;> (try (exfalso; omega))) | ((first | refine aJ ?_ | refine num_any ?_ | refine ⟨_, rfl, ?_⟩); conv => whnf) | (exact True.intro) | (refine And.intro ?_ ?_ <;> (conv => whnf)) | fail)
  · exact absurd (by assumption) hnn
  refine OkL.nil ?_
  (conv => whnf)
  refine ⟨0, 1, rfl, rfl, by decide, by decide, by decide, rfl, ?_⟩
  have hsp : ∀ t : Str, ∀ c : UInt8, t.length ≤ s.length → FSpec Tryd.prog T 43 [.s t, .s [c]] fun d rows => d = .own 0 (cutL c t).length ∧ rows = [some (9, (cutL c t).map srow)] := fun t c h => splitAt t c (by omega)
  (try (conv => whnf)); repeat' (first | refine Ok.seq ?_ | refine OkL.cons ?_ | ((first | refine Ok.region tok ?_ | refine Ok.region_tree (id := 31) tok follows [(2, 6, []), (5, 6, []), (2, 11, []), (5, 11, []), (6, 11, []), (10, 11, [])] (.q 0 (.q 1 (.q 2 (.q 3 (.q 4 (.alt 5 (.alt 6 (.q 7 (.q 8 (.q 9 (.l 10 (.l 11 (.q 12 .nil)))))) (.alt 10 (.l 6 (.q 7 (.q 8 (.q 9 (.l 11 (.q 12 .nil)))))) .nil)) (.alt 10 (.l 5 (.l 6 (.q 7 (.q 8 (.q 9 (.l 11 (.q 12 .nil))))))) .nil))))))) (by kernel_rfl) ?_ | refine Ok.region_draw tok follows (by kernel_rfl) ?_ | refine Ok.cond ?_); conv => whnf) | refine Ok.block ?_ | ((first | refine Ok.skip ?_ | refine Ok.exit ?_ | refine Ok.ret ?_ | refine nI ?_ | refine ix _ (by assumption) ?_ | refine ixI (by omega) (by assumption) ?_ | refine ix_new _ (by omega) fun _ _ => ?_ | refine ixI_new (by omega) (by omega) fun _ _ => ?_ | refine ⟨_, by assumption, ?_⟩); conv => whnf) | (refine Or.inl ?_; (conv => whnf); (repeat (refine aI ?_; conv => whnf)); refine ⟨_, hsp s 43 (Nat.le_refl _), rfl, ?_⟩; conv => whnf) | (refine ⟨_, hsp s 43 (Nat.le_refl _), rfl, ?_⟩; conv => whnf) | (refine Or.inr (Or.inl ?_); (conv => whnf); (repeat (refine aI ?_; conv => whnf)); refine ⟨_, hsp s 43 (Nat.le_refl _), ?_⟩; rintro _ _ ⟨rfl, rfl⟩; conv => whnf) | ((first | refine Alt2.l (aI ?_) | refine Alt2.r (aI ?_)); conv => whnf) | (refine Ok.scope ?_) | ((first | refine Ok.label ?_ | refine rd rfl (by assumption) ?_ | refine ⟨_, .inl ⟨rfl, rfl⟩, ?_⟩ | refine ⟨_, _, rfl, rfl, ?_⟩); conv => whnf) | (refine ⟨fun _ => ?_, fun _ => ?_⟩ <;> (conv => whnf) <;> (try (exfalso; omega))) | ((first | refine aJ ?_ | refine num_any ?_ | refine ⟨_, rfl, ?_⟩); conv => whnf) | (exact True.intro) | (refine And.intro ?_ ?_ <;> (conv => whnf)) | fail)
  refine Ok.ghost 6 52 rfl ?_
  (conv => whnf)
  refine Ok.loopU [0, 4, 5, 37, 38] [6, 7, 39] 2 2 (fun (x : Nat × List LR) => [.own 1 x.2.length, .i .i64 (cntP ((pieces s).take x.1) : Nat), .i .i64 (x.1 : Nat)]) (fun _ b => b) (fun (x : Nat × List LR) (_ : Vx.Rows) => [some (9, (cutL 43 s).map srow), some (52, x.2.map lrow)]) (fun (x : Nat × List LR) => x.1 ≤ (cutL 43 s).length ∧ x.2.map LR.l = (pieces s).take x.1 ∧ OkP b ((pieces s).take x.1)) (fun (x : Nat × List LR) => (cutL 43 s).length - x.1) ((0, [])) (⟨Nat.zero_le _, by simp, by simp [OkP]⟩) ?_; (conv => whnf); refine ⟨by ((conv => whnf); first | rfl | (simp [envCat, List.take_of_length_le, crow, trow]; done) | (simp [envCat, List.take_of_length_le, crow, trow]; rw [IntKind.wrap_i64]; omega)), ?_⟩
  rintro ⟨i, lss⟩ ⟨hi, hls, hok⟩
  dsimp only at hi hls hok ⊢
  have hlsl : (lss.map lrow).length = lss.length := by simp
  have hlsn : lss.length ≤ 40000 := by
    have := congrArg List.length hls
    simp at this
    omega
  have hci := hcl i
  (conv => whnf)
  by_cases hil : i < (cutL 43 s).length
  · obtain ⟨x, hx⟩ : ∃ x, (cutL 43 s)[i]? = some x := ⟨_, List.getElem?_eq_getElem hil⟩
    have hpx := pieces_get hx
    have hxl := hLm x (List.mem_of_getElem? hx)
    have hnx := cntP_take hpx
    have hml := cutL_len 45 x
    have hmm : ((cutL 45 x).map srow).length = (cutL 45 x).length := by simp
    have hokx := okP_take (b := b) hpx hok
    have hwl : ∀ w ∈ cutL 45 x, w.length ≤ x.length := fun w hw => cutL_mem 45 hw
    have hbad : ∀ w ∈ cutL 45 x, ¬ OkW b w → ¬ OkP b (pieces s) := fun w hw h q => h (q _ (List.mem_of_getElem? hpx) w hw)
    have hsx := hsp x 45 hxl
    generalize cntP ((pieces s).take i) = K at *
    generalize hM : cutL 45 x = M at *
    (try (conv => whnf)); repeat' (first | refine Ok.seq ?_ | refine OkL.cons ?_ | ((first | refine Ok.region tok ?_ | refine Ok.region_tree (id := 31) tok follows [(2, 6, []), (5, 6, []), (2, 11, []), (5, 11, []), (6, 11, []), (10, 11, [])] (.q 0 (.q 1 (.q 2 (.q 3 (.q 4 (.alt 5 (.alt 6 (.q 7 (.q 8 (.q 9 (.l 10 (.l 11 (.q 12 .nil)))))) (.alt 10 (.l 6 (.q 7 (.q 8 (.q 9 (.l 11 (.q 12 .nil)))))) .nil)) (.alt 10 (.l 5 (.l 6 (.q 7 (.q 8 (.q 9 (.l 11 (.q 12 .nil))))))) .nil))))))) (by kernel_rfl) ?_ | refine Ok.region_draw tok follows (by kernel_rfl) ?_ | refine Ok.cond ?_); conv => whnf) | refine Ok.block ?_ | ((first | refine Ok.skip ?_ | refine Ok.exit ?_ | refine Ok.ret ?_ | refine nI ?_ | refine ix _ (by assumption) ?_ | refine ixI (by omega) (by assumption) ?_ | refine ix_new _ (by omega) fun _ _ => ?_ | refine ixI_new (by omega) (by omega) fun _ _ => ?_ | refine ⟨_, by assumption, ?_⟩); conv => whnf) | (refine Or.inl ?_; (conv => whnf); (repeat (refine aI ?_; conv => whnf)); refine ⟨_, hsx, rfl, ?_⟩; conv => whnf) | (refine ⟨_, hsx, rfl, ?_⟩; conv => whnf) | (refine Or.inr (Or.inl ?_); (conv => whnf); (repeat (refine aI ?_; conv => whnf)); refine ⟨_, hsx, ?_⟩; rintro _ _ ⟨rfl, rfl⟩; conv => whnf) | ((first | refine Alt2.l (aI ?_) | refine Alt2.r (aI ?_)); conv => whnf) | (refine Ok.scope ?_) | ((first | refine Ok.label ?_ | refine rd rfl (by assumption) ?_ | refine ⟨_, .inl ⟨rfl, rfl⟩, ?_⟩ | refine ⟨_, _, rfl, rfl, ?_⟩); conv => whnf) | (refine ⟨fun _ => ?_, fun _ => ?_⟩ <;> (conv => whnf) <;> (try (exfalso; omega))) | ((first | refine aJ ?_ | refine num_any ?_ | refine ⟨_, rfl, ?_⟩); conv => whnf) | (exact True.intro) | (refine And.intro ?_ ?_ <;> (conv => whnf)) | fail)
    refine Ok.ghost 10 69 rfl ?_
    (conv => whnf)
    refine Ok.loopU [0, 4, 5, 6, 7, 37, 38, 39, 44, 45] [10, 46] 4 2 (fun (j : Nat) => [.own 3 j, .i .i64 (j : Nat)]) (fun _ b => b) (fun (j : Nat) (_ : Vx.Rows) => [some (9, (cutL 43 s).map srow), some (52, lss.map lrow), some (9, M.map srow), some (69, (M.take j).map crow)]) (fun (j : Nat) => j ≤ M.length ∧ ∀ w ∈ M.take j, OkW b w) (fun (j : Nat) => M.length - j) (0) (⟨Nat.zero_le _, by simp⟩) ?_; (conv => whnf); refine ⟨by ((conv => whnf); first | rfl | (simp [envCat, List.take_of_length_le, crow, trow]; done) | (simp [envCat, List.take_of_length_le, crow, trow]; rw [IntKind.wrap_i64]; omega)), ?_⟩
    rintro j ⟨hj, hw⟩
    have hjm : ((M.take j).map crow).length = j := by simp; omega
    (conv => whnf)
    by_cases hjl : j < M.length
    · obtain ⟨y, hy⟩ : ∃ y, M[j]? = some y := ⟨_, List.getElem?_eq_getElem hjl⟩
      have hyI : M[((j : Nat) : Int).toNat]? = some y := hy
      have hym := List.mem_of_getElem? hy
      have hyl := hwl y hym
      have hpy := parse_at y
      by_cases hgood : OkW b y
      · have hg1 := hgood.1
        rw [zer_of hgood.2, perr_of hgood.2] at hpy
        (try (conv => whnf)); repeat' (first | refine Ok.seq ?_ | refine OkL.cons ?_ | ((first | refine Ok.region tok ?_ | refine Ok.region_tree (id := 31) tok follows [(2, 6, []), (5, 6, []), (2, 11, []), (5, 11, []), (6, 11, []), (10, 11, [])] (.q 0 (.q 1 (.q 2 (.q 3 (.q 4 (.alt 5 (.alt 6 (.q 7 (.q 8 (.q 9 (.l 10 (.l 11 (.q 12 .nil)))))) (.alt 10 (.l 6 (.q 7 (.q 8 (.q 9 (.l 11 (.q 12 .nil)))))) .nil)) (.alt 10 (.l 5 (.l 6 (.q 7 (.q 8 (.q 9 (.l 11 (.q 12 .nil))))))) .nil))))))) (by kernel_rfl) ?_ | refine Ok.region_draw tok follows (by kernel_rfl) ?_ | refine Ok.cond ?_); conv => whnf) | refine Ok.block ?_ | ((first | refine Ok.skip ?_ | refine Ok.exit ?_ | refine Ok.ret ?_ | refine nI ?_ | refine ix _ (by assumption) ?_ | refine ixI (by omega) (by assumption) ?_ | refine ix_new _ (by omega) fun _ _ => ?_ | refine ixI_new (by omega) (by omega) fun _ _ => ?_ | refine ⟨_, by assumption, ?_⟩); conv => whnf) | (refine Or.inr (Or.inl ?_); (conv => whnf); (repeat (refine aI ?_; conv => whnf)); refine ⟨_, hpy, ?_⟩; rintro _ _ ⟨rfl, rfl⟩ <;> (conv => whnf)) | ((first | refine Alt2.l (aI ?_) | refine Alt2.r (aI ?_)); conv => whnf) | (refine Ok.scope ?_) | ((first | refine Ok.label ?_ | refine rd rfl (by assumption) ?_ | refine ⟨_, .inl ⟨rfl, rfl⟩, ?_⟩ | refine ⟨_, _, rfl, rfl, ?_⟩); conv => whnf) | (refine ⟨fun _ => ?_, fun _ => ?_⟩ <;> (conv => whnf) <;> (try (exfalso; omega))) | ((first | refine aJ ?_ | refine num_any ?_ | refine ⟨_, rfl, ?_⟩); conv => whnf) | (exact True.intro) | (refine And.intro ?_ ?_ <;> (conv => whnf)) | fail)
        refine ⟨j + 1, by omega, ⟨by omega, fun w hw2 => ?_⟩, ?_⟩
        · rw [take_snoc hy] at hw2
          rcases List.mem_append.1 hw2 with h | h
          · exact hw w h
          · simp at h; rw [h]; exact hgood
        · rw [take_snoc hy]
          (conv => whnf)
          simp [envCat]
          omega
      · have hno := hbad y hym hgood
        by_cases hoc : okC y
        · have hne : (y.length : Int) ≠ b := fun e => hgood ⟨e, hoc⟩
          rw [perr_of hoc] at hpy
          (try (conv => whnf)); repeat' (first | refine Ok.seq ?_ | refine OkL.cons ?_ | ((first | refine Ok.region tok ?_ | refine Ok.region_tree (id := 31) tok follows [(2, 6, []), (5, 6, []), (2, 11, []), (5, 11, []), (6, 11, []), (10, 11, [])] (.q 0 (.q 1 (.q 2 (.q 3 (.q 4 (.alt 5 (.alt 6 (.q 7 (.q 8 (.q 9 (.l 10 (.l 11 (.q 12 .nil)))))) (.alt 10 (.l 6 (.q 7 (.q 8 (.q 9 (.l 11 (.q 12 .nil)))))) .nil)) (.alt 10 (.l 5 (.l 6 (.q 7 (.q 8 (.q 9 (.l 11 (.q 12 .nil))))))) .nil))))))) (by kernel_rfl) ?_ | refine Ok.region_draw tok follows (by kernel_rfl) ?_ | refine Ok.cond ?_); conv => whnf) | refine Ok.block ?_ | ((first | refine Ok.skip ?_ | refine Ok.exit ?_ | refine Ok.ret ?_ | refine nI ?_ | refine ix _ (by assumption) ?_ | refine ixI (by omega) (by assumption) ?_ | refine ix_new _ (by omega) fun _ _ => ?_ | refine ixI_new (by omega) (by omega) fun _ _ => ?_ | refine ⟨_, by assumption, ?_⟩); conv => whnf) | (refine Or.inr (Or.inl ?_); (conv => whnf); (repeat (refine aI ?_; conv => whnf)); refine ⟨_, hpy, ?_⟩; rintro _ _ ⟨rfl, rfl⟩ <;> (conv => whnf)) | ((first | refine Alt2.l (aI ?_) | refine Alt2.r (aI ?_)); conv => whnf) | (refine Ok.scope ?_) | ((first | refine Ok.label ?_ | refine rd rfl (by assumption) ?_ | refine ⟨_, .inl ⟨rfl, rfl⟩, ?_⟩ | refine ⟨_, _, rfl, rfl, ?_⟩); conv => whnf) | (refine ⟨fun _ => ?_, fun _ => ?_⟩ <;> (conv => whnf) <;> (try (exfalso; omega))) | ((first | refine aJ ?_ | refine num_any ?_ | refine ⟨_, rfl, ?_⟩); conv => whnf) | (exact True.intro) | (refine And.intro ?_ ?_ <;> (conv => whnf)) | fail)
          all_goals first
            | (rw [parO_word hlong hb hnn hno]
               refine Or.inl ?_; (conv => whnf)
               exact ⟨rfl, _, rfl, PSp.nil 0⟩)
            | (exfalso; omega)
        · have hpe := perr_not hoc
          generalize perr y = E at *
          (try (conv => whnf)); repeat' (first | refine Ok.seq ?_ | refine OkL.cons ?_ | ((first | refine Ok.region tok ?_ | refine Ok.region_tree (id := 31) tok follows [(2, 6, []), (5, 6, []), (2, 11, []), (5, 11, []), (6, 11, []), (10, 11, [])] (.q 0 (.q 1 (.q 2 (.q 3 (.q 4 (.alt 5 (.alt 6 (.q 7 (.q 8 (.q 9 (.l 10 (.l 11 (.q 12 .nil)))))) (.alt 10 (.l 6 (.q 7 (.q 8 (.q 9 (.l 11 (.q 12 .nil)))))) .nil)) (.alt 10 (.l 5 (.l 6 (.q 7 (.q 8 (.q 9 (.l 11 (.q 12 .nil))))))) .nil))))))) (by kernel_rfl) ?_ | refine Ok.region_draw tok follows (by kernel_rfl) ?_ | refine Ok.cond ?_); conv => whnf) | refine Ok.block ?_ | ((first | refine Ok.skip ?_ | refine Ok.exit ?_ | refine Ok.ret ?_ | refine nI ?_ | refine ix _ (by assumption) ?_ | refine ixI (by omega) (by assumption) ?_ | refine ix_new _ (by omega) fun _ _ => ?_ | refine ixI_new (by omega) (by omega) fun _ _ => ?_ | refine ⟨_, by assumption, ?_⟩); conv => whnf) | (refine Or.inr (Or.inl ?_); (conv => whnf); (repeat (refine aI ?_; conv => whnf)); refine ⟨_, hpy, ?_⟩; rintro _ _ ⟨rfl, rfl⟩ <;> (conv => whnf)) | ((first | refine Alt2.l (aI ?_) | refine Alt2.r (aI ?_)); conv => whnf) | (refine Ok.scope ?_) | ((first | refine Ok.label ?_ | refine rd rfl (by assumption) ?_ | refine ⟨_, .inl ⟨rfl, rfl⟩, ?_⟩ | refine ⟨_, _, rfl, rfl, ?_⟩); conv => whnf) | (refine ⟨fun _ => ?_, fun _ => ?_⟩ <;> (conv => whnf) <;> (try (exfalso; omega))) | ((first | refine aJ ?_ | refine num_any ?_ | refine ⟨_, rfl, ?_⟩); conv => whnf) | (exact True.intro) | (refine And.intro ?_ ?_ <;> (conv => whnf)) | fail)
          all_goals first
            | (rw [parO_word hlong hb hnn hno]
               refine Or.inl ?_; (conv => whnf)
               exact ⟨rfl, _, rfl, PSp.nil 0⟩)
            | (exfalso; omega)
    · have hje : j = M.length := by omega
      subst hje
      rw [List.take_length] at hw hjm ⊢
      have hok2 := hokx hw
      refine Ok.pub 3 ?_
      (conv => whnf)
      (try (conv => whnf)); repeat' (first | refine Ok.seq ?_ | refine OkL.cons ?_ | ((first | refine Ok.region tok ?_ | refine Ok.region_tree (id := 31) tok follows [(2, 6, []), (5, 6, []), (2, 11, []), (5, 11, []), (6, 11, []), (10, 11, [])] (.q 0 (.q 1 (.q 2 (.q 3 (.q 4 (.alt 5 (.alt 6 (.q 7 (.q 8 (.q 9 (.l 10 (.l 11 (.q 12 .nil)))))) (.alt 10 (.l 6 (.q 7 (.q 8 (.q 9 (.l 11 (.q 12 .nil)))))) .nil)) (.alt 10 (.l 5 (.l 6 (.q 7 (.q 8 (.q 9 (.l 11 (.q 12 .nil))))))) .nil))))))) (by kernel_rfl) ?_ | refine Ok.region_draw tok follows (by kernel_rfl) ?_ | refine Ok.cond ?_); conv => whnf) | refine Ok.block ?_ | ((first | refine Ok.skip ?_ | refine Ok.exit ?_ | refine Ok.ret ?_ | refine nI ?_ | refine ix _ (by assumption) ?_ | refine ixI (by omega) (by assumption) ?_ | refine ix_new _ (by omega) fun _ _ => ?_ | refine ixI_new (by omega) (by omega) fun _ _ => ?_ | refine ⟨_, by assumption, ?_⟩ | refine Alt2.l (aI ?_) | refine Alt2.r (aI ?_)); conv => whnf) | (refine Ok.scope ?_) | ((first | refine Ok.label ?_ | refine rd rfl (by assumption) ?_ | refine ⟨_, .inl ⟨rfl, rfl⟩, ?_⟩ | refine ⟨_, _, rfl, rfl, ?_⟩); conv => whnf) | (refine ⟨fun _ => ?_, fun _ => ?_⟩ <;> (conv => whnf) <;> (try (exfalso; omega))) | ((first | refine aJ ?_ | refine num_any ?_ | refine ⟨_, rfl, ?_⟩); conv => whnf) | (exact True.intro) | (refine And.intro ?_ ?_ <;> (conv => whnf)) | fail)
      refine ⟨(i + 1, lss ++ [⟨M, List.drop M.length (M.map crow)⟩]), by dsimp only; omega, ⟨by dsimp only; omega, ?_, hok2⟩, ?_⟩
      · dsimp only
        rw [List.map_append, hls, take_snoc hpx]
        rfl
      · dsimp only
        rw [hnx]
        (conv => whnf)
        simp [envCat, List.take_of_length_le]
        rw [IntKind.wrap_i64] <;> omega
  · have hie : i = (cutL 43 s).length := by omega
    subst hie
    rw [pieces_all] at hok hci hls
    rw [pieces_all]
    have hgood := trms_good (n := b) (fun m hm => (pieces_mem hm).1) hok
    have hne : ∀ m ∈ pieces s, m ≠ [] := fun m hm => (pieces_mem hm).1
    have hlsL : lss.length = (cutL 43 s).length := by
      have := congrArg List.length hls
      simp [pieces] at this
      exact this
    by_cases hmany : 128 < cntP (pieces s)
    · rw [parO_many hlong hb hnn hok hmany]
      (try (conv => whnf)); repeat' (first | refine Ok.seq ?_ | refine OkL.cons ?_ | ((first | refine Ok.region tok ?_ | refine Ok.region_tree (id := 31) tok follows [(2, 6, []), (5, 6, []), (2, 11, []), (5, 11, []), (6, 11, []), (10, 11, [])] (.q 0 (.q 1 (.q 2 (.q 3 (.q 4 (.alt 5 (.alt 6 (.q 7 (.q 8 (.q 9 (.l 10 (.l 11 (.q 12 .nil)))))) (.alt 10 (.l 6 (.q 7 (.q 8 (.q 9 (.l 11 (.q 12 .nil)))))) .nil)) (.alt 10 (.l 5 (.l 6 (.q 7 (.q 8 (.q 9 (.l 11 (.q 12 .nil))))))) .nil))))))) (by kernel_rfl) ?_ | refine Ok.region_draw tok follows (by kernel_rfl) ?_ | refine Ok.cond ?_); conv => whnf) | refine Ok.block ?_ | ((first | refine Ok.skip ?_ | refine Ok.exit ?_ | refine Ok.ret ?_ | refine nI ?_ | refine ix _ (by assumption) ?_ | refine ixI (by omega) (by assumption) ?_ | refine ix_new _ (by omega) fun _ _ => ?_ | refine ixI_new (by omega) (by omega) fun _ _ => ?_ | refine ⟨_, by assumption, ?_⟩ | refine Alt2.l (aI ?_) | refine Alt2.r (aI ?_)); conv => whnf) | (refine Ok.scope ?_) | ((first | refine Ok.label ?_ | refine rd rfl (by assumption) ?_ | refine ⟨_, .inl ⟨rfl, rfl⟩, ?_⟩ | refine ⟨_, _, rfl, rfl, ?_⟩); conv => whnf) | (refine ⟨fun _ => ?_, fun _ => ?_⟩ <;> (conv => whnf) <;> (try (exfalso; omega))) | ((first | refine aJ ?_ | refine num_any ?_ | refine ⟨_, rfl, ?_⟩); conv => whnf) | (exact True.intro) | (refine And.intro ?_ ?_ <;> (conv => whnf)) | fail)
      · refine Or.inl ?_; (conv => whnf)
        exact ⟨rfl, _, rfl, PSp.nil 0⟩
      all_goals exact absurd hmany (by omega)
    · rw [parO_form hlong hb hnn hok hmany]
      have hsz := szT_trms hne
      (try (conv => whnf)); repeat' (first | refine Ok.seq ?_ | refine OkL.cons ?_ | ((first | refine Ok.region tok ?_ | refine Ok.cond ?_); conv => whnf) | refine Ok.block ?_ | ((first | refine Ok.skip ?_ | refine Ok.exit ?_ | refine Ok.ret ?_ | refine nI ?_ | refine ix _ (by assumption) ?_ | refine ixI (by omega) (by assumption) ?_ | refine ix_new _ (by omega) fun _ _ => ?_ | refine ixI_new (by omega) (by omega) fun _ _ => ?_ | refine ⟨_, by assumption, ?_⟩ | refine Alt2.l (aI ?_) | refine Alt2.r (aI ?_)); conv => whnf) | (refine Ok.scope ?_) | ((first | refine Ok.label ?_ | refine rd rfl (by assumption) ?_ | refine ⟨_, .inl ⟨rfl, rfl⟩, ?_⟩ | refine ⟨_, _, rfl, rfl, ?_⟩); conv => whnf) | (refine ⟨fun _ => ?_, fun _ => ?_⟩ <;> (conv => whnf) <;> (try (exfalso; omega))) | ((first | refine aJ ?_ | refine num_any ?_ | refine ⟨_, rfl, ?_⟩); conv => whnf) | fail)
      refine Ok.ghost 15 81 rfl ?_
      (conv => whnf)
      refine Ok.loopU [0, 4, 5, 81, 82] [15, 83] 3 2 (fun (x : Nat × List TR) => [.own 2 x.2.length, .i .i64 (x.1 : Nat)]) (fun _ b => b) (fun (x : Nat × List TR) (_ : Vx.Rows) => [some (9, (cutL 43 s).map srow), some (52, lss.map lrow), some (81, x.2.map trow)]) (fun (x : Nat × List TR) => x.1 ≤ (cutL 43 s).length ∧ x.2.map TR.t = trms ((pieces s).take x.1) ∧ x.2.length ≤ x.1) (fun (x : Nat × List TR) => (cutL 43 s).length - x.1) ((0, [])) (⟨Nat.zero_le _, by simp [trms], by simp⟩) ?_; (conv => whnf); refine ⟨by ((conv => whnf); first | rfl | (simp [envCat, List.take_of_length_le, crow, trow]; done) | (simp [envCat, List.take_of_length_le, crow, trow]; rw [IntKind.wrap_i64]; omega)), ?_⟩
      rintro ⟨i, l⟩ ⟨hi, hl, hll⟩
      dsimp only at hi hl hll ⊢
      have hlm : (l.map trow).length = l.length := by simp
      (conv => whnf)
      by_cases hil : i < (cutL 43 s).length
      · obtain ⟨x, hx⟩ : ∃ x, (cutL 43 s)[i]? = some x := ⟨_, List.getElem?_eq_getElem hil⟩
        have hpx := pieces_get hx
        have hxl := hLm x (List.mem_of_getElem? hx)
        have hml := cutL_len 45 x
        have hoks := hok _ (List.mem_of_getElem? hpx)
        obtain ⟨p, less, hm⟩ : ∃ p less, cutL 45 x = p :: less := by
          cases h : cutL 45 x with
          | nil => exact absurd h (cutL_ne _ _)
          | cons a l => exact ⟨a, l, rfl⟩
        rw [hm] at hpx hml hoks
        simp at hml
        obtain ⟨rm1, hlx⟩ := lrows hls hpx
        have hp := hoks p (by simp)
        have hlo : ∀ m ∈ less, CT m := fun m h => (hoks m (by simp [h])).2.1
        have hlm2 : (less.map crow).length = less.length := by simp
        have hsl : ∀ rm : List (List D), List.drop 1 (List.take (List.map crow (p :: less)).length (List.map crow (p :: less) ++ rm)) = less.map crow := fun rm => by
          rw [List.take_left' rfl]
          rfl
        have hnew : ∀ rl room, rl = List.map lrow [⟨less, List.drop (List.map crow (p :: less)).length (List.map crow (p :: less) ++ rm1)⟩] → FSpec Tryd.prog T 45 [.agg (crow p), .lst 52 rl room] (NewT p less) := fun rl room h => by
          have := newTerm_at p [⟨less, List.drop (List.map crow (p :: less)).length (List.map crow (p :: less) ++ rm1)⟩] (room := room) ⟨hp.2.1, hp.2.2⟩ (by simpa using hlo) (by simp [allL]; omega) (by simp) h
          rwa [show allL [⟨less, List.drop (List.map crow (p :: less)).length (List.map crow (p :: less) ++ rm1)⟩] = less by simp [allL]] at this
        (try (conv => whnf)); repeat' (first | refine Ok.seq ?_ | refine OkL.cons ?_ | ((first | refine Ok.region tok ?_ | refine Ok.region_tree (id := 31) tok follows [(2, 6, []), (5, 6, []), (2, 11, []), (5, 11, []), (6, 11, []), (10, 11, [])] (.q 0 (.q 1 (.q 2 (.q 3 (.q 4 (.alt 5 (.alt 6 (.q 7 (.q 8 (.q 9 (.l 10 (.l 11 (.q 12 .nil)))))) (.alt 10 (.l 6 (.q 7 (.q 8 (.q 9 (.l 11 (.q 12 .nil)))))) .nil)) (.alt 10 (.l 5 (.l 6 (.q 7 (.q 8 (.q 9 (.l 11 (.q 12 .nil))))))) .nil))))))) (by kernel_rfl) ?_ | refine Ok.region_draw tok follows (by kernel_rfl) ?_ | refine Ok.cond ?_); conv => whnf) | refine Ok.block ?_ | ((first | refine Ok.skip ?_ | refine Ok.exit ?_ | refine Ok.ret ?_ | refine nI ?_ | refine ix _ (by assumption) ?_ | refine ixI (by omega) (by assumption) ?_ | refine ix_new _ (by omega) fun _ _ => ?_ | refine ixI_new (by omega) (by omega) fun _ _ => ?_ | refine ⟨_, by assumption, ?_⟩); conv => whnf) | (refine Or.inr (Or.inl ?_); (conv => whnf); (repeat (refine aI ?_; conv => whnf)); refine ⟨_, hnew _ _ (by simp only [hsl]; rfl) , ?_⟩; rintro _ _ ⟨rfl, (⟨ht, rfl⟩ | ⟨t, rm3, ht, rfl⟩)⟩ <;> (conv => whnf)) | ((first | refine Alt2.l (aI ?_) | refine Alt2.r (aI ?_)); conv => whnf) | (refine Ok.scope ?_) | ((first | refine Ok.label ?_ | refine rd rfl (by assumption) ?_ | refine ⟨_, .inl ⟨rfl, rfl⟩, ?_⟩ | refine ⟨_, _, rfl, rfl, ?_⟩); conv => whnf) | (refine ⟨fun _ => ?_, fun _ => ?_⟩ <;> (conv => whnf) <;> (try (exfalso; omega))) | ((first | refine aJ ?_ | refine num_any ?_ | refine ⟨_, rfl, ?_⟩); conv => whnf) | (exact True.intro) | (refine And.intro ?_ ?_ <;> (conv => whnf)) | fail)
        all_goals first
          | (rename_i h; exact absurd trivial h)
          | (refine ⟨(i + 1, l), by dsimp only; omega, ⟨by dsimp only; omega, by dsimp only; rw [trms_none hpx (show trm (p :: less) = none from ht)]; exact hl, by dsimp only; omega⟩, ?_⟩
             (conv => whnf)
             rfl)
          | (refine ⟨(i + 1, l ++ [⟨t, rm3⟩]), by dsimp only; omega, ⟨by dsimp only; omega, by dsimp only; rw [trms_some hpx (show trm (p :: less) = some t from ht), List.map_append, hl]; rfl, by simp; omega⟩, ?_⟩
             (conv => whnf)
             simp [envCat])
      · have hie : i = (cutL 43 s).length := by omega
        subst hie
        rw [pieces_all] at hl
        have hto : ∀ x ∈ l, TO b.toNat x := fun x hx => (hgood _ (mem_of_map hl hx)).to (by
          have := szT_mem (mem_of_map hl hx)
          omega)
        have hll2 : l.length ≤ 1048576 := by
          have := szT_len (trms (pieces s))
          rw [← hl, List.length_map] at this
          omega
        have hsz2 : szT (formT (l.map TR.t)) ≤ 128 := by
          rw [hl]
          have := szT_form (trms (pieces s))
          omega
        have htk : List.take l.length (l.map trow) = l.map trow := List.take_of_length_le (by simp)
        (try (conv => whnf)); repeat' (first | refine Ok.seq ?_ | refine OkL.cons ?_ | ((first | refine Ok.region tok ?_ | refine Ok.region_tree (id := 31) tok follows [(2, 6, []), (5, 6, []), (2, 11, []), (5, 11, []), (6, 11, []), (10, 11, [])] (.q 0 (.q 1 (.q 2 (.q 3 (.q 4 (.alt 5 (.alt 6 (.q 7 (.q 8 (.q 9 (.l 10 (.l 11 (.q 12 .nil)))))) (.alt 10 (.l 6 (.q 7 (.q 8 (.q 9 (.l 11 (.q 12 .nil)))))) .nil)) (.alt 10 (.l 5 (.l 6 (.q 7 (.q 8 (.q 9 (.l 11 (.q 12 .nil))))))) .nil))))))) (by kernel_rfl) ?_ | refine Ok.region_draw tok follows (by kernel_rfl) ?_ | refine Ok.cond ?_); conv => whnf) | refine Ok.block ?_ | ((first | refine Ok.skip ?_ | refine Ok.exit ?_ | refine Ok.ret ?_ | refine nI ?_ | refine ix _ (by assumption) ?_ | refine ixI (by omega) (by assumption) ?_ | refine ix_new _ (by omega) fun _ _ => ?_ | refine ixI_new (by omega) (by omega) fun _ _ => ?_ | refine ⟨_, by assumption, ?_⟩); conv => whnf) | (refine Or.inr (Or.inl ?_); (conv => whnf); (repeat (refine aI ?_; conv => whnf)); refine ⟨_, form_at b b.toNat l hll2 hto htk hsz2 , ?_⟩; rintro _ _ ⟨ks, rm4, rfl, rfl, hks, hkm⟩ <;> (conv => whnf)) | ((first | refine Alt2.l (aI ?_) | refine Alt2.r (aI ?_)); conv => whnf) | (refine Ok.scope ?_) | ((first | refine Ok.label ?_ | refine rd rfl (by assumption) ?_ | refine ⟨_, .inl ⟨rfl, rfl⟩, ?_⟩ | refine ⟨_, _, rfl, rfl, ?_⟩); conv => whnf) | (refine ⟨fun _ => ?_, fun _ => ?_⟩ <;> (conv => whnf) <;> (try (exfalso; omega))) | ((first | refine aJ ?_ | refine num_any ?_ | refine ⟨_, rfl, ?_⟩); conv => whnf) | (exact True.intro) | (refine And.intro ?_ ?_ <;> (conv => whnf)) | fail)
        refine Or.inl ?_; (conv => whnf)
        exact ⟨rfl, _, rfl, ks, rm4, rfl, by rw [hks, hl]⟩
end Go.Proofs.YtaiondckookpiaaDoor
namespace Go.Proofs.YtaiondckookpiaaDoor
open Go Go.Vx
theorem Fine.cast {n : Int} {ts : List Term} (h : Fine n ts) : ((n.toNat : Nat) : Int) = n := by have := h.n0; omega
theorem Fine.mlen {n : Int} {ts : List Term} (h : Fine n ts) {l : List TR} (e : l.map TR.t = ts) : l.length ≤ 1048576 := by
  have := h.len
  rw [← e, List.length_map] at this
  omega
theorem Fine.mless {n : Int} {ts : List Term} (h : Fine n ts) {l : List TR} (e : l.map TR.t = ts) : ∀ x ∈ l, x.t.less.length ≤ 1048576 := fun x hx => Nat.le_trans (h.less (mem_of_map e hx)) (by decide)
end Go.Proofs.YtaiondckookpiaaDoor
namespace Go.Proofs.YtaiondckookpiaaDoor
open Go Go.Vx
def bndO (n : Int) (l : List Term) : Int × Int × List Term := if szT l ≤ 128 then (0, n, l) else (3, 0, [])
def fitP (n m : Int) : Prop := n = m ∧ 0 < n
open Classical in
noncomputable def joinO (n m : Int) (ts us : List Term) : Int × Int × List Term := if fitP n m then bndO n (formT (ts ++ us)) else (11, 0, [])
theorem fits2_at (n m : Int) : FSpec Tryd.prog T 51 [.i .i64 n, .i .i64 m] (fun r _ => r = .b (fitP n m)) := by
  refine FSpec.of_ok tok Tryd.func51 rfl Tryd.call51 (by simp) ?_
  (try (conv => whnf)); repeat' (first | refine Ok.seq ?_ | refine OkL.cons ?_ | ((first | refine Ok.region tok ?_ | refine Ok.region_draw tok follows (by kernel_rfl) ?_ | refine Ok.cond ?_); conv => whnf) | refine Ok.block ?_ | ((first | refine Ok.skip ?_ | refine Ok.exit ?_ | refine Ok.ret ?_ | refine nI ?_ | refine ix _ (by assumption) ?_ | refine ixI (by omega) (by assumption) ?_ | refine ix_new _ (by omega) fun _ _ => ?_ | refine ixI_new (by omega) (by omega) fun _ _ => ?_ | refine ⟨_, by assumption, ?_⟩ | refine Alt2.l (aI ?_) | refine Alt2.r (aI ?_)); conv => whnf) | (refine Ok.scope ?_) | ((first | refine Ok.label ?_ | refine rd rfl (by assumption) ?_ | refine ⟨_, .inl ⟨rfl, rfl⟩, ?_⟩ | refine ⟨_, _, rfl, rfl, ?_⟩); conv => whnf) | (refine ⟨fun _ => ?_, fun _ => ?_⟩ <;> (conv => whnf) <;> (try (exfalso; omega))) | ((first | refine aJ ?_ | refine num_any ?_ | refine ⟨_, rfl, ?_⟩); conv => whnf) | fail)
  · rename_i h
    refine Or.inl ?_; (conv => whnf)
    exact congrArg D.b (propext ⟨fun h2 => ⟨h, h2⟩, fun h2 => h2.2⟩)
  · rename_i h
    refine Or.inl ?_; (conv => whnf)
    show D.b False = _
    exact congrArg D.b (propext ⟨fun h2 => h2.elim, fun h2 => h h2.1⟩)
theorem bndO_fine {n : Int} {l : List Term} (h0 : 0 ≤ n) (h1 : n ≤ 256) (hg : ∀ t ∈ l, GoodT n.toNat t) : Fine (bndO n (formT l)).2.1 (bndO n (formT l)).2.2 := by
  unfold bndO
  split
  · rename_i h; exact .form h0 h1 hg h
  · exact .nil (by decide) (by decide)
theorem joinO_fine {n m : Int} {ts us : List Term} (hf : Fine n ts) (hg : Fine m us) : Fine (joinO n m ts us).2.1 (joinO n m ts us).2.2 := by
  unfold joinO
  split
  · rename_i h
    obtain ⟨rfl, h0⟩ := h
    exact bndO_fine hf.n0 hf.n1 fun t ht => (List.mem_append.1 ht).elim (hf.good t) (hg.good t)
  · exact .nil (by decide) (by decide)
theorem bndO_le {n : Int} {l : List Term} (h : szT l ≤ 128) : bndO n l = (0, n, l) := if_pos h
theorem bndO_gt {n : Int} {l : List Term} (h : 128 < szT l) : bndO n l = (3, 0, []) := if_neg (by omega)
theorem joinO_fit {n m : Int} {ts us : List Term} (h : fitP n m) : joinO n m ts us = bndO n (formT (ts ++ us)) := if_pos h
theorem joinO_not {n m : Int} {ts us : List Term} (h : ¬ fitP n m) : joinO n m ts us = (11, 0, []) := if_neg h
theorem formT_len (l : List Term) : (formT l).length ≤ l.length := by
  unfold formT
  rw [(srt_perm aheadT _).length_eq]
  exact grG_len covT l
theorem DOut.form {n : Int} {l : List Term} {ks : List TR} {rm : List (List D)} (e : ks.map TR.t = formT l) (h : szT (ks.map TR.t) ≤ 128) : DOut (bndO n (formT l)) (.tup [.agg [.i .i64 n, .lst 111 (ks.map drow) rm], .i .i64 0]) [] := by
  rw [bndO_le (by rw [← e]; exact h)]
  exact ⟨rfl, _, rfl, ks, rm, rfl, e⟩
set_option maxRecDepth 100000 in
set_option maxHeartbeats 4000000 in
theorem join_at {n m : Int} {ts us : List Term} (hf : Fine n ts) (hg : Fine m us) (ks ks2 : List TR) (rm rm2 : List (List D)) (h1 : ks.map TR.t = ts) (h2 : ks2.map TR.t = us) :
    FSpec Tryd.prog T 22 [.agg [.i .i64 n, .lst 81 (ks.map trow) rm], .agg [.i .i64 m, .lst 81 (ks2.map trow) rm2]] (POut (joinO n m ts us)) := by
  have hfit := fits2_at n m
  have hl1 := hf.len
  have hl2 := hg.len
  rw [← h1, List.length_map] at hl1
  rw [← h2, List.length_map] at hl2
  have htk : List.take (List.map trow ks ++ List.map trow ks2).length (List.map trow ks ++ List.map trow ks2) = (ks ++ ks2).map trow := by rw [List.take_of_length_le (Nat.le_refl _), List.map_append]
  have hk1 : (List.map trow ks).length = ks.length := by simp
  have hk2 : (List.map trow ks2).length = ks2.length := by simp
  refine FSpec.of_deferK 3 tok Tryd.func22 rfl Tryd.call22 (by simp) def_join (zd1 := [.i .i64 0, .nilS]) (zd2 := [.i .i64 3]) rfl rfl (by simp [Value.oneCell']) (by simp [Value.oneCell']) rfl ?_
  by_cases hfp : fitP n m
  · have hnm := hfp.1
    subst hnm
    have hto : ∀ x ∈ ks ++ ks2, TO n.toNat x := fun x hx => (List.mem_append.1 hx).elim (hf.to h1 x) (hg.to h2 x)
    have hts : (ks ++ ks2).map TR.t = ts ++ us := by rw [List.map_append, h1, h2]
    rw [joinO_fit hfp, ← hts]
    have hln : (ks ++ ks2).length ≤ 1048576 := by simp; omega
    (try (conv => whnf)); repeat' (first | refine Ok.seq ?_ | refine OkL.cons ?_ | ((first | refine Ok.region tok ?_ | refine Ok.region_plan (id := 6) tok follows [(4, 5, []), (1, 6, []), (4, 6, [5]), (5, 6, []), (1, 7, []), (4, 7, []), (5, 7, []), (6, 7, []), (1, 8, []), (4, 8, []), (5, 8, []), (6, 8, []), (7, 8, [])] [.q 0, .q 1, .q 2, .q 3, .q 4, .l 5, .l 6, .l 7, .l 8] (by kernel_rfl) ?_ | refine Ok.region_draw tok follows (by kernel_rfl) ?_ | refine Ok.cond ?_); conv => whnf) | refine Ok.block ?_ | ((first | refine Ok.skip ?_ | refine Ok.exit ?_ | refine Ok.ret ?_ | refine nI ?_ | refine ix _ (by assumption) ?_ | refine ixI (by omega) (by assumption) ?_ | refine ix_new _ (by omega) fun _ _ => ?_ | refine ixI_new (by omega) (by omega) fun _ _ => ?_ | refine ⟨_, by assumption, ?_⟩); conv => whnf) | (refine Or.inl ?_; (conv => whnf); (repeat (refine aI ?_; conv => whnf)); refine ⟨_, hfit, rfl, ?_⟩; conv => whnf) | (refine ⟨_, hfit, rfl, ?_⟩; conv => whnf) | (refine Or.inr (Or.inl ?_); (conv => whnf); (repeat (refine aI ?_; conv => whnf)); refine ⟨_, hfit, ?_⟩; rintro _ _ ⟨rfl, rfl⟩; conv => whnf) | ((first | refine Alt2.l (aI ?_) | refine Alt2.r (aI ?_)); conv => whnf) | (refine Ok.scope ?_) | ((first | refine Ok.label ?_ | refine rd rfl (by assumption) ?_ | refine ⟨_, .inl ⟨rfl, rfl⟩, ?_⟩ | refine ⟨_, _, rfl, rfl, ?_⟩); conv => whnf) | (refine ⟨fun _ => ?_, fun _ => ?_⟩ <;> (conv => whnf) <;> (try (exfalso; omega))) | ((first | refine aJ ?_ | refine num_any ?_ | refine ⟨_, rfl, ?_⟩); conv => whnf) | fail)
    · exact absurd hfp (by assumption)
    refine OkL.nil ?_
    (conv => whnf)
    refine ⟨2, 3, rfl, rfl, by decide, by decide, by decide, rfl, ?_⟩
    by_cases hsz : szT (formT ((ks ++ ks2).map TR.t)) ≤ 128
    · rw [bndO_le hsz]
      (try (conv => whnf)); repeat' (first | refine Ok.seq ?_ | refine OkL.cons ?_ | ((first | refine Ok.region tok ?_ | refine Ok.region_plan (id := 6) tok follows [(4, 5, []), (1, 6, []), (4, 6, [5]), (5, 6, []), (1, 7, []), (4, 7, []), (5, 7, []), (6, 7, []), (1, 8, []), (4, 8, []), (5, 8, []), (6, 8, []), (7, 8, [])] [.q 0, .q 1, .q 2, .q 3, .q 4, .l 5, .l 6, .l 7, .l 8] (by kernel_rfl) ?_ | refine Ok.region_draw tok follows (by kernel_rfl) ?_ | refine Ok.cond ?_); conv => whnf) | refine Ok.block ?_ | ((first | refine Ok.skip ?_ | refine Ok.exit ?_ | refine Ok.ret ?_ | refine nI ?_ | refine ix _ (by assumption) ?_ | refine ixI (by omega) (by assumption) ?_ | refine ix_new _ (by omega) fun _ _ => ?_ | refine ixI_new (by omega) (by omega) fun _ _ => ?_ | refine ⟨_, by assumption, ?_⟩); conv => whnf) | (refine Or.inr (Or.inl ?_); (conv => whnf); (repeat (refine aI ?_; conv => whnf)); refine ⟨_, form_at n n.toNat (ks ++ ks2) hln hto htk hsz , ?_⟩; rintro _ _ ⟨ks3, rm3, rfl, rfl, hks3, hkm⟩ <;> (conv => whnf)) | ((first | refine Alt2.l (aI ?_) | refine Alt2.r (aI ?_)); conv => whnf) | (refine Ok.scope ?_) | ((first | refine Ok.label ?_ | refine rd rfl (by assumption) ?_ | refine ⟨_, .inl ⟨rfl, rfl⟩, ?_⟩ | refine ⟨_, _, rfl, rfl, ?_⟩); conv => whnf) | (refine ⟨fun _ => ?_, fun _ => ?_⟩ <;> (conv => whnf) <;> (try (exfalso; omega))) | ((first | refine aJ ?_ | refine num_any ?_ | refine ⟨_, rfl, ?_⟩); conv => whnf) | fail)
      refine Or.inl ?_; (conv => whnf)
      exact ⟨rfl, _, rfl, ks3, rm3, rfl, hks3⟩
    · rw [bndO_gt (by omega)]
      (try (conv => whnf)); repeat' (first | refine Ok.seq ?_ | refine OkL.cons ?_ | ((first | refine Ok.region tok ?_ | refine Ok.cond ?_); conv => whnf) | refine Ok.block ?_ | ((first | refine Ok.skip ?_ | refine Ok.exit ?_ | refine Ok.ret ?_ | refine nI ?_ | refine ix _ (by assumption) ?_ | refine ixI (by omega) (by assumption) ?_ | refine ix_new _ (by omega) fun _ _ => ?_ | refine ixI_new (by omega) (by omega) fun _ _ => ?_ | refine ⟨_, by assumption, ?_⟩ | refine Alt2.l (aI ?_) | refine Alt2.r (aI ?_)); conv => whnf) | (refine Ok.scope ?_) | ((first | refine Ok.label ?_ | refine rd rfl (by assumption) ?_ | refine ⟨_, .inl ⟨rfl, rfl⟩, ?_⟩ | refine ⟨_, _, rfl, rfl, ?_⟩); conv => whnf) | (refine ⟨fun _ => ?_, fun _ => ?_⟩ <;> (conv => whnf) <;> (try (exfalso; omega))) | ((first | refine aJ ?_ | refine num_any ?_ | refine ⟨_, rfl, ?_⟩); conv => whnf) | fail)
      refine Ok.region_planpanS tok follows [(4, 5, [])] [.q 0, .q 1, .q 2, .q 3, .q 4, .l 5] 6 (by kernel_rfl) ?_; (conv => whnf)
      (try (conv => whnf)); repeat' (first | refine Ok.seq ?_ | refine OkL.cons ?_ | ((first | refine Ok.region tok ?_ | refine Ok.cond ?_); conv => whnf) | refine Ok.block ?_ | ((first | refine Ok.skip ?_ | refine Ok.exit ?_ | refine Ok.ret ?_ | refine nI ?_ | refine ix _ (by assumption) ?_ | refine ixI (by omega) (by assumption) ?_ | refine ix_new _ (by omega) fun _ _ => ?_ | refine ixI_new (by omega) (by omega) fun _ _ => ?_ | refine ⟨_, by assumption, ?_⟩ | refine Alt2.l (aI ?_) | refine Alt2.r (aI ?_)); conv => whnf) | (refine Ok.scope ?_) | ((first | refine Ok.label ?_ | refine rd rfl (by assumption) ?_ | refine ⟨_, .inl ⟨rfl, rfl⟩, ?_⟩ | refine ⟨_, _, rfl, rfl, ?_⟩); conv => whnf) | (refine ⟨fun _ => ?_, fun _ => ?_⟩ <;> (conv => whnf) <;> (try (exfalso; omega))) | ((first | refine aJ ?_ | refine num_any ?_ | refine ⟨_, rfl, ?_⟩); conv => whnf) | fail)
      refine ⟨_, form_pan n n.toNat (ks ++ ks2) hln hto htk (by omega), ?_⟩
      (conv => whnf)
      refine ⟨rfl, 2, 3, _, _, rfl, rfl, rfl, rfl, rfl, rfl, by decide, rfl, ?_⟩
      (conv => whnf)
      refine Or.inl ?_; (conv => whnf)
      exact ⟨rfl, _, rfl, PSp.nil 0⟩
  · rw [joinO_not hfp]
    (try (conv => whnf)); repeat' (first | refine Ok.seq ?_ | refine OkL.cons ?_ | ((first | refine Ok.region tok ?_ | refine Ok.region_plan (id := 6) tok follows [(4, 5, []), (1, 6, []), (4, 6, [5]), (5, 6, []), (1, 7, []), (4, 7, []), (5, 7, []), (6, 7, []), (1, 8, []), (4, 8, []), (5, 8, []), (6, 8, []), (7, 8, [])] [.q 0, .q 1, .q 2, .q 3, .q 4, .l 5, .l 6, .l 7, .l 8] (by kernel_rfl) ?_ | refine Ok.region_draw tok follows (by kernel_rfl) ?_ | refine Ok.cond ?_); conv => whnf) | refine Ok.block ?_ | ((first | refine Ok.skip ?_ | refine Ok.exit ?_ | refine Ok.ret ?_ | refine nI ?_ | refine ix _ (by assumption) ?_ | refine ixI (by omega) (by assumption) ?_ | refine ix_new _ (by omega) fun _ _ => ?_ | refine ixI_new (by omega) (by omega) fun _ _ => ?_ | refine ⟨_, by assumption, ?_⟩); conv => whnf) | (refine Or.inl ?_; (conv => whnf); (repeat (refine aI ?_; conv => whnf)); refine ⟨_, hfit, rfl, ?_⟩; conv => whnf) | (refine ⟨_, hfit, rfl, ?_⟩; conv => whnf) | (refine Or.inr (Or.inl ?_); (conv => whnf); (repeat (refine aI ?_; conv => whnf)); refine ⟨_, hfit, ?_⟩; rintro _ _ ⟨rfl, rfl⟩; conv => whnf) | ((first | refine Alt2.l (aI ?_) | refine Alt2.r (aI ?_)); conv => whnf) | (refine Ok.scope ?_) | ((first | refine Ok.label ?_ | refine rd rfl (by assumption) ?_ | refine ⟨_, .inl ⟨rfl, rfl⟩, ?_⟩ | refine ⟨_, _, rfl, rfl, ?_⟩); conv => whnf) | (refine ⟨fun _ => ?_, fun _ => ?_⟩ <;> (conv => whnf) <;> (try (exfalso; omega))) | ((first | refine aJ ?_ | refine num_any ?_ | refine ⟨_, rfl, ?_⟩); conv => whnf) | fail)
    · refine Or.inl ?_; (conv => whnf)
      exact ⟨rfl, _, rfl, PSp.nil 0⟩
    · rename_i h
      exact absurd hfp h
end Go.Proofs.YtaiondckookpiaaDoor
namespace Go.Proofs.YtaiondckookpiaaDoor
open Go Go.Vx
noncomputable def meet2 (a b : Term) : Option Term := (meetT a.p b.p).bind fun p => termT p (a.less ++ b.less)
noncomputable def meets (ts us : List Term) : List Term := ts.flatMap fun a => us.filterMap (meet2 a)
open Classical in
noncomputable def meetO (n m : Int) (ts us : List Term) : Int × Int × List Term := if fitP n m then (if ts.length * us.length ≤ 2048 then bndO n (formT (meets ts us)) else (3, 0, [])) else (11, 0, [])
theorem GoodT.len {n : Nat} {t : Term} (h : GoodT n t) : t.p.length = n := h.ok.p
theorem meet2_good {n : Nat} {a b t : Term} (ha : GoodT n a) (hb : GoodT n b) (h : meet2 a b = some t) : GoodT n t := by
  unfold meet2 at h
  obtain ⟨p, hp, ht⟩ := Option.bind_eq_some_iff.1 h
  have hm := meetT_ct hp ha.p.1 hb.p.1
  exact (termT_good ⟨hm.1, fun e => hm.2.2 (List.eq_nil_of_length_eq_zero (by rw [← hm.2.1, e]; rfl))⟩ (by rw [hm.2.1, ha.len]) (fun m hm => (List.mem_append.1 hm).elim (fun h => (ha.less m h).1) (fun h => (hb.less m h).1)) ht).1
theorem meets_good {n : Nat} {ts us : List Term} (h1 : ∀ t ∈ ts, GoodT n t) (h2 : ∀ t ∈ us, GoodT n t) : ∀ t ∈ meets ts us, GoodT n t := by
  intro t ht
  obtain ⟨a, ha, h⟩ := List.mem_flatMap.1 ht
  obtain ⟨b, hb, h⟩ := List.mem_filterMap.1 h
  exact meet2_good (h1 a ha) (h2 b hb) h
theorem meet2_less {a b t : Term} (h : meet2 a b = some t) : t.less.length ≤ a.less.length + b.less.length := by
  unfold meet2 at h
  obtain ⟨p, hp, ht⟩ := Option.bind_eq_some_iff.1 h
  have := termT_sz ht
  rw [List.length_append] at this
  exact this
theorem meets_less {ts us : List Term} {k : Nat} (h1 : ∀ t ∈ ts, t.less.length ≤ k) (h2 : ∀ t ∈ us, t.less.length ≤ k) : ∀ t ∈ meets ts us, t.less.length ≤ k + k := by
  intro t ht
  obtain ⟨a, ha, h⟩ := List.mem_flatMap.1 ht
  obtain ⟨b, hb, h⟩ := List.mem_filterMap.1 h
  have := meet2_less h
  have := h1 a ha
  have := h2 b hb
  omega
theorem meets_snoc {ts us : List Term} {i : Nat} {a : Term} (h : ts[i]? = some a) : meets (ts.take (i + 1)) us = meets (ts.take i) us ++ us.filterMap (meet2 a) := by
  unfold meets
  rw [take_snoc h, List.flatMap_append]
  simp
theorem fm_some {α β : Type} {f : α → Option β} {l : List α} {i : Nat} {a : α} {b : β} (h : l[i]? = some a) (hb : f a = some b) : (l.take (i + 1)).filterMap f = (l.take i).filterMap f ++ [b] := by
  rw [take_snoc h]; simp [hb]
theorem fm_none {α β : Type} {f : α → Option β} {l : List α} {i : Nat} {a : α} (h : l[i]? = some a) (hb : f a = none) : (l.take (i + 1)).filterMap f = (l.take i).filterMap f := by
  rw [take_snoc h]; simp [hb]
theorem tr_get {ks : List TR} {ts : List Term} {i : Nat} {x : TR} (e : ks.map TR.t = ts) (h : ks[i]? = some x) : ts[i]? = some x.t := by rw [← e, List.getElem?_map, h]; rfl
theorem meetO_fit {n m : Int} {ts us : List Term} (h : fitP n m) (h2 : ts.length * us.length ≤ 2048) : meetO n m ts us = bndO n (formT (meets ts us)) := by unfold meetO; rw [if_pos h, if_pos h2]
theorem meetO_raw {n m : Int} {ts us : List Term} (h : fitP n m) (h2 : ¬ ts.length * us.length ≤ 2048) : meetO n m ts us = (3, 0, []) := by unfold meetO; rw [if_pos h, if_neg h2]
theorem meetO_not {n m : Int} {ts us : List Term} (h : ¬ fitP n m) : meetO n m ts us = (11, 0, []) := if_neg h
theorem meetO_fine {n m : Int} {ts us : List Term} (hf : Fine n ts) (hg : Fine m us) : Fine (meetO n m ts us).2.1 (meetO n m ts us).2.2 := by
  by_cases h : fitP n m
  · by_cases h2 : ts.length * us.length ≤ 2048
    · rw [meetO_fit h h2]
      obtain ⟨rfl, h0⟩ := h
      exact bndO_fine hf.n0 hf.n1 (meets_good hf.good hg.good)
    · rw [meetO_raw h h2]; exact .nil (by decide) (by decide)
  · rw [meetO_not h]; exact .nil (by decide) (by decide)
theorem raw_at {n : Int} (h : n ≤ 2048) : FSpec Tryd.prog T 54 [.i .i64 n] (fun d _ => d = .tup []) := by
  refine FSpec.of_ok tok Tryd.func54 rfl Tryd.call54 (by simp) ?_
  (try (conv => whnf)); repeat' (first | refine Ok.seq ?_ | refine OkL.cons ?_ | ((first | refine Ok.region tok ?_ | refine Ok.region_draw tok follows (by kernel_rfl) ?_ | refine Ok.cond ?_); conv => whnf) | refine Ok.block ?_ | ((first | refine Ok.skip ?_ | refine Ok.exit ?_ | refine Ok.ret ?_ | refine nI ?_ | refine ix _ (by assumption) ?_ | refine ixI (by omega) (by assumption) ?_ | refine ix_new _ (by omega) fun _ _ => ?_ | refine ixI_new (by omega) (by omega) fun _ _ => ?_ | refine ⟨_, by assumption, ?_⟩ | refine Alt2.l (aI ?_) | refine Alt2.r (aI ?_)); conv => whnf) | (refine Ok.scope ?_) | ((first | refine Ok.label ?_ | refine rd rfl (by assumption) ?_ | refine ⟨_, .inl ⟨rfl, rfl⟩, ?_⟩ | refine ⟨_, _, rfl, rfl, ?_⟩); conv => whnf) | (refine ⟨fun _ => ?_, fun _ => ?_⟩ <;> (conv => whnf) <;> (try (exfalso; omega))) | ((first | refine aJ ?_ | refine num_any ?_ | refine ⟨_, rfl, ?_⟩); conv => whnf) | fail)
  refine Or.inl ?_; (conv => whnf)
  rfl
theorem raw_pan {n : Int} (h : 2048 < n) : PSpec Tryd.prog T 54 [.i .i64 n] passedV := by
  refine PSpec.of_ok Tryd.func54 rfl Tryd.call54 (by simp) ?_
  refine Ok.seq ?_
  (refine Ok.region tok ?_; conv => whnf)
  (conv => whnf)
  refine Ok.cond ?_
  (conv => whnf)
  refine ⟨fun _ => ?_, fun h2 => absurd h h2⟩
  refine Ok.region_throw (fun w => by kernel_rfl) (by kernel_rfl) (by decide) (by decide) ?_
  rfl
end Go.Proofs.YtaiondckookpiaaDoor
namespace Go.Proofs.YtaiondckookpiaaDoor
open Go Go.Vx
set_option maxRecDepth 100000 in
set_option maxHeartbeats 8000000 in
theorem meet2_at {n m : Int} {ts us : List Term} (hf : Fine n ts) (hg : Fine m us) (ks ks2 : List TR) (rm rm2 : List (List D)) (h1 : ks.map TR.t = ts) (h2 : ks2.map TR.t = us) :
    FSpec Tryd.prog T 24 [.agg [.i .i64 n, .lst 81 (ks.map trow) rm], .agg [.i .i64 m, .lst 81 (ks2.map trow) rm2]] (POut (meetO n m ts us)) := by
  have hfit := fits2_at n m
  have hl1 : ks.length = ts.length := by rw [← h1, List.length_map]
  have hl2 : ks2.length = us.length := by rw [← h2, List.length_map]
  have hm1 : (ks.map trow).length = ts.length := by simp [hl1]
  have hm2 : (ks2.map trow).length = us.length := by simp [hl2]
  have hk1 := hf.len
  have hk2 := hg.len
  refine FSpec.of_deferK 3 tok Tryd.func24 rfl Tryd.call24 (by simp) def_meet (zd1 := [.i .i64 0, .nilS]) (zd2 := [.i .i64 3]) rfl rfl (by simp [Value.oneCell']) (by simp [Value.oneCell']) rfl ?_
  by_cases hfp : fitP n m
  · have hnm := hfp.1
    subst hnm
    have hmul : ((List.map trow ks).length : Int) * ((List.map trow ks2).length : Int) = ((ts.length * us.length : Nat) : Int) := by rw [hm1, hm2]; simp
    have hmb : ts.length * us.length ≤ 128 * 128 := Nat.mul_le_mul hk1 hk2
    (try (conv => whnf)); repeat' (first | refine Ok.seq ?_ | refine OkL.cons ?_ | ((first | refine Ok.region tok ?_ | refine Ok.region_draw tok follows (by kernel_rfl) ?_ | refine Ok.cond ?_); conv => whnf) | refine Ok.block ?_ | ((first | refine Ok.skip ?_ | refine Ok.exit ?_ | refine Ok.ret ?_ | refine nI ?_ | refine ix _ (by assumption) ?_ | refine ixI (by omega) (by assumption) ?_ | refine ix_new _ (by omega) fun _ _ => ?_ | refine ixI_new (by omega) (by omega) fun _ _ => ?_ | refine ⟨_, by assumption, ?_⟩); conv => whnf) | (refine Or.inl ?_; (conv => whnf); (repeat (refine aI ?_; conv => whnf)); refine ⟨_, hfit, rfl, ?_⟩; conv => whnf) | (refine ⟨_, hfit, rfl, ?_⟩; conv => whnf) | (refine Or.inr (Or.inl ?_); (conv => whnf); (repeat (refine aI ?_; conv => whnf)); refine ⟨_, hfit, ?_⟩; rintro _ _ ⟨rfl, rfl⟩; conv => whnf) | ((first | refine Alt2.l (aI ?_) | refine Alt2.r (aI ?_)); conv => whnf) | (refine Ok.scope ?_) | ((first | refine Ok.label ?_ | refine rd rfl (by assumption) ?_ | refine ⟨_, .inl ⟨rfl, rfl⟩, ?_⟩ | refine ⟨_, _, rfl, rfl, ?_⟩); conv => whnf) | (refine ⟨fun _ => ?_, fun _ => ?_⟩ <;> (conv => whnf) <;> (try (exfalso; omega))) | ((first | refine aJ ?_ | refine num_any ?_ | refine ⟨_, rfl, ?_⟩); conv => whnf) | fail)
    · exact absurd hfp (by assumption)
    refine OkL.nil ?_
    (conv => whnf)
    refine ⟨2, 3, rfl, rfl, by decide, by decide, by decide, rfl, ?_⟩
    by_cases hraw : ts.length * us.length ≤ 2048
    · rw [meetO_fit hfp hraw]
      (try (conv => whnf)); repeat' (first | refine Ok.seq ?_ | refine OkL.cons ?_ | ((first | refine Ok.region tok ?_ | refine Ok.region_draw tok follows (by kernel_rfl) ?_ | refine Ok.cond ?_); conv => whnf) | refine Ok.block ?_ | ((first | refine Ok.skip ?_ | refine Ok.exit ?_ | refine Ok.ret ?_ | refine nI ?_ | refine ix _ (by assumption) ?_ | refine ixI (by omega) (by assumption) ?_ | refine ix_new _ (by omega) fun _ _ => ?_ | refine ixI_new (by omega) (by omega) fun _ _ => ?_ | refine ⟨_, by assumption, ?_⟩); conv => whnf) | (refine Or.inl ?_; (conv => whnf); (repeat (refine aI ?_; conv => whnf)); refine ⟨_, raw_at (n := ((List.map trow ks).length : Int) * ((List.map trow ks2).length : Int)) (by rw [hmul]; omega), rfl, ?_⟩; conv => whnf) | (refine ⟨_, raw_at (n := ((List.map trow ks).length : Int) * ((List.map trow ks2).length : Int)) (by rw [hmul]; omega), rfl, ?_⟩; conv => whnf) | (refine Or.inr (Or.inl ?_); (conv => whnf); (repeat (refine aI ?_; conv => whnf)); refine ⟨_, raw_at (n := ((List.map trow ks).length : Int) * ((List.map trow ks2).length : Int)) (by rw [hmul]; omega), ?_⟩; rintro _ _ ⟨rfl, rfl⟩; conv => whnf) | ((first | refine Alt2.l (aI ?_) | refine Alt2.r (aI ?_)); conv => whnf) | (refine Ok.scope ?_) | ((first | refine Ok.label ?_ | refine rd rfl (by assumption) ?_ | refine ⟨_, .inl ⟨rfl, rfl⟩, ?_⟩ | refine ⟨_, _, rfl, rfl, ?_⟩); conv => whnf) | (refine ⟨fun _ => ?_, fun _ => ?_⟩ <;> (conv => whnf) <;> (try (exfalso; omega))) | ((first | refine aJ ?_ | refine num_any ?_ | refine ⟨_, rfl, ?_⟩); conv => whnf) | fail)
      refine Ok.ghost 6 81 rfl ?_
      (conv => whnf)
      refine Ok.loopU [2, 3, 4, 5, 32, 33, 75, 76] [6, 34] 1 4 (fun (x : Nat × List TR) => [.own 0 x.2.length, .i .i64 (x.1 : Nat)]) (fun _ b => b) (fun (x : Nat × List TR) (_ : Vx.Rows) => [some (81, x.2.map trow)]) (fun (x : Nat × List TR) => x.1 ≤ ts.length ∧ x.2.map TR.t = meets (ts.take x.1) us ∧ x.2.length ≤ x.1 * us.length) (fun (x : Nat × List TR) => ts.length - x.1) ((0, [])) (⟨Nat.zero_le _, by simp [meets], by simp⟩) ?_; (conv => whnf); refine ⟨by ((conv => whnf); first | rfl | (simp [envCat, List.take_of_length_le, crow, trow, srow, drow]; done) | (simp [envCat, List.take_of_length_le, crow, trow, srow, drow]; rw [IntKind.wrap_i64]; omega)), ?_⟩
      rintro ⟨i, l⟩ ⟨hi, hl, hll⟩
      dsimp only at hi hl hll ⊢
      have hlm : (l.map trow).length = l.length := by simp
      have hib : i * us.length ≤ 128 * 128 := Nat.mul_le_mul (by omega) hk2
      (conv => whnf)
      by_cases hil : i < ts.length
      · obtain ⟨a, ha⟩ : ∃ a, ks[i]? = some a := ⟨_, List.getElem?_eq_getElem (by omega)⟩
        have haI : ks[((i : Nat) : Int).toNat]? = some a := ha
        have hat := tr_get h1 ha
        have hag := hf.good _ (List.mem_of_getElem? hat)
        have hal := hf.less (List.mem_of_getElem? hat)
        have hal2 : (a.t.less.map crow).length = a.t.less.length := by simp
        have hsn := meets_snoc (us := us) hat
        have hi1 : (i + 1) * us.length = i * us.length + us.length := by rw [Nat.add_mul, Nat.one_mul]
        (try (conv => whnf)); repeat' (first | refine Ok.seq ?_ | refine OkL.cons ?_ | ((first | refine Ok.region tok ?_ | refine Ok.region_draw tok follows (by kernel_rfl) ?_ | refine Ok.cond ?_); conv => whnf) | refine Ok.block ?_ | ((first | refine Ok.skip ?_ | refine Ok.exit ?_ | refine Ok.ret ?_ | refine nI ?_ | refine ix _ (by assumption) ?_ | refine ixI (by omega) (by assumption) ?_ | refine ix_new _ (by omega) fun _ _ => ?_ | refine ixI_new (by omega) (by omega) fun _ _ => ?_ | refine ⟨_, by assumption, ?_⟩ | refine Alt2.l (aI ?_) | refine Alt2.r (aI ?_)); conv => whnf) | (refine Ok.scope ?_) | ((first | refine Ok.label ?_ | refine rd rfl (by assumption) ?_ | refine ⟨_, .inl ⟨rfl, rfl⟩, ?_⟩ | refine ⟨_, _, rfl, rfl, ?_⟩); conv => whnf) | (refine ⟨fun _ => ?_, fun _ => ?_⟩ <;> (conv => whnf) <;> (try (exfalso; omega))) | ((first | refine aJ ?_ | refine num_any ?_ | refine ⟨_, rfl, ?_⟩); conv => whnf) | fail)
        refine Ok.loopU [2, 3, 4, 5, 8, 32, 33, 34, 39, 40, 75, 76] [6, 41] 1 5 (fun (x : Nat × List TR) => [.own 0 x.2.length, .i .i64 (x.1 : Nat)]) (fun _ b => b) (fun (x : Nat × List TR) (_ : Vx.Rows) => [some (81, x.2.map trow)]) (fun (x : Nat × List TR) => x.1 ≤ us.length ∧ x.2.map TR.t = meets (ts.take i) us ++ (us.take x.1).filterMap (meet2 a.t) ∧ x.2.length ≤ i * us.length + x.1) (fun (x : Nat × List TR) => us.length - x.1) ((0, l)) (⟨Nat.zero_le _, by simpa using hl, by simpa using hll⟩) ?_; (conv => whnf); refine ⟨by ((conv => whnf); first | rfl | (simp [envCat, List.take_of_length_le, crow, trow, srow, drow]; done) | (simp [envCat, List.take_of_length_le, crow, trow, srow, drow]; rw [IntKind.wrap_i64]; omega)), ?_⟩
        rintro ⟨j, l2⟩ ⟨hj, hl2e, hl2l⟩
        dsimp only at hj hl2e hl2l ⊢
        have hl2m : (l2.map trow).length = l2.length := by simp
        (conv => whnf)
        by_cases hjl : j < us.length
        · obtain ⟨b, hb⟩ : ∃ b, ks2[j]? = some b := ⟨_, List.getElem?_eq_getElem (by omega)⟩
          have hbI : ks2[((j : Nat) : Int).toNat]? = some b := hb
          have hbt := tr_get h2 hb
          have hbg := hg.good _ (List.mem_of_getElem? hbt)
          have hbl := hg.less (List.mem_of_getElem? hbt)
          have hbl2 : (b.t.less.map crow).length = b.t.less.length := by simp
          have hsp := meet_at a.t.p b.t.p hag.p.1 hbg.p.1
          cases hm : meetT a.t.p b.t.p with
          | none =>
            have hno : meet2 a.t b.t = none := by unfold meet2; rw [hm]; rfl
            rw [hm] at hsp
            (try (conv => whnf)); repeat' (first | refine Ok.seq ?_ | refine OkL.cons ?_ | ((first | refine Ok.region tok ?_ | refine Ok.region_draw tok follows (by kernel_rfl) ?_ | refine Ok.cond ?_); conv => whnf) | refine Ok.block ?_ | ((first | refine Ok.skip ?_ | refine Ok.exit ?_ | refine Ok.ret ?_ | refine nI ?_ | refine ix _ (by assumption) ?_ | refine ixI (by omega) (by assumption) ?_ | refine ix_new _ (by omega) fun _ _ => ?_ | refine ixI_new (by omega) (by omega) fun _ _ => ?_ | refine ⟨_, by assumption, ?_⟩); conv => whnf) | (refine Or.inr (Or.inl ?_); (conv => whnf); (repeat (refine aI ?_; conv => whnf)); refine ⟨_, hsp, ?_⟩; rintro _ _ ⟨rfl, rfl⟩ <;> (conv => whnf)) | ((first | refine Alt2.l (aI ?_) | refine Alt2.r (aI ?_)); conv => whnf) | (refine Ok.scope ?_) | ((first | refine Ok.label ?_ | refine rd rfl (by assumption) ?_ | refine ⟨_, .inl ⟨rfl, rfl⟩, ?_⟩ | refine ⟨_, _, rfl, rfl, ?_⟩); conv => whnf) | (refine ⟨fun _ => ?_, fun _ => ?_⟩ <;> (conv => whnf) <;> (try (exfalso; omega))) | ((first | refine aJ ?_ | refine num_any ?_ | refine ⟨_, rfl, ?_⟩); conv => whnf) | fail)
            · rename_i h
              cases h
            · refine ⟨(j + 1, l2), by dsimp only; omega, ⟨by dsimp only; omega, by dsimp only; rw [fm_none hbt hno]; exact hl2e, by dsimp only; omega⟩, ?_⟩
              (conv => whnf)
              rfl
          | some p =>
            rw [hm] at hsp
            have hmc := meetT_ct hm hag.p.1 hbg.p.1
            have hpn : p ≠ [] := fun e => hmc.2.2 (List.eq_nil_of_length_eq_zero (by rw [← hmc.2.1, e]; rfl))
            have hm2 : meet2 a.t b.t = termT p (a.t.less ++ b.t.less) := by unfold meet2; rw [hm]; rfl
            have hnew : ∀ room, FSpec Tryd.prog T 45 [.agg (crow p), .lst 52 (List.map lrow [⟨a.t.less, a.room⟩, ⟨b.t.less, b.room⟩]) room] (NewT p (a.t.less ++ b.t.less)) := fun room => by
              have := newTerm_at p [⟨a.t.less, a.room⟩, ⟨b.t.less, b.room⟩] (room := room) ⟨hmc.1, hpn⟩ (by
                intro x hx m hm
                simp at hx
                rcases hx with rfl | rfl
                · exact (hag.less m hm).1
                · exact (hbg.less m hm).1) (by simp [allL]; omega) (by simp) rfl
              rwa [show allL [⟨a.t.less, a.room⟩, ⟨b.t.less, b.room⟩] = a.t.less ++ b.t.less by simp [allL]] at this
            (try (conv => whnf)); repeat' (first | refine Ok.seq ?_ | refine OkL.cons ?_ | ((first | refine Ok.region tok ?_ | refine Ok.region_draw tok follows (by kernel_rfl) ?_ | refine Ok.cond ?_); conv => whnf) | refine Ok.block ?_ | ((first | refine Ok.skip ?_ | refine Ok.exit ?_ | refine Ok.ret ?_ | refine nI ?_ | refine ix _ (by assumption) ?_ | refine ixI (by omega) (by assumption) ?_ | refine ix_new _ (by omega) fun _ _ => ?_ | refine ixI_new (by omega) (by omega) fun _ _ => ?_ | refine ⟨_, by assumption, ?_⟩); conv => whnf) | (refine Or.inr (Or.inl ?_); (conv => whnf); (repeat (refine aI ?_; conv => whnf)); refine ⟨_, hsp, ?_⟩; rintro _ _ ⟨rfl, rfl⟩ <;> (conv => whnf)) | (refine Or.inr (Or.inl ?_); (conv => whnf); (repeat (refine aI ?_; conv => whnf)); refine ⟨_, hnew _ , ?_⟩; rintro _ _ ⟨rfl, (⟨ht, rfl⟩ | ⟨t, rm4, ht, rfl⟩)⟩ <;> (conv => whnf)) | ((first | refine Alt2.l (aI ?_) | refine Alt2.r (aI ?_)); conv => whnf) | (refine Ok.scope ?_) | ((first | refine Ok.label ?_ | refine rd rfl (by assumption) ?_ | refine ⟨_, .inl ⟨rfl, rfl⟩, ?_⟩ | refine ⟨_, _, rfl, rfl, ?_⟩); conv => whnf) | (refine ⟨fun _ => ?_, fun _ => ?_⟩ <;> (conv => whnf) <;> (try (exfalso; omega))) | ((first | refine aJ ?_ | refine num_any ?_ | refine ⟨_, rfl, ?_⟩); conv => whnf) | fail)
            all_goals first
              | (rename_i h; exact absurd rfl h)
              | (rename_i h; exact absurd trivial h)
              | (refine ⟨(j + 1, l2), by dsimp only; omega, ⟨by dsimp only; omega, by dsimp only; rw [fm_none hbt (hm2.trans ht)]; exact hl2e, by dsimp only; omega⟩, ?_⟩
                 (conv => whnf)
                 rfl)
              | (refine ⟨(j + 1, l2 ++ [⟨t, rm4⟩]), by dsimp only; omega, ⟨by dsimp only; omega, by dsimp only; rw [fm_some hbt (hm2.trans ht), List.map_append, hl2e, List.append_assoc]; rfl, by simp; omega⟩, ?_⟩
                 (conv => whnf)
                 simp [envCat])
        · have hje : j = us.length := by omega
          subst hje
          rw [List.take_length] at hl2e
          (try (conv => whnf)); repeat' (first | refine Ok.seq ?_ | refine OkL.cons ?_ | ((first | refine Ok.region tok ?_ | refine Ok.region_draw tok follows (by kernel_rfl) ?_ | refine Ok.cond ?_); conv => whnf) | refine Ok.block ?_ | ((first | refine Ok.skip ?_ | refine Ok.exit ?_ | refine Ok.ret ?_ | refine nI ?_ | refine ix _ (by assumption) ?_ | refine ixI (by omega) (by assumption) ?_ | refine ix_new _ (by omega) fun _ _ => ?_ | refine ixI_new (by omega) (by omega) fun _ _ => ?_ | refine ⟨_, by assumption, ?_⟩ | refine Alt2.l (aI ?_) | refine Alt2.r (aI ?_)); conv => whnf) | (refine Ok.scope ?_) | ((first | refine Ok.label ?_ | refine rd rfl (by assumption) ?_ | refine ⟨_, .inl ⟨rfl, rfl⟩, ?_⟩ | refine ⟨_, _, rfl, rfl, ?_⟩); conv => whnf) | (refine ⟨fun _ => ?_, fun _ => ?_⟩ <;> (conv => whnf) <;> (try (exfalso; omega))) | ((first | refine aJ ?_ | refine num_any ?_ | refine ⟨_, rfl, ?_⟩); conv => whnf) | fail)
          refine ⟨(i + 1, l2), by dsimp only; omega, ⟨by dsimp only; omega, by dsimp only; rw [hsn]; exact hl2e, by dsimp only; omega⟩, ?_⟩
          (conv => whnf)
          rfl
      · have hie : i = ts.length := by omega
        subst hie
        rw [List.take_length] at hl
        have hgood := meets_good hf.good hg.good
        have hlb := meets_less (fun t ht => hf.less ht) (fun t ht => hg.less ht)
        have hle : ∀ x ∈ l, x.t.less.length ≤ 1048576 := fun x hx => Nat.le_trans (hlb _ (mem_of_map hl hx)) (by decide)
        have hto : ∀ x ∈ l, TO n.toNat x := fun x hx => (hgood _ (mem_of_map hl hx)).to (hle x hx)
        have htk : List.take l.length (l.map trow) = l.map trow := List.take_of_length_le (by simp)
        have hln : l.length ≤ 1048576 := by omega
        rw [← hl]
        by_cases hsz : szT (formT (l.map TR.t)) ≤ 128
        · rw [bndO_le hsz]
          (try (conv => whnf)); repeat' (first | refine Ok.seq ?_ | refine OkL.cons ?_ | ((first | refine Ok.region tok ?_ | refine Ok.region_draw tok follows (by kernel_rfl) ?_ | refine Ok.cond ?_); conv => whnf) | refine Ok.block ?_ | ((first | refine Ok.skip ?_ | refine Ok.exit ?_ | refine Ok.ret ?_ | refine nI ?_ | refine ix _ (by assumption) ?_ | refine ixI (by omega) (by assumption) ?_ | refine ix_new _ (by omega) fun _ _ => ?_ | refine ixI_new (by omega) (by omega) fun _ _ => ?_ | refine ⟨_, by assumption, ?_⟩); conv => whnf) | (refine Or.inr (Or.inl ?_); (conv => whnf); (repeat (refine aI ?_; conv => whnf)); refine ⟨_, form_at n n.toNat l hln hto htk hsz , ?_⟩; rintro _ _ ⟨ks3, rm3, rfl, rfl, hks3, hkm⟩ <;> (conv => whnf)) | ((first | refine Alt2.l (aI ?_) | refine Alt2.r (aI ?_)); conv => whnf) | (refine Ok.scope ?_) | ((first | refine Ok.label ?_ | refine rd rfl (by assumption) ?_ | refine ⟨_, .inl ⟨rfl, rfl⟩, ?_⟩ | refine ⟨_, _, rfl, rfl, ?_⟩); conv => whnf) | (refine ⟨fun _ => ?_, fun _ => ?_⟩ <;> (conv => whnf) <;> (try (exfalso; omega))) | ((first | refine aJ ?_ | refine num_any ?_ | refine ⟨_, rfl, ?_⟩); conv => whnf) | fail)
          refine Or.inl ?_; (conv => whnf)
          exact ⟨rfl, _, rfl, ks3, rm3, rfl, hks3⟩
        · rw [bndO_gt (by omega)]
          (try (conv => whnf)); repeat' (first | (refine Ok.region_pan (id := 19) tok 3 ?_; (conv => whnf)) | refine Ok.seq ?_ | refine OkL.cons ?_ | ((first | refine Ok.region tok ?_ | refine Ok.cond ?_); conv => whnf) | refine Ok.block ?_ | ((first | refine Ok.skip ?_ | refine Ok.exit ?_ | refine Ok.ret ?_ | refine nI ?_ | refine ix _ (by assumption) ?_ | refine ixI (by omega) (by assumption) ?_ | refine ix_new _ (by omega) fun _ _ => ?_ | refine ixI_new (by omega) (by omega) fun _ _ => ?_ | refine ⟨_, by assumption, ?_⟩ | refine Alt2.l (aI ?_) | refine Alt2.r (aI ?_)); conv => whnf) | (refine Ok.scope ?_) | ((first | refine Ok.label ?_ | refine rd rfl (by assumption) ?_ | refine ⟨_, .inl ⟨rfl, rfl⟩, ?_⟩ | refine ⟨_, _, rfl, rfl, ?_⟩); conv => whnf) | (refine ⟨fun _ => ?_, fun _ => ?_⟩ <;> (conv => whnf) <;> (try (exfalso; omega))) | ((first | refine aJ ?_ | refine num_any ?_ | refine ⟨_, rfl, ?_⟩); conv => whnf) | fail)
          refine ⟨_, form_pan n n.toNat l hln hto htk (by omega), ?_⟩
          (conv => whnf)
          refine ⟨rfl, 2, 3, _, _, rfl, rfl, rfl, rfl, rfl, rfl, by decide, rfl, ?_⟩
          (conv => whnf)
          refine Or.inl ?_; (conv => whnf)
          exact ⟨rfl, _, rfl, PSp.nil 0⟩
    · rw [meetO_raw hfp hraw]
      refine OkL.cons ?_
      refine Ok.region_pan tok 7 ?_
      (conv => whnf)
      (try (conv => whnf)); repeat' (first | refine Ok.seq ?_ | refine OkL.cons ?_ | ((first | refine Ok.region tok ?_ | refine Ok.cond ?_); conv => whnf) | refine Ok.block ?_ | ((first | refine Ok.skip ?_ | refine Ok.exit ?_ | refine Ok.ret ?_ | refine nI ?_ | refine ix _ (by assumption) ?_ | refine ixI (by omega) (by assumption) ?_ | refine ix_new _ (by omega) fun _ _ => ?_ | refine ixI_new (by omega) (by omega) fun _ _ => ?_ | refine ⟨_, by assumption, ?_⟩ | refine Alt2.l (aI ?_) | refine Alt2.r (aI ?_)); conv => whnf) | (refine Ok.scope ?_) | ((first | refine Ok.label ?_ | refine rd rfl (by assumption) ?_ | refine ⟨_, .inl ⟨rfl, rfl⟩, ?_⟩ | refine ⟨_, _, rfl, rfl, ?_⟩); conv => whnf) | (refine ⟨fun _ => ?_, fun _ => ?_⟩ <;> (conv => whnf) <;> (try (exfalso; omega))) | ((first | refine aJ ?_ | refine num_any ?_ | refine ⟨_, rfl, ?_⟩); conv => whnf) | fail)
      refine ⟨_, raw_pan (by rw [hmul]; omega), ?_⟩
      (conv => whnf)
      refine ⟨rfl, 2, 3, _, _, rfl, rfl, rfl, rfl, rfl, rfl, by decide, rfl, ?_⟩
      (conv => whnf)
      refine Or.inl ?_; (conv => whnf)
      exact ⟨rfl, _, rfl, PSp.nil 0⟩
  · rw [meetO_not hfp]
    (try (conv => whnf)); repeat' (first | refine Ok.seq ?_ | refine OkL.cons ?_ | ((first | refine Ok.region tok ?_ | refine Ok.region_draw tok follows (by kernel_rfl) ?_ | refine Ok.cond ?_); conv => whnf) | refine Ok.block ?_ | ((first | refine Ok.skip ?_ | refine Ok.exit ?_ | refine Ok.ret ?_ | refine nI ?_ | refine ix _ (by assumption) ?_ | refine ixI (by omega) (by assumption) ?_ | refine ix_new _ (by omega) fun _ _ => ?_ | refine ixI_new (by omega) (by omega) fun _ _ => ?_ | refine ⟨_, by assumption, ?_⟩); conv => whnf) | (refine Or.inl ?_; (conv => whnf); (repeat (refine aI ?_; conv => whnf)); refine ⟨_, hfit, rfl, ?_⟩; conv => whnf) | (refine ⟨_, hfit, rfl, ?_⟩; conv => whnf) | (refine Or.inr (Or.inl ?_); (conv => whnf); (repeat (refine aI ?_; conv => whnf)); refine ⟨_, hfit, ?_⟩; rintro _ _ ⟨rfl, rfl⟩; conv => whnf) | ((first | refine Alt2.l (aI ?_) | refine Alt2.r (aI ?_)); conv => whnf) | (refine Ok.scope ?_) | ((first | refine Ok.label ?_ | refine rd rfl (by assumption) ?_ | refine ⟨_, .inl ⟨rfl, rfl⟩, ?_⟩ | refine ⟨_, _, rfl, rfl, ?_⟩); conv => whnf) | (refine ⟨fun _ => ?_, fun _ => ?_⟩ <;> (conv => whnf) <;> (try (exfalso; omega))) | ((first | refine aJ ?_ | refine num_any ?_ | refine ⟨_, rfl, ?_⟩); conv => whnf) | fail)
    · refine Or.inl ?_; (conv => whnf)
      exact ⟨rfl, _, rfl, PSp.nil 0⟩
    · rename_i h
      exact absurd hfp h
end Go.Proofs.YtaiondckookpiaaDoor
namespace Go.Proofs.YtaiondckookpiaaDoor
open Go Go.Vx
@[reducible] def w4 (f : Nat → Bool) : List D := [.i .u64 ((wof f 0).toNat : Int), .i .u64 ((wof f 1).toNat : Int), .i .u64 ((wof f 2).toNat : Int), .i .u64 ((wof f 3).toNat : Int)]
end Go.Proofs.YtaiondckookpiaaDoor
namespace Go.Proofs.YtaiondckookpiaaDoor
open Go Go.Vx
theorem bndO_zero {n : Int} {l : List Term} (h : (bndO n l).1 = 0) : bndO n l = (0, n, l) := by
  unfold bndO at h ⊢
  split
  · rfl
  · rename_i hh; rw [if_neg hh] at h; cases h
end Go.Proofs.YtaiondckookpiaaDoor
namespace Go.Proofs.YtaiondckookpiaaDoor
open Go Go.Vx
structure TermF (t : Term) : Prop where
  sorted : t.less.Pairwise blt
  anti : t.less.Pairwise fun x y => ¬ inL x y ∧ ¬ inL y x
  proper : t.less ≠ [t.p]
theorem termT_form {p : Str} {less : List Str} {t : Term} (h : termT p less = some t) : TermF t := by
  have hb := putG_fold (R := inL) (L := blt) inL_refl (fun _ _ _ => inL_trans) blt_trans blt_total (metL p less)
  by_cases hk : PK p less = [p]
  · rw [termT_pk0 hk] at h; cases h
  · rw [termT_pk1 hk] at h
    cases h
    exact ⟨hb.2, hb.1.anti, hk⟩
theorem grG_id {α : Type} {R : α → α → Prop} {l : List α} (h : l.Pairwise fun x y => ¬ R x y ∧ ¬ R y x) : grG R l = l := by
  have go : ∀ (l k : List α), (k ++ l).Pairwise (fun x y => ¬ R x y ∧ ¬ R y x) → l.foldl (addG R) k = k ++ l := by
    intro l
    induction l with
    | nil => intro k _; simp
    | cons x l ih =>
      intro k h
      have hk : ∀ y ∈ k, ¬ R y x ∧ ¬ R x y := fun y hy => (List.pairwise_append.1 h).2.2 y hy x (by simp)
      have e : addG R k x = k ++ [x] := by
        rw [addG_out fun y hy hR => (hk y hy).2 hR]
        congr 1
        exact List.filter_eq_self.2 fun y hy => by simpa using (hk y hy).1
      rw [List.foldl_cons, e, ih _ (by simpa using h)]
      simp
  have h0 := go l [] (by simpa using h)
  rw [List.nil_append] at h0
  exact h0
structure InF (ts : List Term) : Prop where
  t : ∀ t ∈ ts, TermF t
  anti : ts.Pairwise fun x y => ¬ covT x y ∧ ¬ covT y x
  sorted : ts.Pairwise aheadT
theorem InF.nil : InF [] := ⟨by simp, by simp, by simp⟩
theorem formT_inF {n : Nat} {l : List Term} (hg : ∀ t ∈ l, GoodT n t) (hf : ∀ t ∈ l, TermF t) : InF (formT l) := by
  have ha := grG_anti covT_trans l fun t ht => covT_refl (hg t ht).ok
  have hp := srt_perm aheadT (grG covT l)
  refine ⟨fun t ht => hf t (formT_mem ht), (hp.pairwise_iff fun {a b} h => ⟨h.2, h.1⟩).2 ha.anti, ?_⟩
  refine srt_sorted ahead_trans _ ?_
  exact (grG_differ fun t ht => (hg t ht).ok).imp ahead_total
theorem formT_id {n : Nat} {ts : List Term} (hg : ∀ t ∈ ts, GoodT n t) (hf : InF ts) : formT ts = ts := by
  unfold formT
  rw [grG_id hf.anti]
  refine (srt_uniq ahead_irrefl ahead_trans ?_ (.refl _) hf.sorted).symm
  exact hf.anti.imp_of_mem fun {a b} ha _ h => ahead_total fun e => h.1 (by rw [← e]; exact covT_refl (hg a ha).ok)
theorem trms_form {ms : List (List Str)} : ∀ t ∈ trms ms, TermF t := by
  intro t ht
  obtain ⟨m, hm, h⟩ := List.mem_filterMap.1 ht
  exact termT_form h
theorem parO_inF (b : Int) (s : Str) : InF (parO b s).2.2 := by
  by_cases h1 : 33024 < s.length
  · rw [parO_long h1]; exact .nil
  by_cases h2 : b < 1 ∨ 256 < b
  · rw [parO_arg h1 h2]; exact .nil
  by_cases h3 : s = [110, 111, 110, 101]
  · rw [parO_none h1 h2 h3]; exact .nil
  by_cases h4 : OkP b (pieces s)
  · by_cases h5 : 128 < cntP (pieces s)
    · rw [parO_many h1 h2 h3 h4 h5]; exact .nil
    · rw [parO_form h1 h2 h3 h4 h5]
      exact formT_inF (trms_good (fun m hm => (pieces_mem hm).1) h4) trms_form
  · rw [parO_word h1 h2 h3 h4]; exact .nil
theorem CN.no {c : Str} (h : CN c) {b : UInt8} (hb : b ≠ 48 ∧ b ≠ 49 ∧ b ≠ 120) : b ∉ c := fun hm => by
  rcases h.1.cub b hm with e | e | e
  · exact hb.1 e
  · exact hb.2.1 e
  · exact hb.2.2 e
end Go.Proofs.YtaiondckookpiaaDoor
namespace Go.Proofs.YtaiondckookpiaaDoor
open Go Go.Vx
section
variable {α : Type} {R L : α → α → Prop} {r b : α → α → Bool}
def addB (r : α → α → Bool) (k : List α) (x : α) : List α := if k.any (r x) = true then k else k.filter (fun y => !r y x) ++ [x]
def grB (r : α → α → Bool) (l : List α) : List α := l.foldl (addB r) []
def insB (b : α → α → Bool) (c : α) : List α → List α
  | [] => [c]
  | x :: q => if b c x = true then c :: x :: q else x :: insB b c q
def putB (r b : α → α → Bool) (k : List α) (c : α) : List α := if k.any (r c) = true then k else insB b c (k.filter fun x => !r x c)
def srtB (b : α → α → Bool) (l : List α) : List α := l.foldl (fun acc x => insB b x acc) []
theorem filt_eq (h : ∀ x y, R x y ↔ r x y = true) (k : List α) (x : α) [∀ y, Decidable (¬ R y x)] : k.filter (fun y => decide (¬ R y x)) = k.filter (fun y => !r y x) := by
  refine List.filter_congr fun y _ => ?_
  cases hr : r y x with
  | true => simp [(h y x).2 hr]
  | false =>
    have hn : ¬ R y x := fun e => by rw [(h y x).1 e] at hr; cases hr
    simp [hn]
theorem any_eq (h : ∀ x y, R x y ↔ r x y = true) (k : List α) (x : α) : (∃ y ∈ k, R x y) ↔ k.any (r x) = true := by simp [h]
theorem addG_eq (h : ∀ x y, R x y ↔ r x y = true) (k : List α) (x : α) : addG R k x = addB r k x := by
  unfold addG addB
  by_cases hk : k.any (r x) = true
  · rw [if_pos ((any_eq h k x).2 hk), if_pos hk]
  · rw [if_neg (fun e => hk ((any_eq h k x).1 e)), if_neg hk, filt_eq h]
theorem grG_eq (h : ∀ x y, R x y ↔ r x y = true) (l : List α) : grG R l = grB r l := by
  have e : addG R = addB r := by funext k x; exact addG_eq h k x
  unfold grG grB
  rw [e]
theorem insG_eq (h : ∀ x y, L x y ↔ b x y = true) (c : α) : ∀ l : List α, insG L c l = insB b c l
  | [] => rfl
  | x :: q => by
    unfold insG insB
    by_cases hk : b c x = true
    · rw [if_pos ((h c x).2 hk), if_pos hk]
    · rw [if_neg (fun e => hk ((h c x).1 e)), if_neg hk, insG_eq h c q]
theorem putG_eq (h : ∀ x y, R x y ↔ r x y = true) (h2 : ∀ x y, L x y ↔ b x y = true) (k : List α) (c : α) : putG R L k c = putB r b k c := by
  unfold putG putB
  by_cases hk : k.any (r c) = true
  · rw [if_pos ((any_eq h k c).2 hk), if_pos hk]
  · rw [if_neg (fun e => hk ((any_eq h k c).1 e)), if_neg hk, filt_eq h, insG_eq h2]
theorem srt_eq (h : ∀ x y, L x y ↔ b x y = true) (l : List α) : srt L l = srtB b l := by
  unfold srt srtB
  congr 1
  funext acc x
  exact insG_eq h x acc
end
def inB : Str → Str → Bool
  | [], [] => true
  | a :: c, b :: d => (b == 120 || b == a) && inB c d
  | _, _ => false
theorem inL_b : ∀ c d : Str, inL c d ↔ inB c d = true
  | [], [] => by simp [inL, inB]
  | [], _ :: _ => by simp [inL, inB]
  | _ :: _, [] => by simp [inL, inB]
  | a :: c, b :: d => by simp [inL, inB, inL_b c d]
def inTB (c d : Str) : Bool := !c.isEmpty && inB c d
theorem inT_b (c d : Str) : inT c d ↔ inTB c d = true := by
  unfold inT inTB
  rw [inL_b]
  cases c <;> simp
theorem blt_b (c d : Str) : blt c d ↔ Op.bytesLess c d = true := .rfl
def termB (p : Str) (less : List Str) : Option Term := if (metL p less).foldl (putB inB Op.bytesLess) [] = [p] then none else some ⟨p, (metL p less).foldl (putB inB Op.bytesLess) []⟩
theorem termT_b (p : Str) (less : List Str) : termT p less = termB p less := by
  have e : putG inL blt = putB inB Op.bytesLess := by funext k c; exact putG_eq inL_b blt_b k c
  unfold termT termB
  rw [e]
def covB (t u : Term) : Bool := inTB t.p u.p && u.less.all fun m => match meetT m t.p with | none => true | some c => t.less.any fun n => inTB c n
theorem covT_b (t u : Term) : covT t u ↔ covB t u = true := by
  unfold covT covB
  rw [inT_b, Bool.and_eq_true, List.all_eq_true]
  refine and_congr_right fun _ => forall_congr' fun m => forall_congr' fun _ => ?_
  cases meetT m t.p with
  | none => simp
  | some c => simp [inT_b]
def lexB : List Str → List Str → Bool
  | _, [] => false
  | [], _ :: _ => true
  | x :: a, y :: b => Op.bytesLess x y || (x == y && lexB a b)
theorem lexL_b : ∀ a b : List Str, lexL a b ↔ lexB a b = true
  | a, [] => by cases a <;> simp [lexL, lexB]
  | [], _ :: _ => by simp [lexL, lexB]
  | x :: a, y :: b => by simp [lexL, lexB, lexL_b a b]
def formB (l : List Term) : List Term := srtB (fun t u => lexB (t.p :: t.less) (u.p :: u.less)) (grB covB l)
theorem formT_b (l : List Term) : formT l = formB l := by
  unfold formT formB
  rw [grG_eq covT_b]
  exact srt_eq (L := aheadT) (b := fun t u => lexB (t.p :: t.less) (u.p :: u.less)) (fun t u => lexL_b _ _) _
theorem trms_b (ms : List (List Str)) : trms ms = ms.filterMap fun m => termB (m.headD []) m.tail := by
  unfold trms
  congr 1
  funext m
  exact termT_b _ _
instance (n : Int) (w : Str) : Decidable (OkW n w) := decidable_of_iff ((w.length : Int) = n ∧ (w.length ≤ 256 ∧ ∀ b ∈ w, b = 48 ∨ b = 49 ∨ b = 120) ∧ w ≠ []) ⟨fun h => ⟨h.1, ⟨h.2.1.1, h.2.1.2⟩, h.2.2⟩, fun h => ⟨h.1, ⟨h.2.1.1, h.2.1.2⟩, h.2.2⟩⟩
instance (n : Int) (ms : List (List Str)) : Decidable (OkP n ms) := inferInstanceAs (Decidable (∀ m ∈ ms, ∀ w ∈ m, OkW n w))
def exS : Str := [49, 48, 120, 120, 45, 49, 49, 49, 49, 45, 49, 48, 49, 120, 45, 49, 48, 49, 48, 43, 48, 120, 120, 120, 45, 49, 120, 120, 120]
def exT : List Term := [⟨[48, 120, 120, 120], []⟩, ⟨[49, 48, 120, 120], [[49, 48, 49, 120]]⟩]
theorem ex_form : formB ((pieces exS).filterMap fun m => termB (m.headD []) m.tail) = exT := by
  kernel_rfl
theorem parO_ex : parO 4 exS = (0, 4, exT) := by
  unfold parO
  rw [if_neg (by decide), if_neg (by decide), if_neg (by decide), if_neg (fun h => h (by decide)), if_neg (by decide), formT_b, trms_b, ex_form]
theorem text_ex : textS exT = [48, 120, 120, 120, 43, 49, 48, 120, 120, 45, 49, 48, 49, 120] := by
  unfold textS
  rw [if_neg (by simp [exT])]
  decide
theorem sptext_at {n : Int} {ts : List Term} (hf : Fine n ts) (ks : List TR) (rm : List (List D)) (h1 : ks.map TR.t = ts) : FSpec Tryd.prog T 15 [.agg [.i .i64 n, .lst 81 (ks.map trow) rm]] (fun d _ => d = .s (textS ts)) := by
  have h := text2_at n.toNat ks (room := rm) (hf.sp h1) rfl
  rw [hf.cast, h1] at h
  exact h
theorem spsize_at {n : Int} {ts : List Term} (hf : Fine n ts) (ks : List TR) (rm : List (List D)) (h1 : ks.map TR.t = ts) : FSpec Tryd.prog T 32 [.agg [.i .i64 n, .lst 81 (ks.map trow) rm]] (fun d _ => d = .i .i64 (szT ts : Nat)) := by
  have h := size_at n ks (room := rm) (hf.mlen h1) (hf.mless h1) rfl
  rw [h1] at h
  exact h
set_option maxHeartbeats 4000000 in
theorem awake_at : FSpec Tryd.prog T 17 [] (fun r _ => r = .b True) := by
  have hp := parse2_at 4 exS
  have hf := parO_fine 4 exS
  unfold POut at hp
  rw [parO_ex] at hp hf
  have htx := fun ks rm h1 => sptext_at hf ks rm h1
  have hsz := fun ks rm h1 => spsize_at hf ks rm h1
  dsimp only at hp htx hsz
  rw [text_ex] at htx
  rw [show szT exT = 3 from rfl] at hsz
  refine FSpec.of_ok tok Tryd.func17 rfl Tryd.call17 (by simp) ?_
  (try (conv => whnf)); repeat' (first | refine Ok.seq ?_ | refine OkL.cons ?_ | ((first | refine Ok.region tok ?_ | refine Ok.region_draw tok follows (by kernel_rfl) ?_ | refine Ok.cond ?_); conv => whnf) | refine Ok.block ?_ | ((first | refine Ok.skip ?_ | refine Ok.exit ?_ | refine Ok.ret ?_ | refine nI ?_ | refine ix _ (by assumption) ?_ | refine ixI (by omega) (by assumption) ?_ | refine ix_new _ (by omega) fun _ _ => ?_ | refine ixI_new (by omega) (by omega) fun _ _ => ?_ | refine ⟨_, by assumption, ?_⟩); conv => whnf) | (refine Or.inl ?_; (conv => whnf); (repeat (refine aI ?_; conv => whnf)); refine ⟨_, htx ks rm hk, rfl, ?_⟩; conv => whnf) | (refine Or.inl ?_; (conv => whnf); (repeat (refine aI ?_; conv => whnf)); refine ⟨_, hsz ks rm hk, rfl, ?_⟩; conv => whnf) | (refine Or.inl ?_; (conv => whnf); (repeat (refine aI ?_; conv => whnf)); refine ⟨_, bits_at 4 (.lst 81 (ks.map trow) rm) ⟨_, _, _, rfl⟩, rfl, ?_⟩; conv => whnf) | ((first | refine ⟨_, htx ks rm hk, rfl, ?_⟩ | refine ⟨_, hsz ks rm hk, rfl, ?_⟩ | refine ⟨_, bits_at 4 (.lst 81 (ks.map trow) rm) ⟨_, _, _, rfl⟩, rfl, ?_⟩); conv => whnf) | (refine Or.inr (Or.inl ?_); (conv => whnf); (repeat (refine aI ?_; conv => whnf)); refine ⟨_, htx ks rm hk, ?_⟩; rintro _ _ ⟨rfl, rfl⟩; conv => whnf) | (refine Or.inr (Or.inl ?_); (conv => whnf); (repeat (refine aI ?_; conv => whnf)); refine ⟨_, hsz ks rm hk, ?_⟩; rintro _ _ ⟨rfl, rfl⟩; conv => whnf) | (refine Or.inr (Or.inl ?_); (conv => whnf); (repeat (refine aI ?_; conv => whnf)); refine ⟨_, bits_at 4 (.lst 81 (ks.map trow) rm) ⟨_, _, _, rfl⟩, ?_⟩; rintro _ _ ⟨rfl, rfl⟩; conv => whnf) | (refine Or.inr (Or.inl ?_); (conv => whnf); (repeat (refine aI ?_; conv => whnf)); refine ⟨_, hp , ?_⟩; rintro _ _ ⟨rfl, _, rfl, ks, rm, rfl, hk⟩ <;> (conv => whnf)) | ((first | refine Alt2.l (aI ?_) | refine Alt2.r (aI ?_)); conv => whnf) | (refine Ok.scope ?_) | ((first | refine Ok.label ?_ | refine rd rfl (by assumption) ?_ | refine ⟨_, .inl ⟨rfl, rfl⟩, ?_⟩ | refine ⟨_, _, rfl, rfl, ?_⟩); conv => whnf) | (refine ⟨fun _ => ?_, fun _ => ?_⟩ <;> (conv => whnf) <;> (try (exfalso; omega))) | ((first | refine aJ ?_ | refine num_any ?_ | refine ⟨_, rfl, ?_⟩); conv => whnf) | fail)
  all_goals first
    | (rename_i h; exact absurd rfl h)
    | (refine Or.inl ?_; (conv => whnf)
       exact congrArg D.b (propext ⟨fun _ => trivial, fun _ => rfl⟩))
end Go.Proofs.YtaiondckookpiaaDoor
namespace Go.Proofs.YtaiondckookpiaaDoor
open Go Go.Vx
theorem parO_cases (b : Int) (s : Str) : (∃ e, e ≠ 0 ∧ parO b s = (e, 0, [])) ∨ (1 ≤ b ∧ b ≤ 256 ∧ s.length ≤ 33024 ∧ ((s = [110, 111, 110, 101] ∧ parO b s = (0, b, [])) ∨ (s ≠ [110, 111, 110, 101] ∧ OkP b (pieces s) ∧ parO b s = (0, b, formT (trms (pieces s)))))) := by
  by_cases h1 : 33024 < s.length
  · exact .inl ⟨2, by decide, parO_long h1⟩
  by_cases h2 : b < 1 ∨ 256 < b
  · exact .inl ⟨1, by decide, parO_arg h1 h2⟩
  by_cases h3 : s = [110, 111, 110, 101]
  · exact .inr ⟨by omega, by omega, by omega, .inl ⟨h3, parO_none h1 h2 h3⟩⟩
  by_cases h4 : OkP b (pieces s)
  · by_cases h5 : 128 < cntP (pieces s)
    · exact .inl ⟨3, by decide, parO_many h1 h2 h3 h4 h5⟩
    · exact .inr ⟨by omega, by omega, by omega, .inr ⟨h3, h4, parO_form h1 h2 h3 h4 h5⟩⟩
  · exact .inl ⟨20, by decide, parO_word h1 h2 h3 h4⟩
end Go.Proofs.YtaiondckookpiaaDoor
namespace Go.Proofs.YtaiondckookpiaaDoor
open Go Go.Vx
structure Can (n : Nat) (t : Term) : Prop where
  g : GoodT n t
  f : TermF t
theorem anti_eq {α : Type} {R : α → α → Prop} {k : List α} (h : k.Pairwise fun x y => ¬ R x y ∧ ¬ R y x) {x y : α} (hx : x ∈ k) (hy : y ∈ k) (hr : R x y) : x = y := by
  obtain ⟨i, hi⟩ := List.getElem?_of_mem hx
  obtain ⟨j, hj⟩ := List.getElem?_of_mem hy
  obtain ⟨hil, hi2⟩ := List.getElem?_eq_some_iff.1 hi
  obtain ⟨hjl, hj2⟩ := List.getElem?_eq_some_iff.1 hj
  rcases Nat.lt_trichotomy i j with hlt | he | hlt
  · have := List.pairwise_iff_getElem.1 h i j hil hjl hlt
    rw [hi2, hj2] at this
    exact absurd hr this.1
  · subst he
    rw [hi] at hj
    exact Option.some.inj hj
  · have := List.pairwise_iff_getElem.1 h j i hjl hil hlt
    rw [hi2, hj2] at this
    exact absurd hr this.2
theorem anti_sub {α : Type} {R : α → α → Prop} (ht : ∀ x y z, R x y → R y z → R x z) {k k' : List α} (ha : ∀ x ∈ k, ∀ y ∈ k', R x y → R y x → x = y) (h : k.Pairwise fun x y => ¬ R x y ∧ ¬ R y x)
    (h1 : ∀ x ∈ k, ∃ y ∈ k', R x y) (h2 : ∀ y ∈ k', ∃ x ∈ k, R y x) : ∀ x ∈ k, x ∈ k' := by
  intro x hx
  obtain ⟨y, hy, hxy⟩ := h1 x hx
  obtain ⟨z, hz, hyz⟩ := h2 y hy
  have := anti_eq h hx hz (ht _ _ _ hxy hyz)
  rw [← this] at hyz
  rw [ha x hx y hy hxy hyz]
  exact hy
theorem nodup_of {α : Type} {L : α → α → Prop} (hirr : ∀ x, ¬ L x x) {l : List α} (h : l.Pairwise L) : l.Nodup :=
  h.imp fun {a b} hab => (fun e : a = b => hirr a (by rw [← e] at hab; exact hab) : a ≠ b)
theorem inL_trans3 : ∀ x y z : Str, inL x y → inL y z → inL x z := fun _ _ _ => inL_trans
theorem covT_anti {n : Nat} {t u : Term} (ht : Can n t) (hu : Can n u) (h1 : covT t u) (h2 : covT u t) : t = u := by
  have hp : t.p = u.p := inL_antisymm h1.1.2 h2.1.2
  have c1 : ∀ m ∈ u.less, ∃ x ∈ t.less, inL m x := fun m hm => by
    have hmu := hu.g.ok.less m hm
    have hmm : meetT m t.p = some m := by rw [hp, meetT_eq (hu.g.less m hm).2]; exact meetL_self.2 hmu
    obtain ⟨x, hx, hi⟩ := h1.2 m hm m hmm
    exact ⟨x, hx, hi.2⟩
  have c2 : ∀ m ∈ t.less, ∃ x ∈ u.less, inL m x := fun m hm => by
    have hmu := ht.g.ok.less m hm
    have hmm : meetT m u.p = some m := by rw [← hp, meetT_eq (ht.g.less m hm).2]; exact meetL_self.2 hmu
    obtain ⟨x, hx, hi⟩ := h2.2 m hm m hmm
    exact ⟨x, hx, hi.2⟩
  have s1 := anti_sub inL_trans3 (fun _ _ _ _ a b => inL_antisymm a b) ht.f.anti c2 c1
  have s2 := anti_sub inL_trans3 (fun _ _ _ _ a b => inL_antisymm a b) hu.f.anti c1 c2
  have n1 : t.less.Nodup := nodup_of blt_irrefl ht.f.sorted
  have n2 : u.less.Nodup := nodup_of blt_irrefl hu.f.sorted
  have hperm : t.less.Perm u.less := (List.perm_ext_iff_of_nodup n1 n2).2 fun x => ⟨s1 x, s2 x⟩
  have hl := sorted_uniq blt_irrefl blt_trans hperm ht.f.sorted hu.f.sorted
  obtain ⟨p, l⟩ := t
  obtain ⟨p2, l2⟩ := u
  dsimp only at hp hl
  rw [hp, hl]
def leT (l k : List Term) : Prop := ∀ t ∈ l, ∃ u ∈ k, covT t u
theorem leT.trans {a b c : List Term} (h : leT a b) (k : leT b c) : leT a c := fun t ht => by
  obtain ⟨u, hu, h1⟩ := h t ht
  obtain ⟨v, hv, h2⟩ := k u hu
  exact ⟨v, hv, covT_trans _ _ _ h1 h2⟩
theorem leT.of_sub {n : Nat} {a b : List Term} (hg : ∀ t ∈ a, GoodT n t) (h : ∀ t ∈ a, t ∈ b) : leT a b := fun t ht => ⟨t, h t ht, covT_refl (hg t ht).ok⟩
theorem leT.app {a b c : List Term} (h : leT a c) (k : leT b c) : leT (a ++ b) c := fun t ht => (List.mem_append.1 ht).elim (h t) (k t)
theorem leT.inl {a b c : List Term} (h : leT a b) : leT a (b ++ c) := fun t ht => let ⟨u, hu, h1⟩ := h t ht; ⟨u, List.mem_append_left _ hu, h1⟩
theorem leT.inr {a b c : List Term} (h : leT a c) : leT a (b ++ c) := fun t ht => let ⟨u, hu, h1⟩ := h t ht; ⟨u, List.mem_append_right _ hu, h1⟩
theorem leT.refl {n : Nat} {a : List Term} (hg : ∀ t ∈ a, GoodT n t) : leT a a := .of_sub hg fun _ h => h
theorem leT_form {n : Nat} {l : List Term} (hg : ∀ t ∈ l, GoodT n t) : leT (formT l) l ∧ leT l (formT l) := by
  have ha := grG_anti covT_trans l fun t ht => covT_refl (hg t ht).ok
  refine ⟨.of_sub (n := n) (fun t ht => hg t (formT_mem ht)) fun t ht => formT_mem ht, fun t ht => ?_⟩
  obtain ⟨u, hu, hc⟩ := ha.cov t ht
  exact ⟨u, (srt_perm aheadT _).mem_iff.2 hu, hc⟩
theorem formT_can {n : Nat} {l : List Term} (h : ∀ t ∈ l, Can n t) : ∀ t ∈ formT l, Can n t := fun t ht => h t (formT_mem ht)
theorem formT_same {n : Nat} {l k : List Term} (hl : ∀ t ∈ l, Can n t) (hk : ∀ t ∈ k, Can n t) (h1 : leT l k) (h2 : leT k l) : formT l = formT k := by
  have i1 := formT_inF (fun t ht => (hl t ht).g) fun t ht => (hl t ht).f
  have i2 := formT_inF (fun t ht => (hk t ht).g) fun t ht => (hk t ht).f
  have f1 := leT_form fun t ht => (hl t ht).g
  have f2 := leT_form fun t ht => (hk t ht).g
  have le1 : leT (formT l) (formT k) := (f1.1.trans h1).trans f2.2
  have le2 : leT (formT k) (formT l) := (f2.1.trans h2).trans f1.2
  have s1 := anti_sub covT_trans (fun x hx y hy a b => covT_anti (formT_can hl x hx) (formT_can hk y hy) a b) i1.anti le1 le2
  have s2 := anti_sub covT_trans (fun x hx y hy a b => covT_anti (formT_can hk x hx) (formT_can hl y hy) a b) i2.anti le2 le1
  have n1 : (formT l).Nodup := nodup_of ahead_irrefl i1.sorted
  have n2 : (formT k).Nodup := nodup_of ahead_irrefl i2.sorted
  exact sorted_uniq ahead_irrefl ahead_trans ((List.perm_ext_iff_of_nodup n1 n2).2 fun x => ⟨s1 x, s2 x⟩) i1.sorted i2.sorted
theorem meet2_can {n : Nat} {a b t : Term} (ha : Can n a) (hb : Can n b) (h : meet2 a b = some t) : Can n t := by
  refine ⟨meet2_good ha.g hb.g h, ?_⟩
  unfold meet2 at h
  obtain ⟨p, _, ht⟩ := Option.bind_eq_some_iff.1 h
  exact termT_form ht
theorem meets_can {n : Nat} {ts us : List Term} (h1 : ∀ t ∈ ts, Can n t) (h2 : ∀ t ∈ us, Can n t) : ∀ t ∈ meets ts us, Can n t := by
  intro t ht
  obtain ⟨a, ha, ht⟩ := List.mem_flatMap.1 ht
  obtain ⟨b, hb, hab⟩ := List.mem_filterMap.1 ht
  exact meet2_can (h1 a ha) (h2 b hb) hab
theorem PK_cov {p : Str} {less : List Str} : ∀ c ∈ metL p less, ∃ y ∈ PK p less, inL c y :=
  (putG_fold (R := inL) (L := blt) inL_refl (fun _ _ _ => inL_trans) blt_trans blt_total (metL p less)).1.cov
theorem PK_sub {p : Str} {less : List Str} : ∀ c ∈ PK p less, c ∈ metL p less :=
  (putG_fold (R := inL) (L := blt) inL_refl (fun _ _ _ => inL_trans) blt_trans blt_total (metL p less)).1.sub
theorem termT_eq {p : Str} {less : List Str} {t : Term} (h : termT p less = some t) : t = ⟨p, PK p less⟩ := by
  by_cases hk : PK p less = [p]
  · rw [termT_pk0 hk] at h; cases h
  · rw [termT_pk1 hk] at h; exact (Option.some.inj h).symm
theorem termT_low {p q : Str} {less m : List Str} {t : Term} (hp0 : p ≠ []) (h : termT p less = some t) (hpq : inL p q) (hm : ∀ x ∈ m, x ∈ less) : covT t ⟨q, m⟩ := by
  rw [termT_eq h]
  refine ⟨⟨hp0, hpq⟩, fun x hx c hc => ?_⟩
  obtain ⟨y, hy, hcy⟩ := PK_cov c (List.mem_filterMap.2 ⟨x, hm x hx, hc⟩)
  refine ⟨y, hy, fun e => hp0 ?_, hcy⟩
  by_cases hx0 : x = []
  · rw [hx0] at hc; simp [meetT] at hc
  · rw [meetT_eq hx0] at hc
    have := inL_len (meetL_in hc).2
    rw [e] at this
    exact List.eq_nil_of_length_eq_zero this.symm
theorem meet2_low {n : Nat} {a b t : Term} (ha : GoodT n a) (hb : GoodT n b) (h : meet2 a b = some t) : covT t a ∧ covT t b := by
  unfold meet2 at h
  obtain ⟨p, hp, ht⟩ := Option.bind_eq_some_iff.1 h
  have hm := meetT_ct hp ha.p.1 hb.p.1
  have hp0 : p ≠ [] := fun e => hm.2.2 (List.eq_nil_of_length_eq_zero (by rw [← hm.2.1, e]; rfl))
  have hne : a.p ≠ [] := ha.p.2
  rw [meetT_eq hne] at hp
  have hi := meetL_in hp
  exact ⟨termT_low hp0 ht hi.1 fun x hx => List.mem_append_left _ hx, termT_low hp0 ht hi.2 fun x hx => List.mem_append_right _ hx⟩
theorem meet2_glb {n : Nat} {x a b : Term} (hx : Can n x) (ha : GoodT n a) (hb : GoodT n b) (h1 : covT x a) (h2 : covT x b) : ∃ t, meet2 a b = some t ∧ covT x t := by
  obtain ⟨p, hp, hxp⟩ := meetL_glb h1.1.2 h2.1.2
  have hpm : meetT a.p b.p = some p := by rw [meetT_eq ha.p.2]; exact hp
  have hpn : p ≠ [] := fun e => hx.g.p.2 (by have := inL_len hxp; rw [e] at this; exact List.eq_nil_of_length_eq_zero this)
  -- what x leaves out covers what a and b leave out
  have key : ∀ m ∈ a.less ++ b.less, ∀ c, meetT m x.p = some c → ∃ y ∈ x.less, inT c y := fun m hm c hc => by
    rcases List.mem_append.1 hm with hm | hm
    · exact h1.2 m hm c hc
    · exact h2.2 m hm c hc
  have hmn : ∀ m ∈ a.less ++ b.less, m ≠ [] := fun m hm => by
    rcases List.mem_append.1 hm with hm | hm
    · exact (ha.less m hm).2
    · exact (hb.less m hm).2
  have hm2 : meet2 a b = termT p (a.less ++ b.less) := by unfold meet2; rw [hpm]; rfl
  rw [hm2]
  by_cases hk : PK p (a.less ++ b.less) = [p]
  · exfalso
    have hpk : p ∈ metL p (a.less ++ b.less) := PK_sub p (by rw [hk]; simp)
    obtain ⟨m, hm, hmp⟩ := List.mem_filterMap.1 hpk
    rw [meetT_eq (hmn m hm)] at hmp
    have hpm2 := (meetL_in hmp).1
    obtain ⟨c, hc, hxc⟩ := meetL_glb (inL_trans hxp hpm2) (inL_refl x.p)
    have hcx := (meetL_in hc).2
    have hce : c = x.p := inL_antisymm hcx hxc
    obtain ⟨y, hy, hcy⟩ := key m hm c (by rw [meetT_eq (hmn m hm)]; exact hc)
    have hyx := hx.g.ok.less y hy
    have hye : y = x.p := inL_antisymm hyx (by rw [← hce]; exact hcy.2)
    subst hye
    refine hx.f.proper ?_
    have hall := hx.g.ok.less
    have hanti := hx.f.anti
    have hone : ∀ z ∈ x.less, z = x.p := fun z hz => anti_eq hanti hz hy (hall z hz)
    match hl : x.less, hy, hone, hanti with
    | [], hy, _, _ => cases hy
    | [z], _, hone, _ => rw [hone z (by simp)]
    | z :: w :: r, _, hone, hanti =>
      have := (List.pairwise_cons.1 hanti).1 w (by simp)
      rw [hone z (by simp), hone w (by simp)] at this
      exact absurd (inL_refl _) this.1
  · refine ⟨_, termT_pk1 hk, ⟨hx.g.p.2, hxp⟩, fun m hm c hc => ?_⟩
    obtain ⟨y, hy, hym⟩ := List.mem_filterMap.1 (PK_sub m hm)
    have hyn := hmn y hy
    rw [meetT_eq hyn] at hym
    have hmy := (meetL_in hym).1
    by_cases hm0 : m = []
    · rw [hm0] at hc; simp [meetT] at hc
    · rw [meetT_eq hm0] at hc
      have hci := meetL_in hc
      obtain ⟨c2, hc2, hcc⟩ := meetL_glb (inL_trans hci.1 hmy) hci.2
      obtain ⟨z, hz, hcz⟩ := key y hy c2 (by rw [meetT_eq hyn]; exact hc2)
      refine ⟨z, hz, fun e => hm0 ?_, inL_trans hcc hcz.2⟩
      have := inL_len hci.1
      rw [e] at this
      exact List.eq_nil_of_length_eq_zero this.symm
theorem leT_meets {n : Nat} {ts us : List Term} (h1 : ∀ t ∈ ts, Can n t) (h2 : ∀ t ∈ us, Can n t) : leT (meets ts us) ts ∧ leT (meets ts us) us := by
  refine ⟨fun t ht => ?_, fun t ht => ?_⟩
  all_goals
    obtain ⟨a, ha, ht⟩ := List.mem_flatMap.1 ht
    obtain ⟨b, hb, hab⟩ := List.mem_filterMap.1 ht
    have := meet2_low (h1 a ha).g (h2 b hb).g hab
  · exact ⟨a, ha, this.1⟩
  · exact ⟨b, hb, this.2⟩
theorem leT_glb {n : Nat} {x ts us : List Term} (hx : ∀ t ∈ x, Can n t) (h1 : ∀ t ∈ ts, Can n t) (h2 : ∀ t ∈ us, Can n t) (k1 : leT x ts) (k2 : leT x us) : leT x (meets ts us) := by
  intro t ht
  obtain ⟨a, ha, hta⟩ := k1 t ht
  obtain ⟨b, hb, htb⟩ := k2 t ht
  obtain ⟨m, hm, htm⟩ := meet2_glb (hx t ht) (h1 a ha).g (h2 b hb).g hta htb
  exact ⟨m, List.mem_flatMap.2 ⟨a, ha, List.mem_filterMap.2 ⟨b, hb, hm⟩⟩, htm⟩
end Go.Proofs.YtaiondckookpiaaDoor
namespace Go.Proofs.YtaiondckookpiaaDoor
open Go Go.Vx
section
variable {n : Nat} {a b c : List Term}
theorem can_app (h1 : ∀ t ∈ a, Can n t) (h2 : ∀ t ∈ b, Can n t) : ∀ t ∈ a ++ b, Can n t := fun t ht => (List.mem_append.1 ht).elim (h1 t) (h2 t)
theorem leT.g (h : ∀ t ∈ a, Can n t) : leT a a := .refl (n := n) fun t ht => (h t ht).g
theorem fle (h : ∀ t ∈ a, Can n t) : leT (formT a) a := (leT_form (n := n) fun t ht => (h t ht).g).1
theorem lef (h : ∀ t ∈ a, Can n t) : leT a (formT a) := (leT_form (n := n) fun t ht => (h t ht).g).2
theorem j_comm (h1 : ∀ t ∈ a, Can n t) (h2 : ∀ t ∈ b, Can n t) : formT (a ++ b) = formT (b ++ a) :=
  formT_same (can_app h1 h2) (can_app h2 h1) (((leT.g h1).inr).app ((leT.g h2).inl)) (((leT.g h2).inr).app ((leT.g h1).inl))
theorem m_comm (h1 : ∀ t ∈ a, Can n t) (h2 : ∀ t ∈ b, Can n t) : formT (meets a b) = formT (meets b a) := by
  have c1 := meets_can h1 h2
  have c2 := meets_can h2 h1
  have l1 := leT_meets h1 h2
  have l2 := leT_meets h2 h1
  exact formT_same c1 c2 (leT_glb c1 h2 h1 l1.2 l1.1) (leT_glb c2 h1 h2 l2.2 l2.1)
theorem j_idem (h : ∀ t ∈ a, Can n t) (hi : InF a) : formT (a ++ a) = a := by
  rw [formT_same (can_app h h) h ((leT.g h).app (leT.g h)) ((leT.g h).inl), formT_id (fun t ht => (h t ht).g) hi]
theorem m_idem (h : ∀ t ∈ a, Can n t) (hi : InF a) : formT (meets a a) = a := by
  have c1 := meets_can h h
  rw [formT_same c1 h (leT_meets h h).1 (leT_glb h h h (leT.g h) (leT.g h)), formT_id (fun t ht => (h t ht).g) hi]
theorem j_assoc (h1 : ∀ t ∈ a, Can n t) (h2 : ∀ t ∈ b, Can n t) (h3 : ∀ t ∈ c, Can n t) : formT (formT (a ++ b) ++ c) = formT (a ++ formT (b ++ c)) := by
  have c1 := can_app h1 h2
  have c2 := can_app h2 h3
  refine formT_same (can_app (formT_can c1) h3) (can_app h1 (formT_can c2)) ?_ ?_
  · exact ((fle c1).trans (((leT.g h1).inl).app ((((leT.g h2).inl (c := c)).trans (lef c2)).inr))).app ((((leT.g h3).inr (b := b)).trans (lef c2)).inr)
  · exact ((((leT.g h1).inl (c := b)).trans (lef c1)).inl).app ((fle c2).trans (((((leT.g h2).inr (b := a)).trans (lef c1)).inl).app ((leT.g h3).inr)))
theorem m_assoc (h1 : ∀ t ∈ a, Can n t) (h2 : ∀ t ∈ b, Can n t) (h3 : ∀ t ∈ c, Can n t) : formT (meets (formT (meets a b)) c) = formT (meets a (formT (meets b c))) := by
  have c1 := meets_can h1 h2
  have c2 := meets_can h2 h3
  have d1 := meets_can (formT_can c1) h3
  have d2 := meets_can h1 (formT_can c2)
  have l1 := leT_meets h1 h2
  have l2 := leT_meets h2 h3
  have k1 := leT_meets (formT_can c1) h3
  have k2 := leT_meets h1 (formT_can c2)
  have x1 := k1.1.trans (fle c1)
  have x2 := k2.2.trans (fle c2)
  exact formT_same d1 d2 (leT_glb d1 h1 (formT_can c2) (x1.trans l1.1) ((leT_glb d1 h2 h3 (x1.trans l1.2) k1.2).trans (lef c2)))
    (leT_glb d2 (formT_can c1) h3 ((leT_glb d2 h1 h2 k2.1 (x2.trans l2.1)).trans (lef c1)) (x2.trans l2.2))
theorem meets_app (h1 : ∀ t ∈ a, Can n t) (h2 : ∀ t ∈ b, Can n t) (h3 : ∀ t ∈ c, Can n t) : leT (meets a (b ++ c)) (meets a b ++ meets a c) := by
  intro t ht
  have hg := meets_can h1 (can_app h2 h3) t ht
  obtain ⟨x, hx, ht⟩ := List.mem_flatMap.1 ht
  obtain ⟨y, hy, hxy⟩ := List.mem_filterMap.1 ht
  refine ⟨t, ?_, covT_refl hg.g.ok⟩
  rcases List.mem_append.1 hy with hy | hy
  · exact List.mem_append_left _ (List.mem_flatMap.2 ⟨x, hx, List.mem_filterMap.2 ⟨y, hy, hxy⟩⟩)
  · exact List.mem_append_right _ (List.mem_flatMap.2 ⟨x, hx, List.mem_filterMap.2 ⟨y, hy, hxy⟩⟩)
theorem m_dist (h1 : ∀ t ∈ a, Can n t) (h2 : ∀ t ∈ b, Can n t) (h3 : ∀ t ∈ c, Can n t) : formT (meets a (formT (b ++ c))) = formT (formT (meets a b) ++ formT (meets a c)) := by
  have c1 := can_app h2 h3
  have m1 := meets_can h1 h2
  have m2 := meets_can h1 h3
  have d1 := meets_can h1 (formT_can c1)
  have k1 := leT_meets h1 (formT_can c1)
  have l1 := leT_meets h1 h2
  have l2 := leT_meets h1 h3
  refine formT_same d1 (can_app (formT_can m1) (formT_can m2)) ?_ ?_
  · exact ((leT_glb d1 h1 c1 k1.1 (k1.2.trans (fle c1))).trans (meets_app h1 h2 h3)).trans (((lef m1).inl).app ((lef m2).inr))
  · exact ((fle m1).trans (leT_glb m1 h1 (formT_can c1) l1.1 ((l1.2.inl (c := c)).trans (lef c1)))).app ((fle m2).trans (leT_glb m2 h1 (formT_can c1) l2.1 ((l2.2.inr (b := b)).trans (lef c1))))
theorem j_dist (h1 : ∀ t ∈ a, Can n t) (h2 : ∀ t ∈ b, Can n t) (h3 : ∀ t ∈ c, Can n t) : formT (a ++ formT (meets b c)) = formT (meets (formT (a ++ b)) (formT (a ++ c))) := by
  have c1 := can_app h1 h2
  have c2 := can_app h1 h3
  have m1 := meets_can h2 h3
  have f1 := formT_can c1
  have f2 := formT_can c2
  have d2 := meets_can f1 f2
  have l1 := leT_meets h2 h3
  have k2 := leT_meets f1 f2
  have d1 := can_app h1 (formT_can m1)
  refine formT_same d1 d2 ?_ ?_
  · refine leT_glb d1 f1 f2 ?_ ?_
    · exact (((leT.g h1).inl (c := b)).trans (lef c1)).app ((fle m1).trans ((l1.1.inr (b := a)).trans (lef c1)))
    · exact (((leT.g h1).inl (c := c)).trans (lef c2)).app ((fle m1).trans ((l1.2.inr (b := a)).trans (lef c2)))
  · intro t ht
    have hg := d2 t ht
    obtain ⟨x, hx, htx⟩ := (k2.1.trans (fle c1)) t ht
    obtain ⟨y, hy, hty⟩ := (k2.2.trans (fle c2)) t ht
    rcases List.mem_append.1 hx with hx | hx
    · exact ⟨x, List.mem_append_left _ hx, htx⟩
    · rcases List.mem_append.1 hy with hy | hy
      · exact ⟨y, List.mem_append_left _ hy, hty⟩
      · obtain ⟨m, hm, htm⟩ := meet2_glb hg (h2 x hx).g (h3 y hy).g htx hty
        obtain ⟨z, hz, hmz⟩ := (lef m1) m (List.mem_flatMap.2 ⟨x, hx, List.mem_filterMap.2 ⟨y, hy, hm⟩⟩)
        exact ⟨z, List.mem_append_right _ hz, covT_trans _ _ _ htm hmz⟩
end
theorem joinO_ok {n m : Int} {ts us : List Term} (h : (joinO n m ts us).1 = 0) : n = m ∧ joinO n m ts us = (0, n, formT (ts ++ us)) := by
  by_cases hf : fitP n m
  · rw [joinO_fit hf] at h ⊢
    exact ⟨hf.1, bndO_zero h⟩
  · rw [joinO_not hf] at h; cases h
theorem meetO_ok {n m : Int} {ts us : List Term} (h : (meetO n m ts us).1 = 0) : n = m ∧ meetO n m ts us = (0, n, formT (meets ts us)) := by
  by_cases hf : fitP n m
  · by_cases hl : ts.length * us.length ≤ 2048
    · rw [meetO_fit hf hl] at h ⊢
      exact ⟨hf.1, bndO_zero h⟩
    · unfold meetO at h; rw [if_pos hf, if_neg hl] at h; cases h
  · rw [meetO_not hf] at h; cases h
theorem InF.can {n : Int} {ts : List Term} (hf : Fine n ts) (hi : InF ts) : ∀ t ∈ ts, Can n.toNat t := fun t ht => ⟨hf.good t ht, hi.t t ht⟩
set_option maxHeartbeats 4000000 in
theorem alike_at {n m e f : Int} {ts us : List Term} (hf : Fine n ts) (hg : Fine m us) (ks kt : List TR) (rm rt : List (List D)) (h1 : ks.map TR.t = ts) (h2 : kt.map TR.t = us) (hh : e = 0 → f = 0 → n = m ∧ ts = us) :
    FSpec Tryd.prog T 23 [.agg [.i .i64 n, .lst 81 (ks.map trow) rm], .i .i64 e, .agg [.i .i64 m, .lst 81 (kt.map trow) rt], .i .i64 f] (fun r _ => r = .b True) := by
  have t1 := sptext_at hf ks rm h1
  have t2 := sptext_at hg kt rt h2
  have z1 := spsize_at hf ks rm h1
  have z2 := spsize_at hg kt rt h2
  have b1 := bits_at n (.lst 81 (ks.map trow) rm) ⟨_, _, _, rfl⟩
  have b2 := bits_at m (.lst 81 (kt.map trow) rt) ⟨_, _, _, rfl⟩
  have q1 : e = 0 → f = 0 → n = m := fun a b => (hh a b).1
  have q2 : e = 0 → f = 0 → textS ts = textS us := fun a b => by rw [(hh a b).2]
  have q3 : e = 0 → f = 0 → ((szT ts : Nat) : Int) = ((szT us : Nat) : Int) := fun a b => by rw [(hh a b).2]
  clear hh
  generalize textS ts = x1 at *
  generalize textS us = x2 at *
  generalize szT ts = y1 at *
  generalize szT us = y2 at *
  refine FSpec.of_ok tok Tryd.func23 rfl Tryd.call23 (by simp) ?_
  by_cases he : e = 0
  · by_cases hf0 : f = 0
    · have r1 := q1 he hf0
      have r2 := q2 he hf0
      have r3 := q3 he hf0
      subst he hf0 r1 r2
      (try (conv => whnf)); repeat' (first | (exact absurd rfl (by assumption)) | refine Ok.seq ?_ | refine OkL.cons ?_ | ((first | refine Ok.region tok ?_ | refine Ok.region_draw tok follows (by kernel_rfl) ?_ | refine Ok.cond ?_); conv => whnf) | refine Ok.block ?_ | ((first | refine Ok.skip ?_ | refine Ok.exit ?_ | refine Ok.ret ?_ | refine nI ?_ | refine ix _ (by assumption) ?_ | refine ixI (by omega) (by assumption) ?_ | refine ix_new _ (by omega) fun _ _ => ?_ | refine ixI_new (by omega) (by omega) fun _ _ => ?_ | refine ⟨_, by assumption, ?_⟩); conv => whnf) | (refine Or.inl ?_; (conv => whnf); (repeat (refine aI ?_; conv => whnf)); refine ⟨_, t1, rfl, ?_⟩; conv => whnf) | (refine Or.inl ?_; (conv => whnf); (repeat (refine aI ?_; conv => whnf)); refine ⟨_, t2, rfl, ?_⟩; conv => whnf) | (refine Or.inl ?_; (conv => whnf); (repeat (refine aI ?_; conv => whnf)); refine ⟨_, z1, rfl, ?_⟩; conv => whnf) | (refine Or.inl ?_; (conv => whnf); (repeat (refine aI ?_; conv => whnf)); refine ⟨_, z2, rfl, ?_⟩; conv => whnf) | (refine Or.inl ?_; (conv => whnf); (repeat (refine aI ?_; conv => whnf)); refine ⟨_, b1, rfl, ?_⟩; conv => whnf) | (refine Or.inl ?_; (conv => whnf); (repeat (refine aI ?_; conv => whnf)); refine ⟨_, b2, rfl, ?_⟩; conv => whnf) | ((first | refine ⟨_, t1, rfl, ?_⟩ | refine ⟨_, t2, rfl, ?_⟩ | refine ⟨_, z1, rfl, ?_⟩ | refine ⟨_, z2, rfl, ?_⟩ | refine ⟨_, b1, rfl, ?_⟩ | refine ⟨_, b2, rfl, ?_⟩); conv => whnf) | (refine Or.inr (Or.inl ?_); (conv => whnf); (repeat (refine aI ?_; conv => whnf)); refine ⟨_, t1, ?_⟩; rintro _ _ ⟨rfl, rfl⟩; conv => whnf) | (refine Or.inr (Or.inl ?_); (conv => whnf); (repeat (refine aI ?_; conv => whnf)); refine ⟨_, t2, ?_⟩; rintro _ _ ⟨rfl, rfl⟩; conv => whnf) | (refine Or.inr (Or.inl ?_); (conv => whnf); (repeat (refine aI ?_; conv => whnf)); refine ⟨_, z1, ?_⟩; rintro _ _ ⟨rfl, rfl⟩; conv => whnf) | (refine Or.inr (Or.inl ?_); (conv => whnf); (repeat (refine aI ?_; conv => whnf)); refine ⟨_, z2, ?_⟩; rintro _ _ ⟨rfl, rfl⟩; conv => whnf) | (refine Or.inr (Or.inl ?_); (conv => whnf); (repeat (refine aI ?_; conv => whnf)); refine ⟨_, b1, ?_⟩; rintro _ _ ⟨rfl, rfl⟩; conv => whnf) | (refine Or.inr (Or.inl ?_); (conv => whnf); (repeat (refine aI ?_; conv => whnf)); refine ⟨_, b2, ?_⟩; rintro _ _ ⟨rfl, rfl⟩; conv => whnf) | ((first | refine Alt2.l (aI ?_) | refine Alt2.r (aI ?_)); conv => whnf) | (refine Ok.scope ?_) | ((first | refine Ok.label ?_ | refine rd rfl (by assumption) ?_ | refine ⟨_, .inl ⟨rfl, rfl⟩, ?_⟩ | refine ⟨_, _, rfl, rfl, ?_⟩); conv => whnf) | (refine ⟨fun _ => ?_, fun _ => ?_⟩ <;> (conv => whnf) <;> (try (exfalso; omega))) | ((first | refine aJ ?_ | refine num_any ?_ | refine ⟨_, rfl, ?_⟩); conv => whnf) | fail)
      all_goals first
        | (exfalso; omega)
        | (refine Or.inl ?_; (conv => whnf)
           exact congrArg D.b (propext ⟨fun _ => trivial, fun _ => by omega⟩))
        | trace_state
    · (try (conv => whnf)); repeat' (first | (exact absurd hf0 (by assumption)) | refine Ok.seq ?_ | refine OkL.cons ?_ | ((first | refine Ok.region tok ?_ | refine Ok.region_draw tok follows (by kernel_rfl) ?_ | refine Ok.cond ?_); conv => whnf) | refine Ok.block ?_ | ((first | refine Ok.skip ?_ | refine Ok.exit ?_ | refine Ok.ret ?_ | refine nI ?_ | refine ix _ (by assumption) ?_ | refine ixI (by omega) (by assumption) ?_ | refine ix_new _ (by omega) fun _ _ => ?_ | refine ixI_new (by omega) (by omega) fun _ _ => ?_ | refine ⟨_, by assumption, ?_⟩); conv => whnf) | (refine Or.inl ?_; (conv => whnf); (repeat (refine aI ?_; conv => whnf)); refine ⟨_, t1, rfl, ?_⟩; conv => whnf) | (refine Or.inl ?_; (conv => whnf); (repeat (refine aI ?_; conv => whnf)); refine ⟨_, t2, rfl, ?_⟩; conv => whnf) | (refine Or.inl ?_; (conv => whnf); (repeat (refine aI ?_; conv => whnf)); refine ⟨_, z1, rfl, ?_⟩; conv => whnf) | (refine Or.inl ?_; (conv => whnf); (repeat (refine aI ?_; conv => whnf)); refine ⟨_, z2, rfl, ?_⟩; conv => whnf) | (refine Or.inl ?_; (conv => whnf); (repeat (refine aI ?_; conv => whnf)); refine ⟨_, b1, rfl, ?_⟩; conv => whnf) | (refine Or.inl ?_; (conv => whnf); (repeat (refine aI ?_; conv => whnf)); refine ⟨_, b2, rfl, ?_⟩; conv => whnf) | ((first | refine ⟨_, t1, rfl, ?_⟩ | refine ⟨_, t2, rfl, ?_⟩ | refine ⟨_, z1, rfl, ?_⟩ | refine ⟨_, z2, rfl, ?_⟩ | refine ⟨_, b1, rfl, ?_⟩ | refine ⟨_, b2, rfl, ?_⟩); conv => whnf) | (refine Or.inr (Or.inl ?_); (conv => whnf); (repeat (refine aI ?_; conv => whnf)); refine ⟨_, t1, ?_⟩; rintro _ _ ⟨rfl, rfl⟩; conv => whnf) | (refine Or.inr (Or.inl ?_); (conv => whnf); (repeat (refine aI ?_; conv => whnf)); refine ⟨_, t2, ?_⟩; rintro _ _ ⟨rfl, rfl⟩; conv => whnf) | (refine Or.inr (Or.inl ?_); (conv => whnf); (repeat (refine aI ?_; conv => whnf)); refine ⟨_, z1, ?_⟩; rintro _ _ ⟨rfl, rfl⟩; conv => whnf) | (refine Or.inr (Or.inl ?_); (conv => whnf); (repeat (refine aI ?_; conv => whnf)); refine ⟨_, z2, ?_⟩; rintro _ _ ⟨rfl, rfl⟩; conv => whnf) | (refine Or.inr (Or.inl ?_); (conv => whnf); (repeat (refine aI ?_; conv => whnf)); refine ⟨_, b1, ?_⟩; rintro _ _ ⟨rfl, rfl⟩; conv => whnf) | (refine Or.inr (Or.inl ?_); (conv => whnf); (repeat (refine aI ?_; conv => whnf)); refine ⟨_, b2, ?_⟩; rintro _ _ ⟨rfl, rfl⟩; conv => whnf) | ((first | refine Alt2.l (aI ?_) | refine Alt2.r (aI ?_)); conv => whnf) | (refine Ok.scope ?_) | ((first | refine Ok.label ?_ | refine rd rfl (by assumption) ?_ | refine ⟨_, .inl ⟨rfl, rfl⟩, ?_⟩ | refine ⟨_, _, rfl, rfl, ?_⟩); conv => whnf) | (refine ⟨fun _ => ?_, fun _ => ?_⟩ <;> (conv => whnf) <;> (try (exfalso; omega))) | ((first | refine aJ ?_ | refine num_any ?_ | refine ⟨_, rfl, ?_⟩); conv => whnf) | fail)
      all_goals first
        | (exfalso; omega)
        | (refine Or.inl ?_; (conv => whnf)
           show D.b True = _
           rfl)
        | trace_state
  · (try (conv => whnf)); repeat' (first | refine Ok.seq ?_ | refine OkL.cons ?_ | ((first | refine Ok.region tok ?_ | refine Ok.region_draw tok follows (by kernel_rfl) ?_ | refine Ok.cond ?_); conv => whnf) | refine Ok.block ?_ | ((first | refine Ok.skip ?_ | refine Ok.exit ?_ | refine Ok.ret ?_ | refine nI ?_ | refine ix _ (by assumption) ?_ | refine ixI (by omega) (by assumption) ?_ | refine ix_new _ (by omega) fun _ _ => ?_ | refine ixI_new (by omega) (by omega) fun _ _ => ?_ | refine ⟨_, by assumption, ?_⟩); conv => whnf) | (refine Or.inl ?_; (conv => whnf); (repeat (refine aI ?_; conv => whnf)); refine ⟨_, t1, rfl, ?_⟩; conv => whnf) | (refine Or.inl ?_; (conv => whnf); (repeat (refine aI ?_; conv => whnf)); refine ⟨_, t2, rfl, ?_⟩; conv => whnf) | (refine Or.inl ?_; (conv => whnf); (repeat (refine aI ?_; conv => whnf)); refine ⟨_, z1, rfl, ?_⟩; conv => whnf) | (refine Or.inl ?_; (conv => whnf); (repeat (refine aI ?_; conv => whnf)); refine ⟨_, z2, rfl, ?_⟩; conv => whnf) | (refine Or.inl ?_; (conv => whnf); (repeat (refine aI ?_; conv => whnf)); refine ⟨_, b1, rfl, ?_⟩; conv => whnf) | (refine Or.inl ?_; (conv => whnf); (repeat (refine aI ?_; conv => whnf)); refine ⟨_, b2, rfl, ?_⟩; conv => whnf) | ((first | refine ⟨_, t1, rfl, ?_⟩ | refine ⟨_, t2, rfl, ?_⟩ | refine ⟨_, z1, rfl, ?_⟩ | refine ⟨_, z2, rfl, ?_⟩ | refine ⟨_, b1, rfl, ?_⟩ | refine ⟨_, b2, rfl, ?_⟩); conv => whnf) | (refine Or.inr (Or.inl ?_); (conv => whnf); (repeat (refine aI ?_; conv => whnf)); refine ⟨_, t1, ?_⟩; rintro _ _ ⟨rfl, rfl⟩; conv => whnf) | (refine Or.inr (Or.inl ?_); (conv => whnf); (repeat (refine aI ?_; conv => whnf)); refine ⟨_, t2, ?_⟩; rintro _ _ ⟨rfl, rfl⟩; conv => whnf) | (refine Or.inr (Or.inl ?_); (conv => whnf); (repeat (refine aI ?_; conv => whnf)); refine ⟨_, z1, ?_⟩; rintro _ _ ⟨rfl, rfl⟩; conv => whnf) | (refine Or.inr (Or.inl ?_); (conv => whnf); (repeat (refine aI ?_; conv => whnf)); refine ⟨_, z2, ?_⟩; rintro _ _ ⟨rfl, rfl⟩; conv => whnf) | (refine Or.inr (Or.inl ?_); (conv => whnf); (repeat (refine aI ?_; conv => whnf)); refine ⟨_, b1, ?_⟩; rintro _ _ ⟨rfl, rfl⟩; conv => whnf) | (refine Or.inr (Or.inl ?_); (conv => whnf); (repeat (refine aI ?_; conv => whnf)); refine ⟨_, b2, ?_⟩; rintro _ _ ⟨rfl, rfl⟩; conv => whnf) | ((first | refine Alt2.l (aI ?_) | refine Alt2.r (aI ?_)); conv => whnf) | (refine Ok.scope ?_) | ((first | refine Ok.label ?_ | refine rd rfl (by assumption) ?_ | refine ⟨_, .inl ⟨rfl, rfl⟩, ?_⟩ | refine ⟨_, _, rfl, rfl, ?_⟩); conv => whnf) | (refine ⟨fun _ => ?_, fun _ => ?_⟩ <;> (conv => whnf) <;> (try (exfalso; omega))) | ((first | refine aJ ?_ | refine num_any ?_ | refine ⟨_, rfl, ?_⟩); conv => whnf) | fail)
    all_goals first
      | (exfalso; omega)
      | (refine Or.inl ?_; (conv => whnf)
         show D.b True = _
         rfl)
      | trace_state
end Go.Proofs.YtaiondckookpiaaDoor
namespace Go.Proofs.YtaiondckookpiaaDoor
open Go Go.Vx
set_option maxRecDepth 100000 in
set_option maxHeartbeats 16000000 in
theorem grouped_at {n : Int} {ts us vs : List Term} (hf : Fine n ts) (hg : Fine n us) (hv : Fine n vs) (i1 : InF ts) (i2 : InF us) (i3 : InF vs) (ks kt ku : List TR) (rm rt ru : List (List D)) (h1 : ks.map TR.t = ts) (h2 : kt.map TR.t = us) (h3 : ku.map TR.t = vs) :
    FSpec Tryd.prog T 25 [.agg [.i .i64 n, .lst 81 (ks.map trow) rm], .agg [.i .i64 n, .lst 81 (kt.map trow) rt], .agg [.i .i64 n, .lst 81 (ku.map trow) ru]] (fun r _ => r = .b True) := by
  have ca := InF.can hf i1
  have cb := InF.can hg i2
  have cc := InF.can hv i3
  have L1 := j_assoc ca cb cc
  have L2 := m_assoc ca cb cc
  have L3 := m_dist ca cb cc
  have L4 := j_dist ca cb cc
  clear ca cb cc i1 i2 i3
  -- the answers
  have f1 := joinO_fine hf hg
  have f2 := joinO_fine hg hv
  have f3 := joinO_fine f1 hv
  have f4 := joinO_fine hf f2
  have g1 := meetO_fine hf hg
  have g2 := meetO_fine hg hv
  have g3 := meetO_fine g1 hv
  have g4 := meetO_fine hf g2
  have g5 := meetO_fine hf hv
  have g6 := meetO_fine hf f2
  have g7 := joinO_fine g1 g5
  have g8 := joinO_fine hf g2
  have g9 := joinO_fine hf hv
  have g10 := meetO_fine f1 g9
  have A1 : (joinO n n ts us).1 = 0 → (joinO n n us vs).1 = 0 → (joinO (joinO n n ts us).2.1 n (joinO n n ts us).2.2 vs).1 = 0 → (joinO n (joinO n n us vs).2.1 ts (joinO n n us vs).2.2).1 = 0 →
      (joinO (joinO n n ts us).2.1 n (joinO n n ts us).2.2 vs).2.1 = (joinO n (joinO n n us vs).2.1 ts (joinO n n us vs).2.2).2.1 ∧ (joinO (joinO n n ts us).2.1 n (joinO n n ts us).2.2 vs).2.2 = (joinO n (joinO n n us vs).2.1 ts (joinO n n us vs).2.2).2.2 := fun a b c d => by
    have a2 := (joinO_ok a).2
    have b2 := (joinO_ok b).2
    have c2 := joinO_ok c
    have d2 := joinO_ok d
    rw [c2.2, d2.2, a2, b2]
    exact ⟨rfl, L1⟩
  have A2 : (meetO n n ts us).1 = 0 → (meetO n n us vs).1 = 0 → (meetO (meetO n n ts us).2.1 n (meetO n n ts us).2.2 vs).1 = 0 → (meetO n (meetO n n us vs).2.1 ts (meetO n n us vs).2.2).1 = 0 →
      (meetO (meetO n n ts us).2.1 n (meetO n n ts us).2.2 vs).2.1 = (meetO n (meetO n n us vs).2.1 ts (meetO n n us vs).2.2).2.1 ∧ (meetO (meetO n n ts us).2.1 n (meetO n n ts us).2.2 vs).2.2 = (meetO n (meetO n n us vs).2.1 ts (meetO n n us vs).2.2).2.2 := fun a b c d => by
    have a2 := (meetO_ok a).2
    have b2 := (meetO_ok b).2
    have c2 := meetO_ok c
    have d2 := meetO_ok d
    rw [c2.2, d2.2, a2, b2]
    exact ⟨rfl, L2⟩
  have A3 : (joinO n n us vs).1 = 0 → (meetO n n ts us).1 = 0 → (meetO n n ts vs).1 = 0 → (meetO n (joinO n n us vs).2.1 ts (joinO n n us vs).2.2).1 = 0 → (joinO (meetO n n ts us).2.1 (meetO n n ts vs).2.1 (meetO n n ts us).2.2 (meetO n n ts vs).2.2).1 = 0 →
      (meetO n (joinO n n us vs).2.1 ts (joinO n n us vs).2.2).2.1 = (joinO (meetO n n ts us).2.1 (meetO n n ts vs).2.1 (meetO n n ts us).2.2 (meetO n n ts vs).2.2).2.1 ∧ (meetO n (joinO n n us vs).2.1 ts (joinO n n us vs).2.2).2.2 = (joinO (meetO n n ts us).2.1 (meetO n n ts vs).2.1 (meetO n n ts us).2.2 (meetO n n ts vs).2.2).2.2 := fun a b e c d => by
    have a2 := (joinO_ok a).2
    have b2 := (meetO_ok b).2
    have e2 := (meetO_ok e).2
    have c2 := meetO_ok c
    have d2 := joinO_ok d
    rw [c2.2, d2.2, a2, b2, e2]
    exact ⟨rfl, L3⟩
  have A4 : (meetO n n us vs).1 = 0 → (joinO n n ts us).1 = 0 → (joinO n n ts vs).1 = 0 → (joinO n (meetO n n us vs).2.1 ts (meetO n n us vs).2.2).1 = 0 → (meetO (joinO n n ts us).2.1 (joinO n n ts vs).2.1 (joinO n n ts us).2.2 (joinO n n ts vs).2.2).1 = 0 →
      (joinO n (meetO n n us vs).2.1 ts (meetO n n us vs).2.2).2.1 = (meetO (joinO n n ts us).2.1 (joinO n n ts vs).2.1 (joinO n n ts us).2.2 (joinO n n ts vs).2.2).2.1 ∧ (joinO n (meetO n n us vs).2.1 ts (meetO n n us vs).2.2).2.2 = (meetO (joinO n n ts us).2.1 (joinO n n ts vs).2.1 (joinO n n ts us).2.2 (joinO n n ts vs).2.2).2.2 := fun a b e c d => by
    have a2 := (meetO_ok a).2
    have b2 := (joinO_ok b).2
    have e2 := (joinO_ok e).2
    have c2 := joinO_ok c
    have d2 := meetO_ok d
    rw [c2.2, d2.2, a2, b2, e2]
    exact ⟨rfl, L4⟩
  clear L1 L2 L3 L4
  -- the calls
  have c1 := fun ks kt rm rt h1 h2 => join_at hf hg ks kt rm rt h1 h2
  have c2 := fun ks kt rm rt h1 h2 => join_at hg hv ks kt rm rt h1 h2
  have c3 := fun ks kt rm rt h1 h2 => join_at f1 hv ks kt rm rt h1 h2
  have c4 := fun ks kt rm rt h1 h2 => join_at hf f2 ks kt rm rt h1 h2
  have d1 := fun ks kt rm rt h1 h2 => meet2_at hf hg ks kt rm rt h1 h2
  have d2 := fun ks kt rm rt h1 h2 => meet2_at hg hv ks kt rm rt h1 h2
  have d3 := fun ks kt rm rt h1 h2 => meet2_at g1 hv ks kt rm rt h1 h2
  have d4 := fun ks kt rm rt h1 h2 => meet2_at hf g2 ks kt rm rt h1 h2
  have d5 := fun ks kt rm rt h1 h2 => meet2_at hf hv ks kt rm rt h1 h2
  have d6 := fun ks kt rm rt h1 h2 => meet2_at hf f2 ks kt rm rt h1 h2
  have d7 := fun ks kt rm rt h1 h2 => join_at g1 g5 ks kt rm rt h1 h2
  have d8 := fun ks kt rm rt h1 h2 => join_at hf g2 ks kt rm rt h1 h2
  have d9 := fun ks kt rm rt h1 h2 => join_at hf hv ks kt rm rt h1 h2
  have d10 := fun ks kt rm rt h1 h2 => meet2_at f1 g9 ks kt rm rt h1 h2
  unfold POut at c1 c2 c3 c4 d1 d2 d3 d4 d5 d6 d7 d8 d9 d10
  generalize joinO (joinO n n ts us).2.1 n (joinO n n ts us).2.2 vs = o3 at *
  generalize joinO n (joinO n n us vs).2.1 ts (joinO n n us vs).2.2 = o4 at *
  generalize meetO (meetO n n ts us).2.1 n (meetO n n ts us).2.2 vs = q3 at *
  generalize meetO n (meetO n n us vs).2.1 ts (meetO n n us vs).2.2 = q4 at *
  generalize meetO n (joinO n n us vs).2.1 ts (joinO n n us vs).2.2 = q6 at *
  generalize joinO (meetO n n ts us).2.1 (meetO n n ts vs).2.1 (meetO n n ts us).2.2 (meetO n n ts vs).2.2 = q7 at *
  generalize joinO n (meetO n n us vs).2.1 ts (meetO n n us vs).2.2 = q8 at *
  generalize meetO (joinO n n ts us).2.1 (joinO n n ts vs).2.1 (joinO n n ts us).2.2 (joinO n n ts vs).2.2 = q10 at *
  generalize joinO n n ts us = o1 at *
  generalize joinO n n us vs = o2 at *
  generalize joinO n n ts vs = q9 at *
  generalize meetO n n ts us = q1 at *
  generalize meetO n n us vs = q2 at *
  generalize meetO n n ts vs = q5 at *
  obtain ⟨eo1, no1, lo1⟩ := o1
  obtain ⟨eo2, no2, lo2⟩ := o2
  obtain ⟨eo3, no3, lo3⟩ := o3
  obtain ⟨eo4, no4, lo4⟩ := o4
  obtain ⟨eq1, nq1, lq1⟩ := q1
  obtain ⟨eq2, nq2, lq2⟩ := q2
  obtain ⟨eq3, nq3, lq3⟩ := q3
  obtain ⟨eq4, nq4, lq4⟩ := q4
  obtain ⟨eq5, nq5, lq5⟩ := q5
  obtain ⟨eq6, nq6, lq6⟩ := q6
  obtain ⟨eq7, nq7, lq7⟩ := q7
  obtain ⟨eq8, nq8, lq8⟩ := q8
  obtain ⟨eq9, nq9, lq9⟩ := q9
  obtain ⟨eq10, nq10, lq10⟩ := q10
  dsimp only at c1 c2 c3 c4 d1 d2 d3 d4 d5 d6 d7 d8 d9 d10 f1 f2 f3 f4 g1 g2 g3 g4 g5 g6 g7 g8 g9 g10 A1 A2 A3 A4
  have a1 := fun x y => fun ks kt rm rt h1 h2 => alike_at f3 f4 ks kt rm rt h1 h2 (A1 x y)
  have a2 := fun x y => fun ks kt rm rt h1 h2 => alike_at g3 g4 ks kt rm rt h1 h2 (A2 x y)
  have a3 := fun x y z => fun ks kt rm rt h1 h2 => alike_at g6 g7 ks kt rm rt h1 h2 (A3 x y z)
  have a4 := fun x y z => fun ks kt rm rt h1 h2 => alike_at g8 g10 ks kt rm rt h1 h2 (A4 x y z)
  clear A1 A2 A3 A4
  refine FSpec.of_ok tok Tryd.func25 rfl Tryd.call25 (by simp) ?_
  (try (conv => whnf)); repeat' (first | (exact absurd trivial (by assumption)) | refine Ok.seq ?_ | refine OkL.cons ?_ | ((first | refine Ok.region tok ?_ | refine Ok.region_draw tok follows (by kernel_rfl) ?_ | refine Ok.cond ?_); conv => whnf) | refine Ok.block ?_ | ((first | refine Ok.skip ?_ | refine Ok.exit ?_ | refine Ok.ret ?_ | refine nI ?_ | refine ix _ (by assumption) ?_ | refine ixI (by omega) (by assumption) ?_ | refine ix_new _ (by omega) fun _ _ => ?_ | refine ixI_new (by omega) (by omega) fun _ _ => ?_ | refine ⟨_, by assumption, ?_⟩); conv => whnf) | (refine Or.inl ?_; (conv => whnf); (repeat (refine aI ?_; conv => whnf)); refine ⟨_, a1 (by assumption) (by assumption) k3 k4 r3 r4 hk3 hk4, rfl, ?_⟩; conv => whnf) | (refine Or.inl ?_; (conv => whnf); (repeat (refine aI ?_; conv => whnf)); refine ⟨_, a2 (by assumption) (by assumption) m3 m4 s3 s4 hm3 hm4, rfl, ?_⟩; conv => whnf) | (refine Or.inl ?_; (conv => whnf); (repeat (refine aI ?_; conv => whnf)); refine ⟨_, a3 (by assumption) (by assumption) (by assumption) m6 m7 s6 s7 hm6 hm7, rfl, ?_⟩; conv => whnf) | (refine Or.inl ?_; (conv => whnf); (repeat (refine aI ?_; conv => whnf)); refine ⟨_, a4 (Classical.not_not.1 (by assumption)) (Classical.not_not.1 (by assumption)) (Classical.not_not.1 (by assumption)) m8 m10 s8 s10 hm8 hm10, rfl, ?_⟩; conv => whnf) | ((first | refine ⟨_, a1 (by assumption) (by assumption) k3 k4 r3 r4 hk3 hk4, rfl, ?_⟩ | refine ⟨_, a2 (by assumption) (by assumption) m3 m4 s3 s4 hm3 hm4, rfl, ?_⟩ | refine ⟨_, a3 (by assumption) (by assumption) (by assumption) m6 m7 s6 s7 hm6 hm7, rfl, ?_⟩ | refine ⟨_, a4 (Classical.not_not.1 (by assumption)) (Classical.not_not.1 (by assumption)) (Classical.not_not.1 (by assumption)) m8 m10 s8 s10 hm8 hm10, rfl, ?_⟩); conv => whnf) | (refine Or.inr (Or.inl ?_); (conv => whnf); (repeat (refine aI ?_; conv => whnf)); refine ⟨_, a1 (by assumption) (by assumption) k3 k4 r3 r4 hk3 hk4, ?_⟩; rintro _ _ ⟨rfl, rfl⟩; conv => whnf) | (refine Or.inr (Or.inl ?_); (conv => whnf); (repeat (refine aI ?_; conv => whnf)); refine ⟨_, a2 (by assumption) (by assumption) m3 m4 s3 s4 hm3 hm4, ?_⟩; rintro _ _ ⟨rfl, rfl⟩; conv => whnf) | (refine Or.inr (Or.inl ?_); (conv => whnf); (repeat (refine aI ?_; conv => whnf)); refine ⟨_, a3 (by assumption) (by assumption) (by assumption) m6 m7 s6 s7 hm6 hm7, ?_⟩; rintro _ _ ⟨rfl, rfl⟩; conv => whnf) | (refine Or.inr (Or.inl ?_); (conv => whnf); (repeat (refine aI ?_; conv => whnf)); refine ⟨_, a4 (Classical.not_not.1 (by assumption)) (Classical.not_not.1 (by assumption)) (Classical.not_not.1 (by assumption)) m8 m10 s8 s10 hm8 hm10, ?_⟩; rintro _ _ ⟨rfl, rfl⟩; conv => whnf) | (refine Or.inr (Or.inl ?_); (conv => whnf); (repeat (refine aI ?_; conv => whnf)); refine ⟨_, c1 ks kt rm rt h1 h2 , ?_⟩; rintro _ _ ⟨rfl, _, rfl, k1, r1, rfl, hk1⟩ <;> (conv => whnf)) | (refine Or.inr (Or.inl ?_); (conv => whnf); (repeat (refine aI ?_; conv => whnf)); refine ⟨_, c2 kt ku rt ru h2 h3 , ?_⟩; rintro _ _ ⟨rfl, _, rfl, k2, r2, rfl, hk2⟩ <;> (conv => whnf)) | (refine Or.inr (Or.inl ?_); (conv => whnf); (repeat (refine aI ?_; conv => whnf)); refine ⟨_, c3 k1 ku r1 ru hk1 h3 , ?_⟩; rintro _ _ ⟨rfl, _, rfl, k3, r3, rfl, hk3⟩ <;> (conv => whnf)) | (refine Or.inr (Or.inl ?_); (conv => whnf); (repeat (refine aI ?_; conv => whnf)); refine ⟨_, c4 ks k2 rm r2 h1 hk2 , ?_⟩; rintro _ _ ⟨rfl, _, rfl, k4, r4, rfl, hk4⟩ <;> (conv => whnf)) | (refine Or.inr (Or.inl ?_); (conv => whnf); (repeat (refine aI ?_; conv => whnf)); refine ⟨_, d1 ks kt rm rt h1 h2 , ?_⟩; rintro _ _ ⟨rfl, _, rfl, m1, s1, rfl, hm1⟩ <;> (conv => whnf)) | (refine Or.inr (Or.inl ?_); (conv => whnf); (repeat (refine aI ?_; conv => whnf)); refine ⟨_, d2 kt ku rt ru h2 h3 , ?_⟩; rintro _ _ ⟨rfl, _, rfl, m2, s2, rfl, hm2⟩ <;> (conv => whnf)) | (refine Or.inr (Or.inl ?_); (conv => whnf); (repeat (refine aI ?_; conv => whnf)); refine ⟨_, d3 m1 ku s1 ru hm1 h3 , ?_⟩; rintro _ _ ⟨rfl, _, rfl, m3, s3, rfl, hm3⟩ <;> (conv => whnf)) | (refine Or.inr (Or.inl ?_); (conv => whnf); (repeat (refine aI ?_; conv => whnf)); refine ⟨_, d4 ks m2 rm s2 h1 hm2 , ?_⟩; rintro _ _ ⟨rfl, _, rfl, m4, s4, rfl, hm4⟩ <;> (conv => whnf)) | (refine Or.inr (Or.inl ?_); (conv => whnf); (repeat (refine aI ?_; conv => whnf)); refine ⟨_, d5 ks ku rm ru h1 h3 , ?_⟩; rintro _ _ ⟨rfl, _, rfl, m5, s5, rfl, hm5⟩ <;> (conv => whnf)) | (refine Or.inr (Or.inl ?_); (conv => whnf); (repeat (refine aI ?_; conv => whnf)); refine ⟨_, d6 ks k2 rm r2 h1 hk2 , ?_⟩; rintro _ _ ⟨rfl, _, rfl, m6, s6, rfl, hm6⟩ <;> (conv => whnf)) | (refine Or.inr (Or.inl ?_); (conv => whnf); (repeat (refine aI ?_; conv => whnf)); refine ⟨_, d7 m1 m5 s1 s5 hm1 hm5 , ?_⟩; rintro _ _ ⟨rfl, _, rfl, m7, s7, rfl, hm7⟩ <;> (conv => whnf)) | (refine Or.inr (Or.inl ?_); (conv => whnf); (repeat (refine aI ?_; conv => whnf)); refine ⟨_, d8 ks m2 rm s2 h1 hm2 , ?_⟩; rintro _ _ ⟨rfl, _, rfl, m8, s8, rfl, hm8⟩ <;> (conv => whnf)) | (refine Or.inr (Or.inl ?_); (conv => whnf); (repeat (refine aI ?_; conv => whnf)); refine ⟨_, d9 ks ku rm ru h1 h3 , ?_⟩; rintro _ _ ⟨rfl, _, rfl, m9, s9, rfl, hm9⟩ <;> (conv => whnf)) | (refine Or.inr (Or.inl ?_); (conv => whnf); (repeat (refine aI ?_; conv => whnf)); refine ⟨_, d10 k1 m9 r1 s9 hk1 hm9 , ?_⟩; rintro _ _ ⟨rfl, _, rfl, m10, s10, rfl, hm10⟩ <;> (conv => whnf)) | ((first | refine Alt2.l (aI ?_) | refine Alt2.r (aI ?_)); conv => whnf) | (refine Ok.scope ?_) | ((first | refine Ok.label ?_ | refine rd rfl (by assumption) ?_ | refine ⟨_, .inl ⟨rfl, rfl⟩, ?_⟩ | refine ⟨_, _, rfl, rfl, ?_⟩); conv => whnf) | (refine ⟨fun _ => ?_, fun _ => ?_⟩ <;> (conv => whnf) <;> (try (exfalso; omega))) | ((first | refine aJ ?_ | refine num_any ?_ | refine ⟨_, rfl, ?_⟩); conv => whnf) | fail)
  all_goals first
    | (exfalso; omega)
    | (refine Or.inl ?_; (conv => whnf)
       show D.b True = _
       rfl)
    | (refine Or.inl ?_; (conv => whnf)
       rfl)
    | trace_state
end Go.Proofs.YtaiondckookpiaaDoor
namespace Go.Proofs.YtaiondckookpiaaDoor
open Go Go.Vx
theorem cutL_tot (c : UInt8) : ∀ l : Str, (cutL c l).length + ((cutL c l).map List.length).sum = l.length + 1
  | [] => rfl
  | b :: r => by
    have ih := cutL_tot c r
    unfold cutL
    split
    · simp only [List.length_cons, List.map_cons, List.sum_cons, List.length_nil]
      omega
    · cases hr : cutL c r with
      | nil => exact absurd hr (cutL_ne c r)
      | cons x t =>
        rw [hr] at ih
        simp only [List.length_cons, List.map_cons, List.sum_cons] at ih ⊢
        omega
theorem sum_ge {l : List Str} (h : ∀ x ∈ l, x ≠ []) : l.length ≤ (l.map List.length).sum := by
  induction l with
  | nil => simp
  | cons x l ih =>
    have h1 := ih fun y hy => h y (by simp [hy])
    have h2 : 0 < x.length := List.length_pos_iff.2 (h x (by simp))
    simp only [List.length_cons, List.map_cons, List.sum_cons]
    omega
theorem parO_short {n : Int} {s : Str} (h0 : (parO n s).1 = 0) (hs : s.length < 64) : (parO n s).2.2.length ≤ 32 := by
  rcases parO_cases n s with ⟨e, he, h1⟩ | ⟨hn, _, _, ⟨_, h1⟩ | ⟨_, hok, h1⟩⟩
  · rw [h1]; simp
  · rw [h1]; simp
  · rw [h1]
    show (formT (trms (pieces s))).length ≤ 32
    have l1 := formT_len (trms (pieces s))
    have l2 : (trms (pieces s)).length ≤ (pieces s).length := List.length_filterMap_le _ _
    have l3 : (pieces s).length = (cutL 43 s).length := by unfold pieces; rw [List.length_map]
    have l4 := cutL_tot 43 s
    have l5 := sum_ge (l := cutL 43 s) fun x hx e => by
      have hm : cutL 45 x ∈ pieces s := List.mem_map.2 ⟨x, hx, rfl⟩
      have := (hok _ hm [] (by rw [e]; simp [cutL])).1
      simp at this
      omega
    omega
set_option maxRecDepth 100000 in
set_option maxHeartbeats 16000000 in
theorem latticeLaw_at (n : Int) (a b c : Str) : FSpec Tryd.prog T 5 [.i .i64 n, .s a, .s b, .s c] (fun r _ => r = .b True) := by
  have pa := parse2_at n a
  have pb := parse2_at n b
  have pc := parse2_at n c
  have fa := parO_fine n a
  have fb := parO_fine n b
  have fc := parO_fine n c
  have ia := parO_inF n a
  have ib := parO_inF n b
  have ic := parO_inF n c
  have ka := parO_cases n a
  have kb := parO_cases n b
  have kc := parO_cases n c
  have sh := fun h0 hs => parO_short (n := n) (s := a) h0 hs
  unfold POut at pa pb pc
  by_cases hbad : (parO n a).1 ≠ 0 ∨ (parO n b).1 ≠ 0 ∨ (parO n c).1 ≠ 0
  · clear fa fb fc ia ib ic ka kb kc sh
    generalize parO n a = oa at *
    generalize parO n b = ob at *
    generalize parO n c = oc at *
    obtain ⟨ea, na, ts⟩ := oa
    obtain ⟨eb, nb, us⟩ := ob
    obtain ⟨ec, nc, vs⟩ := oc
    dsimp only at pa pb pc hbad
    refine FSpec.of_ok tok Tryd.func5 rfl Tryd.call5 (by simp) ?_
    (try (conv => whnf)); repeat' (first | (exact absurd trivial (by assumption)) | refine Ok.seq ?_ | refine OkL.cons ?_ | ((first | refine Ok.region tok ?_ | refine Ok.region_draw tok follows (by kernel_rfl) ?_ | refine Ok.cond ?_); conv => whnf) | refine Ok.block ?_ | ((first | refine Ok.skip ?_ | refine Ok.exit ?_ | refine Ok.ret ?_ | refine nI ?_ | refine ix _ (by assumption) ?_ | refine ixI (by omega) (by assumption) ?_ | refine ix_new _ (by omega) fun _ _ => ?_ | refine ixI_new (by omega) (by omega) fun _ _ => ?_ | refine ⟨_, by assumption, ?_⟩); conv => whnf) | (refine Or.inl ?_; (conv => whnf); (repeat (refine aI ?_; conv => whnf)); refine ⟨_, awake_at, rfl, ?_⟩; conv => whnf) | (refine ⟨_, awake_at, rfl, ?_⟩; conv => whnf) | (refine Or.inr (Or.inl ?_); (conv => whnf); (repeat (refine aI ?_; conv => whnf)); refine ⟨_, awake_at, ?_⟩; rintro _ _ ⟨rfl, rfl⟩; conv => whnf) | (refine Or.inr (Or.inl ?_); (conv => whnf); (repeat (refine aI ?_; conv => whnf)); refine ⟨_, pa , ?_⟩; rintro _ _ ⟨rfl, _, rfl, ks, rm, rfl, hk⟩ <;> (conv => whnf)) | (refine Or.inr (Or.inl ?_); (conv => whnf); (repeat (refine aI ?_; conv => whnf)); refine ⟨_, pb , ?_⟩; rintro _ _ ⟨rfl, _, rfl, kt, rt, rfl, ht⟩ <;> (conv => whnf)) | (refine Or.inr (Or.inl ?_); (conv => whnf); (repeat (refine aI ?_; conv => whnf)); refine ⟨_, pc , ?_⟩; rintro _ _ ⟨rfl, _, rfl, ku, ru, rfl, hu⟩ <;> (conv => whnf)) | ((first | refine Alt2.l (aI ?_) | refine Alt2.r (aI ?_)); conv => whnf) | (refine Ok.scope ?_) | ((first | refine Ok.label ?_ | refine rd rfl (by assumption) ?_ | refine ⟨_, .inl ⟨rfl, rfl⟩, ?_⟩ | refine ⟨_, _, rfl, rfl, ?_⟩); conv => whnf) | (refine ⟨fun _ => ?_, fun _ => ?_⟩ <;> (conv => whnf) <;> (try (exfalso; omega))) | ((first | refine aJ ?_ | refine num_any ?_ | refine ⟨_, rfl, ?_⟩); conv => whnf) | fail)
    all_goals first
      | (exfalso; omega)
      | (refine Or.inl ?_; (conv => whnf)
         rfl)
      | trace_state
  have h1 : (parO n a).1 = 0 ∧ (parO n a).2.1 = n ∧ 1 ≤ n := by
    rcases ka with ⟨e, he, h1⟩ | ⟨h2, h3, h4, ⟨_, h1⟩ | ⟨_, _, h1⟩⟩
    · exact absurd (.inl (by rw [h1]; exact he)) hbad
    all_goals rw [h1]; exact ⟨rfl, rfl, h2⟩
  have h2 : (parO n b).1 = 0 ∧ (parO n b).2.1 = n := by
    rcases kb with ⟨e, he, h1⟩ | ⟨h2, h3, h4, ⟨_, h1⟩ | ⟨_, _, h1⟩⟩
    · exact absurd (.inr (.inl (by rw [h1]; exact he))) hbad
    all_goals rw [h1]; exact ⟨rfl, rfl⟩
  have h3 : (parO n c).1 = 0 ∧ (parO n c).2.1 = n := by
    rcases kc with ⟨e, he, h1⟩ | ⟨h2, h3, h4, ⟨_, h1⟩ | ⟨_, _, h1⟩⟩
    · exact absurd (.inr (.inr (by rw [h1]; exact he))) hbad
    all_goals rw [h1]; exact ⟨rfl, rfl⟩
  replace sh := sh h1.1
  clear ka kb kc hbad
  generalize parO n a = oa at *
  generalize parO n b = ob at *
  generalize parO n c = oc at *
  obtain ⟨ea, na, ts⟩ := oa
  obtain ⟨eb, nb, us⟩ := ob
  obtain ⟨ec, nc, vs⟩ := oc
  dsimp only at h1 h2 h3 pa pb pc fa fb fc ia ib ic sh
  obtain ⟨rfl, rfl, hn1⟩ := h1
  obtain ⟨rfl, rfl⟩ := h2
  obtain ⟨rfl, rfl⟩ := h3
  have ca := InF.can fa ia
  have cb := InF.can fb ib
  have hfit : fitP nc nc := ⟨rfl, by omega⟩
  have jc : joinO nc nc us ts = joinO nc nc ts us := by rw [joinO_fit hfit, joinO_fit hfit, j_comm cb ca]
  have mc : meetO nc nc us ts = meetO nc nc ts us := by
    unfold meetO
    rw [if_pos hfit, if_pos hfit, Nat.mul_comm us.length ts.length, m_comm cb ca]
  have ji : joinO nc nc ts ts = (0, nc, ts) := by rw [joinO_fit hfit, j_idem ca ia, bndO_le fa.sz]
  have mi : (meetO nc nc ts ts).1 = 0 → (meetO nc nc ts ts).2.1 = nc ∧ (meetO nc nc ts ts).2.2 = ts := fun h => by
    rw [(meetO_ok h).2, m_idem ca ia]
    exact ⟨rfl, rfl⟩
  have ms : a.length < 64 → (meetO nc nc ts ts).1 = 0 := fun h => by
    have hl := sh h
    have hm : ts.length * ts.length ≤ 32 * 32 := Nat.mul_le_mul hl hl
    rw [meetO_fit hfit (by omega), m_idem ca ia, bndO_le fa.sz]
  clear sh
  have f1 := joinO_fine fa fb
  have f2 := meetO_fine fa fb
  have f3 := meetO_fine fa fa
  have c1 := fun ks kt rm rt h1 h2 => join_at fa fb ks kt rm rt h1 h2
  have c2 := fun ks kt rm rt h1 h2 => join_at fb fa ks kt rm rt h1 h2
  have c3 := fun ks kt rm rt h1 h2 => meet2_at fa fb ks kt rm rt h1 h2
  have c4 := fun ks kt rm rt h1 h2 => meet2_at fb fa ks kt rm rt h1 h2
  have c5 := fun ks kt rm rt h1 h2 => join_at fa fa ks kt rm rt h1 h2
  have c6 := fun ks kt rm rt h1 h2 => meet2_at fa fa ks kt rm rt h1 h2
  rw [jc] at c2
  rw [mc] at c4
  rw [ji] at c5
  unfold POut at c1 c2 c3 c4 c5 c6
  have tx := fun ks rm h1 => sptext_at fa ks rm h1
  have gr := fun ks kt ku rm rt ru h1 h2 h3 => grouped_at fa fb fc ia ib ic ks kt ku rm rt ru h1 h2 h3
  clear jc mc ji ca cb
  generalize joinO nc nc ts us = o1 at *
  generalize meetO nc nc ts us = o2 at *
  generalize meetO nc nc ts ts = o3 at *
  obtain ⟨e1, n1, l1⟩ := o1
  obtain ⟨e2, n2, l2⟩ := o2
  obtain ⟨e3, n3, l3⟩ := o3
  dsimp only at c1 c2 c3 c4 c5 c6 f1 f2 f3 mi ms
  have a1 := fun ks kt rm rt h1 h2 => alike_at (e := e1) (f := e1) f1 f1 ks kt rm rt h1 h2 fun _ _ => ⟨rfl, rfl⟩
  have a2 := fun ks kt rm rt h1 h2 => alike_at (e := e2) (f := e2) f2 f2 ks kt rm rt h1 h2 fun _ _ => ⟨rfl, rfl⟩
  have a3 := fun ks kt rm rt h1 h2 => alike_at (e := e3) (f := 0) f3 fa ks kt rm rt h1 h2 fun h _ => mi h
  refine FSpec.of_ok tok Tryd.func5 rfl Tryd.call5 (by simp) ?_
  (try (conv => whnf)); repeat' (first | (exact absurd trivial (by assumption)) | (exact absurd rfl (by assumption)) | refine Ok.seq ?_ | refine OkL.cons ?_ | ((first | refine Ok.region tok ?_ | refine Ok.region_draw tok follows (by kernel_rfl) ?_ | refine Ok.cond ?_); conv => whnf) | refine Ok.block ?_ | ((first | refine Ok.skip ?_ | refine Ok.exit ?_ | refine Ok.ret ?_ | refine nI ?_ | refine ix _ (by assumption) ?_ | refine ixI (by omega) (by assumption) ?_ | refine ix_new _ (by omega) fun _ _ => ?_ | refine ixI_new (by omega) (by omega) fun _ _ => ?_ | refine ⟨_, by assumption, ?_⟩); conv => whnf) | (refine Or.inl ?_; (conv => whnf); (repeat (refine aI ?_; conv => whnf)); refine ⟨_, awake_at, rfl, ?_⟩; conv => whnf) | (refine Or.inl ?_; (conv => whnf); (repeat (refine aI ?_; conv => whnf)); refine ⟨_, a1 k1 k2 r1 r2 q1 q2, rfl, ?_⟩; conv => whnf) | (refine Or.inl ?_; (conv => whnf); (repeat (refine aI ?_; conv => whnf)); refine ⟨_, a2 k3 k4 r3 r4 q3 q4, rfl, ?_⟩; conv => whnf) | (refine Or.inl ?_; (conv => whnf); (repeat (refine aI ?_; conv => whnf)); refine ⟨_, tx k5 r5 q5, rfl, ?_⟩; conv => whnf) | (refine Or.inl ?_; (conv => whnf); (repeat (refine aI ?_; conv => whnf)); refine ⟨_, tx ks rm hk, rfl, ?_⟩; conv => whnf) | (refine Or.inl ?_; (conv => whnf); (repeat (refine aI ?_; conv => whnf)); refine ⟨_, a3 k6 ks r6 rm q6 hk, rfl, ?_⟩; conv => whnf) | (refine Or.inl ?_; (conv => whnf); (repeat (refine aI ?_; conv => whnf)); refine ⟨_, gr ks kt ku rm rt ru hk ht hu, rfl, ?_⟩; conv => whnf) | ((first | refine ⟨_, awake_at, rfl, ?_⟩ | refine ⟨_, a1 k1 k2 r1 r2 q1 q2, rfl, ?_⟩ | refine ⟨_, a2 k3 k4 r3 r4 q3 q4, rfl, ?_⟩ | refine ⟨_, tx k5 r5 q5, rfl, ?_⟩ | refine ⟨_, tx ks rm hk, rfl, ?_⟩ | refine ⟨_, a3 k6 ks r6 rm q6 hk, rfl, ?_⟩ | refine ⟨_, gr ks kt ku rm rt ru hk ht hu, rfl, ?_⟩); conv => whnf) | (refine Or.inr (Or.inl ?_); (conv => whnf); (repeat (refine aI ?_; conv => whnf)); refine ⟨_, awake_at, ?_⟩; rintro _ _ ⟨rfl, rfl⟩; conv => whnf) | (refine Or.inr (Or.inl ?_); (conv => whnf); (repeat (refine aI ?_; conv => whnf)); refine ⟨_, a1 k1 k2 r1 r2 q1 q2, ?_⟩; rintro _ _ ⟨rfl, rfl⟩; conv => whnf) | (refine Or.inr (Or.inl ?_); (conv => whnf); (repeat (refine aI ?_; conv => whnf)); refine ⟨_, a2 k3 k4 r3 r4 q3 q4, ?_⟩; rintro _ _ ⟨rfl, rfl⟩; conv => whnf) | (refine Or.inr (Or.inl ?_); (conv => whnf); (repeat (refine aI ?_; conv => whnf)); refine ⟨_, tx k5 r5 q5, ?_⟩; rintro _ _ ⟨rfl, rfl⟩; conv => whnf) | (refine Or.inr (Or.inl ?_); (conv => whnf); (repeat (refine aI ?_; conv => whnf)); refine ⟨_, tx ks rm hk, ?_⟩; rintro _ _ ⟨rfl, rfl⟩; conv => whnf) | (refine Or.inr (Or.inl ?_); (conv => whnf); (repeat (refine aI ?_; conv => whnf)); refine ⟨_, a3 k6 ks r6 rm q6 hk, ?_⟩; rintro _ _ ⟨rfl, rfl⟩; conv => whnf) | (refine Or.inr (Or.inl ?_); (conv => whnf); (repeat (refine aI ?_; conv => whnf)); refine ⟨_, gr ks kt ku rm rt ru hk ht hu, ?_⟩; rintro _ _ ⟨rfl, rfl⟩; conv => whnf) | (refine Or.inr (Or.inl ?_); (conv => whnf); (repeat (refine aI ?_; conv => whnf)); refine ⟨_, pa , ?_⟩; rintro _ _ ⟨rfl, _, rfl, ks, rm, rfl, hk⟩ <;> (conv => whnf)) | (refine Or.inr (Or.inl ?_); (conv => whnf); (repeat (refine aI ?_; conv => whnf)); refine ⟨_, pb , ?_⟩; rintro _ _ ⟨rfl, _, rfl, kt, rt, rfl, ht⟩ <;> (conv => whnf)) | (refine Or.inr (Or.inl ?_); (conv => whnf); (repeat (refine aI ?_; conv => whnf)); refine ⟨_, pc , ?_⟩; rintro _ _ ⟨rfl, _, rfl, ku, ru, rfl, hu⟩ <;> (conv => whnf)) | (refine Or.inr (Or.inl ?_); (conv => whnf); (repeat (refine aI ?_; conv => whnf)); refine ⟨_, c1 ks kt rm rt hk ht , ?_⟩; rintro _ _ ⟨rfl, _, rfl, k1, r1, rfl, q1⟩ <;> (conv => whnf)) | (refine Or.inr (Or.inl ?_); (conv => whnf); (repeat (refine aI ?_; conv => whnf)); refine ⟨_, c2 kt ks rt rm ht hk , ?_⟩; rintro _ _ ⟨rfl, _, rfl, k2, r2, rfl, q2⟩ <;> (conv => whnf)) | (refine Or.inr (Or.inl ?_); (conv => whnf); (repeat (refine aI ?_; conv => whnf)); refine ⟨_, c3 ks kt rm rt hk ht , ?_⟩; rintro _ _ ⟨rfl, _, rfl, k3, r3, rfl, q3⟩ <;> (conv => whnf)) | (refine Or.inr (Or.inl ?_); (conv => whnf); (repeat (refine aI ?_; conv => whnf)); refine ⟨_, c4 kt ks rt rm ht hk , ?_⟩; rintro _ _ ⟨rfl, _, rfl, k4, r4, rfl, q4⟩ <;> (conv => whnf)) | (refine Or.inr (Or.inl ?_); (conv => whnf); (repeat (refine aI ?_; conv => whnf)); refine ⟨_, c5 ks ks rm rm hk hk , ?_⟩; rintro _ _ ⟨rfl, _, rfl, k5, r5, rfl, q5⟩ <;> (conv => whnf)) | (refine Or.inr (Or.inl ?_); (conv => whnf); (repeat (refine aI ?_; conv => whnf)); refine ⟨_, c6 ks ks rm rm hk hk , ?_⟩; rintro _ _ ⟨rfl, _, rfl, k6, r6, rfl, q6⟩ <;> (conv => whnf)) | ((first | refine Alt2.l (aI ?_) | refine Alt2.r (aI ?_)); conv => whnf) | (refine Ok.scope ?_) | ((first | refine Ok.label ?_ | refine rd rfl (by assumption) ?_ | refine ⟨_, .inl ⟨rfl, rfl⟩, ?_⟩ | refine ⟨_, _, rfl, rfl, ?_⟩); conv => whnf) | (refine ⟨fun _ => ?_, fun _ => ?_⟩ <;> (conv => whnf) <;> (try (exfalso; omega))) | ((first | refine aJ ?_ | refine num_any ?_ | refine ⟨_, rfl, ?_⟩); conv => whnf) | fail)
  all_goals first
    | (exfalso; omega)
    | (exfalso; rename_i h; exact absurd (ms (by omega)) (by omega))
    | (refine Or.inl ?_; (conv => whnf)
       rfl)
    | trace_state
end Go.Proofs.YtaiondckookpiaaDoor
