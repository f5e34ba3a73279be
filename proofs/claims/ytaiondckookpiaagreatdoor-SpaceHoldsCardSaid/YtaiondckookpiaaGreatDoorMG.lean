/- The document's form; a space's size and text by both. -/
import Derived.Test.YtaiondckookpiaaGreatDoorMF
import Derived.Test.YtaiondckookpiaaGreatDoorMC
import Derived.Test.YtaiondckookpiaaGreatDoorMD
set_option linter.unusedVariables false
set_option linter.unusedSimpArgs false
/- The document's covered, ahead, form. -/
namespace Go.Proofs.YtaiondckookpiaaGreatDoor
open Go Go.Vx
structure RN2 (x : TR) : Prop where
  p : x.t.p ≠ [] ∧ x.t.p.length ≤ 256
  less : ∀ m ∈ x.t.less, m ≠ [] ∧ m.length ≤ 256
  n : x.t.less.length ≤ 1048576
set_option maxHeartbeats 4000000 in
theorem rahead_at {a b : TR} (ha : RN2 a) (hb : RN2 b) : FSpec Tryz.prog T 118 [.agg (drow a), .agg (drow b)] (fun r _ => r = .b (aheadT a.t b.t)) := by
  have han := ha.n
  have hbn := hb.n
  have hal : (a.t.less.map srow).length = a.t.less.length := by simp
  have hbl : (b.t.less.map srow).length = b.t.less.length := by simp
  refine FSpec.of_ok tok Tryz.func118 rfl Tryz.call118 (by simp) ?_
  (try (conv => whnf)); repeat' (first | refine Ok.seq ?_ | (refine Ok.region tok ?_; conv => whnf) | (refine Ok.region_draw tok follows (by kernel_rfl) ?_; conv => whnf) | (refine Ok.cond ?_; conv => whnf) | refine Ok.block ?_ | (refine Ok.skip ?_; conv => whnf) | (refine Ok.exit ?_; conv => whnf) | (refine Ok.ret ?_; conv => whnf) | (refine num_in (by omega) (by omega) ?_; conv => whnf) | (refine ix _ (by assumption) ?_; conv => whnf) | (refine ixI (by omega) (by assumption) ?_; conv => whnf) | (refine ix_new _ (by omega) fun _ _ => ?_; conv => whnf) | (refine ixI_new (by omega) (by omega) fun _ _ => ?_; conv => whnf) | (refine ⟨_, by assumption, ?_⟩; conv => whnf) | (refine Alt2.l (And.intro (by first | omega | (simp; done) | (simp; omega)) ?_); conv => whnf) | (refine Alt2.r (And.intro (by first | omega | (simp; done) | (simp; omega)) ?_); conv => whnf) | (refine Ok.scope ?_) | (refine Ok.label ?_; conv => whnf) | (refine rd rfl (by assumption) ?_; conv => whnf) | (refine ⟨_, .inl ⟨rfl, rfl⟩, ?_⟩; conv => whnf) | (refine ⟨_, _, rfl, rfl, ?_⟩; conv => whnf) | (refine ⟨fun _ => ?_, fun _ => ?_⟩ <;> (conv => whnf) <;> (try (exfalso; omega))) | (refine And.intro (by first | omega | rfl | (simp; done) | (simp; omega)) ?_; conv => whnf) | (refine num_any ?_; conv => whnf) | (refine ⟨_, rfl, ?_⟩; conv => whnf) | fail)
  · rename_i h
    refine Or.inl ?_; (conv => whnf)
    show D.b _ = _
    refine congrArg D.b (propext ?_)
    unfold aheadT
    simp [lexL, h]
  · rename_i h
    have hpe : a.t.p = b.t.p := Classical.not_not.1 h
    have hA : aheadT a.t b.t ↔ lexL a.t.less b.t.less := by unfold aheadT; rw [hpe]; exact lexL_cons _ _ _
    refine Ok.loopU [2, 3] [5] 0 2 (fun (i : Nat) => [.i .i64 (i : Nat)]) (fun _ b => b) (fun _ r => r) (fun (i : Nat) => i ≤ a.t.less.length ∧ i ≤ b.t.less.length ∧ a.t.less.take i = b.t.less.take i) (fun (i : Nat) => a.t.less.length - i) (0) (⟨Nat.zero_le _, Nat.zero_le _, by simp⟩) ?_; (conv => whnf); refine ⟨by ((conv => whnf); first | rfl | (simp [envCat, List.take_of_length_le, srow, drow]; done) | (simp [envCat, List.take_of_length_le, srow, drow]; rw [IntKind.wrap_i64]; omega)), ?_⟩
    rintro i ⟨hi, hi2, htk⟩
    (conv => whnf)
    by_cases hil : i < a.t.less.length ∧ i < b.t.less.length
    · obtain ⟨x, hx⟩ : ∃ x, a.t.less[i]? = some x := ⟨_, List.getElem?_eq_getElem hil.1⟩
      obtain ⟨y, hy⟩ : ∃ y, b.t.less[i]? = some y := ⟨_, List.getElem?_eq_getElem hil.2⟩
      (try (conv => whnf)); repeat' (first | refine Ok.seq ?_ | (refine Ok.region tok ?_; conv => whnf) | (refine Ok.region_draw tok follows (by kernel_rfl) ?_; conv => whnf) | (refine Ok.cond ?_; conv => whnf) | refine Ok.block ?_ | (refine Ok.skip ?_; conv => whnf) | (refine Ok.exit ?_; conv => whnf) | (refine Ok.ret ?_; conv => whnf) | (refine num_in (by omega) (by omega) ?_; conv => whnf) | (refine ix _ (by assumption) ?_; conv => whnf) | (refine ixI (by omega) (by assumption) ?_; conv => whnf) | (refine ix_new _ (by omega) fun _ _ => ?_; conv => whnf) | (refine ixI_new (by omega) (by omega) fun _ _ => ?_; conv => whnf) | (refine ⟨_, by assumption, ?_⟩; conv => whnf) | (refine Alt2.l (And.intro (by first | omega | (simp; done) | (simp; omega)) ?_); conv => whnf) | (refine Alt2.r (And.intro (by first | omega | (simp; done) | (simp; omega)) ?_); conv => whnf) | (refine Ok.scope ?_) | (refine Ok.label ?_; conv => whnf) | (refine rd rfl (by assumption) ?_; conv => whnf) | (refine ⟨_, .inl ⟨rfl, rfl⟩, ?_⟩; conv => whnf) | (refine ⟨_, _, rfl, rfl, ?_⟩; conv => whnf) | (refine ⟨fun _ => ?_, fun _ => ?_⟩ <;> (conv => whnf) <;> (try (exfalso; omega))) | (refine And.intro (by first | omega | rfl | (simp; done) | (simp; omega)) ?_; conv => whnf) | (refine num_any ?_; conv => whnf) | (refine ⟨_, rfl, ?_⟩; conv => whnf) | fail)
      · rename_i hne
        refine Or.inl ?_; (conv => whnf)
        show D.b _ = _
        refine congrArg D.b (propext ?_)
        rw [hA]
        exact (lexL_differ htk hx hy hne).symm
      · rename_i hne
        have hxy : x = y := Classical.not_not.1 hne
        refine ⟨i + 1, by omega, ⟨by omega, by omega, by rw [take_snoc hx, take_snoc hy, htk, hxy]⟩, ?_⟩
        (conv => whnf)
        rfl
    · have hend : i = a.t.less.length ∨ i = b.t.less.length := by omega
      (try (conv => whnf)); repeat' (first | refine Ok.seq ?_ | (refine Ok.region tok ?_; conv => whnf) | (refine Ok.region_draw tok follows (by kernel_rfl) ?_; conv => whnf) | (refine Ok.cond ?_; conv => whnf) | refine Ok.block ?_ | (refine Ok.skip ?_; conv => whnf) | (refine Ok.exit ?_; conv => whnf) | (refine Ok.ret ?_; conv => whnf) | (refine num_in (by omega) (by omega) ?_; conv => whnf) | (refine ix _ (by assumption) ?_; conv => whnf) | (refine ixI (by omega) (by assumption) ?_; conv => whnf) | (refine ix_new _ (by omega) fun _ _ => ?_; conv => whnf) | (refine ixI_new (by omega) (by omega) fun _ _ => ?_; conv => whnf) | (refine ⟨_, by assumption, ?_⟩; conv => whnf) | (refine Alt2.l (And.intro (by first | omega | (simp; done) | (simp; omega)) ?_); conv => whnf) | (refine Alt2.r (And.intro (by first | omega | (simp; done) | (simp; omega)) ?_); conv => whnf) | (refine Ok.scope ?_) | (refine Ok.label ?_; conv => whnf) | (refine rd rfl (by assumption) ?_; conv => whnf) | (refine ⟨_, .inl ⟨rfl, rfl⟩, ?_⟩; conv => whnf) | (refine ⟨_, _, rfl, rfl, ?_⟩; conv => whnf) | (refine ⟨fun _ => ?_, fun _ => ?_⟩ <;> (conv => whnf) <;> (try (exfalso; omega))) | (refine And.intro (by first | omega | rfl | (simp; done) | (simp; omega)) ?_; conv => whnf) | (refine num_any ?_; conv => whnf) | (refine ⟨_, rfl, ?_⟩; conv => whnf) | fail)
      all_goals
        refine Or.inl ?_; (conv => whnf)
        show D.b _ = _
        refine congrArg D.b (propext ?_)
        rw [hA, lexL_end htk hi hi2 hend]
        omega
set_option maxHeartbeats 4000000 in
theorem rcovered_at {a b : TR} (ha : RN2 a) (hb : RN2 b) : FSpec Tryz.prog T 117 [.agg (drow a), .agg (drow b)] (fun r _ => r = .b (covR a b)) := by
  have han := ha.n
  have hbn := hb.n
  have hal : (a.t.less.map srow).length = a.t.less.length := by simp
  have hbl : (b.t.less.map srow).length = b.t.less.length := by simp
  have hpl := ha.p.2
  refine FSpec.of_ok tok Tryz.func117 rfl Tryz.call117 (by simp) ?_
  (try (conv => whnf)); repeat' (first | refine Ok.seq ?_ | (refine Ok.region tok ?_; conv => whnf) | (refine Ok.region_plan (id := 6) tok follows [(1, 7, [4, 3]), (4, 7, []), (6, 7, [])] [.q 0, .q 1, .q 2, .q 3, .q 4, .q 5, .q 6, .l 7, .q 8, .q 9, .q 10, .q 11, .q 12] (by kernel_rfl) ?_; conv => whnf) | (refine Ok.region_draw tok follows (by kernel_rfl) ?_; conv => whnf) | (refine Ok.cond ?_; conv => whnf) | refine Ok.block ?_ | (refine Ok.skip ?_; conv => whnf) | (refine Ok.exit ?_; conv => whnf) | (refine Ok.ret ?_; conv => whnf) | (refine num_in (by omega) (by omega) ?_; conv => whnf) | (refine ix _ (by assumption) ?_; conv => whnf) | (refine ixI (by omega) (by assumption) ?_; conv => whnf) | (refine ix_new _ (by omega) fun _ _ => ?_; conv => whnf) | (refine ixI_new (by omega) (by omega) fun _ _ => ?_; conv => whnf) | (refine ⟨_, by assumption, ?_⟩; conv => whnf) | (refine Or.inl ?_; (conv => whnf); (repeat (refine And.intro (by first | omega | (simp; done) | (simp; omega)) ?_; (conv => whnf))); refine ⟨_, rinside_at a.t.p b.t.p (by omega), rfl, ?_⟩; conv => whnf) | (refine ⟨_, rinside_at a.t.p b.t.p (by omega), rfl, ?_⟩; conv => whnf) | (refine Or.inr (Or.inl ?_); (conv => whnf); (repeat (refine And.intro (by first | omega | (simp; done) | (simp; omega)) ?_; (conv => whnf))); refine ⟨_, rinside_at a.t.p b.t.p (by omega), ?_⟩; rintro _ _ ⟨rfl, rfl⟩; conv => whnf) | (refine Alt2.l (And.intro (by first | omega | (simp; done) | (simp; omega)) ?_); conv => whnf) | (refine Alt2.r (And.intro (by first | omega | (simp; done) | (simp; omega)) ?_); conv => whnf) | (refine Ok.scope ?_) | (refine Ok.label ?_; conv => whnf) | (refine rd rfl (by assumption) ?_; conv => whnf) | (refine ⟨_, .inl ⟨rfl, rfl⟩, ?_⟩; conv => whnf) | (refine ⟨_, _, rfl, rfl, ?_⟩; conv => whnf) | (refine ⟨fun _ => ?_, fun _ => ?_⟩ <;> (conv => whnf) <;> (try (exfalso; omega))) | (refine And.intro (by first | omega | rfl | (simp; done) | (simp; omega)) ?_; conv => whnf) | (refine num_any ?_; conv => whnf) | (refine ⟨_, rfl, ?_⟩; conv => whnf) | fail)
  · rename_i h
    refine Or.inl ?_; (conv => whnf)
    show D.b False = _
    exact congrArg D.b (propext ⟨fun h => h.elim, fun h2 => h h2.1⟩)
  · rename_i h
    have hin : inT a.t.p b.t.p := Classical.not_not.1 h
    refine Ok.loopU [2, 3] [5] 0 2 (fun (i : Nat) => [.i .i64 (i : Nat)]) (fun _ b => b) (fun _ r => r) (fun (i : Nat) => i ≤ b.t.less.length ∧ ∀ m ∈ b.t.less.take i, ∀ c, meetT m a.t.p = some c → ∃ n ∈ a.t.less, inT c n) (fun (i : Nat) => b.t.less.length - i) (0) (⟨Nat.zero_le _, by simp⟩) ?_; (conv => whnf); refine ⟨by ((conv => whnf); first | rfl | (simp [envCat, List.take_of_length_le, srow, drow]; done) | (simp [envCat, List.take_of_length_le, srow, drow]; rw [IntKind.wrap_i64]; omega)), ?_⟩
    rintro i ⟨hi, hall⟩
    (conv => whnf)
    by_cases hil : i < b.t.less.length
    · obtain ⟨m, hm⟩ : ∃ m, b.t.less[i]? = some m := ⟨_, List.getElem?_eq_getElem hil⟩
      have hmo := hb.less m (List.mem_of_getElem? hm)
      have step : (∀ c, meetT m a.t.p = some c → ∃ n ∈ a.t.less, inT c n) → ∀ z ∈ b.t.less.take (i + 1), ∀ c, meetT z a.t.p = some c → ∃ n ∈ a.t.less, inT c n := fun h z hz => by
        rw [take_snoc hm] at hz
        rcases List.mem_append.1 hz with hz | hz
        · exact hall z hz
        · simp at hz; rw [hz]; exact h
      have hsp := rmeet_at m a.t.p (by omega)
      cases hmt : meetT m a.t.p with
      | none =>
        rw [hmt] at hsp
        (try (conv => whnf)); repeat' (first | refine Ok.seq ?_ | (refine Ok.region tok ?_; conv => whnf) | (refine Ok.region_plan (id := 6) tok follows [(1, 7, [4, 3]), (4, 7, []), (6, 7, [])] [.q 0, .q 1, .q 2, .q 3, .q 4, .q 5, .q 6, .l 7, .q 8, .q 9, .q 10, .q 11, .q 12] (by kernel_rfl) ?_; conv => whnf) | (refine Ok.region_draw tok follows (by kernel_rfl) ?_; conv => whnf) | (refine Ok.cond ?_; conv => whnf) | refine Ok.block ?_ | (refine Ok.skip ?_; conv => whnf) | (refine Ok.exit ?_; conv => whnf) | (refine Ok.ret ?_; conv => whnf) | (refine num_in (by omega) (by omega) ?_; conv => whnf) | (refine ix _ (by assumption) ?_; conv => whnf) | (refine ixI (by omega) (by assumption) ?_; conv => whnf) | (refine ix_new _ (by omega) fun _ _ => ?_; conv => whnf) | (refine ixI_new (by omega) (by omega) fun _ _ => ?_; conv => whnf) | (refine ⟨_, by assumption, ?_⟩; conv => whnf) | (refine Or.inr (Or.inl ?_); (conv => whnf); (repeat (refine And.intro (by first | omega | (simp; done) | (simp; omega)) ?_; (conv => whnf))); refine ⟨_, hsp, ?_⟩; rintro _ _ ⟨rfl, rfl⟩ <;> (conv => whnf)) | (refine Alt2.l (And.intro (by first | omega | (simp; done) | (simp; omega)) ?_); conv => whnf) | (refine Alt2.r (And.intro (by first | omega | (simp; done) | (simp; omega)) ?_); conv => whnf) | (refine Ok.scope ?_) | (refine Ok.label ?_; conv => whnf) | (refine rd rfl (by assumption) ?_; conv => whnf) | (refine ⟨_, .inl ⟨rfl, rfl⟩, ?_⟩; conv => whnf) | (refine ⟨_, _, rfl, rfl, ?_⟩; conv => whnf) | (refine ⟨fun _ => ?_, fun _ => ?_⟩ <;> (conv => whnf) <;> (try (exfalso; omega))) | (refine And.intro (by first | omega | rfl | (simp; done) | (simp; omega)) ?_; conv => whnf) | (refine num_any ?_; conv => whnf) | (refine ⟨_, rfl, ?_⟩; conv => whnf) | fail)
        · refine ⟨i + 1, by omega, ⟨by omega, step fun c hc => by rw [hmt] at hc; cases hc⟩, ?_⟩
          (conv => whnf)
          rfl
        · rename_i h2
          exact absurd (by simp) h2
      | some c =>
        rw [hmt] at hsp
        have hcl : c.length ≤ 100000 := by
          unfold meetT at hmt
          split at hmt
          · cases hmt
          · have := meetL_len hmt; omega
        (try (conv => whnf)); repeat' (first | refine Ok.seq ?_ | (refine Ok.region tok ?_; conv => whnf) | (refine Ok.region_plan (id := 6) tok follows [(1, 7, [4, 3]), (4, 7, []), (6, 7, [])] [.q 0, .q 1, .q 2, .q 3, .q 4, .q 5, .q 6, .l 7, .q 8, .q 9, .q 10, .q 11, .q 12] (by kernel_rfl) ?_; conv => whnf) | (refine Ok.region_draw tok follows (by kernel_rfl) ?_; conv => whnf) | (refine Ok.cond ?_; conv => whnf) | refine Ok.block ?_ | (refine Ok.skip ?_; conv => whnf) | (refine Ok.exit ?_; conv => whnf) | (refine Ok.ret ?_; conv => whnf) | (refine num_in (by omega) (by omega) ?_; conv => whnf) | (refine ix _ (by assumption) ?_; conv => whnf) | (refine ixI (by omega) (by assumption) ?_; conv => whnf) | (refine ix_new _ (by omega) fun _ _ => ?_; conv => whnf) | (refine ixI_new (by omega) (by omega) fun _ _ => ?_; conv => whnf) | (refine ⟨_, by assumption, ?_⟩; conv => whnf) | (refine Or.inr (Or.inl ?_); (conv => whnf); (repeat (refine And.intro (by first | omega | (simp; done) | (simp; omega)) ?_; (conv => whnf))); refine ⟨_, hsp, ?_⟩; rintro _ _ ⟨rfl, rfl⟩ <;> (conv => whnf)) | (refine Alt2.l (And.intro (by first | omega | (simp; done) | (simp; omega)) ?_); conv => whnf) | (refine Alt2.r (And.intro (by first | omega | (simp; done) | (simp; omega)) ?_); conv => whnf) | (refine Ok.scope ?_) | (refine Ok.label ?_; conv => whnf) | (refine rd rfl (by assumption) ?_; conv => whnf) | (refine ⟨_, .inl ⟨rfl, rfl⟩, ?_⟩; conv => whnf) | (refine ⟨_, _, rfl, rfl, ?_⟩; conv => whnf) | (refine ⟨fun _ => ?_, fun _ => ?_⟩ <;> (conv => whnf) <;> (try (exfalso; omega))) | (refine And.intro (by first | omega | rfl | (simp; done) | (simp; omega)) ?_; conv => whnf) | (refine num_any ?_; conv => whnf) | (refine ⟨_, rfl, ?_⟩; conv => whnf) | fail)
        · rename_i h2
          exact absurd rfl h2
        · refine Ok.asB 8 rfl ?_
          (conv => whnf)
          refine Ok.loopU [2, 3, 5, 6] [8, 9] 0 2 (fun (x : Nat × Prop) => [.b x.2, .i .i64 (x.1 : Nat)]) (fun _ b => b) (fun _ r => r) (fun (x : Nat × Prop) => x.1 ≤ a.t.less.length ∧ (x.2 ↔ ∃ n ∈ a.t.less.take x.1, inT c n)) (fun (x : Nat × Prop) => a.t.less.length - x.1) ((0, False)) (⟨Nat.zero_le _, by simp⟩) ?_; (conv => whnf); refine ⟨by ((conv => whnf); first | rfl | (simp [envCat, List.take_of_length_le, srow, drow]; done) | (simp [envCat, List.take_of_length_le, srow, drow]; rw [IntKind.wrap_i64]; omega)), ?_⟩
          rintro ⟨j, pin⟩ ⟨hj, hpin⟩
          dsimp only at hj hpin ⊢
          have more : pin → ∃ n ∈ a.t.less, inT c n := fun h => by
            obtain ⟨n, hn, hcn⟩ := hpin.1 h
            exact ⟨n, List.mem_of_mem_take hn, hcn⟩
          (conv => whnf)
          by_cases hjl : j < a.t.less.length
          · obtain ⟨n, hn⟩ : ∃ n, a.t.less[j]? = some n := ⟨_, List.getElem?_eq_getElem hjl⟩
            (try (conv => whnf)); repeat' (first | refine Ok.seq ?_ | (refine Ok.region tok ?_; conv => whnf) | (refine Ok.region_plan (id := 6) tok follows [(1, 7, [4, 3]), (4, 7, []), (6, 7, [])] [.q 0, .q 1, .q 2, .q 3, .q 4, .q 5, .q 6, .l 7, .q 8, .q 9, .q 10, .q 11, .q 12] (by kernel_rfl) ?_; conv => whnf) | (refine Ok.region_draw tok follows (by kernel_rfl) ?_; conv => whnf) | (refine Ok.cond ?_; conv => whnf) | refine Ok.block ?_ | (refine Ok.skip ?_; conv => whnf) | (refine Ok.exit ?_; conv => whnf) | (refine Ok.ret ?_; conv => whnf) | (refine num_in (by omega) (by omega) ?_; conv => whnf) | (refine ix _ (by assumption) ?_; conv => whnf) | (refine ixI (by omega) (by assumption) ?_; conv => whnf) | (refine ix_new _ (by omega) fun _ _ => ?_; conv => whnf) | (refine ixI_new (by omega) (by omega) fun _ _ => ?_; conv => whnf) | (refine ⟨_, by assumption, ?_⟩; conv => whnf) | (refine Or.inl ?_; (conv => whnf); (repeat (refine And.intro (by first | omega | (simp; done) | (simp; omega)) ?_; (conv => whnf))); refine ⟨_, rinside_at c n hcl, rfl, ?_⟩; conv => whnf) | (refine ⟨_, rinside_at c n hcl, rfl, ?_⟩; conv => whnf) | (refine Or.inr (Or.inl ?_); (conv => whnf); (repeat (refine And.intro (by first | omega | (simp; done) | (simp; omega)) ?_; (conv => whnf))); refine ⟨_, rinside_at c n hcl, ?_⟩; rintro _ _ ⟨rfl, rfl⟩; conv => whnf) | (refine Alt2.l (And.intro (by first | omega | (simp; done) | (simp; omega)) ?_); conv => whnf) | (refine Alt2.r (And.intro (by first | omega | (simp; done) | (simp; omega)) ?_); conv => whnf) | (refine Ok.scope ?_) | (refine Ok.label ?_; conv => whnf) | (refine rd rfl (by assumption) ?_; conv => whnf) | (refine ⟨_, .inl ⟨rfl, rfl⟩, ?_⟩; conv => whnf) | (refine ⟨_, _, rfl, rfl, ?_⟩; conv => whnf) | (refine ⟨fun _ => ?_, fun _ => ?_⟩ <;> (conv => whnf) <;> (try (exfalso; omega))) | (refine And.intro (by first | omega | rfl | (simp; done) | (simp; omega)) ?_; conv => whnf) | (refine num_any ?_; conv => whnf) | (refine ⟨_, rfl, ?_⟩; conv => whnf) | fail)
            · rename_i hnp
              refine ⟨(j + 1, inT c n), by dsimp only; omega, ⟨by dsimp only; omega, ?_⟩, ?_⟩
              · dsimp only
                rw [take_snoc hn]
                constructor
                · intro h; exact ⟨n, by simp, h⟩
                · rintro ⟨z, hz, hcz⟩
                  rcases List.mem_append.1 hz with hz | hz
                  · exact absurd (hpin.2 ⟨z, hz, hcz⟩) hnp
                  · simp at hz; rw [← hz]; exact hcz
              · (conv => whnf)
                rfl
            · rename_i h1 h2
              exact absurd h2 h1
            · rename_i h1 h2
              refine ⟨i + 1, by omega, ⟨by omega, step fun c' hc' => ?_⟩, ?_⟩
              · rw [hmt] at hc'
                cases hc'
                exact more (Classical.not_not.1 h1)
              · (conv => whnf)
                rfl
          · have hje : j = a.t.less.length := by omega
            subst hje
            rw [List.take_length] at hpin
            (try (conv => whnf)); repeat' (first | refine Ok.seq ?_ | (refine Ok.region tok ?_; conv => whnf) | (refine Ok.region_plan (id := 6) tok follows [(1, 7, [4, 3]), (4, 7, []), (6, 7, [])] [.q 0, .q 1, .q 2, .q 3, .q 4, .q 5, .q 6, .l 7, .q 8, .q 9, .q 10, .q 11, .q 12] (by kernel_rfl) ?_; conv => whnf) | (refine Ok.region_draw tok follows (by kernel_rfl) ?_; conv => whnf) | (refine Ok.cond ?_; conv => whnf) | refine Ok.block ?_ | (refine Ok.skip ?_; conv => whnf) | (refine Ok.exit ?_; conv => whnf) | (refine Ok.ret ?_; conv => whnf) | (refine num_in (by omega) (by omega) ?_; conv => whnf) | (refine ix _ (by assumption) ?_; conv => whnf) | (refine ixI (by omega) (by assumption) ?_; conv => whnf) | (refine ix_new _ (by omega) fun _ _ => ?_; conv => whnf) | (refine ixI_new (by omega) (by omega) fun _ _ => ?_; conv => whnf) | (refine ⟨_, by assumption, ?_⟩; conv => whnf) | (refine Alt2.l (And.intro (by first | omega | (simp; done) | (simp; omega)) ?_); conv => whnf) | (refine Alt2.r (And.intro (by first | omega | (simp; done) | (simp; omega)) ?_); conv => whnf) | (refine Ok.scope ?_) | (refine Ok.label ?_; conv => whnf) | (refine rd rfl (by assumption) ?_; conv => whnf) | (refine ⟨_, .inl ⟨rfl, rfl⟩, ?_⟩; conv => whnf) | (refine ⟨_, _, rfl, rfl, ?_⟩; conv => whnf) | (refine ⟨fun _ => ?_, fun _ => ?_⟩ <;> (conv => whnf) <;> (try (exfalso; omega))) | (refine And.intro (by first | omega | rfl | (simp; done) | (simp; omega)) ?_; conv => whnf) | (refine num_any ?_; conv => whnf) | (refine ⟨_, rfl, ?_⟩; conv => whnf) | fail)
            · rename_i h1
              refine Or.inl ?_; (conv => whnf)
              show D.b False = _
              refine congrArg D.b (propext ⟨fun h => h.elim, fun h2 => h1 (hpin.2 ?_)⟩)
              exact h2.2 m (List.mem_of_getElem? hm) c hmt
            · rename_i h1
              refine ⟨i + 1, by omega, ⟨by omega, step fun c' hc' => ?_⟩, ?_⟩
              · rw [hmt] at hc'
                cases hc'
                exact hpin.1 (Classical.not_not.1 h1)
              · (conv => whnf)
                rfl
    · have hie : i = b.t.less.length := by omega
      subst hie
      rw [List.take_length] at hall
      (try (conv => whnf)); repeat' (first | refine Ok.seq ?_ | (refine Ok.region tok ?_; conv => whnf) | (refine Ok.region_plan (id := 6) tok follows [(1, 7, [4, 3]), (4, 7, []), (6, 7, [])] [.q 0, .q 1, .q 2, .q 3, .q 4, .q 5, .q 6, .l 7, .q 8, .q 9, .q 10, .q 11, .q 12] (by kernel_rfl) ?_; conv => whnf) | (refine Ok.region_draw tok follows (by kernel_rfl) ?_; conv => whnf) | (refine Ok.cond ?_; conv => whnf) | refine Ok.block ?_ | (refine Ok.skip ?_; conv => whnf) | (refine Ok.exit ?_; conv => whnf) | (refine Ok.ret ?_; conv => whnf) | (refine num_in (by omega) (by omega) ?_; conv => whnf) | (refine ix _ (by assumption) ?_; conv => whnf) | (refine ixI (by omega) (by assumption) ?_; conv => whnf) | (refine ix_new _ (by omega) fun _ _ => ?_; conv => whnf) | (refine ixI_new (by omega) (by omega) fun _ _ => ?_; conv => whnf) | (refine ⟨_, by assumption, ?_⟩; conv => whnf) | (refine Alt2.l (And.intro (by first | omega | (simp; done) | (simp; omega)) ?_); conv => whnf) | (refine Alt2.r (And.intro (by first | omega | (simp; done) | (simp; omega)) ?_); conv => whnf) | (refine Ok.scope ?_) | (refine Ok.label ?_; conv => whnf) | (refine rd rfl (by assumption) ?_; conv => whnf) | (refine ⟨_, .inl ⟨rfl, rfl⟩, ?_⟩; conv => whnf) | (refine ⟨_, _, rfl, rfl, ?_⟩; conv => whnf) | (refine ⟨fun _ => ?_, fun _ => ?_⟩ <;> (conv => whnf) <;> (try (exfalso; omega))) | (refine And.intro (by first | omega | rfl | (simp; done) | (simp; omega)) ?_; conv => whnf) | (refine num_any ?_; conv => whnf) | (refine ⟨_, rfl, ?_⟩; conv => whnf) | fail)
      refine Or.inl ?_; (conv => whnf)
      show D.b True = _
      exact congrArg D.b (propext ⟨fun _ => ⟨hin, hall⟩, fun _ => trivial⟩)
end Go.Proofs.YtaiondckookpiaaGreatDoor
/- The document's form. -/
namespace Go.Proofs.YtaiondckookpiaaGreatDoor
open Go Go.Vx
set_option maxRecDepth 100000 in
set_option maxHeartbeats 8000000 in
theorem rform_at (bits : Int) (n : Nat) (l : List TR) {rl rm : List (List D)} (hl : l.length ≤ 100000) (hok : ∀ x ∈ l, RN2 x ∧ x.t.Ok n) (h : rl = l.map drow) : FSpec Tryz.prog T 68 [.i .i64 bits, .lst 120 rl rm]
    (fun d rows => ∃ (ks : List TR) (rm' : List (List D)), d = .agg [.i .i64 bits, .lst 120 (ks.map drow) rm'] ∧ rows = [] ∧ ks.map TR.t = formT (l.map TR.t) ∧ ∀ x ∈ ks, x ∈ l) := by
  subst h
  have hll : (l.map drow).length = l.length := by simp
  refine FSpec.of_ok tok Tryz.func68 rfl Tryz.call68 (by simp) ?_
  (try (conv => whnf)); repeat' (first | refine Ok.seq ?_ | (refine Ok.region tok ?_; conv => whnf) | (refine Ok.cond ?_; conv => whnf) | refine Ok.block ?_ | (refine Ok.skip ?_; conv => whnf) | (refine Ok.exit ?_; conv => whnf) | (refine Ok.ret ?_; conv => whnf) | (refine num_in (by omega) (by omega) ?_; conv => whnf) | (refine ix _ (by assumption) ?_; conv => whnf) | (refine ixI (by omega) (by assumption) ?_; conv => whnf) | (refine ix_new _ (by omega) fun _ _ => ?_; conv => whnf) | (refine ixI_new (by omega) (by omega) fun _ _ => ?_; conv => whnf) | (refine ⟨_, by assumption, ?_⟩; conv => whnf) | (refine Alt2.l (And.intro (by first | omega | (simp; done) | (simp; omega)) ?_); conv => whnf) | (refine Alt2.r (And.intro (by first | omega | (simp; done) | (simp; omega)) ?_); conv => whnf) | (refine Ok.scope ?_) | (refine Ok.label ?_; conv => whnf) | (refine rd rfl (by assumption) ?_; conv => whnf) | (refine ⟨_, .inl ⟨rfl, rfl⟩, ?_⟩; conv => whnf) | (refine ⟨_, _, rfl, rfl, ?_⟩; conv => whnf) | (refine ⟨fun _ => ?_, fun _ => ?_⟩ <;> (conv => whnf) <;> (try (exfalso; omega))) | (refine And.intro (by first | omega | rfl | (simp; done) | (simp; omega)) ?_; conv => whnf) | (refine num_any ?_; conv => whnf) | (refine ⟨_, rfl, ?_⟩; conv => whnf) | fail)
  refine Ok.ghost 5 120 rfl ?_
  (conv => whnf)
  refine Ok.loopU [0, 1, 4] [5, 6] 1 1 (fun (i : Nat) => [.own 0 (grG covR (l.take i)).length, .i .i64 (i : Nat)]) (fun _ b => b) (fun (i : Nat) (_ : Vx.Rows) => [some (120, (grG covR (l.take i)).map drow)]) (fun (i : Nat) => i ≤ l.length) (fun (i : Nat) => l.length - i) (0) (Nat.zero_le _) ?_; (conv => whnf); refine ⟨by ((conv => whnf); first | rfl | (simp [envCat, List.take_of_length_le, srow, drow]; done) | (simp [envCat, List.take_of_length_le, srow, drow]; rw [IntKind.wrap_i64]; omega)), ?_⟩
  rintro i hi
  have hKn := grG_len covR (l.take i)
  have hKl : ((grG covR (l.take i)).map drow).length = (grG covR (l.take i)).length := by simp
  (conv => whnf)
  by_cases hil : i < l.length
  · obtain ⟨x, hx⟩ : ∃ x, l[i]? = some x := ⟨_, List.getElem?_eq_getElem hil⟩
    have hxo := hok x (List.mem_of_getElem? hx)
    have hnext := grG_take (R := covR) hx
    have hKm : ∀ y ∈ grG covR (l.take i), RN2 y := fun y hy => (hok y (List.take_subset _ _ (grG_sub covR _ y hy))).1
    have hln : (l.take i).length ≤ i := List.length_take_le _ _
    generalize grG covR (l.take i) = K at *
    (try (conv => whnf)); repeat' (first | refine Ok.seq ?_ | (refine Ok.region tok ?_; conv => whnf) | (refine Ok.region_plan (id := 27) tok follows [(5, 6, []), (1, 7, []), (5, 7, [6]), (6, 7, []), (1, 9, []), (5, 9, []), (6, 9, []), (7, 9, [])] [.q 0, .q 1, .q 2, .q 3, .q 4, .q 5, .l 6, .l 7, .q 8, .l 9] (by kernel_rfl) ?_; conv => whnf) | (refine Ok.region_draw tok follows (by kernel_rfl) ?_; conv => whnf) | (refine Ok.cond ?_; conv => whnf) | refine Ok.block ?_ | (refine Ok.skip ?_; conv => whnf) | (refine Ok.exit ?_; conv => whnf) | (refine Ok.ret ?_; conv => whnf) | (refine num_in (by omega) (by omega) ?_; conv => whnf) | (refine ix _ (by assumption) ?_; conv => whnf) | (refine ixI (by omega) (by assumption) ?_; conv => whnf) | (refine ix_new _ (by omega) fun _ _ => ?_; conv => whnf) | (refine ixI_new (by omega) (by omega) fun _ _ => ?_; conv => whnf) | (refine ⟨_, by assumption, ?_⟩; conv => whnf) | (refine Alt2.l (And.intro (by first | omega | (simp; done) | (simp; omega)) ?_); conv => whnf) | (refine Alt2.r (And.intro (by first | omega | (simp; done) | (simp; omega)) ?_); conv => whnf) | (refine Ok.scope ?_) | (refine Ok.label ?_; conv => whnf) | (refine rd rfl (by assumption) ?_; conv => whnf) | (refine ⟨_, .inl ⟨rfl, rfl⟩, ?_⟩; conv => whnf) | (refine ⟨_, _, rfl, rfl, ?_⟩; conv => whnf) | (refine ⟨fun _ => ?_, fun _ => ?_⟩ <;> (conv => whnf) <;> (try (exfalso; omega))) | (refine And.intro (by first | omega | rfl | (simp; done) | (simp; omega)) ?_; conv => whnf) | (refine num_any ?_; conv => whnf) | (refine ⟨_, rfl, ?_⟩; conv => whnf) | fail)
    refine Ok.asB 7 rfl ?_
    (conv => whnf)
    refine Ok.loopU [0, 1, 4, 5, 6] [7, 8] 1 1 (fun (y : Nat × Prop) => [.b y.2, .i .i64 (y.1 : Nat)]) (fun _ b => b) (fun _ r => r) (fun (y : Nat × Prop) => y.1 ≤ K.length ∧ (y.2 ↔ ∃ z ∈ K.take y.1, covR x z)) (fun (y : Nat × Prop) => K.length - y.1) ((0, False)) (⟨Nat.zero_le _, by simp⟩) ?_; (conv => whnf); refine ⟨by ((conv => whnf); first | rfl | (simp [envCat, List.take_of_length_le, srow, drow]; done) | (simp [envCat, List.take_of_length_le, srow, drow]; rw [IntKind.wrap_i64]; omega)), ?_⟩
    rintro ⟨j, pin⟩ ⟨hj, hpin⟩
    dsimp only at hj hpin ⊢
    have skip : pin → grG covR (l.take (i + 1)) = K := fun h => by
      obtain ⟨z, hz, hc⟩ := hpin.1 h
      rw [hnext, addG_in ⟨z, List.mem_of_mem_take hz, hc⟩]
    (conv => whnf)
    by_cases hjl : j < K.length
    · obtain ⟨y, hy⟩ : ∃ y, K[j]? = some y := ⟨_, List.getElem?_eq_getElem hjl⟩
      have hyI : K[((j : Nat) : Int).toNat]? = some y := hy
      have hyo := hKm y (List.mem_of_getElem? hy)
      (try (conv => whnf)); repeat' (first | refine Ok.seq ?_ | (refine Ok.region tok ?_; conv => whnf) | (refine Ok.region_plan (id := 27) tok follows [(5, 6, []), (1, 7, []), (5, 7, [6]), (6, 7, []), (1, 9, []), (5, 9, []), (6, 9, []), (7, 9, [])] [.q 0, .q 1, .q 2, .q 3, .q 4, .q 5, .l 6, .l 7, .q 8, .l 9] (by kernel_rfl) ?_; conv => whnf) | (refine Ok.region_draw tok follows (by kernel_rfl) ?_; conv => whnf) | (refine Ok.cond ?_; conv => whnf) | refine Ok.block ?_ | (refine Ok.skip ?_; conv => whnf) | (refine Ok.exit ?_; conv => whnf) | (refine Ok.ret ?_; conv => whnf) | (refine num_in (by omega) (by omega) ?_; conv => whnf) | (refine ix _ (by assumption) ?_; conv => whnf) | (refine ixI (by omega) (by assumption) ?_; conv => whnf) | (refine ix_new _ (by omega) fun _ _ => ?_; conv => whnf) | (refine ixI_new (by omega) (by omega) fun _ _ => ?_; conv => whnf) | (refine ⟨_, by assumption, ?_⟩; conv => whnf) | (refine Or.inl ?_; (conv => whnf); (repeat (refine And.intro (by first | omega | (simp; done) | (simp; omega)) ?_; (conv => whnf))); refine ⟨_, rcovered_at hxo.1 hyo, rfl, ?_⟩; conv => whnf) | (refine ⟨_, rcovered_at hxo.1 hyo, rfl, ?_⟩; conv => whnf) | (refine Or.inr (Or.inl ?_); (conv => whnf); (repeat (refine And.intro (by first | omega | (simp; done) | (simp; omega)) ?_; (conv => whnf))); refine ⟨_, rcovered_at hxo.1 hyo, ?_⟩; rintro _ _ ⟨rfl, rfl⟩; conv => whnf) | (refine Alt2.l (And.intro (by first | omega | (simp; done) | (simp; omega)) ?_); conv => whnf) | (refine Alt2.r (And.intro (by first | omega | (simp; done) | (simp; omega)) ?_); conv => whnf) | (refine Ok.scope ?_) | (refine Ok.label ?_; conv => whnf) | (refine rd rfl (by assumption) ?_; conv => whnf) | (refine ⟨_, .inl ⟨rfl, rfl⟩, ?_⟩; conv => whnf) | (refine ⟨_, _, rfl, rfl, ?_⟩; conv => whnf) | (refine ⟨fun _ => ?_, fun _ => ?_⟩ <;> (conv => whnf) <;> (try (exfalso; omega))) | (refine And.intro (by first | omega | rfl | (simp; done) | (simp; omega)) ?_; conv => whnf) | (refine num_any ?_; conv => whnf) | (refine ⟨_, rfl, ?_⟩; conv => whnf) | fail)
      · rename_i hnp
        refine ⟨(j + 1, covR x y), by dsimp only; omega, ⟨by dsimp only; omega, ?_⟩, ?_⟩
        · dsimp only
          rw [take_snoc hy]
          constructor
          · intro h; exact ⟨y, by simp, h⟩
          · rintro ⟨z, hz, hcz⟩
            rcases List.mem_append.1 hz with hz | hz
            · exact absurd (hpin.2 ⟨z, hz, hcz⟩) hnp
            · simp at hz; rw [← hz]; exact hcz
        · (conv => whnf)
          rfl
      · rename_i h1 h2
        refine ⟨i + 1, by omega, by omega, ?_⟩
        rw [skip h2]
        (conv => whnf)
        rfl
      · rename_i h1 h2
        exact absurd h2 h1
    · have hje : j = K.length := by omega
      subst hje
      rw [List.take_length] at hpin
      (try (conv => whnf)); repeat' (first | refine Ok.seq ?_ | (refine Ok.region tok ?_; conv => whnf) | (refine Ok.region_plan (id := 27) tok follows [(5, 6, []), (1, 7, []), (5, 7, [6]), (6, 7, []), (1, 9, []), (5, 9, []), (6, 9, []), (7, 9, [])] [.q 0, .q 1, .q 2, .q 3, .q 4, .q 5, .l 6, .l 7, .q 8, .l 9] (by kernel_rfl) ?_; conv => whnf) | (refine Ok.region_draw tok follows (by kernel_rfl) ?_; conv => whnf) | (refine Ok.cond ?_; conv => whnf) | refine Ok.block ?_ | (refine Ok.skip ?_; conv => whnf) | (refine Ok.exit ?_; conv => whnf) | (refine Ok.ret ?_; conv => whnf) | (refine num_in (by omega) (by omega) ?_; conv => whnf) | (refine ix _ (by assumption) ?_; conv => whnf) | (refine ixI (by omega) (by assumption) ?_; conv => whnf) | (refine ix_new _ (by omega) fun _ _ => ?_; conv => whnf) | (refine ixI_new (by omega) (by omega) fun _ _ => ?_; conv => whnf) | (refine ⟨_, by assumption, ?_⟩; conv => whnf) | (refine Alt2.l (And.intro (by first | omega | (simp; done) | (simp; omega)) ?_); conv => whnf) | (refine Alt2.r (And.intro (by first | omega | (simp; done) | (simp; omega)) ?_); conv => whnf) | (refine Ok.scope ?_) | (refine Ok.label ?_; conv => whnf) | (refine rd rfl (by assumption) ?_; conv => whnf) | (refine ⟨_, .inl ⟨rfl, rfl⟩, ?_⟩; conv => whnf) | (refine ⟨_, _, rfl, rfl, ?_⟩; conv => whnf) | (refine ⟨fun _ => ?_, fun _ => ?_⟩ <;> (conv => whnf) <;> (try (exfalso; omega))) | (refine And.intro (by first | omega | rfl | (simp; done) | (simp; omega)) ?_; conv => whnf) | (refine num_any ?_; conv => whnf) | (refine ⟨_, rfl, ?_⟩; conv => whnf) | fail)
      · rename_i h2
        refine ⟨i + 1, by omega, by omega, ?_⟩
        rw [skip h2]
        (conv => whnf)
        rfl
      · rename_i h2
        have hno : ∀ z ∈ K, ¬ covR x z := fun z hz hc => h2 (hpin.2 ⟨z, hz, hc⟩)
        refine Ok.ghost 9 120 rfl ?_
        (conv => whnf)
        refine Ok.loopU [0, 1, 4, 5, 6] [9, 10] 2 1 (fun (j : Nat) => [.own 1 (leftOf covR K x j).length, .i .i64 (j : Nat)]) (fun _ b => b) (fun (j : Nat) (_ : Vx.Rows) => [some (120, K.map drow), some (120, (leftOf covR K x j).map drow)]) (fun (j : Nat) => j ≤ K.length) (fun (j : Nat) => K.length - j) (0) (Nat.zero_le _) ?_; (conv => whnf); refine ⟨by ((conv => whnf); first | rfl | (simp [envCat, List.take_of_length_le, srow, drow]; done) | (simp [envCat, List.take_of_length_le, srow, drow]; rw [IntKind.wrap_i64]; omega)), ?_⟩
        rintro j hj
        have hle := leftOf_le (R := covR) K x j
        have hlm : ((leftOf covR K x j).map drow).length = (leftOf covR K x j).length := by simp
        (conv => whnf)
        by_cases hjl2 : j < K.length
        · obtain ⟨y, hy⟩ : ∃ y, K[j]? = some y := ⟨_, List.getElem?_eq_getElem hjl2⟩
          have hyI : K[((j : Nat) : Int).toNat]? = some y := hy
          have hyo := hKm y (List.mem_of_getElem? hy)
          (try (conv => whnf)); repeat' (first | refine Ok.seq ?_ | (refine Ok.region tok ?_; conv => whnf) | (refine Ok.region_plan (id := 27) tok follows [(5, 6, []), (1, 7, []), (5, 7, [6]), (6, 7, []), (1, 9, []), (5, 9, []), (6, 9, []), (7, 9, [])] [.q 0, .q 1, .q 2, .q 3, .q 4, .q 5, .l 6, .l 7, .q 8, .l 9] (by kernel_rfl) ?_; conv => whnf) | (refine Ok.region_draw tok follows (by kernel_rfl) ?_; conv => whnf) | (refine Ok.cond ?_; conv => whnf) | refine Ok.block ?_ | (refine Ok.skip ?_; conv => whnf) | (refine Ok.exit ?_; conv => whnf) | (refine Ok.ret ?_; conv => whnf) | (refine num_in (by omega) (by omega) ?_; conv => whnf) | (refine ix _ (by assumption) ?_; conv => whnf) | (refine ixI (by omega) (by assumption) ?_; conv => whnf) | (refine ix_new _ (by omega) fun _ _ => ?_; conv => whnf) | (refine ixI_new (by omega) (by omega) fun _ _ => ?_; conv => whnf) | (refine ⟨_, by assumption, ?_⟩; conv => whnf) | (refine Or.inl ?_; (conv => whnf); (repeat (refine And.intro (by first | omega | (simp; done) | (simp; omega)) ?_; (conv => whnf))); refine ⟨_, rcovered_at hyo hxo.1, rfl, ?_⟩; conv => whnf) | (refine ⟨_, rcovered_at hyo hxo.1, rfl, ?_⟩; conv => whnf) | (refine Or.inr (Or.inl ?_); (conv => whnf); (repeat (refine And.intro (by first | omega | (simp; done) | (simp; omega)) ?_; (conv => whnf))); refine ⟨_, rcovered_at hyo hxo.1, ?_⟩; rintro _ _ ⟨rfl, rfl⟩; conv => whnf) | (refine Alt2.l (And.intro (by first | omega | (simp; done) | (simp; omega)) ?_); conv => whnf) | (refine Alt2.r (And.intro (by first | omega | (simp; done) | (simp; omega)) ?_); conv => whnf) | (refine Ok.scope ?_) | (refine Ok.label ?_; conv => whnf) | (refine rd rfl (by assumption) ?_; conv => whnf) | (refine ⟨_, .inl ⟨rfl, rfl⟩, ?_⟩; conv => whnf) | (refine ⟨_, _, rfl, rfl, ?_⟩; conv => whnf) | (refine ⟨fun _ => ?_, fun _ => ?_⟩ <;> (conv => whnf) <;> (try (exfalso; omega))) | (refine And.intro (by first | omega | rfl | (simp; done) | (simp; omega)) ?_; conv => whnf) | (refine num_any ?_; conv => whnf) | (refine ⟨_, rfl, ?_⟩; conv => whnf) | fail)
          · rename_i hc
            refine ⟨j + 1, by omega, by omega, ?_⟩
            rw [leftOf_step_keep hy hc]
            (conv => whnf)
            simp [envCat]
          · rename_i hc
            refine ⟨j + 1, by omega, by omega, ?_⟩
            rw [leftOf_step_drop hy (Classical.not_not.1 hc)]
            (conv => whnf)
            rfl
        · have hje2 : j = K.length := by omega
          subst hje2
          have hall := leftOf_all K x hno
          (try (conv => whnf)); repeat' (first | ((refine Ok.into (c := .region 4 _ _) 0 1 rfl (by decide) (by simp) ?_); (conv => whnf)) | refine Ok.seq ?_ | (refine Ok.region tok ?_; conv => whnf) | (refine Ok.region_plan (id := 27) tok follows [(5, 6, []), (1, 7, []), (5, 7, [6]), (6, 7, []), (1, 9, []), (5, 9, []), (6, 9, []), (7, 9, [])] [.q 0, .q 1, .q 2, .q 3, .q 4, .q 5, .l 6, .l 7, .q 8, .l 9] (by kernel_rfl) ?_; conv => whnf) | (refine Ok.region_draw tok follows (by kernel_rfl) ?_; conv => whnf) | (refine Ok.cond ?_; conv => whnf) | refine Ok.block ?_ | (refine Ok.skip ?_; conv => whnf) | (refine Ok.exit ?_; conv => whnf) | (refine Ok.ret ?_; conv => whnf) | (refine num_in (by omega) (by omega) ?_; conv => whnf) | (refine ix _ (by assumption) ?_; conv => whnf) | (refine ixI (by omega) (by assumption) ?_; conv => whnf) | (refine ix_new _ (by omega) fun _ _ => ?_; conv => whnf) | (refine ixI_new (by omega) (by omega) fun _ _ => ?_; conv => whnf) | (refine ⟨_, by assumption, ?_⟩; conv => whnf) | (refine Alt2.l (And.intro (by first | omega | (simp; done) | (simp; omega)) ?_); conv => whnf) | (refine Alt2.r (And.intro (by first | omega | (simp; done) | (simp; omega)) ?_); conv => whnf) | (refine Ok.scope ?_) | (refine Ok.label ?_; conv => whnf) | (refine rd rfl (by assumption) ?_; conv => whnf) | (refine ⟨_, .inl ⟨rfl, rfl⟩, ?_⟩; conv => whnf) | (refine ⟨_, _, rfl, rfl, ?_⟩; conv => whnf) | (refine ⟨fun _ => ?_, fun _ => ?_⟩ <;> (conv => whnf) <;> (try (exfalso; omega))) | (refine And.intro (by first | omega | rfl | (simp; done) | (simp; omega)) ?_; conv => whnf) | (refine num_any ?_; conv => whnf) | (refine ⟨_, rfl, ?_⟩; conv => whnf) | fail)
          refine ⟨i + 1, by omega, by omega, ?_⟩
          rw [hnext, ← hall]
          (conv => whnf)
          simp [envCat]
  · have hie : i = l.length := by omega
    subst hie
    rw [List.take_length] at hKn hKl ⊢
    have hKt : (grG covR l).map TR.t = grG covT (l.map TR.t) := grG_map TR.t covT l
    have hKm : ∀ x ∈ grG covR l, x ∈ l := grG_sub covR l
    have hnd : (grG covR l).Pairwise fun a b => a.t ≠ b.t := by
      have := grG_differ (l := l.map TR.t) (n := n) fun t ht => by
        obtain ⟨x, hx, rfl⟩ := List.mem_map.1 ht
        exact (hok x hx).2
      rw [← hKt, List.pairwise_map] at this
      exact this
    generalize grG covR l = K at *
    (try (conv => whnf)); repeat' (first | refine Ok.seq ?_ | (refine Ok.region tok ?_; conv => whnf) | (refine Ok.region_plan (id := 27) tok follows [(5, 6, []), (1, 7, []), (5, 7, [6]), (6, 7, []), (1, 9, []), (5, 9, []), (6, 9, []), (7, 9, [])] [.q 0, .q 1, .q 2, .q 3, .q 4, .q 5, .l 6, .l 7, .q 8, .l 9] (by kernel_rfl) ?_; conv => whnf) | (refine Ok.region_draw tok follows (by kernel_rfl) ?_; conv => whnf) | (refine Ok.cond ?_; conv => whnf) | refine Ok.block ?_ | (refine Ok.skip ?_; conv => whnf) | (refine Ok.exit ?_; conv => whnf) | (refine Ok.ret ?_; conv => whnf) | (refine num_in (by omega) (by omega) ?_; conv => whnf) | (refine ix _ (by assumption) ?_; conv => whnf) | (refine ixI (by omega) (by assumption) ?_; conv => whnf) | (refine ix_new _ (by omega) fun _ _ => ?_; conv => whnf) | (refine ixI_new (by omega) (by omega) fun _ _ => ?_; conv => whnf) | (refine ⟨_, by assumption, ?_⟩; conv => whnf) | (refine Alt2.l (And.intro (by first | omega | (simp; done) | (simp; omega)) ?_); conv => whnf) | (refine Alt2.r (And.intro (by first | omega | (simp; done) | (simp; omega)) ?_); conv => whnf) | (refine Ok.scope ?_) | (refine Ok.label ?_; conv => whnf) | (refine rd rfl (by assumption) ?_; conv => whnf) | (refine ⟨_, .inl ⟨rfl, rfl⟩, ?_⟩; conv => whnf) | (refine ⟨_, _, rfl, rfl, ?_⟩; conv => whnf) | (refine ⟨fun _ => ?_, fun _ => ?_⟩ <;> (conv => whnf) <;> (try (exfalso; omega))) | (refine And.intro (by first | omega | rfl | (simp; done) | (simp; omega)) ?_; conv => whnf) | (refine num_any ?_; conv => whnf) | (refine ⟨_, rfl, ?_⟩; conv => whnf) | fail)
    refine Ok.ghostB 1 1 120 rfl rfl ?_
    (conv => whnf)
    refine Ok.loopU [4, 11] [5] 2 2 (fun (y : List TR × List TR × Nat) => [.own 0 y.2.2]) (fun (y : List TR × List TR × Nat) (_ : List (List D)) => [[.i .i64 0, .nilS], [.i .i64 bits, .own 1 y.1.length]]) (fun (y : List TR × List TR × Nat) (_ : Vx.Rows) => [some (120, y.2.1.map drow), some (120, y.1.map drow)]) (fun (y : List TR × List TR × Nat) => Sel TR.t K y.1 y.2.1 y.2.2 ∧ y.1.length + y.2.2 = K.length) (fun (y : List TR × List TR × Nat) => y.2.2) (([], K, K.length)) (⟨Sel.zero, by simp⟩) ?_; (conv => whnf); refine ⟨by ((conv => whnf); first | rfl | (simp [envCat, List.take_of_length_le, srow, drow]; done) | (simp [envCat, List.take_of_length_le, srow, drow]; rw [IntKind.wrap_i64]; omega)), ?_⟩
    rintro ⟨S, W, m⟩ ⟨hS, hlen⟩
    dsimp only at hS hlen ⊢
    have hWm := hS.le
    have hWl : (W.map drow).length = W.length := by simp
    have hSl : (S.map drow).length = S.length := by simp
    have hWk : ∀ (i : Nat) w, i < m → W[i]? = some w → RN2 w := fun i w hi hw => (hok w (hKm w (hS.perm.mem_iff.1 (List.mem_append_right _ (List.mem_of_getElem? (by rw [List.getElem?_take, if_pos hi]; exact hw)))))).1
    (conv => whnf)
    by_cases hm0 : 0 < m
    · (try (conv => whnf)); repeat' (first | refine Ok.seq ?_ | (refine Ok.region tok ?_; conv => whnf) | (refine Ok.region_plan (id := 27) tok follows [(5, 6, []), (1, 7, []), (5, 7, [6]), (6, 7, []), (1, 9, []), (5, 9, []), (6, 9, []), (7, 9, [])] [.q 0, .q 1, .q 2, .q 3, .q 4, .q 5, .l 6, .l 7, .q 8, .l 9] (by kernel_rfl) ?_; conv => whnf) | (refine Ok.region_draw tok follows (by kernel_rfl) ?_; conv => whnf) | (refine Ok.cond ?_; conv => whnf) | refine Ok.block ?_ | (refine Ok.skip ?_; conv => whnf) | (refine Ok.exit ?_; conv => whnf) | (refine Ok.ret ?_; conv => whnf) | (refine num_in (by omega) (by omega) ?_; conv => whnf) | (refine ix _ (by assumption) ?_; conv => whnf) | (refine ixI (by omega) (by assumption) ?_; conv => whnf) | (refine ix_new _ (by omega) fun _ _ => ?_; conv => whnf) | (refine ixI_new (by omega) (by omega) fun _ _ => ?_; conv => whnf) | (refine ⟨_, by assumption, ?_⟩; conv => whnf) | (refine Alt2.l (And.intro (by first | omega | (simp; done) | (simp; omega)) ?_); conv => whnf) | (refine Alt2.r (And.intro (by first | omega | (simp; done) | (simp; omega)) ?_); conv => whnf) | (refine Ok.scope ?_) | (refine Ok.label ?_; conv => whnf) | (refine rd rfl (by assumption) ?_; conv => whnf) | (refine ⟨_, .inl ⟨rfl, rfl⟩, ?_⟩; conv => whnf) | (refine ⟨_, _, rfl, rfl, ?_⟩; conv => whnf) | (refine ⟨fun _ => ?_, fun _ => ?_⟩ <;> (conv => whnf) <;> (try (exfalso; omega))) | (refine And.intro (by first | omega | rfl | (simp; done) | (simp; omega)) ?_; conv => whnf) | (refine num_any ?_; conv => whnf) | (refine ⟨_, rfl, ?_⟩; conv => whnf) | fail)
      refine Ok.loopU [4, 5, 11] [12, 13] 2 2 (fun (z : Nat × Nat) => [.i .i64 (z.1 : Nat), .i .i64 (z.2 : Nat)]) (fun _ b => b) (fun _ r => r) (fun (z : Nat × Nat) => z.1 < m ∧ z.2 ≤ m ∧ ∀ j, j < z.2 → ∀ w v, W[j]? = some w → W[z.1]? = some v → ¬ aheadT w.t v.t) (fun (z : Nat × Nat) => m - z.2) ((0, 1)) (⟨hm0, hm0, fun j hj w v hw hv => by
        have : j = 0 := by dsimp only at hj; omega
        subst this
        rw [hw] at hv
        cases hv
        exact ahead_irrefl _⟩) ?_; (conv => whnf); refine ⟨by ((conv => whnf); first | rfl | (simp [envCat, List.take_of_length_le, srow, drow]; done) | (simp [envCat, List.take_of_length_le, srow, drow]; rw [IntKind.wrap_i64]; omega)), ?_⟩
      rintro ⟨k, i⟩ ⟨hk, hi2, hmin⟩
      dsimp only at hk hi2 hmin ⊢
      obtain ⟨v, hv⟩ : ∃ v, W[k]? = some v := ⟨_, List.getElem?_eq_getElem (by omega)⟩
      have hvI : W[((k : Nat) : Int).toNat]? = some v := hv
      have hvo := hWk k v hk hv
      (conv => whnf)
      by_cases hil2 : i < m
      · obtain ⟨w, hw⟩ : ∃ w, W[i]? = some w := ⟨_, List.getElem?_eq_getElem (by omega)⟩
        have hwI : W[((i : Nat) : Int).toNat]? = some w := hw
        have hwo := hWk i w hil2 hw
        (try (conv => whnf)); repeat' (first | refine Ok.seq ?_ | (refine Ok.region tok ?_; conv => whnf) | (refine Ok.region_plan (id := 27) tok follows [(5, 6, []), (1, 7, []), (5, 7, [6]), (6, 7, []), (1, 9, []), (5, 9, []), (6, 9, []), (7, 9, [])] [.q 0, .q 1, .q 2, .q 3, .q 4, .q 5, .l 6, .l 7, .q 8, .l 9] (by kernel_rfl) ?_; conv => whnf) | (refine Ok.region_draw tok follows (by kernel_rfl) ?_; conv => whnf) | (refine Ok.cond ?_; conv => whnf) | refine Ok.block ?_ | (refine Ok.skip ?_; conv => whnf) | (refine Ok.exit ?_; conv => whnf) | (refine Ok.ret ?_; conv => whnf) | (refine num_in (by omega) (by omega) ?_; conv => whnf) | (refine ix _ (by assumption) ?_; conv => whnf) | (refine ixI (by omega) (by assumption) ?_; conv => whnf) | (refine ix_new _ (by omega) fun _ _ => ?_; conv => whnf) | (refine ixI_new (by omega) (by omega) fun _ _ => ?_; conv => whnf) | (refine ⟨_, by assumption, ?_⟩; conv => whnf) | (refine Or.inl ?_; (conv => whnf); (repeat (refine And.intro (by first | omega | (simp; done) | (simp; omega)) ?_; (conv => whnf))); refine ⟨_, rahead_at hwo hvo, rfl, ?_⟩; conv => whnf) | (refine ⟨_, rahead_at hwo hvo, rfl, ?_⟩; conv => whnf) | (refine Or.inr (Or.inl ?_); (conv => whnf); (repeat (refine And.intro (by first | omega | (simp; done) | (simp; omega)) ?_; (conv => whnf))); refine ⟨_, rahead_at hwo hvo, ?_⟩; rintro _ _ ⟨rfl, rfl⟩; conv => whnf) | (refine Alt2.l (And.intro (by first | omega | (simp; done) | (simp; omega)) ?_); conv => whnf) | (refine Alt2.r (And.intro (by first | omega | (simp; done) | (simp; omega)) ?_); conv => whnf) | (refine Ok.scope ?_) | (refine Ok.label ?_; conv => whnf) | (refine rd rfl (by assumption) ?_; conv => whnf) | (refine ⟨_, .inl ⟨rfl, rfl⟩, ?_⟩; conv => whnf) | (refine ⟨_, _, rfl, rfl, ?_⟩; conv => whnf) | (refine ⟨fun _ => ?_, fun _ => ?_⟩ <;> (conv => whnf) <;> (try (exfalso; omega))) | (refine And.intro (by first | omega | rfl | (simp; done) | (simp; omega)) ?_; conv => whnf) | (refine num_any ?_; conv => whnf) | (refine ⟨_, rfl, ?_⟩; conv => whnf) | fail)
        · rename_i hah
          refine ⟨(i, i + 1), by dsimp only; omega, ⟨by dsimp only; omega, by dsimp only; omega, fun j hj a b ha hb => ?_⟩, ?_⟩
          · dsimp only at hj hb
            rw [hw] at hb
            cases hb
            by_cases hji : j = i
            · subst hji
              rw [hw] at ha
              cases ha
              exact ahead_irrefl _
            · intro h2
              exact hmin j (by omega) a v ha hv (ahead_trans _ _ _ h2 hah)
          · (conv => whnf)
            rfl
        · rename_i hah
          refine ⟨(k, i + 1), by dsimp only; omega, ⟨by dsimp only; omega, by dsimp only; omega, fun j hj a b ha hb => ?_⟩, ?_⟩
          · dsimp only at hj hb
            by_cases hji : j = i
            · subst hji
              rw [hw] at ha
              cases ha
              rw [hv] at hb
              cases hb
              exact hah
            · exact hmin j (by omega) a b ha hb
          · (conv => whnf)
            rfl
      · have hie2 : i = m := by omega
        subst hie2
        obtain ⟨z, hz⟩ : ∃ z, W[i - 1]? = some z := ⟨_, List.getElem?_eq_getElem (by omega)⟩
        have hzI : W[(((i : Nat) : Int) - 1).toNat]? = some z := by rw [show (((i : Nat) : Int) - 1).toNat = i - 1 by omega]; exact hz
        have hnx := hS.step hnd hv hk hz fun j hj a ha => hmin j hj a v ha hv
        (try (conv => whnf)); repeat' (first | refine Ok.seq ?_ | (refine Ok.region tok ?_; conv => whnf) | (refine Ok.region_plan (id := 27) tok follows [(5, 6, []), (1, 7, []), (5, 7, [6]), (6, 7, []), (1, 9, []), (5, 9, []), (6, 9, []), (7, 9, [])] [.q 0, .q 1, .q 2, .q 3, .q 4, .q 5, .l 6, .l 7, .q 8, .l 9] (by kernel_rfl) ?_; conv => whnf) | (refine Ok.region_draw tok follows (by kernel_rfl) ?_; conv => whnf) | (refine Ok.cond ?_; conv => whnf) | refine Ok.block ?_ | (refine Ok.skip ?_; conv => whnf) | (refine Ok.exit ?_; conv => whnf) | (refine Ok.ret ?_; conv => whnf) | (refine num_in (by omega) (by omega) ?_; conv => whnf) | (refine ix _ (by assumption) ?_; conv => whnf) | (refine ixI (by omega) (by assumption) ?_; conv => whnf) | (refine ix_new _ (by omega) fun _ _ => ?_; conv => whnf) | (refine ixI_new (by omega) (by omega) fun _ _ => ?_; conv => whnf) | (refine ⟨_, by assumption, ?_⟩; conv => whnf) | (refine Alt2.l (And.intro (by first | omega | (simp; done) | (simp; omega)) ?_); conv => whnf) | (refine Alt2.r (And.intro (by first | omega | (simp; done) | (simp; omega)) ?_); conv => whnf) | (refine Ok.scope ?_) | (refine Ok.label ?_; conv => whnf) | (refine rd rfl (by assumption) ?_; conv => whnf) | (refine ⟨_, .inl ⟨rfl, rfl⟩, ?_⟩; conv => whnf) | (refine ⟨_, _, rfl, rfl, ?_⟩; conv => whnf) | (refine ⟨fun _ => ?_, fun _ => ?_⟩ <;> (conv => whnf) <;> (try (exfalso; omega))) | (refine And.intro (by first | omega | rfl | (simp; done) | (simp; omega)) ?_; conv => whnf) | (refine num_any ?_; conv => whnf) | (refine ⟨_, rfl, ?_⟩; conv => whnf) | fail)
        refine st z hvI (by simp) (by simp [setCells]) ?_
        rw [toNat_cast]
        have hWs : ((W.set k z).map drow).length = W.length := by simp
        (try (conv => whnf)); repeat' (first | refine Ok.seq ?_ | (refine Ok.region tok ?_; conv => whnf) | (refine Ok.region_plan (id := 27) tok follows [(5, 6, []), (1, 7, []), (5, 7, [6]), (6, 7, []), (1, 9, []), (5, 9, []), (6, 9, []), (7, 9, [])] [.q 0, .q 1, .q 2, .q 3, .q 4, .q 5, .l 6, .l 7, .q 8, .l 9] (by kernel_rfl) ?_; conv => whnf) | (refine Ok.region_draw tok follows (by kernel_rfl) ?_; conv => whnf) | (refine Ok.cond ?_; conv => whnf) | refine Ok.block ?_ | (refine Ok.skip ?_; conv => whnf) | (refine Ok.exit ?_; conv => whnf) | (refine Ok.ret ?_; conv => whnf) | (refine num_in (by omega) (by omega) ?_; conv => whnf) | (refine ix _ (by assumption) ?_; conv => whnf) | (refine ixI (by omega) (by assumption) ?_; conv => whnf) | (refine ix_new _ (by omega) fun _ _ => ?_; conv => whnf) | (refine ixI_new (by omega) (by omega) fun _ _ => ?_; conv => whnf) | (refine ⟨_, by assumption, ?_⟩; conv => whnf) | (refine Alt2.l (And.intro (by first | omega | (simp; done) | (simp; omega)) ?_); conv => whnf) | (refine Alt2.r (And.intro (by first | omega | (simp; done) | (simp; omega)) ?_); conv => whnf) | (refine Ok.scope ?_) | (refine Ok.label ?_; conv => whnf) | (refine rd rfl (by assumption) ?_; conv => whnf) | (refine ⟨_, .inl ⟨rfl, rfl⟩, ?_⟩; conv => whnf) | (refine ⟨_, _, rfl, rfl, ?_⟩; conv => whnf) | (refine ⟨fun _ => ?_, fun _ => ?_⟩ <;> (conv => whnf) <;> (try (exfalso; omega))) | (refine And.intro (by first | omega | rfl | (simp; done) | (simp; omega)) ?_; conv => whnf) | (refine num_any ?_; conv => whnf) | (refine ⟨_, rfl, ?_⟩; conv => whnf) | fail)
        refine ⟨i - 1, rfl, (by show ((i : Nat) : Int) - 1 = ((i - 1 : Nat) : Int); omega), by omega, ?_⟩
        (try (conv => whnf)); repeat' (first | refine Ok.seq ?_ | (refine Ok.region tok ?_; conv => whnf) | (refine Ok.region_plan (id := 27) tok follows [(5, 6, []), (1, 7, []), (5, 7, [6]), (6, 7, []), (1, 9, []), (5, 9, []), (6, 9, []), (7, 9, [])] [.q 0, .q 1, .q 2, .q 3, .q 4, .q 5, .l 6, .l 7, .q 8, .l 9] (by kernel_rfl) ?_; conv => whnf) | (refine Ok.region_draw tok follows (by kernel_rfl) ?_; conv => whnf) | (refine Ok.cond ?_; conv => whnf) | refine Ok.block ?_ | (refine Ok.skip ?_; conv => whnf) | (refine Ok.exit ?_; conv => whnf) | (refine Ok.ret ?_; conv => whnf) | (refine num_in (by omega) (by omega) ?_; conv => whnf) | (refine ix _ (by assumption) ?_; conv => whnf) | (refine ixI (by omega) (by assumption) ?_; conv => whnf) | (refine ix_new _ (by omega) fun _ _ => ?_; conv => whnf) | (refine ixI_new (by omega) (by omega) fun _ _ => ?_; conv => whnf) | (refine ⟨_, by assumption, ?_⟩; conv => whnf) | (refine Alt2.l (And.intro (by first | omega | (simp; done) | (simp; omega)) ?_); conv => whnf) | (refine Alt2.r (And.intro (by first | omega | (simp; done) | (simp; omega)) ?_); conv => whnf) | (refine Ok.scope ?_) | (refine Ok.label ?_; conv => whnf) | (refine rd rfl (by assumption) ?_; conv => whnf) | (refine ⟨_, .inl ⟨rfl, rfl⟩, ?_⟩; conv => whnf) | (refine ⟨_, _, rfl, rfl, ?_⟩; conv => whnf) | (refine ⟨fun _ => ?_, fun _ => ?_⟩ <;> (conv => whnf) <;> (try (exfalso; omega))) | (refine And.intro (by first | omega | rfl | (simp; done) | (simp; omega)) ?_; conv => whnf) | (refine num_any ?_; conv => whnf) | (refine ⟨_, rfl, ?_⟩; conv => whnf) | fail)
        refine ⟨(S ++ [v], W.set k z, i - 1), by dsimp only; omega, ⟨hnx, by simp; omega⟩, ?_⟩
        (conv => whnf)
        simp [envCat]
    · have hme : m = 0 := by omega
      subst hme
      obtain ⟨hp, hs⟩ := hS.fin
      have hform : S.map TR.t = formT (l.map TR.t) := formT_sel (n := n) (fun t ht => by
        obtain ⟨x, hx, rfl⟩ := List.mem_map.1 ht
        exact (hok x hx).2) (by rw [← hKt]; exact hp.map _) (by rw [List.pairwise_map]; exact hs)
      (try (conv => whnf)); repeat' (first | refine Ok.seq ?_ | (refine Ok.region tok ?_; conv => whnf) | (refine Ok.region_plan (id := 27) tok follows [(5, 6, []), (1, 7, []), (5, 7, [6]), (6, 7, []), (1, 9, []), (5, 9, []), (6, 9, []), (7, 9, [])] [.q 0, .q 1, .q 2, .q 3, .q 4, .q 5, .l 6, .l 7, .q 8, .l 9] (by kernel_rfl) ?_; conv => whnf) | (refine Ok.region_draw tok follows (by kernel_rfl) ?_; conv => whnf) | (refine Ok.cond ?_; conv => whnf) | refine Ok.block ?_ | (refine Ok.skip ?_; conv => whnf) | (refine Ok.exit ?_; conv => whnf) | (refine Ok.ret ?_; conv => whnf) | (refine num_in (by omega) (by omega) ?_; conv => whnf) | (refine ix _ (by assumption) ?_; conv => whnf) | (refine ixI (by omega) (by assumption) ?_; conv => whnf) | (refine ix_new _ (by omega) fun _ _ => ?_; conv => whnf) | (refine ixI_new (by omega) (by omega) fun _ _ => ?_; conv => whnf) | (refine ⟨_, by assumption, ?_⟩; conv => whnf) | (refine Alt2.l (And.intro (by first | omega | (simp; done) | (simp; omega)) ?_); conv => whnf) | (refine Alt2.r (And.intro (by first | omega | (simp; done) | (simp; omega)) ?_); conv => whnf) | (refine Ok.scope ?_) | (refine Ok.label ?_; conv => whnf) | (refine rd rfl (by assumption) ?_; conv => whnf) | (refine ⟨_, .inl ⟨rfl, rfl⟩, ?_⟩; conv => whnf) | (refine ⟨_, _, rfl, rfl, ?_⟩; conv => whnf) | (refine ⟨fun _ => ?_, fun _ => ?_⟩ <;> (conv => whnf) <;> (try (exfalso; omega))) | (refine And.intro (by first | omega | rfl | (simp; done) | (simp; omega)) ?_; conv => whnf) | (refine num_any ?_; conv => whnf) | (refine ⟨_, rfl, ?_⟩; conv => whnf) | fail)
      refine Or.inl ?_; (conv => whnf)
      refine ⟨S, [], ?_, rfl, hform, fun x hx => hKm x (hp.mem_iff.1 hx)⟩
      show D.agg [_, .lst 120 ((S.map drow).take S.length) ((S.map drow).drop S.length)] = _
      rw [List.take_of_length_le (by simp), List.drop_of_length_le (by simp)]
end Go.Proofs.YtaiondckookpiaaGreatDoor
/- What spaces tell of themselves. -/
namespace Go.Proofs.YtaiondckookpiaaGreatDoor
open Go Go.Vx
theorem tTail_nil : tTail [] = [] := rfl
theorem szS_eq (l : List Term) : szT l = szS l := rfl
structure SpOk (n : Nat) (l : List TR) : Prop where
  n256 : n ≤ 256
  size : szS (l.map TR.t) ≤ 1048576
  wide : ∀ x ∈ l, x.t.wide n
  pos : l ≠ [] → 0 < n
theorem SpOk.nil {n : Nat} (h : n ≤ 256) : SpOk n [] := ⟨h, by simp [szS], by simp, fun h => absurd rfl h⟩
theorem SpOk.len {n : Nat} {l : List TR} (h : SpOk n l) : l.length ≤ 1048576 := by
  have h1 := szS_len (l.map TR.t)
  have h2 := h.size
  rw [List.length_map] at h1
  omega
theorem SpOk.less {n : Nat} {l : List TR} (h : SpOk n l) {x : TR} (hx : x ∈ l) : x.t.less.length ≤ 1048576 := by
  have h1 := szS_mem (List.mem_map_of_mem (f := TR.t) hx)
  have h2 := h.size
  omega
theorem SpOk.w256 {n : Nat} {l : List TR} (h : SpOk n l) : ∀ t ∈ l.map TR.t, t.p.length ≤ 256 ∧ ∀ m ∈ t.less, m.length ≤ 256 := by
  intro t ht
  obtain ⟨x, hx, rfl⟩ := List.mem_map.1 ht
  have h1 := h.wide x hx
  have h2 := h.n256
  exact ⟨by rw [h1.1]; exact h2, fun m hm => by rw [h1.2 m hm]; exact h2⟩
theorem SpOk.sep {n : Nat} {l : List TR} (h : SpOk n l) (i : Nat) : (sepT ((l.map TR.t).take i)).length ≤ 257 * 1048576 := by
  have h1 := sepT_len (l := (l.map TR.t).take i) fun t ht => h.w256 t (List.mem_of_mem_take ht)
  have h2 := szS_take (l.map TR.t) i
  have h3 := h.size
  omega
theorem SpOk.pre {n : Nat} {l : List TR} (h : SpOk n l) (i : Nat) : (preT (l.map TR.t) i).length ≤ 257 * 1048576 + 1 := by
  unfold preT
  split
  · simp
  · have := h.sep i
    rw [List.length_append, List.length_singleton]
    omega
theorem SpOk.tail {n : Nat} {l : List TR} (h : SpOk n l) {x : TR} (hx : x ∈ l) (j : Nat) : (tTail (x.t.less.take j)).length ≤ 257 * 1048576 := by
  have h1 := tTail_len (l := x.t.less.take j) fun m hm => (h.w256 x.t (List.mem_map_of_mem hx)).2 m (List.mem_of_mem_take hm)
  have h2 := h.less hx
  have h3 : (x.t.less.take j).length ≤ x.t.less.length := by simp; omega
  omega
theorem bits_at (b : Int) (d : D) (hd : ∃ e r m, d = .lst e r m) : FSpec Tryz.prog T 58 [.agg [.i .i64 b, d]] (fun r _ => r = .i .i64 b) := by
  obtain ⟨e, r, m, rfl⟩ := hd
  refine FSpec.of_ok tok Tryz.func58 rfl Tryz.call58 (by simp) ?_
  (try (conv => whnf)); repeat' (first | refine Ok.seq ?_ | (refine Ok.region tok ?_; conv => whnf) | (refine Ok.region_draw tok follows (by kernel_rfl) ?_; conv => whnf) | (refine Ok.cond ?_; conv => whnf) | refine Ok.block ?_ | (refine Ok.skip ?_; conv => whnf) | (refine Ok.exit ?_; conv => whnf) | (refine Ok.ret ?_; conv => whnf) | (refine num_in (by omega) (by omega) ?_; conv => whnf) | (refine ix _ (by assumption) ?_; conv => whnf) | (refine ixI (by omega) (by assumption) ?_; conv => whnf) | (refine ix_new _ (by omega) fun _ _ => ?_; conv => whnf) | (refine ixI_new (by omega) (by omega) fun _ _ => ?_; conv => whnf) | (refine ⟨_, by assumption, ?_⟩; conv => whnf) | (refine Alt2.l (And.intro (by first | omega | (simp; done) | (simp; omega)) ?_); conv => whnf) | (refine Alt2.r (And.intro (by first | omega | (simp; done) | (simp; omega)) ?_); conv => whnf) | (refine Ok.scope ?_) | (refine Ok.label ?_; conv => whnf) | (refine rd rfl (by assumption) ?_; conv => whnf) | (refine ⟨_, .inl ⟨rfl, rfl⟩, ?_⟩; conv => whnf) | (refine ⟨_, _, rfl, rfl, ?_⟩; conv => whnf) | (refine ⟨fun _ => ?_, fun _ => ?_⟩ <;> (conv => whnf) <;> (try (exfalso; omega))) | (refine And.intro (by first | omega | rfl | (simp; done) | (simp; omega)) ?_; conv => whnf) | (refine num_any ?_; conv => whnf) | (refine ⟨_, rfl, ?_⟩; conv => whnf) | fail)
  refine Or.inl ?_; (conv => whnf)
  rfl
def noneB (b : Int) : Int := if b < 1 ∨ 256 < b then 0 else b
theorem none_at (b : Int) : FSpec Tryz.prog T 54 [.i .i64 b] (fun r rows => r = .agg [.i .i64 (noneB b), .lst 112 [] []] ∧ rows = []) := by
  refine FSpec.of_ok tok Tryz.func54 rfl Tryz.call54 (by simp) ?_
  (try (conv => whnf)); repeat' (first | refine Ok.seq ?_ | (refine Ok.region tok ?_; conv => whnf) | (refine Ok.region_draw tok follows (by kernel_rfl) ?_; conv => whnf) | (refine Ok.cond ?_; conv => whnf) | refine Ok.block ?_ | (refine Ok.skip ?_; conv => whnf) | (refine Ok.exit ?_; conv => whnf) | (refine Ok.ret ?_; conv => whnf) | (refine num_in (by omega) (by omega) ?_; conv => whnf) | (refine ix _ (by assumption) ?_; conv => whnf) | (refine ixI (by omega) (by assumption) ?_; conv => whnf) | (refine ix_new _ (by omega) fun _ _ => ?_; conv => whnf) | (refine ixI_new (by omega) (by omega) fun _ _ => ?_; conv => whnf) | (refine ⟨_, by assumption, ?_⟩; conv => whnf) | (refine Alt2.l (And.intro (by first | omega | (simp; done) | (simp; omega)) ?_); conv => whnf) | (refine Alt2.r (And.intro (by first | omega | (simp; done) | (simp; omega)) ?_); conv => whnf) | (refine Ok.scope ?_) | (refine Ok.label ?_; conv => whnf) | (refine rd rfl (by assumption) ?_; conv => whnf) | (refine ⟨_, .inl ⟨rfl, rfl⟩, ?_⟩; conv => whnf) | (refine ⟨_, _, rfl, rfl, ?_⟩; conv => whnf) | (refine ⟨fun _ => ?_, fun _ => ?_⟩ <;> (conv => whnf) <;> (try (exfalso; omega))) | (refine And.intro (by first | omega | rfl | (simp; done) | (simp; omega)) ?_; conv => whnf) | (refine num_any ?_; conv => whnf) | (refine ⟨_, rfl, ?_⟩; conv => whnf) | fail)
  all_goals
    refine Or.inl ?_; (conv => whnf)
    refine ⟨?_, rfl⟩
    unfold noneB
    first | rw [if_pos (by omega)]; rfl | rw [if_neg (by omega)]; rfl
theorem rnone_at (b : Int) : FSpec Tryz.prog T 55 [.i .i64 b] (fun r rows => r = .agg [.i .i64 (noneB b), .lst 120 [] []] ∧ rows = []) := by
  refine FSpec.of_ok tok Tryz.func55 rfl Tryz.call55 (by simp) ?_
  (try (conv => whnf)); repeat' (first | refine Ok.seq ?_ | (refine Ok.region tok ?_; conv => whnf) | (refine Ok.region_draw tok follows (by kernel_rfl) ?_; conv => whnf) | (refine Ok.cond ?_; conv => whnf) | refine Ok.block ?_ | (refine Ok.skip ?_; conv => whnf) | (refine Ok.exit ?_; conv => whnf) | (refine Ok.ret ?_; conv => whnf) | (refine num_in (by omega) (by omega) ?_; conv => whnf) | (refine ix _ (by assumption) ?_; conv => whnf) | (refine ixI (by omega) (by assumption) ?_; conv => whnf) | (refine ix_new _ (by omega) fun _ _ => ?_; conv => whnf) | (refine ixI_new (by omega) (by omega) fun _ _ => ?_; conv => whnf) | (refine ⟨_, by assumption, ?_⟩; conv => whnf) | (refine Alt2.l (And.intro (by first | omega | (simp; done) | (simp; omega)) ?_); conv => whnf) | (refine Alt2.r (And.intro (by first | omega | (simp; done) | (simp; omega)) ?_); conv => whnf) | (refine Ok.scope ?_) | (refine Ok.label ?_; conv => whnf) | (refine rd rfl (by assumption) ?_; conv => whnf) | (refine ⟨_, .inl ⟨rfl, rfl⟩, ?_⟩; conv => whnf) | (refine ⟨_, _, rfl, rfl, ?_⟩; conv => whnf) | (refine ⟨fun _ => ?_, fun _ => ?_⟩ <;> (conv => whnf) <;> (try (exfalso; omega))) | (refine And.intro (by first | omega | rfl | (simp; done) | (simp; omega)) ?_; conv => whnf) | (refine num_any ?_; conv => whnf) | (refine ⟨_, rfl, ?_⟩; conv => whnf) | fail)
  all_goals
    refine Or.inl ?_; (conv => whnf)
    refine ⟨?_, rfl⟩
    unfold noneB
    first | rw [if_pos (by omega)]; rfl | rw [if_neg (by omega)]; rfl
set_option maxHeartbeats 4000000 in
theorem rsize_at (bits : Int) (l : List TR) {rl room : List (List D)} (hl : l.length ≤ 1048576) (hok : ∀ x ∈ l, x.t.less.length ≤ 1048576) (h : rl = l.map drow) : FSpec Tryz.prog T 104 [.agg [.i .i64 bits, .lst 120 rl room]] (fun d _ => d = .i .i64 (szT (l.map TR.t) : Nat)) := by
  subst h
  have hll : (l.map drow).length = l.length := by simp
  refine FSpec.of_ok tok Tryz.func104 rfl Tryz.call104 (by simp) ?_
  (try (conv => whnf)); repeat' (first | refine Ok.seq ?_ | (refine Ok.region tok ?_; conv => whnf) | (refine Ok.region_draw tok follows (by kernel_rfl) ?_; conv => whnf) | (refine Ok.cond ?_; conv => whnf) | refine Ok.block ?_ | (refine Ok.skip ?_; conv => whnf) | (refine Ok.exit ?_; conv => whnf) | (refine Ok.ret ?_; conv => whnf) | (refine num_in (by omega) (by omega) ?_; conv => whnf) | (refine ix _ (by assumption) ?_; conv => whnf) | (refine ixI (by omega) (by assumption) ?_; conv => whnf) | (refine ix_new _ (by omega) fun _ _ => ?_; conv => whnf) | (refine ixI_new (by omega) (by omega) fun _ _ => ?_; conv => whnf) | (refine ⟨_, by assumption, ?_⟩; conv => whnf) | (refine Alt2.l (And.intro (by first | omega | (simp; done) | (simp; omega)) ?_); conv => whnf) | (refine Alt2.r (And.intro (by first | omega | (simp; done) | (simp; omega)) ?_); conv => whnf) | (refine Ok.scope ?_) | (refine Ok.label ?_; conv => whnf) | (refine rd rfl (by assumption) ?_; conv => whnf) | (refine ⟨_, .inl ⟨rfl, rfl⟩, ?_⟩; conv => whnf) | (refine ⟨_, _, rfl, rfl, ?_⟩; conv => whnf) | (refine ⟨fun _ => ?_, fun _ => ?_⟩ <;> (conv => whnf) <;> (try (exfalso; omega))) | (refine And.intro (by first | omega | rfl | (simp; done) | (simp; omega)) ?_; conv => whnf) | (refine num_any ?_; conv => whnf) | (refine ⟨_, rfl, ?_⟩; conv => whnf) | fail)
  refine Ok.loopU [1] [3, 4] 0 1 (fun (i : Nat) => [.i .i64 (szT ((l.take i).map TR.t) : Nat), .i .i64 (i : Nat)]) (fun _ b => b) (fun _ r => r) (fun (i : Nat) => i ≤ l.length) (fun (i : Nat) => l.length - i) (0) (Nat.zero_le _) ?_; (conv => whnf); refine ⟨by ((conv => whnf); first | rfl | (simp [envCat, List.take_of_length_le, srow, drow, trow, bcell, sepT_nil, tTail_nil]; done) | (simp [envCat, List.take_of_length_le, srow, drow, trow, bcell, sepT_nil, tTail_nil]; rw [IntKind.wrap_i64]; omega)), ?_⟩
  rintro i hi
  have hs : szT ((l.take i).map TR.t) ≤ 1048576 * 1048577 := by
    refine Nat.le_trans (szT_le fun t ht => ?_) (Nat.mul_le_mul_right _ (by simp; omega))
    obtain ⟨x, hx, rfl⟩ := List.mem_map.1 ht
    exact hok x (List.mem_of_mem_take hx)
  (conv => whnf)
  by_cases hil : i < l.length
  · obtain ⟨x, hx⟩ : ∃ x, l[i]? = some x := ⟨_, List.getElem?_eq_getElem hil⟩
    have hxo := hok x (List.mem_of_getElem? hx)
    have hxl : (x.t.less.map srow).length = x.t.less.length := by simp
    have hnx : szT ((l.take (i + 1)).map TR.t) = szT ((l.take i).map TR.t) + (1 + x.t.less.length) := by rw [take_snoc hx, List.map_append]; exact szT_snoc _ _
    generalize szT ((l.take i).map TR.t) = S at *
    (try (conv => whnf)); repeat' (first | refine Ok.seq ?_ | (refine Ok.region tok ?_; conv => whnf) | (refine Ok.region_draw tok follows (by kernel_rfl) ?_; conv => whnf) | (refine Ok.cond ?_; conv => whnf) | refine Ok.block ?_ | (refine Ok.skip ?_; conv => whnf) | (refine Ok.exit ?_; conv => whnf) | (refine Ok.ret ?_; conv => whnf) | (refine num_in (by omega) (by omega) ?_; conv => whnf) | (refine ix _ (by assumption) ?_; conv => whnf) | (refine ixI (by omega) (by assumption) ?_; conv => whnf) | (refine ix_new _ (by omega) fun _ _ => ?_; conv => whnf) | (refine ixI_new (by omega) (by omega) fun _ _ => ?_; conv => whnf) | (refine ⟨_, by assumption, ?_⟩; conv => whnf) | (refine Alt2.l (And.intro (by first | omega | (simp; done) | (simp; omega)) ?_); conv => whnf) | (refine Alt2.r (And.intro (by first | omega | (simp; done) | (simp; omega)) ?_); conv => whnf) | (refine Ok.scope ?_) | (refine Ok.label ?_; conv => whnf) | (refine rd rfl (by assumption) ?_; conv => whnf) | (refine ⟨_, .inl ⟨rfl, rfl⟩, ?_⟩; conv => whnf) | (refine ⟨_, _, rfl, rfl, ?_⟩; conv => whnf) | (refine ⟨fun _ => ?_, fun _ => ?_⟩ <;> (conv => whnf) <;> (try (exfalso; omega))) | (refine And.intro (by first | omega | rfl | (simp; done) | (simp; omega)) ?_; conv => whnf) | (refine num_any ?_; conv => whnf) | (refine ⟨_, rfl, ?_⟩; conv => whnf) | fail)
    refine ⟨i + 1, by omega, by omega, ?_⟩
    rw [hnx]
    (conv => whnf)
    simp [envCat]
    omega
  · have hie : i = l.length := by omega
    subst hie
    rw [List.take_length]
    (try (conv => whnf)); repeat' (first | refine Ok.seq ?_ | (refine Ok.region tok ?_; conv => whnf) | (refine Ok.region_draw tok follows (by kernel_rfl) ?_; conv => whnf) | (refine Ok.cond ?_; conv => whnf) | refine Ok.block ?_ | (refine Ok.skip ?_; conv => whnf) | (refine Ok.exit ?_; conv => whnf) | (refine Ok.ret ?_; conv => whnf) | (refine num_in (by omega) (by omega) ?_; conv => whnf) | (refine ix _ (by assumption) ?_; conv => whnf) | (refine ixI (by omega) (by assumption) ?_; conv => whnf) | (refine ix_new _ (by omega) fun _ _ => ?_; conv => whnf) | (refine ixI_new (by omega) (by omega) fun _ _ => ?_; conv => whnf) | (refine ⟨_, by assumption, ?_⟩; conv => whnf) | (refine Alt2.l (And.intro (by first | omega | (simp; done) | (simp; omega)) ?_); conv => whnf) | (refine Alt2.r (And.intro (by first | omega | (simp; done) | (simp; omega)) ?_); conv => whnf) | (refine Ok.scope ?_) | (refine Ok.label ?_; conv => whnf) | (refine rd rfl (by assumption) ?_; conv => whnf) | (refine ⟨_, .inl ⟨rfl, rfl⟩, ?_⟩; conv => whnf) | (refine ⟨_, _, rfl, rfl, ?_⟩; conv => whnf) | (refine ⟨fun _ => ?_, fun _ => ?_⟩ <;> (conv => whnf) <;> (try (exfalso; omega))) | (refine And.intro (by first | omega | rfl | (simp; done) | (simp; omega)) ?_; conv => whnf) | (refine num_any ?_; conv => whnf) | (refine ⟨_, rfl, ?_⟩; conv => whnf) | fail)
    refine Or.inl ?_; (conv => whnf)
    rfl
theorem rbound_at (bits : Int) (l : List TR) {rl room : List (List D)} (hl : l.length ≤ 1048576) (hok : ∀ x ∈ l, x.t.less.length ≤ 1048576) (h : rl = l.map drow) : FSpec Tryz.prog T 67 [.agg [.i .i64 bits, .lst 120 rl room]]
    (fun d rows => rows = [] ∧ ((szT (l.map TR.t) ≤ 128 ∧ d = .tup [.agg [.i .i64 bits, .lst 120 (l.map drow) room], .i .i64 0]) ∨ (128 < szT (l.map TR.t) ∧ d = .tup [.agg [.i .i64 0, .lst 120 [] []], .i .i64 3]))) := by
  subst h
  refine FSpec.of_ok tok Tryz.func67 rfl Tryz.call67 (by simp) ?_
  (try (conv => whnf)); repeat' (first | refine Ok.seq ?_ | (refine Ok.region tok ?_; conv => whnf) | (refine Ok.region_draw tok follows (by kernel_rfl) ?_; conv => whnf) | (refine Ok.cond ?_; conv => whnf) | refine Ok.block ?_ | (refine Ok.skip ?_; conv => whnf) | (refine Ok.exit ?_; conv => whnf) | (refine Ok.ret ?_; conv => whnf) | (refine num_in (by omega) (by omega) ?_; conv => whnf) | (refine ix _ (by assumption) ?_; conv => whnf) | (refine ixI (by omega) (by assumption) ?_; conv => whnf) | (refine ix_new _ (by omega) fun _ _ => ?_; conv => whnf) | (refine ixI_new (by omega) (by omega) fun _ _ => ?_; conv => whnf) | (refine ⟨_, by assumption, ?_⟩; conv => whnf) | (refine Or.inl ?_; (conv => whnf); (repeat (refine And.intro (by first | omega | (simp; done) | (simp; omega)) ?_; (conv => whnf))); refine ⟨_, rsize_at bits l hl hok rfl, rfl, ?_⟩; conv => whnf) | (refine ⟨_, rsize_at bits l hl hok rfl, rfl, ?_⟩; conv => whnf) | (refine Or.inr (Or.inl ?_); (conv => whnf); (repeat (refine And.intro (by first | omega | (simp; done) | (simp; omega)) ?_; (conv => whnf))); refine ⟨_, rsize_at bits l hl hok rfl, ?_⟩; rintro _ _ ⟨rfl, rfl⟩; conv => whnf) | (refine Alt2.l (And.intro (by first | omega | (simp; done) | (simp; omega)) ?_); conv => whnf) | (refine Alt2.r (And.intro (by first | omega | (simp; done) | (simp; omega)) ?_); conv => whnf) | (refine Ok.scope ?_) | (refine Ok.label ?_; conv => whnf) | (refine rd rfl (by assumption) ?_; conv => whnf) | (refine ⟨_, .inl ⟨rfl, rfl⟩, ?_⟩; conv => whnf) | (refine ⟨_, _, rfl, rfl, ?_⟩; conv => whnf) | (refine ⟨fun _ => ?_, fun _ => ?_⟩ <;> (conv => whnf) <;> (try (exfalso; omega))) | (refine And.intro (by first | omega | rfl | (simp; done) | (simp; omega)) ?_; conv => whnf) | (refine num_any ?_; conv => whnf) | (refine ⟨_, rfl, ?_⟩; conv => whnf) | fail)
  · rename_i h
    refine Or.inl ?_; (conv => whnf)
    exact ⟨rfl, .inr ⟨by omega, rfl⟩⟩
  · rename_i h
    refine Or.inl ?_; (conv => whnf)
    exact ⟨rfl, .inl ⟨by omega, rfl⟩⟩
set_option maxRecDepth 100000 in
set_option maxHeartbeats 8000000 in
theorem rtext_at (bits : Int) (n : Nat) (l : List TR) {rl room : List (List D)} (hok : SpOk n l) (h : rl = l.map drow) : FSpec Tryz.prog T 105 [.agg [.i .i64 bits, .lst 120 rl room]] (fun d _ => d = .s (textS (l.map TR.t))) := by
  subst h
  have hll : (l.map drow).length = l.length := by simp
  have hln := hok.len
  have hn := hok.n256
  refine FSpec.of_ok tok Tryz.func105 rfl Tryz.call105 (by simp) ?_
  (try (conv => whnf)); repeat' (first | refine Ok.seq ?_ | (refine Ok.region tok ?_; conv => whnf) | (refine Ok.region_draw tok follows (by kernel_rfl) ?_; conv => whnf) | (refine Ok.cond ?_; conv => whnf) | refine Ok.block ?_ | (refine Ok.skip ?_; conv => whnf) | (refine Ok.exit ?_; conv => whnf) | (refine Ok.ret ?_; conv => whnf) | (refine num_in (by omega) (by omega) ?_; conv => whnf) | (refine ix _ (by assumption) ?_; conv => whnf) | (refine ixI (by omega) (by assumption) ?_; conv => whnf) | (refine ix_new _ (by omega) fun _ _ => ?_; conv => whnf) | (refine ixI_new (by omega) (by omega) fun _ _ => ?_; conv => whnf) | (refine ⟨_, by assumption, ?_⟩; conv => whnf) | (refine Alt2.l (And.intro (by first | omega | (simp; done) | (simp; omega)) ?_); conv => whnf) | (refine Alt2.r (And.intro (by first | omega | (simp; done) | (simp; omega)) ?_); conv => whnf) | (refine Ok.scope ?_) | (refine Ok.label ?_; conv => whnf) | (refine rd rfl (by assumption) ?_; conv => whnf) | (refine ⟨_, .inl ⟨rfl, rfl⟩, ?_⟩; conv => whnf) | (refine ⟨_, _, rfl, rfl, ?_⟩; conv => whnf) | (refine ⟨fun _ => ?_, fun _ => ?_⟩ <;> (conv => whnf) <;> (try (exfalso; omega))) | (refine And.intro (by first | omega | rfl | (simp; done) | (simp; omega)) ?_; conv => whnf) | (refine num_any ?_; conv => whnf) | (refine ⟨_, rfl, ?_⟩; conv => whnf) | fail)
  · rename_i h
    refine Or.inl ?_; (conv => whnf)
    have : l = [] := List.eq_nil_of_length_eq_zero (by omega)
    subst this
    unfold textS
    rw [if_pos (by rfl)]
    rfl
  · rename_i h
    have hne : l.map TR.t ≠ [] := fun e => h (by have := congrArg List.length e; simp at this; simp [this])
    refine Ok.ghost 3 5 rfl ?_
    (conv => whnf)
    refine Ok.loopU [1] [3, 4] 1 1 (fun (i : Nat) => [.own 0 (sepT ((l.map TR.t).take i)).length, .i .i64 (i : Nat)]) (fun _ b => b) (fun (i : Nat) (_ : Vx.Rows) => [some (5, (sepT ((l.map TR.t).take i)).map bcell)]) (fun (i : Nat) => i ≤ l.length) (fun (i : Nat) => l.length - i) (0) (Nat.zero_le _) ?_; (conv => whnf); refine ⟨by ((conv => whnf); first | rfl | (simp [envCat, List.take_of_length_le, srow, drow, trow, bcell, sepT_nil, tTail_nil]; done) | (simp [envCat, List.take_of_length_le, srow, drow, trow, bcell, sepT_nil, tTail_nil]; rw [IntKind.wrap_i64]; omega)), ?_⟩
    rintro i hi
    have hsl := hok.sep i
    have hsm : ((sepT ((l.map TR.t).take i)).map bcell).length = (sepT ((l.map TR.t).take i)).length := List.length_map _
    (conv => whnf)
    by_cases hil : i < l.length
    · obtain ⟨x, hx⟩ : ∃ x, l[i]? = some x := ⟨_, List.getElem?_eq_getElem hil⟩
      have hxm := List.mem_of_getElem? hx
      have hxw := hok.wide x hxm
      have hpl : x.t.p.length ≤ 256 := by rw [hxw.1]; exact hn
      have hxl : (x.t.less.map srow).length = x.t.less.length := by simp
      have hxn := hok.less hxm
      have hxt : (l.map TR.t)[i]? = some x.t := by simp [hx]
      have hstep := sepT_step hxt
      have hpre := hok.pre i
      have hjoin : ∀ (s : St) (Q : Exit → St → Prop) (c : Code), True := fun _ _ _ => trivial
      by_cases hi0 : i = 0
      · have hp0 : preT (l.map TR.t) i = [] := by rw [hi0]; rfl
        have hs0 : sepT ((l.map TR.t).take i) = [] := by rw [hi0]; rfl
        rw [hs0] at hsl hsm ⊢
        rw [hp0] at hpre hstep
        (conv => whnf)
        (try (conv => whnf)); repeat' (first | ((refine And.intro byteT ?_); (conv => whnf)) | refine Ok.seq ?_ | (refine Ok.region tok ?_; conv => whnf) | (refine Ok.region_draw tok follows (by kernel_rfl) ?_; conv => whnf) | (refine Ok.cond ?_; conv => whnf) | refine Ok.block ?_ | (refine Ok.skip ?_; conv => whnf) | (refine Ok.exit ?_; conv => whnf) | (refine Ok.ret ?_; conv => whnf) | (refine num_in (by omega) (by omega) ?_; conv => whnf) | (refine ix _ (by assumption) ?_; conv => whnf) | (refine ixI (by omega) (by assumption) ?_; conv => whnf) | (refine ix_new _ (by omega) fun _ _ => ?_; conv => whnf) | (refine ixI_new (by omega) (by omega) fun _ _ => ?_; conv => whnf) | (refine ⟨_, by assumption, ?_⟩; conv => whnf) | (refine Alt2.l (And.intro (by first | omega | (simp; done) | (simp; omega)) ?_); conv => whnf) | (refine Alt2.r (And.intro (by first | omega | (simp; done) | (simp; omega)) ?_); conv => whnf) | (refine Ok.scope ?_) | (refine Ok.label ?_; conv => whnf) | (refine rd rfl (by assumption) ?_; conv => whnf) | (refine ⟨_, .inl ⟨rfl, rfl⟩, ?_⟩; conv => whnf) | (refine ⟨_, _, rfl, rfl, ?_⟩; conv => whnf) | (refine ⟨fun _ => ?_, fun _ => ?_⟩ <;> (conv => whnf) <;> (try (exfalso; omega))) | (refine And.intro (by first | omega | rfl | (simp; done) | (simp; omega)) ?_; conv => whnf) | (refine num_any ?_; conv => whnf) | (refine ⟨_, rfl, ?_⟩; conv => whnf) | fail)
        refine Ok.loopU [1, 4] [3, 5] 1 1 (fun (j : Nat) => [.own 0 (([] : Str) ++ x.t.p ++ tTail (x.t.less.take j)).length, .i .i64 (j : Nat)]) (fun _ b => b) (fun (j : Nat) (_ : Vx.Rows) => [some (5, (([] : Str) ++ x.t.p ++ tTail (x.t.less.take j)).map bcell)]) (fun (j : Nat) => j ≤ x.t.less.length) (fun (j : Nat) => x.t.less.length - j) (0) (Nat.zero_le _) ?_; (conv => whnf); refine ⟨by ((conv => whnf); first | rfl | (simp [envCat, List.take_of_length_le, srow, drow, trow, bcell, sepT_nil, tTail_nil]; done) | (simp [envCat, List.take_of_length_le, srow, drow, trow, bcell, sepT_nil, tTail_nil]; rw [IntKind.wrap_i64]; omega)), ?_⟩
        rintro j hj
        have htl := hok.tail hxm j
        have hFl : (([] : Str) ++ x.t.p ++ tTail (x.t.less.take j)).length ≤ 257 * 1048576 + 1 + 256 + 257 * 1048576 := by rw [List.length_append, List.length_append]; omega
        have hFm : ((([] : Str) ++ x.t.p ++ tTail (x.t.less.take j)).map bcell).length = (([] : Str) ++ x.t.p ++ tTail (x.t.less.take j)).length := List.length_map _
        (conv => whnf)
        by_cases hjl : j < x.t.less.length
        · obtain ⟨m, hm⟩ : ∃ m, x.t.less[j]? = some m := ⟨_, List.getElem?_eq_getElem hjl⟩
          have hml : m.length ≤ 256 := by rw [hxw.2 m (List.mem_of_getElem? hm)]; exact hn
          have hmI : x.t.less[((j : Nat) : Int).toNat]? = some m := hm
          have hts := tTail_snoc hm
          (try (conv => whnf)); repeat' (first | ((refine And.intro byteT ?_); (conv => whnf)) | refine Ok.seq ?_ | (refine Ok.region tok ?_; conv => whnf) | (refine Ok.region_draw tok follows (by kernel_rfl) ?_; conv => whnf) | (refine Ok.cond ?_; conv => whnf) | refine Ok.block ?_ | (refine Ok.skip ?_; conv => whnf) | (refine Ok.exit ?_; conv => whnf) | (refine Ok.ret ?_; conv => whnf) | (refine num_in (by omega) (by omega) ?_; conv => whnf) | (refine ix _ (by assumption) ?_; conv => whnf) | (refine ixI (by omega) (by assumption) ?_; conv => whnf) | (refine ix_new _ (by omega) fun _ _ => ?_; conv => whnf) | (refine ixI_new (by omega) (by omega) fun _ _ => ?_; conv => whnf) | (refine ⟨_, by assumption, ?_⟩; conv => whnf) | (refine Alt2.l (And.intro (by first | omega | (simp; done) | (simp; omega)) ?_); conv => whnf) | (refine Alt2.r (And.intro (by first | omega | (simp; done) | (simp; omega)) ?_); conv => whnf) | (refine Ok.scope ?_) | (refine Ok.label ?_; conv => whnf) | (refine rd rfl (by assumption) ?_; conv => whnf) | (refine ⟨_, .inl ⟨rfl, rfl⟩, ?_⟩; conv => whnf) | (refine ⟨_, _, rfl, rfl, ?_⟩; conv => whnf) | (refine ⟨fun _ => ?_, fun _ => ?_⟩ <;> (conv => whnf) <;> (try (exfalso; omega))) | (refine And.intro (by first | omega | rfl | (simp; done) | (simp; omega)) ?_; conv => whnf) | (refine num_any ?_; conv => whnf) | (refine ⟨_, rfl, ?_⟩; conv => whnf) | fail)
          refine ⟨j + 1, by omega, by omega, ?_⟩
          rw [hts, ← List.append_assoc, ← List.append_assoc]
          generalize hF : ([] : Str) ++ x.t.p ++ tTail (x.t.less.take j) = F at *
          (conv => whnf)
          simp [envCat, bcell]
        · have hje : j = x.t.less.length := by omega
          subst hje
          rw [List.take_length]
          (try (conv => whnf)); repeat' (first | refine Ok.seq ?_ | (refine Ok.region tok ?_; conv => whnf) | (refine Ok.region_draw tok follows (by kernel_rfl) ?_; conv => whnf) | (refine Ok.cond ?_; conv => whnf) | refine Ok.block ?_ | (refine Ok.skip ?_; conv => whnf) | (refine Ok.exit ?_; conv => whnf) | (refine Ok.ret ?_; conv => whnf) | (refine num_in (by omega) (by omega) ?_; conv => whnf) | (refine ix _ (by assumption) ?_; conv => whnf) | (refine ixI (by omega) (by assumption) ?_; conv => whnf) | (refine ix_new _ (by omega) fun _ _ => ?_; conv => whnf) | (refine ixI_new (by omega) (by omega) fun _ _ => ?_; conv => whnf) | (refine ⟨_, by assumption, ?_⟩; conv => whnf) | (refine Alt2.l (And.intro (by first | omega | (simp; done) | (simp; omega)) ?_); conv => whnf) | (refine Alt2.r (And.intro (by first | omega | (simp; done) | (simp; omega)) ?_); conv => whnf) | (refine Ok.scope ?_) | (refine Ok.label ?_; conv => whnf) | (refine rd rfl (by assumption) ?_; conv => whnf) | (refine ⟨_, .inl ⟨rfl, rfl⟩, ?_⟩; conv => whnf) | (refine ⟨_, _, rfl, rfl, ?_⟩; conv => whnf) | (refine ⟨fun _ => ?_, fun _ => ?_⟩ <;> (conv => whnf) <;> (try (exfalso; omega))) | (refine And.intro (by first | omega | rfl | (simp; done) | (simp; omega)) ?_; conv => whnf) | (refine num_any ?_; conv => whnf) | (refine ⟨_, rfl, ?_⟩; conv => whnf) | fail)
          refine ⟨i + 1, by omega, by omega, ?_⟩
          rw [hstep]
          unfold ttxt
          rw [← List.append_assoc]
          (conv => whnf)
          rfl
      · have hp0 : preT (l.map TR.t) i = sepT ((l.map TR.t).take i) ++ [43] := by unfold preT; rw [if_neg hi0]
        rw [hp0] at hpre hstep
        (conv => whnf)
        (try (conv => whnf)); repeat' (first | ((refine And.intro byteT ?_); (conv => whnf)) | refine Ok.seq ?_ | (refine Ok.region tok ?_; conv => whnf) | (refine Ok.region_draw tok follows (by kernel_rfl) ?_; conv => whnf) | (refine Ok.cond ?_; conv => whnf) | refine Ok.block ?_ | (refine Ok.skip ?_; conv => whnf) | (refine Ok.exit ?_; conv => whnf) | (refine Ok.ret ?_; conv => whnf) | (refine num_in (by omega) (by omega) ?_; conv => whnf) | (refine ix _ (by assumption) ?_; conv => whnf) | (refine ixI (by omega) (by assumption) ?_; conv => whnf) | (refine ix_new _ (by omega) fun _ _ => ?_; conv => whnf) | (refine ixI_new (by omega) (by omega) fun _ _ => ?_; conv => whnf) | (refine ⟨_, by assumption, ?_⟩; conv => whnf) | (refine Alt2.l (And.intro (by first | omega | (simp; done) | (simp; omega)) ?_); conv => whnf) | (refine Alt2.r (And.intro (by first | omega | (simp; done) | (simp; omega)) ?_); conv => whnf) | (refine Ok.scope ?_) | (refine Ok.label ?_; conv => whnf) | (refine rd rfl (by assumption) ?_; conv => whnf) | (refine ⟨_, .inl ⟨rfl, rfl⟩, ?_⟩; conv => whnf) | (refine ⟨_, _, rfl, rfl, ?_⟩; conv => whnf) | (refine ⟨fun _ => ?_, fun _ => ?_⟩ <;> (conv => whnf) <;> (try (exfalso; omega))) | (refine And.intro (by first | omega | rfl | (simp; done) | (simp; omega)) ?_; conv => whnf) | (refine num_any ?_; conv => whnf) | (refine ⟨_, rfl, ?_⟩; conv => whnf) | fail)
        refine Ok.loopU [1, 4] [3, 5] 1 1 (fun (j : Nat) => [.own 0 ((sepT ((l.map TR.t).take i) ++ [43]) ++ x.t.p ++ tTail (x.t.less.take j)).length, .i .i64 (j : Nat)]) (fun _ b => b) (fun (j : Nat) (_ : Vx.Rows) => [some (5, ((sepT ((l.map TR.t).take i) ++ [43]) ++ x.t.p ++ tTail (x.t.less.take j)).map bcell)]) (fun (j : Nat) => j ≤ x.t.less.length) (fun (j : Nat) => x.t.less.length - j) (0) (Nat.zero_le _) ?_; (conv => whnf); refine ⟨by ((conv => whnf); first | rfl | (simp [envCat, List.take_of_length_le, srow, drow, trow, bcell, sepT_nil, tTail_nil]; done) | (simp [envCat, List.take_of_length_le, srow, drow, trow, bcell, sepT_nil, tTail_nil]; rw [IntKind.wrap_i64]; omega)), ?_⟩
        rintro j hj
        have htl := hok.tail hxm j
        have hFl : ((sepT ((l.map TR.t).take i) ++ [43]) ++ x.t.p ++ tTail (x.t.less.take j)).length ≤ 257 * 1048576 + 1 + 256 + 257 * 1048576 := by rw [List.length_append, List.length_append]; omega
        have hFm : (((sepT ((l.map TR.t).take i) ++ [43]) ++ x.t.p ++ tTail (x.t.less.take j)).map bcell).length = ((sepT ((l.map TR.t).take i) ++ [43]) ++ x.t.p ++ tTail (x.t.less.take j)).length := List.length_map _
        (conv => whnf)
        by_cases hjl : j < x.t.less.length
        · obtain ⟨m, hm⟩ : ∃ m, x.t.less[j]? = some m := ⟨_, List.getElem?_eq_getElem hjl⟩
          have hml : m.length ≤ 256 := by rw [hxw.2 m (List.mem_of_getElem? hm)]; exact hn
          have hmI : x.t.less[((j : Nat) : Int).toNat]? = some m := hm
          have hts := tTail_snoc hm
          (try (conv => whnf)); repeat' (first | ((refine And.intro byteT ?_); (conv => whnf)) | refine Ok.seq ?_ | (refine Ok.region tok ?_; conv => whnf) | (refine Ok.region_draw tok follows (by kernel_rfl) ?_; conv => whnf) | (refine Ok.cond ?_; conv => whnf) | refine Ok.block ?_ | (refine Ok.skip ?_; conv => whnf) | (refine Ok.exit ?_; conv => whnf) | (refine Ok.ret ?_; conv => whnf) | (refine num_in (by omega) (by omega) ?_; conv => whnf) | (refine ix _ (by assumption) ?_; conv => whnf) | (refine ixI (by omega) (by assumption) ?_; conv => whnf) | (refine ix_new _ (by omega) fun _ _ => ?_; conv => whnf) | (refine ixI_new (by omega) (by omega) fun _ _ => ?_; conv => whnf) | (refine ⟨_, by assumption, ?_⟩; conv => whnf) | (refine Alt2.l (And.intro (by first | omega | (simp; done) | (simp; omega)) ?_); conv => whnf) | (refine Alt2.r (And.intro (by first | omega | (simp; done) | (simp; omega)) ?_); conv => whnf) | (refine Ok.scope ?_) | (refine Ok.label ?_; conv => whnf) | (refine rd rfl (by assumption) ?_; conv => whnf) | (refine ⟨_, .inl ⟨rfl, rfl⟩, ?_⟩; conv => whnf) | (refine ⟨_, _, rfl, rfl, ?_⟩; conv => whnf) | (refine ⟨fun _ => ?_, fun _ => ?_⟩ <;> (conv => whnf) <;> (try (exfalso; omega))) | (refine And.intro (by first | omega | rfl | (simp; done) | (simp; omega)) ?_; conv => whnf) | (refine num_any ?_; conv => whnf) | (refine ⟨_, rfl, ?_⟩; conv => whnf) | fail)
          refine ⟨j + 1, by omega, by omega, ?_⟩
          rw [hts, ← List.append_assoc, ← List.append_assoc]
          generalize hF : (sepT ((l.map TR.t).take i) ++ [43]) ++ x.t.p ++ tTail (x.t.less.take j) = F at *
          (conv => whnf)
          simp [envCat, bcell]
        · have hje : j = x.t.less.length := by omega
          subst hje
          rw [List.take_length]
          (try (conv => whnf)); repeat' (first | refine Ok.seq ?_ | (refine Ok.region tok ?_; conv => whnf) | (refine Ok.region_draw tok follows (by kernel_rfl) ?_; conv => whnf) | (refine Ok.cond ?_; conv => whnf) | refine Ok.block ?_ | (refine Ok.skip ?_; conv => whnf) | (refine Ok.exit ?_; conv => whnf) | (refine Ok.ret ?_; conv => whnf) | (refine num_in (by omega) (by omega) ?_; conv => whnf) | (refine ix _ (by assumption) ?_; conv => whnf) | (refine ixI (by omega) (by assumption) ?_; conv => whnf) | (refine ix_new _ (by omega) fun _ _ => ?_; conv => whnf) | (refine ixI_new (by omega) (by omega) fun _ _ => ?_; conv => whnf) | (refine ⟨_, by assumption, ?_⟩; conv => whnf) | (refine Alt2.l (And.intro (by first | omega | (simp; done) | (simp; omega)) ?_); conv => whnf) | (refine Alt2.r (And.intro (by first | omega | (simp; done) | (simp; omega)) ?_); conv => whnf) | (refine Ok.scope ?_) | (refine Ok.label ?_; conv => whnf) | (refine rd rfl (by assumption) ?_; conv => whnf) | (refine ⟨_, .inl ⟨rfl, rfl⟩, ?_⟩; conv => whnf) | (refine ⟨_, _, rfl, rfl, ?_⟩; conv => whnf) | (refine ⟨fun _ => ?_, fun _ => ?_⟩ <;> (conv => whnf) <;> (try (exfalso; omega))) | (refine And.intro (by first | omega | rfl | (simp; done) | (simp; omega)) ?_; conv => whnf) | (refine num_any ?_; conv => whnf) | (refine ⟨_, rfl, ?_⟩; conv => whnf) | fail)
          refine ⟨i + 1, by omega, by omega, ?_⟩
          rw [hstep]
          unfold ttxt
          rw [← List.append_assoc]
          (conv => whnf)
          rfl
    · have hie : i = l.length := by omega
      subst hie
      rw [List.take_of_length_le (by simp)] at hsl hsm ⊢
      (try (conv => whnf)); repeat' (first | refine Ok.seq ?_ | (refine Ok.region tok ?_; conv => whnf) | (refine Ok.region_draw tok follows (by kernel_rfl) ?_; conv => whnf) | (refine Ok.cond ?_; conv => whnf) | refine Ok.block ?_ | (refine Ok.skip ?_; conv => whnf) | (refine Ok.exit ?_; conv => whnf) | (refine Ok.ret ?_; conv => whnf) | (refine num_in (by omega) (by omega) ?_; conv => whnf) | (refine ix _ (by assumption) ?_; conv => whnf) | (refine ixI (by omega) (by assumption) ?_; conv => whnf) | (refine ix_new _ (by omega) fun _ _ => ?_; conv => whnf) | (refine ixI_new (by omega) (by omega) fun _ _ => ?_; conv => whnf) | (refine ⟨_, by assumption, ?_⟩; conv => whnf) | (refine Alt2.l (And.intro (by first | omega | (simp; done) | (simp; omega)) ?_); conv => whnf) | (refine Alt2.r (And.intro (by first | omega | (simp; done) | (simp; omega)) ?_); conv => whnf) | (refine Ok.scope ?_) | (refine Ok.label ?_; conv => whnf) | (refine rd rfl (by assumption) ?_; conv => whnf) | (refine ⟨_, .inl ⟨rfl, rfl⟩, ?_⟩; conv => whnf) | (refine ⟨_, _, rfl, rfl, ?_⟩; conv => whnf) | (refine ⟨fun _ => ?_, fun _ => ?_⟩ <;> (conv => whnf) <;> (try (exfalso; omega))) | (refine And.intro (by first | omega | rfl | (simp; done) | (simp; omega)) ?_; conv => whnf) | (refine num_any ?_; conv => whnf) | (refine ⟨_, rfl, ?_⟩; conv => whnf) | fail)
      refine ⟨sepT (l.map TR.t), take_all bcell _, ?_⟩
      (try (conv => whnf)); repeat' (first | refine Ok.seq ?_ | (refine Ok.region tok ?_; conv => whnf) | (refine Ok.region_draw tok follows (by kernel_rfl) ?_; conv => whnf) | (refine Ok.cond ?_; conv => whnf) | refine Ok.block ?_ | (refine Ok.skip ?_; conv => whnf) | (refine Ok.exit ?_; conv => whnf) | (refine Ok.ret ?_; conv => whnf) | (refine num_in (by omega) (by omega) ?_; conv => whnf) | (refine ix _ (by assumption) ?_; conv => whnf) | (refine ixI (by omega) (by assumption) ?_; conv => whnf) | (refine ix_new _ (by omega) fun _ _ => ?_; conv => whnf) | (refine ixI_new (by omega) (by omega) fun _ _ => ?_; conv => whnf) | (refine ⟨_, by assumption, ?_⟩; conv => whnf) | (refine Alt2.l (And.intro (by first | omega | (simp; done) | (simp; omega)) ?_); conv => whnf) | (refine Alt2.r (And.intro (by first | omega | (simp; done) | (simp; omega)) ?_); conv => whnf) | (refine Ok.scope ?_) | (refine Ok.label ?_; conv => whnf) | (refine rd rfl (by assumption) ?_; conv => whnf) | (refine ⟨_, .inl ⟨rfl, rfl⟩, ?_⟩; conv => whnf) | (refine ⟨_, _, rfl, rfl, ?_⟩; conv => whnf) | (refine ⟨fun _ => ?_, fun _ => ?_⟩ <;> (conv => whnf) <;> (try (exfalso; omega))) | (refine And.intro (by first | omega | rfl | (simp; done) | (simp; omega)) ?_; conv => whnf) | (refine num_any ?_; conv => whnf) | (refine ⟨_, rfl, ?_⟩; conv => whnf) | fail)
      refine Or.inl ?_; (conv => whnf)
      unfold textS
      rw [if_neg hne]
      rfl
end Go.Proofs.YtaiondckookpiaaGreatDoor
/- A space's text, by the program. -/
namespace Go.Proofs.YtaiondckookpiaaGreatDoor
open Go Go.Vx
def bcl (i : Nat) : D := match i with | 0 => .nilB 146 | _ + 1 => .bp 1 0
set_option maxRecDepth 100000 in
set_option maxHeartbeats 16000000 in
theorem text2_at (n : Nat) (l : List TR) {rl room : List (List D)} (hok : SpOk n l) (h : rl = l.map trow) : FSpec Tryz.prog T 59 [.agg [.i .i64 (n : Int), .lst 112 rl room]] (fun d _ => d = .s (textS (l.map TR.t))) := by
  subst h
  have hll : (l.map trow).length = l.length := by simp
  have hln := hok.len
  have hn := hok.n256
  refine FSpec.of_ok tok Tryz.func59 rfl Tryz.call59 (by simp) ?_
  (try (conv => whnf)); repeat' (first | refine Ok.seq ?_ | (refine Ok.region tok ?_; conv => whnf) | (refine Ok.region_draw tok follows (by kernel_rfl) ?_; conv => whnf) | (refine Ok.cond ?_; conv => whnf) | refine Ok.block ?_ | (refine Ok.skip ?_; conv => whnf) | (refine Ok.exit ?_; conv => whnf) | (refine Ok.ret ?_; conv => whnf) | (refine num_in (by omega) (by omega) ?_; conv => whnf) | (refine ix _ (by assumption) ?_; conv => whnf) | (refine ixI (by omega) (by assumption) ?_; conv => whnf) | (refine ix_new _ (by omega) fun _ _ => ?_; conv => whnf) | (refine ixI_new (by omega) (by omega) fun _ _ => ?_; conv => whnf) | (refine ⟨_, by assumption, ?_⟩; conv => whnf) | (refine Alt2.l (And.intro (by first | omega | (simp; done) | (simp; omega)) ?_); conv => whnf) | (refine Alt2.r (And.intro (by first | omega | (simp; done) | (simp; omega)) ?_); conv => whnf) | (refine Ok.scope ?_) | (refine Ok.label ?_; conv => whnf) | (refine rd rfl (by assumption) ?_; conv => whnf) | (refine ⟨_, .inl ⟨rfl, rfl⟩, ?_⟩; conv => whnf) | (refine ⟨_, _, rfl, rfl, ?_⟩; conv => whnf) | (refine ⟨fun _ => ?_, fun _ => ?_⟩ <;> (conv => whnf) <;> (try (exfalso; omega))) | (refine And.intro (by first | omega | rfl | (simp; done) | (simp; omega)) ?_; conv => whnf) | (refine num_any ?_; conv => whnf) | (refine ⟨_, rfl, ?_⟩; conv => whnf) | fail)
  · rename_i h
    refine Or.inl ?_; (conv => whnf)
    have : l = [] := List.eq_nil_of_length_eq_zero (by omega)
    subst this
    unfold textS
    rw [if_pos (by rfl)]
    rfl
  · rename_i h
    have hne : l.map TR.t ≠ [] := fun e => h (by have := congrArg List.length e; simp at this; simp [this])
    have hl0 : l ≠ [] := fun e => hne (by rw [e]; rfl)
    have hpos := hok.pos hl0
    refine Ok.ghostB 1 1 5 rfl rfl ?_
    (conv => whnf)
    refine Ok.loopU [1, 3, 12, 13] [14] 1 2 (fun (i : Nat) => [.i .i64 (i : Nat)]) (fun (i : Nat) (_ : List (List D)) => [[.i .i64 (n : Int), .lst 112 (l.map trow) room], [bcl i, .own 0 (sepT ((l.map TR.t).take i)).length]]) (fun (i : Nat) (_ : Vx.Rows) => [some (5, (sepT ((l.map TR.t).take i)).map bcell)]) (fun (i : Nat) => i ≤ l.length) (fun (i : Nat) => l.length - i) (0) (Nat.zero_le _) ?_; (conv => whnf); refine ⟨by ((conv => whnf); first | rfl | (simp [envCat, List.take_of_length_le, srow, drow, trow, bcell, sepT_nil, tTail_nil]; done) | (simp [envCat, List.take_of_length_le, srow, drow, trow, bcell, sepT_nil, tTail_nil]; rw [IntKind.wrap_i64]; omega)), ?_⟩
    rintro i hi
    have hsl := hok.sep i
    have hsm : ((sepT ((l.map TR.t).take i)).map bcell).length = (sepT ((l.map TR.t).take i)).length := List.length_map _
    by_cases hil : i < l.length
    · obtain ⟨x, hx⟩ : ∃ x, l[i]? = some x := ⟨_, List.getElem?_eq_getElem hil⟩
      have hxm := List.mem_of_getElem? hx
      have hxw := hok.wide x hxm
      have hpl : x.t.p.length ≤ 256 := by rw [hxw.1]; exact hn
      have hxl : (x.t.less.map crow).length = x.t.less.length := by simp
      have hxn := hok.less hxm
      have hxt : (l.map TR.t)[i]? = some x.t := by simp [hx]
      have hstep := sepT_step hxt
      have hpre := hok.pre i
      have hkl : x.t.key.length = n * (x.t.less.length + 1) := key_len hxw.1 hxw.2
      have hkb : n * (x.t.less.length + 1) ≤ 256 * 1048577 := Nat.mul_le_mul hn (by omega)
      have hkn : n ≤ n * (x.t.less.length + 1) := Nat.le_mul_of_pos_right n (by omega)
      have hkh : x.t.p = (x.t.key.take n).drop 0 := by rw [List.drop_zero]; exact (key_head hxw.1).symm
      have hka : ∀ (j : Nat) (m : Str), x.t.less[j]? = some m → m = (x.t.key.take (n * (j + 1) + n)).drop (n * (j + 1)) := fun j m hm => (key_at hxw.1 hxw.2 hm).symm
      by_cases hi0 : i = 0
      · have hp0 : preT (l.map TR.t) i = [] := by rw [hi0]; rfl
        have hs0 : sepT ((l.map TR.t).take i) = [] := by rw [hi0]; rfl
        have hb0 : bcl i = .nilB 146 := by rw [hi0]; rfl
        rw [hs0] at hsl hsm ⊢
        rw [hb0]
        rw [hp0] at hpre hstep
        (conv => whnf)
        (try (conv => whnf)); repeat' (first | ((refine And.intro byteT ?_); (conv => whnf)) | refine Ok.seq ?_ | (refine Ok.region tok ?_; conv => whnf) | (refine Ok.region_draw tok follows (by kernel_rfl) ?_; conv => whnf) | (refine Ok.cond ?_; conv => whnf) | refine Ok.block ?_ | (refine Ok.skip ?_; conv => whnf) | (refine Ok.exit ?_; conv => whnf) | (refine Ok.ret ?_; conv => whnf) | (refine num_in (by omega) (by omega) ?_; conv => whnf) | (refine ix _ (by assumption) ?_; conv => whnf) | (refine ixI (by omega) (by assumption) ?_; conv => whnf) | (refine ix_new _ (by omega) fun _ _ => ?_; conv => whnf) | (refine ixI_new (by omega) (by omega) fun _ _ => ?_; conv => whnf) | (refine ⟨_, by assumption, ?_⟩; conv => whnf) | (refine Alt2.l (And.intro (by first | omega | (simp; done) | (simp; omega)) ?_); conv => whnf) | (refine Alt2.r (And.intro (by first | omega | (simp; done) | (simp; omega)) ?_); conv => whnf) | (refine Ok.scope ?_) | (refine Ok.label ?_; conv => whnf) | (refine rd rfl (by assumption) ?_; conv => whnf) | (refine ⟨_, .inl ⟨rfl, rfl⟩, ?_⟩; conv => whnf) | (refine ⟨_, _, rfl, rfl, ?_⟩; conv => whnf) | (refine ⟨fun _ => ?_, fun _ => ?_⟩ <;> (conv => whnf) <;> (try (exfalso; omega))) | (refine And.intro (by first | omega | rfl | (simp; done) | (simp; omega)) ?_; conv => whnf) | (refine num_any ?_; conv => whnf) | (refine ⟨_, rfl, ?_⟩; conv => whnf) | fail)
        refine Or.inr (Or.inr (Or.inl ?_)); (conv => whnf); refine ⟨_, _, Tryz.func110, rfl, Tryz.call110, ?_⟩; (conv => whnf)
        (try (conv => whnf)); repeat' (first | ((refine And.intro byteT ?_); (conv => whnf)) | refine Ok.seq ?_ | (refine Ok.region tok ?_; conv => whnf) | (refine Ok.region_draw tok follows (by kernel_rfl) ?_; conv => whnf) | (refine Ok.cond ?_; conv => whnf) | refine Ok.block ?_ | (refine Ok.skip ?_; conv => whnf) | (refine Ok.exit ?_; conv => whnf) | (refine Ok.ret ?_; conv => whnf) | (refine num_in (by omega) (by omega) ?_; conv => whnf) | (refine ix _ (by assumption) ?_; conv => whnf) | (refine ixI (by omega) (by assumption) ?_; conv => whnf) | (refine ix_new _ (by omega) fun _ _ => ?_; conv => whnf) | (refine ixI_new (by omega) (by omega) fun _ _ => ?_; conv => whnf) | (refine ⟨_, by assumption, ?_⟩; conv => whnf) | (refine Alt2.l (And.intro (by first | omega | (simp; done) | (simp; omega)) ?_); conv => whnf) | (refine Alt2.r (And.intro (by first | omega | (simp; done) | (simp; omega)) ?_); conv => whnf) | (refine Ok.scope ?_) | (refine Ok.label ?_; conv => whnf) | (refine rd rfl (by assumption) ?_; conv => whnf) | (refine ⟨_, .inl ⟨rfl, rfl⟩, ?_⟩; conv => whnf) | (refine ⟨_, _, rfl, rfl, ?_⟩; conv => whnf) | (refine ⟨fun _ => ?_, fun _ => ?_⟩ <;> (conv => whnf) <;> (try (exfalso; omega))) | (refine And.intro (by first | omega | rfl | (simp; done) | (simp; omega)) ?_; conv => whnf) | (refine num_any ?_; conv => whnf) | (refine ⟨_, rfl, ?_⟩; conv => whnf) | fail)
        refine Or.inr (Or.inr (Or.inr (Or.inr ?_)))
        (conv => whnf)
        refine effW_fresh copyAt rfl ?_
        (conv => whnf)
        (try (conv => whnf)); repeat' (first | ((refine And.intro byteT ?_); (conv => whnf)) | refine Ok.seq ?_ | (refine Ok.region tok ?_; conv => whnf) | (refine Ok.region_draw tok follows (by kernel_rfl) ?_; conv => whnf) | (refine Ok.cond ?_; conv => whnf) | refine Ok.block ?_ | (refine Ok.skip ?_; conv => whnf) | (refine Ok.exit ?_; conv => whnf) | (refine Ok.ret ?_; conv => whnf) | (refine num_in (by omega) (by omega) ?_; conv => whnf) | (refine ix _ (by assumption) ?_; conv => whnf) | (refine ixI (by omega) (by assumption) ?_; conv => whnf) | (refine ix_new _ (by omega) fun _ _ => ?_; conv => whnf) | (refine ixI_new (by omega) (by omega) fun _ _ => ?_; conv => whnf) | (refine ⟨_, by assumption, ?_⟩; conv => whnf) | (refine Alt2.l (And.intro (by first | omega | (simp; done) | (simp; omega)) ?_); conv => whnf) | (refine Alt2.r (And.intro (by first | omega | (simp; done) | (simp; omega)) ?_); conv => whnf) | (refine Ok.scope ?_) | (refine Ok.label ?_; conv => whnf) | (refine rd rfl (by assumption) ?_; conv => whnf) | (refine ⟨_, .inl ⟨rfl, rfl⟩, ?_⟩; conv => whnf) | (refine ⟨_, _, rfl, rfl, ?_⟩; conv => whnf) | (refine ⟨fun _ => ?_, fun _ => ?_⟩ <;> (conv => whnf) <;> (try (exfalso; omega))) | (refine And.intro (by first | omega | rfl | (simp; done) | (simp; omega)) ?_; conv => whnf) | (refine num_any ?_; conv => whnf) | (refine ⟨_, rfl, ?_⟩; conv => whnf) | fail)
        refine Ok.loopU [1, 3, 5, 12, 13, 14] [6] 1 3 (fun (j : Nat) => [.i .i64 (n * (j + 1) : Nat)]) (fun (j : Nat) (_ : List (List D)) => [[.i .i64 (n : Int), .lst 112 (l.map trow) room], [.bp 1 0, .own 0 (([] : Str) ++ x.t.p ++ tTail (x.t.less.take j)).length], trow x]) (fun (j : Nat) (_ : Vx.Rows) => [some (5, (([] : Str) ++ x.t.p ++ tTail (x.t.less.take j)).map bcell)]) (fun (j : Nat) => j ≤ x.t.less.length) (fun (j : Nat) => x.t.less.length - j) (0) (Nat.zero_le _) ?_; (conv => whnf); refine ⟨by ((conv => whnf); first | rfl | (simp [envCat, List.take_of_length_le, srow, drow, trow, bcell, sepT_nil, tTail_nil]; done) | (simp [envCat, List.take_of_length_le, srow, drow, trow, bcell, sepT_nil, tTail_nil]; rw [IntKind.wrap_i64]; omega)), ?_⟩
        rintro j hj
        have htl := hok.tail hxm j
        have hFl : (([] : Str) ++ x.t.p ++ tTail (x.t.less.take j)).length ≤ 257 * 1048576 + 1 + 256 + 257 * 1048576 := by rw [List.length_append, List.length_append]; omega
        have hFm : ((([] : Str) ++ x.t.p ++ tTail (x.t.less.take j)).map bcell).length = (([] : Str) ++ x.t.p ++ tTail (x.t.less.take j)).length := List.length_map _
        have hjn : n * (j + 1 + 1) = n * (j + 1) + n := Nat.mul_succ n (j + 1)
        (conv => whnf)
        by_cases hjl : j < x.t.less.length
        · obtain ⟨m, hm⟩ : ∃ m, x.t.less[j]? = some m := ⟨_, List.getElem?_eq_getElem hjl⟩
          have hml : m.length ≤ 256 := by rw [hxw.2 m (List.mem_of_getElem? hm)]; exact hn
          have hts := tTail_snoc hm
          have hj2 : n * (j + 1) + n ≤ n * (x.t.less.length + 1) := by rw [← hjn]; exact Nat.mul_le_mul_left n (by omega)
          have hma := hka j m hm
          generalize hF : ([] : Str) ++ x.t.p ++ tTail (x.t.less.take j) = F at *
          have hF2 : ((F ++ [45]).map bcell).length = (F ++ [45]).length := List.length_map _
          generalize hJ : n * (j + 1) = J at *
          (try (conv => whnf)); repeat' (first | ((refine And.intro byteT ?_); (conv => whnf)) | refine Ok.seq ?_ | (refine Ok.region tok ?_; conv => whnf) | (refine Ok.region_draw tok follows (by kernel_rfl) ?_; conv => whnf) | (refine Ok.cond ?_; conv => whnf) | refine Ok.block ?_ | (refine Ok.skip ?_; conv => whnf) | (refine Ok.exit ?_; conv => whnf) | (refine Ok.ret ?_; conv => whnf) | (refine num_in (by omega) (by omega) ?_; conv => whnf) | (refine ix _ (by assumption) ?_; conv => whnf) | (refine ixI (by omega) (by assumption) ?_; conv => whnf) | (refine ix_new _ (by omega) fun _ _ => ?_; conv => whnf) | (refine ixI_new (by omega) (by omega) fun _ _ => ?_; conv => whnf) | (refine ⟨_, by assumption, ?_⟩; conv => whnf) | (refine Alt2.l (And.intro (by first | omega | (simp; done) | (simp; omega)) ?_); conv => whnf) | (refine Alt2.r (And.intro (by first | omega | (simp; done) | (simp; omega)) ?_); conv => whnf) | (refine Ok.scope ?_) | (refine Ok.label ?_; conv => whnf) | (refine rd rfl (by assumption) ?_; conv => whnf) | (refine ⟨_, .inl ⟨rfl, rfl⟩, ?_⟩; conv => whnf) | (refine ⟨_, _, rfl, rfl, ?_⟩; conv => whnf) | (refine ⟨fun _ => ?_, fun _ => ?_⟩ <;> (conv => whnf) <;> (try (exfalso; omega))) | (refine And.intro (by first | omega | rfl | (simp; done) | (simp; omega)) ?_; conv => whnf) | (refine num_any ?_; conv => whnf) | (refine ⟨_, rfl, ?_⟩; conv => whnf) | fail)
          refine Or.inr (Or.inr (Or.inl ?_)); (conv => whnf); refine ⟨_, _, Tryz.func109, rfl, Tryz.call109, ?_⟩; (conv => whnf)
          (try (conv => whnf)); repeat' (first | ((refine And.intro byteT ?_); (conv => whnf)) | refine Ok.seq ?_ | (refine Ok.region tok ?_; conv => whnf) | (refine Ok.region_draw tok follows (by kernel_rfl) ?_; conv => whnf) | (refine Ok.cond ?_; conv => whnf) | refine Ok.block ?_ | (refine Ok.skip ?_; conv => whnf) | (refine Ok.exit ?_; conv => whnf) | (refine Ok.ret ?_; conv => whnf) | (refine num_in (by omega) (by omega) ?_; conv => whnf) | (refine ix _ (by assumption) ?_; conv => whnf) | (refine ixI (by omega) (by assumption) ?_; conv => whnf) | (refine ix_new _ (by omega) fun _ _ => ?_; conv => whnf) | (refine ixI_new (by omega) (by omega) fun _ _ => ?_; conv => whnf) | (refine ⟨_, by assumption, ?_⟩; conv => whnf) | (refine Alt2.l (And.intro (by first | omega | (simp; done) | (simp; omega)) ?_); conv => whnf) | (refine Alt2.r (And.intro (by first | omega | (simp; done) | (simp; omega)) ?_); conv => whnf) | (refine Ok.scope ?_) | (refine Ok.label ?_; conv => whnf) | (refine rd rfl (by assumption) ?_; conv => whnf) | (refine ⟨_, .inl ⟨rfl, rfl⟩, ?_⟩; conv => whnf) | (refine ⟨_, _, rfl, rfl, ?_⟩; conv => whnf) | (refine ⟨fun _ => ?_, fun _ => ?_⟩ <;> (conv => whnf) <;> (try (exfalso; omega))) | (refine And.intro (by first | omega | rfl | (simp; done) | (simp; omega)) ?_; conv => whnf) | (refine num_any ?_; conv => whnf) | (refine ⟨_, rfl, ?_⟩; conv => whnf) | fail)
          refine Or.inr (Or.inr (Or.inr (Or.inr ?_)))
          (conv => whnf)
          refine effW_used copyAt rfl ?_
          (conv => whnf)
          (try (conv => whnf)); repeat' (first | ((refine And.intro byteT ?_); (conv => whnf)) | refine Ok.seq ?_ | (refine Ok.region tok ?_; conv => whnf) | (refine Ok.region_draw tok follows (by kernel_rfl) ?_; conv => whnf) | (refine Ok.cond ?_; conv => whnf) | refine Ok.block ?_ | (refine Ok.skip ?_; conv => whnf) | (refine Ok.exit ?_; conv => whnf) | (refine Ok.ret ?_; conv => whnf) | (refine num_in (by omega) (by omega) ?_; conv => whnf) | (refine ix _ (by assumption) ?_; conv => whnf) | (refine ixI (by omega) (by assumption) ?_; conv => whnf) | (refine ix_new _ (by omega) fun _ _ => ?_; conv => whnf) | (refine ixI_new (by omega) (by omega) fun _ _ => ?_; conv => whnf) | (refine ⟨_, by assumption, ?_⟩; conv => whnf) | (refine Alt2.l (And.intro (by first | omega | (simp; done) | (simp; omega)) ?_); conv => whnf) | (refine Alt2.r (And.intro (by first | omega | (simp; done) | (simp; omega)) ?_); conv => whnf) | (refine Ok.scope ?_) | (refine Ok.label ?_; conv => whnf) | (refine rd rfl (by assumption) ?_; conv => whnf) | (refine ⟨_, .inl ⟨rfl, rfl⟩, ?_⟩; conv => whnf) | (refine ⟨_, _, rfl, rfl, ?_⟩; conv => whnf) | (refine ⟨fun _ => ?_, fun _ => ?_⟩ <;> (conv => whnf) <;> (try (exfalso; omega))) | (refine And.intro (by first | omega | rfl | (simp; done) | (simp; omega)) ?_; conv => whnf) | (refine num_any ?_; conv => whnf) | (refine ⟨_, rfl, ?_⟩; conv => whnf) | fail)
          try refine ⟨J, J + n, rfl, (by show ((J : Nat) : Int) + (n : Int) = ((J + n : Nat) : Int); omega), by omega, by omega, m, hma, ?_⟩
          (try (conv => whnf)); repeat' (first | ((refine And.intro byteT ?_); (conv => whnf)) | refine Ok.seq ?_ | (refine Ok.region tok ?_; conv => whnf) | (refine Ok.region_draw tok follows (by kernel_rfl) ?_; conv => whnf) | (refine Ok.cond ?_; conv => whnf) | refine Ok.block ?_ | (refine Ok.skip ?_; conv => whnf) | (refine Ok.exit ?_; conv => whnf) | (refine Ok.ret ?_; conv => whnf) | (refine num_in (by omega) (by omega) ?_; conv => whnf) | (refine ix _ (by assumption) ?_; conv => whnf) | (refine ixI (by omega) (by assumption) ?_; conv => whnf) | (refine ix_new _ (by omega) fun _ _ => ?_; conv => whnf) | (refine ixI_new (by omega) (by omega) fun _ _ => ?_; conv => whnf) | (refine ⟨_, by assumption, ?_⟩; conv => whnf) | (refine Alt2.l (And.intro (by first | omega | (simp; done) | (simp; omega)) ?_); conv => whnf) | (refine Alt2.r (And.intro (by first | omega | (simp; done) | (simp; omega)) ?_); conv => whnf) | (refine Ok.scope ?_) | (refine Ok.label ?_; conv => whnf) | (refine rd rfl (by assumption) ?_; conv => whnf) | (refine ⟨_, .inl ⟨rfl, rfl⟩, ?_⟩; conv => whnf) | (refine ⟨_, _, rfl, rfl, ?_⟩; conv => whnf) | (refine ⟨fun _ => ?_, fun _ => ?_⟩ <;> (conv => whnf) <;> (try (exfalso; omega))) | (refine And.intro (by first | omega | rfl | (simp; done) | (simp; omega)) ?_; conv => whnf) | (refine num_any ?_; conv => whnf) | (refine ⟨_, rfl, ?_⟩; conv => whnf) | fail)
          refine Or.inr (Or.inr (Or.inl ?_)); (conv => whnf); refine ⟨_, _, Tryz.func110, rfl, Tryz.call110, ?_⟩; (conv => whnf)
          (try (conv => whnf)); repeat' (first | ((refine And.intro byteT ?_); (conv => whnf)) | refine Ok.seq ?_ | (refine Ok.region tok ?_; conv => whnf) | (refine Ok.region_draw tok follows (by kernel_rfl) ?_; conv => whnf) | (refine Ok.cond ?_; conv => whnf) | refine Ok.block ?_ | (refine Ok.skip ?_; conv => whnf) | (refine Ok.exit ?_; conv => whnf) | (refine Ok.ret ?_; conv => whnf) | (refine num_in (by omega) (by omega) ?_; conv => whnf) | (refine ix _ (by assumption) ?_; conv => whnf) | (refine ixI (by omega) (by assumption) ?_; conv => whnf) | (refine ix_new _ (by omega) fun _ _ => ?_; conv => whnf) | (refine ixI_new (by omega) (by omega) fun _ _ => ?_; conv => whnf) | (refine ⟨_, by assumption, ?_⟩; conv => whnf) | (refine Alt2.l (And.intro (by first | omega | (simp; done) | (simp; omega)) ?_); conv => whnf) | (refine Alt2.r (And.intro (by first | omega | (simp; done) | (simp; omega)) ?_); conv => whnf) | (refine Ok.scope ?_) | (refine Ok.label ?_; conv => whnf) | (refine rd rfl (by assumption) ?_; conv => whnf) | (refine ⟨_, .inl ⟨rfl, rfl⟩, ?_⟩; conv => whnf) | (refine ⟨_, _, rfl, rfl, ?_⟩; conv => whnf) | (refine ⟨fun _ => ?_, fun _ => ?_⟩ <;> (conv => whnf) <;> (try (exfalso; omega))) | (refine And.intro (by first | omega | rfl | (simp; done) | (simp; omega)) ?_; conv => whnf) | (refine num_any ?_; conv => whnf) | (refine ⟨_, rfl, ?_⟩; conv => whnf) | fail)
          refine Or.inr (Or.inr (Or.inr (Or.inr ?_)))
          (conv => whnf)
          refine effW_used copyAt rfl ?_
          (conv => whnf)
          (try (conv => whnf)); repeat' (first | ((refine And.intro byteT ?_); (conv => whnf)) | refine Ok.seq ?_ | (refine Ok.region tok ?_; conv => whnf) | (refine Ok.region_draw tok follows (by kernel_rfl) ?_; conv => whnf) | (refine Ok.cond ?_; conv => whnf) | refine Ok.block ?_ | (refine Ok.skip ?_; conv => whnf) | (refine Ok.exit ?_; conv => whnf) | (refine Ok.ret ?_; conv => whnf) | (refine num_in (by omega) (by omega) ?_; conv => whnf) | (refine ix _ (by assumption) ?_; conv => whnf) | (refine ixI (by omega) (by assumption) ?_; conv => whnf) | (refine ix_new _ (by omega) fun _ _ => ?_; conv => whnf) | (refine ixI_new (by omega) (by omega) fun _ _ => ?_; conv => whnf) | (refine ⟨_, by assumption, ?_⟩; conv => whnf) | (refine Alt2.l (And.intro (by first | omega | (simp; done) | (simp; omega)) ?_); conv => whnf) | (refine Alt2.r (And.intro (by first | omega | (simp; done) | (simp; omega)) ?_); conv => whnf) | (refine Ok.scope ?_) | (refine Ok.label ?_; conv => whnf) | (refine rd rfl (by assumption) ?_; conv => whnf) | (refine ⟨_, .inl ⟨rfl, rfl⟩, ?_⟩; conv => whnf) | (refine ⟨_, _, rfl, rfl, ?_⟩; conv => whnf) | (refine ⟨fun _ => ?_, fun _ => ?_⟩ <;> (conv => whnf) <;> (try (exfalso; omega))) | (refine And.intro (by first | omega | rfl | (simp; done) | (simp; omega)) ?_; conv => whnf) | (refine num_any ?_; conv => whnf) | (refine ⟨_, rfl, ?_⟩; conv => whnf) | fail)
          refine ⟨j + 1, by omega, by omega, ?_⟩
          rw [hjn, hts, ← List.append_assoc, ← List.append_assoc, hF]
          (conv => whnf)
          simp [envCat, bcell]
        · have hje : j = x.t.less.length := by omega
          subst hje
          rw [List.take_length]
          (try (conv => whnf)); repeat' (first | refine Ok.seq ?_ | (refine Ok.region tok ?_; conv => whnf) | (refine Ok.region_draw tok follows (by kernel_rfl) ?_; conv => whnf) | (refine Ok.cond ?_; conv => whnf) | refine Ok.block ?_ | (refine Ok.skip ?_; conv => whnf) | (refine Ok.exit ?_; conv => whnf) | (refine Ok.ret ?_; conv => whnf) | (refine num_in (by omega) (by omega) ?_; conv => whnf) | (refine ix _ (by assumption) ?_; conv => whnf) | (refine ixI (by omega) (by assumption) ?_; conv => whnf) | (refine ix_new _ (by omega) fun _ _ => ?_; conv => whnf) | (refine ixI_new (by omega) (by omega) fun _ _ => ?_; conv => whnf) | (refine ⟨_, by assumption, ?_⟩; conv => whnf) | (refine Alt2.l (And.intro (by first | omega | (simp; done) | (simp; omega)) ?_); conv => whnf) | (refine Alt2.r (And.intro (by first | omega | (simp; done) | (simp; omega)) ?_); conv => whnf) | (refine Ok.scope ?_) | (refine Ok.label ?_; conv => whnf) | (refine rd rfl (by assumption) ?_; conv => whnf) | (refine ⟨_, .inl ⟨rfl, rfl⟩, ?_⟩; conv => whnf) | (refine ⟨_, _, rfl, rfl, ?_⟩; conv => whnf) | (refine ⟨fun _ => ?_, fun _ => ?_⟩ <;> (conv => whnf) <;> (try (exfalso; omega))) | (refine And.intro (by first | omega | rfl | (simp; done) | (simp; omega)) ?_; conv => whnf) | (refine num_any ?_; conv => whnf) | (refine ⟨_, rfl, ?_⟩; conv => whnf) | fail)
          refine ⟨i + 1, by omega, by omega, ?_⟩
          rw [hstep]
          unfold ttxt
          rw [← List.append_assoc]
          (conv => whnf)
          rfl
      · have hp0 : preT (l.map TR.t) i = sepT ((l.map TR.t).take i) ++ [43] := by unfold preT; rw [if_neg hi0]
        have hb0 : bcl i = .bp 1 0 := by cases i with | zero => exact absurd rfl hi0 | succ k => rfl
        rw [hb0]
        rw [hp0] at hpre hstep
        have hpre2 : ((sepT ((l.map TR.t).take i) ++ [43]).map bcell).length = (sepT ((l.map TR.t).take i) ++ [43]).length := List.length_map _
        (conv => whnf)
        (try (conv => whnf)); repeat' (first | ((refine And.intro byteT ?_); (conv => whnf)) | refine Ok.seq ?_ | (refine Ok.region tok ?_; conv => whnf) | (refine Ok.region_draw tok follows (by kernel_rfl) ?_; conv => whnf) | (refine Ok.cond ?_; conv => whnf) | refine Ok.block ?_ | (refine Ok.skip ?_; conv => whnf) | (refine Ok.exit ?_; conv => whnf) | (refine Ok.ret ?_; conv => whnf) | (refine num_in (by omega) (by omega) ?_; conv => whnf) | (refine ix _ (by assumption) ?_; conv => whnf) | (refine ixI (by omega) (by assumption) ?_; conv => whnf) | (refine ix_new _ (by omega) fun _ _ => ?_; conv => whnf) | (refine ixI_new (by omega) (by omega) fun _ _ => ?_; conv => whnf) | (refine ⟨_, by assumption, ?_⟩; conv => whnf) | (refine Alt2.l (And.intro (by first | omega | (simp; done) | (simp; omega)) ?_); conv => whnf) | (refine Alt2.r (And.intro (by first | omega | (simp; done) | (simp; omega)) ?_); conv => whnf) | (refine Ok.scope ?_) | (refine Ok.label ?_; conv => whnf) | (refine rd rfl (by assumption) ?_; conv => whnf) | (refine ⟨_, .inl ⟨rfl, rfl⟩, ?_⟩; conv => whnf) | (refine ⟨_, _, rfl, rfl, ?_⟩; conv => whnf) | (refine ⟨fun _ => ?_, fun _ => ?_⟩ <;> (conv => whnf) <;> (try (exfalso; omega))) | (refine And.intro (by first | omega | rfl | (simp; done) | (simp; omega)) ?_; conv => whnf) | (refine num_any ?_; conv => whnf) | (refine ⟨_, rfl, ?_⟩; conv => whnf) | fail)
        refine Or.inr (Or.inr (Or.inl ?_)); (conv => whnf); refine ⟨_, _, Tryz.func109, rfl, Tryz.call109, ?_⟩; (conv => whnf)
        (try (conv => whnf)); repeat' (first | ((refine And.intro byteT ?_); (conv => whnf)) | refine Ok.seq ?_ | (refine Ok.region tok ?_; conv => whnf) | (refine Ok.region_draw tok follows (by kernel_rfl) ?_; conv => whnf) | (refine Ok.cond ?_; conv => whnf) | refine Ok.block ?_ | (refine Ok.skip ?_; conv => whnf) | (refine Ok.exit ?_; conv => whnf) | (refine Ok.ret ?_; conv => whnf) | (refine num_in (by omega) (by omega) ?_; conv => whnf) | (refine ix _ (by assumption) ?_; conv => whnf) | (refine ixI (by omega) (by assumption) ?_; conv => whnf) | (refine ix_new _ (by omega) fun _ _ => ?_; conv => whnf) | (refine ixI_new (by omega) (by omega) fun _ _ => ?_; conv => whnf) | (refine ⟨_, by assumption, ?_⟩; conv => whnf) | (refine Alt2.l (And.intro (by first | omega | (simp; done) | (simp; omega)) ?_); conv => whnf) | (refine Alt2.r (And.intro (by first | omega | (simp; done) | (simp; omega)) ?_); conv => whnf) | (refine Ok.scope ?_) | (refine Ok.label ?_; conv => whnf) | (refine rd rfl (by assumption) ?_; conv => whnf) | (refine ⟨_, .inl ⟨rfl, rfl⟩, ?_⟩; conv => whnf) | (refine ⟨_, _, rfl, rfl, ?_⟩; conv => whnf) | (refine ⟨fun _ => ?_, fun _ => ?_⟩ <;> (conv => whnf) <;> (try (exfalso; omega))) | (refine And.intro (by first | omega | rfl | (simp; done) | (simp; omega)) ?_; conv => whnf) | (refine num_any ?_; conv => whnf) | (refine ⟨_, rfl, ?_⟩; conv => whnf) | fail)
        refine Or.inr (Or.inr (Or.inr (Or.inr ?_)))
        (conv => whnf)
        refine effW_used copyAt rfl ?_
        (conv => whnf)
        (try (conv => whnf)); repeat' (first | ((refine And.intro byteT ?_); (conv => whnf)) | refine Ok.seq ?_ | (refine Ok.region tok ?_; conv => whnf) | (refine Ok.region_draw tok follows (by kernel_rfl) ?_; conv => whnf) | (refine Ok.cond ?_; conv => whnf) | refine Ok.block ?_ | (refine Ok.skip ?_; conv => whnf) | (refine Ok.exit ?_; conv => whnf) | (refine Ok.ret ?_; conv => whnf) | (refine num_in (by omega) (by omega) ?_; conv => whnf) | (refine ix _ (by assumption) ?_; conv => whnf) | (refine ixI (by omega) (by assumption) ?_; conv => whnf) | (refine ix_new _ (by omega) fun _ _ => ?_; conv => whnf) | (refine ixI_new (by omega) (by omega) fun _ _ => ?_; conv => whnf) | (refine ⟨_, by assumption, ?_⟩; conv => whnf) | (refine Alt2.l (And.intro (by first | omega | (simp; done) | (simp; omega)) ?_); conv => whnf) | (refine Alt2.r (And.intro (by first | omega | (simp; done) | (simp; omega)) ?_); conv => whnf) | (refine Ok.scope ?_) | (refine Ok.label ?_; conv => whnf) | (refine rd rfl (by assumption) ?_; conv => whnf) | (refine ⟨_, .inl ⟨rfl, rfl⟩, ?_⟩; conv => whnf) | (refine ⟨_, _, rfl, rfl, ?_⟩; conv => whnf) | (refine ⟨fun _ => ?_, fun _ => ?_⟩ <;> (conv => whnf) <;> (try (exfalso; omega))) | (refine And.intro (by first | omega | rfl | (simp; done) | (simp; omega)) ?_; conv => whnf) | (refine num_any ?_; conv => whnf) | (refine ⟨_, rfl, ?_⟩; conv => whnf) | fail)
        refine Or.inr (Or.inr (Or.inl ?_)); (conv => whnf); refine ⟨_, _, Tryz.func110, rfl, Tryz.call110, ?_⟩; (conv => whnf)
        (try (conv => whnf)); repeat' (first | ((refine And.intro byteT ?_); (conv => whnf)) | refine Ok.seq ?_ | (refine Ok.region tok ?_; conv => whnf) | (refine Ok.region_draw tok follows (by kernel_rfl) ?_; conv => whnf) | (refine Ok.cond ?_; conv => whnf) | refine Ok.block ?_ | (refine Ok.skip ?_; conv => whnf) | (refine Ok.exit ?_; conv => whnf) | (refine Ok.ret ?_; conv => whnf) | (refine num_in (by omega) (by omega) ?_; conv => whnf) | (refine ix _ (by assumption) ?_; conv => whnf) | (refine ixI (by omega) (by assumption) ?_; conv => whnf) | (refine ix_new _ (by omega) fun _ _ => ?_; conv => whnf) | (refine ixI_new (by omega) (by omega) fun _ _ => ?_; conv => whnf) | (refine ⟨_, by assumption, ?_⟩; conv => whnf) | (refine Alt2.l (And.intro (by first | omega | (simp; done) | (simp; omega)) ?_); conv => whnf) | (refine Alt2.r (And.intro (by first | omega | (simp; done) | (simp; omega)) ?_); conv => whnf) | (refine Ok.scope ?_) | (refine Ok.label ?_; conv => whnf) | (refine rd rfl (by assumption) ?_; conv => whnf) | (refine ⟨_, .inl ⟨rfl, rfl⟩, ?_⟩; conv => whnf) | (refine ⟨_, _, rfl, rfl, ?_⟩; conv => whnf) | (refine ⟨fun _ => ?_, fun _ => ?_⟩ <;> (conv => whnf) <;> (try (exfalso; omega))) | (refine And.intro (by first | omega | rfl | (simp; done) | (simp; omega)) ?_; conv => whnf) | (refine num_any ?_; conv => whnf) | (refine ⟨_, rfl, ?_⟩; conv => whnf) | fail)
        refine Or.inr (Or.inr (Or.inr (Or.inr ?_)))
        (conv => whnf)
        refine effW_used copyAt rfl ?_
        (conv => whnf)
        (try (conv => whnf)); repeat' (first | ((refine And.intro byteT ?_); (conv => whnf)) | refine Ok.seq ?_ | (refine Ok.region tok ?_; conv => whnf) | (refine Ok.region_draw tok follows (by kernel_rfl) ?_; conv => whnf) | (refine Ok.cond ?_; conv => whnf) | refine Ok.block ?_ | (refine Ok.skip ?_; conv => whnf) | (refine Ok.exit ?_; conv => whnf) | (refine Ok.ret ?_; conv => whnf) | (refine num_in (by omega) (by omega) ?_; conv => whnf) | (refine ix _ (by assumption) ?_; conv => whnf) | (refine ixI (by omega) (by assumption) ?_; conv => whnf) | (refine ix_new _ (by omega) fun _ _ => ?_; conv => whnf) | (refine ixI_new (by omega) (by omega) fun _ _ => ?_; conv => whnf) | (refine ⟨_, by assumption, ?_⟩; conv => whnf) | (refine Alt2.l (And.intro (by first | omega | (simp; done) | (simp; omega)) ?_); conv => whnf) | (refine Alt2.r (And.intro (by first | omega | (simp; done) | (simp; omega)) ?_); conv => whnf) | (refine Ok.scope ?_) | (refine Ok.label ?_; conv => whnf) | (refine rd rfl (by assumption) ?_; conv => whnf) | (refine ⟨_, .inl ⟨rfl, rfl⟩, ?_⟩; conv => whnf) | (refine ⟨_, _, rfl, rfl, ?_⟩; conv => whnf) | (refine ⟨fun _ => ?_, fun _ => ?_⟩ <;> (conv => whnf) <;> (try (exfalso; omega))) | (refine And.intro (by first | omega | rfl | (simp; done) | (simp; omega)) ?_; conv => whnf) | (refine num_any ?_; conv => whnf) | (refine ⟨_, rfl, ?_⟩; conv => whnf) | fail)
        refine Ok.loopU [1, 3, 5, 12, 13, 14] [6] 1 3 (fun (j : Nat) => [.i .i64 (n * (j + 1) : Nat)]) (fun (j : Nat) (_ : List (List D)) => [[.i .i64 (n : Int), .lst 112 (l.map trow) room], [.bp 1 0, .own 0 ((sepT ((l.map TR.t).take i) ++ [43]) ++ x.t.p ++ tTail (x.t.less.take j)).length], trow x]) (fun (j : Nat) (_ : Vx.Rows) => [some (5, ((sepT ((l.map TR.t).take i) ++ [43]) ++ x.t.p ++ tTail (x.t.less.take j)).map bcell)]) (fun (j : Nat) => j ≤ x.t.less.length) (fun (j : Nat) => x.t.less.length - j) (0) (Nat.zero_le _) ?_; (conv => whnf); refine ⟨by ((conv => whnf); first | rfl | (simp [envCat, List.take_of_length_le, srow, drow, trow, bcell, sepT_nil, tTail_nil]; done) | (simp [envCat, List.take_of_length_le, srow, drow, trow, bcell, sepT_nil, tTail_nil]; rw [IntKind.wrap_i64]; omega)), ?_⟩
        rintro j hj
        have htl := hok.tail hxm j
        have hFl : ((sepT ((l.map TR.t).take i) ++ [43]) ++ x.t.p ++ tTail (x.t.less.take j)).length ≤ 257 * 1048576 + 1 + 256 + 257 * 1048576 := by rw [List.length_append, List.length_append]; omega
        have hFm : (((sepT ((l.map TR.t).take i) ++ [43]) ++ x.t.p ++ tTail (x.t.less.take j)).map bcell).length = ((sepT ((l.map TR.t).take i) ++ [43]) ++ x.t.p ++ tTail (x.t.less.take j)).length := List.length_map _
        have hjn : n * (j + 1 + 1) = n * (j + 1) + n := Nat.mul_succ n (j + 1)
        (conv => whnf)
        by_cases hjl : j < x.t.less.length
        · obtain ⟨m, hm⟩ : ∃ m, x.t.less[j]? = some m := ⟨_, List.getElem?_eq_getElem hjl⟩
          have hml : m.length ≤ 256 := by rw [hxw.2 m (List.mem_of_getElem? hm)]; exact hn
          have hts := tTail_snoc hm
          have hj2 : n * (j + 1) + n ≤ n * (x.t.less.length + 1) := by rw [← hjn]; exact Nat.mul_le_mul_left n (by omega)
          have hma := hka j m hm
          generalize hF : (sepT ((l.map TR.t).take i) ++ [43]) ++ x.t.p ++ tTail (x.t.less.take j) = F at *
          have hF2 : ((F ++ [45]).map bcell).length = (F ++ [45]).length := List.length_map _
          generalize hJ : n * (j + 1) = J at *
          (try (conv => whnf)); repeat' (first | ((refine And.intro byteT ?_); (conv => whnf)) | refine Ok.seq ?_ | (refine Ok.region tok ?_; conv => whnf) | (refine Ok.region_draw tok follows (by kernel_rfl) ?_; conv => whnf) | (refine Ok.cond ?_; conv => whnf) | refine Ok.block ?_ | (refine Ok.skip ?_; conv => whnf) | (refine Ok.exit ?_; conv => whnf) | (refine Ok.ret ?_; conv => whnf) | (refine num_in (by omega) (by omega) ?_; conv => whnf) | (refine ix _ (by assumption) ?_; conv => whnf) | (refine ixI (by omega) (by assumption) ?_; conv => whnf) | (refine ix_new _ (by omega) fun _ _ => ?_; conv => whnf) | (refine ixI_new (by omega) (by omega) fun _ _ => ?_; conv => whnf) | (refine ⟨_, by assumption, ?_⟩; conv => whnf) | (refine Alt2.l (And.intro (by first | omega | (simp; done) | (simp; omega)) ?_); conv => whnf) | (refine Alt2.r (And.intro (by first | omega | (simp; done) | (simp; omega)) ?_); conv => whnf) | (refine Ok.scope ?_) | (refine Ok.label ?_; conv => whnf) | (refine rd rfl (by assumption) ?_; conv => whnf) | (refine ⟨_, .inl ⟨rfl, rfl⟩, ?_⟩; conv => whnf) | (refine ⟨_, _, rfl, rfl, ?_⟩; conv => whnf) | (refine ⟨fun _ => ?_, fun _ => ?_⟩ <;> (conv => whnf) <;> (try (exfalso; omega))) | (refine And.intro (by first | omega | rfl | (simp; done) | (simp; omega)) ?_; conv => whnf) | (refine num_any ?_; conv => whnf) | (refine ⟨_, rfl, ?_⟩; conv => whnf) | fail)
          refine Or.inr (Or.inr (Or.inl ?_)); (conv => whnf); refine ⟨_, _, Tryz.func109, rfl, Tryz.call109, ?_⟩; (conv => whnf)
          (try (conv => whnf)); repeat' (first | ((refine And.intro byteT ?_); (conv => whnf)) | refine Ok.seq ?_ | (refine Ok.region tok ?_; conv => whnf) | (refine Ok.region_draw tok follows (by kernel_rfl) ?_; conv => whnf) | (refine Ok.cond ?_; conv => whnf) | refine Ok.block ?_ | (refine Ok.skip ?_; conv => whnf) | (refine Ok.exit ?_; conv => whnf) | (refine Ok.ret ?_; conv => whnf) | (refine num_in (by omega) (by omega) ?_; conv => whnf) | (refine ix _ (by assumption) ?_; conv => whnf) | (refine ixI (by omega) (by assumption) ?_; conv => whnf) | (refine ix_new _ (by omega) fun _ _ => ?_; conv => whnf) | (refine ixI_new (by omega) (by omega) fun _ _ => ?_; conv => whnf) | (refine ⟨_, by assumption, ?_⟩; conv => whnf) | (refine Alt2.l (And.intro (by first | omega | (simp; done) | (simp; omega)) ?_); conv => whnf) | (refine Alt2.r (And.intro (by first | omega | (simp; done) | (simp; omega)) ?_); conv => whnf) | (refine Ok.scope ?_) | (refine Ok.label ?_; conv => whnf) | (refine rd rfl (by assumption) ?_; conv => whnf) | (refine ⟨_, .inl ⟨rfl, rfl⟩, ?_⟩; conv => whnf) | (refine ⟨_, _, rfl, rfl, ?_⟩; conv => whnf) | (refine ⟨fun _ => ?_, fun _ => ?_⟩ <;> (conv => whnf) <;> (try (exfalso; omega))) | (refine And.intro (by first | omega | rfl | (simp; done) | (simp; omega)) ?_; conv => whnf) | (refine num_any ?_; conv => whnf) | (refine ⟨_, rfl, ?_⟩; conv => whnf) | fail)
          refine Or.inr (Or.inr (Or.inr (Or.inr ?_)))
          (conv => whnf)
          refine effW_used copyAt rfl ?_
          (conv => whnf)
          (try (conv => whnf)); repeat' (first | ((refine And.intro byteT ?_); (conv => whnf)) | refine Ok.seq ?_ | (refine Ok.region tok ?_; conv => whnf) | (refine Ok.region_draw tok follows (by kernel_rfl) ?_; conv => whnf) | (refine Ok.cond ?_; conv => whnf) | refine Ok.block ?_ | (refine Ok.skip ?_; conv => whnf) | (refine Ok.exit ?_; conv => whnf) | (refine Ok.ret ?_; conv => whnf) | (refine num_in (by omega) (by omega) ?_; conv => whnf) | (refine ix _ (by assumption) ?_; conv => whnf) | (refine ixI (by omega) (by assumption) ?_; conv => whnf) | (refine ix_new _ (by omega) fun _ _ => ?_; conv => whnf) | (refine ixI_new (by omega) (by omega) fun _ _ => ?_; conv => whnf) | (refine ⟨_, by assumption, ?_⟩; conv => whnf) | (refine Alt2.l (And.intro (by first | omega | (simp; done) | (simp; omega)) ?_); conv => whnf) | (refine Alt2.r (And.intro (by first | omega | (simp; done) | (simp; omega)) ?_); conv => whnf) | (refine Ok.scope ?_) | (refine Ok.label ?_; conv => whnf) | (refine rd rfl (by assumption) ?_; conv => whnf) | (refine ⟨_, .inl ⟨rfl, rfl⟩, ?_⟩; conv => whnf) | (refine ⟨_, _, rfl, rfl, ?_⟩; conv => whnf) | (refine ⟨fun _ => ?_, fun _ => ?_⟩ <;> (conv => whnf) <;> (try (exfalso; omega))) | (refine And.intro (by first | omega | rfl | (simp; done) | (simp; omega)) ?_; conv => whnf) | (refine num_any ?_; conv => whnf) | (refine ⟨_, rfl, ?_⟩; conv => whnf) | fail)
          try refine ⟨J, J + n, rfl, (by show ((J : Nat) : Int) + (n : Int) = ((J + n : Nat) : Int); omega), by omega, by omega, m, hma, ?_⟩
          (try (conv => whnf)); repeat' (first | ((refine And.intro byteT ?_); (conv => whnf)) | refine Ok.seq ?_ | (refine Ok.region tok ?_; conv => whnf) | (refine Ok.region_draw tok follows (by kernel_rfl) ?_; conv => whnf) | (refine Ok.cond ?_; conv => whnf) | refine Ok.block ?_ | (refine Ok.skip ?_; conv => whnf) | (refine Ok.exit ?_; conv => whnf) | (refine Ok.ret ?_; conv => whnf) | (refine num_in (by omega) (by omega) ?_; conv => whnf) | (refine ix _ (by assumption) ?_; conv => whnf) | (refine ixI (by omega) (by assumption) ?_; conv => whnf) | (refine ix_new _ (by omega) fun _ _ => ?_; conv => whnf) | (refine ixI_new (by omega) (by omega) fun _ _ => ?_; conv => whnf) | (refine ⟨_, by assumption, ?_⟩; conv => whnf) | (refine Alt2.l (And.intro (by first | omega | (simp; done) | (simp; omega)) ?_); conv => whnf) | (refine Alt2.r (And.intro (by first | omega | (simp; done) | (simp; omega)) ?_); conv => whnf) | (refine Ok.scope ?_) | (refine Ok.label ?_; conv => whnf) | (refine rd rfl (by assumption) ?_; conv => whnf) | (refine ⟨_, .inl ⟨rfl, rfl⟩, ?_⟩; conv => whnf) | (refine ⟨_, _, rfl, rfl, ?_⟩; conv => whnf) | (refine ⟨fun _ => ?_, fun _ => ?_⟩ <;> (conv => whnf) <;> (try (exfalso; omega))) | (refine And.intro (by first | omega | rfl | (simp; done) | (simp; omega)) ?_; conv => whnf) | (refine num_any ?_; conv => whnf) | (refine ⟨_, rfl, ?_⟩; conv => whnf) | fail)
          refine Or.inr (Or.inr (Or.inl ?_)); (conv => whnf); refine ⟨_, _, Tryz.func110, rfl, Tryz.call110, ?_⟩; (conv => whnf)
          (try (conv => whnf)); repeat' (first | ((refine And.intro byteT ?_); (conv => whnf)) | refine Ok.seq ?_ | (refine Ok.region tok ?_; conv => whnf) | (refine Ok.region_draw tok follows (by kernel_rfl) ?_; conv => whnf) | (refine Ok.cond ?_; conv => whnf) | refine Ok.block ?_ | (refine Ok.skip ?_; conv => whnf) | (refine Ok.exit ?_; conv => whnf) | (refine Ok.ret ?_; conv => whnf) | (refine num_in (by omega) (by omega) ?_; conv => whnf) | (refine ix _ (by assumption) ?_; conv => whnf) | (refine ixI (by omega) (by assumption) ?_; conv => whnf) | (refine ix_new _ (by omega) fun _ _ => ?_; conv => whnf) | (refine ixI_new (by omega) (by omega) fun _ _ => ?_; conv => whnf) | (refine ⟨_, by assumption, ?_⟩; conv => whnf) | (refine Alt2.l (And.intro (by first | omega | (simp; done) | (simp; omega)) ?_); conv => whnf) | (refine Alt2.r (And.intro (by first | omega | (simp; done) | (simp; omega)) ?_); conv => whnf) | (refine Ok.scope ?_) | (refine Ok.label ?_; conv => whnf) | (refine rd rfl (by assumption) ?_; conv => whnf) | (refine ⟨_, .inl ⟨rfl, rfl⟩, ?_⟩; conv => whnf) | (refine ⟨_, _, rfl, rfl, ?_⟩; conv => whnf) | (refine ⟨fun _ => ?_, fun _ => ?_⟩ <;> (conv => whnf) <;> (try (exfalso; omega))) | (refine And.intro (by first | omega | rfl | (simp; done) | (simp; omega)) ?_; conv => whnf) | (refine num_any ?_; conv => whnf) | (refine ⟨_, rfl, ?_⟩; conv => whnf) | fail)
          refine Or.inr (Or.inr (Or.inr (Or.inr ?_)))
          (conv => whnf)
          refine effW_used copyAt rfl ?_
          (conv => whnf)
          (try (conv => whnf)); repeat' (first | ((refine And.intro byteT ?_); (conv => whnf)) | refine Ok.seq ?_ | (refine Ok.region tok ?_; conv => whnf) | (refine Ok.region_draw tok follows (by kernel_rfl) ?_; conv => whnf) | (refine Ok.cond ?_; conv => whnf) | refine Ok.block ?_ | (refine Ok.skip ?_; conv => whnf) | (refine Ok.exit ?_; conv => whnf) | (refine Ok.ret ?_; conv => whnf) | (refine num_in (by omega) (by omega) ?_; conv => whnf) | (refine ix _ (by assumption) ?_; conv => whnf) | (refine ixI (by omega) (by assumption) ?_; conv => whnf) | (refine ix_new _ (by omega) fun _ _ => ?_; conv => whnf) | (refine ixI_new (by omega) (by omega) fun _ _ => ?_; conv => whnf) | (refine ⟨_, by assumption, ?_⟩; conv => whnf) | (refine Alt2.l (And.intro (by first | omega | (simp; done) | (simp; omega)) ?_); conv => whnf) | (refine Alt2.r (And.intro (by first | omega | (simp; done) | (simp; omega)) ?_); conv => whnf) | (refine Ok.scope ?_) | (refine Ok.label ?_; conv => whnf) | (refine rd rfl (by assumption) ?_; conv => whnf) | (refine ⟨_, .inl ⟨rfl, rfl⟩, ?_⟩; conv => whnf) | (refine ⟨_, _, rfl, rfl, ?_⟩; conv => whnf) | (refine ⟨fun _ => ?_, fun _ => ?_⟩ <;> (conv => whnf) <;> (try (exfalso; omega))) | (refine And.intro (by first | omega | rfl | (simp; done) | (simp; omega)) ?_; conv => whnf) | (refine num_any ?_; conv => whnf) | (refine ⟨_, rfl, ?_⟩; conv => whnf) | fail)
          refine ⟨j + 1, by omega, by omega, ?_⟩
          rw [hjn, hts, ← List.append_assoc, ← List.append_assoc, hF]
          (conv => whnf)
          simp [envCat, bcell]
        · have hje : j = x.t.less.length := by omega
          subst hje
          rw [List.take_length]
          (try (conv => whnf)); repeat' (first | refine Ok.seq ?_ | (refine Ok.region tok ?_; conv => whnf) | (refine Ok.region_draw tok follows (by kernel_rfl) ?_; conv => whnf) | (refine Ok.cond ?_; conv => whnf) | refine Ok.block ?_ | (refine Ok.skip ?_; conv => whnf) | (refine Ok.exit ?_; conv => whnf) | (refine Ok.ret ?_; conv => whnf) | (refine num_in (by omega) (by omega) ?_; conv => whnf) | (refine ix _ (by assumption) ?_; conv => whnf) | (refine ixI (by omega) (by assumption) ?_; conv => whnf) | (refine ix_new _ (by omega) fun _ _ => ?_; conv => whnf) | (refine ixI_new (by omega) (by omega) fun _ _ => ?_; conv => whnf) | (refine ⟨_, by assumption, ?_⟩; conv => whnf) | (refine Alt2.l (And.intro (by first | omega | (simp; done) | (simp; omega)) ?_); conv => whnf) | (refine Alt2.r (And.intro (by first | omega | (simp; done) | (simp; omega)) ?_); conv => whnf) | (refine Ok.scope ?_) | (refine Ok.label ?_; conv => whnf) | (refine rd rfl (by assumption) ?_; conv => whnf) | (refine ⟨_, .inl ⟨rfl, rfl⟩, ?_⟩; conv => whnf) | (refine ⟨_, _, rfl, rfl, ?_⟩; conv => whnf) | (refine ⟨fun _ => ?_, fun _ => ?_⟩ <;> (conv => whnf) <;> (try (exfalso; omega))) | (refine And.intro (by first | omega | rfl | (simp; done) | (simp; omega)) ?_; conv => whnf) | (refine num_any ?_; conv => whnf) | (refine ⟨_, rfl, ?_⟩; conv => whnf) | fail)
          refine ⟨i + 1, by omega, by omega, ?_⟩
          rw [hstep]
          unfold ttxt
          rw [← List.append_assoc]
          (conv => whnf)
          rfl
    · have hie : i = l.length := by omega
      subst hie
      rw [List.take_of_length_le (by simp)] at hsl hsm ⊢
      have hbl : bcl l.length = .bp 1 0 := by
        have := List.length_pos_iff.2 hl0
        cases hh : l.length with
        | zero => omega
        | succ k => rfl
      rw [hbl]
      (conv => whnf)
      have htne : sepT (l.map TR.t) ≠ [] := by
        obtain ⟨x, hx⟩ : ∃ x, l[l.length - 1]? = some x := ⟨_, List.getElem?_eq_getElem (by have := List.length_pos_iff.2 hl0; omega)⟩
        have hxt : (l.map TR.t)[l.length - 1]? = some x.t := by simp [hx]
        have h1 := sepT_step hxt
        rw [show l.length - 1 + 1 = l.length by have := List.length_pos_iff.2 hl0; omega, List.take_of_length_le (by simp)] at h1
        rw [h1]
        intro e
        have h2 := (List.append_eq_nil_iff.1 (List.append_eq_nil_iff.1 e).2).1
        have h3 := (hok.wide x (List.mem_of_getElem? hx)).1
        rw [h2] at h3
        simp at h3
        omega
      (try (conv => whnf)); repeat' (first | refine Ok.seq ?_ | (refine Ok.region tok ?_; conv => whnf) | (refine Ok.region_draw tok follows (by kernel_rfl) ?_; conv => whnf) | (refine Ok.cond ?_; conv => whnf) | refine Ok.block ?_ | (refine Ok.skip ?_; conv => whnf) | (refine Ok.exit ?_; conv => whnf) | (refine Ok.ret ?_; conv => whnf) | (refine num_in (by omega) (by omega) ?_; conv => whnf) | (refine ix _ (by assumption) ?_; conv => whnf) | (refine ixI (by omega) (by assumption) ?_; conv => whnf) | (refine ix_new _ (by omega) fun _ _ => ?_; conv => whnf) | (refine ixI_new (by omega) (by omega) fun _ _ => ?_; conv => whnf) | (refine ⟨_, by assumption, ?_⟩; conv => whnf) | (refine Alt2.l (And.intro (by first | omega | (simp; done) | (simp; omega)) ?_); conv => whnf) | (refine Alt2.r (And.intro (by first | omega | (simp; done) | (simp; omega)) ?_); conv => whnf) | (refine Ok.scope ?_) | (refine Ok.label ?_; conv => whnf) | (refine rd rfl (by assumption) ?_; conv => whnf) | (refine ⟨_, .inl ⟨rfl, rfl⟩, ?_⟩; conv => whnf) | (refine ⟨_, _, rfl, rfl, ?_⟩; conv => whnf) | (refine ⟨fun _ => ?_, fun _ => ?_⟩ <;> (conv => whnf) <;> (try (exfalso; omega))) | (refine And.intro (by first | omega | rfl | (simp; done) | (simp; omega)) ?_; conv => whnf) | (refine num_any ?_; conv => whnf) | (refine ⟨_, rfl, ?_⟩; conv => whnf) | fail)
      refine Or.inr (Or.inr (Or.inr (Or.inr ?_)))
      (conv => whnf)
      refine effW_of_effK (effK_string strAt rfl rfl rfl (by rw [hsm]; exact Nat.le_refl _) (take_all bcell _) htne ?_)
      (conv => whnf)
      (try (conv => whnf)); repeat' (first | refine Ok.seq ?_ | (refine Ok.region tok ?_; conv => whnf) | (refine Ok.region_draw tok follows (by kernel_rfl) ?_; conv => whnf) | (refine Ok.cond ?_; conv => whnf) | refine Ok.block ?_ | (refine Ok.skip ?_; conv => whnf) | (refine Ok.exit ?_; conv => whnf) | (refine Ok.ret ?_; conv => whnf) | (refine num_in (by omega) (by omega) ?_; conv => whnf) | (refine ix _ (by assumption) ?_; conv => whnf) | (refine ixI (by omega) (by assumption) ?_; conv => whnf) | (refine ix_new _ (by omega) fun _ _ => ?_; conv => whnf) | (refine ixI_new (by omega) (by omega) fun _ _ => ?_; conv => whnf) | (refine ⟨_, by assumption, ?_⟩; conv => whnf) | (refine Alt2.l (And.intro (by first | omega | (simp; done) | (simp; omega)) ?_); conv => whnf) | (refine Alt2.r (And.intro (by first | omega | (simp; done) | (simp; omega)) ?_); conv => whnf) | (refine Ok.scope ?_) | (refine Ok.label ?_; conv => whnf) | (refine rd rfl (by assumption) ?_; conv => whnf) | (refine ⟨_, .inl ⟨rfl, rfl⟩, ?_⟩; conv => whnf) | (refine ⟨_, _, rfl, rfl, ?_⟩; conv => whnf) | (refine ⟨fun _ => ?_, fun _ => ?_⟩ <;> (conv => whnf) <;> (try (exfalso; omega))) | (refine And.intro (by first | omega | rfl | (simp; done) | (simp; omega)) ?_; conv => whnf) | (refine num_any ?_; conv => whnf) | (refine ⟨_, rfl, ?_⟩; conv => whnf) | fail)
      refine Or.inl ?_; (conv => whnf)
      unfold textS
      rw [if_neg hne]
      rfl
end Go.Proofs.YtaiondckookpiaaGreatDoor
