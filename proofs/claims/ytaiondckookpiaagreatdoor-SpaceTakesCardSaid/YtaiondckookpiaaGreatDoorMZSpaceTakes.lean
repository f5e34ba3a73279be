/- The walks of this law's own functions. -/
import Derived.Test.YtaiondckookpiaaGreatDoorMH
import Derived.Test.YtaiondckookpiaaGreatDoorMC
set_option linter.unusedVariables false
set_option linter.unusedSimpArgs false
/- Join, by the program and by the document. -/
namespace Go.Proofs.YtaiondckookpiaaGreatDoor
open Go Go.Vx
def bndO (n : Int) (l : List Term) : Int × Int × List Term := if szT l ≤ 128 then (0, n, l) else (3, 0, [])
def fitP (n m : Int) : Prop := n = m ∧ 0 < n
open Classical in
noncomputable def joinO (n m : Int) (ts us : List Term) : Int × Int × List Term := if fitP n m then bndO n (formT (ts ++ us)) else (11, 0, [])
theorem fits2_at (n m : Int) : FSpec Tryz.prog T 62 [.i .i64 n, .i .i64 m] (fun r _ => r = .b (fitP n m)) := by
  refine FSpec.of_ok tok Tryz.func62 rfl Tryz.call62 (by simp) ?_
  (try (conv => whnf)); repeat' (first | refine Ok.seq ?_ | refine OkL.cons ?_ | (refine Ok.region tok ?_; conv => whnf) | (refine Ok.region_draw tok follows (by kernel_rfl) ?_; conv => whnf) | (refine Ok.cond ?_; conv => whnf) | refine Ok.block ?_ | (refine Ok.skip ?_; conv => whnf) | (refine Ok.exit ?_; conv => whnf) | (refine Ok.ret ?_; conv => whnf) | (refine num_in (by omega) (by omega) ?_; conv => whnf) | (refine ix _ (by assumption) ?_; conv => whnf) | (refine ixI (by omega) (by assumption) ?_; conv => whnf) | (refine ix_new _ (by omega) fun _ _ => ?_; conv => whnf) | (refine ixI_new (by omega) (by omega) fun _ _ => ?_; conv => whnf) | (refine ⟨_, by assumption, ?_⟩; conv => whnf) | (refine Alt2.l (And.intro (by first | omega | (simp; done) | (simp; omega)) ?_); conv => whnf) | (refine Alt2.r (And.intro (by first | omega | (simp; done) | (simp; omega)) ?_); conv => whnf) | (refine Ok.scope ?_) | (refine Ok.label ?_; conv => whnf) | (refine rd rfl (by assumption) ?_; conv => whnf) | (refine ⟨_, .inl ⟨rfl, rfl⟩, ?_⟩; conv => whnf) | (refine ⟨_, _, rfl, rfl, ?_⟩; conv => whnf) | (refine ⟨fun _ => ?_, fun _ => ?_⟩ <;> (conv => whnf) <;> (try (exfalso; omega))) | (refine And.intro (by first | omega | rfl | (simp; done) | (simp; omega)) ?_; conv => whnf) | (refine num_any ?_; conv => whnf) | (refine ⟨_, rfl, ?_⟩; conv => whnf) | fail)
  · rename_i h
    refine Or.inl ?_; (conv => whnf)
    exact congrArg D.b (propext ⟨fun h2 => ⟨h, h2⟩, fun h2 => h2.2⟩)
  · rename_i h
    refine Or.inl ?_; (conv => whnf)
    show D.b False = _
    exact congrArg D.b (propext ⟨fun h2 => h2.elim, fun h2 => h h2.1⟩)
theorem rfit_at (n m : Int) (d d2 : D) (hd : ∃ e r m, d = .lst e r m) (hd2 : ∃ e r m, d2 = .lst e r m) : FSpec Tryz.prog T 66 [.agg [.i .i64 n, d], .agg [.i .i64 m, d2]] (fun r _ => r = .b (fitP n m)) := by
  obtain ⟨_, _, _, rfl⟩ := hd
  obtain ⟨_, _, _, rfl⟩ := hd2
  refine FSpec.of_ok tok Tryz.func66 rfl Tryz.call66 (by simp) ?_
  (try (conv => whnf)); repeat' (first | refine Ok.seq ?_ | refine OkL.cons ?_ | (refine Ok.region tok ?_; conv => whnf) | (refine Ok.region_draw tok follows (by kernel_rfl) ?_; conv => whnf) | (refine Ok.cond ?_; conv => whnf) | refine Ok.block ?_ | (refine Ok.skip ?_; conv => whnf) | (refine Ok.exit ?_; conv => whnf) | (refine Ok.ret ?_; conv => whnf) | (refine num_in (by omega) (by omega) ?_; conv => whnf) | (refine ix _ (by assumption) ?_; conv => whnf) | (refine ixI (by omega) (by assumption) ?_; conv => whnf) | (refine ix_new _ (by omega) fun _ _ => ?_; conv => whnf) | (refine ixI_new (by omega) (by omega) fun _ _ => ?_; conv => whnf) | (refine ⟨_, by assumption, ?_⟩; conv => whnf) | (refine Alt2.l (And.intro (by first | omega | (simp; done) | (simp; omega)) ?_); conv => whnf) | (refine Alt2.r (And.intro (by first | omega | (simp; done) | (simp; omega)) ?_); conv => whnf) | (refine Ok.scope ?_) | (refine Ok.label ?_; conv => whnf) | (refine rd rfl (by assumption) ?_; conv => whnf) | (refine ⟨_, .inl ⟨rfl, rfl⟩, ?_⟩; conv => whnf) | (refine ⟨_, _, rfl, rfl, ?_⟩; conv => whnf) | (refine ⟨fun _ => ?_, fun _ => ?_⟩ <;> (conv => whnf) <;> (try (exfalso; omega))) | (refine And.intro (by first | omega | rfl | (simp; done) | (simp; omega)) ?_; conv => whnf) | (refine num_any ?_; conv => whnf) | (refine ⟨_, rfl, ?_⟩; conv => whnf) | fail)
  · rename_i h
    refine Or.inl ?_; (conv => whnf)
    exact congrArg D.b (propext ⟨fun h2 => ⟨h2, h⟩, fun h2 => h2.1⟩)
  · rename_i h
    refine Or.inl ?_; (conv => whnf)
    show D.b False = _
    exact congrArg D.b (propext ⟨fun h2 => h2.elim, fun h2 => h h2.2⟩)
theorem bndO_fine {n : Int} {l : List Term} (h0 : 0 ≤ n) (h1 : n ≤ 256) (hg : ∀ t ∈ l, GoodT n.toNat t) : Fine (bndO n (formT l)).2.1 (bndO n (formT l)).2.2 := by
  unfold bndO
  split
  · rename_i h; exact .form h0 h1 hg h
  · exact .nil (by decide) (by decide)
theorem joinO_fine {n m : Int} {ts us : List Term} (hf : Fine n ts) (hg : Fine m us) : Fine (joinO n m ts us).2.1 (joinO n m ts us).2.2 := by
  unfold joinO
  split
  · rename_i h
    obtain ⟨rfl, h0⟩ := h
    exact bndO_fine hf.n0 hf.n1 fun t ht => (List.mem_append.1 ht).elim (hf.good t) (hg.good t)
  · exact .nil (by decide) (by decide)
theorem bndO_le {n : Int} {l : List Term} (h : szT l ≤ 128) : bndO n l = (0, n, l) := if_pos h
theorem bndO_gt {n : Int} {l : List Term} (h : 128 < szT l) : bndO n l = (3, 0, []) := if_neg (by omega)
theorem joinO_fit {n m : Int} {ts us : List Term} (h : fitP n m) : joinO n m ts us = bndO n (formT (ts ++ us)) := if_pos h
theorem joinO_not {n m : Int} {ts us : List Term} (h : ¬ fitP n m) : joinO n m ts us = (11, 0, []) := if_neg h
theorem formT_len (l : List Term) : (formT l).length ≤ l.length := by
  unfold formT
  rw [(srt_perm aheadT _).length_eq]
  exact grG_len covT l
theorem form_len {ks : List TR} {l : List Term} {k : Nat} (e : ks.map TR.t = formT l) (h : l.length ≤ k) : ks.length ≤ k := by
  have := congrArg List.length e
  rw [List.length_map] at this
  rw [this]
  exact Nat.le_trans (formT_len l) h
theorem DOut.form {n : Int} {l : List Term} {ks : List TR} {rm : List (List D)} (e : ks.map TR.t = formT l) (h : szT (ks.map TR.t) ≤ 128) : DOut (bndO n (formT l)) (.tup [.agg [.i .i64 n, .lst 120 (ks.map drow) rm], .i .i64 0]) [] := by
  rw [bndO_le (by rw [← e]; exact h)]
  exact ⟨rfl, _, rfl, ks, rm, rfl, e⟩
theorem DOut.many {n : Int} {l : List Term} {ks : List TR} (e : ks.map TR.t = formT l) (h : 128 < szT (ks.map TR.t)) : DOut (bndO n (formT l)) (.tup [.agg [.i .i64 0, .lst 120 [] []], .i .i64 3]) [] := by
  rw [bndO_gt (by rw [← e]; exact h)]
  exact ⟨rfl, _, rfl, .nil 0⟩
set_option maxHeartbeats 4000000 in
theorem rjoin_at {n m : Int} {ts us : List Term} (hf : Fine n ts) (hg : Fine m us) (ks ks2 : List TR) (rm rm2 : List (List D)) (h1 : ks.map TR.t = ts) (h2 : ks2.map TR.t = us) :
    FSpec Tryz.prog T 19 [.agg [.i .i64 n, .lst 120 (ks.map drow) rm], .agg [.i .i64 m, .lst 120 (ks2.map drow) rm2]] (DOut (joinO n m ts us)) := by
  have hfit := rfit_at n m (.lst 120 (ks.map drow) rm) (.lst 120 (ks2.map drow) rm2) ⟨_, _, _, rfl⟩ ⟨_, _, _, rfl⟩
  have hl1 := hf.len
  have hl2 := hg.len
  rw [← h1, List.length_map] at hl1
  rw [← h2, List.length_map] at hl2
  refine FSpec.of_ok tok Tryz.func19 rfl Tryz.call19 (by simp) ?_
  have htk : List.take (List.map drow ks ++ List.map drow ks2).length (List.map drow ks ++ List.map drow ks2) = (ks ++ ks2).map drow := by rw [List.take_of_length_le (Nat.le_refl _), List.map_append]
  have hmem : ∀ x ∈ ks ++ ks2, x.t.less.length ≤ 1048576 := fun x hx => (List.mem_append.1 hx).elim (hf.mless h1 x) (hg.mless h2 x)
  by_cases hfp : fitP n m
  · have hnm := hfp.1
    subst hnm
    have hrn : ∀ x ∈ ks ++ ks2, RN2 x ∧ x.t.Ok n.toNat := fun x hx => (List.mem_append.1 hx).elim (hf.rn h1 x) (hg.rn h2 x)
    have hts : (ks ++ ks2).map TR.t = ts ++ us := by rw [List.map_append, h1, h2]
    rw [joinO_fit hfp, ← hts]
    have hln : ((ks ++ ks2).map TR.t).length ≤ 1048576 := by simp; omega
    (try (conv => whnf)); repeat' (first | refine Ok.seq ?_ | refine OkL.cons ?_ | (refine Ok.region tok ?_; conv => whnf) | (refine Ok.region_draw tok follows (by kernel_rfl) ?_; conv => whnf) | (refine Ok.cond ?_; conv => whnf) | refine Ok.block ?_ | (refine Ok.skip ?_; conv => whnf) | (refine Ok.exit ?_; conv => whnf) | (refine Ok.ret ?_; conv => whnf) | (refine num_in (by omega) (by omega) ?_; conv => whnf) | (refine ix _ (by assumption) ?_; conv => whnf) | (refine ixI (by omega) (by assumption) ?_; conv => whnf) | (refine ix_new _ (by omega) fun _ _ => ?_; conv => whnf) | (refine ixI_new (by omega) (by omega) fun _ _ => ?_; conv => whnf) | (refine ⟨_, by assumption, ?_⟩; conv => whnf) | (refine Or.inl ?_; (conv => whnf); (repeat (refine And.intro (by first | omega | (simp; done) | (simp; omega)) ?_; (conv => whnf))); refine ⟨_, hfit, rfl, ?_⟩; conv => whnf) | (refine ⟨_, hfit, rfl, ?_⟩; conv => whnf) | (refine Or.inr (Or.inl ?_); (conv => whnf); (repeat (refine And.intro (by first | omega | (simp; done) | (simp; omega)) ?_; (conv => whnf))); refine ⟨_, hfit, ?_⟩; rintro _ _ ⟨rfl, rfl⟩; conv => whnf) | (refine Or.inr (Or.inl ?_); (conv => whnf); (repeat (refine And.intro (by first | omega | (simp; done) | (simp; omega)) ?_; (conv => whnf))); refine ⟨_, rform_at n n.toNat (ks ++ ks2) (by simp; omega) hrn htk , ?_⟩; rintro _ _ ⟨ks3, rm3, rfl, rfl, hks3, hkm⟩ <;> (conv => whnf)) | (refine Or.inr (Or.inl ?_); (conv => whnf); (repeat (refine And.intro (by first | omega | (simp; done) | (simp; omega)) ?_; (conv => whnf))); refine ⟨_, rbound_at n ks3 (form_len hks3 hln) (fun x hx => hmem x (hkm x hx)) rfl , ?_⟩; rintro _ _ ⟨rfl, (⟨hb, rfl⟩ | ⟨hb, rfl⟩)⟩ <;> (conv => whnf)) | (refine Alt2.l (And.intro (by first | omega | (simp; done) | (simp; omega)) ?_); conv => whnf) | (refine Alt2.r (And.intro (by first | omega | (simp; done) | (simp; omega)) ?_); conv => whnf) | (refine Ok.scope ?_) | (refine Ok.label ?_; conv => whnf) | (refine rd rfl (by assumption) ?_; conv => whnf) | (refine ⟨_, .inl ⟨rfl, rfl⟩, ?_⟩; conv => whnf) | (refine ⟨_, _, rfl, rfl, ?_⟩; conv => whnf) | (refine ⟨fun _ => ?_, fun _ => ?_⟩ <;> (conv => whnf) <;> (try (exfalso; omega))) | (refine And.intro (by first | omega | rfl | (simp; done) | (simp; omega)) ?_; conv => whnf) | (refine num_any ?_; conv => whnf) | (refine ⟨_, rfl, ?_⟩; conv => whnf) | fail)
    · exact absurd hfp (by assumption)
    · refine Or.inl ?_; (conv => whnf)
      exact DOut.form hks3 hb
    · refine Or.inl ?_; (conv => whnf)
      exact DOut.many hks3 hb
  · rw [joinO_not hfp]
    (try (conv => whnf)); repeat' (first | refine Ok.seq ?_ | refine OkL.cons ?_ | (refine Ok.region tok ?_; conv => whnf) | (refine Ok.region_draw tok follows (by kernel_rfl) ?_; conv => whnf) | (refine Ok.cond ?_; conv => whnf) | refine Ok.block ?_ | (refine Ok.skip ?_; conv => whnf) | (refine Ok.exit ?_; conv => whnf) | (refine Ok.ret ?_; conv => whnf) | (refine num_in (by omega) (by omega) ?_; conv => whnf) | (refine ix _ (by assumption) ?_; conv => whnf) | (refine ixI (by omega) (by assumption) ?_; conv => whnf) | (refine ix_new _ (by omega) fun _ _ => ?_; conv => whnf) | (refine ixI_new (by omega) (by omega) fun _ _ => ?_; conv => whnf) | (refine ⟨_, by assumption, ?_⟩; conv => whnf) | (refine Or.inl ?_; (conv => whnf); (repeat (refine And.intro (by first | omega | (simp; done) | (simp; omega)) ?_; (conv => whnf))); refine ⟨_, hfit, rfl, ?_⟩; conv => whnf) | (refine ⟨_, hfit, rfl, ?_⟩; conv => whnf) | (refine Or.inr (Or.inl ?_); (conv => whnf); (repeat (refine And.intro (by first | omega | (simp; done) | (simp; omega)) ?_; (conv => whnf))); refine ⟨_, hfit, ?_⟩; rintro _ _ ⟨rfl, rfl⟩; conv => whnf) | (refine Alt2.l (And.intro (by first | omega | (simp; done) | (simp; omega)) ?_); conv => whnf) | (refine Alt2.r (And.intro (by first | omega | (simp; done) | (simp; omega)) ?_); conv => whnf) | (refine Ok.scope ?_) | (refine Ok.label ?_; conv => whnf) | (refine rd rfl (by assumption) ?_; conv => whnf) | (refine ⟨_, .inl ⟨rfl, rfl⟩, ?_⟩; conv => whnf) | (refine ⟨_, _, rfl, rfl, ?_⟩; conv => whnf) | (refine ⟨fun _ => ?_, fun _ => ?_⟩ <;> (conv => whnf) <;> (try (exfalso; omega))) | (refine And.intro (by first | omega | rfl | (simp; done) | (simp; omega)) ?_; conv => whnf) | (refine num_any ?_; conv => whnf) | (refine ⟨_, rfl, ?_⟩; conv => whnf) | fail)
    · refine Or.inl ?_; (conv => whnf)
      exact ⟨rfl, _, rfl, DSp.nil 0⟩
    · rename_i h
      exact absurd hfp h
set_option maxRecDepth 100000 in
set_option maxHeartbeats 4000000 in
theorem join_at {n m : Int} {ts us : List Term} (hf : Fine n ts) (hg : Fine m us) (ks ks2 : List TR) (rm rm2 : List (List D)) (h1 : ks.map TR.t = ts) (h2 : ks2.map TR.t = us) :
    FSpec Tryz.prog T 18 [.agg [.i .i64 n, .lst 112 (ks.map trow) rm], .agg [.i .i64 m, .lst 112 (ks2.map trow) rm2]] (POut (joinO n m ts us)) := by
  have hfit := fits2_at n m
  have hl1 := hf.len
  have hl2 := hg.len
  rw [← h1, List.length_map] at hl1
  rw [← h2, List.length_map] at hl2
  have htk : List.take (List.map trow ks ++ List.map trow ks2).length (List.map trow ks ++ List.map trow ks2) = (ks ++ ks2).map trow := by rw [List.take_of_length_le (Nat.le_refl _), List.map_append]
  have hk1 : (List.map trow ks).length = ks.length := by simp
  have hk2 : (List.map trow ks2).length = ks2.length := by simp
  refine FSpec.of_deferK 3 tok Tryz.func18 rfl Tryz.call18 (by simp) def_join (zd1 := [.i .i64 0, .nilS]) (zd2 := [.i .i64 3]) rfl rfl (by simp [Value.oneCell']) (by simp [Value.oneCell']) rfl ?_
  by_cases hfp : fitP n m
  · have hnm := hfp.1
    subst hnm
    have hto : ∀ x ∈ ks ++ ks2, TO n.toNat x := fun x hx => (List.mem_append.1 hx).elim (hf.to h1 x) (hg.to h2 x)
    have hts : (ks ++ ks2).map TR.t = ts ++ us := by rw [List.map_append, h1, h2]
    rw [joinO_fit hfp, ← hts]
    have hln : (ks ++ ks2).length ≤ 1048576 := by simp; omega
    (try (conv => whnf)); repeat' (first | refine Ok.seq ?_ | refine OkL.cons ?_ | (refine Ok.region tok ?_; conv => whnf) | (refine Ok.region_plan (id := 6) tok follows [(4, 5, []), (1, 6, []), (4, 6, [5]), (5, 6, []), (1, 7, []), (4, 7, []), (5, 7, []), (6, 7, []), (1, 8, []), (4, 8, []), (5, 8, []), (6, 8, []), (7, 8, [])] [.q 0, .q 1, .q 2, .q 3, .q 4, .l 5, .l 6, .l 7, .l 8] (by kernel_rfl) ?_; conv => whnf) | (refine Ok.region_draw tok follows (by kernel_rfl) ?_; conv => whnf) | (refine Ok.cond ?_; conv => whnf) | refine Ok.block ?_ | (refine Ok.skip ?_; conv => whnf) | (refine Ok.exit ?_; conv => whnf) | (refine Ok.ret ?_; conv => whnf) | (refine num_in (by omega) (by omega) ?_; conv => whnf) | (refine ix _ (by assumption) ?_; conv => whnf) | (refine ixI (by omega) (by assumption) ?_; conv => whnf) | (refine ix_new _ (by omega) fun _ _ => ?_; conv => whnf) | (refine ixI_new (by omega) (by omega) fun _ _ => ?_; conv => whnf) | (refine ⟨_, by assumption, ?_⟩; conv => whnf) | (refine Or.inl ?_; (conv => whnf); (repeat (refine And.intro (by first | omega | (simp; done) | (simp; omega)) ?_; (conv => whnf))); refine ⟨_, hfit, rfl, ?_⟩; conv => whnf) | (refine ⟨_, hfit, rfl, ?_⟩; conv => whnf) | (refine Or.inr (Or.inl ?_); (conv => whnf); (repeat (refine And.intro (by first | omega | (simp; done) | (simp; omega)) ?_; (conv => whnf))); refine ⟨_, hfit, ?_⟩; rintro _ _ ⟨rfl, rfl⟩; conv => whnf) | (refine Alt2.l (And.intro (by first | omega | (simp; done) | (simp; omega)) ?_); conv => whnf) | (refine Alt2.r (And.intro (by first | omega | (simp; done) | (simp; omega)) ?_); conv => whnf) | (refine Ok.scope ?_) | (refine Ok.label ?_; conv => whnf) | (refine rd rfl (by assumption) ?_; conv => whnf) | (refine ⟨_, .inl ⟨rfl, rfl⟩, ?_⟩; conv => whnf) | (refine ⟨_, _, rfl, rfl, ?_⟩; conv => whnf) | (refine ⟨fun _ => ?_, fun _ => ?_⟩ <;> (conv => whnf) <;> (try (exfalso; omega))) | (refine And.intro (by first | omega | rfl | (simp; done) | (simp; omega)) ?_; conv => whnf) | (refine num_any ?_; conv => whnf) | (refine ⟨_, rfl, ?_⟩; conv => whnf) | fail)
    · exact absurd hfp (by assumption)
    refine OkL.nil ?_
    (conv => whnf)
    refine ⟨2, 3, rfl, rfl, by decide, by decide, by decide, rfl, ?_⟩
    by_cases hsz : szT (formT ((ks ++ ks2).map TR.t)) ≤ 128
    · rw [bndO_le hsz]
      (try (conv => whnf)); repeat' (first | refine Ok.seq ?_ | refine OkL.cons ?_ | (refine Ok.region tok ?_; conv => whnf) | (refine Ok.region_plan (id := 6) tok follows [(4, 5, []), (1, 6, []), (4, 6, [5]), (5, 6, []), (1, 7, []), (4, 7, []), (5, 7, []), (6, 7, []), (1, 8, []), (4, 8, []), (5, 8, []), (6, 8, []), (7, 8, [])] [.q 0, .q 1, .q 2, .q 3, .q 4, .l 5, .l 6, .l 7, .l 8] (by kernel_rfl) ?_; conv => whnf) | (refine Ok.region_draw tok follows (by kernel_rfl) ?_; conv => whnf) | (refine Ok.cond ?_; conv => whnf) | refine Ok.block ?_ | (refine Ok.skip ?_; conv => whnf) | (refine Ok.exit ?_; conv => whnf) | (refine Ok.ret ?_; conv => whnf) | (refine num_in (by omega) (by omega) ?_; conv => whnf) | (refine ix _ (by assumption) ?_; conv => whnf) | (refine ixI (by omega) (by assumption) ?_; conv => whnf) | (refine ix_new _ (by omega) fun _ _ => ?_; conv => whnf) | (refine ixI_new (by omega) (by omega) fun _ _ => ?_; conv => whnf) | (refine ⟨_, by assumption, ?_⟩; conv => whnf) | (refine Or.inr (Or.inl ?_); (conv => whnf); (repeat (refine And.intro (by first | omega | (simp; done) | (simp; omega)) ?_; (conv => whnf))); refine ⟨_, form_at n n.toNat (ks ++ ks2) hln hto htk hsz , ?_⟩; rintro _ _ ⟨ks3, rm3, rfl, rfl, hks3, hkm⟩ <;> (conv => whnf)) | (refine Alt2.l (And.intro (by first | omega | (simp; done) | (simp; omega)) ?_); conv => whnf) | (refine Alt2.r (And.intro (by first | omega | (simp; done) | (simp; omega)) ?_); conv => whnf) | (refine Ok.scope ?_) | (refine Ok.label ?_; conv => whnf) | (refine rd rfl (by assumption) ?_; conv => whnf) | (refine ⟨_, .inl ⟨rfl, rfl⟩, ?_⟩; conv => whnf) | (refine ⟨_, _, rfl, rfl, ?_⟩; conv => whnf) | (refine ⟨fun _ => ?_, fun _ => ?_⟩ <;> (conv => whnf) <;> (try (exfalso; omega))) | (refine And.intro (by first | omega | rfl | (simp; done) | (simp; omega)) ?_; conv => whnf) | (refine num_any ?_; conv => whnf) | (refine ⟨_, rfl, ?_⟩; conv => whnf) | fail)
      refine Or.inl ?_; (conv => whnf)
      exact ⟨rfl, _, rfl, ks3, rm3, rfl, hks3⟩
    · rw [bndO_gt (by omega)]
      (try (conv => whnf)); repeat' (first | refine Ok.seq ?_ | refine OkL.cons ?_ | (refine Ok.region tok ?_; conv => whnf) | (refine Ok.cond ?_; conv => whnf) | refine Ok.block ?_ | (refine Ok.skip ?_; conv => whnf) | (refine Ok.exit ?_; conv => whnf) | (refine Ok.ret ?_; conv => whnf) | (refine num_in (by omega) (by omega) ?_; conv => whnf) | (refine ix _ (by assumption) ?_; conv => whnf) | (refine ixI (by omega) (by assumption) ?_; conv => whnf) | (refine ix_new _ (by omega) fun _ _ => ?_; conv => whnf) | (refine ixI_new (by omega) (by omega) fun _ _ => ?_; conv => whnf) | (refine ⟨_, by assumption, ?_⟩; conv => whnf) | (refine Alt2.l (And.intro (by first | omega | (simp; done) | (simp; omega)) ?_); conv => whnf) | (refine Alt2.r (And.intro (by first | omega | (simp; done) | (simp; omega)) ?_); conv => whnf) | (refine Ok.scope ?_) | (refine Ok.label ?_; conv => whnf) | (refine rd rfl (by assumption) ?_; conv => whnf) | (refine ⟨_, .inl ⟨rfl, rfl⟩, ?_⟩; conv => whnf) | (refine ⟨_, _, rfl, rfl, ?_⟩; conv => whnf) | (refine ⟨fun _ => ?_, fun _ => ?_⟩ <;> (conv => whnf) <;> (try (exfalso; omega))) | (refine And.intro (by first | omega | rfl | (simp; done) | (simp; omega)) ?_; conv => whnf) | (refine num_any ?_; conv => whnf) | (refine ⟨_, rfl, ?_⟩; conv => whnf) | fail)
      refine Ok.region_planpanS tok follows [(4, 5, [])] [.q 0, .q 1, .q 2, .q 3, .q 4, .l 5] 6 (by kernel_rfl) ?_; (conv => whnf)
      (try (conv => whnf)); repeat' (first | refine Ok.seq ?_ | refine OkL.cons ?_ | (refine Ok.region tok ?_; conv => whnf) | (refine Ok.cond ?_; conv => whnf) | refine Ok.block ?_ | (refine Ok.skip ?_; conv => whnf) | (refine Ok.exit ?_; conv => whnf) | (refine Ok.ret ?_; conv => whnf) | (refine num_in (by omega) (by omega) ?_; conv => whnf) | (refine ix _ (by assumption) ?_; conv => whnf) | (refine ixI (by omega) (by assumption) ?_; conv => whnf) | (refine ix_new _ (by omega) fun _ _ => ?_; conv => whnf) | (refine ixI_new (by omega) (by omega) fun _ _ => ?_; conv => whnf) | (refine ⟨_, by assumption, ?_⟩; conv => whnf) | (refine Alt2.l (And.intro (by first | omega | (simp; done) | (simp; omega)) ?_); conv => whnf) | (refine Alt2.r (And.intro (by first | omega | (simp; done) | (simp; omega)) ?_); conv => whnf) | (refine Ok.scope ?_) | (refine Ok.label ?_; conv => whnf) | (refine rd rfl (by assumption) ?_; conv => whnf) | (refine ⟨_, .inl ⟨rfl, rfl⟩, ?_⟩; conv => whnf) | (refine ⟨_, _, rfl, rfl, ?_⟩; conv => whnf) | (refine ⟨fun _ => ?_, fun _ => ?_⟩ <;> (conv => whnf) <;> (try (exfalso; omega))) | (refine And.intro (by first | omega | rfl | (simp; done) | (simp; omega)) ?_; conv => whnf) | (refine num_any ?_; conv => whnf) | (refine ⟨_, rfl, ?_⟩; conv => whnf) | fail)
      refine ⟨_, form_pan n n.toNat (ks ++ ks2) hln hto htk (by omega), ?_⟩
      (conv => whnf)
      refine ⟨rfl, 2, 3, _, _, rfl, rfl, rfl, rfl, rfl, rfl, by decide, rfl, ?_⟩
      (conv => whnf)
      refine Or.inl ?_; (conv => whnf)
      exact ⟨rfl, _, rfl, PSp.nil 0⟩
  · rw [joinO_not hfp]
    (try (conv => whnf)); repeat' (first | refine Ok.seq ?_ | refine OkL.cons ?_ | (refine Ok.region tok ?_; conv => whnf) | (refine Ok.region_plan (id := 6) tok follows [(4, 5, []), (1, 6, []), (4, 6, [5]), (5, 6, []), (1, 7, []), (4, 7, []), (5, 7, []), (6, 7, []), (1, 8, []), (4, 8, []), (5, 8, []), (6, 8, []), (7, 8, [])] [.q 0, .q 1, .q 2, .q 3, .q 4, .l 5, .l 6, .l 7, .l 8] (by kernel_rfl) ?_; conv => whnf) | (refine Ok.region_draw tok follows (by kernel_rfl) ?_; conv => whnf) | (refine Ok.cond ?_; conv => whnf) | refine Ok.block ?_ | (refine Ok.skip ?_; conv => whnf) | (refine Ok.exit ?_; conv => whnf) | (refine Ok.ret ?_; conv => whnf) | (refine num_in (by omega) (by omega) ?_; conv => whnf) | (refine ix _ (by assumption) ?_; conv => whnf) | (refine ixI (by omega) (by assumption) ?_; conv => whnf) | (refine ix_new _ (by omega) fun _ _ => ?_; conv => whnf) | (refine ixI_new (by omega) (by omega) fun _ _ => ?_; conv => whnf) | (refine ⟨_, by assumption, ?_⟩; conv => whnf) | (refine Or.inl ?_; (conv => whnf); (repeat (refine And.intro (by first | omega | (simp; done) | (simp; omega)) ?_; (conv => whnf))); refine ⟨_, hfit, rfl, ?_⟩; conv => whnf) | (refine ⟨_, hfit, rfl, ?_⟩; conv => whnf) | (refine Or.inr (Or.inl ?_); (conv => whnf); (repeat (refine And.intro (by first | omega | (simp; done) | (simp; omega)) ?_; (conv => whnf))); refine ⟨_, hfit, ?_⟩; rintro _ _ ⟨rfl, rfl⟩; conv => whnf) | (refine Alt2.l (And.intro (by first | omega | (simp; done) | (simp; omega)) ?_); conv => whnf) | (refine Alt2.r (And.intro (by first | omega | (simp; done) | (simp; omega)) ?_); conv => whnf) | (refine Ok.scope ?_) | (refine Ok.label ?_; conv => whnf) | (refine rd rfl (by assumption) ?_; conv => whnf) | (refine ⟨_, .inl ⟨rfl, rfl⟩, ?_⟩; conv => whnf) | (refine ⟨_, _, rfl, rfl, ?_⟩; conv => whnf) | (refine ⟨fun _ => ?_, fun _ => ?_⟩ <;> (conv => whnf) <;> (try (exfalso; omega))) | (refine And.intro (by first | omega | rfl | (simp; done) | (simp; omega)) ?_; conv => whnf) | (refine num_any ?_; conv => whnf) | (refine ⟨_, rfl, ?_⟩; conv => whnf) | fail)
    · refine Or.inl ?_; (conv => whnf)
      exact ⟨rfl, _, rfl, PSp.nil 0⟩
    · rename_i h
      exact absurd hfp h
set_option maxRecDepth 100000 in
set_option maxHeartbeats 4000000 in
theorem joins_at (n : Int) (a : Str) (m : Int) (b : Str) : FSpec Tryz.prog T 3 [.i .i64 n, .s a, .i .i64 m, .s b] (fun r _ => r = .b True) := by
  have hf := parO_fine n a
  have hg := parO_fine m b
  have r1 := read_at n a
  have r2 := read_at m b
  unfold ReadO at r1 r2
  generalize parO n a = o1 at *
  generalize parO m b = o2 at *
  obtain ⟨e1, n1, ts⟩ := o1
  obtain ⟨e2, n2, us⟩ := o2
  dsimp only at hf hg r1 r2
  have hj := joinO_fine hf hg
  refine FSpec.of_ok tok Tryz.func3 rfl Tryz.call3 (by simp) ?_
  (try (conv => whnf)); repeat' (first | refine Ok.seq ?_ | refine OkL.cons ?_ | (refine Ok.region tok ?_; conv => whnf) | (refine Ok.region_draw tok follows (by kernel_rfl) ?_; conv => whnf) | (refine Ok.cond ?_; conv => whnf) | refine Ok.block ?_ | (refine Ok.skip ?_; conv => whnf) | (refine Ok.exit ?_; conv => whnf) | (refine Ok.ret ?_; conv => whnf) | (refine num_in (by omega) (by omega) ?_; conv => whnf) | (refine ix _ (by assumption) ?_; conv => whnf) | (refine ixI (by omega) (by assumption) ?_; conv => whnf) | (refine ix_new _ (by omega) fun _ _ => ?_; conv => whnf) | (refine ixI_new (by omega) (by omega) fun _ _ => ?_; conv => whnf) | (refine ⟨_, by assumption, ?_⟩; conv => whnf) | (refine Or.inl ?_; (conv => whnf); (repeat (refine And.intro (by first | omega | (simp; done) | (simp; omega)) ?_; (conv => whnf))); refine ⟨_, same_at hj ks3 kd3 rm3 rd3 h3 h3d, rfl, ?_⟩; conv => whnf) | (refine ⟨_, same_at hj ks3 kd3 rm3 rd3 h3 h3d, rfl, ?_⟩; conv => whnf) | (refine Or.inr (Or.inl ?_); (conv => whnf); (repeat (refine And.intro (by first | omega | (simp; done) | (simp; omega)) ?_; (conv => whnf))); refine ⟨_, same_at hj ks3 kd3 rm3 rd3 h3 h3d, ?_⟩; rintro _ _ ⟨rfl, rfl⟩; conv => whnf) | (refine Or.inr (Or.inl ?_); (conv => whnf); (repeat (refine And.intro (by first | omega | (simp; done) | (simp; omega)) ?_; (conv => whnf))); refine ⟨_, r1 , ?_⟩; rintro _ _ ⟨rfl, ks1, kd1, rm1, rd1, rfl, h1, h1d⟩ <;> (conv => whnf)) | (refine Or.inr (Or.inl ?_); (conv => whnf); (repeat (refine And.intro (by first | omega | (simp; done) | (simp; omega)) ?_; (conv => whnf))); refine ⟨_, r2 , ?_⟩; rintro _ _ ⟨rfl, ks2, kd2, rm2, rd2, rfl, h2, h2d⟩ <;> (conv => whnf)) | (refine Or.inr (Or.inl ?_); (conv => whnf); (repeat (refine And.intro (by first | omega | (simp; done) | (simp; omega)) ?_; (conv => whnf))); refine ⟨_, join_at hf hg ks1 ks2 rm1 rm2 h1 h2 , ?_⟩; rintro _ _ ⟨rfl, _, rfl, ks3, rm3, rfl, h3⟩ <;> (conv => whnf)) | (refine Or.inr (Or.inl ?_); (conv => whnf); (repeat (refine And.intro (by first | omega | (simp; done) | (simp; omega)) ?_; (conv => whnf))); refine ⟨_, rjoin_at hf hg kd1 kd2 rd1 rd2 h1d h2d , ?_⟩; rintro _ _ ⟨rfl, _, rfl, kd3, rd3, rfl, h3d⟩ <;> (conv => whnf)) | (refine Alt2.l (And.intro (by first | omega | (simp; done) | (simp; omega)) ?_); conv => whnf) | (refine Alt2.r (And.intro (by first | omega | (simp; done) | (simp; omega)) ?_); conv => whnf) | (refine Ok.scope ?_) | (refine Ok.label ?_; conv => whnf) | (refine rd rfl (by assumption) ?_; conv => whnf) | (refine ⟨_, .inl ⟨rfl, rfl⟩, ?_⟩; conv => whnf) | (refine ⟨_, _, rfl, rfl, ?_⟩; conv => whnf) | (refine ⟨fun _ => ?_, fun _ => ?_⟩ <;> (conv => whnf) <;> (try (exfalso; omega))) | (refine And.intro (by first | omega | rfl | (simp; done) | (simp; omega)) ?_; conv => whnf) | (refine num_any ?_; conv => whnf) | (refine ⟨_, rfl, ?_⟩; conv => whnf) | fail)
  · exact absurd trivial (by assumption)
  · exact absurd trivial (by assumption)
  · refine Or.inl ?_; (conv => whnf)
    rfl
end Go.Proofs.YtaiondckookpiaaGreatDoor
/- Meet, by the program and by the document. -/
namespace Go.Proofs.YtaiondckookpiaaGreatDoor
open Go Go.Vx
noncomputable def meet2 (a b : Term) : Option Term := (meetT a.p b.p).bind fun p => termT p (a.less ++ b.less)
noncomputable def meets (ts us : List Term) : List Term := ts.flatMap fun a => us.filterMap (meet2 a)
open Classical in
noncomputable def meetO (n m : Int) (ts us : List Term) : Int × Int × List Term := if fitP n m then (if ts.length * us.length ≤ 2048 then bndO n (formT (meets ts us)) else (3, 0, [])) else (11, 0, [])
theorem GoodT.len {n : Nat} {t : Term} (h : GoodT n t) : t.p.length = n := h.ok.p
theorem meet2_good {n : Nat} {a b t : Term} (ha : GoodT n a) (hb : GoodT n b) (h : meet2 a b = some t) : GoodT n t := by
  unfold meet2 at h
  obtain ⟨p, hp, ht⟩ := Option.bind_eq_some_iff.1 h
  have hm := meetT_ct hp ha.p.1 hb.p.1
  exact (termT_good ⟨hm.1, fun e => hm.2.2 (List.eq_nil_of_length_eq_zero (by rw [← hm.2.1, e]; rfl))⟩ (by rw [hm.2.1, ha.len]) (fun m hm => (List.mem_append.1 hm).elim (fun h => (ha.less m h).1) (fun h => (hb.less m h).1)) ht).1
theorem meets_good {n : Nat} {ts us : List Term} (h1 : ∀ t ∈ ts, GoodT n t) (h2 : ∀ t ∈ us, GoodT n t) : ∀ t ∈ meets ts us, GoodT n t := by
  intro t ht
  obtain ⟨a, ha, h⟩ := List.mem_flatMap.1 ht
  obtain ⟨b, hb, h⟩ := List.mem_filterMap.1 h
  exact meet2_good (h1 a ha) (h2 b hb) h
theorem meet2_less {a b t : Term} (h : meet2 a b = some t) : t.less.length ≤ a.less.length + b.less.length := by
  unfold meet2 at h
  obtain ⟨p, hp, ht⟩ := Option.bind_eq_some_iff.1 h
  have := termT_sz ht
  rw [List.length_append] at this
  exact this
theorem meets_less {ts us : List Term} {k : Nat} (h1 : ∀ t ∈ ts, t.less.length ≤ k) (h2 : ∀ t ∈ us, t.less.length ≤ k) : ∀ t ∈ meets ts us, t.less.length ≤ k + k := by
  intro t ht
  obtain ⟨a, ha, h⟩ := List.mem_flatMap.1 ht
  obtain ⟨b, hb, h⟩ := List.mem_filterMap.1 h
  have := meet2_less h
  have := h1 a ha
  have := h2 b hb
  omega
theorem meets_snoc {ts us : List Term} {i : Nat} {a : Term} (h : ts[i]? = some a) : meets (ts.take (i + 1)) us = meets (ts.take i) us ++ us.filterMap (meet2 a) := by
  unfold meets
  rw [take_snoc h, List.flatMap_append]
  simp
theorem fm_some {α β : Type} {f : α → Option β} {l : List α} {i : Nat} {a : α} {b : β} (h : l[i]? = some a) (hb : f a = some b) : (l.take (i + 1)).filterMap f = (l.take i).filterMap f ++ [b] := by
  rw [take_snoc h]; simp [hb]
theorem fm_none {α β : Type} {f : α → Option β} {l : List α} {i : Nat} {a : α} (h : l[i]? = some a) (hb : f a = none) : (l.take (i + 1)).filterMap f = (l.take i).filterMap f := by
  rw [take_snoc h]; simp [hb]
theorem tr_get {ks : List TR} {ts : List Term} {i : Nat} {x : TR} (e : ks.map TR.t = ts) (h : ks[i]? = some x) : ts[i]? = some x.t := by rw [← e, List.getElem?_map, h]; rfl
theorem meetO_fit {n m : Int} {ts us : List Term} (h : fitP n m) (h2 : ts.length * us.length ≤ 2048) : meetO n m ts us = bndO n (formT (meets ts us)) := by unfold meetO; rw [if_pos h, if_pos h2]
theorem meetO_raw {n m : Int} {ts us : List Term} (h : fitP n m) (h2 : ¬ ts.length * us.length ≤ 2048) : meetO n m ts us = (3, 0, []) := by unfold meetO; rw [if_pos h, if_neg h2]
theorem meetO_not {n m : Int} {ts us : List Term} (h : ¬ fitP n m) : meetO n m ts us = (11, 0, []) := if_neg h
theorem meetO_fine {n m : Int} {ts us : List Term} (hf : Fine n ts) (hg : Fine m us) : Fine (meetO n m ts us).2.1 (meetO n m ts us).2.2 := by
  by_cases h : fitP n m
  · by_cases h2 : ts.length * us.length ≤ 2048
    · rw [meetO_fit h h2]
      obtain ⟨rfl, h0⟩ := h
      exact bndO_fine hf.n0 hf.n1 (meets_good hf.good hg.good)
    · rw [meetO_raw h h2]; exact .nil (by decide) (by decide)
  · rw [meetO_not h]; exact .nil (by decide) (by decide)
theorem raw_at {n : Int} (h : n ≤ 2048) : FSpec Tryz.prog T 70 [.i .i64 n] (fun d _ => d = .tup []) := by
  refine FSpec.of_ok tok Tryz.func70 rfl Tryz.call70 (by simp) ?_
  (try (conv => whnf)); repeat' (first | refine Ok.seq ?_ | refine OkL.cons ?_ | (refine Ok.region tok ?_; conv => whnf) | (refine Ok.region_draw tok follows (by kernel_rfl) ?_; conv => whnf) | (refine Ok.cond ?_; conv => whnf) | refine Ok.block ?_ | (refine Ok.skip ?_; conv => whnf) | (refine Ok.exit ?_; conv => whnf) | (refine Ok.ret ?_; conv => whnf) | (refine num_in (by omega) (by omega) ?_; conv => whnf) | (refine ix _ (by assumption) ?_; conv => whnf) | (refine ixI (by omega) (by assumption) ?_; conv => whnf) | (refine ix_new _ (by omega) fun _ _ => ?_; conv => whnf) | (refine ixI_new (by omega) (by omega) fun _ _ => ?_; conv => whnf) | (refine ⟨_, by assumption, ?_⟩; conv => whnf) | (refine Alt2.l (And.intro (by first | omega | (simp; done) | (simp; omega)) ?_); conv => whnf) | (refine Alt2.r (And.intro (by first | omega | (simp; done) | (simp; omega)) ?_); conv => whnf) | (refine Ok.scope ?_) | (refine Ok.label ?_; conv => whnf) | (refine rd rfl (by assumption) ?_; conv => whnf) | (refine ⟨_, .inl ⟨rfl, rfl⟩, ?_⟩; conv => whnf) | (refine ⟨_, _, rfl, rfl, ?_⟩; conv => whnf) | (refine ⟨fun _ => ?_, fun _ => ?_⟩ <;> (conv => whnf) <;> (try (exfalso; omega))) | (refine And.intro (by first | omega | rfl | (simp; done) | (simp; omega)) ?_; conv => whnf) | (refine num_any ?_; conv => whnf) | (refine ⟨_, rfl, ?_⟩; conv => whnf) | fail)
  refine Or.inl ?_; (conv => whnf)
  rfl
theorem raw_pan {n : Int} (h : 2048 < n) : PSpec Tryz.prog T 70 [.i .i64 n] passedV := by
  refine PSpec.of_ok Tryz.func70 rfl Tryz.call70 (by simp) ?_
  refine Ok.seq ?_
  (refine Ok.region tok ?_; conv => whnf)
  (conv => whnf)
  refine Ok.cond ?_
  (conv => whnf)
  refine ⟨fun _ => ?_, fun h2 => absurd h h2⟩
  refine Ok.region_throw (fun w => by kernel_rfl) (by kernel_rfl) (by decide) (by decide) ?_
  rfl
theorem both_at (l m : List Str) {r1 r2 rm1 rm2 : List (List D)} (h1 : r1 = l.map srow) (h2 : r2 = m.map srow) (hl : l.length ≤ 100000) (hm : m.length ≤ 100000) : FSpec Tryz.prog T 75 [.lst 9 r1 rm1, .lst 9 r2 rm2] (fun d rows => ∃ rm, d = .lst 9 ((l ++ m).map srow) rm ∧ rows = []) := by
  subst h1 h2
  have hl1 : (l.map srow).length = l.length := by simp
  have hl2 : (m.map srow).length = m.length := by simp
  refine FSpec.of_ok tok Tryz.func75 rfl Tryz.call75 (by simp) ?_
  (try (conv => whnf)); repeat' (first | refine Ok.seq ?_ | refine OkL.cons ?_ | (refine Ok.region tok ?_; conv => whnf) | (refine Ok.region_draw tok follows (by kernel_rfl) ?_; conv => whnf) | (refine Ok.cond ?_; conv => whnf) | refine Ok.block ?_ | (refine Ok.skip ?_; conv => whnf) | (refine Ok.exit ?_; conv => whnf) | (refine Ok.ret ?_; conv => whnf) | (refine num_in (by omega) (by omega) ?_; conv => whnf) | (refine ix _ (by assumption) ?_; conv => whnf) | (refine ixI (by omega) (by assumption) ?_; conv => whnf) | (refine ix_new _ (by omega) fun _ _ => ?_; conv => whnf) | (refine ixI_new (by omega) (by omega) fun _ _ => ?_; conv => whnf) | (refine ⟨_, by assumption, ?_⟩; conv => whnf) | (refine Alt2.l (And.intro (by first | omega | (simp; done) | (simp; omega)) ?_); conv => whnf) | (refine Alt2.r (And.intro (by first | omega | (simp; done) | (simp; omega)) ?_); conv => whnf) | (refine Ok.scope ?_) | (refine Ok.label ?_; conv => whnf) | (refine rd rfl (by assumption) ?_; conv => whnf) | (refine ⟨_, .inl ⟨rfl, rfl⟩, ?_⟩; conv => whnf) | (refine ⟨_, _, rfl, rfl, ?_⟩; conv => whnf) | (refine ⟨fun _ => ?_, fun _ => ?_⟩ <;> (conv => whnf) <;> (try (exfalso; omega))) | (refine And.intro (by first | omega | rfl | (simp; done) | (simp; omega)) ?_; conv => whnf) | (refine num_any ?_; conv => whnf) | (refine ⟨_, rfl, ?_⟩; conv => whnf) | fail)
  refine Or.inl ?_; (conv => whnf)
  refine ⟨[], ?_, rfl⟩
  rw [List.take_of_length_le (Nat.le_refl _), List.drop_of_length_le (Nat.le_refl _), List.map_append]
  rfl
set_option maxRecDepth 100000 in
set_option maxHeartbeats 8000000 in
theorem rmeet2_at {n m : Int} {ts us : List Term} (hf : Fine n ts) (hg : Fine m us) (ks ks2 : List TR) (rm rm2 : List (List D)) (h1 : ks.map TR.t = ts) (h2 : ks2.map TR.t = us) :
    FSpec Tryz.prog T 22 [.agg [.i .i64 n, .lst 120 (ks.map drow) rm], .agg [.i .i64 m, .lst 120 (ks2.map drow) rm2]] (DOut (meetO n m ts us)) := by
  have hfit := rfit_at n m (.lst 120 (ks.map drow) rm) (.lst 120 (ks2.map drow) rm2) ⟨_, _, _, rfl⟩ ⟨_, _, _, rfl⟩
  have hl1 : ks.length = ts.length := by rw [← h1, List.length_map]
  have hl2 : ks2.length = us.length := by rw [← h2, List.length_map]
  have hm1 : (ks.map drow).length = ts.length := by simp [hl1]
  have hm2 : (ks2.map drow).length = us.length := by simp [hl2]
  have hk1 := hf.len
  have hk2 := hg.len
  refine FSpec.of_ok tok Tryz.func22 rfl Tryz.call22 (by simp) ?_
  by_cases hfp : fitP n m
  · have hnm := hfp.1
    subst hnm
    have hmul : ((List.map drow ks).length : Int) * ((List.map drow ks2).length : Int) = ((ts.length * us.length : Nat) : Int) := by rw [hm1, hm2]; simp
    have hmb : ts.length * us.length ≤ 128 * 128 := Nat.mul_le_mul hk1 hk2
    by_cases hraw : ts.length * us.length ≤ 2048
    · rw [meetO_fit hfp hraw]
      (try (conv => whnf)); repeat' (first | refine Ok.seq ?_ | refine OkL.cons ?_ | (refine Ok.region tok ?_; conv => whnf) | (refine Ok.region_plan (id := 12) tok follows [(1, 12, [5, 4, 3]), (5, 12, []), (7, 12, [11, 10, 9]), (11, 12, [])] [.q 0, .q 1, .q 2, .q 3, .q 4, .q 5, .q 6, .q 7, .q 8, .q 9, .q 10, .q 11, .l 12, .q 13, .q 14, .q 15, .q 16, .q 17] (by kernel_rfl) ?_; conv => whnf) | (refine Ok.region_tree (id := 14) tok follows [(2, 13, [6, 5, 4]), (6, 13, []), (8, 13, [12, 11, 10]), (12, 13, []), (2, 14, [13, 6, 5, 4]), (6, 14, [13]), (8, 14, [13, 12, 11, 10]), (12, 14, [13]), (13, 14, []), (2, 19, []), (6, 19, []), (8, 19, []), (12, 19, []), (13, 19, []), (14, 19, []), (18, 19, [])] (.q 0 (.q 1 (.q 2 (.q 3 (.q 4 (.q 5 (.q 6 (.q 7 (.q 8 (.q 9 (.q 10 (.q 11 (.q 12 (.alt 13 (.alt 14 (.q 15 (.q 16 (.q 17 (.l 18 (.l 19 (.q 20 .nil)))))) (.alt 18 (.l 14 (.q 15 (.q 16 (.q 17 (.l 19 (.q 20 .nil)))))) .nil)) (.alt 18 (.l 13 (.l 14 (.q 15 (.q 16 (.q 17 (.l 19 (.q 20 .nil))))))) .nil))))))))))))))) (by kernel_rfl) ?_; conv => whnf) | (refine ⟨_, (hmul).symm, ?_⟩; conv => whnf) | (refine Ok.region_draw tok follows (by kernel_rfl) ?_; conv => whnf) | (refine Ok.cond ?_; conv => whnf) | refine Ok.block ?_ | (refine Ok.skip ?_; conv => whnf) | (refine Ok.exit ?_; conv => whnf) | (refine Ok.ret ?_; conv => whnf) | (refine num_in (by omega) (by omega) ?_; conv => whnf) | (refine ix _ (by assumption) ?_; conv => whnf) | (refine ixI (by omega) (by assumption) ?_; conv => whnf) | (refine ix_new _ (by omega) fun _ _ => ?_; conv => whnf) | (refine ixI_new (by omega) (by omega) fun _ _ => ?_; conv => whnf) | (refine ⟨_, by assumption, ?_⟩; conv => whnf) | (refine Or.inl ?_; (conv => whnf); (repeat (refine And.intro (by first | omega | (simp; done) | (simp; omega)) ?_; (conv => whnf))); refine ⟨_, hfit, rfl, ?_⟩; conv => whnf) | (refine ⟨_, hfit, rfl, ?_⟩; conv => whnf) | (refine Or.inr (Or.inl ?_); (conv => whnf); (repeat (refine And.intro (by first | omega | (simp; done) | (simp; omega)) ?_; (conv => whnf))); refine ⟨_, hfit, ?_⟩; rintro _ _ ⟨rfl, rfl⟩; conv => whnf) | (refine Alt2.l (And.intro (by first | omega | (simp; done) | (simp; omega)) ?_); conv => whnf) | (refine Alt2.r (And.intro (by first | omega | (simp; done) | (simp; omega)) ?_); conv => whnf) | (refine Ok.scope ?_) | (refine Ok.label ?_; conv => whnf) | (refine rd rfl (by assumption) ?_; conv => whnf) | (refine ⟨_, .inl ⟨rfl, rfl⟩, ?_⟩; conv => whnf) | (refine ⟨_, _, rfl, rfl, ?_⟩; conv => whnf) | (refine ⟨fun _ => ?_, fun _ => ?_⟩ <;> (conv => whnf) <;> (try (exfalso; omega))) | (refine And.intro (by first | omega | rfl | (simp; done) | (simp; omega)) ?_; conv => whnf) | (refine num_any ?_; conv => whnf) | (refine ⟨_, rfl, ?_⟩; conv => whnf) | (exact True.intro) | (refine And.intro ?_ ?_ <;> (conv => whnf)) | fail)
      · exact absurd hfp (by assumption)
      refine Ok.ghost 6 120 rfl ?_
      (conv => whnf)
      refine Ok.loopU [2, 3, 4] [6, 7] 1 3 (fun (x : Nat × List TR) => [.own 0 x.2.length, .i .i64 (x.1 : Nat)]) (fun _ b => b) (fun (x : Nat × List TR) (_ : Vx.Rows) => [some (120, x.2.map drow)]) (fun (x : Nat × List TR) => x.1 ≤ ts.length ∧ x.2.map TR.t = meets (ts.take x.1) us ∧ x.2.length ≤ x.1 * us.length) (fun (x : Nat × List TR) => ts.length - x.1) ((0, [])) (⟨Nat.zero_le _, by simp [meets], by simp⟩) ?_; (conv => whnf); refine ⟨by ((conv => whnf); first | rfl | (simp [envCat, List.take_of_length_le, crow, trow, srow, drow]; done) | (simp [envCat, List.take_of_length_le, crow, trow, srow, drow]; rw [IntKind.wrap_i64]; omega)), ?_⟩
      rintro ⟨i, l⟩ ⟨hi, hl, hll⟩
      dsimp only at hi hl hll ⊢
      have hlm : (l.map drow).length = l.length := by simp
      have hib : i * us.length ≤ 128 * 128 := Nat.mul_le_mul (by omega) hk2
      (conv => whnf)
      by_cases hil : i < ts.length
      · obtain ⟨a, ha⟩ : ∃ a, ks[i]? = some a := ⟨_, List.getElem?_eq_getElem (by omega)⟩
        have haI : ks[((i : Nat) : Int).toNat]? = some a := ha
        have hat := tr_get h1 ha
        have hag := hf.good _ (List.mem_of_getElem? hat)
        have hal := hf.less (List.mem_of_getElem? hat)
        have hal2 : (a.t.less.map srow).length = a.t.less.length := by simp
        have hsn := meets_snoc (us := us) hat
        have hi1 : (i + 1) * us.length = i * us.length + us.length := by rw [Nat.add_mul, Nat.one_mul]
        (try (conv => whnf)); repeat' (first | refine Ok.seq ?_ | refine OkL.cons ?_ | (refine Ok.region tok ?_; conv => whnf) | (refine Ok.region_plan (id := 12) tok follows [(1, 12, [5, 4, 3]), (5, 12, []), (7, 12, [11, 10, 9]), (11, 12, [])] [.q 0, .q 1, .q 2, .q 3, .q 4, .q 5, .q 6, .q 7, .q 8, .q 9, .q 10, .q 11, .l 12, .q 13, .q 14, .q 15, .q 16, .q 17] (by kernel_rfl) ?_; conv => whnf) | (refine Ok.region_tree (id := 14) tok follows [(2, 13, [6, 5, 4]), (6, 13, []), (8, 13, [12, 11, 10]), (12, 13, []), (2, 14, [13, 6, 5, 4]), (6, 14, [13]), (8, 14, [13, 12, 11, 10]), (12, 14, [13]), (13, 14, []), (2, 19, []), (6, 19, []), (8, 19, []), (12, 19, []), (13, 19, []), (14, 19, []), (18, 19, [])] (.q 0 (.q 1 (.q 2 (.q 3 (.q 4 (.q 5 (.q 6 (.q 7 (.q 8 (.q 9 (.q 10 (.q 11 (.q 12 (.alt 13 (.alt 14 (.q 15 (.q 16 (.q 17 (.l 18 (.l 19 (.q 20 .nil)))))) (.alt 18 (.l 14 (.q 15 (.q 16 (.q 17 (.l 19 (.q 20 .nil)))))) .nil)) (.alt 18 (.l 13 (.l 14 (.q 15 (.q 16 (.q 17 (.l 19 (.q 20 .nil))))))) .nil))))))))))))))) (by kernel_rfl) ?_; conv => whnf) | (refine Ok.region_draw tok follows (by kernel_rfl) ?_; conv => whnf) | (refine Ok.cond ?_; conv => whnf) | refine Ok.block ?_ | (refine Ok.skip ?_; conv => whnf) | (refine Ok.exit ?_; conv => whnf) | (refine Ok.ret ?_; conv => whnf) | (refine num_in (by omega) (by omega) ?_; conv => whnf) | (refine ix _ (by assumption) ?_; conv => whnf) | (refine ixI (by omega) (by assumption) ?_; conv => whnf) | (refine ix_new _ (by omega) fun _ _ => ?_; conv => whnf) | (refine ixI_new (by omega) (by omega) fun _ _ => ?_; conv => whnf) | (refine ⟨_, by assumption, ?_⟩; conv => whnf) | (refine Alt2.l (And.intro (by first | omega | (simp; done) | (simp; omega)) ?_); conv => whnf) | (refine Alt2.r (And.intro (by first | omega | (simp; done) | (simp; omega)) ?_); conv => whnf) | (refine Ok.scope ?_) | (refine Ok.label ?_; conv => whnf) | (refine rd rfl (by assumption) ?_; conv => whnf) | (refine ⟨_, .inl ⟨rfl, rfl⟩, ?_⟩; conv => whnf) | (refine ⟨_, _, rfl, rfl, ?_⟩; conv => whnf) | (refine ⟨fun _ => ?_, fun _ => ?_⟩ <;> (conv => whnf) <;> (try (exfalso; omega))) | (refine And.intro (by first | omega | rfl | (simp; done) | (simp; omega)) ?_; conv => whnf) | (refine num_any ?_; conv => whnf) | (refine ⟨_, rfl, ?_⟩; conv => whnf) | (exact True.intro) | (refine And.intro ?_ ?_ <;> (conv => whnf)) | fail)
        refine Ok.loopU [2, 3, 4, 7] [6, 8] 1 3 (fun (x : Nat × List TR) => [.own 0 x.2.length, .i .i64 (x.1 : Nat)]) (fun _ b => b) (fun (x : Nat × List TR) (_ : Vx.Rows) => [some (120, x.2.map drow)]) (fun (x : Nat × List TR) => x.1 ≤ us.length ∧ x.2.map TR.t = meets (ts.take i) us ++ (us.take x.1).filterMap (meet2 a.t) ∧ x.2.length ≤ i * us.length + x.1) (fun (x : Nat × List TR) => us.length - x.1) ((0, l)) (⟨Nat.zero_le _, by simpa using hl, by simpa using hll⟩) ?_; (conv => whnf); refine ⟨by ((conv => whnf); first | rfl | (simp [envCat, List.take_of_length_le, crow, trow, srow, drow]; done) | (simp [envCat, List.take_of_length_le, crow, trow, srow, drow]; rw [IntKind.wrap_i64]; omega)), ?_⟩
        rintro ⟨j, l2⟩ ⟨hj, hl2e, hl2l⟩
        dsimp only at hj hl2e hl2l ⊢
        have hl2m : (l2.map drow).length = l2.length := by simp
        (conv => whnf)
        by_cases hjl : j < us.length
        · obtain ⟨b, hb⟩ : ∃ b, ks2[j]? = some b := ⟨_, List.getElem?_eq_getElem (by omega)⟩
          have hbI : ks2[((j : Nat) : Int).toNat]? = some b := hb
          have hbt := tr_get h2 hb
          have hbg := hg.good _ (List.mem_of_getElem? hbt)
          have hbl := hg.less (List.mem_of_getElem? hbt)
          have hbl2 : (b.t.less.map srow).length = b.t.less.length := by simp
          have hal3 := hag.p.1.len
          have hsp := rmeet_at a.t.p b.t.p (by omega)
          cases hm : meetT a.t.p b.t.p with
          | none =>
            have hno : meet2 a.t b.t = none := by unfold meet2; rw [hm]; rfl
            rw [hm] at hsp
            (try (conv => whnf)); repeat' (first | refine Ok.seq ?_ | refine OkL.cons ?_ | (refine Ok.region tok ?_; conv => whnf) | (refine Ok.region_plan (id := 12) tok follows [(1, 12, [5, 4, 3]), (5, 12, []), (7, 12, [11, 10, 9]), (11, 12, [])] [.q 0, .q 1, .q 2, .q 3, .q 4, .q 5, .q 6, .q 7, .q 8, .q 9, .q 10, .q 11, .l 12, .q 13, .q 14, .q 15, .q 16, .q 17] (by kernel_rfl) ?_; conv => whnf) | (refine Ok.region_tree (id := 14) tok follows [(2, 13, [6, 5, 4]), (6, 13, []), (8, 13, [12, 11, 10]), (12, 13, []), (2, 14, [13, 6, 5, 4]), (6, 14, [13]), (8, 14, [13, 12, 11, 10]), (12, 14, [13]), (13, 14, []), (2, 19, []), (6, 19, []), (8, 19, []), (12, 19, []), (13, 19, []), (14, 19, []), (18, 19, [])] (.q 0 (.q 1 (.q 2 (.q 3 (.q 4 (.q 5 (.q 6 (.q 7 (.q 8 (.q 9 (.q 10 (.q 11 (.q 12 (.alt 13 (.alt 14 (.q 15 (.q 16 (.q 17 (.l 18 (.l 19 (.q 20 .nil)))))) (.alt 18 (.l 14 (.q 15 (.q 16 (.q 17 (.l 19 (.q 20 .nil)))))) .nil)) (.alt 18 (.l 13 (.l 14 (.q 15 (.q 16 (.q 17 (.l 19 (.q 20 .nil))))))) .nil))))))))))))))) (by kernel_rfl) ?_; conv => whnf) | (refine Ok.region_draw tok follows (by kernel_rfl) ?_; conv => whnf) | (refine Ok.cond ?_; conv => whnf) | refine Ok.block ?_ | (refine Ok.skip ?_; conv => whnf) | (refine Ok.exit ?_; conv => whnf) | (refine Ok.ret ?_; conv => whnf) | (refine num_in (by omega) (by omega) ?_; conv => whnf) | (refine ix _ (by assumption) ?_; conv => whnf) | (refine ixI (by omega) (by assumption) ?_; conv => whnf) | (refine ix_new _ (by omega) fun _ _ => ?_; conv => whnf) | (refine ixI_new (by omega) (by omega) fun _ _ => ?_; conv => whnf) | (refine ⟨_, by assumption, ?_⟩; conv => whnf) | (refine Or.inr (Or.inl ?_); (conv => whnf); (repeat (refine And.intro (by first | omega | (simp; done) | (simp; omega)) ?_; (conv => whnf))); refine ⟨_, hsp, ?_⟩; rintro _ _ ⟨rfl, rfl⟩ <;> (conv => whnf)) | (refine Alt2.l (And.intro (by first | omega | (simp; done) | (simp; omega)) ?_); conv => whnf) | (refine Alt2.r (And.intro (by first | omega | (simp; done) | (simp; omega)) ?_); conv => whnf) | (refine Ok.scope ?_) | (refine Ok.label ?_; conv => whnf) | (refine rd rfl (by assumption) ?_; conv => whnf) | (refine ⟨_, .inl ⟨rfl, rfl⟩, ?_⟩; conv => whnf) | (refine ⟨_, _, rfl, rfl, ?_⟩; conv => whnf) | (refine ⟨fun _ => ?_, fun _ => ?_⟩ <;> (conv => whnf) <;> (try (exfalso; omega))) | (refine And.intro (by first | omega | rfl | (simp; done) | (simp; omega)) ?_; conv => whnf) | (refine num_any ?_; conv => whnf) | (refine ⟨_, rfl, ?_⟩; conv => whnf) | (exact True.intro) | (refine And.intro ?_ ?_ <;> (conv => whnf)) | fail)
            · refine ⟨(j + 1, l2), by dsimp only; omega, ⟨by dsimp only; omega, by dsimp only; rw [fm_none hbt hno]; exact hl2e, by dsimp only; omega⟩, ?_⟩
              (conv => whnf)
              rfl
            all_goals (rename_i h; exact absurd (fun q => by cases q) h)
          | some p =>
            rw [hm] at hsp
            have hmc := meetT_ct hm hag.p.1 hbg.p.1
            have hpn : p ≠ [] := fun e => hmc.2.2 (List.eq_nil_of_length_eq_zero (by rw [← hmc.2.1, e]; rfl))
            have hwide : ∀ x ∈ a.t.less ++ b.t.less, x.length ≤ 256 := fun x hx => (List.mem_append.1 hx).elim (fun h => (hag.less x h).1.len) (fun h => (hbg.less x h).1.len)
            have hbo := both_at a.t.less b.t.less (rm1 := a.room) (rm2 := b.room) rfl rfl (by omega) (by omega)
            have hm2 : meet2 a.t b.t = termT p (a.t.less ++ b.t.less) := by unfold meet2; rw [hm]; rfl
            (try (conv => whnf)); repeat' (first | refine Ok.seq ?_ | refine OkL.cons ?_ | (refine Ok.region tok ?_; conv => whnf) | (refine Ok.region_plan (id := 12) tok follows [(1, 12, [5, 4, 3]), (5, 12, []), (7, 12, [11, 10, 9]), (11, 12, [])] [.q 0, .q 1, .q 2, .q 3, .q 4, .q 5, .q 6, .q 7, .q 8, .q 9, .q 10, .q 11, .l 12, .q 13, .q 14, .q 15, .q 16, .q 17] (by kernel_rfl) ?_; conv => whnf) | (refine Ok.region_tree (id := 14) tok follows [(2, 13, [6, 5, 4]), (6, 13, []), (8, 13, [12, 11, 10]), (12, 13, []), (2, 14, [13, 6, 5, 4]), (6, 14, [13]), (8, 14, [13, 12, 11, 10]), (12, 14, [13]), (13, 14, []), (2, 19, []), (6, 19, []), (8, 19, []), (12, 19, []), (13, 19, []), (14, 19, []), (18, 19, [])] (.q 0 (.q 1 (.q 2 (.q 3 (.q 4 (.q 5 (.q 6 (.q 7 (.q 8 (.q 9 (.q 10 (.q 11 (.q 12 (.alt 13 (.alt 14 (.q 15 (.q 16 (.q 17 (.l 18 (.l 19 (.q 20 .nil)))))) (.alt 18 (.l 14 (.q 15 (.q 16 (.q 17 (.l 19 (.q 20 .nil)))))) .nil)) (.alt 18 (.l 13 (.l 14 (.q 15 (.q 16 (.q 17 (.l 19 (.q 20 .nil))))))) .nil))))))))))))))) (by kernel_rfl) ?_; conv => whnf) | (refine Ok.region_draw tok follows (by kernel_rfl) ?_; conv => whnf) | (refine Ok.cond ?_; conv => whnf) | refine Ok.block ?_ | (refine Ok.skip ?_; conv => whnf) | (refine Ok.exit ?_; conv => whnf) | (refine Ok.ret ?_; conv => whnf) | (refine num_in (by omega) (by omega) ?_; conv => whnf) | (refine ix _ (by assumption) ?_; conv => whnf) | (refine ixI (by omega) (by assumption) ?_; conv => whnf) | (refine ix_new _ (by omega) fun _ _ => ?_; conv => whnf) | (refine ixI_new (by omega) (by omega) fun _ _ => ?_; conv => whnf) | (refine ⟨_, by assumption, ?_⟩; conv => whnf) | (refine Or.inr (Or.inl ?_); (conv => whnf); (repeat (refine And.intro (by first | omega | (simp; done) | (simp; omega)) ?_; (conv => whnf))); refine ⟨_, hsp, ?_⟩; rintro _ _ ⟨rfl, rfl⟩ <;> (conv => whnf)) | (refine Or.inr (Or.inl ?_); (conv => whnf); (repeat (refine And.intro (by first | omega | (simp; done) | (simp; omega)) ?_; (conv => whnf))); refine ⟨_, hbo , ?_⟩; rintro _ _ ⟨rm3, rfl, rfl⟩ <;> (conv => whnf)) | (refine Or.inr (Or.inl ?_); (conv => whnf); (repeat (refine And.intro (by first | omega | (simp; done) | (simp; omega)) ?_; (conv => whnf))); refine ⟨_, rterm_at p (a.t.less ++ b.t.less) hpn hmc.1.len (by simp; omega) hwide rfl , ?_⟩; rintro _ _ ⟨rfl, (⟨ht, rfl⟩ | ⟨t, rm4, ht, rfl⟩)⟩ <;> (conv => whnf)) | (refine Alt2.l (And.intro (by first | omega | (simp; done) | (simp; omega)) ?_); conv => whnf) | (refine Alt2.r (And.intro (by first | omega | (simp; done) | (simp; omega)) ?_); conv => whnf) | (refine Ok.scope ?_) | (refine Ok.label ?_; conv => whnf) | (refine rd rfl (by assumption) ?_; conv => whnf) | (refine ⟨_, .inl ⟨rfl, rfl⟩, ?_⟩; conv => whnf) | (refine ⟨_, _, rfl, rfl, ?_⟩; conv => whnf) | (refine ⟨fun _ => ?_, fun _ => ?_⟩ <;> (conv => whnf) <;> (try (exfalso; omega))) | (refine And.intro (by first | omega | rfl | (simp; done) | (simp; omega)) ?_; conv => whnf) | (refine num_any ?_; conv => whnf) | (refine ⟨_, rfl, ?_⟩; conv => whnf) | (exact True.intro) | (refine And.intro ?_ ?_ <;> (conv => whnf)) | fail)
            all_goals first
              | (rename_i h; exact absurd rfl h)
              | (rename_i h; exact absurd trivial h)
              | (refine ⟨(j + 1, l2), by dsimp only; omega, ⟨by dsimp only; omega, by dsimp only; rw [fm_none hbt (hm2.trans ht)]; exact hl2e, by dsimp only; omega⟩, ?_⟩
                 (conv => whnf)
                 rfl)
              | (refine ⟨(j + 1, l2 ++ [⟨t, rm4⟩]), by dsimp only; omega, ⟨by dsimp only; omega, by dsimp only; rw [fm_some hbt (hm2.trans ht), List.map_append, hl2e, List.append_assoc]; rfl, by simp; omega⟩, ?_⟩
                 (conv => whnf)
                 simp [envCat])
        · have hje : j = us.length := by omega
          subst hje
          rw [List.take_length] at hl2e
          (try (conv => whnf)); repeat' (first | refine Ok.seq ?_ | refine OkL.cons ?_ | (refine Ok.region tok ?_; conv => whnf) | (refine Ok.region_plan (id := 12) tok follows [(1, 12, [5, 4, 3]), (5, 12, []), (7, 12, [11, 10, 9]), (11, 12, [])] [.q 0, .q 1, .q 2, .q 3, .q 4, .q 5, .q 6, .q 7, .q 8, .q 9, .q 10, .q 11, .l 12, .q 13, .q 14, .q 15, .q 16, .q 17] (by kernel_rfl) ?_; conv => whnf) | (refine Ok.region_tree (id := 14) tok follows [(2, 13, [6, 5, 4]), (6, 13, []), (8, 13, [12, 11, 10]), (12, 13, []), (2, 14, [13, 6, 5, 4]), (6, 14, [13]), (8, 14, [13, 12, 11, 10]), (12, 14, [13]), (13, 14, []), (2, 19, []), (6, 19, []), (8, 19, []), (12, 19, []), (13, 19, []), (14, 19, []), (18, 19, [])] (.q 0 (.q 1 (.q 2 (.q 3 (.q 4 (.q 5 (.q 6 (.q 7 (.q 8 (.q 9 (.q 10 (.q 11 (.q 12 (.alt 13 (.alt 14 (.q 15 (.q 16 (.q 17 (.l 18 (.l 19 (.q 20 .nil)))))) (.alt 18 (.l 14 (.q 15 (.q 16 (.q 17 (.l 19 (.q 20 .nil)))))) .nil)) (.alt 18 (.l 13 (.l 14 (.q 15 (.q 16 (.q 17 (.l 19 (.q 20 .nil))))))) .nil))))))))))))))) (by kernel_rfl) ?_; conv => whnf) | (refine Ok.region_draw tok follows (by kernel_rfl) ?_; conv => whnf) | (refine Ok.cond ?_; conv => whnf) | refine Ok.block ?_ | (refine Ok.skip ?_; conv => whnf) | (refine Ok.exit ?_; conv => whnf) | (refine Ok.ret ?_; conv => whnf) | (refine num_in (by omega) (by omega) ?_; conv => whnf) | (refine ix _ (by assumption) ?_; conv => whnf) | (refine ixI (by omega) (by assumption) ?_; conv => whnf) | (refine ix_new _ (by omega) fun _ _ => ?_; conv => whnf) | (refine ixI_new (by omega) (by omega) fun _ _ => ?_; conv => whnf) | (refine ⟨_, by assumption, ?_⟩; conv => whnf) | (refine Alt2.l (And.intro (by first | omega | (simp; done) | (simp; omega)) ?_); conv => whnf) | (refine Alt2.r (And.intro (by first | omega | (simp; done) | (simp; omega)) ?_); conv => whnf) | (refine Ok.scope ?_) | (refine Ok.label ?_; conv => whnf) | (refine rd rfl (by assumption) ?_; conv => whnf) | (refine ⟨_, .inl ⟨rfl, rfl⟩, ?_⟩; conv => whnf) | (refine ⟨_, _, rfl, rfl, ?_⟩; conv => whnf) | (refine ⟨fun _ => ?_, fun _ => ?_⟩ <;> (conv => whnf) <;> (try (exfalso; omega))) | (refine And.intro (by first | omega | rfl | (simp; done) | (simp; omega)) ?_; conv => whnf) | (refine num_any ?_; conv => whnf) | (refine ⟨_, rfl, ?_⟩; conv => whnf) | (exact True.intro) | (refine And.intro ?_ ?_ <;> (conv => whnf)) | fail)
          refine ⟨(i + 1, l2), by dsimp only; omega, ⟨by dsimp only; omega, by dsimp only; rw [hsn]; exact hl2e, by dsimp only; omega⟩, ?_⟩
          (conv => whnf)
          rfl
      · have hie : i = ts.length := by omega
        subst hie
        rw [List.take_length] at hl
        have hgood := meets_good hf.good hg.good
        have hlb := meets_less (fun t ht => hf.less ht) (fun t ht => hg.less ht)
        have hle : ∀ x ∈ l, x.t.less.length ≤ 1048576 := fun x hx => Nat.le_trans (hlb _ (mem_of_map hl hx)) (by decide)
        have hrn : ∀ x ∈ l, RN2 x ∧ x.t.Ok n.toNat := fun x hx => (hgood _ (mem_of_map hl hx)).rn (hle x hx)
        have htk : List.take l.length (l.map drow) = l.map drow := List.take_of_length_le (by simp)
        have hln : (l.map TR.t).length ≤ 1048576 := by simp; omega
        rw [← hl]
        (try (conv => whnf)); repeat' (first | refine Ok.seq ?_ | refine OkL.cons ?_ | (refine Ok.region tok ?_; conv => whnf) | (refine Ok.region_plan (id := 12) tok follows [(1, 12, [5, 4, 3]), (5, 12, []), (7, 12, [11, 10, 9]), (11, 12, [])] [.q 0, .q 1, .q 2, .q 3, .q 4, .q 5, .q 6, .q 7, .q 8, .q 9, .q 10, .q 11, .l 12, .q 13, .q 14, .q 15, .q 16, .q 17] (by kernel_rfl) ?_; conv => whnf) | (refine Ok.region_tree (id := 14) tok follows [(2, 13, [6, 5, 4]), (6, 13, []), (8, 13, [12, 11, 10]), (12, 13, []), (2, 14, [13, 6, 5, 4]), (6, 14, [13]), (8, 14, [13, 12, 11, 10]), (12, 14, [13]), (13, 14, []), (2, 19, []), (6, 19, []), (8, 19, []), (12, 19, []), (13, 19, []), (14, 19, []), (18, 19, [])] (.q 0 (.q 1 (.q 2 (.q 3 (.q 4 (.q 5 (.q 6 (.q 7 (.q 8 (.q 9 (.q 10 (.q 11 (.q 12 (.alt 13 (.alt 14 (.q 15 (.q 16 (.q 17 (.l 18 (.l 19 (.q 20 .nil)))))) (.alt 18 (.l 14 (.q 15 (.q 16 (.q 17 (.l 19 (.q 20 .nil)))))) .nil)) (.alt 18 (.l 13 (.l 14 (.q 15 (.q 16 (.q 17 (.l 19 (.q 20 .nil))))))) .nil))))))))))))))) (by kernel_rfl) ?_; conv => whnf) | (refine Ok.region_draw tok follows (by kernel_rfl) ?_; conv => whnf) | (refine Ok.cond ?_; conv => whnf) | refine Ok.block ?_ | (refine Ok.skip ?_; conv => whnf) | (refine Ok.exit ?_; conv => whnf) | (refine Ok.ret ?_; conv => whnf) | (refine num_in (by omega) (by omega) ?_; conv => whnf) | (refine ix _ (by assumption) ?_; conv => whnf) | (refine ixI (by omega) (by assumption) ?_; conv => whnf) | (refine ix_new _ (by omega) fun _ _ => ?_; conv => whnf) | (refine ixI_new (by omega) (by omega) fun _ _ => ?_; conv => whnf) | (refine ⟨_, by assumption, ?_⟩; conv => whnf) | (refine Or.inr (Or.inl ?_); (conv => whnf); (repeat (refine And.intro (by first | omega | (simp; done) | (simp; omega)) ?_; (conv => whnf))); refine ⟨_, rform_at n n.toNat l (by omega) hrn htk , ?_⟩; rintro _ _ ⟨ks3, rm3, rfl, rfl, hks3, hkm⟩ <;> (conv => whnf)) | (refine Or.inr (Or.inl ?_); (conv => whnf); (repeat (refine And.intro (by first | omega | (simp; done) | (simp; omega)) ?_; (conv => whnf))); refine ⟨_, rbound_at n ks3 (form_len hks3 hln) (fun x hx => hle x (hkm x hx)) rfl , ?_⟩; rintro _ _ ⟨rfl, (⟨hb, rfl⟩ | ⟨hb, rfl⟩)⟩ <;> (conv => whnf)) | (refine Alt2.l (And.intro (by first | omega | (simp; done) | (simp; omega)) ?_); conv => whnf) | (refine Alt2.r (And.intro (by first | omega | (simp; done) | (simp; omega)) ?_); conv => whnf) | (refine Ok.scope ?_) | (refine Ok.label ?_; conv => whnf) | (refine rd rfl (by assumption) ?_; conv => whnf) | (refine ⟨_, .inl ⟨rfl, rfl⟩, ?_⟩; conv => whnf) | (refine ⟨_, _, rfl, rfl, ?_⟩; conv => whnf) | (refine ⟨fun _ => ?_, fun _ => ?_⟩ <;> (conv => whnf) <;> (try (exfalso; omega))) | (refine And.intro (by first | omega | rfl | (simp; done) | (simp; omega)) ?_; conv => whnf) | (refine num_any ?_; conv => whnf) | (refine ⟨_, rfl, ?_⟩; conv => whnf) | (exact True.intro) | (refine And.intro ?_ ?_ <;> (conv => whnf)) | fail)
        · refine Or.inl ?_; (conv => whnf)
          exact DOut.form hks3 hb
        · refine Or.inl ?_; (conv => whnf)
          exact DOut.many hks3 hb
    · rw [meetO_raw hfp hraw]
      (try (conv => whnf)); repeat' (first | refine Ok.seq ?_ | refine OkL.cons ?_ | (refine Ok.region tok ?_; conv => whnf) | (refine Ok.region_plan (id := 12) tok follows [(1, 12, [5, 4, 3]), (5, 12, []), (7, 12, [11, 10, 9]), (11, 12, [])] [.q 0, .q 1, .q 2, .q 3, .q 4, .q 5, .q 6, .q 7, .q 8, .q 9, .q 10, .q 11, .l 12, .q 13, .q 14, .q 15, .q 16, .q 17] (by kernel_rfl) ?_; conv => whnf) | (refine Ok.region_tree (id := 14) tok follows [(2, 13, [6, 5, 4]), (6, 13, []), (8, 13, [12, 11, 10]), (12, 13, []), (2, 14, [13, 6, 5, 4]), (6, 14, [13]), (8, 14, [13, 12, 11, 10]), (12, 14, [13]), (13, 14, []), (2, 19, []), (6, 19, []), (8, 19, []), (12, 19, []), (13, 19, []), (14, 19, []), (18, 19, [])] (.q 0 (.q 1 (.q 2 (.q 3 (.q 4 (.q 5 (.q 6 (.q 7 (.q 8 (.q 9 (.q 10 (.q 11 (.q 12 (.alt 13 (.alt 14 (.q 15 (.q 16 (.q 17 (.l 18 (.l 19 (.q 20 .nil)))))) (.alt 18 (.l 14 (.q 15 (.q 16 (.q 17 (.l 19 (.q 20 .nil)))))) .nil)) (.alt 18 (.l 13 (.l 14 (.q 15 (.q 16 (.q 17 (.l 19 (.q 20 .nil))))))) .nil))))))))))))))) (by kernel_rfl) ?_; conv => whnf) | (refine ⟨_, (hmul).symm, ?_⟩; conv => whnf) | (refine Ok.region_draw tok follows (by kernel_rfl) ?_; conv => whnf) | (refine Ok.cond ?_; conv => whnf) | refine Ok.block ?_ | (refine Ok.skip ?_; conv => whnf) | (refine Ok.exit ?_; conv => whnf) | (refine Ok.ret ?_; conv => whnf) | (refine num_in (by omega) (by omega) ?_; conv => whnf) | (refine ix _ (by assumption) ?_; conv => whnf) | (refine ixI (by omega) (by assumption) ?_; conv => whnf) | (refine ix_new _ (by omega) fun _ _ => ?_; conv => whnf) | (refine ixI_new (by omega) (by omega) fun _ _ => ?_; conv => whnf) | (refine ⟨_, by assumption, ?_⟩; conv => whnf) | (refine Or.inl ?_; (conv => whnf); (repeat (refine And.intro (by first | omega | (simp; done) | (simp; omega)) ?_; (conv => whnf))); refine ⟨_, hfit, rfl, ?_⟩; conv => whnf) | (refine ⟨_, hfit, rfl, ?_⟩; conv => whnf) | (refine Or.inr (Or.inl ?_); (conv => whnf); (repeat (refine And.intro (by first | omega | (simp; done) | (simp; omega)) ?_; (conv => whnf))); refine ⟨_, hfit, ?_⟩; rintro _ _ ⟨rfl, rfl⟩; conv => whnf) | (refine Alt2.l (And.intro (by first | omega | (simp; done) | (simp; omega)) ?_); conv => whnf) | (refine Alt2.r (And.intro (by first | omega | (simp; done) | (simp; omega)) ?_); conv => whnf) | (refine Ok.scope ?_) | (refine Ok.label ?_; conv => whnf) | (refine rd rfl (by assumption) ?_; conv => whnf) | (refine ⟨_, .inl ⟨rfl, rfl⟩, ?_⟩; conv => whnf) | (refine ⟨_, _, rfl, rfl, ?_⟩; conv => whnf) | (refine ⟨fun _ => ?_, fun _ => ?_⟩ <;> (conv => whnf) <;> (try (exfalso; omega))) | (refine And.intro (by first | omega | rfl | (simp; done) | (simp; omega)) ?_; conv => whnf) | (refine num_any ?_; conv => whnf) | (refine ⟨_, rfl, ?_⟩; conv => whnf) | (exact True.intro) | (refine And.intro ?_ ?_ <;> (conv => whnf)) | fail)
      · exact absurd hfp (by assumption)
      · refine Or.inl ?_; (conv => whnf)
        exact ⟨rfl, _, rfl, DSp.nil 0⟩
  · rw [meetO_not hfp]
    (try (conv => whnf)); repeat' (first | refine Ok.seq ?_ | refine OkL.cons ?_ | (refine Ok.region tok ?_; conv => whnf) | (refine Ok.region_plan (id := 12) tok follows [(1, 12, [5, 4, 3]), (5, 12, []), (7, 12, [11, 10, 9]), (11, 12, [])] [.q 0, .q 1, .q 2, .q 3, .q 4, .q 5, .q 6, .q 7, .q 8, .q 9, .q 10, .q 11, .l 12, .q 13, .q 14, .q 15, .q 16, .q 17] (by kernel_rfl) ?_; conv => whnf) | (refine Ok.region_tree (id := 14) tok follows [(2, 13, [6, 5, 4]), (6, 13, []), (8, 13, [12, 11, 10]), (12, 13, []), (2, 14, [13, 6, 5, 4]), (6, 14, [13]), (8, 14, [13, 12, 11, 10]), (12, 14, [13]), (13, 14, []), (2, 19, []), (6, 19, []), (8, 19, []), (12, 19, []), (13, 19, []), (14, 19, []), (18, 19, [])] (.q 0 (.q 1 (.q 2 (.q 3 (.q 4 (.q 5 (.q 6 (.q 7 (.q 8 (.q 9 (.q 10 (.q 11 (.q 12 (.alt 13 (.alt 14 (.q 15 (.q 16 (.q 17 (.l 18 (.l 19 (.q 20 .nil)))))) (.alt 18 (.l 14 (.q 15 (.q 16 (.q 17 (.l 19 (.q 20 .nil)))))) .nil)) (.alt 18 (.l 13 (.l 14 (.q 15 (.q 16 (.q 17 (.l 19 (.q 20 .nil))))))) .nil))))))))))))))) (by kernel_rfl) ?_; conv => whnf) | (refine Ok.region_draw tok follows (by kernel_rfl) ?_; conv => whnf) | (refine Ok.cond ?_; conv => whnf) | refine Ok.block ?_ | (refine Ok.skip ?_; conv => whnf) | (refine Ok.exit ?_; conv => whnf) | (refine Ok.ret ?_; conv => whnf) | (refine num_in (by omega) (by omega) ?_; conv => whnf) | (refine ix _ (by assumption) ?_; conv => whnf) | (refine ixI (by omega) (by assumption) ?_; conv => whnf) | (refine ix_new _ (by omega) fun _ _ => ?_; conv => whnf) | (refine ixI_new (by omega) (by omega) fun _ _ => ?_; conv => whnf) | (refine ⟨_, by assumption, ?_⟩; conv => whnf) | (refine Or.inl ?_; (conv => whnf); (repeat (refine And.intro (by first | omega | (simp; done) | (simp; omega)) ?_; (conv => whnf))); refine ⟨_, hfit, rfl, ?_⟩; conv => whnf) | (refine ⟨_, hfit, rfl, ?_⟩; conv => whnf) | (refine Or.inr (Or.inl ?_); (conv => whnf); (repeat (refine And.intro (by first | omega | (simp; done) | (simp; omega)) ?_; (conv => whnf))); refine ⟨_, hfit, ?_⟩; rintro _ _ ⟨rfl, rfl⟩; conv => whnf) | (refine Alt2.l (And.intro (by first | omega | (simp; done) | (simp; omega)) ?_); conv => whnf) | (refine Alt2.r (And.intro (by first | omega | (simp; done) | (simp; omega)) ?_); conv => whnf) | (refine Ok.scope ?_) | (refine Ok.label ?_; conv => whnf) | (refine rd rfl (by assumption) ?_; conv => whnf) | (refine ⟨_, .inl ⟨rfl, rfl⟩, ?_⟩; conv => whnf) | (refine ⟨_, _, rfl, rfl, ?_⟩; conv => whnf) | (refine ⟨fun _ => ?_, fun _ => ?_⟩ <;> (conv => whnf) <;> (try (exfalso; omega))) | (refine And.intro (by first | omega | rfl | (simp; done) | (simp; omega)) ?_; conv => whnf) | (refine num_any ?_; conv => whnf) | (refine ⟨_, rfl, ?_⟩; conv => whnf) | (exact True.intro) | (refine And.intro ?_ ?_ <;> (conv => whnf)) | fail)
    · refine Or.inl ?_; (conv => whnf)
      exact ⟨rfl, _, rfl, DSp.nil 0⟩
    all_goals exact absurd hfp (by assumption)
end Go.Proofs.YtaiondckookpiaaGreatDoor
/- The program's Meet; the law. -/
namespace Go.Proofs.YtaiondckookpiaaGreatDoor
open Go Go.Vx
set_option maxRecDepth 100000 in
set_option maxHeartbeats 8000000 in
theorem meet2_at {n m : Int} {ts us : List Term} (hf : Fine n ts) (hg : Fine m us) (ks ks2 : List TR) (rm rm2 : List (List D)) (h1 : ks.map TR.t = ts) (h2 : ks2.map TR.t = us) :
    FSpec Tryz.prog T 21 [.agg [.i .i64 n, .lst 112 (ks.map trow) rm], .agg [.i .i64 m, .lst 112 (ks2.map trow) rm2]] (POut (meetO n m ts us)) := by
  have hfit := fits2_at n m
  have hl1 : ks.length = ts.length := by rw [← h1, List.length_map]
  have hl2 : ks2.length = us.length := by rw [← h2, List.length_map]
  have hm1 : (ks.map trow).length = ts.length := by simp [hl1]
  have hm2 : (ks2.map trow).length = us.length := by simp [hl2]
  have hk1 := hf.len
  have hk2 := hg.len
  refine FSpec.of_deferK 3 tok Tryz.func21 rfl Tryz.call21 (by simp) def_meet (zd1 := [.i .i64 0, .nilS]) (zd2 := [.i .i64 3]) rfl rfl (by simp [Value.oneCell']) (by simp [Value.oneCell']) rfl ?_
  by_cases hfp : fitP n m
  · have hnm := hfp.1
    subst hnm
    have hmul : ((List.map trow ks).length : Int) * ((List.map trow ks2).length : Int) = ((ts.length * us.length : Nat) : Int) := by rw [hm1, hm2]; simp
    have hmb : ts.length * us.length ≤ 128 * 128 := Nat.mul_le_mul hk1 hk2
    (try (conv => whnf)); repeat' (first | refine Ok.seq ?_ | refine OkL.cons ?_ | (refine Ok.region tok ?_; conv => whnf) | (refine Ok.region_draw tok follows (by kernel_rfl) ?_; conv => whnf) | (refine Ok.cond ?_; conv => whnf) | refine Ok.block ?_ | (refine Ok.skip ?_; conv => whnf) | (refine Ok.exit ?_; conv => whnf) | (refine Ok.ret ?_; conv => whnf) | (refine num_in (by omega) (by omega) ?_; conv => whnf) | (refine ix _ (by assumption) ?_; conv => whnf) | (refine ixI (by omega) (by assumption) ?_; conv => whnf) | (refine ix_new _ (by omega) fun _ _ => ?_; conv => whnf) | (refine ixI_new (by omega) (by omega) fun _ _ => ?_; conv => whnf) | (refine ⟨_, by assumption, ?_⟩; conv => whnf) | (refine Or.inl ?_; (conv => whnf); (repeat (refine And.intro (by first | omega | (simp; done) | (simp; omega)) ?_; (conv => whnf))); refine ⟨_, hfit, rfl, ?_⟩; conv => whnf) | (refine ⟨_, hfit, rfl, ?_⟩; conv => whnf) | (refine Or.inr (Or.inl ?_); (conv => whnf); (repeat (refine And.intro (by first | omega | (simp; done) | (simp; omega)) ?_; (conv => whnf))); refine ⟨_, hfit, ?_⟩; rintro _ _ ⟨rfl, rfl⟩; conv => whnf) | (refine Alt2.l (And.intro (by first | omega | (simp; done) | (simp; omega)) ?_); conv => whnf) | (refine Alt2.r (And.intro (by first | omega | (simp; done) | (simp; omega)) ?_); conv => whnf) | (refine Ok.scope ?_) | (refine Ok.label ?_; conv => whnf) | (refine rd rfl (by assumption) ?_; conv => whnf) | (refine ⟨_, .inl ⟨rfl, rfl⟩, ?_⟩; conv => whnf) | (refine ⟨_, _, rfl, rfl, ?_⟩; conv => whnf) | (refine ⟨fun _ => ?_, fun _ => ?_⟩ <;> (conv => whnf) <;> (try (exfalso; omega))) | (refine And.intro (by first | omega | rfl | (simp; done) | (simp; omega)) ?_; conv => whnf) | (refine num_any ?_; conv => whnf) | (refine ⟨_, rfl, ?_⟩; conv => whnf) | fail)
    · exact absurd hfp (by assumption)
    refine OkL.nil ?_
    (conv => whnf)
    refine ⟨2, 3, rfl, rfl, by decide, by decide, by decide, rfl, ?_⟩
    by_cases hraw : ts.length * us.length ≤ 2048
    · rw [meetO_fit hfp hraw]
      (try (conv => whnf)); repeat' (first | refine Ok.seq ?_ | refine OkL.cons ?_ | (refine Ok.region tok ?_; conv => whnf) | (refine Ok.region_draw tok follows (by kernel_rfl) ?_; conv => whnf) | (refine Ok.cond ?_; conv => whnf) | refine Ok.block ?_ | (refine Ok.skip ?_; conv => whnf) | (refine Ok.exit ?_; conv => whnf) | (refine Ok.ret ?_; conv => whnf) | (refine num_in (by omega) (by omega) ?_; conv => whnf) | (refine ix _ (by assumption) ?_; conv => whnf) | (refine ixI (by omega) (by assumption) ?_; conv => whnf) | (refine ix_new _ (by omega) fun _ _ => ?_; conv => whnf) | (refine ixI_new (by omega) (by omega) fun _ _ => ?_; conv => whnf) | (refine ⟨_, by assumption, ?_⟩; conv => whnf) | (refine Or.inl ?_; (conv => whnf); (repeat (refine And.intro (by first | omega | (simp; done) | (simp; omega)) ?_; (conv => whnf))); refine ⟨_, raw_at (n := ((List.map trow ks).length : Int) * ((List.map trow ks2).length : Int)) (by rw [hmul]; omega), rfl, ?_⟩; conv => whnf) | (refine ⟨_, raw_at (n := ((List.map trow ks).length : Int) * ((List.map trow ks2).length : Int)) (by rw [hmul]; omega), rfl, ?_⟩; conv => whnf) | (refine Or.inr (Or.inl ?_); (conv => whnf); (repeat (refine And.intro (by first | omega | (simp; done) | (simp; omega)) ?_; (conv => whnf))); refine ⟨_, raw_at (n := ((List.map trow ks).length : Int) * ((List.map trow ks2).length : Int)) (by rw [hmul]; omega), ?_⟩; rintro _ _ ⟨rfl, rfl⟩; conv => whnf) | (refine Alt2.l (And.intro (by first | omega | (simp; done) | (simp; omega)) ?_); conv => whnf) | (refine Alt2.r (And.intro (by first | omega | (simp; done) | (simp; omega)) ?_); conv => whnf) | (refine Ok.scope ?_) | (refine Ok.label ?_; conv => whnf) | (refine rd rfl (by assumption) ?_; conv => whnf) | (refine ⟨_, .inl ⟨rfl, rfl⟩, ?_⟩; conv => whnf) | (refine ⟨_, _, rfl, rfl, ?_⟩; conv => whnf) | (refine ⟨fun _ => ?_, fun _ => ?_⟩ <;> (conv => whnf) <;> (try (exfalso; omega))) | (refine And.intro (by first | omega | rfl | (simp; done) | (simp; omega)) ?_; conv => whnf) | (refine num_any ?_; conv => whnf) | (refine ⟨_, rfl, ?_⟩; conv => whnf) | fail)
      refine Ok.ghost 6 112 rfl ?_
      (conv => whnf)
      refine Ok.loopU [2, 3, 4, 5, 32, 33, 75, 76] [6, 34] 1 4 (fun (x : Nat × List TR) => [.own 0 x.2.length, .i .i64 (x.1 : Nat)]) (fun _ b => b) (fun (x : Nat × List TR) (_ : Vx.Rows) => [some (112, x.2.map trow)]) (fun (x : Nat × List TR) => x.1 ≤ ts.length ∧ x.2.map TR.t = meets (ts.take x.1) us ∧ x.2.length ≤ x.1 * us.length) (fun (x : Nat × List TR) => ts.length - x.1) ((0, [])) (⟨Nat.zero_le _, by simp [meets], by simp⟩) ?_; (conv => whnf); refine ⟨by ((conv => whnf); first | rfl | (simp [envCat, List.take_of_length_le, crow, trow, srow, drow]; done) | (simp [envCat, List.take_of_length_le, crow, trow, srow, drow]; rw [IntKind.wrap_i64]; omega)), ?_⟩
      rintro ⟨i, l⟩ ⟨hi, hl, hll⟩
      dsimp only at hi hl hll ⊢
      have hlm : (l.map trow).length = l.length := by simp
      have hib : i * us.length ≤ 128 * 128 := Nat.mul_le_mul (by omega) hk2
      (conv => whnf)
      by_cases hil : i < ts.length
      · obtain ⟨a, ha⟩ : ∃ a, ks[i]? = some a := ⟨_, List.getElem?_eq_getElem (by omega)⟩
        have haI : ks[((i : Nat) : Int).toNat]? = some a := ha
        have hat := tr_get h1 ha
        have hag := hf.good _ (List.mem_of_getElem? hat)
        have hal := hf.less (List.mem_of_getElem? hat)
        have hal2 : (a.t.less.map crow).length = a.t.less.length := by simp
        have hsn := meets_snoc (us := us) hat
        have hi1 : (i + 1) * us.length = i * us.length + us.length := by rw [Nat.add_mul, Nat.one_mul]
        (try (conv => whnf)); repeat' (first | refine Ok.seq ?_ | refine OkL.cons ?_ | (refine Ok.region tok ?_; conv => whnf) | (refine Ok.region_draw tok follows (by kernel_rfl) ?_; conv => whnf) | (refine Ok.cond ?_; conv => whnf) | refine Ok.block ?_ | (refine Ok.skip ?_; conv => whnf) | (refine Ok.exit ?_; conv => whnf) | (refine Ok.ret ?_; conv => whnf) | (refine num_in (by omega) (by omega) ?_; conv => whnf) | (refine ix _ (by assumption) ?_; conv => whnf) | (refine ixI (by omega) (by assumption) ?_; conv => whnf) | (refine ix_new _ (by omega) fun _ _ => ?_; conv => whnf) | (refine ixI_new (by omega) (by omega) fun _ _ => ?_; conv => whnf) | (refine ⟨_, by assumption, ?_⟩; conv => whnf) | (refine Alt2.l (And.intro (by first | omega | (simp; done) | (simp; omega)) ?_); conv => whnf) | (refine Alt2.r (And.intro (by first | omega | (simp; done) | (simp; omega)) ?_); conv => whnf) | (refine Ok.scope ?_) | (refine Ok.label ?_; conv => whnf) | (refine rd rfl (by assumption) ?_; conv => whnf) | (refine ⟨_, .inl ⟨rfl, rfl⟩, ?_⟩; conv => whnf) | (refine ⟨_, _, rfl, rfl, ?_⟩; conv => whnf) | (refine ⟨fun _ => ?_, fun _ => ?_⟩ <;> (conv => whnf) <;> (try (exfalso; omega))) | (refine And.intro (by first | omega | rfl | (simp; done) | (simp; omega)) ?_; conv => whnf) | (refine num_any ?_; conv => whnf) | (refine ⟨_, rfl, ?_⟩; conv => whnf) | fail)
        refine Ok.loopU [2, 3, 4, 5, 8, 32, 33, 34, 39, 40, 75, 76] [6, 41] 1 5 (fun (x : Nat × List TR) => [.own 0 x.2.length, .i .i64 (x.1 : Nat)]) (fun _ b => b) (fun (x : Nat × List TR) (_ : Vx.Rows) => [some (112, x.2.map trow)]) (fun (x : Nat × List TR) => x.1 ≤ us.length ∧ x.2.map TR.t = meets (ts.take i) us ++ (us.take x.1).filterMap (meet2 a.t) ∧ x.2.length ≤ i * us.length + x.1) (fun (x : Nat × List TR) => us.length - x.1) ((0, l)) (⟨Nat.zero_le _, by simpa using hl, by simpa using hll⟩) ?_; (conv => whnf); refine ⟨by ((conv => whnf); first | rfl | (simp [envCat, List.take_of_length_le, crow, trow, srow, drow]; done) | (simp [envCat, List.take_of_length_le, crow, trow, srow, drow]; rw [IntKind.wrap_i64]; omega)), ?_⟩
        rintro ⟨j, l2⟩ ⟨hj, hl2e, hl2l⟩
        dsimp only at hj hl2e hl2l ⊢
        have hl2m : (l2.map trow).length = l2.length := by simp
        (conv => whnf)
        by_cases hjl : j < us.length
        · obtain ⟨b, hb⟩ : ∃ b, ks2[j]? = some b := ⟨_, List.getElem?_eq_getElem (by omega)⟩
          have hbI : ks2[((j : Nat) : Int).toNat]? = some b := hb
          have hbt := tr_get h2 hb
          have hbg := hg.good _ (List.mem_of_getElem? hbt)
          have hbl := hg.less (List.mem_of_getElem? hbt)
          have hbl2 : (b.t.less.map crow).length = b.t.less.length := by simp
          have hsp := meet_at a.t.p b.t.p hag.p.1 hbg.p.1
          cases hm : meetT a.t.p b.t.p with
          | none =>
            have hno : meet2 a.t b.t = none := by unfold meet2; rw [hm]; rfl
            rw [hm] at hsp
            (try (conv => whnf)); repeat' (first | refine Ok.seq ?_ | refine OkL.cons ?_ | (refine Ok.region tok ?_; conv => whnf) | (refine Ok.region_draw tok follows (by kernel_rfl) ?_; conv => whnf) | (refine Ok.cond ?_; conv => whnf) | refine Ok.block ?_ | (refine Ok.skip ?_; conv => whnf) | (refine Ok.exit ?_; conv => whnf) | (refine Ok.ret ?_; conv => whnf) | (refine num_in (by omega) (by omega) ?_; conv => whnf) | (refine ix _ (by assumption) ?_; conv => whnf) | (refine ixI (by omega) (by assumption) ?_; conv => whnf) | (refine ix_new _ (by omega) fun _ _ => ?_; conv => whnf) | (refine ixI_new (by omega) (by omega) fun _ _ => ?_; conv => whnf) | (refine ⟨_, by assumption, ?_⟩; conv => whnf) | (refine Or.inr (Or.inl ?_); (conv => whnf); (repeat (refine And.intro (by first | omega | (simp; done) | (simp; omega)) ?_; (conv => whnf))); refine ⟨_, hsp, ?_⟩; rintro _ _ ⟨rfl, rfl⟩ <;> (conv => whnf)) | (refine Alt2.l (And.intro (by first | omega | (simp; done) | (simp; omega)) ?_); conv => whnf) | (refine Alt2.r (And.intro (by first | omega | (simp; done) | (simp; omega)) ?_); conv => whnf) | (refine Ok.scope ?_) | (refine Ok.label ?_; conv => whnf) | (refine rd rfl (by assumption) ?_; conv => whnf) | (refine ⟨_, .inl ⟨rfl, rfl⟩, ?_⟩; conv => whnf) | (refine ⟨_, _, rfl, rfl, ?_⟩; conv => whnf) | (refine ⟨fun _ => ?_, fun _ => ?_⟩ <;> (conv => whnf) <;> (try (exfalso; omega))) | (refine And.intro (by first | omega | rfl | (simp; done) | (simp; omega)) ?_; conv => whnf) | (refine num_any ?_; conv => whnf) | (refine ⟨_, rfl, ?_⟩; conv => whnf) | fail)
            · rename_i h
              cases h
            · refine ⟨(j + 1, l2), by dsimp only; omega, ⟨by dsimp only; omega, by dsimp only; rw [fm_none hbt hno]; exact hl2e, by dsimp only; omega⟩, ?_⟩
              (conv => whnf)
              rfl
          | some p =>
            rw [hm] at hsp
            have hmc := meetT_ct hm hag.p.1 hbg.p.1
            have hpn : p ≠ [] := fun e => hmc.2.2 (List.eq_nil_of_length_eq_zero (by rw [← hmc.2.1, e]; rfl))
            have hm2 : meet2 a.t b.t = termT p (a.t.less ++ b.t.less) := by unfold meet2; rw [hm]; rfl
            have hnew : ∀ room, FSpec Tryz.prog T 72 [.agg (crow p), .lst 58 (List.map lrow [⟨a.t.less, a.room⟩, ⟨b.t.less, b.room⟩]) room] (NewT p (a.t.less ++ b.t.less)) := fun room => by
              have := newTerm_at p [⟨a.t.less, a.room⟩, ⟨b.t.less, b.room⟩] (room := room) ⟨hmc.1, hpn⟩ (by
                intro x hx m hm
                simp at hx
                rcases hx with rfl | rfl
                · exact (hag.less m hm).1
                · exact (hbg.less m hm).1) (by simp [allL]; omega) (by simp) rfl
              rwa [show allL [⟨a.t.less, a.room⟩, ⟨b.t.less, b.room⟩] = a.t.less ++ b.t.less by simp [allL]] at this
            (try (conv => whnf)); repeat' (first | refine Ok.seq ?_ | refine OkL.cons ?_ | (refine Ok.region tok ?_; conv => whnf) | (refine Ok.region_draw tok follows (by kernel_rfl) ?_; conv => whnf) | (refine Ok.cond ?_; conv => whnf) | refine Ok.block ?_ | (refine Ok.skip ?_; conv => whnf) | (refine Ok.exit ?_; conv => whnf) | (refine Ok.ret ?_; conv => whnf) | (refine num_in (by omega) (by omega) ?_; conv => whnf) | (refine ix _ (by assumption) ?_; conv => whnf) | (refine ixI (by omega) (by assumption) ?_; conv => whnf) | (refine ix_new _ (by omega) fun _ _ => ?_; conv => whnf) | (refine ixI_new (by omega) (by omega) fun _ _ => ?_; conv => whnf) | (refine ⟨_, by assumption, ?_⟩; conv => whnf) | (refine Or.inr (Or.inl ?_); (conv => whnf); (repeat (refine And.intro (by first | omega | (simp; done) | (simp; omega)) ?_; (conv => whnf))); refine ⟨_, hsp, ?_⟩; rintro _ _ ⟨rfl, rfl⟩ <;> (conv => whnf)) | (refine Or.inr (Or.inl ?_); (conv => whnf); (repeat (refine And.intro (by first | omega | (simp; done) | (simp; omega)) ?_; (conv => whnf))); refine ⟨_, hnew _ , ?_⟩; rintro _ _ ⟨rfl, (⟨ht, rfl⟩ | ⟨t, rm4, ht, rfl⟩)⟩ <;> (conv => whnf)) | (refine Alt2.l (And.intro (by first | omega | (simp; done) | (simp; omega)) ?_); conv => whnf) | (refine Alt2.r (And.intro (by first | omega | (simp; done) | (simp; omega)) ?_); conv => whnf) | (refine Ok.scope ?_) | (refine Ok.label ?_; conv => whnf) | (refine rd rfl (by assumption) ?_; conv => whnf) | (refine ⟨_, .inl ⟨rfl, rfl⟩, ?_⟩; conv => whnf) | (refine ⟨_, _, rfl, rfl, ?_⟩; conv => whnf) | (refine ⟨fun _ => ?_, fun _ => ?_⟩ <;> (conv => whnf) <;> (try (exfalso; omega))) | (refine And.intro (by first | omega | rfl | (simp; done) | (simp; omega)) ?_; conv => whnf) | (refine num_any ?_; conv => whnf) | (refine ⟨_, rfl, ?_⟩; conv => whnf) | fail)
            all_goals first
              | (rename_i h; exact absurd rfl h)
              | (rename_i h; exact absurd trivial h)
              | (refine ⟨(j + 1, l2), by dsimp only; omega, ⟨by dsimp only; omega, by dsimp only; rw [fm_none hbt (hm2.trans ht)]; exact hl2e, by dsimp only; omega⟩, ?_⟩
                 (conv => whnf)
                 rfl)
              | (refine ⟨(j + 1, l2 ++ [⟨t, rm4⟩]), by dsimp only; omega, ⟨by dsimp only; omega, by dsimp only; rw [fm_some hbt (hm2.trans ht), List.map_append, hl2e, List.append_assoc]; rfl, by simp; omega⟩, ?_⟩
                 (conv => whnf)
                 simp [envCat])
        · have hje : j = us.length := by omega
          subst hje
          rw [List.take_length] at hl2e
          (try (conv => whnf)); repeat' (first | refine Ok.seq ?_ | refine OkL.cons ?_ | (refine Ok.region tok ?_; conv => whnf) | (refine Ok.region_draw tok follows (by kernel_rfl) ?_; conv => whnf) | (refine Ok.cond ?_; conv => whnf) | refine Ok.block ?_ | (refine Ok.skip ?_; conv => whnf) | (refine Ok.exit ?_; conv => whnf) | (refine Ok.ret ?_; conv => whnf) | (refine num_in (by omega) (by omega) ?_; conv => whnf) | (refine ix _ (by assumption) ?_; conv => whnf) | (refine ixI (by omega) (by assumption) ?_; conv => whnf) | (refine ix_new _ (by omega) fun _ _ => ?_; conv => whnf) | (refine ixI_new (by omega) (by omega) fun _ _ => ?_; conv => whnf) | (refine ⟨_, by assumption, ?_⟩; conv => whnf) | (refine Alt2.l (And.intro (by first | omega | (simp; done) | (simp; omega)) ?_); conv => whnf) | (refine Alt2.r (And.intro (by first | omega | (simp; done) | (simp; omega)) ?_); conv => whnf) | (refine Ok.scope ?_) | (refine Ok.label ?_; conv => whnf) | (refine rd rfl (by assumption) ?_; conv => whnf) | (refine ⟨_, .inl ⟨rfl, rfl⟩, ?_⟩; conv => whnf) | (refine ⟨_, _, rfl, rfl, ?_⟩; conv => whnf) | (refine ⟨fun _ => ?_, fun _ => ?_⟩ <;> (conv => whnf) <;> (try (exfalso; omega))) | (refine And.intro (by first | omega | rfl | (simp; done) | (simp; omega)) ?_; conv => whnf) | (refine num_any ?_; conv => whnf) | (refine ⟨_, rfl, ?_⟩; conv => whnf) | fail)
          refine ⟨(i + 1, l2), by dsimp only; omega, ⟨by dsimp only; omega, by dsimp only; rw [hsn]; exact hl2e, by dsimp only; omega⟩, ?_⟩
          (conv => whnf)
          rfl
      · have hie : i = ts.length := by omega
        subst hie
        rw [List.take_length] at hl
        have hgood := meets_good hf.good hg.good
        have hlb := meets_less (fun t ht => hf.less ht) (fun t ht => hg.less ht)
        have hle : ∀ x ∈ l, x.t.less.length ≤ 1048576 := fun x hx => Nat.le_trans (hlb _ (mem_of_map hl hx)) (by decide)
        have hto : ∀ x ∈ l, TO n.toNat x := fun x hx => (hgood _ (mem_of_map hl hx)).to (hle x hx)
        have htk : List.take l.length (l.map trow) = l.map trow := List.take_of_length_le (by simp)
        have hln : l.length ≤ 1048576 := by omega
        rw [← hl]
        by_cases hsz : szT (formT (l.map TR.t)) ≤ 128
        · rw [bndO_le hsz]
          (try (conv => whnf)); repeat' (first | refine Ok.seq ?_ | refine OkL.cons ?_ | (refine Ok.region tok ?_; conv => whnf) | (refine Ok.region_draw tok follows (by kernel_rfl) ?_; conv => whnf) | (refine Ok.cond ?_; conv => whnf) | refine Ok.block ?_ | (refine Ok.skip ?_; conv => whnf) | (refine Ok.exit ?_; conv => whnf) | (refine Ok.ret ?_; conv => whnf) | (refine num_in (by omega) (by omega) ?_; conv => whnf) | (refine ix _ (by assumption) ?_; conv => whnf) | (refine ixI (by omega) (by assumption) ?_; conv => whnf) | (refine ix_new _ (by omega) fun _ _ => ?_; conv => whnf) | (refine ixI_new (by omega) (by omega) fun _ _ => ?_; conv => whnf) | (refine ⟨_, by assumption, ?_⟩; conv => whnf) | (refine Or.inr (Or.inl ?_); (conv => whnf); (repeat (refine And.intro (by first | omega | (simp; done) | (simp; omega)) ?_; (conv => whnf))); refine ⟨_, form_at n n.toNat l hln hto htk hsz , ?_⟩; rintro _ _ ⟨ks3, rm3, rfl, rfl, hks3, hkm⟩ <;> (conv => whnf)) | (refine Alt2.l (And.intro (by first | omega | (simp; done) | (simp; omega)) ?_); conv => whnf) | (refine Alt2.r (And.intro (by first | omega | (simp; done) | (simp; omega)) ?_); conv => whnf) | (refine Ok.scope ?_) | (refine Ok.label ?_; conv => whnf) | (refine rd rfl (by assumption) ?_; conv => whnf) | (refine ⟨_, .inl ⟨rfl, rfl⟩, ?_⟩; conv => whnf) | (refine ⟨_, _, rfl, rfl, ?_⟩; conv => whnf) | (refine ⟨fun _ => ?_, fun _ => ?_⟩ <;> (conv => whnf) <;> (try (exfalso; omega))) | (refine And.intro (by first | omega | rfl | (simp; done) | (simp; omega)) ?_; conv => whnf) | (refine num_any ?_; conv => whnf) | (refine ⟨_, rfl, ?_⟩; conv => whnf) | fail)
          refine Or.inl ?_; (conv => whnf)
          exact ⟨rfl, _, rfl, ks3, rm3, rfl, hks3⟩
        · rw [bndO_gt (by omega)]
          (try (conv => whnf)); repeat' (first | (refine Ok.region_pan (id := 19) tok 3 ?_; (conv => whnf)) | refine Ok.seq ?_ | refine OkL.cons ?_ | (refine Ok.region tok ?_; conv => whnf) | (refine Ok.cond ?_; conv => whnf) | refine Ok.block ?_ | (refine Ok.skip ?_; conv => whnf) | (refine Ok.exit ?_; conv => whnf) | (refine Ok.ret ?_; conv => whnf) | (refine num_in (by omega) (by omega) ?_; conv => whnf) | (refine ix _ (by assumption) ?_; conv => whnf) | (refine ixI (by omega) (by assumption) ?_; conv => whnf) | (refine ix_new _ (by omega) fun _ _ => ?_; conv => whnf) | (refine ixI_new (by omega) (by omega) fun _ _ => ?_; conv => whnf) | (refine ⟨_, by assumption, ?_⟩; conv => whnf) | (refine Alt2.l (And.intro (by first | omega | (simp; done) | (simp; omega)) ?_); conv => whnf) | (refine Alt2.r (And.intro (by first | omega | (simp; done) | (simp; omega)) ?_); conv => whnf) | (refine Ok.scope ?_) | (refine Ok.label ?_; conv => whnf) | (refine rd rfl (by assumption) ?_; conv => whnf) | (refine ⟨_, .inl ⟨rfl, rfl⟩, ?_⟩; conv => whnf) | (refine ⟨_, _, rfl, rfl, ?_⟩; conv => whnf) | (refine ⟨fun _ => ?_, fun _ => ?_⟩ <;> (conv => whnf) <;> (try (exfalso; omega))) | (refine And.intro (by first | omega | rfl | (simp; done) | (simp; omega)) ?_; conv => whnf) | (refine num_any ?_; conv => whnf) | (refine ⟨_, rfl, ?_⟩; conv => whnf) | fail)
          refine ⟨_, form_pan n n.toNat l hln hto htk (by omega), ?_⟩
          (conv => whnf)
          refine ⟨rfl, 2, 3, _, _, rfl, rfl, rfl, rfl, rfl, rfl, by decide, rfl, ?_⟩
          (conv => whnf)
          refine Or.inl ?_; (conv => whnf)
          exact ⟨rfl, _, rfl, PSp.nil 0⟩
    · rw [meetO_raw hfp hraw]
      refine OkL.cons ?_
      refine Ok.region_pan tok 7 ?_
      (conv => whnf)
      (try (conv => whnf)); repeat' (first | refine Ok.seq ?_ | refine OkL.cons ?_ | (refine Ok.region tok ?_; conv => whnf) | (refine Ok.cond ?_; conv => whnf) | refine Ok.block ?_ | (refine Ok.skip ?_; conv => whnf) | (refine Ok.exit ?_; conv => whnf) | (refine Ok.ret ?_; conv => whnf) | (refine num_in (by omega) (by omega) ?_; conv => whnf) | (refine ix _ (by assumption) ?_; conv => whnf) | (refine ixI (by omega) (by assumption) ?_; conv => whnf) | (refine ix_new _ (by omega) fun _ _ => ?_; conv => whnf) | (refine ixI_new (by omega) (by omega) fun _ _ => ?_; conv => whnf) | (refine ⟨_, by assumption, ?_⟩; conv => whnf) | (refine Alt2.l (And.intro (by first | omega | (simp; done) | (simp; omega)) ?_); conv => whnf) | (refine Alt2.r (And.intro (by first | omega | (simp; done) | (simp; omega)) ?_); conv => whnf) | (refine Ok.scope ?_) | (refine Ok.label ?_; conv => whnf) | (refine rd rfl (by assumption) ?_; conv => whnf) | (refine ⟨_, .inl ⟨rfl, rfl⟩, ?_⟩; conv => whnf) | (refine ⟨_, _, rfl, rfl, ?_⟩; conv => whnf) | (refine ⟨fun _ => ?_, fun _ => ?_⟩ <;> (conv => whnf) <;> (try (exfalso; omega))) | (refine And.intro (by first | omega | rfl | (simp; done) | (simp; omega)) ?_; conv => whnf) | (refine num_any ?_; conv => whnf) | (refine ⟨_, rfl, ?_⟩; conv => whnf) | fail)
      refine ⟨_, raw_pan (by rw [hmul]; omega), ?_⟩
      (conv => whnf)
      refine ⟨rfl, 2, 3, _, _, rfl, rfl, rfl, rfl, rfl, rfl, by decide, rfl, ?_⟩
      (conv => whnf)
      refine Or.inl ?_; (conv => whnf)
      exact ⟨rfl, _, rfl, PSp.nil 0⟩
  · rw [meetO_not hfp]
    (try (conv => whnf)); repeat' (first | refine Ok.seq ?_ | refine OkL.cons ?_ | (refine Ok.region tok ?_; conv => whnf) | (refine Ok.region_draw tok follows (by kernel_rfl) ?_; conv => whnf) | (refine Ok.cond ?_; conv => whnf) | refine Ok.block ?_ | (refine Ok.skip ?_; conv => whnf) | (refine Ok.exit ?_; conv => whnf) | (refine Ok.ret ?_; conv => whnf) | (refine num_in (by omega) (by omega) ?_; conv => whnf) | (refine ix _ (by assumption) ?_; conv => whnf) | (refine ixI (by omega) (by assumption) ?_; conv => whnf) | (refine ix_new _ (by omega) fun _ _ => ?_; conv => whnf) | (refine ixI_new (by omega) (by omega) fun _ _ => ?_; conv => whnf) | (refine ⟨_, by assumption, ?_⟩; conv => whnf) | (refine Or.inl ?_; (conv => whnf); (repeat (refine And.intro (by first | omega | (simp; done) | (simp; omega)) ?_; (conv => whnf))); refine ⟨_, hfit, rfl, ?_⟩; conv => whnf) | (refine ⟨_, hfit, rfl, ?_⟩; conv => whnf) | (refine Or.inr (Or.inl ?_); (conv => whnf); (repeat (refine And.intro (by first | omega | (simp; done) | (simp; omega)) ?_; (conv => whnf))); refine ⟨_, hfit, ?_⟩; rintro _ _ ⟨rfl, rfl⟩; conv => whnf) | (refine Alt2.l (And.intro (by first | omega | (simp; done) | (simp; omega)) ?_); conv => whnf) | (refine Alt2.r (And.intro (by first | omega | (simp; done) | (simp; omega)) ?_); conv => whnf) | (refine Ok.scope ?_) | (refine Ok.label ?_; conv => whnf) | (refine rd rfl (by assumption) ?_; conv => whnf) | (refine ⟨_, .inl ⟨rfl, rfl⟩, ?_⟩; conv => whnf) | (refine ⟨_, _, rfl, rfl, ?_⟩; conv => whnf) | (refine ⟨fun _ => ?_, fun _ => ?_⟩ <;> (conv => whnf) <;> (try (exfalso; omega))) | (refine And.intro (by first | omega | rfl | (simp; done) | (simp; omega)) ?_; conv => whnf) | (refine num_any ?_; conv => whnf) | (refine ⟨_, rfl, ?_⟩; conv => whnf) | fail)
    · refine Or.inl ?_; (conv => whnf)
      exact ⟨rfl, _, rfl, PSp.nil 0⟩
    · rename_i h
      exact absurd hfp h
set_option maxRecDepth 100000 in
set_option maxHeartbeats 4000000 in
theorem meetsLaw_at (n : Int) (a : Str) (m : Int) (b : Str) : FSpec Tryz.prog T 4 [.i .i64 n, .s a, .i .i64 m, .s b] (fun r _ => r = .b True) := by
  have hf := parO_fine n a
  have hg := parO_fine m b
  have r1 := read_at n a
  have r2 := read_at m b
  unfold ReadO at r1 r2
  generalize parO n a = o1 at *
  generalize parO m b = o2 at *
  obtain ⟨e1, n1, ts⟩ := o1
  obtain ⟨e2, n2, us⟩ := o2
  dsimp only at hf hg r1 r2
  have hj := meetO_fine hf hg
  refine FSpec.of_ok tok Tryz.func4 rfl Tryz.call4 (by simp) ?_
  (try (conv => whnf)); repeat' (first | refine Ok.seq ?_ | refine OkL.cons ?_ | (refine Ok.region tok ?_; conv => whnf) | (refine Ok.region_draw tok follows (by kernel_rfl) ?_; conv => whnf) | (refine Ok.cond ?_; conv => whnf) | refine Ok.block ?_ | (refine Ok.skip ?_; conv => whnf) | (refine Ok.exit ?_; conv => whnf) | (refine Ok.ret ?_; conv => whnf) | (refine num_in (by omega) (by omega) ?_; conv => whnf) | (refine ix _ (by assumption) ?_; conv => whnf) | (refine ixI (by omega) (by assumption) ?_; conv => whnf) | (refine ix_new _ (by omega) fun _ _ => ?_; conv => whnf) | (refine ixI_new (by omega) (by omega) fun _ _ => ?_; conv => whnf) | (refine ⟨_, by assumption, ?_⟩; conv => whnf) | (refine Or.inl ?_; (conv => whnf); (repeat (refine And.intro (by first | omega | (simp; done) | (simp; omega)) ?_; (conv => whnf))); refine ⟨_, same_at hj ks3 kd3 rm3 rd3 h3 h3d, rfl, ?_⟩; conv => whnf) | (refine ⟨_, same_at hj ks3 kd3 rm3 rd3 h3 h3d, rfl, ?_⟩; conv => whnf) | (refine Or.inr (Or.inl ?_); (conv => whnf); (repeat (refine And.intro (by first | omega | (simp; done) | (simp; omega)) ?_; (conv => whnf))); refine ⟨_, same_at hj ks3 kd3 rm3 rd3 h3 h3d, ?_⟩; rintro _ _ ⟨rfl, rfl⟩; conv => whnf) | (refine Or.inr (Or.inl ?_); (conv => whnf); (repeat (refine And.intro (by first | omega | (simp; done) | (simp; omega)) ?_; (conv => whnf))); refine ⟨_, r1 , ?_⟩; rintro _ _ ⟨rfl, ks1, kd1, rm1, rd1, rfl, h1, h1d⟩ <;> (conv => whnf)) | (refine Or.inr (Or.inl ?_); (conv => whnf); (repeat (refine And.intro (by first | omega | (simp; done) | (simp; omega)) ?_; (conv => whnf))); refine ⟨_, r2 , ?_⟩; rintro _ _ ⟨rfl, ks2, kd2, rm2, rd2, rfl, h2, h2d⟩ <;> (conv => whnf)) | (refine Or.inr (Or.inl ?_); (conv => whnf); (repeat (refine And.intro (by first | omega | (simp; done) | (simp; omega)) ?_; (conv => whnf))); refine ⟨_, meet2_at hf hg ks1 ks2 rm1 rm2 h1 h2 , ?_⟩; rintro _ _ ⟨rfl, _, rfl, ks3, rm3, rfl, h3⟩ <;> (conv => whnf)) | (refine Or.inr (Or.inl ?_); (conv => whnf); (repeat (refine And.intro (by first | omega | (simp; done) | (simp; omega)) ?_; (conv => whnf))); refine ⟨_, rmeet2_at hf hg kd1 kd2 rd1 rd2 h1d h2d , ?_⟩; rintro _ _ ⟨rfl, _, rfl, kd3, rd3, rfl, h3d⟩ <;> (conv => whnf)) | (refine Alt2.l (And.intro (by first | omega | (simp; done) | (simp; omega)) ?_); conv => whnf) | (refine Alt2.r (And.intro (by first | omega | (simp; done) | (simp; omega)) ?_); conv => whnf) | (refine Ok.scope ?_) | (refine Ok.label ?_; conv => whnf) | (refine rd rfl (by assumption) ?_; conv => whnf) | (refine ⟨_, .inl ⟨rfl, rfl⟩, ?_⟩; conv => whnf) | (refine ⟨_, _, rfl, rfl, ?_⟩; conv => whnf) | (refine ⟨fun _ => ?_, fun _ => ?_⟩ <;> (conv => whnf) <;> (try (exfalso; omega))) | (refine And.intro (by first | omega | rfl | (simp; done) | (simp; omega)) ?_; conv => whnf) | (refine num_any ?_; conv => whnf) | (refine ⟨_, rfl, ?_⟩; conv => whnf) | fail)
  · exact absurd trivial (by assumption)
  · exact absurd trivial (by assumption)
  · refine Or.inl ?_; (conv => whnf)
    rfl
end Go.Proofs.YtaiondckookpiaaGreatDoor
/- One term taken out, by the document and by the program. -/
namespace Go.Proofs.YtaiondckookpiaaGreatDoor
open Go Go.Vx
theorem opt_some {o : Option Term} (h : o.isSome = true) : o = some (o.getD ⟨[], []⟩) := by
  cases o with
  | none => cases h
  | some t => rfl
theorem opt_none {o : Option Term} (h : ¬ o.isSome = true) : o = none := by
  cases o with
  | none => rfl
  | some t => exact absurd rfl h
theorem newTerm1_at (p : Str) (lss : List LR) {rl room : List (List D)} (hp : CN p) (hok : ∀ x ∈ lss, ∀ m ∈ x.l, CT m) (hn : (allL lss).length ≤ 100000) (h1 : lss.length ≤ 100000) (h : rl = lss.map lrow) :
    FSpec Tryz.prog T 72 [.agg (crow p), .lst 58 rl room] (fun d rows => ∃ rm, d = .tup [.agg (trow ⟨(termT p (allL lss)).getD ⟨[], []⟩, rm⟩), .b ((termT p (allL lss)).isSome = true)] ∧ rows = []) := by
  refine FSpec.mono (newTerm_at p lss hp hok hn h1 h) ?_
  rintro d rows ⟨rfl, ⟨ht, rfl⟩ | ⟨t, rm, ht, rfl⟩⟩
  · refine ⟨[], ?_, rfl⟩
    rw [ht]
    simp
  · refine ⟨rm, ?_, rfl⟩
    rw [ht]
    simp
theorem rterm1_at (p : Str) (less : List Str) {rl rm : List (List D)} (hp : p ≠ []) (hpl : p.length ≤ 256) (hl : less.length ≤ 100000) (hok : ∀ m ∈ less, m.length ≤ 256) (h : rl = less.map srow) :
    FSpec Tryz.prog T 74 [.s p, .lst 9 rl rm] (fun d rows => ∃ rm, d = .tup [.agg (drow ⟨(termT p less).getD ⟨[], []⟩, rm⟩), .b ((termT p less).isSome = true)] ∧ rows = []) := by
  refine FSpec.mono (rterm_at p less hp hpl hl hok h) ?_
  rintro d rows ⟨rfl, ⟨ht, rfl⟩ | ⟨t, rm, ht, rfl⟩⟩
  · refine ⟨[], ?_, rfl⟩
    rw [ht]
    simp
  · refine ⟨rm, ?_, rfl⟩
    rw [ht]
    simp
noncomputable def wout1 (a u : Term) : Option Term := termT a.p (a.less ++ [u.p])
noncomputable def wout2 (a : Term) (m : Str) : Option Term := (meetT a.p m).bind fun p => termT p a.less
noncomputable def wouts (ts : List Term) (u : Term) : List Term := ts.flatMap fun a => (wout1 a u).toList ++ u.less.filterMap (wout2 a)
noncomputable def withoutO (n : Int) (ts : List Term) (u : Term) : Int × Int × List Term := if ts.length * (1 + u.less.length) ≤ 2048 then bndO n (formT (wouts ts u)) else (3, 0, [])
theorem wout1_good {n : Nat} {a u t : Term} (ha : GoodT n a) (hu : GoodT n u) (h : wout1 a u = some t) : GoodT n t :=
  (termT_good ha.p ha.len (fun m hm => (List.mem_append.1 hm).elim (fun h => (ha.less m h).1) (fun h => by simp at h; rw [h]; exact hu.p.1)) h).1
theorem wout2_good {n : Nat} {a t : Term} {m : Str} (ha : GoodT n a) (hm : CN m) (h : wout2 a m = some t) : GoodT n t := by
  unfold wout2 at h
  obtain ⟨p, hp, ht⟩ := Option.bind_eq_some_iff.1 h
  have hc := meetT_ct hp ha.p.1 hm.1
  exact (termT_good ⟨hc.1, fun e => hc.2.2 (List.eq_nil_of_length_eq_zero (by rw [← hc.2.1, e]; rfl))⟩ (by rw [hc.2.1, ha.len]) (fun x hx => (ha.less x hx).1) ht).1
theorem wouts_good {n : Nat} {ts : List Term} {u : Term} (h1 : ∀ t ∈ ts, GoodT n t) (h2 : GoodT n u) : ∀ t ∈ wouts ts u, GoodT n t := by
  intro t ht
  obtain ⟨a, ha, h⟩ := List.mem_flatMap.1 ht
  rcases List.mem_append.1 h with h | h
  · exact wout1_good (h1 a ha) h2 (Option.mem_toList.1 h)
  · obtain ⟨m, hm, h⟩ := List.mem_filterMap.1 h
    exact wout2_good (h1 a ha) (h2.less m hm) h
theorem wouts_less {ts : List Term} {u : Term} {k : Nat} (h1 : ∀ t ∈ ts, t.less.length ≤ k) : ∀ t ∈ wouts ts u, t.less.length ≤ k + 1 := by
  intro t ht
  obtain ⟨a, ha, h⟩ := List.mem_flatMap.1 ht
  rcases List.mem_append.1 h with h | h
  · have := termT_sz (Option.mem_toList.1 h)
    have := h1 a ha
    rw [List.length_append] at *
    simp at *
    omega
  · obtain ⟨m, hm, h⟩ := List.mem_filterMap.1 h
    unfold wout2 at h
    obtain ⟨p, hp, ht⟩ := Option.bind_eq_some_iff.1 h
    have := termT_sz ht
    have := h1 a ha
    omega
theorem wouts_snoc {ts : List Term} {u : Term} {i : Nat} {a : Term} (h : ts[i]? = some a) : wouts (ts.take (i + 1)) u = wouts (ts.take i) u ++ ((wout1 a u).toList ++ u.less.filterMap (wout2 a)) := by
  unfold wouts
  rw [take_snoc h, List.flatMap_append]
  simp
theorem withoutO_ok {n : Int} {ts : List Term} {u : Term} (h : ts.length * (1 + u.less.length) ≤ 2048) : withoutO n ts u = bndO n (formT (wouts ts u)) := if_pos h
theorem withoutO_raw {n : Int} {ts : List Term} {u : Term} (h : ¬ ts.length * (1 + u.less.length) ≤ 2048) : withoutO n ts u = (3, 0, []) := if_neg h
theorem withoutO_fine {n : Int} {ts : List Term} {u : Term} (hf : Fine n ts) (hu : GoodT n.toNat u) : Fine (withoutO n ts u).2.1 (withoutO n ts u).2.2 := by
  unfold withoutO
  split
  · exact bndO_fine hf.n0 hf.n1 (wouts_good hf.good hu)
  · exact .nil (by decide) (by decide)
set_option maxRecDepth 100000 in
set_option maxHeartbeats 8000000 in
theorem rwithout_at {n : Int} {ts : List Term} (hf : Fine n ts) (u : TR) (hu : GoodT n.toNat u.t) (hul : u.t.less.length ≤ 127) (ks : List TR) (rm : List (List D)) (h1 : ks.map TR.t = ts) :
    FSpec Tryz.prog T 81 [.agg [.i .i64 n, .lst 120 (ks.map drow) rm], .agg (drow u)] (DOut (withoutO n ts u.t)) := by
  have hl1 : ks.length = ts.length := by rw [← h1, List.length_map]
  have hm1 : (ks.map drow).length = ts.length := by simp [hl1]
  have hm2 : (u.t.less.map srow).length = u.t.less.length := by simp
  have hk1 := hf.len
  have hmul : ((List.map drow ks).length : Int) * (1 + ((List.map srow u.t.less).length : Int)) = ((ts.length * (1 + u.t.less.length) : Nat) : Int) := by rw [hm1, hm2]; simp
  have hmb : ts.length * (1 + u.t.less.length) ≤ 128 * 128 := Nat.mul_le_mul hk1 (by omega)
  refine FSpec.of_ok tok Tryz.func81 rfl Tryz.call81 (by simp) ?_
  by_cases hraw : ts.length * (1 + u.t.less.length) ≤ 2048
  · rw [withoutO_ok hraw]
    (try (conv => whnf)); repeat' (first | refine Ok.seq ?_ | refine OkL.cons ?_ | (refine Ok.region tok ?_; conv => whnf) | (refine Ok.region_tree (id := 8) tok follows [(5, 6, []), (3, 7, []), (5, 7, [6]), (6, 7, []), (1, 8, []), (3, 8, [7]), (5, 8, [7, 6]), (6, 8, [7]), (7, 8, []), (1, 13, []), (3, 13, []), (5, 13, []), (6, 13, []), (7, 13, []), (8, 13, []), (12, 13, [])] (.q 0 (.q 1 (.q 2 (.q 3 (.q 4 (.q 5 (.alt 6 (.alt 7 (.alt 8 (.q 9 (.q 10 (.q 11 (.l 12 (.l 13 (.q 14 .nil)))))) (.alt 12 (.l 8 (.q 9 (.q 10 (.q 11 (.l 13 (.q 14 .nil)))))) .nil)) (.alt 12 (.l 7 (.l 8 (.q 9 (.q 10 (.q 11 (.l 13 (.q 14 .nil))))))) .nil)) (.alt 12 (.l 6 (.l 7 (.l 8 (.q 9 (.q 10 (.q 11 (.l 13 (.q 14 .nil)))))))) .nil)))))))) (by kernel_rfl) ?_; conv => whnf) | (refine Ok.region_plan (id := 14) tok follows [(1, 7, []), (3, 7, [6, 5]), (6, 7, [])] [.q 0, .q 1, .q 2, .q 3, .q 4, .q 5, .q 6, .l 7, .q 8, .q 9, .q 10, .q 11, .q 12] (by kernel_rfl) ?_; conv => whnf) | (refine Ok.region_draw tok follows (by kernel_rfl) ?_; conv => whnf) | (refine Ok.cond ?_; conv => whnf) | refine Ok.block ?_ | (refine Ok.skip ?_; conv => whnf) | (refine Ok.exit ?_; conv => whnf) | (refine Ok.ret ?_; conv => whnf) | (refine num_in (by omega) (by omega) ?_; conv => whnf) | (refine ix _ (by assumption) ?_; conv => whnf) | (refine ixI (by omega) (by assumption) ?_; conv => whnf) | (refine ix_new _ (by omega) fun _ _ => ?_; conv => whnf) | (refine ixI_new (by omega) (by omega) fun _ _ => ?_; conv => whnf) | (refine ⟨_, by assumption, ?_⟩; conv => whnf) | (refine Alt2.l (And.intro (by first | omega | (simp; done) | (simp; omega)) ?_); conv => whnf) | (refine Alt2.r (And.intro (by first | omega | (simp; done) | (simp; omega)) ?_); conv => whnf) | (refine Ok.scope ?_) | (refine Ok.label ?_; conv => whnf) | (refine rd rfl (by assumption) ?_; conv => whnf) | (refine ⟨_, .inl ⟨rfl, rfl⟩, ?_⟩; conv => whnf) | (refine ⟨_, _, rfl, rfl, ?_⟩; conv => whnf) | (refine ⟨fun _ => ?_, fun _ => ?_⟩ <;> (conv => whnf) <;> (try (exfalso; omega))) | (refine And.intro (by first | omega | rfl | (simp; done) | (simp; omega)) ?_; conv => whnf) | (refine num_any ?_; conv => whnf) | (refine ⟨_, rfl, ?_⟩; conv => whnf) | (exact True.intro) | (refine And.intro ?_ ?_ <;> (conv => whnf)) | fail)
    refine Ok.ghost 6 120 rfl ?_
    (conv => whnf)
    refine Ok.loopU [2, 3, 4] [6, 7] 1 3 (fun (x : Nat × List TR) => [.own 0 x.2.length, .i .i64 (x.1 : Nat)]) (fun _ b => b) (fun (x : Nat × List TR) (_ : Vx.Rows) => [some (120, x.2.map drow)]) (fun (x : Nat × List TR) => x.1 ≤ ts.length ∧ x.2.map TR.t = wouts (ts.take x.1) u.t ∧ x.2.length ≤ x.1 * 128) (fun (x : Nat × List TR) => ts.length - x.1) ((0, [])) (⟨Nat.zero_le _, by simp [wouts], by simp⟩) ?_; (conv => whnf); refine ⟨by ((conv => whnf); first | rfl | (simp [envCat, List.take_of_length_le, crow, trow, srow, drow]; done) | (simp [envCat, List.take_of_length_le, crow, trow, srow, drow]; rw [IntKind.wrap_i64]; omega)), ?_⟩
    rintro ⟨i, l⟩ ⟨hi, hl, hll⟩
    dsimp only at hi hl hll ⊢
    have hlm : (l.map drow).length = l.length := by simp
    (conv => whnf)
    by_cases hil : i < ts.length
    · obtain ⟨a, ha⟩ : ∃ a, ks[i]? = some a := ⟨_, List.getElem?_eq_getElem (by omega)⟩
      have haI : ks[((i : Nat) : Int).toNat]? = some a := ha
      have hat := tr_get h1 ha
      have hag := hf.good _ (List.mem_of_getElem? hat)
      have hal := hf.less (List.mem_of_getElem? hat)
      have hal2 : (a.t.less.map srow).length = a.t.less.length := by simp
      have hsn := wouts_snoc (u := u.t) hat
      have hbo := both_at a.t.less [u.t.p] (rm1 := a.room) (rm2 := []) (r2 := [[.s u.t.p]]) rfl rfl (by omega) (by simp)
      have hw1 : ∀ m ∈ a.t.less ++ [u.t.p], m.length ≤ 256 := fun m hm => (List.mem_append.1 hm).elim (fun h => (hag.less m h).1.len) (fun h => by simp at h; rw [h]; exact hu.p.1.len)
      (try (conv => whnf)); repeat' (first | (refine Ok.seqV (c1 := .region 8 _ _) [2, 3, 4, 6, 7, 8] [9, 10] 1 4 1 5 (fun _ : List (List D) => [.bp 4 0, .b ((wout1 a.t u.t).isSome = true)]) (fun rm b => b ++ [drow ⟨(wout1 a.t u.t).getD ⟨[], []⟩, rm⟩]) (fun _ r => r) (fun _ => True) ?_; (conv => whnf); refine And.intro ?_ ?_) | refine Ok.seq ?_ | refine OkL.cons ?_ | (refine Ok.region tok ?_; conv => whnf) | (refine Ok.region_tree (id := 8) tok follows [(5, 6, []), (3, 7, []), (5, 7, [6]), (6, 7, []), (1, 8, []), (3, 8, [7]), (5, 8, [7, 6]), (6, 8, [7]), (7, 8, []), (1, 13, []), (3, 13, []), (5, 13, []), (6, 13, []), (7, 13, []), (8, 13, []), (12, 13, [])] (.q 0 (.q 1 (.q 2 (.q 3 (.q 4 (.q 5 (.alt 6 (.alt 7 (.alt 8 (.q 9 (.q 10 (.q 11 (.l 12 (.l 13 (.q 14 .nil)))))) (.alt 12 (.l 8 (.q 9 (.q 10 (.q 11 (.l 13 (.q 14 .nil)))))) .nil)) (.alt 12 (.l 7 (.l 8 (.q 9 (.q 10 (.q 11 (.l 13 (.q 14 .nil))))))) .nil)) (.alt 12 (.l 6 (.l 7 (.l 8 (.q 9 (.q 10 (.q 11 (.l 13 (.q 14 .nil)))))))) .nil)))))))) (by kernel_rfl) ?_; conv => whnf) | (refine Ok.region_plan (id := 14) tok follows [(1, 7, []), (3, 7, [6, 5]), (6, 7, [])] [.q 0, .q 1, .q 2, .q 3, .q 4, .q 5, .q 6, .l 7, .q 8, .q 9, .q 10, .q 11, .q 12] (by kernel_rfl) ?_; conv => whnf) | (refine Ok.region_draw tok follows (by kernel_rfl) ?_; conv => whnf) | (refine Ok.cond ?_; conv => whnf) | refine Ok.block ?_ | (refine Ok.skip ?_; conv => whnf) | (refine Ok.exit ?_; conv => whnf) | (refine Ok.ret ?_; conv => whnf) | (refine num_in (by omega) (by omega) ?_; conv => whnf) | (refine ix _ (by assumption) ?_; conv => whnf) | (refine ixI (by omega) (by assumption) ?_; conv => whnf) | (refine ix_new _ (by omega) fun _ _ => ?_; conv => whnf) | (refine ixI_new (by omega) (by omega) fun _ _ => ?_; conv => whnf) | (refine ⟨_, by assumption, ?_⟩; conv => whnf) | (refine Or.inr (Or.inl ?_); (conv => whnf); (repeat (refine And.intro (by first | omega | (simp; done) | (simp; omega)) ?_; (conv => whnf))); refine ⟨_, hbo , ?_⟩; rintro _ _ ⟨rm3, rfl, rfl⟩ <;> (conv => whnf)) | (refine Or.inr (Or.inl ?_); (conv => whnf); (repeat (refine And.intro (by first | omega | (simp; done) | (simp; omega)) ?_; (conv => whnf))); refine ⟨_, rterm1_at a.t.p (a.t.less ++ [u.t.p]) hag.p.2 hag.p.1.len (by simp; omega) hw1 rfl , ?_⟩; rintro _ _ ⟨rm4, rfl, rfl⟩ <;> (conv => whnf)) | (refine Alt2.l (And.intro (by first | omega | (simp; done) | (simp; omega)) ?_); conv => whnf) | (refine Alt2.r (And.intro (by first | omega | (simp; done) | (simp; omega)) ?_); conv => whnf) | (refine Ok.scope ?_) | (refine Ok.label ?_; conv => whnf) | (refine rd rfl (by assumption) ?_; conv => whnf) | (refine ⟨_, .inl ⟨rfl, rfl⟩, ?_⟩; conv => whnf) | (refine ⟨_, _, rfl, rfl, ?_⟩; conv => whnf) | (refine ⟨fun _ => ?_, fun _ => ?_⟩ <;> (conv => whnf) <;> (try (exfalso; omega))) | (refine And.intro (by first | omega | rfl | (simp; done) | (simp; omega)) ?_; conv => whnf) | (refine num_any ?_; conv => whnf) | (refine ⟨_, rfl, ?_⟩; conv => whnf) | (exact True.intro) | (refine And.intro ?_ ?_ <;> (conv => whnf)) | fail)
      any_goals
        refine ⟨rm4, trivial, ?_⟩
        (conv => whnf)
        rfl
      rintro rm4 -
      (conv => whnf)
      have hwl : (wout1 a.t u.t).toList.length ≤ 1 := by cases wout1 a.t u.t <;> simp
      (try (conv => whnf)); repeat' (first | (refine Ok.seqU (c1 := .seq (.region 9 _ _) _) [2, 3, 4, 7, 8, 9] [6] 1 5 (fun x : List TR => [.own 0 x.length]) (fun _ b => b) (fun (x : List TR) (_ : Vx.Rows) => [some (120, x.map drow)]) (fun x => x.map TR.t = wouts (ts.take i) u.t ++ (wout1 a.t u.t).toList ∧ x.length ≤ l.length + 1) ?_; (conv => whnf); refine And.intro ?_ ?_) | refine Ok.seq ?_ | refine OkL.cons ?_ | (refine Ok.region tok ?_; conv => whnf) | (refine Ok.region_tree (id := 8) tok follows [(5, 6, []), (3, 7, []), (5, 7, [6]), (6, 7, []), (1, 8, []), (3, 8, [7]), (5, 8, [7, 6]), (6, 8, [7]), (7, 8, []), (1, 13, []), (3, 13, []), (5, 13, []), (6, 13, []), (7, 13, []), (8, 13, []), (12, 13, [])] (.q 0 (.q 1 (.q 2 (.q 3 (.q 4 (.q 5 (.alt 6 (.alt 7 (.alt 8 (.q 9 (.q 10 (.q 11 (.l 12 (.l 13 (.q 14 .nil)))))) (.alt 12 (.l 8 (.q 9 (.q 10 (.q 11 (.l 13 (.q 14 .nil)))))) .nil)) (.alt 12 (.l 7 (.l 8 (.q 9 (.q 10 (.q 11 (.l 13 (.q 14 .nil))))))) .nil)) (.alt 12 (.l 6 (.l 7 (.l 8 (.q 9 (.q 10 (.q 11 (.l 13 (.q 14 .nil)))))))) .nil)))))))) (by kernel_rfl) ?_; conv => whnf) | (refine Ok.region_plan (id := 14) tok follows [(1, 7, []), (3, 7, [6, 5]), (6, 7, [])] [.q 0, .q 1, .q 2, .q 3, .q 4, .q 5, .q 6, .l 7, .q 8, .q 9, .q 10, .q 11, .q 12] (by kernel_rfl) ?_; conv => whnf) | (refine Ok.region_draw tok follows (by kernel_rfl) ?_; conv => whnf) | (refine Ok.cond ?_; conv => whnf) | refine Ok.block ?_ | (refine Ok.skip ?_; conv => whnf) | (refine Ok.exit ?_; conv => whnf) | (refine Ok.ret ?_; conv => whnf) | (refine num_in (by omega) (by omega) ?_; conv => whnf) | (refine ix _ (by assumption) ?_; conv => whnf) | (refine ixI (by omega) (by assumption) ?_; conv => whnf) | (refine ix_new _ (by omega) fun _ _ => ?_; conv => whnf) | (refine ixI_new (by omega) (by omega) fun _ _ => ?_; conv => whnf) | (refine ⟨_, by assumption, ?_⟩; conv => whnf) | (refine Alt2.l (And.intro (by first | omega | (simp; done) | (simp; omega)) ?_); conv => whnf) | (refine Alt2.r (And.intro (by first | omega | (simp; done) | (simp; omega)) ?_); conv => whnf) | (refine Ok.scope ?_) | (refine Ok.label ?_; conv => whnf) | (refine rd rfl (by assumption) ?_; conv => whnf) | (refine ⟨_, .inl ⟨rfl, rfl⟩, ?_⟩; conv => whnf) | (refine ⟨_, _, rfl, rfl, ?_⟩; conv => whnf) | (refine ⟨fun _ => ?_, fun _ => ?_⟩ <;> (conv => whnf) <;> (try (exfalso; omega))) | (refine And.intro (by first | omega | rfl | (simp; done) | (simp; omega)) ?_; conv => whnf) | (refine num_any ?_; conv => whnf) | (refine ⟨_, rfl, ?_⟩; conv => whnf) | (exact True.intro) | (refine And.intro ?_ ?_ <;> (conv => whnf)) | fail)
      · rename_i h
        refine ⟨l ++ [⟨(wout1 a.t u.t).getD ⟨[], []⟩, rm4⟩], ⟨?_, by simp⟩, ?_⟩
        · rw [List.map_append, hl, opt_some h]
          rfl
        · (conv => whnf)
          simp [envCat]
      · rename_i h
        refine ⟨l, ⟨?_, by omega⟩, ?_⟩
        · rw [hl, opt_none h]
          simp
        · (conv => whnf)
          rfl
      rintro l1 ⟨hl1e, hl1l⟩
      (conv => whnf)
      (try (conv => whnf)); repeat' (first | refine Ok.seq ?_ | refine OkL.cons ?_ | (refine Ok.region tok ?_; conv => whnf) | (refine Ok.region_tree (id := 8) tok follows [(5, 6, []), (3, 7, []), (5, 7, [6]), (6, 7, []), (1, 8, []), (3, 8, [7]), (5, 8, [7, 6]), (6, 8, [7]), (7, 8, []), (1, 13, []), (3, 13, []), (5, 13, []), (6, 13, []), (7, 13, []), (8, 13, []), (12, 13, [])] (.q 0 (.q 1 (.q 2 (.q 3 (.q 4 (.q 5 (.alt 6 (.alt 7 (.alt 8 (.q 9 (.q 10 (.q 11 (.l 12 (.l 13 (.q 14 .nil)))))) (.alt 12 (.l 8 (.q 9 (.q 10 (.q 11 (.l 13 (.q 14 .nil)))))) .nil)) (.alt 12 (.l 7 (.l 8 (.q 9 (.q 10 (.q 11 (.l 13 (.q 14 .nil))))))) .nil)) (.alt 12 (.l 6 (.l 7 (.l 8 (.q 9 (.q 10 (.q 11 (.l 13 (.q 14 .nil)))))))) .nil)))))))) (by kernel_rfl) ?_; conv => whnf) | (refine Ok.region_plan (id := 14) tok follows [(1, 7, []), (3, 7, [6, 5]), (6, 7, [])] [.q 0, .q 1, .q 2, .q 3, .q 4, .q 5, .q 6, .l 7, .q 8, .q 9, .q 10, .q 11, .q 12] (by kernel_rfl) ?_; conv => whnf) | (refine Ok.region_draw tok follows (by kernel_rfl) ?_; conv => whnf) | (refine Ok.cond ?_; conv => whnf) | refine Ok.block ?_ | (refine Ok.skip ?_; conv => whnf) | (refine Ok.exit ?_; conv => whnf) | (refine Ok.ret ?_; conv => whnf) | (refine num_in (by omega) (by omega) ?_; conv => whnf) | (refine ix _ (by assumption) ?_; conv => whnf) | (refine ixI (by omega) (by assumption) ?_; conv => whnf) | (refine ix_new _ (by omega) fun _ _ => ?_; conv => whnf) | (refine ixI_new (by omega) (by omega) fun _ _ => ?_; conv => whnf) | (refine ⟨_, by assumption, ?_⟩; conv => whnf) | (refine Alt2.l (And.intro (by first | omega | (simp; done) | (simp; omega)) ?_); conv => whnf) | (refine Alt2.r (And.intro (by first | omega | (simp; done) | (simp; omega)) ?_); conv => whnf) | (refine Ok.scope ?_) | (refine Ok.label ?_; conv => whnf) | (refine rd rfl (by assumption) ?_; conv => whnf) | (refine ⟨_, .inl ⟨rfl, rfl⟩, ?_⟩; conv => whnf) | (refine ⟨_, _, rfl, rfl, ?_⟩; conv => whnf) | (refine ⟨fun _ => ?_, fun _ => ?_⟩ <;> (conv => whnf) <;> (try (exfalso; omega))) | (refine And.intro (by first | omega | rfl | (simp; done) | (simp; omega)) ?_; conv => whnf) | (refine num_any ?_; conv => whnf) | (refine ⟨_, rfl, ?_⟩; conv => whnf) | (exact True.intro) | (refine And.intro ?_ ?_ <;> (conv => whnf)) | fail)
      refine Ok.loopU [2, 3, 4, 7, 8, 9] [6, 11] 1 5 (fun (x : Nat × List TR × TR) => [.own 0 x.2.1.length, .i .i64 (x.1 : Nat)]) (fun (x : Nat × List TR × TR) (_ : List (List D)) => [[.i .i64 n, .lst 120 (ks.map drow) rm], drow u, [.i .i64 0, .nilS], drow a, drow x.2.2]) (fun (x : Nat × List TR × TR) (_ : Vx.Rows) => [some (120, x.2.1.map drow)]) (fun (x : Nat × List TR × TR) => x.1 ≤ u.t.less.length ∧ x.2.1.map TR.t = wouts (ts.take i) u.t ++ ((wout1 a.t u.t).toList ++ (u.t.less.take x.1).filterMap (wout2 a.t)) ∧ x.2.1.length ≤ l.length + 1 + x.1) (fun (x : Nat × List TR × TR) => u.t.less.length - x.1) ((0, l1, ⟨(wout1 a.t u.t).getD ⟨[], []⟩, rm4⟩)) (⟨Nat.zero_le _, by simpa using hl1e, by simpa using hl1l⟩) ?_; (conv => whnf); refine ⟨by ((conv => whnf); first | rfl | (simp [envCat, List.take_of_length_le, crow, trow, srow, drow]; done) | (simp [envCat, List.take_of_length_le, crow, trow, srow, drow]; rw [IntKind.wrap_i64]; omega)), ?_⟩
      rintro ⟨j, l2, tb⟩ ⟨hj, hl2e, hl2l⟩
      dsimp only at hj hl2e hl2l ⊢
      have hl2m : (l2.map drow).length = l2.length := by simp
      (conv => whnf)
      by_cases hjl : j < u.t.less.length
      · obtain ⟨m, hm⟩ : ∃ m, u.t.less[j]? = some m := ⟨_, List.getElem?_eq_getElem hjl⟩
        have hmI : u.t.less[((j : Nat) : Int).toNat]? = some m := hm
        have hmc := hu.less m (List.mem_of_getElem? hm)
        have hal3 := hag.p.1.len
        (try (conv => whnf)); repeat' (first | (refine Ok.seqU (c1 := .region 14 _ _) [2, 3, 4, 6, 7, 8, 9, 11] [12, 13] 1 5 (fun _ : Unit => [.s ((meetT a.t.p m).getD []), .b ((meetT a.t.p m).isSome = true)]) (fun _ b => b) (fun _ r => r) (fun _ => True) ?_; (conv => whnf); refine And.intro ?_ ?_) | refine Ok.seq ?_ | refine OkL.cons ?_ | (refine Ok.region tok ?_; conv => whnf) | (refine Ok.region_tree (id := 8) tok follows [(5, 6, []), (3, 7, []), (5, 7, [6]), (6, 7, []), (1, 8, []), (3, 8, [7]), (5, 8, [7, 6]), (6, 8, [7]), (7, 8, []), (1, 13, []), (3, 13, []), (5, 13, []), (6, 13, []), (7, 13, []), (8, 13, []), (12, 13, [])] (.q 0 (.q 1 (.q 2 (.q 3 (.q 4 (.q 5 (.alt 6 (.alt 7 (.alt 8 (.q 9 (.q 10 (.q 11 (.l 12 (.l 13 (.q 14 .nil)))))) (.alt 12 (.l 8 (.q 9 (.q 10 (.q 11 (.l 13 (.q 14 .nil)))))) .nil)) (.alt 12 (.l 7 (.l 8 (.q 9 (.q 10 (.q 11 (.l 13 (.q 14 .nil))))))) .nil)) (.alt 12 (.l 6 (.l 7 (.l 8 (.q 9 (.q 10 (.q 11 (.l 13 (.q 14 .nil)))))))) .nil)))))))) (by kernel_rfl) ?_; conv => whnf) | (refine Ok.region_plan (id := 14) tok follows [(1, 7, []), (3, 7, [6, 5]), (6, 7, [])] [.q 0, .q 1, .q 2, .q 3, .q 4, .q 5, .q 6, .l 7, .q 8, .q 9, .q 10, .q 11, .q 12] (by kernel_rfl) ?_; conv => whnf) | (refine Ok.region_draw tok follows (by kernel_rfl) ?_; conv => whnf) | (refine Ok.cond ?_; conv => whnf) | refine Ok.block ?_ | (refine Ok.skip ?_; conv => whnf) | (refine Ok.exit ?_; conv => whnf) | (refine Ok.ret ?_; conv => whnf) | (refine num_in (by omega) (by omega) ?_; conv => whnf) | (refine ix _ (by assumption) ?_; conv => whnf) | (refine ixI (by omega) (by assumption) ?_; conv => whnf) | (refine ix_new _ (by omega) fun _ _ => ?_; conv => whnf) | (refine ixI_new (by omega) (by omega) fun _ _ => ?_; conv => whnf) | (refine ⟨_, by assumption, ?_⟩; conv => whnf) | (refine Or.inr (Or.inl ?_); (conv => whnf); (repeat (refine And.intro (by first | omega | (simp; done) | (simp; omega)) ?_; (conv => whnf))); refine ⟨_, rmeet_at a.t.p m (by omega), ?_⟩; rintro _ _ ⟨rfl, rfl⟩ <;> (conv => whnf)) | (refine Alt2.l (And.intro (by first | omega | (simp; done) | (simp; omega)) ?_); conv => whnf) | (refine Alt2.r (And.intro (by first | omega | (simp; done) | (simp; omega)) ?_); conv => whnf) | (refine Ok.scope ?_) | (refine Ok.label ?_; conv => whnf) | (refine rd rfl (by assumption) ?_; conv => whnf) | (refine ⟨_, .inl ⟨rfl, rfl⟩, ?_⟩; conv => whnf) | (refine ⟨_, _, rfl, rfl, ?_⟩; conv => whnf) | (refine ⟨fun _ => ?_, fun _ => ?_⟩ <;> (conv => whnf) <;> (try (exfalso; omega))) | (refine And.intro (by first | omega | rfl | (simp; done) | (simp; omega)) ?_; conv => whnf) | (refine num_any ?_; conv => whnf) | (refine ⟨_, rfl, ?_⟩; conv => whnf) | (exact True.intro) | (refine And.intro ?_ ?_ <;> (conv => whnf)) | fail)
        any_goals
          refine ⟨(), trivial, ?_⟩
          (conv => whnf)
          rfl
        rintro - -
        (conv => whnf)
        cases hmt : meetT a.t.p m with
        | none =>
          have hno : wout2 a.t m = none := by unfold wout2; rw [hmt]; rfl
          (try (conv => whnf)); repeat' (first | refine Ok.seq ?_ | refine OkL.cons ?_ | (refine Ok.region tok ?_; conv => whnf) | (refine Ok.region_tree (id := 8) tok follows [(5, 6, []), (3, 7, []), (5, 7, [6]), (6, 7, []), (1, 8, []), (3, 8, [7]), (5, 8, [7, 6]), (6, 8, [7]), (7, 8, []), (1, 13, []), (3, 13, []), (5, 13, []), (6, 13, []), (7, 13, []), (8, 13, []), (12, 13, [])] (.q 0 (.q 1 (.q 2 (.q 3 (.q 4 (.q 5 (.alt 6 (.alt 7 (.alt 8 (.q 9 (.q 10 (.q 11 (.l 12 (.l 13 (.q 14 .nil)))))) (.alt 12 (.l 8 (.q 9 (.q 10 (.q 11 (.l 13 (.q 14 .nil)))))) .nil)) (.alt 12 (.l 7 (.l 8 (.q 9 (.q 10 (.q 11 (.l 13 (.q 14 .nil))))))) .nil)) (.alt 12 (.l 6 (.l 7 (.l 8 (.q 9 (.q 10 (.q 11 (.l 13 (.q 14 .nil)))))))) .nil)))))))) (by kernel_rfl) ?_; conv => whnf) | (refine Ok.region_plan (id := 14) tok follows [(1, 7, []), (3, 7, [6, 5]), (6, 7, [])] [.q 0, .q 1, .q 2, .q 3, .q 4, .q 5, .q 6, .l 7, .q 8, .q 9, .q 10, .q 11, .q 12] (by kernel_rfl) ?_; conv => whnf) | (refine Ok.region_draw tok follows (by kernel_rfl) ?_; conv => whnf) | (refine Ok.cond ?_; conv => whnf) | refine Ok.block ?_ | (refine Ok.skip ?_; conv => whnf) | (refine Ok.exit ?_; conv => whnf) | (refine Ok.ret ?_; conv => whnf) | (refine num_in (by omega) (by omega) ?_; conv => whnf) | (refine ix _ (by assumption) ?_; conv => whnf) | (refine ixI (by omega) (by assumption) ?_; conv => whnf) | (refine ix_new _ (by omega) fun _ _ => ?_; conv => whnf) | (refine ixI_new (by omega) (by omega) fun _ _ => ?_; conv => whnf) | (refine ⟨_, by assumption, ?_⟩; conv => whnf) | (refine Alt2.l (And.intro (by first | omega | (simp; done) | (simp; omega)) ?_); conv => whnf) | (refine Alt2.r (And.intro (by first | omega | (simp; done) | (simp; omega)) ?_); conv => whnf) | (refine Ok.scope ?_) | (refine Ok.label ?_; conv => whnf) | (refine rd rfl (by assumption) ?_; conv => whnf) | (refine ⟨_, .inl ⟨rfl, rfl⟩, ?_⟩; conv => whnf) | (refine ⟨_, _, rfl, rfl, ?_⟩; conv => whnf) | (refine ⟨fun _ => ?_, fun _ => ?_⟩ <;> (conv => whnf) <;> (try (exfalso; omega))) | (refine And.intro (by first | omega | rfl | (simp; done) | (simp; omega)) ?_; conv => whnf) | (refine num_any ?_; conv => whnf) | (refine ⟨_, rfl, ?_⟩; conv => whnf) | (exact True.intro) | (refine And.intro ?_ ?_ <;> (conv => whnf)) | fail)
          · refine ⟨(j + 1, l2, tb), by dsimp only; omega, ⟨by dsimp only; omega, by dsimp only; rw [fm_none hm hno]; exact hl2e, by dsimp only; omega⟩, ?_⟩
            (conv => whnf)
            rfl
          all_goals (rename_i h; exact absurd (fun q => by cases q) h)
        | some p =>
          have hpc := meetT_ct hmt hag.p.1 hmc.1
          have hpn : p ≠ [] := fun e => hpc.2.2 (List.eq_nil_of_length_eq_zero (by rw [← hpc.2.1, e]; rfl))
          have hm2 : wout2 a.t m = termT p a.t.less := by unfold wout2; rw [hmt]; rfl
          (try (conv => whnf)); repeat' (first | refine Ok.seq ?_ | refine OkL.cons ?_ | (refine Ok.region tok ?_; conv => whnf) | (refine Ok.region_tree (id := 8) tok follows [(5, 6, []), (3, 7, []), (5, 7, [6]), (6, 7, []), (1, 8, []), (3, 8, [7]), (5, 8, [7, 6]), (6, 8, [7]), (7, 8, []), (1, 13, []), (3, 13, []), (5, 13, []), (6, 13, []), (7, 13, []), (8, 13, []), (12, 13, [])] (.q 0 (.q 1 (.q 2 (.q 3 (.q 4 (.q 5 (.alt 6 (.alt 7 (.alt 8 (.q 9 (.q 10 (.q 11 (.l 12 (.l 13 (.q 14 .nil)))))) (.alt 12 (.l 8 (.q 9 (.q 10 (.q 11 (.l 13 (.q 14 .nil)))))) .nil)) (.alt 12 (.l 7 (.l 8 (.q 9 (.q 10 (.q 11 (.l 13 (.q 14 .nil))))))) .nil)) (.alt 12 (.l 6 (.l 7 (.l 8 (.q 9 (.q 10 (.q 11 (.l 13 (.q 14 .nil)))))))) .nil)))))))) (by kernel_rfl) ?_; conv => whnf) | (refine Ok.region_plan (id := 14) tok follows [(1, 7, []), (3, 7, [6, 5]), (6, 7, [])] [.q 0, .q 1, .q 2, .q 3, .q 4, .q 5, .q 6, .l 7, .q 8, .q 9, .q 10, .q 11, .q 12] (by kernel_rfl) ?_; conv => whnf) | (refine Ok.region_draw tok follows (by kernel_rfl) ?_; conv => whnf) | (refine Ok.cond ?_; conv => whnf) | refine Ok.block ?_ | (refine Ok.skip ?_; conv => whnf) | (refine Ok.exit ?_; conv => whnf) | (refine Ok.ret ?_; conv => whnf) | (refine num_in (by omega) (by omega) ?_; conv => whnf) | (refine ix _ (by assumption) ?_; conv => whnf) | (refine ixI (by omega) (by assumption) ?_; conv => whnf) | (refine ix_new _ (by omega) fun _ _ => ?_; conv => whnf) | (refine ixI_new (by omega) (by omega) fun _ _ => ?_; conv => whnf) | (refine ⟨_, by assumption, ?_⟩; conv => whnf) | (refine Or.inr (Or.inl ?_); (conv => whnf); (repeat (refine And.intro (by first | omega | (simp; done) | (simp; omega)) ?_; (conv => whnf))); refine ⟨_, rterm1_at p a.t.less hpn hpc.1.len (by omega) (fun x hx => (hag.less x hx).1.len) rfl , ?_⟩; rintro _ _ ⟨rm5, rfl, rfl⟩ <;> (conv => whnf)) | (refine Alt2.l (And.intro (by first | omega | (simp; done) | (simp; omega)) ?_); conv => whnf) | (refine Alt2.r (And.intro (by first | omega | (simp; done) | (simp; omega)) ?_); conv => whnf) | (refine Ok.scope ?_) | (refine Ok.label ?_; conv => whnf) | (refine rd rfl (by assumption) ?_; conv => whnf) | (refine ⟨_, .inl ⟨rfl, rfl⟩, ?_⟩; conv => whnf) | (refine ⟨_, _, rfl, rfl, ?_⟩; conv => whnf) | (refine ⟨fun _ => ?_, fun _ => ?_⟩ <;> (conv => whnf) <;> (try (exfalso; omega))) | (refine And.intro (by first | omega | rfl | (simp; done) | (simp; omega)) ?_; conv => whnf) | (refine num_any ?_; conv => whnf) | (refine ⟨_, rfl, ?_⟩; conv => whnf) | (exact True.intro) | (refine And.intro ?_ ?_ <;> (conv => whnf)) | fail)
          · rename_i h
            exact absurd rfl h
          · rename_i h
            refine ⟨(j + 1, l2 ++ [⟨(termT p a.t.less).getD ⟨[], []⟩, rm5⟩], ⟨(termT p a.t.less).getD ⟨[], []⟩, rm5⟩), by dsimp only; omega, ⟨by dsimp only; omega, ?_, by simp; omega⟩, ?_⟩
            · dsimp only
              rw [fm_some hm (hm2.trans (opt_some h)), List.map_append, hl2e]
              simp
            · (conv => whnf)
              simp [envCat]
          · rename_i h
            refine ⟨(j + 1, l2, ⟨(termT p a.t.less).getD ⟨[], []⟩, rm5⟩), by dsimp only; omega, ⟨by dsimp only; omega, by dsimp only; rw [fm_none hm (hm2.trans (opt_none h))]; exact hl2e, by dsimp only; omega⟩, ?_⟩
            (conv => whnf)
            rfl
      · have hje : j = u.t.less.length := by omega
        subst hje
        rw [List.take_length] at hl2e
        (try (conv => whnf)); repeat' (first | refine Ok.seq ?_ | refine OkL.cons ?_ | (refine Ok.region tok ?_; conv => whnf) | (refine Ok.region_tree (id := 8) tok follows [(5, 6, []), (3, 7, []), (5, 7, [6]), (6, 7, []), (1, 8, []), (3, 8, [7]), (5, 8, [7, 6]), (6, 8, [7]), (7, 8, []), (1, 13, []), (3, 13, []), (5, 13, []), (6, 13, []), (7, 13, []), (8, 13, []), (12, 13, [])] (.q 0 (.q 1 (.q 2 (.q 3 (.q 4 (.q 5 (.alt 6 (.alt 7 (.alt 8 (.q 9 (.q 10 (.q 11 (.l 12 (.l 13 (.q 14 .nil)))))) (.alt 12 (.l 8 (.q 9 (.q 10 (.q 11 (.l 13 (.q 14 .nil)))))) .nil)) (.alt 12 (.l 7 (.l 8 (.q 9 (.q 10 (.q 11 (.l 13 (.q 14 .nil))))))) .nil)) (.alt 12 (.l 6 (.l 7 (.l 8 (.q 9 (.q 10 (.q 11 (.l 13 (.q 14 .nil)))))))) .nil)))))))) (by kernel_rfl) ?_; conv => whnf) | (refine Ok.region_plan (id := 14) tok follows [(1, 7, []), (3, 7, [6, 5]), (6, 7, [])] [.q 0, .q 1, .q 2, .q 3, .q 4, .q 5, .q 6, .l 7, .q 8, .q 9, .q 10, .q 11, .q 12] (by kernel_rfl) ?_; conv => whnf) | (refine Ok.region_draw tok follows (by kernel_rfl) ?_; conv => whnf) | (refine Ok.cond ?_; conv => whnf) | refine Ok.block ?_ | (refine Ok.skip ?_; conv => whnf) | (refine Ok.exit ?_; conv => whnf) | (refine Ok.ret ?_; conv => whnf) | (refine num_in (by omega) (by omega) ?_; conv => whnf) | (refine ix _ (by assumption) ?_; conv => whnf) | (refine ixI (by omega) (by assumption) ?_; conv => whnf) | (refine ix_new _ (by omega) fun _ _ => ?_; conv => whnf) | (refine ixI_new (by omega) (by omega) fun _ _ => ?_; conv => whnf) | (refine ⟨_, by assumption, ?_⟩; conv => whnf) | (refine Alt2.l (And.intro (by first | omega | (simp; done) | (simp; omega)) ?_); conv => whnf) | (refine Alt2.r (And.intro (by first | omega | (simp; done) | (simp; omega)) ?_); conv => whnf) | (refine Ok.scope ?_) | (refine Ok.label ?_; conv => whnf) | (refine rd rfl (by assumption) ?_; conv => whnf) | (refine ⟨_, .inl ⟨rfl, rfl⟩, ?_⟩; conv => whnf) | (refine ⟨_, _, rfl, rfl, ?_⟩; conv => whnf) | (refine ⟨fun _ => ?_, fun _ => ?_⟩ <;> (conv => whnf) <;> (try (exfalso; omega))) | (refine And.intro (by first | omega | rfl | (simp; done) | (simp; omega)) ?_; conv => whnf) | (refine num_any ?_; conv => whnf) | (refine ⟨_, rfl, ?_⟩; conv => whnf) | (exact True.intro) | (refine And.intro ?_ ?_ <;> (conv => whnf)) | fail)
        refine ⟨(i + 1, l2), by dsimp only; omega, ⟨by dsimp only; omega, by dsimp only; rw [hsn]; exact hl2e, by dsimp only; omega⟩, ?_⟩
        (conv => whnf)
        rfl
    · have hie : i = ts.length := by omega
      subst hie
      rw [List.take_length] at hl
      have hgood := wouts_good hf.good hu
      have hlb := wouts_less (u := u.t) (fun t ht => hf.less (t := t) ht)
      have hle : ∀ x ∈ l, x.t.less.length ≤ 1048576 := fun x hx => Nat.le_trans (hlb _ (mem_of_map hl hx)) (by decide)
      have hrn : ∀ x ∈ l, RN2 x ∧ x.t.Ok n.toNat := fun x hx => (hgood _ (mem_of_map hl hx)).rn (hle x hx)
      have htk : List.take l.length (l.map drow) = l.map drow := List.take_of_length_le (by simp)
      have hln : (l.map TR.t).length ≤ 1048576 := by simp; omega
      rw [← hl]
      (try (conv => whnf)); repeat' (first | refine Ok.seq ?_ | refine OkL.cons ?_ | (refine Ok.region tok ?_; conv => whnf) | (refine Ok.region_tree (id := 8) tok follows [(5, 6, []), (3, 7, []), (5, 7, [6]), (6, 7, []), (1, 8, []), (3, 8, [7]), (5, 8, [7, 6]), (6, 8, [7]), (7, 8, []), (1, 13, []), (3, 13, []), (5, 13, []), (6, 13, []), (7, 13, []), (8, 13, []), (12, 13, [])] (.q 0 (.q 1 (.q 2 (.q 3 (.q 4 (.q 5 (.alt 6 (.alt 7 (.alt 8 (.q 9 (.q 10 (.q 11 (.l 12 (.l 13 (.q 14 .nil)))))) (.alt 12 (.l 8 (.q 9 (.q 10 (.q 11 (.l 13 (.q 14 .nil)))))) .nil)) (.alt 12 (.l 7 (.l 8 (.q 9 (.q 10 (.q 11 (.l 13 (.q 14 .nil))))))) .nil)) (.alt 12 (.l 6 (.l 7 (.l 8 (.q 9 (.q 10 (.q 11 (.l 13 (.q 14 .nil)))))))) .nil)))))))) (by kernel_rfl) ?_; conv => whnf) | (refine Ok.region_plan (id := 14) tok follows [(1, 7, []), (3, 7, [6, 5]), (6, 7, [])] [.q 0, .q 1, .q 2, .q 3, .q 4, .q 5, .q 6, .l 7, .q 8, .q 9, .q 10, .q 11, .q 12] (by kernel_rfl) ?_; conv => whnf) | (refine Ok.region_draw tok follows (by kernel_rfl) ?_; conv => whnf) | (refine Ok.cond ?_; conv => whnf) | refine Ok.block ?_ | (refine Ok.skip ?_; conv => whnf) | (refine Ok.exit ?_; conv => whnf) | (refine Ok.ret ?_; conv => whnf) | (refine num_in (by omega) (by omega) ?_; conv => whnf) | (refine ix _ (by assumption) ?_; conv => whnf) | (refine ixI (by omega) (by assumption) ?_; conv => whnf) | (refine ix_new _ (by omega) fun _ _ => ?_; conv => whnf) | (refine ixI_new (by omega) (by omega) fun _ _ => ?_; conv => whnf) | (refine ⟨_, by assumption, ?_⟩; conv => whnf) | (refine Or.inr (Or.inl ?_); (conv => whnf); (repeat (refine And.intro (by first | omega | (simp; done) | (simp; omega)) ?_; (conv => whnf))); refine ⟨_, rform_at n n.toNat l (by omega) hrn htk , ?_⟩; rintro _ _ ⟨ks3, rm3, rfl, rfl, hks3, hkm⟩ <;> (conv => whnf)) | (refine Or.inr (Or.inl ?_); (conv => whnf); (repeat (refine And.intro (by first | omega | (simp; done) | (simp; omega)) ?_; (conv => whnf))); refine ⟨_, rbound_at n ks3 (form_len hks3 hln) (fun x hx => hle x (hkm x hx)) rfl , ?_⟩; rintro _ _ ⟨rfl, (⟨hb, rfl⟩ | ⟨hb, rfl⟩)⟩ <;> (conv => whnf)) | (refine Alt2.l (And.intro (by first | omega | (simp; done) | (simp; omega)) ?_); conv => whnf) | (refine Alt2.r (And.intro (by first | omega | (simp; done) | (simp; omega)) ?_); conv => whnf) | (refine Ok.scope ?_) | (refine Ok.label ?_; conv => whnf) | (refine rd rfl (by assumption) ?_; conv => whnf) | (refine ⟨_, .inl ⟨rfl, rfl⟩, ?_⟩; conv => whnf) | (refine ⟨_, _, rfl, rfl, ?_⟩; conv => whnf) | (refine ⟨fun _ => ?_, fun _ => ?_⟩ <;> (conv => whnf) <;> (try (exfalso; omega))) | (refine And.intro (by first | omega | rfl | (simp; done) | (simp; omega)) ?_; conv => whnf) | (refine num_any ?_; conv => whnf) | (refine ⟨_, rfl, ?_⟩; conv => whnf) | (exact True.intro) | (refine And.intro ?_ ?_ <;> (conv => whnf)) | fail)
      · refine Or.inl ?_; (conv => whnf)
        exact DOut.form hks3 hb
      · refine Or.inl ?_; (conv => whnf)
        exact DOut.many hks3 hb
  · rw [withoutO_raw hraw]
    (try (conv => whnf)); repeat' (first | refine Ok.seq ?_ | refine OkL.cons ?_ | (refine Ok.region tok ?_; conv => whnf) | (refine Ok.region_tree (id := 8) tok follows [(5, 6, []), (3, 7, []), (5, 7, [6]), (6, 7, []), (1, 8, []), (3, 8, [7]), (5, 8, [7, 6]), (6, 8, [7]), (7, 8, []), (1, 13, []), (3, 13, []), (5, 13, []), (6, 13, []), (7, 13, []), (8, 13, []), (12, 13, [])] (.q 0 (.q 1 (.q 2 (.q 3 (.q 4 (.q 5 (.alt 6 (.alt 7 (.alt 8 (.q 9 (.q 10 (.q 11 (.l 12 (.l 13 (.q 14 .nil)))))) (.alt 12 (.l 8 (.q 9 (.q 10 (.q 11 (.l 13 (.q 14 .nil)))))) .nil)) (.alt 12 (.l 7 (.l 8 (.q 9 (.q 10 (.q 11 (.l 13 (.q 14 .nil))))))) .nil)) (.alt 12 (.l 6 (.l 7 (.l 8 (.q 9 (.q 10 (.q 11 (.l 13 (.q 14 .nil)))))))) .nil)))))))) (by kernel_rfl) ?_; conv => whnf) | (refine Ok.region_plan (id := 14) tok follows [(1, 7, []), (3, 7, [6, 5]), (6, 7, [])] [.q 0, .q 1, .q 2, .q 3, .q 4, .q 5, .q 6, .l 7, .q 8, .q 9, .q 10, .q 11, .q 12] (by kernel_rfl) ?_; conv => whnf) | (refine Ok.region_draw tok follows (by kernel_rfl) ?_; conv => whnf) | (refine Ok.cond ?_; conv => whnf) | refine Ok.block ?_ | (refine Ok.skip ?_; conv => whnf) | (refine Ok.exit ?_; conv => whnf) | (refine Ok.ret ?_; conv => whnf) | (refine num_in (by omega) (by omega) ?_; conv => whnf) | (refine ix _ (by assumption) ?_; conv => whnf) | (refine ixI (by omega) (by assumption) ?_; conv => whnf) | (refine ix_new _ (by omega) fun _ _ => ?_; conv => whnf) | (refine ixI_new (by omega) (by omega) fun _ _ => ?_; conv => whnf) | (refine ⟨_, by assumption, ?_⟩; conv => whnf) | (refine Alt2.l (And.intro (by first | omega | (simp; done) | (simp; omega)) ?_); conv => whnf) | (refine Alt2.r (And.intro (by first | omega | (simp; done) | (simp; omega)) ?_); conv => whnf) | (refine Ok.scope ?_) | (refine Ok.label ?_; conv => whnf) | (refine rd rfl (by assumption) ?_; conv => whnf) | (refine ⟨_, .inl ⟨rfl, rfl⟩, ?_⟩; conv => whnf) | (refine ⟨_, _, rfl, rfl, ?_⟩; conv => whnf) | (refine ⟨fun _ => ?_, fun _ => ?_⟩ <;> (conv => whnf) <;> (try (exfalso; omega))) | (refine And.intro (by first | omega | rfl | (simp; done) | (simp; omega)) ?_; conv => whnf) | (refine num_any ?_; conv => whnf) | (refine ⟨_, rfl, ?_⟩; conv => whnf) | (exact True.intro) | (refine And.intro ?_ ?_ <;> (conv => whnf)) | fail)
    · refine Or.inl ?_; (conv => whnf)
      exact ⟨rfl, _, rfl, DSp.nil 0⟩
end Go.Proofs.YtaiondckookpiaaGreatDoor
/- Terms without one, by the program. -/
namespace Go.Proofs.YtaiondckookpiaaGreatDoor
open Go Go.Vx
set_option maxRecDepth 100000 in
set_option maxHeartbeats 8000000 in
theorem without_at {n : Int} {ts : List Term} (hf : Fine n ts) (u : TR) (hu : GoodT n.toNat u.t) (hul : u.t.less.length ≤ 127) (ks : List TR) (rm : List (List D)) (h1 : ks.map TR.t = ts) :
    FSpec Tryz.prog T 80 [.lst 112 (ks.map trow) rm, .agg (trow u)] (fun d rows => ∃ (l : List TR) (rm' : List (List D)), d = .lst 112 (l.map trow) rm' ∧ rows = [] ∧ l.map TR.t = wouts ts u.t) := by
  have hl1 : ks.length = ts.length := by rw [← h1, List.length_map]
  have hm1 : (ks.map trow).length = ts.length := by simp [hl1]
  have hm2 : (u.t.less.map crow).length = u.t.less.length := by simp
  have hk1 := hf.len
  refine FSpec.of_ok tok Tryz.func80 rfl Tryz.call80 (by simp) ?_
  (try (conv => whnf)); repeat' (first | refine Ok.seq ?_ | refine OkL.cons ?_ | (refine Ok.region tok ?_; conv => whnf) | (refine Ok.region_draw tok follows (by kernel_rfl) ?_; conv => whnf) | (refine Ok.cond ?_; conv => whnf) | refine Ok.block ?_ | (refine Ok.skip ?_; conv => whnf) | (refine Ok.exit ?_; conv => whnf) | (refine Ok.ret ?_; conv => whnf) | (refine num_in (by omega) (by omega) ?_; conv => whnf) | (refine ix _ (by assumption) ?_; conv => whnf) | (refine ixI (by omega) (by assumption) ?_; conv => whnf) | (refine ix_new _ (by omega) fun _ _ => ?_; conv => whnf) | (refine ixI_new (by omega) (by omega) fun _ _ => ?_; conv => whnf) | (refine ⟨_, by assumption, ?_⟩; conv => whnf) | (refine Alt2.l (And.intro (by first | omega | (simp; done) | (simp; omega)) ?_); conv => whnf) | (refine Alt2.r (And.intro (by first | omega | (simp; done) | (simp; omega)) ?_); conv => whnf) | (refine Ok.scope ?_) | (refine Ok.label ?_; conv => whnf) | (refine rd rfl (by assumption) ?_; conv => whnf) | (refine ⟨_, .inl ⟨rfl, rfl⟩, ?_⟩; conv => whnf) | (refine ⟨_, _, rfl, rfl, ?_⟩; conv => whnf) | (refine ⟨fun _ => ?_, fun _ => ?_⟩ <;> (conv => whnf) <;> (try (exfalso; omega))) | (refine And.intro (by first | omega | rfl | (simp; done) | (simp; omega)) ?_; conv => whnf) | (refine num_any ?_; conv => whnf) | (refine ⟨_, rfl, ?_⟩; conv => whnf) | fail)
  refine Ok.ghost 5 112 rfl ?_
  (conv => whnf)
  refine Ok.loopU [3, 16, 17] [5, 18] 1 1 (fun (x : Nat × List TR) => [.own 0 x.2.length, .i .i64 (x.1 : Nat)]) (fun _ b => b) (fun (x : Nat × List TR) (_ : Vx.Rows) => [some (112, x.2.map trow)]) (fun (x : Nat × List TR) => x.1 ≤ ts.length ∧ x.2.map TR.t = wouts (ts.take x.1) u.t ∧ x.2.length ≤ x.1 * 128) (fun (x : Nat × List TR) => ts.length - x.1) ((0, [])) (⟨Nat.zero_le _, by simp [wouts], by simp⟩) ?_; (conv => whnf); refine ⟨by ((conv => whnf); first | rfl | (simp [envCat, List.take_of_length_le, crow, trow, srow, drow]; done) | (simp [envCat, List.take_of_length_le, crow, trow, srow, drow]; rw [IntKind.wrap_i64]; omega)), ?_⟩
  rintro ⟨i, l⟩ ⟨hi, hl, hll⟩
  dsimp only at hi hl hll ⊢
  have hlm : (l.map trow).length = l.length := by simp
  (conv => whnf)
  by_cases hil : i < ts.length
  · obtain ⟨a, ha⟩ : ∃ a, ks[i]? = some a := ⟨_, List.getElem?_eq_getElem (by omega)⟩
    have haI : ks[((i : Nat) : Int).toNat]? = some a := ha
    have hat := tr_get h1 ha
    have hag := hf.good _ (List.mem_of_getElem? hat)
    have hal := hf.less (List.mem_of_getElem? hat)
    have hal2 : (a.t.less.map crow).length = a.t.less.length := by simp
    have hsn := wouts_snoc (u := u.t) hat
    have hnew : ∀ rl room, rl = List.map lrow [⟨a.t.less, a.room⟩, ⟨[u.t.p], []⟩] → FSpec Tryz.prog T 72 [.agg (crow a.t.p), .lst 58 rl room] (fun d rows => ∃ rm, d = .tup [.agg (trow ⟨(wout1 a.t u.t).getD ⟨[], []⟩, rm⟩), .b ((wout1 a.t u.t).isSome = true)] ∧ rows = []) := fun rl room h => by
      have := newTerm1_at a.t.p [⟨a.t.less, a.room⟩, ⟨[u.t.p], []⟩] (room := room) hag.p (by
        intro x hx m hm
        simp at hx
        rcases hx with rfl | rfl
        · exact (hag.less m hm).1
        · simp at hm; rw [hm]; exact hu.p.1) (by simp [allL]; omega) (by simp) h
      rwa [show allL [⟨a.t.less, a.room⟩, ⟨[u.t.p], []⟩] = a.t.less ++ [u.t.p] by simp [allL]] at this
    have hwl : (wout1 a.t u.t).toList.length ≤ 1 := by cases wout1 a.t u.t <;> simp
    (try (conv => whnf)); repeat' (first | (refine Ok.seqU (c1 := .seq (.region 5 _ _) _) [3, 7, 16, 17, 18] [5] 1 2 (fun x : List TR => [.own 0 x.length]) (fun _ b => b) (fun (x : List TR) (_ : Vx.Rows) => [some (112, x.map trow)]) (fun x => x.map TR.t = wouts (ts.take i) u.t ++ (wout1 a.t u.t).toList ∧ x.length ≤ l.length + 1) ?_; (conv => whnf); refine And.intro ?_ ?_) | refine Ok.seq ?_ | refine OkL.cons ?_ | (refine Ok.region tok ?_; conv => whnf) | (refine Ok.region_draw tok follows (by kernel_rfl) ?_; conv => whnf) | (refine Ok.cond ?_; conv => whnf) | refine Ok.block ?_ | (refine Ok.skip ?_; conv => whnf) | (refine Ok.exit ?_; conv => whnf) | (refine Ok.ret ?_; conv => whnf) | (refine num_in (by omega) (by omega) ?_; conv => whnf) | (refine ix _ (by assumption) ?_; conv => whnf) | (refine ixI (by omega) (by assumption) ?_; conv => whnf) | (refine ix_new _ (by omega) fun _ _ => ?_; conv => whnf) | (refine ixI_new (by omega) (by omega) fun _ _ => ?_; conv => whnf) | (refine ⟨_, by assumption, ?_⟩; conv => whnf) | (refine Or.inr (Or.inl ?_); (conv => whnf); (repeat (refine And.intro (by first | omega | (simp; done) | (simp; omega)) ?_; (conv => whnf))); refine ⟨_, hnew _ _ rfl , ?_⟩; rintro _ _ ⟨rm4, rfl, rfl⟩ <;> (conv => whnf)) | (refine Alt2.l (And.intro (by first | omega | (simp; done) | (simp; omega)) ?_); conv => whnf) | (refine Alt2.r (And.intro (by first | omega | (simp; done) | (simp; omega)) ?_); conv => whnf) | (refine Ok.scope ?_) | (refine Ok.label ?_; conv => whnf) | (refine rd rfl (by assumption) ?_; conv => whnf) | (refine ⟨_, .inl ⟨rfl, rfl⟩, ?_⟩; conv => whnf) | (refine ⟨_, _, rfl, rfl, ?_⟩; conv => whnf) | (refine ⟨fun _ => ?_, fun _ => ?_⟩ <;> (conv => whnf) <;> (try (exfalso; omega))) | (refine And.intro (by first | omega | rfl | (simp; done) | (simp; omega)) ?_; conv => whnf) | (refine num_any ?_; conv => whnf) | (refine ⟨_, rfl, ?_⟩; conv => whnf) | fail)
    · rename_i h
      refine ⟨l ++ [⟨(wout1 a.t u.t).getD ⟨[], []⟩, rm4⟩], ⟨?_, by simp⟩, ?_⟩
      · rw [List.map_append, hl, opt_some h]
        rfl
      · (conv => whnf)
        simp [envCat]
    · rename_i h
      refine ⟨l, ⟨?_, by omega⟩, ?_⟩
      · rw [hl, opt_none h]
        simp
      · (conv => whnf)
        rfl
    rintro l1 ⟨hl1e, hl1l⟩
    (conv => whnf)
    (try (conv => whnf)); repeat' (first | refine Ok.seq ?_ | refine OkL.cons ?_ | (refine Ok.region tok ?_; conv => whnf) | (refine Ok.region_draw tok follows (by kernel_rfl) ?_; conv => whnf) | (refine Ok.cond ?_; conv => whnf) | refine Ok.block ?_ | (refine Ok.skip ?_; conv => whnf) | (refine Ok.exit ?_; conv => whnf) | (refine Ok.ret ?_; conv => whnf) | (refine num_in (by omega) (by omega) ?_; conv => whnf) | (refine ix _ (by assumption) ?_; conv => whnf) | (refine ixI (by omega) (by assumption) ?_; conv => whnf) | (refine ix_new _ (by omega) fun _ _ => ?_; conv => whnf) | (refine ixI_new (by omega) (by omega) fun _ _ => ?_; conv => whnf) | (refine ⟨_, by assumption, ?_⟩; conv => whnf) | (refine Alt2.l (And.intro (by first | omega | (simp; done) | (simp; omega)) ?_); conv => whnf) | (refine Alt2.r (And.intro (by first | omega | (simp; done) | (simp; omega)) ?_); conv => whnf) | (refine Ok.scope ?_) | (refine Ok.label ?_; conv => whnf) | (refine rd rfl (by assumption) ?_; conv => whnf) | (refine ⟨_, .inl ⟨rfl, rfl⟩, ?_⟩; conv => whnf) | (refine ⟨_, _, rfl, rfl, ?_⟩; conv => whnf) | (refine ⟨fun _ => ?_, fun _ => ?_⟩ <;> (conv => whnf) <;> (try (exfalso; omega))) | (refine And.intro (by first | omega | rfl | (simp; done) | (simp; omega)) ?_; conv => whnf) | (refine num_any ?_; conv => whnf) | (refine ⟨_, rfl, ?_⟩; conv => whnf) | fail)
    refine Ok.loopU [3, 7, 16, 17, 18, 40, 41] [5, 42] 1 2 (fun (x : Nat × List TR) => [.own 0 x.2.length, .i .i64 (x.1 : Nat)]) (fun _ b => b) (fun (x : Nat × List TR) (_ : Vx.Rows) => [some (112, x.2.map trow)]) (fun (x : Nat × List TR) => x.1 ≤ u.t.less.length ∧ x.2.map TR.t = wouts (ts.take i) u.t ++ ((wout1 a.t u.t).toList ++ (u.t.less.take x.1).filterMap (wout2 a.t)) ∧ x.2.length ≤ l.length + 1 + x.1) (fun (x : Nat × List TR) => u.t.less.length - x.1) ((0, l1)) (⟨Nat.zero_le _, by simpa using hl1e, by simpa using hl1l⟩) ?_; (conv => whnf); refine ⟨by ((conv => whnf); first | rfl | (simp [envCat, List.take_of_length_le, crow, trow, srow, drow]; done) | (simp [envCat, List.take_of_length_le, crow, trow, srow, drow]; rw [IntKind.wrap_i64]; omega)), ?_⟩
    rintro ⟨j, l2⟩ ⟨hj, hl2e, hl2l⟩
    dsimp only at hj hl2e hl2l ⊢
    have hl2m : (l2.map trow).length = l2.length := by simp
    (conv => whnf)
    by_cases hjl : j < u.t.less.length
    · obtain ⟨m, hm⟩ : ∃ m, u.t.less[j]? = some m := ⟨_, List.getElem?_eq_getElem hjl⟩
      have hmI : u.t.less[((j : Nat) : Int).toNat]? = some m := hm
      have hmc := hu.less m (List.mem_of_getElem? hm)
      have hsp := meet_at a.t.p m hag.p.1 hmc.1
      cases hmt : meetT a.t.p m with
      | none =>
        have hno : wout2 a.t m = none := by unfold wout2; rw [hmt]; rfl
        rw [hmt] at hsp
        (try (conv => whnf)); repeat' (first | refine Ok.seq ?_ | refine OkL.cons ?_ | (refine Ok.region tok ?_; conv => whnf) | (refine Ok.region_draw tok follows (by kernel_rfl) ?_; conv => whnf) | (refine Ok.cond ?_; conv => whnf) | refine Ok.block ?_ | (refine Ok.skip ?_; conv => whnf) | (refine Ok.exit ?_; conv => whnf) | (refine Ok.ret ?_; conv => whnf) | (refine num_in (by omega) (by omega) ?_; conv => whnf) | (refine ix _ (by assumption) ?_; conv => whnf) | (refine ixI (by omega) (by assumption) ?_; conv => whnf) | (refine ix_new _ (by omega) fun _ _ => ?_; conv => whnf) | (refine ixI_new (by omega) (by omega) fun _ _ => ?_; conv => whnf) | (refine ⟨_, by assumption, ?_⟩; conv => whnf) | (refine Or.inr (Or.inl ?_); (conv => whnf); (repeat (refine And.intro (by first | omega | (simp; done) | (simp; omega)) ?_; (conv => whnf))); refine ⟨_, hsp, ?_⟩; rintro _ _ ⟨rfl, rfl⟩ <;> (conv => whnf)) | (refine Alt2.l (And.intro (by first | omega | (simp; done) | (simp; omega)) ?_); conv => whnf) | (refine Alt2.r (And.intro (by first | omega | (simp; done) | (simp; omega)) ?_); conv => whnf) | (refine Ok.scope ?_) | (refine Ok.label ?_; conv => whnf) | (refine rd rfl (by assumption) ?_; conv => whnf) | (refine ⟨_, .inl ⟨rfl, rfl⟩, ?_⟩; conv => whnf) | (refine ⟨_, _, rfl, rfl, ?_⟩; conv => whnf) | (refine ⟨fun _ => ?_, fun _ => ?_⟩ <;> (conv => whnf) <;> (try (exfalso; omega))) | (refine And.intro (by first | omega | rfl | (simp; done) | (simp; omega)) ?_; conv => whnf) | (refine num_any ?_; conv => whnf) | (refine ⟨_, rfl, ?_⟩; conv => whnf) | fail)
        · rename_i h
          cases h
        · refine ⟨(j + 1, l2), by dsimp only; omega, ⟨by dsimp only; omega, by dsimp only; rw [fm_none hm hno]; exact hl2e, by dsimp only; omega⟩, ?_⟩
          (conv => whnf)
          rfl
      | some p =>
        have hpc := meetT_ct hmt hag.p.1 hmc.1
        have hpn : p ≠ [] := fun e => hpc.2.2 (List.eq_nil_of_length_eq_zero (by rw [← hpc.2.1, e]; rfl))
        have hm3 : wout2 a.t m = termT p a.t.less := by unfold wout2; rw [hmt]; rfl
        rw [hmt] at hsp
        have hnew2 : ∀ room, FSpec Tryz.prog T 72 [.agg (crow p), .lst 58 (List.map lrow [⟨a.t.less, a.room⟩]) room] (fun d rows => ∃ rm, d = .tup [.agg (trow ⟨(termT p a.t.less).getD ⟨[], []⟩, rm⟩), .b ((termT p a.t.less).isSome = true)] ∧ rows = []) := fun room => by
          have := newTerm1_at p [⟨a.t.less, a.room⟩] (room := room) ⟨hpc.1, hpn⟩ (by
            intro x hx m hm
            simp at hx
            subst hx
            exact (hag.less m hm).1) (by simp [allL]; omega) (by simp) rfl
          rwa [show allL [⟨a.t.less, a.room⟩] = a.t.less by simp [allL]] at this
        (try (conv => whnf)); repeat' (first | refine Ok.seq ?_ | refine OkL.cons ?_ | (refine Ok.region tok ?_; conv => whnf) | (refine Ok.region_draw tok follows (by kernel_rfl) ?_; conv => whnf) | (refine Ok.cond ?_; conv => whnf) | refine Ok.block ?_ | (refine Ok.skip ?_; conv => whnf) | (refine Ok.exit ?_; conv => whnf) | (refine Ok.ret ?_; conv => whnf) | (refine num_in (by omega) (by omega) ?_; conv => whnf) | (refine ix _ (by assumption) ?_; conv => whnf) | (refine ixI (by omega) (by assumption) ?_; conv => whnf) | (refine ix_new _ (by omega) fun _ _ => ?_; conv => whnf) | (refine ixI_new (by omega) (by omega) fun _ _ => ?_; conv => whnf) | (refine ⟨_, by assumption, ?_⟩; conv => whnf) | (refine Or.inr (Or.inl ?_); (conv => whnf); (repeat (refine And.intro (by first | omega | (simp; done) | (simp; omega)) ?_; (conv => whnf))); refine ⟨_, hsp, ?_⟩; rintro _ _ ⟨rfl, rfl⟩ <;> (conv => whnf)) | (refine Or.inr (Or.inl ?_); (conv => whnf); (repeat (refine And.intro (by first | omega | (simp; done) | (simp; omega)) ?_; (conv => whnf))); refine ⟨_, hnew2 _ , ?_⟩; rintro _ _ ⟨rm5, rfl, rfl⟩ <;> (conv => whnf)) | (refine Alt2.l (And.intro (by first | omega | (simp; done) | (simp; omega)) ?_); conv => whnf) | (refine Alt2.r (And.intro (by first | omega | (simp; done) | (simp; omega)) ?_); conv => whnf) | (refine Ok.scope ?_) | (refine Ok.label ?_; conv => whnf) | (refine rd rfl (by assumption) ?_; conv => whnf) | (refine ⟨_, .inl ⟨rfl, rfl⟩, ?_⟩; conv => whnf) | (refine ⟨_, _, rfl, rfl, ?_⟩; conv => whnf) | (refine ⟨fun _ => ?_, fun _ => ?_⟩ <;> (conv => whnf) <;> (try (exfalso; omega))) | (refine And.intro (by first | omega | rfl | (simp; done) | (simp; omega)) ?_; conv => whnf) | (refine num_any ?_; conv => whnf) | (refine ⟨_, rfl, ?_⟩; conv => whnf) | fail)
        · rename_i h
          refine ⟨(j + 1, l2 ++ [⟨(termT p a.t.less).getD ⟨[], []⟩, rm5⟩]), by dsimp only; omega, ⟨by dsimp only; omega, ?_, by simp; omega⟩, ?_⟩
          · dsimp only
            rw [fm_some hm (hm3.trans (opt_some h)), List.map_append, hl2e]
            simp
          · (conv => whnf)
            simp [envCat]
        · rename_i h
          refine ⟨(j + 1, l2), by dsimp only; omega, ⟨by dsimp only; omega, by dsimp only; rw [fm_none hm (hm3.trans (opt_none h))]; exact hl2e, by dsimp only; omega⟩, ?_⟩
          (conv => whnf)
          rfl
        · rename_i h
          exact absurd rfl h
    · have hje : j = u.t.less.length := by omega
      subst hje
      rw [List.take_length] at hl2e
      (try (conv => whnf)); repeat' (first | refine Ok.seq ?_ | refine OkL.cons ?_ | (refine Ok.region tok ?_; conv => whnf) | (refine Ok.region_draw tok follows (by kernel_rfl) ?_; conv => whnf) | (refine Ok.cond ?_; conv => whnf) | refine Ok.block ?_ | (refine Ok.skip ?_; conv => whnf) | (refine Ok.exit ?_; conv => whnf) | (refine Ok.ret ?_; conv => whnf) | (refine num_in (by omega) (by omega) ?_; conv => whnf) | (refine ix _ (by assumption) ?_; conv => whnf) | (refine ixI (by omega) (by assumption) ?_; conv => whnf) | (refine ix_new _ (by omega) fun _ _ => ?_; conv => whnf) | (refine ixI_new (by omega) (by omega) fun _ _ => ?_; conv => whnf) | (refine ⟨_, by assumption, ?_⟩; conv => whnf) | (refine Alt2.l (And.intro (by first | omega | (simp; done) | (simp; omega)) ?_); conv => whnf) | (refine Alt2.r (And.intro (by first | omega | (simp; done) | (simp; omega)) ?_); conv => whnf) | (refine Ok.scope ?_) | (refine Ok.label ?_; conv => whnf) | (refine rd rfl (by assumption) ?_; conv => whnf) | (refine ⟨_, .inl ⟨rfl, rfl⟩, ?_⟩; conv => whnf) | (refine ⟨_, _, rfl, rfl, ?_⟩; conv => whnf) | (refine ⟨fun _ => ?_, fun _ => ?_⟩ <;> (conv => whnf) <;> (try (exfalso; omega))) | (refine And.intro (by first | omega | rfl | (simp; done) | (simp; omega)) ?_; conv => whnf) | (refine num_any ?_; conv => whnf) | (refine ⟨_, rfl, ?_⟩; conv => whnf) | fail)
      refine ⟨(i + 1, l2), by dsimp only; omega, ⟨by dsimp only; omega, by dsimp only; rw [hsn]; exact hl2e, by dsimp only; omega⟩, ?_⟩
      (conv => whnf)
      rfl
  · have hie : i = ts.length := by omega
    subst hie
    rw [List.take_length] at hl
    (try (conv => whnf)); repeat' (first | refine Ok.seq ?_ | refine OkL.cons ?_ | (refine Ok.region tok ?_; conv => whnf) | (refine Ok.region_draw tok follows (by kernel_rfl) ?_; conv => whnf) | (refine Ok.cond ?_; conv => whnf) | refine Ok.block ?_ | (refine Ok.skip ?_; conv => whnf) | (refine Ok.exit ?_; conv => whnf) | (refine Ok.ret ?_; conv => whnf) | (refine num_in (by omega) (by omega) ?_; conv => whnf) | (refine ix _ (by assumption) ?_; conv => whnf) | (refine ixI (by omega) (by assumption) ?_; conv => whnf) | (refine ix_new _ (by omega) fun _ _ => ?_; conv => whnf) | (refine ixI_new (by omega) (by omega) fun _ _ => ?_; conv => whnf) | (refine ⟨_, by assumption, ?_⟩; conv => whnf) | (refine Alt2.l (And.intro (by first | omega | (simp; done) | (simp; omega)) ?_); conv => whnf) | (refine Alt2.r (And.intro (by first | omega | (simp; done) | (simp; omega)) ?_); conv => whnf) | (refine Ok.scope ?_) | (refine Ok.label ?_; conv => whnf) | (refine rd rfl (by assumption) ?_; conv => whnf) | (refine ⟨_, .inl ⟨rfl, rfl⟩, ?_⟩; conv => whnf) | (refine ⟨_, _, rfl, rfl, ?_⟩; conv => whnf) | (refine ⟨fun _ => ?_, fun _ => ?_⟩ <;> (conv => whnf) <;> (try (exfalso; omega))) | (refine And.intro (by first | omega | rfl | (simp; done) | (simp; omega)) ?_; conv => whnf) | (refine num_any ?_; conv => whnf) | (refine ⟨_, rfl, ?_⟩; conv => whnf) | fail)
    refine Or.inl ?_; (conv => whnf)
    refine ⟨l, [], ?_, rfl, hl⟩
    rw [List.take_of_length_le (by simp), List.drop_of_length_le (by simp)]
    rfl
end Go.Proofs.YtaiondckookpiaaGreatDoor
/- Minus, by the document and by the program; the law. -/
namespace Go.Proofs.YtaiondckookpiaaGreatDoor
open Go Go.Vx
noncomputable def minusL (n : Int) : List Term → List Term → Int × Int × List Term
  | ts, [] => (0, n, ts)
  | ts, u :: us => if (withoutO n ts u).1 = 0 then minusL n (withoutO n ts u).2.2 us else ((withoutO n ts u).1, 0, [])
theorem withoutO_cases (n : Int) (ts : List Term) (u : Term) : withoutO n ts u = (3, 0, []) ∨ (withoutO n ts u = (0, n, formT (wouts ts u)) ∧ szT (formT (wouts ts u)) ≤ 128 ∧ ts.length * (1 + u.less.length) ≤ 2048) := by
  by_cases h : ts.length * (1 + u.less.length) ≤ 2048
  · rw [withoutO_ok h]
    by_cases h2 : szT (formT (wouts ts u)) ≤ 128
    · rw [bndO_le h2]; exact .inr ⟨rfl, h2, h⟩
    · rw [bndO_gt (by omega)]; exact .inl rfl
  · rw [withoutO_raw h]; exact .inl rfl
theorem minusL_stop {n : Int} {ts us : List Term} {u : Term} (h : withoutO n ts u = (3, 0, [])) : minusL n ts (u :: us) = (3, 0, []) := by
  unfold minusL
  rw [h, if_neg (by decide)]
theorem minusL_go {n : Int} {ts us l : List Term} {u : Term} (h : withoutO n ts u = (0, n, l)) : minusL n ts (u :: us) = minusL n l us := by
  conv => lhs; unfold minusL
  rw [h, if_pos rfl]
theorem minusL_fine {n : Int} : ∀ {us ts : List Term}, Fine n ts → (∀ u ∈ us, GoodT n.toNat u) → Fine (minusL n ts us).2.1 (minusL n ts us).2.2
  | [], ts, hf, _ => hf
  | u :: us, ts, hf, hg => by
    rcases withoutO_cases n ts u with h | ⟨h, hs, _⟩
    · rw [minusL_stop h]; exact .nil (by decide) (by decide)
    · rw [minusL_go h]
      exact minusL_fine (.form hf.n0 hf.n1 (wouts_good hf.good (hg u (by simp))) hs) fun x hx => hg x (by simp [hx])
open Classical in
noncomputable def minusO (n m : Int) (ts us : List Term) : Int × Int × List Term := if fitP n m then minusL n ts us else (11, 0, [])
theorem minusO_fit {n m : Int} {ts us : List Term} (h : fitP n m) : minusO n m ts us = minusL n ts us := if_pos h
theorem minusO_not {n m : Int} {ts us : List Term} (h : ¬ fitP n m) : minusO n m ts us = (11, 0, []) := if_neg h
theorem minusO_fine {n m : Int} {ts us : List Term} (hf : Fine n ts) (hg : Fine m us) : Fine (minusO n m ts us).2.1 (minusO n m ts us).2.2 := by
  by_cases h : fitP n m
  · rw [minusO_fit h]
    obtain ⟨rfl, _⟩ := h
    exact minusL_fine hf hg.good
  · rw [minusO_not h]; exact .nil (by decide) (by decide)
theorem wouts_len (ts : List Term) (u : Term) : (wouts ts u).length ≤ ts.length * (1 + u.less.length) := by
  induction ts with
  | nil => simp [wouts]
  | cons a ts ih =>
    unfold wouts at *
    rw [List.flatMap_cons, List.length_append, List.length_append, List.length_cons, Nat.add_mul]
    have h1 : (wout1 a u).toList.length ≤ 1 := by cases wout1 a u <;> simp
    have h2 := List.length_filterMap_le (wout2 a) u.less
    omega
theorem drop_get {α : Type} {l : List α} {i : Nat} {x : α} (h : l[i]? = some x) : l.drop i = x :: l.drop (i + 1) := by
  obtain ⟨hl, e⟩ := List.getElem?_eq_some_iff.1 h
  rw [List.drop_eq_getElem_cons hl, e]
set_option maxRecDepth 100000 in
set_option maxHeartbeats 8000000 in
theorem rminus_at {n m : Int} {ts us : List Term} (hf : Fine n ts) (hg : Fine m us) (ks ks2 : List TR) (rm rm2 : List (List D)) (h1 : ks.map TR.t = ts) (h2 : ks2.map TR.t = us) :
    FSpec Tryz.prog T 26 [.agg [.i .i64 n, .lst 120 (ks.map drow) rm], .agg [.i .i64 m, .lst 120 (ks2.map drow) rm2]] (DOut (minusO n m ts us)) := by
  have hfit := rfit_at n m (.lst 120 (ks.map drow) rm) (.lst 120 (ks2.map drow) rm2) ⟨_, _, _, rfl⟩ ⟨_, _, _, rfl⟩
  have hl2 : ks2.length = us.length := by rw [← h2, List.length_map]
  have hm2 : (ks2.map drow).length = us.length := by simp [hl2]
  have hk2 := hg.len
  refine FSpec.of_ok tok Tryz.func26 rfl Tryz.call26 (by simp) ?_
  by_cases hfp : fitP n m
  · have hnm := hfp.1
    subst hnm
    rw [minusO_fit hfp]
    (try (conv => whnf)); repeat' (first | refine Ok.seq ?_ | refine OkL.cons ?_ | (refine Ok.region tok ?_; conv => whnf) | (refine Ok.region_plan (id := 8) tok follows [(0, 6, []), (2, 6, [5, 4]), (5, 6, []), (0, 10, []), (2, 10, []), (5, 10, []), (6, 10, [])] [.q 0, .q 1, .q 2, .q 3, .q 4, .q 5, .l 6, .q 7, .q 8, .q 9, .l 10, .q 11] (by kernel_rfl) ?_; conv => whnf) | (refine Ok.region_draw tok follows (by kernel_rfl) ?_; conv => whnf) | (refine Ok.cond ?_; conv => whnf) | refine Ok.block ?_ | (refine Ok.skip ?_; conv => whnf) | (refine Ok.exit ?_; conv => whnf) | (refine Ok.ret ?_; conv => whnf) | (refine num_in (by omega) (by omega) ?_; conv => whnf) | (refine ix _ (by assumption) ?_; conv => whnf) | (refine ixI (by omega) (by assumption) ?_; conv => whnf) | (refine ix_new _ (by omega) fun _ _ => ?_; conv => whnf) | (refine ixI_new (by omega) (by omega) fun _ _ => ?_; conv => whnf) | (refine ⟨_, by assumption, ?_⟩; conv => whnf) | (refine Or.inl ?_; (conv => whnf); (repeat (refine And.intro (by first | omega | (simp; done) | (simp; omega)) ?_; (conv => whnf))); refine ⟨_, hfit, rfl, ?_⟩; conv => whnf) | (refine ⟨_, hfit, rfl, ?_⟩; conv => whnf) | (refine Or.inr (Or.inl ?_); (conv => whnf); (repeat (refine And.intro (by first | omega | (simp; done) | (simp; omega)) ?_; (conv => whnf))); refine ⟨_, hfit, ?_⟩; rintro _ _ ⟨rfl, rfl⟩; conv => whnf) | (refine Alt2.l (And.intro (by first | omega | (simp; done) | (simp; omega)) ?_); conv => whnf) | (refine Alt2.r (And.intro (by first | omega | (simp; done) | (simp; omega)) ?_); conv => whnf) | (refine Ok.scope ?_) | (refine Ok.label ?_; conv => whnf) | (refine rd rfl (by assumption) ?_; conv => whnf) | (refine ⟨_, .inl ⟨rfl, rfl⟩, ?_⟩; conv => whnf) | (refine ⟨_, _, rfl, rfl, ?_⟩; conv => whnf) | (refine ⟨fun _ => ?_, fun _ => ?_⟩ <;> (conv => whnf) <;> (try (exfalso; omega))) | (refine And.intro (by first | omega | rfl | (simp; done) | (simp; omega)) ?_; conv => whnf) | (refine num_any ?_; conv => whnf) | (refine ⟨_, rfl, ?_⟩; conv => whnf) | fail)
    · exact absurd hfp (by assumption)
    refine Ok.loopU [3, 4, 6] [8] 0 4 (fun (x : Nat × List TR × List (List D)) => [.i .i64 (x.1 : Nat)]) (fun (x : Nat × List TR × List (List D)) (_ : List (List D)) => [[.i .i64 n, .lst 120 (ks.map drow) rm], [.i .i64 n, .lst 120 (ks2.map drow) rm2], [.i .i64 0, .nilS], [.i .i64 n, .lst 120 (x.2.1.map drow) x.2.2]]) (fun _ r => r) (fun (x : Nat × List TR × List (List D)) => x.1 ≤ us.length ∧ Fine n (x.2.1.map TR.t) ∧ minusL n ts us = minusL n (x.2.1.map TR.t) (us.drop x.1)) (fun (x : Nat × List TR × List (List D)) => us.length - x.1) ((0, ks, rm)) (⟨Nat.zero_le _, by rw [h1]; exact hf, by rw [h1]; rfl⟩) ?_; (conv => whnf); refine ⟨by ((conv => whnf); first | rfl | (simp [envCat, List.take_of_length_le, crow, trow, srow, drow]; done) | (simp [envCat, List.take_of_length_le, crow, trow, srow, drow]; rw [IntKind.wrap_i64]; omega)), ?_⟩
    rintro ⟨i, kr, rr⟩ ⟨hi, hfr, hml⟩
    dsimp only at hi hfr hml ⊢
    (conv => whnf)
    by_cases hil : i < us.length
    · obtain ⟨u, hu⟩ : ∃ u, ks2[i]? = some u := ⟨_, List.getElem?_eq_getElem (by omega)⟩
      have huI : ks2[((i : Nat) : Int).toNat]? = some u := hu
      have hut := tr_get h2 hu
      have hug := hg.good _ (List.mem_of_getElem? hut)
      have hul := hg.less (List.mem_of_getElem? hut)
      have hsp := rwithout_at hfr u hug hul kr rr rfl
      rw [drop_get hut] at hml
      rcases withoutO_cases n (kr.map TR.t) u.t with h | ⟨h, hs, _⟩
      · rw [h] at hsp
        rw [minusL_stop h] at hml
        rw [hml]
        (try (conv => whnf)); repeat' (first | refine Ok.seq ?_ | refine OkL.cons ?_ | (refine Ok.region tok ?_; conv => whnf) | (refine Ok.region_plan (id := 8) tok follows [(0, 6, []), (2, 6, [5, 4]), (5, 6, []), (0, 10, []), (2, 10, []), (5, 10, []), (6, 10, [])] [.q 0, .q 1, .q 2, .q 3, .q 4, .q 5, .l 6, .q 7, .q 8, .q 9, .l 10, .q 11] (by kernel_rfl) ?_; conv => whnf) | (refine Ok.region_draw tok follows (by kernel_rfl) ?_; conv => whnf) | (refine Ok.cond ?_; conv => whnf) | refine Ok.block ?_ | (refine Ok.skip ?_; conv => whnf) | (refine Ok.exit ?_; conv => whnf) | (refine Ok.ret ?_; conv => whnf) | (refine num_in (by omega) (by omega) ?_; conv => whnf) | (refine ix _ (by assumption) ?_; conv => whnf) | (refine ixI (by omega) (by assumption) ?_; conv => whnf) | (refine ix_new _ (by omega) fun _ _ => ?_; conv => whnf) | (refine ixI_new (by omega) (by omega) fun _ _ => ?_; conv => whnf) | (refine ⟨_, by assumption, ?_⟩; conv => whnf) | (refine Or.inr (Or.inl ?_); (conv => whnf); (repeat (refine And.intro (by first | omega | (simp; done) | (simp; omega)) ?_; (conv => whnf))); refine ⟨_, hsp , ?_⟩; rintro _ _ ⟨rfl, _, rfl, ks3, rm3, rfl, h3⟩ <;> (conv => whnf)) | (refine Alt2.l (And.intro (by first | omega | (simp; done) | (simp; omega)) ?_); conv => whnf) | (refine Alt2.r (And.intro (by first | omega | (simp; done) | (simp; omega)) ?_); conv => whnf) | (refine Ok.scope ?_) | (refine Ok.label ?_; conv => whnf) | (refine rd rfl (by assumption) ?_; conv => whnf) | (refine ⟨_, .inl ⟨rfl, rfl⟩, ?_⟩; conv => whnf) | (refine ⟨_, _, rfl, rfl, ?_⟩; conv => whnf) | (refine ⟨fun _ => ?_, fun _ => ?_⟩ <;> (conv => whnf) <;> (try (exfalso; omega))) | (refine And.intro (by first | omega | rfl | (simp; done) | (simp; omega)) ?_; conv => whnf) | (refine num_any ?_; conv => whnf) | (refine ⟨_, rfl, ?_⟩; conv => whnf) | fail)
        all_goals first
          | exact absurd rfl (by assumption)
          | (refine Or.inl ?_; (conv => whnf)
             exact ⟨rfl, _, rfl, DSp.nil 0⟩)
          | trace_state
      · rw [h] at hsp
        rw [minusL_go h] at hml
        (try (conv => whnf)); repeat' (first | refine Ok.seq ?_ | refine OkL.cons ?_ | (refine Ok.region tok ?_; conv => whnf) | (refine Ok.region_plan (id := 8) tok follows [(0, 6, []), (2, 6, [5, 4]), (5, 6, []), (0, 10, []), (2, 10, []), (5, 10, []), (6, 10, [])] [.q 0, .q 1, .q 2, .q 3, .q 4, .q 5, .l 6, .q 7, .q 8, .q 9, .l 10, .q 11] (by kernel_rfl) ?_; conv => whnf) | (refine Ok.region_draw tok follows (by kernel_rfl) ?_; conv => whnf) | (refine Ok.cond ?_; conv => whnf) | refine Ok.block ?_ | (refine Ok.skip ?_; conv => whnf) | (refine Ok.exit ?_; conv => whnf) | (refine Ok.ret ?_; conv => whnf) | (refine num_in (by omega) (by omega) ?_; conv => whnf) | (refine ix _ (by assumption) ?_; conv => whnf) | (refine ixI (by omega) (by assumption) ?_; conv => whnf) | (refine ix_new _ (by omega) fun _ _ => ?_; conv => whnf) | (refine ixI_new (by omega) (by omega) fun _ _ => ?_; conv => whnf) | (refine ⟨_, by assumption, ?_⟩; conv => whnf) | (refine Or.inr (Or.inl ?_); (conv => whnf); (repeat (refine And.intro (by first | omega | (simp; done) | (simp; omega)) ?_; (conv => whnf))); refine ⟨_, hsp , ?_⟩; rintro _ _ ⟨rfl, _, rfl, ks3, rm3, rfl, h3⟩ <;> (conv => whnf)) | (refine Alt2.l (And.intro (by first | omega | (simp; done) | (simp; omega)) ?_); conv => whnf) | (refine Alt2.r (And.intro (by first | omega | (simp; done) | (simp; omega)) ?_); conv => whnf) | (refine Ok.scope ?_) | (refine Ok.label ?_; conv => whnf) | (refine rd rfl (by assumption) ?_; conv => whnf) | (refine ⟨_, .inl ⟨rfl, rfl⟩, ?_⟩; conv => whnf) | (refine ⟨_, _, rfl, rfl, ?_⟩; conv => whnf) | (refine ⟨fun _ => ?_, fun _ => ?_⟩ <;> (conv => whnf) <;> (try (exfalso; omega))) | (refine And.intro (by first | omega | rfl | (simp; done) | (simp; omega)) ?_; conv => whnf) | (refine num_any ?_; conv => whnf) | (refine ⟨_, rfl, ?_⟩; conv => whnf) | fail)
        all_goals first
          | exact absurd rfl (by assumption)
          | (rename_i h; exact absurd rfl h)
          | (refine ⟨(i + 1, ks3, rm3), by dsimp only; omega, ⟨by dsimp only; omega, by dsimp only at h3 ⊢; rw [h3]; exact .form hfr.n0 hfr.n1 (wouts_good hfr.good hug) hs, by dsimp only at h3 ⊢; rw [h3]; exact hml⟩, ?_⟩
             (conv => whnf)
             rfl)
    · have hie : i = us.length := by omega
      subst hie
      rw [List.drop_length] at hml
      rw [hml]
      (try (conv => whnf)); repeat' (first | refine Ok.seq ?_ | refine OkL.cons ?_ | (refine Ok.region tok ?_; conv => whnf) | (refine Ok.region_plan (id := 8) tok follows [(0, 6, []), (2, 6, [5, 4]), (5, 6, []), (0, 10, []), (2, 10, []), (5, 10, []), (6, 10, [])] [.q 0, .q 1, .q 2, .q 3, .q 4, .q 5, .l 6, .q 7, .q 8, .q 9, .l 10, .q 11] (by kernel_rfl) ?_; conv => whnf) | (refine Ok.region_draw tok follows (by kernel_rfl) ?_; conv => whnf) | (refine Ok.cond ?_; conv => whnf) | refine Ok.block ?_ | (refine Ok.skip ?_; conv => whnf) | (refine Ok.exit ?_; conv => whnf) | (refine Ok.ret ?_; conv => whnf) | (refine num_in (by omega) (by omega) ?_; conv => whnf) | (refine ix _ (by assumption) ?_; conv => whnf) | (refine ixI (by omega) (by assumption) ?_; conv => whnf) | (refine ix_new _ (by omega) fun _ _ => ?_; conv => whnf) | (refine ixI_new (by omega) (by omega) fun _ _ => ?_; conv => whnf) | (refine ⟨_, by assumption, ?_⟩; conv => whnf) | (refine Alt2.l (And.intro (by first | omega | (simp; done) | (simp; omega)) ?_); conv => whnf) | (refine Alt2.r (And.intro (by first | omega | (simp; done) | (simp; omega)) ?_); conv => whnf) | (refine Ok.scope ?_) | (refine Ok.label ?_; conv => whnf) | (refine rd rfl (by assumption) ?_; conv => whnf) | (refine ⟨_, .inl ⟨rfl, rfl⟩, ?_⟩; conv => whnf) | (refine ⟨_, _, rfl, rfl, ?_⟩; conv => whnf) | (refine ⟨fun _ => ?_, fun _ => ?_⟩ <;> (conv => whnf) <;> (try (exfalso; omega))) | (refine And.intro (by first | omega | rfl | (simp; done) | (simp; omega)) ?_; conv => whnf) | (refine num_any ?_; conv => whnf) | (refine ⟨_, rfl, ?_⟩; conv => whnf) | fail)
      refine Or.inl ?_; (conv => whnf)
      exact ⟨rfl, _, rfl, kr, rr, rfl, rfl⟩
  · rw [minusO_not hfp]
    (try (conv => whnf)); repeat' (first | refine Ok.seq ?_ | refine OkL.cons ?_ | (refine Ok.region tok ?_; conv => whnf) | (refine Ok.region_plan (id := 8) tok follows [(0, 6, []), (2, 6, [5, 4]), (5, 6, []), (0, 10, []), (2, 10, []), (5, 10, []), (6, 10, [])] [.q 0, .q 1, .q 2, .q 3, .q 4, .q 5, .l 6, .q 7, .q 8, .q 9, .l 10, .q 11] (by kernel_rfl) ?_; conv => whnf) | (refine Ok.region_draw tok follows (by kernel_rfl) ?_; conv => whnf) | (refine Ok.cond ?_; conv => whnf) | refine Ok.block ?_ | (refine Ok.skip ?_; conv => whnf) | (refine Ok.exit ?_; conv => whnf) | (refine Ok.ret ?_; conv => whnf) | (refine num_in (by omega) (by omega) ?_; conv => whnf) | (refine ix _ (by assumption) ?_; conv => whnf) | (refine ixI (by omega) (by assumption) ?_; conv => whnf) | (refine ix_new _ (by omega) fun _ _ => ?_; conv => whnf) | (refine ixI_new (by omega) (by omega) fun _ _ => ?_; conv => whnf) | (refine ⟨_, by assumption, ?_⟩; conv => whnf) | (refine Or.inl ?_; (conv => whnf); (repeat (refine And.intro (by first | omega | (simp; done) | (simp; omega)) ?_; (conv => whnf))); refine ⟨_, hfit, rfl, ?_⟩; conv => whnf) | (refine ⟨_, hfit, rfl, ?_⟩; conv => whnf) | (refine Or.inr (Or.inl ?_); (conv => whnf); (repeat (refine And.intro (by first | omega | (simp; done) | (simp; omega)) ?_; (conv => whnf))); refine ⟨_, hfit, ?_⟩; rintro _ _ ⟨rfl, rfl⟩; conv => whnf) | (refine Alt2.l (And.intro (by first | omega | (simp; done) | (simp; omega)) ?_); conv => whnf) | (refine Alt2.r (And.intro (by first | omega | (simp; done) | (simp; omega)) ?_); conv => whnf) | (refine Ok.scope ?_) | (refine Ok.label ?_; conv => whnf) | (refine rd rfl (by assumption) ?_; conv => whnf) | (refine ⟨_, .inl ⟨rfl, rfl⟩, ?_⟩; conv => whnf) | (refine ⟨_, _, rfl, rfl, ?_⟩; conv => whnf) | (refine ⟨fun _ => ?_, fun _ => ?_⟩ <;> (conv => whnf) <;> (try (exfalso; omega))) | (refine And.intro (by first | omega | rfl | (simp; done) | (simp; omega)) ?_; conv => whnf) | (refine num_any ?_; conv => whnf) | (refine ⟨_, rfl, ?_⟩; conv => whnf) | fail)
    · refine Or.inl ?_; (conv => whnf)
      exact ⟨rfl, _, rfl, DSp.nil 0⟩
    · rename_i h
      exact absurd hfp h
set_option maxRecDepth 100000 in
set_option maxHeartbeats 8000000 in
theorem minus_at {n m : Int} {ts us : List Term} (hf : Fine n ts) (hg : Fine m us) (ks ks2 : List TR) (rm rm2 : List (List D)) (h1 : ks.map TR.t = ts) (h2 : ks2.map TR.t = us) :
    FSpec Tryz.prog T 25 [.agg [.i .i64 n, .lst 112 (ks.map trow) rm], .agg [.i .i64 m, .lst 112 (ks2.map trow) rm2]] (POut (minusO n m ts us)) := by
  have hfit := fits2_at n m
  have hl2 : ks2.length = us.length := by rw [← h2, List.length_map]
  have hm2 : (ks2.map trow).length = us.length := by simp [hl2]
  have hk2 := hg.len
  refine FSpec.of_deferK 3 tok Tryz.func25 rfl Tryz.call25 (by simp) def_minus (zd1 := [.i .i64 0, .nilS]) (zd2 := [.i .i64 3]) rfl rfl (by simp [Value.oneCell']) (by simp [Value.oneCell']) rfl ?_
  by_cases hfp : fitP n m
  · have hnm := hfp.1
    subst hnm
    rw [minusO_fit hfp]
    (try (conv => whnf)); repeat' (first | refine Ok.seq ?_ | refine OkL.cons ?_ | (refine Ok.region tok ?_; conv => whnf) | (refine Ok.region_plan (id := 8) tok follows [(3, 5, []), (4, 5, []), (1, 6, []), (3, 6, [5]), (4, 6, [5]), (5, 6, []), (1, 7, []), (3, 7, []), (4, 7, []), (5, 7, []), (6, 7, [])] [.q 0, .q 1, .q 2, .q 3, .q 4, .l 5, .l 6, .l 7] (by kernel_rfl) ?_; conv => whnf) | (refine Ok.region_draw tok follows (by kernel_rfl) ?_; conv => whnf) | (refine Ok.cond ?_; conv => whnf) | refine Ok.block ?_ | (refine Ok.skip ?_; conv => whnf) | (refine Ok.exit ?_; conv => whnf) | (refine Ok.ret ?_; conv => whnf) | (refine num_in (by omega) (by omega) ?_; conv => whnf) | (refine ix _ (by assumption) ?_; conv => whnf) | (refine ixI (by omega) (by assumption) ?_; conv => whnf) | (refine ix_new _ (by omega) fun _ _ => ?_; conv => whnf) | (refine ixI_new (by omega) (by omega) fun _ _ => ?_; conv => whnf) | (refine ⟨_, by assumption, ?_⟩; conv => whnf) | (refine Or.inl ?_; (conv => whnf); (repeat (refine And.intro (by first | omega | (simp; done) | (simp; omega)) ?_; (conv => whnf))); refine ⟨_, hfit, rfl, ?_⟩; conv => whnf) | (refine ⟨_, hfit, rfl, ?_⟩; conv => whnf) | (refine Or.inr (Or.inl ?_); (conv => whnf); (repeat (refine And.intro (by first | omega | (simp; done) | (simp; omega)) ?_; (conv => whnf))); refine ⟨_, hfit, ?_⟩; rintro _ _ ⟨rfl, rfl⟩; conv => whnf) | (refine Alt2.l (And.intro (by first | omega | (simp; done) | (simp; omega)) ?_); conv => whnf) | (refine Alt2.r (And.intro (by first | omega | (simp; done) | (simp; omega)) ?_); conv => whnf) | (refine Ok.scope ?_) | (refine Ok.label ?_; conv => whnf) | (refine rd rfl (by assumption) ?_; conv => whnf) | (refine ⟨_, .inl ⟨rfl, rfl⟩, ?_⟩; conv => whnf) | (refine ⟨_, _, rfl, rfl, ?_⟩; conv => whnf) | (refine ⟨fun _ => ?_, fun _ => ?_⟩ <;> (conv => whnf) <;> (try (exfalso; omega))) | (refine And.intro (by first | omega | rfl | (simp; done) | (simp; omega)) ?_; conv => whnf) | (refine num_any ?_; conv => whnf) | (refine ⟨_, rfl, ?_⟩; conv => whnf) | fail)
    · exact absurd hfp (by assumption)
    refine OkL.nil ?_
    (conv => whnf)
    refine ⟨2, 3, rfl, rfl, by decide, by decide, by decide, rfl, ?_⟩
    (try (conv => whnf)); repeat' (first | refine Ok.seq ?_ | refine OkL.cons ?_ | (refine Ok.region tok ?_; conv => whnf) | (refine Ok.region_plan (id := 8) tok follows [(3, 5, []), (4, 5, []), (1, 6, []), (3, 6, [5]), (4, 6, [5]), (5, 6, []), (1, 7, []), (3, 7, []), (4, 7, []), (5, 7, []), (6, 7, [])] [.q 0, .q 1, .q 2, .q 3, .q 4, .l 5, .l 6, .l 7] (by kernel_rfl) ?_; conv => whnf) | (refine Ok.region_draw tok follows (by kernel_rfl) ?_; conv => whnf) | (refine Ok.cond ?_; conv => whnf) | refine Ok.block ?_ | (refine Ok.skip ?_; conv => whnf) | (refine Ok.exit ?_; conv => whnf) | (refine Ok.ret ?_; conv => whnf) | (refine num_in (by omega) (by omega) ?_; conv => whnf) | (refine ix _ (by assumption) ?_; conv => whnf) | (refine ixI (by omega) (by assumption) ?_; conv => whnf) | (refine ix_new _ (by omega) fun _ _ => ?_; conv => whnf) | (refine ixI_new (by omega) (by omega) fun _ _ => ?_; conv => whnf) | (refine ⟨_, by assumption, ?_⟩; conv => whnf) | (refine Alt2.l (And.intro (by first | omega | (simp; done) | (simp; omega)) ?_); conv => whnf) | (refine Alt2.r (And.intro (by first | omega | (simp; done) | (simp; omega)) ?_); conv => whnf) | (refine Ok.scope ?_) | (refine Ok.label ?_; conv => whnf) | (refine rd rfl (by assumption) ?_; conv => whnf) | (refine ⟨_, .inl ⟨rfl, rfl⟩, ?_⟩; conv => whnf) | (refine ⟨_, _, rfl, rfl, ?_⟩; conv => whnf) | (refine ⟨fun _ => ?_, fun _ => ?_⟩ <;> (conv => whnf) <;> (try (exfalso; omega))) | (refine And.intro (by first | omega | rfl | (simp; done) | (simp; omega)) ?_; conv => whnf) | (refine num_any ?_; conv => whnf) | (refine ⟨_, rfl, ?_⟩; conv => whnf) | fail)
    refine Ok.loopU [2, 4, 5, 17, 18, 41, 42] [19] 0 4 (fun (x : Nat × List TR × List (List D)) => [.i .i64 (x.1 : Nat)]) (fun (x : Nat × List TR × List (List D)) (_ : List (List D)) => [[.i .i64 n, .lst 112 (x.2.1.map trow) x.2.2], [.i .i64 n, .lst 112 (ks2.map trow) rm2], [.i .i64 0, .nilS], [.i .i64 0]]) (fun _ r => r) (fun (x : Nat × List TR × List (List D)) => x.1 ≤ us.length ∧ Fine n (x.2.1.map TR.t) ∧ minusL n ts us = minusL n (x.2.1.map TR.t) (us.drop x.1)) (fun (x : Nat × List TR × List (List D)) => us.length - x.1) ((0, ks, rm)) (⟨Nat.zero_le _, by rw [h1]; exact hf, by rw [h1]; rfl⟩) ?_; (conv => whnf); refine ⟨by ((conv => whnf); first | rfl | (simp [envCat, List.take_of_length_le, crow, trow, srow, drow]; done) | (simp [envCat, List.take_of_length_le, crow, trow, srow, drow]; rw [IntKind.wrap_i64]; omega)), ?_⟩
    rintro ⟨i, kr, rr⟩ ⟨hi, hfr, hml⟩
    dsimp only at hi hfr hml ⊢
    have hkr : (kr.map trow).length = (kr.map TR.t).length := by simp
    have hkl := hfr.len
    (conv => whnf)
    by_cases hil : i < us.length
    · obtain ⟨u, hu⟩ : ∃ u, ks2[i]? = some u := ⟨_, List.getElem?_eq_getElem (by omega)⟩
      have huI : ks2[((i : Nat) : Int).toNat]? = some u := hu
      have hut := tr_get h2 hu
      have hug := hg.good _ (List.mem_of_getElem? hut)
      have hul := hg.less (List.mem_of_getElem? hut)
      have hul2 : (u.t.less.map crow).length = u.t.less.length := by simp
      have hmul : ((kr.map trow).length : Int) * (1 + ((u.t.less.map crow).length : Int)) = (((kr.map TR.t).length * (1 + u.t.less.length) : Nat) : Int) := by rw [hkr, hul2]; simp
      have hmb : (kr.map TR.t).length * (1 + u.t.less.length) ≤ 128 * 128 := Nat.mul_le_mul hkl (by omega)
      have hsp := without_at hfr u hug hul kr rr rfl
      have hwg := wouts_good hfr.good hug
      have hwl := wouts_less (u := u.t) (fun t ht => hfr.less (t := t) ht)
      have hto : ∀ l : List TR, l.map TR.t = wouts (kr.map TR.t) u.t → ∀ x ∈ l, TO n.toNat x := fun l e x hx => (hwg _ (mem_of_map e hx)).to (Nat.le_trans (hwl _ (mem_of_map e hx)) (by decide))
      have hln : ∀ l : List TR, l.map TR.t = wouts (kr.map TR.t) u.t → l.length ≤ 1048576 := fun l e => by
        have h1 := wouts_len (kr.map TR.t) u.t
        rw [← e] at h1
        rw [List.length_map] at h1
        omega
      rw [drop_get hut] at hml
      by_cases hraw : (kr.map TR.t).length * (1 + u.t.less.length) ≤ 2048
      · by_cases hsz : szT (formT (wouts (kr.map TR.t) u.t)) ≤ 128
        · have hw : withoutO n (kr.map TR.t) u.t = (0, n, formT (wouts (kr.map TR.t) u.t)) := by rw [withoutO_ok hraw, bndO_le hsz]
          rw [minusL_go hw] at hml
          (try (conv => whnf)); repeat' (first | refine Ok.seq ?_ | refine OkL.cons ?_ | (refine Ok.region tok ?_; conv => whnf) | (refine Ok.region_plan (id := 8) tok follows [(3, 5, []), (4, 5, []), (1, 6, []), (3, 6, [5]), (4, 6, [5]), (5, 6, []), (1, 7, []), (3, 7, []), (4, 7, []), (5, 7, []), (6, 7, [])] [.q 0, .q 1, .q 2, .q 3, .q 4, .l 5, .l 6, .l 7] (by kernel_rfl) ?_; conv => whnf) | (refine Ok.region_draw tok follows (by kernel_rfl) ?_; conv => whnf) | (refine Ok.cond ?_; conv => whnf) | refine Ok.block ?_ | (refine Ok.skip ?_; conv => whnf) | (refine Ok.exit ?_; conv => whnf) | (refine Ok.ret ?_; conv => whnf) | (refine num_in (by omega) (by omega) ?_; conv => whnf) | (refine ix _ (by assumption) ?_; conv => whnf) | (refine ixI (by omega) (by assumption) ?_; conv => whnf) | (refine ix_new _ (by omega) fun _ _ => ?_; conv => whnf) | (refine ixI_new (by omega) (by omega) fun _ _ => ?_; conv => whnf) | (refine ⟨_, by assumption, ?_⟩; conv => whnf) | (refine Or.inl ?_; (conv => whnf); (repeat (refine And.intro (by first | omega | (simp; done) | (simp; omega)) ?_; (conv => whnf))); refine ⟨_, raw_at (n := ((kr.map trow).length : Int) * (1 + ((u.t.less.map crow).length : Int))) (by rw [hmul]; omega), rfl, ?_⟩; conv => whnf) | (refine ⟨_, raw_at (n := ((kr.map trow).length : Int) * (1 + ((u.t.less.map crow).length : Int))) (by rw [hmul]; omega), rfl, ?_⟩; conv => whnf) | (refine Or.inr (Or.inl ?_); (conv => whnf); (repeat (refine And.intro (by first | omega | (simp; done) | (simp; omega)) ?_; (conv => whnf))); refine ⟨_, raw_at (n := ((kr.map trow).length : Int) * (1 + ((u.t.less.map crow).length : Int))) (by rw [hmul]; omega), ?_⟩; rintro _ _ ⟨rfl, rfl⟩; conv => whnf) | (refine Or.inr (Or.inl ?_); (conv => whnf); (repeat (refine And.intro (by first | omega | (simp; done) | (simp; omega)) ?_; (conv => whnf))); refine ⟨_, hsp , ?_⟩; rintro _ _ ⟨l, rm3, rfl, rfl, hl⟩ <;> (conv => whnf)) | (refine Or.inr (Or.inl ?_); (conv => whnf); (repeat (refine And.intro (by first | omega | (simp; done) | (simp; omega)) ?_; (conv => whnf))); refine ⟨_, form_at n n.toNat l (hln l hl) (hto l hl) rfl (by rw [hl]; exact hsz) , ?_⟩; rintro _ _ ⟨ks3, rm4, rfl, rfl, hks3, hkm⟩ <;> (conv => whnf)) | (refine Alt2.l (And.intro (by first | omega | (simp; done) | (simp; omega)) ?_); conv => whnf) | (refine Alt2.r (And.intro (by first | omega | (simp; done) | (simp; omega)) ?_); conv => whnf) | (refine Ok.scope ?_) | (refine Ok.label ?_; conv => whnf) | (refine rd rfl (by assumption) ?_; conv => whnf) | (refine ⟨_, .inl ⟨rfl, rfl⟩, ?_⟩; conv => whnf) | (refine ⟨_, _, rfl, rfl, ?_⟩; conv => whnf) | (refine ⟨fun _ => ?_, fun _ => ?_⟩ <;> (conv => whnf) <;> (try (exfalso; omega))) | (refine And.intro (by first | omega | rfl | (simp; done) | (simp; omega)) ?_; conv => whnf) | (refine num_any ?_; conv => whnf) | (refine ⟨_, rfl, ?_⟩; conv => whnf) | fail)
          refine ⟨(i + 1, ks3, rm4), by dsimp only; omega, ⟨by dsimp only; omega, by dsimp only; rw [hks3, hl]; exact .form hfr.n0 hfr.n1 hwg hsz, by dsimp only; rw [hks3, hl]; exact hml⟩, ?_⟩
          (conv => whnf)
          rfl
        · have hw : withoutO n (kr.map TR.t) u.t = (3, 0, []) := by rw [withoutO_ok hraw, bndO_gt (by omega)]
          rw [minusL_stop hw] at hml
          rw [hml]
          (try (conv => whnf)); repeat' (first | refine Ok.seq ?_ | refine OkL.cons ?_ | (refine Ok.region tok ?_; conv => whnf) | (refine Ok.cond ?_; conv => whnf) | refine Ok.block ?_ | (refine Ok.skip ?_; conv => whnf) | (refine Ok.exit ?_; conv => whnf) | (refine Ok.ret ?_; conv => whnf) | (refine num_in (by omega) (by omega) ?_; conv => whnf) | (refine ix _ (by assumption) ?_; conv => whnf) | (refine ixI (by omega) (by assumption) ?_; conv => whnf) | (refine ix_new _ (by omega) fun _ _ => ?_; conv => whnf) | (refine ixI_new (by omega) (by omega) fun _ _ => ?_; conv => whnf) | (refine ⟨_, by assumption, ?_⟩; conv => whnf) | (refine Or.inl ?_; (conv => whnf); (repeat (refine And.intro (by first | omega | (simp; done) | (simp; omega)) ?_; (conv => whnf))); refine ⟨_, raw_at (n := ((kr.map trow).length : Int) * (1 + ((u.t.less.map crow).length : Int))) (by rw [hmul]; omega), rfl, ?_⟩; conv => whnf) | (refine ⟨_, raw_at (n := ((kr.map trow).length : Int) * (1 + ((u.t.less.map crow).length : Int))) (by rw [hmul]; omega), rfl, ?_⟩; conv => whnf) | (refine Or.inr (Or.inl ?_); (conv => whnf); (repeat (refine And.intro (by first | omega | (simp; done) | (simp; omega)) ?_; (conv => whnf))); refine ⟨_, raw_at (n := ((kr.map trow).length : Int) * (1 + ((u.t.less.map crow).length : Int))) (by rw [hmul]; omega), ?_⟩; rintro _ _ ⟨rfl, rfl⟩; conv => whnf) | (refine Alt2.l (And.intro (by first | omega | (simp; done) | (simp; omega)) ?_); conv => whnf) | (refine Alt2.r (And.intro (by first | omega | (simp; done) | (simp; omega)) ?_); conv => whnf) | (refine Ok.scope ?_) | (refine Ok.label ?_; conv => whnf) | (refine rd rfl (by assumption) ?_; conv => whnf) | (refine ⟨_, .inl ⟨rfl, rfl⟩, ?_⟩; conv => whnf) | (refine ⟨_, _, rfl, rfl, ?_⟩; conv => whnf) | (refine ⟨fun _ => ?_, fun _ => ?_⟩ <;> (conv => whnf) <;> (try (exfalso; omega))) | (refine And.intro (by first | omega | rfl | (simp; done) | (simp; omega)) ?_; conv => whnf) | (refine num_any ?_; conv => whnf) | (refine ⟨_, rfl, ?_⟩; conv => whnf) | fail)
          refine Ok.region_planpanS tok follows [(3, 5, []), (4, 5, [])] [.q 0, .q 1, .q 2, .q 3, .q 4, .l 5] 6 (by kernel_rfl) ?_; (conv => whnf)
          (try (conv => whnf)); repeat' (first | refine Ok.seq ?_ | refine OkL.cons ?_ | (refine Ok.region tok ?_; conv => whnf) | (refine Ok.cond ?_; conv => whnf) | refine Ok.block ?_ | (refine Ok.skip ?_; conv => whnf) | (refine Ok.exit ?_; conv => whnf) | (refine Ok.ret ?_; conv => whnf) | (refine num_in (by omega) (by omega) ?_; conv => whnf) | (refine ix _ (by assumption) ?_; conv => whnf) | (refine ixI (by omega) (by assumption) ?_; conv => whnf) | (refine ix_new _ (by omega) fun _ _ => ?_; conv => whnf) | (refine ixI_new (by omega) (by omega) fun _ _ => ?_; conv => whnf) | (refine ⟨_, by assumption, ?_⟩; conv => whnf) | (refine Or.inr (Or.inl ?_); (conv => whnf); (repeat (refine And.intro (by first | omega | (simp; done) | (simp; omega)) ?_; (conv => whnf))); refine ⟨_, hsp , ?_⟩; rintro _ _ ⟨l, rm3, rfl, rfl, hl⟩ <;> (conv => whnf)) | (refine Alt2.l (And.intro (by first | omega | (simp; done) | (simp; omega)) ?_); conv => whnf) | (refine Alt2.r (And.intro (by first | omega | (simp; done) | (simp; omega)) ?_); conv => whnf) | (refine Ok.scope ?_) | (refine Ok.label ?_; conv => whnf) | (refine rd rfl (by assumption) ?_; conv => whnf) | (refine ⟨_, .inl ⟨rfl, rfl⟩, ?_⟩; conv => whnf) | (refine ⟨_, _, rfl, rfl, ?_⟩; conv => whnf) | (refine ⟨fun _ => ?_, fun _ => ?_⟩ <;> (conv => whnf) <;> (try (exfalso; omega))) | (refine And.intro (by first | omega | rfl | (simp; done) | (simp; omega)) ?_; conv => whnf) | (refine num_any ?_; conv => whnf) | (refine ⟨_, rfl, ?_⟩; conv => whnf) | fail)
          refine ⟨_, form_pan n n.toNat l (hln l hl) (hto l hl) rfl (by rw [hl]; omega), ?_⟩
          (conv => whnf)
          refine ⟨rfl, 2, 3, _, _, rfl, rfl, rfl, rfl, rfl, rfl, by decide, rfl, ?_⟩
          (conv => whnf)
          refine Or.inl ?_; (conv => whnf)
          exact ⟨rfl, _, rfl, PSp.nil 0⟩
      · have hw : withoutO n (kr.map TR.t) u.t = (3, 0, []) := withoutO_raw hraw
        rw [minusL_stop hw] at hml
        rw [hml]
        (try (conv => whnf)); repeat' (first | (refine Ok.region_pan (id := 7) tok 8 ?_; (conv => whnf)) | refine Ok.seq ?_ | refine OkL.cons ?_ | (refine Ok.region tok ?_; conv => whnf) | (refine Ok.region_plan (id := 8) tok follows [(3, 5, []), (4, 5, []), (1, 6, []), (3, 6, [5]), (4, 6, [5]), (5, 6, []), (1, 7, []), (3, 7, []), (4, 7, []), (5, 7, []), (6, 7, [])] [.q 0, .q 1, .q 2, .q 3, .q 4, .l 5, .l 6, .l 7] (by kernel_rfl) ?_; conv => whnf) | (refine Ok.region_draw tok follows (by kernel_rfl) ?_; conv => whnf) | (refine Ok.cond ?_; conv => whnf) | refine Ok.block ?_ | (refine Ok.skip ?_; conv => whnf) | (refine Ok.exit ?_; conv => whnf) | (refine Ok.ret ?_; conv => whnf) | (refine num_in (by omega) (by omega) ?_; conv => whnf) | (refine ix _ (by assumption) ?_; conv => whnf) | (refine ixI (by omega) (by assumption) ?_; conv => whnf) | (refine ix_new _ (by omega) fun _ _ => ?_; conv => whnf) | (refine ixI_new (by omega) (by omega) fun _ _ => ?_; conv => whnf) | (refine ⟨_, by assumption, ?_⟩; conv => whnf) | (refine Alt2.l (And.intro (by first | omega | (simp; done) | (simp; omega)) ?_); conv => whnf) | (refine Alt2.r (And.intro (by first | omega | (simp; done) | (simp; omega)) ?_); conv => whnf) | (refine Ok.scope ?_) | (refine Ok.label ?_; conv => whnf) | (refine rd rfl (by assumption) ?_; conv => whnf) | (refine ⟨_, .inl ⟨rfl, rfl⟩, ?_⟩; conv => whnf) | (refine ⟨_, _, rfl, rfl, ?_⟩; conv => whnf) | (refine ⟨fun _ => ?_, fun _ => ?_⟩ <;> (conv => whnf) <;> (try (exfalso; omega))) | (refine And.intro (by first | omega | rfl | (simp; done) | (simp; omega)) ?_; conv => whnf) | (refine num_any ?_; conv => whnf) | (refine ⟨_, rfl, ?_⟩; conv => whnf) | fail)
        refine ⟨_, raw_pan (by rw [hmul]; omega), ?_⟩
        (conv => whnf)
        refine ⟨rfl, 2, 3, _, _, rfl, rfl, rfl, rfl, rfl, rfl, by decide, rfl, ?_⟩
        (conv => whnf)
        refine Or.inl ?_; (conv => whnf)
        exact ⟨rfl, _, rfl, PSp.nil 0⟩
    · have hie : i = us.length := by omega
      subst hie
      rw [List.drop_length] at hml
      rw [hml]
      (try (conv => whnf)); repeat' (first | refine Ok.seq ?_ | refine OkL.cons ?_ | (refine Ok.region tok ?_; conv => whnf) | (refine Ok.region_plan (id := 8) tok follows [(3, 5, []), (4, 5, []), (1, 6, []), (3, 6, [5]), (4, 6, [5]), (5, 6, []), (1, 7, []), (3, 7, []), (4, 7, []), (5, 7, []), (6, 7, [])] [.q 0, .q 1, .q 2, .q 3, .q 4, .l 5, .l 6, .l 7] (by kernel_rfl) ?_; conv => whnf) | (refine Ok.region_draw tok follows (by kernel_rfl) ?_; conv => whnf) | (refine Ok.cond ?_; conv => whnf) | refine Ok.block ?_ | (refine Ok.skip ?_; conv => whnf) | (refine Ok.exit ?_; conv => whnf) | (refine Ok.ret ?_; conv => whnf) | (refine num_in (by omega) (by omega) ?_; conv => whnf) | (refine ix _ (by assumption) ?_; conv => whnf) | (refine ixI (by omega) (by assumption) ?_; conv => whnf) | (refine ix_new _ (by omega) fun _ _ => ?_; conv => whnf) | (refine ixI_new (by omega) (by omega) fun _ _ => ?_; conv => whnf) | (refine ⟨_, by assumption, ?_⟩; conv => whnf) | (refine Alt2.l (And.intro (by first | omega | (simp; done) | (simp; omega)) ?_); conv => whnf) | (refine Alt2.r (And.intro (by first | omega | (simp; done) | (simp; omega)) ?_); conv => whnf) | (refine Ok.scope ?_) | (refine Ok.label ?_; conv => whnf) | (refine rd rfl (by assumption) ?_; conv => whnf) | (refine ⟨_, .inl ⟨rfl, rfl⟩, ?_⟩; conv => whnf) | (refine ⟨_, _, rfl, rfl, ?_⟩; conv => whnf) | (refine ⟨fun _ => ?_, fun _ => ?_⟩ <;> (conv => whnf) <;> (try (exfalso; omega))) | (refine And.intro (by first | omega | rfl | (simp; done) | (simp; omega)) ?_; conv => whnf) | (refine num_any ?_; conv => whnf) | (refine ⟨_, rfl, ?_⟩; conv => whnf) | fail)
      refine Or.inl ?_; (conv => whnf)
      exact ⟨rfl, _, rfl, kr, rr, rfl, rfl⟩
  · rw [minusO_not hfp]
    (try (conv => whnf)); repeat' (first | refine Ok.seq ?_ | refine OkL.cons ?_ | (refine Ok.region tok ?_; conv => whnf) | (refine Ok.region_plan (id := 8) tok follows [(3, 5, []), (4, 5, []), (1, 6, []), (3, 6, [5]), (4, 6, [5]), (5, 6, []), (1, 7, []), (3, 7, []), (4, 7, []), (5, 7, []), (6, 7, [])] [.q 0, .q 1, .q 2, .q 3, .q 4, .l 5, .l 6, .l 7] (by kernel_rfl) ?_; conv => whnf) | (refine Ok.region_draw tok follows (by kernel_rfl) ?_; conv => whnf) | (refine Ok.cond ?_; conv => whnf) | refine Ok.block ?_ | (refine Ok.skip ?_; conv => whnf) | (refine Ok.exit ?_; conv => whnf) | (refine Ok.ret ?_; conv => whnf) | (refine num_in (by omega) (by omega) ?_; conv => whnf) | (refine ix _ (by assumption) ?_; conv => whnf) | (refine ixI (by omega) (by assumption) ?_; conv => whnf) | (refine ix_new _ (by omega) fun _ _ => ?_; conv => whnf) | (refine ixI_new (by omega) (by omega) fun _ _ => ?_; conv => whnf) | (refine ⟨_, by assumption, ?_⟩; conv => whnf) | (refine Or.inl ?_; (conv => whnf); (repeat (refine And.intro (by first | omega | (simp; done) | (simp; omega)) ?_; (conv => whnf))); refine ⟨_, hfit, rfl, ?_⟩; conv => whnf) | (refine ⟨_, hfit, rfl, ?_⟩; conv => whnf) | (refine Or.inr (Or.inl ?_); (conv => whnf); (repeat (refine And.intro (by first | omega | (simp; done) | (simp; omega)) ?_; (conv => whnf))); refine ⟨_, hfit, ?_⟩; rintro _ _ ⟨rfl, rfl⟩; conv => whnf) | (refine Alt2.l (And.intro (by first | omega | (simp; done) | (simp; omega)) ?_); conv => whnf) | (refine Alt2.r (And.intro (by first | omega | (simp; done) | (simp; omega)) ?_); conv => whnf) | (refine Ok.scope ?_) | (refine Ok.label ?_; conv => whnf) | (refine rd rfl (by assumption) ?_; conv => whnf) | (refine ⟨_, .inl ⟨rfl, rfl⟩, ?_⟩; conv => whnf) | (refine ⟨_, _, rfl, rfl, ?_⟩; conv => whnf) | (refine ⟨fun _ => ?_, fun _ => ?_⟩ <;> (conv => whnf) <;> (try (exfalso; omega))) | (refine And.intro (by first | omega | rfl | (simp; done) | (simp; omega)) ?_; conv => whnf) | (refine num_any ?_; conv => whnf) | (refine ⟨_, rfl, ?_⟩; conv => whnf) | fail)
    · refine Or.inl ?_; (conv => whnf)
      exact ⟨rfl, _, rfl, PSp.nil 0⟩
    · rename_i h
      exact absurd hfp h
set_option maxRecDepth 100000 in
set_option maxHeartbeats 4000000 in
theorem takes_at (n : Int) (a : Str) (m : Int) (b : Str) : FSpec Tryz.prog T 6 [.i .i64 n, .s a, .i .i64 m, .s b] (fun r _ => r = .b True) := by
  have hf := parO_fine n a
  have hg := parO_fine m b
  have r1 := read_at n a
  have r2 := read_at m b
  unfold ReadO at r1 r2
  generalize parO n a = o1 at *
  generalize parO m b = o2 at *
  obtain ⟨e1, n1, ts⟩ := o1
  obtain ⟨e2, n2, us⟩ := o2
  dsimp only at hf hg r1 r2
  have hj := minusO_fine hf hg
  refine FSpec.of_ok tok Tryz.func6 rfl Tryz.call6 (by simp) ?_
  (try (conv => whnf)); repeat' (first | refine Ok.seq ?_ | refine OkL.cons ?_ | (refine Ok.region tok ?_; conv => whnf) | (refine Ok.region_draw tok follows (by kernel_rfl) ?_; conv => whnf) | (refine Ok.cond ?_; conv => whnf) | refine Ok.block ?_ | (refine Ok.skip ?_; conv => whnf) | (refine Ok.exit ?_; conv => whnf) | (refine Ok.ret ?_; conv => whnf) | (refine num_in (by omega) (by omega) ?_; conv => whnf) | (refine ix _ (by assumption) ?_; conv => whnf) | (refine ixI (by omega) (by assumption) ?_; conv => whnf) | (refine ix_new _ (by omega) fun _ _ => ?_; conv => whnf) | (refine ixI_new (by omega) (by omega) fun _ _ => ?_; conv => whnf) | (refine ⟨_, by assumption, ?_⟩; conv => whnf) | (refine Or.inl ?_; (conv => whnf); (repeat (refine And.intro (by first | omega | (simp; done) | (simp; omega)) ?_; (conv => whnf))); refine ⟨_, same_at hj ks3 kd3 rm3 rd3 h3 h3d, rfl, ?_⟩; conv => whnf) | (refine ⟨_, same_at hj ks3 kd3 rm3 rd3 h3 h3d, rfl, ?_⟩; conv => whnf) | (refine Or.inr (Or.inl ?_); (conv => whnf); (repeat (refine And.intro (by first | omega | (simp; done) | (simp; omega)) ?_; (conv => whnf))); refine ⟨_, same_at hj ks3 kd3 rm3 rd3 h3 h3d, ?_⟩; rintro _ _ ⟨rfl, rfl⟩; conv => whnf) | (refine Or.inr (Or.inl ?_); (conv => whnf); (repeat (refine And.intro (by first | omega | (simp; done) | (simp; omega)) ?_; (conv => whnf))); refine ⟨_, r1 , ?_⟩; rintro _ _ ⟨rfl, ks1, kd1, rm1, rd1, rfl, h1, h1d⟩ <;> (conv => whnf)) | (refine Or.inr (Or.inl ?_); (conv => whnf); (repeat (refine And.intro (by first | omega | (simp; done) | (simp; omega)) ?_; (conv => whnf))); refine ⟨_, r2 , ?_⟩; rintro _ _ ⟨rfl, ks2, kd2, rm2, rd2, rfl, h2, h2d⟩ <;> (conv => whnf)) | (refine Or.inr (Or.inl ?_); (conv => whnf); (repeat (refine And.intro (by first | omega | (simp; done) | (simp; omega)) ?_; (conv => whnf))); refine ⟨_, minus_at hf hg ks1 ks2 rm1 rm2 h1 h2 , ?_⟩; rintro _ _ ⟨rfl, _, rfl, ks3, rm3, rfl, h3⟩ <;> (conv => whnf)) | (refine Or.inr (Or.inl ?_); (conv => whnf); (repeat (refine And.intro (by first | omega | (simp; done) | (simp; omega)) ?_; (conv => whnf))); refine ⟨_, rminus_at hf hg kd1 kd2 rd1 rd2 h1d h2d , ?_⟩; rintro _ _ ⟨rfl, _, rfl, kd3, rd3, rfl, h3d⟩ <;> (conv => whnf)) | (refine Alt2.l (And.intro (by first | omega | (simp; done) | (simp; omega)) ?_); conv => whnf) | (refine Alt2.r (And.intro (by first | omega | (simp; done) | (simp; omega)) ?_); conv => whnf) | (refine Ok.scope ?_) | (refine Ok.label ?_; conv => whnf) | (refine rd rfl (by assumption) ?_; conv => whnf) | (refine ⟨_, .inl ⟨rfl, rfl⟩, ?_⟩; conv => whnf) | (refine ⟨_, _, rfl, rfl, ?_⟩; conv => whnf) | (refine ⟨fun _ => ?_, fun _ => ?_⟩ <;> (conv => whnf) <;> (try (exfalso; omega))) | (refine And.intro (by first | omega | rfl | (simp; done) | (simp; omega)) ?_; conv => whnf) | (refine num_any ?_; conv => whnf) | (refine ⟨_, rfl, ?_⟩; conv => whnf) | fail)
  · exact absurd trivial (by assumption)
  · exact absurd trivial (by assumption)
  · refine Or.inl ?_; (conv => whnf)
    rfl
end Go.Proofs.YtaiondckookpiaaGreatDoor
