/- The walks of this law's own functions. -/
import Derived.Test.YtaiondckookpiaaGreatDoorMH
/- Join, by the program and by the document. -/
namespace Go.Proofs.YtaiondckookpiaaGreatDoor
open Go Go.Vx
def bndO (n : Int) (l : List Term) : Int × Int × List Term := if szT l ≤ 128 then (0, n, l) else (3, 0, [])
def fitP (n m : Int) : Prop := n = m ∧ 0 < n
open Classical in
noncomputable def joinO (n m : Int) (ts us : List Term) : Int × Int × List Term := if fitP n m then bndO n (formT (ts ++ us)) else (11, 0, [])
theorem fits2_at (n m : Int) : FSpec Tryz.prog T 62 [.i .i64 n, .i .i64 m] (fun r _ => r = .b (fitP n m)) := by
  refine FSpec.of_ok tok Tryz.func62 rfl Tryz.call62 (by simp) ?_
  (try (conv => whnf)); repeat' (first | refine Ok.seq ?_ | refine OkL.cons ?_ | (refine Ok.region tok ?_; conv => whnf) | (refine Ok.region_draw tok follows (by kernel_rfl) ?_; conv => whnf) | (refine Ok.cond ?_; conv => whnf) | refine Ok.block ?_ | (refine Ok.skip ?_; conv => whnf) | (refine Ok.exit ?_; conv => whnf) | (refine Ok.ret ?_; conv => whnf) | (refine num_in (by omega) (by omega) ?_; conv => whnf) | (refine ix _ (by assumption) ?_; conv => whnf) | (refine ixI (by omega) (by assumption) ?_; conv => whnf) | (refine ix_new _ (by omega) fun _ _ => ?_; conv => whnf) | (refine ixI_new (by omega) (by omega) fun _ _ => ?_; conv => whnf) | (refine ⟨_, by assumption, ?_⟩; conv => whnf) | (refine Alt2.l (And.intro (by first | omega | (simp; done) | (simp; omega)) ?_); conv => whnf) | (refine Alt2.r (And.intro (by first | omega | (simp; done) | (simp; omega)) ?_); conv => whnf) | (refine Ok.scope ?_) | (refine Ok.label ?_; conv => whnf) | (refine rd rfl (by assumption) ?_; conv => whnf) | (refine ⟨_, .inl ⟨rfl, rfl⟩, ?_⟩; conv => whnf) | (refine ⟨_, _, rfl, rfl, ?_⟩; conv => whnf) | (refine ⟨fun _ => ?_, fun _ => ?_⟩ <;> (conv => whnf) <;> (try (exfalso; omega))) | (refine And.intro (by first | omega | rfl | (simp; done) | (simp; omega)) ?_; conv => whnf) | (refine num_any ?_; conv => whnf) | (refine ⟨_, rfl, ?_⟩; conv => whnf) | fail)
  · rename_i h
    refine Or.inl ?_; (conv => whnf)
    exact congrArg D.b (propext ⟨fun h2 => ⟨h, h2⟩, fun h2 => h2.2⟩)
  · rename_i h
    refine Or.inl ?_; (conv => whnf)
    show D.b False = _
    exact congrArg D.b (propext ⟨fun h2 => h2.elim, fun h2 => h h2.1⟩)
theorem rfit_at (n m : Int) (d d2 : D) (hd : ∃ e r m, d = .lst e r m) (hd2 : ∃ e r m, d2 = .lst e r m) : FSpec Tryz.prog T 66 [.agg [.i .i64 n, d], .agg [.i .i64 m, d2]] (fun r _ => r = .b (fitP n m)) := by
  obtain ⟨_, _, _, rfl⟩ := hd
  obtain ⟨_, _, _, rfl⟩ := hd2
  refine FSpec.of_ok tok Tryz.func66 rfl Tryz.call66 (by simp) ?_
  (try (conv => whnf)); repeat' (first | refine Ok.seq ?_ | refine OkL.cons ?_ | (refine Ok.region tok ?_; conv => whnf) | (refine Ok.region_draw tok follows (by kernel_rfl) ?_; conv => whnf) | (refine Ok.cond ?_; conv => whnf) | refine Ok.block ?_ | (refine Ok.skip ?_; conv => whnf) | (refine Ok.exit ?_; conv => whnf) | (refine Ok.ret ?_; conv => whnf) | (refine num_in (by omega) (by omega) ?_; conv => whnf) | (refine ix _ (by assumption) ?_; conv => whnf) | (refine ixI (by omega) (by assumption) ?_; conv => whnf) | (refine ix_new _ (by omega) fun _ _ => ?_; conv => whnf) | (refine ixI_new (by omega) (by omega) fun _ _ => ?_; conv => whnf) | (refine ⟨_, by assumption, ?_⟩; conv => whnf) | (refine Alt2.l (And.intro (by first | omega | (simp; done) | (simp; omega)) ?_); conv => whnf) | (refine Alt2.r (And.intro (by first | omega | (simp; done) | (simp; omega)) ?_); conv => whnf) | (refine Ok.scope ?_) | (refine Ok.label ?_; conv => whnf) | (refine rd rfl (by assumption) ?_; conv => whnf) | (refine ⟨_, .inl ⟨rfl, rfl⟩, ?_⟩; conv => whnf) | (refine ⟨_, _, rfl, rfl, ?_⟩; conv => whnf) | (refine ⟨fun _ => ?_, fun _ => ?_⟩ <;> (conv => whnf) <;> (try (exfalso; omega))) | (refine And.intro (by first | omega | rfl | (simp; done) | (simp; omega)) ?_; conv => whnf) | (refine num_any ?_; conv => whnf) | (refine ⟨_, rfl, ?_⟩; conv => whnf) | fail)
  · rename_i h
    refine Or.inl ?_; (conv => whnf)
    exact congrArg D.b (propext ⟨fun h2 => ⟨h2, h⟩, fun h2 => h2.1⟩)
  · rename_i h
    refine Or.inl ?_; (conv => whnf)
    show D.b False = _
    exact congrArg D.b (propext ⟨fun h2 => h2.elim, fun h2 => h h2.2⟩)
theorem bndO_fine {n : Int} {l : List Term} (h0 : 0 ≤ n) (h1 : n ≤ 256) (hg : ∀ t ∈ l, GoodT n.toNat t) : Fine (bndO n (formT l)).2.1 (bndO n (formT l)).2.2 := by
  unfold bndO
  split
  · rename_i h; exact .form h0 h1 hg h
  · exact .nil (by decide) (by decide)
theorem joinO_fine {n m : Int} {ts us : List Term} (hf : Fine n ts) (hg : Fine m us) : Fine (joinO n m ts us).2.1 (joinO n m ts us).2.2 := by
  unfold joinO
  split
  · rename_i h
    obtain ⟨rfl, h0⟩ := h
    exact bndO_fine hf.n0 hf.n1 fun t ht => (List.mem_append.1 ht).elim (hf.good t) (hg.good t)
  · exact .nil (by decide) (by decide)
theorem bndO_le {n : Int} {l : List Term} (h : szT l ≤ 128) : bndO n l = (0, n, l) := if_pos h
theorem bndO_gt {n : Int} {l : List Term} (h : 128 < szT l) : bndO n l = (3, 0, []) := if_neg (by omega)
theorem joinO_fit {n m : Int} {ts us : List Term} (h : fitP n m) : joinO n m ts us = bndO n (formT (ts ++ us)) := if_pos h
theorem joinO_not {n m : Int} {ts us : List Term} (h : ¬ fitP n m) : joinO n m ts us = (11, 0, []) := if_neg h
theorem formT_len (l : List Term) : (formT l).length ≤ l.length := by
  unfold formT
  rw [(srt_perm aheadT _).length_eq]
  exact grG_len covT l
theorem form_len {ks : List TR} {l : List Term} {k : Nat} (e : ks.map TR.t = formT l) (h : l.length ≤ k) : ks.length ≤ k := by
  have := congrArg List.length e
  rw [List.length_map] at this
  rw [this]
  exact Nat.le_trans (formT_len l) h
theorem DOut.form {n : Int} {l : List Term} {ks : List TR} {rm : List (List D)} (e : ks.map TR.t = formT l) (h : szT (ks.map TR.t) ≤ 128) : DOut (bndO n (formT l)) (.tup [.agg [.i .i64 n, .lst 120 (ks.map drow) rm], .i .i64 0]) [] := by
  rw [bndO_le (by rw [← e]; exact h)]
  exact ⟨rfl, _, rfl, ks, rm, rfl, e⟩
theorem DOut.many {n : Int} {l : List Term} {ks : List TR} (e : ks.map TR.t = formT l) (h : 128 < szT (ks.map TR.t)) : DOut (bndO n (formT l)) (.tup [.agg [.i .i64 0, .lst 120 [] []], .i .i64 3]) [] := by
  rw [bndO_gt (by rw [← e]; exact h)]
  exact ⟨rfl, _, rfl, .nil 0⟩
set_option maxHeartbeats 4000000 in
theorem rjoin_at {n m : Int} {ts us : List Term} (hf : Fine n ts) (hg : Fine m us) (ks ks2 : List TR) (rm rm2 : List (List D)) (h1 : ks.map TR.t = ts) (h2 : ks2.map TR.t = us) :
    FSpec Tryz.prog T 19 [.agg [.i .i64 n, .lst 120 (ks.map drow) rm], .agg [.i .i64 m, .lst 120 (ks2.map drow) rm2]] (DOut (joinO n m ts us)) := by
  have hfit := rfit_at n m (.lst 120 (ks.map drow) rm) (.lst 120 (ks2.map drow) rm2) ⟨_, _, _, rfl⟩ ⟨_, _, _, rfl⟩
  have hl1 := hf.len
  have hl2 := hg.len
  rw [← h1, List.length_map] at hl1
  rw [← h2, List.length_map] at hl2
  refine FSpec.of_ok tok Tryz.func19 rfl Tryz.call19 (by simp) ?_
  have htk : List.take (List.map drow ks ++ List.map drow ks2).length (List.map drow ks ++ List.map drow ks2) = (ks ++ ks2).map drow := by rw [List.take_of_length_le (Nat.le_refl _), List.map_append]
  have hmem : ∀ x ∈ ks ++ ks2, x.t.less.length ≤ 1048576 := fun x hx => (List.mem_append.1 hx).elim (hf.mless h1 x) (hg.mless h2 x)
  by_cases hfp : fitP n m
  · have hnm := hfp.1
    subst hnm
    have hrn : ∀ x ∈ ks ++ ks2, RN2 x ∧ x.t.Ok n.toNat := fun x hx => (List.mem_append.1 hx).elim (hf.rn h1 x) (hg.rn h2 x)
    have hts : (ks ++ ks2).map TR.t = ts ++ us := by rw [List.map_append, h1, h2]
    rw [joinO_fit hfp, ← hts]
    have hln : ((ks ++ ks2).map TR.t).length ≤ 1048576 := by simp; omega
    (try (conv => whnf)); repeat' (first | refine Ok.seq ?_ | refine OkL.cons ?_ | (refine Ok.region tok ?_; conv => whnf) | (refine Ok.region_draw tok follows (by kernel_rfl) ?_; conv => whnf) | (refine Ok.cond ?_; conv => whnf) | refine Ok.block ?_ | (refine Ok.skip ?_; conv => whnf) | (refine Ok.exit ?_; conv => whnf) | (refine Ok.ret ?_; conv => whnf) | (refine num_in (by omega) (by omega) ?_; conv => whnf) | (refine ix _ (by assumption) ?_; conv => whnf) | (refine ixI (by omega) (by assumption) ?_; conv => whnf) | (refine ix_new _ (by omega) fun _ _ => ?_; conv => whnf) | (refine ixI_new (by omega) (by omega) fun _ _ => ?_; conv => whnf) | (refine ⟨_, by assumption, ?_⟩; conv => whnf) | (refine Or.inl ?_; (conv => whnf); (repeat (refine And.intro (by first | omega | (simp; done) | (simp; omega)) ?_; (conv => whnf))); refine ⟨_, hfit, rfl, ?_⟩; conv => whnf) | (refine ⟨_, hfit, rfl, ?_⟩; conv => whnf) | (refine Or.inr (Or.inl ?_); (conv => whnf); (repeat (refine And.intro (by first | omega | (simp; done) | (simp; omega)) ?_; (conv => whnf))); refine ⟨_, hfit, ?_⟩; rintro _ _ ⟨rfl, rfl⟩; conv => whnf) | (refine Or.inr (Or.inl ?_); (conv => whnf); (repeat (refine And.intro (by first | omega | (simp; done) | (simp; omega)) ?_; (conv => whnf))); refine ⟨_, rform_at n n.toNat (ks ++ ks2) (by simp; omega) hrn htk , ?_⟩; rintro _ _ ⟨ks3, rm3, rfl, rfl, hks3, hkm⟩ <;> (conv => whnf)) | (refine Or.inr (Or.inl ?_); (conv => whnf); (repeat (refine And.intro (by first | omega | (simp; done) | (simp; omega)) ?_; (conv => whnf))); refine ⟨_, rbound_at n ks3 (form_len hks3 hln) (fun x hx => hmem x (hkm x hx)) rfl , ?_⟩; rintro _ _ ⟨rfl, (⟨hb, rfl⟩ | ⟨hb, rfl⟩)⟩ <;> (conv => whnf)) | (refine Alt2.l (And.intro (by first | omega | (simp; done) | (simp; omega)) ?_); conv => whnf) | (refine Alt2.r (And.intro (by first | omega | (simp; done) | (simp; omega)) ?_); conv => whnf) | (refine Ok.scope ?_) | (refine Ok.label ?_; conv => whnf) | (refine rd rfl (by assumption) ?_; conv => whnf) | (refine ⟨_, .inl ⟨rfl, rfl⟩, ?_⟩; conv => whnf) | (refine ⟨_, _, rfl, rfl, ?_⟩; conv => whnf) | (refine ⟨fun _ => ?_, fun _ => ?_⟩ <;> (conv => whnf) <;> (try (exfalso; omega))) | (refine And.intro (by first | omega | rfl | (simp; done) | (simp; omega)) ?_; conv => whnf) | (refine num_any ?_; conv => whnf) | (refine ⟨_, rfl, ?_⟩; conv => whnf) | fail)
    · exact absurd hfp (by assumption)
    · refine Or.inl ?_; (conv => whnf)
      exact DOut.form hks3 hb
    · refine Or.inl ?_; (conv => whnf)
      exact DOut.many hks3 hb
  · rw [joinO_not hfp]
    (try (conv => whnf)); repeat' (first | refine Ok.seq ?_ | refine OkL.cons ?_ | (refine Ok.region tok ?_; conv => whnf) | (refine Ok.region_draw tok follows (by kernel_rfl) ?_; conv => whnf) | (refine Ok.cond ?_; conv => whnf) | refine Ok.block ?_ | (refine Ok.skip ?_; conv => whnf) | (refine Ok.exit ?_; conv => whnf) | (refine Ok.ret ?_; conv => whnf) | (refine num_in (by omega) (by omega) ?_; conv => whnf) | (refine ix _ (by assumption) ?_; conv => whnf) | (refine ixI (by omega) (by assumption) ?_; conv => whnf) | (refine ix_new _ (by omega) fun _ _ => ?_; conv => whnf) | (refine ixI_new (by omega) (by omega) fun _ _ => ?_; conv => whnf) | (refine ⟨_, by assumption, ?_⟩; conv => whnf) | (refine Or.inl ?_; (conv => whnf); (repeat (refine And.intro (by first | omega | (simp; done) | (simp; omega)) ?_; (conv => whnf))); refine ⟨_, hfit, rfl, ?_⟩; conv => whnf) | (refine ⟨_, hfit, rfl, ?_⟩; conv => whnf) | (refine Or.inr (Or.inl ?_); (conv => whnf); (repeat (refine And.intro (by first | omega | (simp; done) | (simp; omega)) ?_; (conv => whnf))); refine ⟨_, hfit, ?_⟩; rintro _ _ ⟨rfl, rfl⟩; conv => whnf) | (refine Alt2.l (And.intro (by first | omega | (simp; done) | (simp; omega)) ?_); conv => whnf) | (refine Alt2.r (And.intro (by first | omega | (simp; done) | (simp; omega)) ?_); conv => whnf) | (refine Ok.scope ?_) | (refine Ok.label ?_; conv => whnf) | (refine rd rfl (by assumption) ?_; conv => whnf) | (refine ⟨_, .inl ⟨rfl, rfl⟩, ?_⟩; conv => whnf) | (refine ⟨_, _, rfl, rfl, ?_⟩; conv => whnf) | (refine ⟨fun _ => ?_, fun _ => ?_⟩ <;> (conv => whnf) <;> (try (exfalso; omega))) | (refine And.intro (by first | omega | rfl | (simp; done) | (simp; omega)) ?_; conv => whnf) | (refine num_any ?_; conv => whnf) | (refine ⟨_, rfl, ?_⟩; conv => whnf) | fail)
    · refine Or.inl ?_; (conv => whnf)
      exact ⟨rfl, _, rfl, DSp.nil 0⟩
    · rename_i h
      exact absurd hfp h
set_option maxRecDepth 100000 in
set_option maxHeartbeats 4000000 in
theorem join_at {n m : Int} {ts us : List Term} (hf : Fine n ts) (hg : Fine m us) (ks ks2 : List TR) (rm rm2 : List (List D)) (h1 : ks.map TR.t = ts) (h2 : ks2.map TR.t = us) :
    FSpec Tryz.prog T 18 [.agg [.i .i64 n, .lst 112 (ks.map trow) rm], .agg [.i .i64 m, .lst 112 (ks2.map trow) rm2]] (POut (joinO n m ts us)) := by
  have hfit := fits2_at n m
  have hl1 := hf.len
  have hl2 := hg.len
  rw [← h1, List.length_map] at hl1
  rw [← h2, List.length_map] at hl2
  have htk : List.take (List.map trow ks ++ List.map trow ks2).length (List.map trow ks ++ List.map trow ks2) = (ks ++ ks2).map trow := by rw [List.take_of_length_le (Nat.le_refl _), List.map_append]
  have hk1 : (List.map trow ks).length = ks.length := by simp
  have hk2 : (List.map trow ks2).length = ks2.length := by simp
  refine FSpec.of_deferK 3 tok Tryz.func18 rfl Tryz.call18 (by simp) def_join (zd1 := [.i .i64 0, .nilS]) (zd2 := [.i .i64 3]) rfl rfl (by simp [Value.oneCell']) (by simp [Value.oneCell']) rfl ?_
  by_cases hfp : fitP n m
  · have hnm := hfp.1
    subst hnm
    have hto : ∀ x ∈ ks ++ ks2, TO n.toNat x := fun x hx => (List.mem_append.1 hx).elim (hf.to h1 x) (hg.to h2 x)
    have hts : (ks ++ ks2).map TR.t = ts ++ us := by rw [List.map_append, h1, h2]
    rw [joinO_fit hfp, ← hts]
    have hln : (ks ++ ks2).length ≤ 1048576 := by simp; omega
    (try (conv => whnf)); repeat' (first | refine Ok.seq ?_ | refine OkL.cons ?_ | (refine Ok.region tok ?_; conv => whnf) | (refine Ok.region_plan (id := 6) tok follows [(4, 5, []), (1, 6, []), (4, 6, [5]), (5, 6, []), (1, 7, []), (4, 7, []), (5, 7, []), (6, 7, []), (1, 8, []), (4, 8, []), (5, 8, []), (6, 8, []), (7, 8, [])] [.q 0, .q 1, .q 2, .q 3, .q 4, .l 5, .l 6, .l 7, .l 8] (by kernel_rfl) ?_; conv => whnf) | (refine Ok.region_draw tok follows (by kernel_rfl) ?_; conv => whnf) | (refine Ok.cond ?_; conv => whnf) | refine Ok.block ?_ | (refine Ok.skip ?_; conv => whnf) | (refine Ok.exit ?_; conv => whnf) | (refine Ok.ret ?_; conv => whnf) | (refine num_in (by omega) (by omega) ?_; conv => whnf) | (refine ix _ (by assumption) ?_; conv => whnf) | (refine ixI (by omega) (by assumption) ?_; conv => whnf) | (refine ix_new _ (by omega) fun _ _ => ?_; conv => whnf) | (refine ixI_new (by omega) (by omega) fun _ _ => ?_; conv => whnf) | (refine ⟨_, by assumption, ?_⟩; conv => whnf) | (refine Or.inl ?_; (conv => whnf); (repeat (refine And.intro (by first | omega | (simp; done) | (simp; omega)) ?_; (conv => whnf))); refine ⟨_, hfit, rfl, ?_⟩; conv => whnf) | (refine ⟨_, hfit, rfl, ?_⟩; conv => whnf) | (refine Or.inr (Or.inl ?_); (conv => whnf); (repeat (refine And.intro (by first | omega | (simp; done) | (simp; omega)) ?_; (conv => whnf))); refine ⟨_, hfit, ?_⟩; rintro _ _ ⟨rfl, rfl⟩; conv => whnf) | (refine Alt2.l (And.intro (by first | omega | (simp; done) | (simp; omega)) ?_); conv => whnf) | (refine Alt2.r (And.intro (by first | omega | (simp; done) | (simp; omega)) ?_); conv => whnf) | (refine Ok.scope ?_) | (refine Ok.label ?_; conv => whnf) | (refine rd rfl (by assumption) ?_; conv => whnf) | (refine ⟨_, .inl ⟨rfl, rfl⟩, ?_⟩; conv => whnf) | (refine ⟨_, _, rfl, rfl, ?_⟩; conv => whnf) | (refine ⟨fun _ => ?_, fun _ => ?_⟩ <;> (conv => whnf) <;> (try (exfalso; omega))) | (refine And.intro (by first | omega | rfl | (simp; done) | (simp; omega)) ?_; conv => whnf) | (refine num_any ?_; conv => whnf) | (refine ⟨_, rfl, ?_⟩; conv => whnf) | fail)
    · exact absurd hfp (by assumption)
    refine OkL.nil ?_
    (conv => whnf)
    refine ⟨2, 3, rfl, rfl, by decide, by decide, by decide, rfl, ?_⟩
    by_cases hsz : szT (formT ((ks ++ ks2).map TR.t)) ≤ 128
    · rw [bndO_le hsz]
      (try (conv => whnf)); repeat' (first | refine Ok.seq ?_ | refine OkL.cons ?_ | (refine Ok.region tok ?_; conv => whnf) | (refine Ok.region_plan (id := 6) tok follows [(4, 5, []), (1, 6, []), (4, 6, [5]), (5, 6, []), (1, 7, []), (4, 7, []), (5, 7, []), (6, 7, []), (1, 8, []), (4, 8, []), (5, 8, []), (6, 8, []), (7, 8, [])] [.q 0, .q 1, .q 2, .q 3, .q 4, .l 5, .l 6, .l 7, .l 8] (by kernel_rfl) ?_; conv => whnf) | (refine Ok.region_draw tok follows (by kernel_rfl) ?_; conv => whnf) | (refine Ok.cond ?_; conv => whnf) | refine Ok.block ?_ | (refine Ok.skip ?_; conv => whnf) | (refine Ok.exit ?_; conv => whnf) | (refine Ok.ret ?_; conv => whnf) | (refine num_in (by omega) (by omega) ?_; conv => whnf) | (refine ix _ (by assumption) ?_; conv => whnf) | (refine ixI (by omega) (by assumption) ?_; conv => whnf) | (refine ix_new _ (by omega) fun _ _ => ?_; conv => whnf) | (refine ixI_new (by omega) (by omega) fun _ _ => ?_; conv => whnf) | (refine ⟨_, by assumption, ?_⟩; conv => whnf) | (refine Or.inr (Or.inl ?_); (conv => whnf); (repeat (refine And.intro (by first | omega | (simp; done) | (simp; omega)) ?_; (conv => whnf))); refine ⟨_, form_at n n.toNat (ks ++ ks2) hln hto htk hsz , ?_⟩; rintro _ _ ⟨ks3, rm3, rfl, rfl, hks3, hkm⟩ <;> (conv => whnf)) | (refine Alt2.l (And.intro (by first | omega | (simp; done) | (simp; omega)) ?_); conv => whnf) | (refine Alt2.r (And.intro (by first | omega | (simp; done) | (simp; omega)) ?_); conv => whnf) | (refine Ok.scope ?_) | (refine Ok.label ?_; conv => whnf) | (refine rd rfl (by assumption) ?_; conv => whnf) | (refine ⟨_, .inl ⟨rfl, rfl⟩, ?_⟩; conv => whnf) | (refine ⟨_, _, rfl, rfl, ?_⟩; conv => whnf) | (refine ⟨fun _ => ?_, fun _ => ?_⟩ <;> (conv => whnf) <;> (try (exfalso; omega))) | (refine And.intro (by first | omega | rfl | (simp; done) | (simp; omega)) ?_; conv => whnf) | (refine num_any ?_; conv => whnf) | (refine ⟨_, rfl, ?_⟩; conv => whnf) | fail)
      refine Or.inl ?_; (conv => whnf)
      exact ⟨rfl, _, rfl, ks3, rm3, rfl, hks3⟩
    · rw [bndO_gt (by omega)]
      (try (conv => whnf)); repeat' (first | refine Ok.seq ?_ | refine OkL.cons ?_ | (refine Ok.region tok ?_; conv => whnf) | (refine Ok.cond ?_; conv => whnf) | refine Ok.block ?_ | (refine Ok.skip ?_; conv => whnf) | (refine Ok.exit ?_; conv => whnf) | (refine Ok.ret ?_; conv => whnf) | (refine num_in (by omega) (by omega) ?_; conv => whnf) | (refine ix _ (by assumption) ?_; conv => whnf) | (refine ixI (by omega) (by assumption) ?_; conv => whnf) | (refine ix_new _ (by omega) fun _ _ => ?_; conv => whnf) | (refine ixI_new (by omega) (by omega) fun _ _ => ?_; conv => whnf) | (refine ⟨_, by assumption, ?_⟩; conv => whnf) | (refine Alt2.l (And.intro (by first | omega | (simp; done) | (simp; omega)) ?_); conv => whnf) | (refine Alt2.r (And.intro (by first | omega | (simp; done) | (simp; omega)) ?_); conv => whnf) | (refine Ok.scope ?_) | (refine Ok.label ?_; conv => whnf) | (refine rd rfl (by assumption) ?_; conv => whnf) | (refine ⟨_, .inl ⟨rfl, rfl⟩, ?_⟩; conv => whnf) | (refine ⟨_, _, rfl, rfl, ?_⟩; conv => whnf) | (refine ⟨fun _ => ?_, fun _ => ?_⟩ <;> (conv => whnf) <;> (try (exfalso; omega))) | (refine And.intro (by first | omega | rfl | (simp; done) | (simp; omega)) ?_; conv => whnf) | (refine num_any ?_; conv => whnf) | (refine ⟨_, rfl, ?_⟩; conv => whnf) | fail)
      refine Ok.region_planpanS tok follows [(4, 5, [])] [.q 0, .q 1, .q 2, .q 3, .q 4, .l 5] 6 (by kernel_rfl) ?_; (conv => whnf)
      (try (conv => whnf)); repeat' (first | refine Ok.seq ?_ | refine OkL.cons ?_ | (refine Ok.region tok ?_; conv => whnf) | (refine Ok.cond ?_; conv => whnf) | refine Ok.block ?_ | (refine Ok.skip ?_; conv => whnf) | (refine Ok.exit ?_; conv => whnf) | (refine Ok.ret ?_; conv => whnf) | (refine num_in (by omega) (by omega) ?_; conv => whnf) | (refine ix _ (by assumption) ?_; conv => whnf) | (refine ixI (by omega) (by assumption) ?_; conv => whnf) | (refine ix_new _ (by omega) fun _ _ => ?_; conv => whnf) | (refine ixI_new (by omega) (by omega) fun _ _ => ?_; conv => whnf) | (refine ⟨_, by assumption, ?_⟩; conv => whnf) | (refine Alt2.l (And.intro (by first | omega | (simp; done) | (simp; omega)) ?_); conv => whnf) | (refine Alt2.r (And.intro (by first | omega | (simp; done) | (simp; omega)) ?_); conv => whnf) | (refine Ok.scope ?_) | (refine Ok.label ?_; conv => whnf) | (refine rd rfl (by assumption) ?_; conv => whnf) | (refine ⟨_, .inl ⟨rfl, rfl⟩, ?_⟩; conv => whnf) | (refine ⟨_, _, rfl, rfl, ?_⟩; conv => whnf) | (refine ⟨fun _ => ?_, fun _ => ?_⟩ <;> (conv => whnf) <;> (try (exfalso; omega))) | (refine And.intro (by first | omega | rfl | (simp; done) | (simp; omega)) ?_; conv => whnf) | (refine num_any ?_; conv => whnf) | (refine ⟨_, rfl, ?_⟩; conv => whnf) | fail)
      refine ⟨_, form_pan n n.toNat (ks ++ ks2) hln hto htk (by omega), ?_⟩
      (conv => whnf)
      refine ⟨rfl, 2, 3, _, _, rfl, rfl, rfl, rfl, rfl, rfl, by decide, rfl, ?_⟩
      (conv => whnf)
      refine Or.inl ?_; (conv => whnf)
      exact ⟨rfl, _, rfl, PSp.nil 0⟩
  · rw [joinO_not hfp]
    (try (conv => whnf)); repeat' (first | refine Ok.seq ?_ | refine OkL.cons ?_ | (refine Ok.region tok ?_; conv => whnf) | (refine Ok.region_plan (id := 6) tok follows [(4, 5, []), (1, 6, []), (4, 6, [5]), (5, 6, []), (1, 7, []), (4, 7, []), (5, 7, []), (6, 7, []), (1, 8, []), (4, 8, []), (5, 8, []), (6, 8, []), (7, 8, [])] [.q 0, .q 1, .q 2, .q 3, .q 4, .l 5, .l 6, .l 7, .l 8] (by kernel_rfl) ?_; conv => whnf) | (refine Ok.region_draw tok follows (by kernel_rfl) ?_; conv => whnf) | (refine Ok.cond ?_; conv => whnf) | refine Ok.block ?_ | (refine Ok.skip ?_; conv => whnf) | (refine Ok.exit ?_; conv => whnf) | (refine Ok.ret ?_; conv => whnf) | (refine num_in (by omega) (by omega) ?_; conv => whnf) | (refine ix _ (by assumption) ?_; conv => whnf) | (refine ixI (by omega) (by assumption) ?_; conv => whnf) | (refine ix_new _ (by omega) fun _ _ => ?_; conv => whnf) | (refine ixI_new (by omega) (by omega) fun _ _ => ?_; conv => whnf) | (refine ⟨_, by assumption, ?_⟩; conv => whnf) | (refine Or.inl ?_; (conv => whnf); (repeat (refine And.intro (by first | omega | (simp; done) | (simp; omega)) ?_; (conv => whnf))); refine ⟨_, hfit, rfl, ?_⟩; conv => whnf) | (refine ⟨_, hfit, rfl, ?_⟩; conv => whnf) | (refine Or.inr (Or.inl ?_); (conv => whnf); (repeat (refine And.intro (by first | omega | (simp; done) | (simp; omega)) ?_; (conv => whnf))); refine ⟨_, hfit, ?_⟩; rintro _ _ ⟨rfl, rfl⟩; conv => whnf) | (refine Alt2.l (And.intro (by first | omega | (simp; done) | (simp; omega)) ?_); conv => whnf) | (refine Alt2.r (And.intro (by first | omega | (simp; done) | (simp; omega)) ?_); conv => whnf) | (refine Ok.scope ?_) | (refine Ok.label ?_; conv => whnf) | (refine rd rfl (by assumption) ?_; conv => whnf) | (refine ⟨_, .inl ⟨rfl, rfl⟩, ?_⟩; conv => whnf) | (refine ⟨_, _, rfl, rfl, ?_⟩; conv => whnf) | (refine ⟨fun _ => ?_, fun _ => ?_⟩ <;> (conv => whnf) <;> (try (exfalso; omega))) | (refine And.intro (by first | omega | rfl | (simp; done) | (simp; omega)) ?_; conv => whnf) | (refine num_any ?_; conv => whnf) | (refine ⟨_, rfl, ?_⟩; conv => whnf) | fail)
    · refine Or.inl ?_; (conv => whnf)
      exact ⟨rfl, _, rfl, PSp.nil 0⟩
    · rename_i h
      exact absurd hfp h
set_option maxRecDepth 100000 in
set_option maxHeartbeats 4000000 in
theorem joins_at (n : Int) (a : Str) (m : Int) (b : Str) : FSpec Tryz.prog T 3 [.i .i64 n, .s a, .i .i64 m, .s b] (fun r _ => r = .b True) := by
  have hf := parO_fine n a
  have hg := parO_fine m b
  have r1 := read_at n a
  have r2 := read_at m b
  unfold ReadO at r1 r2
  generalize parO n a = o1 at *
  generalize parO m b = o2 at *
  obtain ⟨e1, n1, ts⟩ := o1
  obtain ⟨e2, n2, us⟩ := o2
  dsimp only at hf hg r1 r2
  have hj := joinO_fine hf hg
  refine FSpec.of_ok tok Tryz.func3 rfl Tryz.call3 (by simp) ?_
  (try (conv => whnf)); repeat' (first | refine Ok.seq ?_ | refine OkL.cons ?_ | (refine Ok.region tok ?_; conv => whnf) | (refine Ok.region_draw tok follows (by kernel_rfl) ?_; conv => whnf) | (refine Ok.cond ?_; conv => whnf) | refine Ok.block ?_ | (refine Ok.skip ?_; conv => whnf) | (refine Ok.exit ?_; conv => whnf) | (refine Ok.ret ?_; conv => whnf) | (refine num_in (by omega) (by omega) ?_; conv => whnf) | (refine ix _ (by assumption) ?_; conv => whnf) | (refine ixI (by omega) (by assumption) ?_; conv => whnf) | (refine ix_new _ (by omega) fun _ _ => ?_; conv => whnf) | (refine ixI_new (by omega) (by omega) fun _ _ => ?_; conv => whnf) | (refine ⟨_, by assumption, ?_⟩; conv => whnf) | (refine Or.inl ?_; (conv => whnf); (repeat (refine And.intro (by first | omega | (simp; done) | (simp; omega)) ?_; (conv => whnf))); refine ⟨_, same_at hj ks3 kd3 rm3 rd3 h3 h3d, rfl, ?_⟩; conv => whnf) | (refine ⟨_, same_at hj ks3 kd3 rm3 rd3 h3 h3d, rfl, ?_⟩; conv => whnf) | (refine Or.inr (Or.inl ?_); (conv => whnf); (repeat (refine And.intro (by first | omega | (simp; done) | (simp; omega)) ?_; (conv => whnf))); refine ⟨_, same_at hj ks3 kd3 rm3 rd3 h3 h3d, ?_⟩; rintro _ _ ⟨rfl, rfl⟩; conv => whnf) | (refine Or.inr (Or.inl ?_); (conv => whnf); (repeat (refine And.intro (by first | omega | (simp; done) | (simp; omega)) ?_; (conv => whnf))); refine ⟨_, r1 , ?_⟩; rintro _ _ ⟨rfl, ks1, kd1, rm1, rd1, rfl, h1, h1d⟩ <;> (conv => whnf)) | (refine Or.inr (Or.inl ?_); (conv => whnf); (repeat (refine And.intro (by first | omega | (simp; done) | (simp; omega)) ?_; (conv => whnf))); refine ⟨_, r2 , ?_⟩; rintro _ _ ⟨rfl, ks2, kd2, rm2, rd2, rfl, h2, h2d⟩ <;> (conv => whnf)) | (refine Or.inr (Or.inl ?_); (conv => whnf); (repeat (refine And.intro (by first | omega | (simp; done) | (simp; omega)) ?_; (conv => whnf))); refine ⟨_, join_at hf hg ks1 ks2 rm1 rm2 h1 h2 , ?_⟩; rintro _ _ ⟨rfl, _, rfl, ks3, rm3, rfl, h3⟩ <;> (conv => whnf)) | (refine Or.inr (Or.inl ?_); (conv => whnf); (repeat (refine And.intro (by first | omega | (simp; done) | (simp; omega)) ?_; (conv => whnf))); refine ⟨_, rjoin_at hf hg kd1 kd2 rd1 rd2 h1d h2d , ?_⟩; rintro _ _ ⟨rfl, _, rfl, kd3, rd3, rfl, h3d⟩ <;> (conv => whnf)) | (refine Alt2.l (And.intro (by first | omega | (simp; done) | (simp; omega)) ?_); conv => whnf) | (refine Alt2.r (And.intro (by first | omega | (simp; done) | (simp; omega)) ?_); conv => whnf) | (refine Ok.scope ?_) | (refine Ok.label ?_; conv => whnf) | (refine rd rfl (by assumption) ?_; conv => whnf) | (refine ⟨_, .inl ⟨rfl, rfl⟩, ?_⟩; conv => whnf) | (refine ⟨_, _, rfl, rfl, ?_⟩; conv => whnf) | (refine ⟨fun _ => ?_, fun _ => ?_⟩ <;> (conv => whnf) <;> (try (exfalso; omega))) | (refine And.intro (by first | omega | rfl | (simp; done) | (simp; omega)) ?_; conv => whnf) | (refine num_any ?_; conv => whnf) | (refine ⟨_, rfl, ?_⟩; conv => whnf) | fail)
  · exact absurd trivial (by assumption)
  · exact absurd trivial (by assumption)
  · refine Or.inl ?_; (conv => whnf)
    rfl
end Go.Proofs.YtaiondckookpiaaGreatDoor
