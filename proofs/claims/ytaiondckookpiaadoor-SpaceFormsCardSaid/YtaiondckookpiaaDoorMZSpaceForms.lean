/- The walks of this law's own functions. -/
import Derived.Test.YtaiondckookpiaaDoorMH
set_option linter.unusedVariables false
set_option linter.unusedSimpArgs false
/- Join, by the program and by the document. -/
namespace Go.Proofs.YtaiondckookpiaaDoor
open Go Go.Vx
def bndO (n : Int) (l : List Term) : Int × Int × List Term := if szT l ≤ 128 then (0, n, l) else (3, 0, [])
def fitP (n m : Int) : Prop := n = m ∧ 0 < n
open Classical in
noncomputable def joinO (n m : Int) (ts us : List Term) : Int × Int × List Term := if fitP n m then bndO n (formT (ts ++ us)) else (11, 0, [])
theorem fits2_at (n m : Int) : FSpec Tryd.prog T 51 [.i .i64 n, .i .i64 m] (fun r _ => r = .b (fitP n m)) := by
  refine FSpec.of_ok tok Tryd.func51 rfl Tryd.call51 (by simp) ?_
  (try (conv => whnf)); repeat' (first | refine Ok.seq ?_ | refine OkL.cons ?_ | (refine Ok.region tok ?_; conv => whnf) | (refine Ok.region_draw tok follows (by kernel_rfl) ?_; conv => whnf) | (refine Ok.cond ?_; conv => whnf) | refine Ok.block ?_ | (refine Ok.skip ?_; conv => whnf) | (refine Ok.exit ?_; conv => whnf) | (refine Ok.ret ?_; conv => whnf) | (refine num_in (by omega) (by omega) ?_; conv => whnf) | (refine ix _ (by assumption) ?_; conv => whnf) | (refine ixI (by omega) (by assumption) ?_; conv => whnf) | (refine ix_new _ (by omega) fun _ _ => ?_; conv => whnf) | (refine ixI_new (by omega) (by omega) fun _ _ => ?_; conv => whnf) | (refine ⟨_, by assumption, ?_⟩; conv => whnf) | (refine Alt2.l (And.intro (by first | omega | (simp; done) | (simp; omega)) ?_); conv => whnf) | (refine Alt2.r (And.intro (by first | omega | (simp; done) | (simp; omega)) ?_); conv => whnf) | (refine Ok.scope ?_) | (refine Ok.label ?_; conv => whnf) | (refine rd rfl (by assumption) ?_; conv => whnf) | (refine ⟨_, .inl ⟨rfl, rfl⟩, ?_⟩; conv => whnf) | (refine ⟨_, _, rfl, rfl, ?_⟩; conv => whnf) | (refine ⟨fun _ => ?_, fun _ => ?_⟩ <;> (conv => whnf) <;> (try (exfalso; omega))) | (refine And.intro (by first | omega | rfl | (simp; done) | (simp; omega)) ?_; conv => whnf) | (refine num_any ?_; conv => whnf) | (refine ⟨_, rfl, ?_⟩; conv => whnf) | fail)
  · rename_i h
    refine Or.inl ?_; (conv => whnf)
    exact congrArg D.b (propext ⟨fun h2 => ⟨h, h2⟩, fun h2 => h2.2⟩)
  · rename_i h
    refine Or.inl ?_; (conv => whnf)
    show D.b False = _
    exact congrArg D.b (propext ⟨fun h2 => h2.elim, fun h2 => h h2.1⟩)
theorem bndO_fine {n : Int} {l : List Term} (h0 : 0 ≤ n) (h1 : n ≤ 256) (hg : ∀ t ∈ l, GoodT n.toNat t) : Fine (bndO n (formT l)).2.1 (bndO n (formT l)).2.2 := by
  unfold bndO
  split
  · rename_i h; exact .form h0 h1 hg h
  · exact .nil (by decide) (by decide)
theorem joinO_fine {n m : Int} {ts us : List Term} (hf : Fine n ts) (hg : Fine m us) : Fine (joinO n m ts us).2.1 (joinO n m ts us).2.2 := by
  unfold joinO
  split
  · rename_i h
    obtain ⟨rfl, h0⟩ := h
    exact bndO_fine hf.n0 hf.n1 fun t ht => (List.mem_append.1 ht).elim (hf.good t) (hg.good t)
  · exact .nil (by decide) (by decide)
theorem bndO_le {n : Int} {l : List Term} (h : szT l ≤ 128) : bndO n l = (0, n, l) := if_pos h
theorem bndO_gt {n : Int} {l : List Term} (h : 128 < szT l) : bndO n l = (3, 0, []) := if_neg (by omega)
theorem joinO_fit {n m : Int} {ts us : List Term} (h : fitP n m) : joinO n m ts us = bndO n (formT (ts ++ us)) := if_pos h
theorem joinO_not {n m : Int} {ts us : List Term} (h : ¬ fitP n m) : joinO n m ts us = (11, 0, []) := if_neg h
theorem formT_len (l : List Term) : (formT l).length ≤ l.length := by
  unfold formT
  rw [(srt_perm aheadT _).length_eq]
  exact grG_len covT l
theorem form_len {ks : List TR} {l : List Term} {k : Nat} (e : ks.map TR.t = formT l) (h : l.length ≤ k) : ks.length ≤ k := by
  have := congrArg List.length e
  rw [List.length_map] at this
  rw [this]
  exact Nat.le_trans (formT_len l) h
theorem DOut.form {n : Int} {l : List Term} {ks : List TR} {rm : List (List D)} (e : ks.map TR.t = formT l) (h : szT (ks.map TR.t) ≤ 128) : DOut (bndO n (formT l)) (.tup [.agg [.i .i64 n, .lst 111 (ks.map drow) rm], .i .i64 0]) [] := by
  rw [bndO_le (by rw [← e]; exact h)]
  exact ⟨rfl, _, rfl, ks, rm, rfl, e⟩
theorem DOut.many {n : Int} {l : List Term} {ks : List TR} (e : ks.map TR.t = formT l) (h : 128 < szT (ks.map TR.t)) : DOut (bndO n (formT l)) (.tup [.agg [.i .i64 0, .lst 111 [] []], .i .i64 3]) [] := by
  rw [bndO_gt (by rw [← e]; exact h)]
  exact ⟨rfl, _, rfl, .nil 0⟩
set_option maxRecDepth 100000 in
set_option maxHeartbeats 4000000 in
theorem join_at {n m : Int} {ts us : List Term} (hf : Fine n ts) (hg : Fine m us) (ks ks2 : List TR) (rm rm2 : List (List D)) (h1 : ks.map TR.t = ts) (h2 : ks2.map TR.t = us) :
    FSpec Tryd.prog T 22 [.agg [.i .i64 n, .lst 81 (ks.map trow) rm], .agg [.i .i64 m, .lst 81 (ks2.map trow) rm2]] (POut (joinO n m ts us)) := by
  have hfit := fits2_at n m
  have hl1 := hf.len
  have hl2 := hg.len
  rw [← h1, List.length_map] at hl1
  rw [← h2, List.length_map] at hl2
  have htk : List.take (List.map trow ks ++ List.map trow ks2).length (List.map trow ks ++ List.map trow ks2) = (ks ++ ks2).map trow := by rw [List.take_of_length_le (Nat.le_refl _), List.map_append]
  have hk1 : (List.map trow ks).length = ks.length := by simp
  have hk2 : (List.map trow ks2).length = ks2.length := by simp
  refine FSpec.of_deferK 3 tok Tryd.func22 rfl Tryd.call22 (by simp) def_join (zd1 := [.i .i64 0, .nilS]) (zd2 := [.i .i64 3]) rfl rfl (by simp [Value.oneCell']) (by simp [Value.oneCell']) rfl ?_
  by_cases hfp : fitP n m
  · have hnm := hfp.1
    subst hnm
    have hto : ∀ x ∈ ks ++ ks2, TO n.toNat x := fun x hx => (List.mem_append.1 hx).elim (hf.to h1 x) (hg.to h2 x)
    have hts : (ks ++ ks2).map TR.t = ts ++ us := by rw [List.map_append, h1, h2]
    rw [joinO_fit hfp, ← hts]
    have hln : (ks ++ ks2).length ≤ 1048576 := by simp; omega
    (try (conv => whnf)); repeat' (first | refine Ok.seq ?_ | refine OkL.cons ?_ | (refine Ok.region tok ?_; conv => whnf) | (refine Ok.region_plan (id := 6) tok follows [(4, 5, []), (1, 6, []), (4, 6, [5]), (5, 6, []), (1, 7, []), (4, 7, []), (5, 7, []), (6, 7, []), (1, 8, []), (4, 8, []), (5, 8, []), (6, 8, []), (7, 8, [])] [.q 0, .q 1, .q 2, .q 3, .q 4, .l 5, .l 6, .l 7, .l 8] (by kernel_rfl) ?_; conv => whnf) | (refine Ok.region_draw tok follows (by kernel_rfl) ?_; conv => whnf) | (refine Ok.cond ?_; conv => whnf) | refine Ok.block ?_ | (refine Ok.skip ?_; conv => whnf) | (refine Ok.exit ?_; conv => whnf) | (refine Ok.ret ?_; conv => whnf) | (refine num_in (by omega) (by omega) ?_; conv => whnf) | (refine ix _ (by assumption) ?_; conv => whnf) | (refine ixI (by omega) (by assumption) ?_; conv => whnf) | (refine ix_new _ (by omega) fun _ _ => ?_; conv => whnf) | (refine ixI_new (by omega) (by omega) fun _ _ => ?_; conv => whnf) | (refine ⟨_, by assumption, ?_⟩; conv => whnf) | (refine Or.inl ?_; (conv => whnf); (repeat (refine And.intro (by first | omega | (simp; done) | (simp; omega)) ?_; (conv => whnf))); refine ⟨_, hfit, rfl, ?_⟩; conv => whnf) | (refine ⟨_, hfit, rfl, ?_⟩; conv => whnf) | (refine Or.inr (Or.inl ?_); (conv => whnf); (repeat (refine And.intro (by first | omega | (simp; done) | (simp; omega)) ?_; (conv => whnf))); refine ⟨_, hfit, ?_⟩; rintro _ _ ⟨rfl, rfl⟩; conv => whnf) | (refine Alt2.l (And.intro (by first | omega | (simp; done) | (simp; omega)) ?_); conv => whnf) | (refine Alt2.r (And.intro (by first | omega | (simp; done) | (simp; omega)) ?_); conv => whnf) | (refine Ok.scope ?_) | (refine Ok.label ?_; conv => whnf) | (refine rd rfl (by assumption) ?_; conv => whnf) | (refine ⟨_, .inl ⟨rfl, rfl⟩, ?_⟩; conv => whnf) | (refine ⟨_, _, rfl, rfl, ?_⟩; conv => whnf) | (refine ⟨fun _ => ?_, fun _ => ?_⟩ <;> (conv => whnf) <;> (try (exfalso; omega))) | (refine And.intro (by first | omega | rfl | (simp; done) | (simp; omega)) ?_; conv => whnf) | (refine num_any ?_; conv => whnf) | (refine ⟨_, rfl, ?_⟩; conv => whnf) | fail)
    · exact absurd hfp (by assumption)
    refine OkL.nil ?_
    (conv => whnf)
    refine ⟨2, 3, rfl, rfl, by decide, by decide, by decide, rfl, ?_⟩
    by_cases hsz : szT (formT ((ks ++ ks2).map TR.t)) ≤ 128
    · rw [bndO_le hsz]
      (try (conv => whnf)); repeat' (first | refine Ok.seq ?_ | refine OkL.cons ?_ | (refine Ok.region tok ?_; conv => whnf) | (refine Ok.region_plan (id := 6) tok follows [(4, 5, []), (1, 6, []), (4, 6, [5]), (5, 6, []), (1, 7, []), (4, 7, []), (5, 7, []), (6, 7, []), (1, 8, []), (4, 8, []), (5, 8, []), (6, 8, []), (7, 8, [])] [.q 0, .q 1, .q 2, .q 3, .q 4, .l 5, .l 6, .l 7, .l 8] (by kernel_rfl) ?_; conv => whnf) | (refine Ok.region_draw tok follows (by kernel_rfl) ?_; conv => whnf) | (refine Ok.cond ?_; conv => whnf) | refine Ok.block ?_ | (refine Ok.skip ?_; conv => whnf) | (refine Ok.exit ?_; conv => whnf) | (refine Ok.ret ?_; conv => whnf) | (refine num_in (by omega) (by omega) ?_; conv => whnf) | (refine ix _ (by assumption) ?_; conv => whnf) | (refine ixI (by omega) (by assumption) ?_; conv => whnf) | (refine ix_new _ (by omega) fun _ _ => ?_; conv => whnf) | (refine ixI_new (by omega) (by omega) fun _ _ => ?_; conv => whnf) | (refine ⟨_, by assumption, ?_⟩; conv => whnf) | (refine Or.inr (Or.inl ?_); (conv => whnf); (repeat (refine And.intro (by first | omega | (simp; done) | (simp; omega)) ?_; (conv => whnf))); refine ⟨_, form_at n n.toNat (ks ++ ks2) hln hto htk hsz , ?_⟩; rintro _ _ ⟨ks3, rm3, rfl, rfl, hks3, hkm⟩ <;> (conv => whnf)) | (refine Alt2.l (And.intro (by first | omega | (simp; done) | (simp; omega)) ?_); conv => whnf) | (refine Alt2.r (And.intro (by first | omega | (simp; done) | (simp; omega)) ?_); conv => whnf) | (refine Ok.scope ?_) | (refine Ok.label ?_; conv => whnf) | (refine rd rfl (by assumption) ?_; conv => whnf) | (refine ⟨_, .inl ⟨rfl, rfl⟩, ?_⟩; conv => whnf) | (refine ⟨_, _, rfl, rfl, ?_⟩; conv => whnf) | (refine ⟨fun _ => ?_, fun _ => ?_⟩ <;> (conv => whnf) <;> (try (exfalso; omega))) | (refine And.intro (by first | omega | rfl | (simp; done) | (simp; omega)) ?_; conv => whnf) | (refine num_any ?_; conv => whnf) | (refine ⟨_, rfl, ?_⟩; conv => whnf) | fail)
      refine Or.inl ?_; (conv => whnf)
      exact ⟨rfl, _, rfl, ks3, rm3, rfl, hks3⟩
    · rw [bndO_gt (by omega)]
      (try (conv => whnf)); repeat' (first | refine Ok.seq ?_ | refine OkL.cons ?_ | (refine Ok.region tok ?_; conv => whnf) | (refine Ok.cond ?_; conv => whnf) | refine Ok.block ?_ | (refine Ok.skip ?_; conv => whnf) | (refine Ok.exit ?_; conv => whnf) | (refine Ok.ret ?_; conv => whnf) | (refine num_in (by omega) (by omega) ?_; conv => whnf) | (refine ix _ (by assumption) ?_; conv => whnf) | (refine ixI (by omega) (by assumption) ?_; conv => whnf) | (refine ix_new _ (by omega) fun _ _ => ?_; conv => whnf) | (refine ixI_new (by omega) (by omega) fun _ _ => ?_; conv => whnf) | (refine ⟨_, by assumption, ?_⟩; conv => whnf) | (refine Alt2.l (And.intro (by first | omega | (simp; done) | (simp; omega)) ?_); conv => whnf) | (refine Alt2.r (And.intro (by first | omega | (simp; done) | (simp; omega)) ?_); conv => whnf) | (refine Ok.scope ?_) | (refine Ok.label ?_; conv => whnf) | (refine rd rfl (by assumption) ?_; conv => whnf) | (refine ⟨_, .inl ⟨rfl, rfl⟩, ?_⟩; conv => whnf) | (refine ⟨_, _, rfl, rfl, ?_⟩; conv => whnf) | (refine ⟨fun _ => ?_, fun _ => ?_⟩ <;> (conv => whnf) <;> (try (exfalso; omega))) | (refine And.intro (by first | omega | rfl | (simp; done) | (simp; omega)) ?_; conv => whnf) | (refine num_any ?_; conv => whnf) | (refine ⟨_, rfl, ?_⟩; conv => whnf) | fail)
      refine Ok.region_planpanS tok follows [(4, 5, [])] [.q 0, .q 1, .q 2, .q 3, .q 4, .l 5] 6 (by kernel_rfl) ?_; (conv => whnf)
      (try (conv => whnf)); repeat' (first | refine Ok.seq ?_ | refine OkL.cons ?_ | (refine Ok.region tok ?_; conv => whnf) | (refine Ok.cond ?_; conv => whnf) | refine Ok.block ?_ | (refine Ok.skip ?_; conv => whnf) | (refine Ok.exit ?_; conv => whnf) | (refine Ok.ret ?_; conv => whnf) | (refine num_in (by omega) (by omega) ?_; conv => whnf) | (refine ix _ (by assumption) ?_; conv => whnf) | (refine ixI (by omega) (by assumption) ?_; conv => whnf) | (refine ix_new _ (by omega) fun _ _ => ?_; conv => whnf) | (refine ixI_new (by omega) (by omega) fun _ _ => ?_; conv => whnf) | (refine ⟨_, by assumption, ?_⟩; conv => whnf) | (refine Alt2.l (And.intro (by first | omega | (simp; done) | (simp; omega)) ?_); conv => whnf) | (refine Alt2.r (And.intro (by first | omega | (simp; done) | (simp; omega)) ?_); conv => whnf) | (refine Ok.scope ?_) | (refine Ok.label ?_; conv => whnf) | (refine rd rfl (by assumption) ?_; conv => whnf) | (refine ⟨_, .inl ⟨rfl, rfl⟩, ?_⟩; conv => whnf) | (refine ⟨_, _, rfl, rfl, ?_⟩; conv => whnf) | (refine ⟨fun _ => ?_, fun _ => ?_⟩ <;> (conv => whnf) <;> (try (exfalso; omega))) | (refine And.intro (by first | omega | rfl | (simp; done) | (simp; omega)) ?_; conv => whnf) | (refine num_any ?_; conv => whnf) | (refine ⟨_, rfl, ?_⟩; conv => whnf) | fail)
      refine ⟨_, form_pan n n.toNat (ks ++ ks2) hln hto htk (by omega), ?_⟩
      (conv => whnf)
      refine ⟨rfl, 2, 3, _, _, rfl, rfl, rfl, rfl, rfl, rfl, by decide, rfl, ?_⟩
      (conv => whnf)
      refine Or.inl ?_; (conv => whnf)
      exact ⟨rfl, _, rfl, PSp.nil 0⟩
  · rw [joinO_not hfp]
    (try (conv => whnf)); repeat' (first | refine Ok.seq ?_ | refine OkL.cons ?_ | (refine Ok.region tok ?_; conv => whnf) | (refine Ok.region_plan (id := 6) tok follows [(4, 5, []), (1, 6, []), (4, 6, [5]), (5, 6, []), (1, 7, []), (4, 7, []), (5, 7, []), (6, 7, []), (1, 8, []), (4, 8, []), (5, 8, []), (6, 8, []), (7, 8, [])] [.q 0, .q 1, .q 2, .q 3, .q 4, .l 5, .l 6, .l 7, .l 8] (by kernel_rfl) ?_; conv => whnf) | (refine Ok.region_draw tok follows (by kernel_rfl) ?_; conv => whnf) | (refine Ok.cond ?_; conv => whnf) | refine Ok.block ?_ | (refine Ok.skip ?_; conv => whnf) | (refine Ok.exit ?_; conv => whnf) | (refine Ok.ret ?_; conv => whnf) | (refine num_in (by omega) (by omega) ?_; conv => whnf) | (refine ix _ (by assumption) ?_; conv => whnf) | (refine ixI (by omega) (by assumption) ?_; conv => whnf) | (refine ix_new _ (by omega) fun _ _ => ?_; conv => whnf) | (refine ixI_new (by omega) (by omega) fun _ _ => ?_; conv => whnf) | (refine ⟨_, by assumption, ?_⟩; conv => whnf) | (refine Or.inl ?_; (conv => whnf); (repeat (refine And.intro (by first | omega | (simp; done) | (simp; omega)) ?_; (conv => whnf))); refine ⟨_, hfit, rfl, ?_⟩; conv => whnf) | (refine ⟨_, hfit, rfl, ?_⟩; conv => whnf) | (refine Or.inr (Or.inl ?_); (conv => whnf); (repeat (refine And.intro (by first | omega | (simp; done) | (simp; omega)) ?_; (conv => whnf))); refine ⟨_, hfit, ?_⟩; rintro _ _ ⟨rfl, rfl⟩; conv => whnf) | (refine Alt2.l (And.intro (by first | omega | (simp; done) | (simp; omega)) ?_); conv => whnf) | (refine Alt2.r (And.intro (by first | omega | (simp; done) | (simp; omega)) ?_); conv => whnf) | (refine Ok.scope ?_) | (refine Ok.label ?_; conv => whnf) | (refine rd rfl (by assumption) ?_; conv => whnf) | (refine ⟨_, .inl ⟨rfl, rfl⟩, ?_⟩; conv => whnf) | (refine ⟨_, _, rfl, rfl, ?_⟩; conv => whnf) | (refine ⟨fun _ => ?_, fun _ => ?_⟩ <;> (conv => whnf) <;> (try (exfalso; omega))) | (refine And.intro (by first | omega | rfl | (simp; done) | (simp; omega)) ?_; conv => whnf) | (refine num_any ?_; conv => whnf) | (refine ⟨_, rfl, ?_⟩; conv => whnf) | fail)
    · refine Or.inl ?_; (conv => whnf)
      exact ⟨rfl, _, rfl, PSp.nil 0⟩
    · rename_i h
      exact absurd hfp h
end Go.Proofs.YtaiondckookpiaaDoor
/- What is in form: plain laws; a space's text read again. -/
namespace Go.Proofs.YtaiondckookpiaaDoor
open Go Go.Vx
structure TermF (t : Term) : Prop where
  sorted : t.less.Pairwise blt
  anti : t.less.Pairwise fun x y => ¬ inL x y ∧ ¬ inL y x
  proper : t.less ≠ [t.p]
theorem termT_form {p : Str} {less : List Str} {t : Term} (h : termT p less = some t) : TermF t := by
  have hb := putG_fold (R := inL) (L := blt) inL_refl (fun _ _ _ => inL_trans) blt_trans blt_total (metL p less)
  by_cases hk : PK p less = [p]
  · rw [termT_pk0 hk] at h; cases h
  · rw [termT_pk1 hk] at h
    cases h
    exact ⟨hb.2, hb.1.anti, hk⟩
theorem putG_id {k : List Str} (h1 : k.Pairwise blt) (h2 : k.Pairwise fun x y => ¬ inL x y ∧ ¬ inL y x) : k.foldl (putG inL blt) [] = k := by
  have hb := putG_fold (R := inL) (L := blt) inL_refl (fun _ _ _ => inL_trans) blt_trans blt_total k
  have ha : Anti inL k k := ⟨fun _ h => h, h2, fun x hx => ⟨x, hx, inL_refl x⟩⟩
  exact sorted_uniq blt_irrefl blt_trans (hb.1.perm inL_refl (fun _ _ _ => inL_trans) (fun _ _ => inL_antisymm) ha) hb.2 h1
theorem metL_id {p : Str} : ∀ {l : List Str}, (∀ m ∈ l, inL m p) → (∀ m ∈ l, m ≠ []) → metL p l = l
  | [], _, _ => rfl
  | m :: l, h, h2 => by
    have h1 := metL_id (l := l) (fun x hx => h x (by simp [hx])) (fun x hx => h2 x (by simp [hx]))
    have hm : meetT m p = some m := by
      unfold meetT
      rw [if_neg (h2 m (by simp))]
      exact meetL_self.2 (h m (by simp))
    unfold metL at *
    rw [List.filterMap_cons_some (f := fun m => meetT m p) hm, h1]
theorem termT_id {n : Nat} {t : Term} (hg : GoodT n t) (hf : TermF t) : termT t.p t.less = some t := by
  have hm := metL_id hg.ok.less (fun m hm => (hg.less m hm).2)
  have hp : PK t.p t.less = t.less := by unfold PK; rw [hm]; exact putG_id hf.sorted hf.anti
  rw [termT_pk1 (by rw [hp]; exact hf.proper), hp]
theorem grG_id {α : Type} {R : α → α → Prop} {l : List α} (h : l.Pairwise fun x y => ¬ R x y ∧ ¬ R y x) : grG R l = l := by
  have go : ∀ (l k : List α), (k ++ l).Pairwise (fun x y => ¬ R x y ∧ ¬ R y x) → l.foldl (addG R) k = k ++ l := by
    intro l
    induction l with
    | nil => intro k _; simp
    | cons x l ih =>
      intro k h
      have hk : ∀ y ∈ k, ¬ R y x ∧ ¬ R x y := fun y hy => (List.pairwise_append.1 h).2.2 y hy x (by simp)
      have e : addG R k x = k ++ [x] := by
        rw [addG_out fun y hy hR => (hk y hy).2 hR]
        congr 1
        exact List.filter_eq_self.2 fun y hy => by simpa using (hk y hy).1
      rw [List.foldl_cons, e, ih _ (by simpa using h)]
      simp
  have h0 := go l [] (by simpa using h)
  rw [List.nil_append] at h0
  exact h0
structure InF (ts : List Term) : Prop where
  t : ∀ t ∈ ts, TermF t
  anti : ts.Pairwise fun x y => ¬ covT x y ∧ ¬ covT y x
  sorted : ts.Pairwise aheadT
theorem InF.nil : InF [] := ⟨by simp, by simp, by simp⟩
theorem formT_inF {n : Nat} {l : List Term} (hg : ∀ t ∈ l, GoodT n t) (hf : ∀ t ∈ l, TermF t) : InF (formT l) := by
  have ha := grG_anti covT_trans l fun t ht => covT_refl (hg t ht).ok
  have hp := srt_perm aheadT (grG covT l)
  refine ⟨fun t ht => hf t (formT_mem ht), (hp.pairwise_iff fun {a b} h => ⟨h.2, h.1⟩).2 ha.anti, ?_⟩
  refine srt_sorted ahead_trans _ ?_
  exact (grG_differ fun t ht => (hg t ht).ok).imp ahead_total
theorem formT_id {n : Nat} {ts : List Term} (hg : ∀ t ∈ ts, GoodT n t) (hf : InF ts) : formT ts = ts := by
  unfold formT
  rw [grG_id hf.anti]
  refine (srt_uniq ahead_irrefl ahead_trans ?_ (.refl _) hf.sorted).symm
  exact hf.anti.imp_of_mem fun {a b} ha _ h => ahead_total fun e => h.1 (by rw [← e]; exact covT_refl (hg a ha).ok)
theorem trms_form {ms : List (List Str)} : ∀ t ∈ trms ms, TermF t := by
  intro t ht
  obtain ⟨m, hm, h⟩ := List.mem_filterMap.1 ht
  exact termT_form h
theorem parO_inF (b : Int) (s : Str) : InF (parO b s).2.2 := by
  by_cases h1 : 33024 < s.length
  · rw [parO_long h1]; exact .nil
  by_cases h2 : b < 1 ∨ 256 < b
  · rw [parO_arg h1 h2]; exact .nil
  by_cases h3 : s = [110, 111, 110, 101]
  · rw [parO_none h1 h2 h3]; exact .nil
  by_cases h4 : OkP b (pieces s)
  · by_cases h5 : 128 < cntP (pieces s)
    · rw [parO_many h1 h2 h3 h4 h5]; exact .nil
    · rw [parO_form h1 h2 h3 h4 h5]
      exact formT_inF (trms_good (fun m hm => (pieces_mem hm).1) h4) trms_form
  · rw [parO_word h1 h2 h3 h4]; exact .nil
theorem cutL_join (c : UInt8) : ∀ {x : Str} {xs : List Str}, (∀ y ∈ x :: xs, c ∉ y) → cutL c (x ++ (xs.map fun y => c :: y).flatten) = x :: xs
  | x, [], h => by simp; exact cutL_none (h x (by simp))
  | x, y :: ys, h => by
    rw [List.map_cons, List.flatten_cons, List.cons_append, cutL_at (h x (by simp)), cutL_join c fun z hz => h z (List.mem_cons_of_mem _ hz)]
theorem sepT_cons (t : Term) (l : List Term) : sepT (t :: l) = ttxt t ++ ((l.map ttxt).map fun y => (43 : UInt8) :: y).flatten := by
  unfold sepT
  rw [List.map_cons, List.flatten_cons, List.cons_append, List.drop_one, List.tail_cons, List.map_map]
  rfl
theorem CN.no {c : Str} (h : CN c) {b : UInt8} (hb : b ≠ 48 ∧ b ≠ 49 ∧ b ≠ 120) : b ∉ c := fun hm => by
  rcases h.1.cub b hm with e | e | e
  · exact hb.1 e
  · exact hb.2.1 e
  · exact hb.2.2 e
theorem ttxt_no {n : Nat} {t : Term} (h : GoodT n t) : (43 : UInt8) ∉ ttxt t := by
  intro hm
  rcases List.mem_append.1 hm with hm | hm
  · exact h.p.no (by decide) hm
  · obtain ⟨l, hl, hm⟩ := List.mem_flatten.1 hm
    obtain ⟨m, hmm, rfl⟩ := List.mem_map.1 hl
    rcases List.mem_cons.1 hm with e | hm
    · exact absurd e (by decide)
    · exact (h.less m hmm).no (by decide) hm
theorem ttxt_cut {n : Nat} {t : Term} (h : GoodT n t) : cutL 45 (ttxt t) = t.p :: t.less := by
  unfold ttxt tTail
  refine cutL_join 45 fun y hy => ?_
  rcases List.mem_cons.1 hy with rfl | hy
  · exact h.p.no (by decide)
  · exact (h.less y hy).no (by decide)
theorem pieces_text {n : Nat} {t : Term} {l : List Term} (h : ∀ x ∈ t :: l, GoodT n x) : pieces (sepT (t :: l)) = (t :: l).map fun t => t.p :: t.less := by
  unfold pieces
  rw [sepT_cons, cutL_join 43 (fun y hy => by
    have : ∃ x ∈ t :: l, ttxt x = y := by
      rcases List.mem_cons.1 hy with rfl | hy
      · exact ⟨t, by simp, rfl⟩
      · obtain ⟨x, hx, rfl⟩ := List.mem_map.1 hy
        exact ⟨x, by simp [hx], rfl⟩
    obtain ⟨x, hx, rfl⟩ := this
    exact ttxt_no (h x hx)), ← List.map_cons, List.map_map]
  exact List.map_congr_left fun x hx => ttxt_cut (h x hx)
theorem trms_text {n : Nat} : ∀ {l : List Term}, (∀ x ∈ l, GoodT n x) → (∀ x ∈ l, TermF x) → trms (l.map fun t => t.p :: t.less) = l
  | [], _, _ => rfl
  | t :: l, hg, hf => by
    have ih := trms_text (l := l) (fun x hx => hg x (by simp [hx])) (fun x hx => hf x (by simp [hx]))
    have e : trm (t.p :: t.less) = some t := termT_id (hg t (by simp)) (hf t (by simp))
    unfold trms at *
    rw [List.map_cons, List.filterMap_cons_some e, ih]
theorem cntP_text : ∀ l : List Term, cntP (l.map fun t => t.p :: t.less) = szT l
  | [] => rfl
  | t :: l => by
    have ih := cntP_text l
    simp only [cntP, szT, List.map_cons, List.sum_cons, List.length_cons] at ih ⊢
    omega
/-- A space's text, read again, is that space. -/
theorem parO_text {n : Int} {ts : List Term} (hf : Fine n ts) (hn : 0 < n) (hi : InF ts) : parO n (textS ts) = (0, n, ts) := by
  have hb : ¬ (n < 1 ∨ 256 < n) := by have := hf.n1; omega
  cases ts with
  | nil =>
    have e : textS [] = [110, 111, 110, 101] := by unfold textS; rw [if_pos rfl]
    rw [e, parO_none (by decide) hb rfl]
  | cons t l =>
    have e : textS (t :: l) = sepT (t :: l) := by unfold textS; rw [if_neg (by simp)]
    have hlen := sepT_len (l := t :: l) fun x hx => ⟨(hf.good x hx).p.1.len, fun m hm => ((hf.good x hx).less m hm).1.len⟩
    have hsz : szS (t :: l) ≤ 128 := hf.sz
    have hp := pieces_text hf.good
    have hne : sepT (t :: l) ≠ [110, 111, 110, 101] := by
      intro h
      have hg := hf.good t (by simp)
      cases hq : t.p with
      | nil => exact hg.p.2 hq
      | cons b r =>
        rw [sepT_cons, ttxt, hq] at h
        have hb2 := hg.p.1.cub b (by rw [hq]; simp)
        simp only [List.cons_append, List.cons.injEq] at h
        rw [h.1] at hb2
        exact absurd hb2 (by decide)
    rw [e, parO_form (by omega) hb hne ?_ ?_]
    · rw [hp, trms_text hf.good hi.t, formT_id hf.good hi]
    · rw [hp]
      intro m hm w hw
      obtain ⟨x, hx, rfl⟩ := List.mem_map.1 hm
      have hg := hf.good x hx
      have hc := hf.cast
      rcases List.mem_cons.1 hw with rfl | hw
      · exact ⟨by have := hg.ok.p; omega, hg.p⟩
      · exact ⟨by have := hg.ok.wide.2 w hw; omega, hg.less w hw⟩
    · rw [hp, cntP_text]
      have := hf.sz
      omega
end Go.Proofs.YtaiondckookpiaaDoor
/- Every Parse: the law. -/
namespace Go.Proofs.YtaiondckookpiaaDoor
open Go Go.Vx
theorem noneB_fine (n : Int) : Fine (noneB n) [] := by
  unfold noneB
  split
  · exact .nil (by decide) (by decide)
  · exact .nil (by omega) (by omega)
set_option maxRecDepth 100000 in
set_option maxHeartbeats 4000000 in
theorem forms_at (n : Int) (a : Str) : FSpec Tryd.prog T 3 [.i .i64 n, .s a] (fun r _ => r = .b True) := by
  have hf := parO_fine n a
  have hi := parO_inF n a
  have r1 := read_at n a
  unfold ReadO at r1
  generalize parO n a = o1 at *
  obtain ⟨e1, n1, ts⟩ := o1
  dsimp only at hf hi r1
  have hnf := noneB_fine n
  have hnl := like_at hnf [] [] [] [] rfl rfl
  have hp := parse2_at n1 (textS ts)
  refine FSpec.of_ok tok Tryd.func3 rfl Tryd.call3 (by simp) ?_
  by_cases h0 : n1 = 0
  · subst h0
    (try (conv => whnf)); repeat' (first | refine Ok.seq ?_ | refine OkL.cons ?_ | (refine Ok.region tok ?_; conv => whnf) | (refine Ok.region_plan (id := 5) tok follows [(0, 3, []), (2, 3, [])] [.q 0, .q 1, .l 2, .l 3, .q 4] (by kernel_rfl) ?_; conv => whnf) | (refine Ok.region_tree (id := 9) tok follows [(0, 1, []), (0, 3, [1]), (1, 3, []), (2, 3, []), (0, 4, [1]), (1, 4, []), (2, 4, [3]), (3, 4, []), (0, 9, []), (1, 9, []), (2, 9, []), (3, 9, []), (4, 9, []), (8, 9, [])] (.q 0 (.q 2 (.alt 1 (.alt 3 (.alt 4 (.q 5 (.q 6 (.q 7 (.l 8 (.l 9 (.q 10 .nil)))))) (.alt 8 (.l 4 (.q 5 (.q 6 (.q 7 (.l 9 (.q 10 .nil)))))) .nil)) (.alt 8 (.l 3 (.l 4 (.q 5 (.q 6 (.q 7 (.l 9 (.q 10 .nil))))))) .nil)) (.alt 8 (.l 1 (.l 3 (.l 4 (.q 5 (.q 6 (.q 7 (.l 9 (.q 10 .nil)))))))) .nil)))) (by kernel_rfl) ?_; conv => whnf) | (refine Ok.region_draw tok follows (by kernel_rfl) ?_; conv => whnf) | (refine Ok.cond ?_; conv => whnf) | refine Ok.block ?_ | (refine Ok.skip ?_; conv => whnf) | (refine Ok.exit ?_; conv => whnf) | (refine Ok.ret ?_; conv => whnf) | (refine num_in (by omega) (by omega) ?_; conv => whnf) | (refine ix _ (by assumption) ?_; conv => whnf) | (refine ixI (by omega) (by assumption) ?_; conv => whnf) | (refine ix_new _ (by omega) fun _ _ => ?_; conv => whnf) | (refine ixI_new (by omega) (by omega) fun _ _ => ?_; conv => whnf) | (refine ⟨_, by assumption, ?_⟩; conv => whnf) | (refine Or.inl ?_; (conv => whnf); (repeat (refine And.intro (by first | omega | (simp; done) | (simp; omega)) ?_; (conv => whnf))); refine ⟨_, hnl, rfl, ?_⟩; conv => whnf) | (refine ⟨_, hnl, rfl, ?_⟩; conv => whnf) | (refine Or.inr (Or.inl ?_); (conv => whnf); (repeat (refine And.intro (by first | omega | (simp; done) | (simp; omega)) ?_; (conv => whnf))); refine ⟨_, hnl, ?_⟩; rintro _ _ ⟨rfl, rfl⟩; conv => whnf) | (refine Or.inr (Or.inl ?_); (conv => whnf); (repeat (refine And.intro (by first | omega | (simp; done) | (simp; omega)) ?_; (conv => whnf))); refine ⟨_, r1 , ?_⟩; rintro _ _ ⟨rfl, ks1, kd1, rm1, rd1, rfl, h1, h1d⟩ <;> (conv => whnf)) | (refine Or.inr (Or.inl ?_); (conv => whnf); (repeat (refine And.intro (by first | omega | (simp; done) | (simp; omega)) ?_; (conv => whnf))); refine ⟨_, none_at n, ?_⟩; rintro _ _ ⟨rfl, rfl⟩ <;> (conv => whnf)) | (refine Or.inr (Or.inl ?_); (conv => whnf); (repeat (refine And.intro (by first | omega | (simp; done) | (simp; omega)) ?_; (conv => whnf))); refine ⟨_, rnone_at n, ?_⟩; rintro _ _ ⟨rfl, rfl⟩ <;> (conv => whnf)) | (refine Alt2.l (And.intro (by first | omega | (simp; done) | (simp; omega)) ?_); conv => whnf) | (refine Alt2.r (And.intro (by first | omega | (simp; done) | (simp; omega)) ?_); conv => whnf) | (refine Ok.scope ?_) | (refine Ok.label ?_; conv => whnf) | (refine rd rfl (by assumption) ?_; conv => whnf) | (refine ⟨_, .inl ⟨rfl, rfl⟩, ?_⟩; conv => whnf) | (refine ⟨_, _, rfl, rfl, ?_⟩; conv => whnf) | (refine ⟨fun _ => ?_, fun _ => ?_⟩ <;> (conv => whnf) <;> (try (exfalso; omega))) | (refine And.intro (by first | omega | rfl | (simp; done) | (simp; omega)) ?_; conv => whnf) | (refine num_any ?_; conv => whnf) | (refine ⟨_, rfl, ?_⟩; conv => whnf) | (exact True.intro) | (refine And.intro ?_ ?_ <;> (conv => whnf)) | fail)
    all_goals first
      | exact absurd trivial (by assumption)
      | exact absurd rfl (by assumption)
      | exact absurd (by assumption) h0
      | (refine Or.inl ?_; (conv => whnf)
         rfl)
      | trace_state
  · have hpos : 0 < n1 := by have := hf.n0; omega
    rw [parO_text hf hpos hi] at hp
    (try (conv => whnf)); repeat' (first | refine Ok.seq ?_ | refine OkL.cons ?_ | (refine Ok.region tok ?_; conv => whnf) | (refine Ok.region_plan (id := 5) tok follows [(0, 3, []), (2, 3, [])] [.q 0, .q 1, .l 2, .l 3, .q 4] (by kernel_rfl) ?_; conv => whnf) | (refine Ok.region_tree (id := 9) tok follows [(0, 1, []), (0, 3, [1]), (1, 3, []), (2, 3, []), (0, 4, [1]), (1, 4, []), (2, 4, [3]), (3, 4, []), (0, 9, []), (1, 9, []), (2, 9, []), (3, 9, []), (4, 9, []), (8, 9, [])] (.q 0 (.q 2 (.alt 1 (.alt 3 (.alt 4 (.q 5 (.q 6 (.q 7 (.l 8 (.l 9 (.q 10 .nil)))))) (.alt 8 (.l 4 (.q 5 (.q 6 (.q 7 (.l 9 (.q 10 .nil)))))) .nil)) (.alt 8 (.l 3 (.l 4 (.q 5 (.q 6 (.q 7 (.l 9 (.q 10 .nil))))))) .nil)) (.alt 8 (.l 1 (.l 3 (.l 4 (.q 5 (.q 6 (.q 7 (.l 9 (.q 10 .nil)))))))) .nil)))) (by kernel_rfl) ?_; conv => whnf) | (refine Ok.region_draw tok follows (by kernel_rfl) ?_; conv => whnf) | (refine Ok.cond ?_; conv => whnf) | refine Ok.block ?_ | (refine Ok.skip ?_; conv => whnf) | (refine Ok.exit ?_; conv => whnf) | (refine Ok.ret ?_; conv => whnf) | (refine num_in (by omega) (by omega) ?_; conv => whnf) | (refine ix _ (by assumption) ?_; conv => whnf) | (refine ixI (by omega) (by assumption) ?_; conv => whnf) | (refine ix_new _ (by omega) fun _ _ => ?_; conv => whnf) | (refine ixI_new (by omega) (by omega) fun _ _ => ?_; conv => whnf) | (refine ⟨_, by assumption, ?_⟩; conv => whnf) | (refine Or.inl ?_; (conv => whnf); (repeat (refine And.intro (by first | omega | (simp; done) | (simp; omega)) ?_; (conv => whnf))); refine ⟨_, hnl, rfl, ?_⟩; conv => whnf) | (refine Or.inl ?_; (conv => whnf); (repeat (refine And.intro (by first | omega | (simp; done) | (simp; omega)) ?_; (conv => whnf))); refine ⟨_, like_at hf ks3 kd1 rm3 rd1 h3 h1d, rfl, ?_⟩; conv => whnf) | (refine Or.inl ?_; (conv => whnf); (repeat (refine And.intro (by first | omega | (simp; done) | (simp; omega)) ?_; (conv => whnf))); refine ⟨_, num_at _, rfl, ?_⟩; conv => whnf) | (refine Or.inl ?_; (conv => whnf); (repeat (refine And.intro (by first | omega | (simp; done) | (simp; omega)) ?_; (conv => whnf))); refine ⟨_, bits_at n1 (.lst 81 (ks1.map trow) rm1) ⟨_, _, _, rfl⟩, rfl, ?_⟩; conv => whnf) | (refine Or.inl ?_; (conv => whnf); (repeat (refine And.intro (by first | omega | (simp; done) | (simp; omega)) ?_; (conv => whnf))); refine ⟨_, h1 ▸ (hf.cast ▸ text2_at n1.toNat ks1 (room := rm1) (hf.sp h1) rfl), rfl, ?_⟩; conv => whnf) | (refine ⟨_, hnl, rfl, ?_⟩; conv => whnf) | (refine ⟨_, like_at hf ks3 kd1 rm3 rd1 h3 h1d, rfl, ?_⟩; conv => whnf) | (refine ⟨_, num_at _, rfl, ?_⟩; conv => whnf) | (refine ⟨_, bits_at n1 (.lst 81 (ks1.map trow) rm1) ⟨_, _, _, rfl⟩, rfl, ?_⟩; conv => whnf) | (refine ⟨_, h1 ▸ (hf.cast ▸ text2_at n1.toNat ks1 (room := rm1) (hf.sp h1) rfl), rfl, ?_⟩; conv => whnf) | (refine Or.inr (Or.inl ?_); (conv => whnf); (repeat (refine And.intro (by first | omega | (simp; done) | (simp; omega)) ?_; (conv => whnf))); refine ⟨_, hnl, ?_⟩; rintro _ _ ⟨rfl, rfl⟩; conv => whnf) | (refine Or.inr (Or.inl ?_); (conv => whnf); (repeat (refine And.intro (by first | omega | (simp; done) | (simp; omega)) ?_; (conv => whnf))); refine ⟨_, like_at hf ks3 kd1 rm3 rd1 h3 h1d, ?_⟩; rintro _ _ ⟨rfl, rfl⟩; conv => whnf) | (refine Or.inr (Or.inl ?_); (conv => whnf); (repeat (refine And.intro (by first | omega | (simp; done) | (simp; omega)) ?_; (conv => whnf))); refine ⟨_, num_at _, ?_⟩; rintro _ _ ⟨rfl, rfl⟩; conv => whnf) | (refine Or.inr (Or.inl ?_); (conv => whnf); (repeat (refine And.intro (by first | omega | (simp; done) | (simp; omega)) ?_; (conv => whnf))); refine ⟨_, bits_at n1 (.lst 81 (ks1.map trow) rm1) ⟨_, _, _, rfl⟩, ?_⟩; rintro _ _ ⟨rfl, rfl⟩; conv => whnf) | (refine Or.inr (Or.inl ?_); (conv => whnf); (repeat (refine And.intro (by first | omega | (simp; done) | (simp; omega)) ?_; (conv => whnf))); refine ⟨_, h1 ▸ (hf.cast ▸ text2_at n1.toNat ks1 (room := rm1) (hf.sp h1) rfl), ?_⟩; rintro _ _ ⟨rfl, rfl⟩; conv => whnf) | (refine Or.inr (Or.inl ?_); (conv => whnf); (repeat (refine And.intro (by first | omega | (simp; done) | (simp; omega)) ?_; (conv => whnf))); refine ⟨_, r1 , ?_⟩; rintro _ _ ⟨rfl, ks1, kd1, rm1, rd1, rfl, h1, h1d⟩ <;> (conv => whnf)) | (refine Or.inr (Or.inl ?_); (conv => whnf); (repeat (refine And.intro (by first | omega | (simp; done) | (simp; omega)) ?_; (conv => whnf))); refine ⟨_, none_at n, ?_⟩; rintro _ _ ⟨rfl, rfl⟩ <;> (conv => whnf)) | (refine Or.inr (Or.inl ?_); (conv => whnf); (repeat (refine And.intro (by first | omega | (simp; done) | (simp; omega)) ?_; (conv => whnf))); refine ⟨_, rnone_at n, ?_⟩; rintro _ _ ⟨rfl, rfl⟩ <;> (conv => whnf)) | (refine Or.inr (Or.inl ?_); (conv => whnf); (repeat (refine And.intro (by first | omega | (simp; done) | (simp; omega)) ?_; (conv => whnf))); refine ⟨_, hp , ?_⟩; rintro _ _ ⟨rfl, _, rfl, ks3, rm3, rfl, h3⟩ <;> (conv => whnf)) | (refine Alt2.l (And.intro (by first | omega | (simp; done) | (simp; omega)) ?_); conv => whnf) | (refine Alt2.r (And.intro (by first | omega | (simp; done) | (simp; omega)) ?_); conv => whnf) | (refine Ok.scope ?_) | (refine Ok.label ?_; conv => whnf) | (refine rd rfl (by assumption) ?_; conv => whnf) | (refine ⟨_, .inl ⟨rfl, rfl⟩, ?_⟩; conv => whnf) | (refine ⟨_, _, rfl, rfl, ?_⟩; conv => whnf) | (refine ⟨fun _ => ?_, fun _ => ?_⟩ <;> (conv => whnf) <;> (try (exfalso; omega))) | (refine And.intro (by first | omega | rfl | (simp; done) | (simp; omega)) ?_; conv => whnf) | (refine num_any ?_; conv => whnf) | (refine ⟨_, rfl, ?_⟩; conv => whnf) | (exact True.intro) | (refine And.intro ?_ ?_ <;> (conv => whnf)) | fail)
    all_goals first
      | exact absurd trivial (by assumption)
      | exact absurd rfl (by assumption)
      | exact absurd (by assumption) h0
      | (refine Or.inl ?_; (conv => whnf)
         rfl)
      | trace_state
end Go.Proofs.YtaiondckookpiaaDoor
