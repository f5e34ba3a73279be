/- The walks and the plain laws that a law of spaces needs, part 7 of 7. -/
import Derived.Test.YtaiondckookpiaaGreatDoorPKF
set_option linter.unusedVariables false
set_option linter.unusedSimpArgs false
namespace Go.Proofs.YtaiondckookpiaaGreatDoor
open Go Go.Vx
set_option maxRecDepth 100000 in
set_option maxHeartbeats 4000000 in
theorem split_yc : ∀ (ms : List Str) (rm : List (List D)) (c : Str), CN c → (∀ m ∈ ms, CT m) → ms.length ≤ 100000 →
    YC Tryz.prog T 87 (fun l => [.agg (crow c), .lst 46 (ms.map crow) rm, .yld l]) (cubX (dfs ms c))
  | [], rm, c, hc, _, _ => by
    refine YC.of_okE Tryz.func87 rfl Tryz.call87 (m := 3) (fun _ => rfl) (by decide) fun l k xs hx => ?_
    have hx : PartAt xs k (cubX [c]) := hx
    have hx0 : xs[k]? = some [.agg (crow c)] := hx 0 (by simp [cubX])
    refine OkE.ofF (OkF.seq ?_)
    (try (conv => whnf)); repeat' (first | refine Ok.seq ?_ | refine OkL.cons ?_ | ((first | refine Ok.region tok ?_ | refine Ok.region_plan (id := 3) tok follows [(0, 4, []), (3, 4, [])] [.q 0, .q 1, .q 2, .q 3, .q 6, .l 4, .q 5] (by kernel_rfl) ?_ | refine Ok.region_draw tok follows (by kernel_rfl) ?_ | refine Ok.cond ?_); conv => whnf) | refine Ok.block ?_ | ((first | refine Ok.skip ?_ | refine Ok.exit ?_ | refine Ok.ret ?_ | refine nI ?_ | refine ix _ (by assumption) ?_ | refine ixI (by omega) (by assumption) ?_ | refine ix_new _ (by omega) fun _ _ => ?_ | refine ixI_new (by omega) (by omega) fun _ _ => ?_ | refine ⟨_, by assumption, ?_⟩ | refine Alt2.l (aI ?_) | refine Alt2.r (aI ?_)); conv => whnf) | (refine Ok.scope ?_) | ((first | refine Ok.label ?_ | refine rd rfl (by assumption) ?_ | refine ⟨_, .inl ⟨rfl, rfl⟩, ?_⟩ | refine ⟨_, _, rfl, rfl, ?_⟩); conv => whnf) | (refine ⟨fun _ => ?_, fun _ => ?_⟩ <;> (conv => whnf) <;> (try (exfalso; omega))) | ((first | refine aJ ?_ | refine num_any ?_ | refine ⟨_, rfl, ?_⟩); conv => whnf) | fail)
    refine OkF.seqE (OkF.seq ?_)
    (try (conv => whnf)); repeat' (first | refine Ok.seq ?_ | refine OkL.cons ?_ | ((first | refine Ok.region tok ?_ | refine Ok.region_plan (id := 3) tok follows [(0, 4, []), (3, 4, [])] [.q 0, .q 1, .q 2, .q 3, .q 6, .l 4, .q 5] (by kernel_rfl) ?_ | refine Ok.region_draw tok follows (by kernel_rfl) ?_ | refine Ok.cond ?_); conv => whnf) | refine Ok.block ?_ | ((first | refine Ok.skip ?_ | refine Ok.exit ?_ | refine Ok.ret ?_ | refine nI ?_ | refine ix _ (by assumption) ?_ | refine ixI (by omega) (by assumption) ?_ | refine ix_new _ (by omega) fun _ _ => ?_ | refine ixI_new (by omega) (by omega) fun _ _ => ?_ | refine ⟨_, by assumption, ?_⟩ | refine Alt2.l (aI ?_) | refine Alt2.r (aI ?_)); conv => whnf) | (refine Ok.scope ?_) | ((first | refine Ok.label ?_ | refine rd rfl (by assumption) ?_ | refine ⟨_, .inl ⟨rfl, rfl⟩, ?_⟩ | refine ⟨_, _, rfl, rfl, ?_⟩); conv => whnf) | (refine ⟨fun _ => ?_, fun _ => ?_⟩ <;> (conv => whnf) <;> (try (exfalso; omega))) | ((first | refine aJ ?_ | refine num_any ?_ | refine ⟨_, rfl, ?_⟩); conv => whnf) | fail)
    refine OkF.cond ?_
    (conv => whnf)
    refine ⟨fun _ => ?_, fun h => absurd rfl h⟩
    refine OkF.seqE (OkF.yreg tok 2 k [.agg (crow c)] hx0 ?_)
    (conv => whnf)
    refine ⟨rfl, rfl, rfl, ?_⟩
    (conv => whnf)
    refine ⟨?_, ?_⟩
    · (conv => whnf)
      refine OkE.ret ?_
      (conv => whnf)
      exact ⟨rfl, 6, rfl, by decide, .inl ⟨rfl, rfl⟩⟩
    · (conv => whnf)
      refine OkE.ret ?_
      (conv => whnf)
      exact ⟨rfl, 6, rfl, by decide, .inr ⟨rfl, rfl⟩⟩
  | m :: ms, rm, c, hc, hm, hl => by
    have ih := fun rm d hd => split_yc ms rm d hd (fun x hx => hm x (by simp [hx])) (by simp at hl; omega)
    obtain ⟨L, hL⟩ : ∃ L, L = m :: ms := ⟨_, rfl⟩
    have hLm : (L.map crow).length = ms.length + 1 := by rw [hL]; simp
    have hL0 : L[((0 : Nat) : Int).toNat]? = some m := by rw [hL]; rfl
    have hcm := hm m (by simp)
    have hLs : ms.map crow = ((L.map crow ++ rm).take (L.map crow).length).drop 1 := by rw [List.take_left, hL]; rfl
    have hsl := splitT_len (d := m) hc.1.len
    have hsn := splitT_cn hc hcm
    rw [← hL]
    refine YC.of_okE Tryz.func87 rfl Tryz.call87 (m := 3) (fun _ => rfl) (by decide) fun l k xs hx => ?_
    have hdf : dfs L c = (splitT c m).flatMap (dfs ms) := by rw [hL]; rfl
    rw [hdf] at hx ⊢
    have hx : PartAt xs k (cubX ((splitT c m).flatMap (dfs ms))) := hx
    refine OkE.ofF (OkF.seq ?_)
    (try (conv => whnf)); repeat' (first | refine Ok.seq ?_ | refine OkL.cons ?_ | ((first | refine Ok.region tok ?_ | refine Ok.region_plan (id := 3) tok follows [(0, 4, []), (3, 4, [])] [.q 0, .q 1, .q 2, .q 3, .q 6, .l 4, .q 5] (by kernel_rfl) ?_ | refine Ok.region_draw tok follows (by kernel_rfl) ?_ | refine Ok.cond ?_); conv => whnf) | refine Ok.block ?_ | ((first | refine Ok.skip ?_ | refine Ok.exit ?_ | refine Ok.ret ?_ | refine nI ?_ | refine ix _ (by assumption) ?_ | refine ixI (by omega) (by assumption) ?_ | refine ix_new _ (by omega) fun _ _ => ?_ | refine ixI_new (by omega) (by omega) fun _ _ => ?_ | refine ⟨_, by assumption, ?_⟩ | refine Alt2.l (aI ?_) | refine Alt2.r (aI ?_)); conv => whnf) | (refine Ok.scope ?_) | ((first | refine Ok.label ?_ | refine rd rfl (by assumption) ?_ | refine ⟨_, .inl ⟨rfl, rfl⟩, ?_⟩ | refine ⟨_, _, rfl, rfl, ?_⟩); conv => whnf) | (refine ⟨fun _ => ?_, fun _ => ?_⟩ <;> (conv => whnf) <;> (try (exfalso; omega))) | ((first | refine aJ ?_ | refine num_any ?_ | refine ⟨_, rfl, ?_⟩); conv => whnf) | fail)
    refine OkF.seq ?_
    (try (conv => whnf)); repeat' (first | refine Ok.seq ?_ | refine OkL.cons ?_ | ((first | refine Ok.region tok ?_ | refine Ok.region_plan (id := 3) tok follows [(0, 4, []), (3, 4, [])] [.q 0, .q 1, .q 2, .q 3, .q 6, .l 4, .q 5] (by kernel_rfl) ?_ | refine Ok.region_draw tok follows (by kernel_rfl) ?_ | refine Ok.cond ?_); conv => whnf) | refine Ok.block ?_ | ((first | refine Ok.skip ?_ | refine Ok.exit ?_ | refine Ok.ret ?_ | refine nI ?_ | refine ix _ (by assumption) ?_ | refine ixI (by omega) (by assumption) ?_ | refine ix_new _ (by omega) fun _ _ => ?_ | refine ixI_new (by omega) (by omega) fun _ _ => ?_ | refine ⟨_, by assumption, ?_⟩ | refine Alt2.l (aI ?_) | refine Alt2.r (aI ?_)); conv => whnf) | (refine Ok.scope ?_) | ((first | refine Ok.label ?_ | refine rd rfl (by assumption) ?_ | refine ⟨_, .inl ⟨rfl, rfl⟩, ?_⟩ | refine ⟨_, _, rfl, rfl, ?_⟩); conv => whnf) | (refine ⟨fun _ => ?_, fun _ => ?_⟩ <;> (conv => whnf) <;> (try (exfalso; omega))) | ((first | refine aJ ?_ | refine num_any ?_ | refine ⟨_, rfl, ?_⟩); conv => whnf) | fail)
    all_goals first
      | (exfalso; omega)
      | skip
    refine OkF.seqE (OkF.seq ?_)
    generalize hS : splitT c m = S at *
    have hslm : (S.map crow).length = S.length := by simp
    have hsp := split_at c m hc hcm
    rw [hS] at hsp
    (try (conv => whnf)); repeat' (first | refine Ok.seq ?_ | refine OkL.cons ?_ | ((first | refine Ok.region tok ?_ | refine Ok.region_plan (id := 3) tok follows [(0, 4, []), (3, 4, [])] [.q 0, .q 1, .q 2, .q 3, .q 6, .l 4, .q 5] (by kernel_rfl) ?_ | refine Ok.region_draw tok follows (by kernel_rfl) ?_ | refine Ok.cond ?_); conv => whnf) | refine Ok.block ?_ | ((first | refine Ok.skip ?_ | refine Ok.exit ?_ | refine Ok.ret ?_ | refine nI ?_ | refine ix _ (by assumption) ?_ | refine ixI (by omega) (by assumption) ?_ | refine ix_new _ (by omega) fun _ _ => ?_ | refine ixI_new (by omega) (by omega) fun _ _ => ?_ | refine ⟨_, by assumption, ?_⟩); conv => whnf) | (refine Or.inr (Or.inl ?_); (conv => whnf); (repeat (refine aI ?_; conv => whnf)); refine ⟨_, hsp , ?_⟩; rintro _ _ ⟨rm2, rfl, rfl⟩ <;> (conv => whnf)) | ((first | refine Alt2.l (aI ?_) | refine Alt2.r (aI ?_)); conv => whnf) | (refine Ok.scope ?_) | ((first | refine Ok.label ?_ | refine rd rfl (by assumption) ?_ | refine ⟨_, .inl ⟨rfl, rfl⟩, ?_⟩ | refine ⟨_, _, rfl, rfl, ?_⟩); conv => whnf) | (refine ⟨fun _ => ?_, fun _ => ?_⟩ <;> (conv => whnf) <;> (try (exfalso; omega))) | ((first | refine aJ ?_ | refine num_any ?_ | refine ⟨_, rfl, ?_⟩); conv => whnf) | fail)
    refine OkF.ofE ?_
    (conv => whnf)
    refine OkE.block ?_
    refine OkE.loopK [1, 2, 19, 20, 21] (fun j : Nat => [(1, .lst 46 (L.map crow) rm), (2, .yld l), (19, .lst 46 (S.map crow) rm2), (20, .i .i64 (S.map crow).length), (21, .i .i64 (j : Nat))]) (fun j => some (k + (cubX ((S.take j).flatMap (dfs ms))).length)) (fun j => j ≤ S.length) (fun j => S.length - j) 0 (Nat.zero_le _) (by simp [cubX]) (by
      (conv => whnf)
      rfl) ?_
    intro j hj
    refine OkE.seq (OkE.piece ?_)
    (try (conv => whnf)); repeat' (first | refine Ok.seq ?_ | refine OkL.cons ?_ | ((first | refine Ok.region tok ?_ | refine Ok.region_plan (id := 3) tok follows [(0, 4, []), (3, 4, [])] [.q 0, .q 1, .q 2, .q 3, .q 6, .l 4, .q 5] (by kernel_rfl) ?_ | refine Ok.region_draw tok follows (by kernel_rfl) ?_ | refine Ok.cond ?_); conv => whnf) | refine Ok.block ?_ | ((first | refine Ok.skip ?_ | refine Ok.exit ?_ | refine Ok.ret ?_ | refine nI ?_ | refine ix _ (by assumption) ?_ | refine ixI (by omega) (by assumption) ?_ | refine ix_new _ (by omega) fun _ _ => ?_ | refine ixI_new (by omega) (by omega) fun _ _ => ?_ | refine ⟨_, by assumption, ?_⟩ | refine Alt2.l (aI ?_) | refine Alt2.r (aI ?_)); conv => whnf) | (refine Ok.scope ?_) | ((first | refine Ok.label ?_ | refine rd rfl (by assumption) ?_ | refine ⟨_, .inl ⟨rfl, rfl⟩, ?_⟩ | refine ⟨_, _, rfl, rfl, ?_⟩); conv => whnf) | (refine ⟨fun _ => ?_, fun _ => ?_⟩ <;> (conv => whnf) <;> (try (exfalso; omega))) | ((first | refine aJ ?_ | refine num_any ?_ | refine ⟨_, rfl, ?_⟩); conv => whnf) | fail)
    refine OkE.seq (OkE.cond ?_)
    (conv => whnf)
    refine ⟨fun h => ?_, fun h => ?_⟩
    · refine OkE.skip ?_
      (conv => whnf)
      have hjl : j < S.length := by omega
      obtain ⟨d, hd⟩ : ∃ d, S[j]? = some d := ⟨_, List.getElem?_eq_getElem hjl⟩
      have hdI : S[((j : Nat) : Int).toNat]? = some d := hd
      have hdn := (hsn d (List.mem_of_getElem? hd)).1
      have hpart := flat_part hd hx
      refine OkE.seq (OkE.block (OkE.ofF (OkF.seq ?_)))
      (try (conv => whnf)); repeat' (first | refine Ok.seq ?_ | refine OkL.cons ?_ | ((first | refine Ok.region tok ?_ | refine Ok.region_plan (id := 3) tok follows [(0, 4, []), (3, 4, [])] [.q 0, .q 1, .q 2, .q 3, .q 6, .l 4, .q 5] (by kernel_rfl) ?_ | refine Ok.region_draw tok follows (by kernel_rfl) ?_ | refine Ok.cond ?_); conv => whnf) | refine Ok.block ?_ | ((first | refine Ok.skip ?_ | refine Ok.exit ?_ | refine Ok.ret ?_ | refine nI ?_ | refine ix _ (by assumption) ?_ | refine ixI (by omega) (by assumption) ?_ | refine ix_new _ (by omega) fun _ _ => ?_ | refine ixI_new (by omega) (by omega) fun _ _ => ?_ | refine ⟨_, by assumption, ?_⟩ | refine Alt2.l (aI ?_) | refine Alt2.r (aI ?_)); conv => whnf) | (refine Ok.scope ?_) | ((first | refine Ok.label ?_ | refine rd rfl (by assumption) ?_ | refine ⟨_, .inl ⟨rfl, rfl⟩, ?_⟩ | refine ⟨_, _, rfl, rfl, ?_⟩); conv => whnf) | (refine ⟨fun _ => ?_, fun _ => ?_⟩ <;> (conv => whnf) <;> (try (exfalso; omega))) | ((first | refine aJ ?_ | refine num_any ?_ | refine ⟨_, rfl, ?_⟩); conv => whnf) | fail)
      refine OkF.seqE (OkF.cregD tok follows [(0, 4, []), (1, 4, [2]), (2, 4, []), (3, 4, [])] [.q 0, .q 1, .q 2, .q 3] 4 [.q 5] _ (ih ((L.map crow ++ rm).drop (L.map crow).length) d hdn) hpart (fun c g env h => by simp [thenY, blockY, yEnd] at h) (by kernel_rfl) ?_)
      (conv => whnf)
      refine ⟨1, (L.map crow).length, rfl, rfl, by omega, by omega, ms.map crow, _, hLs, rfl, ?_⟩
      (conv => whnf)
      refine ⟨rfl, rfl, rfl, ?_⟩
      (conv => whnf)
      refine ⟨?_, ?_⟩
      · (conv => whnf)
        refine OkE.cond ?_
        (conv => whnf)
        refine OkE.skip ?_
        (conv => whnf)
        refine OkE.piece ?_
        (try (conv => whnf)); repeat' (first | refine Ok.seq ?_ | refine OkL.cons ?_ | ((first | refine Ok.region tok ?_ | refine Ok.region_plan (id := 3) tok follows [(0, 4, []), (3, 4, [])] [.q 0, .q 1, .q 2, .q 3, .q 6, .l 4, .q 5] (by kernel_rfl) ?_ | refine Ok.region_draw tok follows (by kernel_rfl) ?_ | refine Ok.cond ?_); conv => whnf) | refine Ok.block ?_ | ((first | refine Ok.skip ?_ | refine Ok.exit ?_ | refine Ok.ret ?_ | refine nI ?_ | refine ix _ (by assumption) ?_ | refine ixI (by omega) (by assumption) ?_ | refine ix_new _ (by omega) fun _ _ => ?_ | refine ixI_new (by omega) (by omega) fun _ _ => ?_ | refine ⟨_, by assumption, ?_⟩ | refine Alt2.l (aI ?_) | refine Alt2.r (aI ?_)); conv => whnf) | (refine Ok.scope ?_) | ((first | refine Ok.label ?_ | refine rd rfl (by assumption) ?_ | refine ⟨_, .inl ⟨rfl, rfl⟩, ?_⟩ | refine ⟨_, _, rfl, rfl, ?_⟩); conv => whnf) | (refine ⟨fun _ => ?_, fun _ => ?_⟩ <;> (conv => whnf) <;> (try (exfalso; omega))) | ((first | refine aJ ?_ | refine num_any ?_ | refine ⟨_, rfl, ?_⟩); conv => whnf) | fail)
        refine ⟨j + 1, by omega, by omega, by rw [flat_snoc hd, cubX_app, List.length_append, Nat.add_assoc], ?_⟩
        (conv => whnf)
        rfl
      · (conv => whnf)
        refine OkE.cond ?_
        (conv => whnf)
        refine OkE.seq (OkE.piece ?_)
        (try (conv => whnf)); repeat' (first | refine Ok.seq ?_ | refine OkL.cons ?_ | ((first | refine Ok.region tok ?_ | refine Ok.region_plan (id := 3) tok follows [(0, 4, []), (3, 4, [])] [.q 0, .q 1, .q 2, .q 3, .q 6, .l 4, .q 5] (by kernel_rfl) ?_ | refine Ok.region_draw tok follows (by kernel_rfl) ?_ | refine Ok.cond ?_); conv => whnf) | refine Ok.block ?_ | ((first | refine Ok.skip ?_ | refine Ok.exit ?_ | refine Ok.ret ?_ | refine nI ?_ | refine ix _ (by assumption) ?_ | refine ixI (by omega) (by assumption) ?_ | refine ix_new _ (by omega) fun _ _ => ?_ | refine ixI_new (by omega) (by omega) fun _ _ => ?_ | refine ⟨_, by assumption, ?_⟩ | refine Alt2.l (aI ?_) | refine Alt2.r (aI ?_)); conv => whnf) | (refine Ok.scope ?_) | ((first | refine Ok.label ?_ | refine rd rfl (by assumption) ?_ | refine ⟨_, .inl ⟨rfl, rfl⟩, ?_⟩ | refine ⟨_, _, rfl, rfl, ?_⟩); conv => whnf) | (refine ⟨fun _ => ?_, fun _ => ?_⟩ <;> (conv => whnf) <;> (try (exfalso; omega))) | ((first | refine aJ ?_ | refine num_any ?_ | refine ⟨_, rfl, ?_⟩); conv => whnf) | fail)
        refine OkE.ret ?_
        (conv => whnf)
        exact ⟨rfl, 6, rfl, by decide, .inr ⟨rfl, rfl⟩⟩
    · have hje : j = S.length := by omega
      subst hje
      refine OkE.exit ?_
      (conv => whnf)
      refine OkE.seq (OkE.piece ?_)
      (try (conv => whnf)); repeat' (first | refine Ok.seq ?_ | refine OkL.cons ?_ | ((first | refine Ok.region tok ?_ | refine Ok.region_plan (id := 3) tok follows [(0, 4, []), (3, 4, [])] [.q 0, .q 1, .q 2, .q 3, .q 6, .l 4, .q 5] (by kernel_rfl) ?_ | refine Ok.region_draw tok follows (by kernel_rfl) ?_ | refine Ok.cond ?_); conv => whnf) | refine Ok.block ?_ | ((first | refine Ok.skip ?_ | refine Ok.exit ?_ | refine Ok.ret ?_ | refine nI ?_ | refine ix _ (by assumption) ?_ | refine ixI (by omega) (by assumption) ?_ | refine ix_new _ (by omega) fun _ _ => ?_ | refine ixI_new (by omega) (by omega) fun _ _ => ?_ | refine ⟨_, by assumption, ?_⟩ | refine Alt2.l (aI ?_) | refine Alt2.r (aI ?_)); conv => whnf) | (refine Ok.scope ?_) | ((first | refine Ok.label ?_ | refine rd rfl (by assumption) ?_ | refine ⟨_, .inl ⟨rfl, rfl⟩, ?_⟩ | refine ⟨_, _, rfl, rfl, ?_⟩); conv => whnf) | (refine ⟨fun _ => ?_, fun _ => ?_⟩ <;> (conv => whnf) <;> (try (exfalso; omega))) | ((first | refine aJ ?_ | refine num_any ?_ | refine ⟨_, rfl, ?_⟩); conv => whnf) | fail)
      refine OkE.ret ?_
      (conv => whnf)
      exact ⟨rfl, 6, rfl, by decide, .inl ⟨rfl, by rw [List.take_length]⟩⟩
def allX (ts : List Term) : List Str := ts.flatMap fun t => dfs t.less t.p
theorem splL_flat (m : Str) (ms l : List Str) : l.flatMap (dfs (m :: ms)) = (splL m l).flatMap (dfs ms) := by
  unfold splL
  rw [List.flatMap_assoc]
  rfl
theorem splX_dfs {lim : Int} : ∀ {ms l r : List Str}, splX lim ms l = some r → r = l.flatMap (dfs ms)
  | [], l, r, h => by cases h; simp [dfs]
  | m :: ms, l, r, h => by
    rw [splX_cons] at h
    split at h
    · cases h
    · rw [splL_flat]; exact splX_dfs h
theorem termX_dfs {lim : Int} {t : Term} {r : List Str} (h : termX lim t = some r) : r = dfs t.less t.p := by
  unfold termX at h
  split at h
  · cases h
  · have := splX_dfs h
    simpa using this
theorem expX_all2 {limit : Int} : ∀ {ts : List Term} {out r : List Str}, expX limit ts out = some r → r = out ++ allX ts
  | [], out, r, h => by cases h; simp [allX]
  | t :: ts, out, r, h => by
    rw [expX_cons] at h
    split at h
    · cases h
    · rename_i l hl
      rw [expX_all2 h, termX_dfs hl]
      simp [allX]
theorem expO_allX {n : Int} {ts : List Term} {limit : Int} (h : (expO n ts limit).1 = 0) : (expO n ts limit).2 = allX ts := by
  unfold expO at h ⊢
  split at h
  · cases h
  · rename_i h1
    rw [if_neg h1]
    split at h
    · cases h
    · rename_i h2
      rw [if_neg h2]
      split at h
      · rename_i l hl
        have := expX_all2 hl
        simpa using this
      · cases h
theorem cubes_at {n : Int} (ks : List TR) (rm : List (List D)) : FSpec Tryz.prog T 31 [.agg [.i .i64 n, .lst 112 (ks.map trow) rm]] (fun d rows => d = .fn 86 [] [.ep [.i .i64 n, .lst 112 (ks.map trow) rm]] ∧ rows = []) := by
  refine FSpec.of_ok tok Tryz.func31 rfl Tryz.call31 (by simp) ?_
  (try (conv => whnf)); repeat' (first | refine Ok.seq ?_ | refine OkL.cons ?_ | ((first | refine Ok.region tok ?_ | refine Ok.region_draw tok follows (by kernel_rfl) ?_ | refine Ok.cond ?_); conv => whnf) | refine Ok.block ?_ | ((first | refine Ok.skip ?_ | refine Ok.exit ?_ | refine Ok.ret ?_ | refine nI ?_ | refine ix _ (by assumption) ?_ | refine ixI (by omega) (by assumption) ?_ | refine ix_new _ (by omega) fun _ _ => ?_ | refine ixI_new (by omega) (by omega) fun _ _ => ?_ | refine ⟨_, by assumption, ?_⟩ | refine Alt2.l (aI ?_) | refine Alt2.r (aI ?_)); conv => whnf) | (refine Ok.scope ?_) | ((first | refine Ok.label ?_ | refine rd rfl (by assumption) ?_ | refine ⟨_, .inl ⟨rfl, rfl⟩, ?_⟩ | refine ⟨_, _, rfl, rfl, ?_⟩); conv => whnf) | (refine ⟨fun _ => ?_, fun _ => ?_⟩ <;> (conv => whnf) <;> (try (exfalso; omega))) | ((first | refine aJ ?_ | refine num_any ?_ | refine ⟨_, rfl, ?_⟩); conv => whnf) | fail)
  refine Or.inr ?_
  (conv => whnf)
  (try (conv => whnf)); repeat' (first | (refine Ok.pubB (c := Code.ret) rfl ?_; (conv => whnf); refine Ok.ret ?_; (conv => whnf)) | refine Ok.seq ?_ | refine OkL.cons ?_ | ((first | refine Ok.region tok ?_ | refine Ok.region_draw tok follows (by kernel_rfl) ?_ | refine Ok.cond ?_); conv => whnf) | refine Ok.block ?_ | ((first | refine Ok.skip ?_ | refine Ok.exit ?_ | refine Ok.ret ?_ | refine nI ?_ | refine ix _ (by assumption) ?_ | refine ixI (by omega) (by assumption) ?_ | refine ix_new _ (by omega) fun _ _ => ?_ | refine ixI_new (by omega) (by omega) fun _ _ => ?_ | refine ⟨_, by assumption, ?_⟩ | refine Alt2.l (aI ?_) | refine Alt2.r (aI ?_)); conv => whnf) | (refine Ok.scope ?_) | ((first | refine Ok.label ?_ | refine rd rfl (by assumption) ?_ | refine ⟨_, .inl ⟨rfl, rfl⟩, ?_⟩ | refine ⟨_, _, rfl, rfl, ?_⟩); conv => whnf) | (refine ⟨fun _ => ?_, fun _ => ?_⟩ <;> (conv => whnf) <;> (try (exfalso; omega))) | ((first | refine aJ ?_ | refine num_any ?_ | refine ⟨_, rfl, ?_⟩); conv => whnf) | fail)
  refine Or.inl ?_; (conv => whnf)
  exact ⟨rfl, rfl⟩
set_option maxHeartbeats 4000000 in
theorem cubes_seq {n : Int} {ts : List Term} (hf : Fine n ts) (ks : List TR) (rm : List (List D)) (h1 : ks.map TR.t = ts) : YSpec Tryz.prog T 86 [.ep [.i .i64 n, .lst 112 (ks.map trow) rm]] (cubX (allX ts)) := by
  have hl1 : ks.length = ts.length := by rw [← h1, List.length_map]
  have hm1 : (ks.map trow).length = ts.length := by simp [hl1]
  have hk1 := hf.len
  refine YSpec.of_okY Tryz.func86 rfl Tryz.call86 rfl (show 2 ≤ 20 by decide) fun y => OkY.ofE ?_
  refine OkE.seq (OkE.piece ?_)
  (try (conv => whnf)); repeat' (first | refine Ok.seq ?_ | refine OkL.cons ?_ | ((first | refine Ok.region tok ?_ | refine Ok.region_draw tok follows (by kernel_rfl) ?_ | refine Ok.cond ?_); conv => whnf) | refine Ok.block ?_ | ((first | refine Ok.skip ?_ | refine Ok.exit ?_ | refine Ok.ret ?_ | refine nI ?_ | refine ix _ (by assumption) ?_ | refine ixI (by omega) (by assumption) ?_ | refine ix_new _ (by omega) fun _ _ => ?_ | refine ixI_new (by omega) (by omega) fun _ _ => ?_ | refine ⟨_, by assumption, ?_⟩ | refine Alt2.l (aI ?_) | refine Alt2.r (aI ?_)); conv => whnf) | (refine Ok.scope ?_) | ((first | refine Ok.label ?_ | refine rd rfl (by assumption) ?_ | refine ⟨_, .inl ⟨rfl, rfl⟩, ?_⟩ | refine ⟨_, _, rfl, rfl, ?_⟩); conv => whnf) | (refine ⟨fun _ => ?_, fun _ => ?_⟩ <;> (conv => whnf) <;> (try (exfalso; omega))) | ((first | refine aJ ?_ | refine num_any ?_ | refine ⟨_, rfl, ?_⟩); conv => whnf) | fail)
  refine OkE.block ?_
  refine OkE.loopK [0, 6, 7, 8] (fun i : Nat => [(0, .yld y), (6, .lst 112 (ks.map trow) rm), (7, .i .i64 (ks.map trow).length), (8, .i .i64 (i : Nat))]) (fun i => some (cubX (allX (ts.take i))).length) (fun i => i ≤ ts.length) (fun i => ts.length - i) 0 (Nat.zero_le _) (by simp [allX, cubX]) (by
    (conv => whnf)
    rfl) ?_
  intro i hi
  refine OkE.seq (OkE.piece ?_)
  (try (conv => whnf)); repeat' (first | refine Ok.seq ?_ | refine OkL.cons ?_ | ((first | refine Ok.region tok ?_ | refine Ok.region_draw tok follows (by kernel_rfl) ?_ | refine Ok.cond ?_); conv => whnf) | refine Ok.block ?_ | ((first | refine Ok.skip ?_ | refine Ok.exit ?_ | refine Ok.ret ?_ | refine nI ?_ | refine ix _ (by assumption) ?_ | refine ixI (by omega) (by assumption) ?_ | refine ix_new _ (by omega) fun _ _ => ?_ | refine ixI_new (by omega) (by omega) fun _ _ => ?_ | refine ⟨_, by assumption, ?_⟩ | refine Alt2.l (aI ?_) | refine Alt2.r (aI ?_)); conv => whnf) | (refine Ok.scope ?_) | ((first | refine Ok.label ?_ | refine rd rfl (by assumption) ?_ | refine ⟨_, .inl ⟨rfl, rfl⟩, ?_⟩ | refine ⟨_, _, rfl, rfl, ?_⟩); conv => whnf) | (refine ⟨fun _ => ?_, fun _ => ?_⟩ <;> (conv => whnf) <;> (try (exfalso; omega))) | ((first | refine aJ ?_ | refine num_any ?_ | refine ⟨_, rfl, ?_⟩); conv => whnf) | fail)
  refine OkE.seq (OkE.cond ?_)
  (conv => whnf)
  refine ⟨fun h => ?_, fun h => ?_⟩
  · refine OkE.skip ?_
    (conv => whnf)
    have hil : i < ts.length := by omega
    obtain ⟨a, ha⟩ : ∃ a, ks[i]? = some a := ⟨_, List.getElem?_eq_getElem (by omega)⟩
    have haI : ks[((i : Nat) : Int).toNat]? = some a := ha
    have hat := tr_get h1 ha
    have hag := hf.good _ (List.mem_of_getElem? hat)
    have hlb := hf.less (List.mem_of_getElem? hat)
    have hpart : PartAt (cubX (allX ts)) (0 + (cubX ((ts.take i).flatMap fun t => dfs t.less t.p)).length) (cubX (dfs a.t.less a.t.p)) := flat_part (f := fun t : Term => dfs t.less t.p) hat (fun i _ => by rw [Nat.zero_add]; rfl)
    rw [Nat.zero_add] at hpart
    refine OkE.seq (OkE.block (OkE.ofF (OkF.seq ?_)))
    (try (conv => whnf)); repeat' (first | refine Ok.seq ?_ | refine OkL.cons ?_ | ((first | refine Ok.region tok ?_ | refine Ok.region_draw tok follows (by kernel_rfl) ?_ | refine Ok.cond ?_); conv => whnf) | refine Ok.block ?_ | ((first | refine Ok.skip ?_ | refine Ok.exit ?_ | refine Ok.ret ?_ | refine nI ?_ | refine ix _ (by assumption) ?_ | refine ixI (by omega) (by assumption) ?_ | refine ix_new _ (by omega) fun _ _ => ?_ | refine ixI_new (by omega) (by omega) fun _ _ => ?_ | refine ⟨_, by assumption, ?_⟩ | refine Alt2.l (aI ?_) | refine Alt2.r (aI ?_)); conv => whnf) | (refine Ok.scope ?_) | ((first | refine Ok.label ?_ | refine rd rfl (by assumption) ?_ | refine ⟨_, .inl ⟨rfl, rfl⟩, ?_⟩ | refine ⟨_, _, rfl, rfl, ?_⟩); conv => whnf) | (refine ⟨fun _ => ?_, fun _ => ?_⟩ <;> (conv => whnf) <;> (try (exfalso; omega))) | ((first | refine aJ ?_ | refine num_any ?_ | refine ⟨_, rfl, ?_⟩); conv => whnf) | fail)
    refine OkF.seqE (OkF.creg tok 5 _ (split_yc a.t.less a.room a.t.p hag.p (fun m hm => (hag.less m hm).1) (by omega)) hpart ?_)
    (conv => whnf)
    refine ⟨rfl, rfl, rfl, ?_⟩
    (conv => whnf)
    refine ⟨?_, ?_⟩
    · (conv => whnf)
      refine OkE.cond ?_
      (conv => whnf)
      refine OkE.skip ?_
      (conv => whnf)
      refine OkE.piece ?_
      (try (conv => whnf)); repeat' (first | refine Ok.seq ?_ | refine OkL.cons ?_ | ((first | refine Ok.region tok ?_ | refine Ok.region_draw tok follows (by kernel_rfl) ?_ | refine Ok.cond ?_); conv => whnf) | refine Ok.block ?_ | ((first | refine Ok.skip ?_ | refine Ok.exit ?_ | refine Ok.ret ?_ | refine nI ?_ | refine ix _ (by assumption) ?_ | refine ixI (by omega) (by assumption) ?_ | refine ix_new _ (by omega) fun _ _ => ?_ | refine ixI_new (by omega) (by omega) fun _ _ => ?_ | refine ⟨_, by assumption, ?_⟩ | refine Alt2.l (aI ?_) | refine Alt2.r (aI ?_)); conv => whnf) | (refine Ok.scope ?_) | ((first | refine Ok.label ?_ | refine rd rfl (by assumption) ?_ | refine ⟨_, .inl ⟨rfl, rfl⟩, ?_⟩ | refine ⟨_, _, rfl, rfl, ?_⟩); conv => whnf) | (refine ⟨fun _ => ?_, fun _ => ?_⟩ <;> (conv => whnf) <;> (try (exfalso; omega))) | ((first | refine aJ ?_ | refine num_any ?_ | refine ⟨_, rfl, ?_⟩); conv => whnf) | fail)
      refine ⟨i + 1, by omega, by omega, by unfold allX; rw [flat_snoc hat, cubX_app, List.length_append], ?_⟩
      (conv => whnf)
      rfl
    · (conv => whnf)
      refine OkE.cond ?_
      (conv => whnf)
      refine OkE.ret ?_
      (conv => whnf)
      exact ⟨.inr rfl, .inr rfl⟩
  · have hie : i = ts.length := by omega
    subst hie
    refine OkE.exit ?_
    (conv => whnf)
    refine ⟨.inl rfl, .inl ?_⟩
    rw [List.take_length]
end Go.Proofs.YtaiondckookpiaaGreatDoor
namespace Go.Proofs.YtaiondckookpiaaGreatDoor
open Go Go.Vx
set_option maxRecDepth 100000 in
set_option maxHeartbeats 8000000 in
theorem walksLaw_at (n : Int) (a : Str) (upTo again : Int) : FSpec Tryz.prog T 8 [.i .i64 n, .s a, .i .i64 upTo, .i .i64 again] (fun r _ => r = .b True) := by
  have hf := parO_fine n a
  have r1 := read_at n a
  unfold ReadO at r1
  generalize parO n a = o1 at *
  obtain ⟨e1, n1, ts⟩ := o1
  dsimp only at hf r1
  obtain ⟨hj0, hjl⟩ := expO_all (limit := 2048) hf
  have hall := expO_allX (n := n1) (ts := ts) (limit := 2048)
  have e3 := fun ks rm h1 => rexpand_at hf ks rm h1 2048
  have hseq := fun ks rm h1 => cubes_seq hf ks rm h1
  generalize expO n1 ts 2048 = o2 at *
  obtain ⟨x, l⟩ := o2
  dsimp only at hj0 hjl hall
  refine FSpec.of_ok tok Tryz.func8 rfl Tryz.call8 (by simp) ?_
  by_cases hn : 0 < n1
  · by_cases hx : x = 0
    · rw [← hall hx] at hseq
      (try (conv => whnf)); repeat' (first | (refine And.intro (FnT.mk (by kernel_rfl)) ?_; (conv => whnf)) | refine Ok.seq ?_ | refine OkL.cons ?_ | ((first | refine Ok.region tok ?_ | refine Ok.region_draw tok follows (by kernel_rfl) ?_ | refine Ok.cond ?_); conv => whnf) | refine Ok.block ?_ | ((first | refine Ok.skip ?_ | refine Ok.exit ?_ | refine Ok.ret ?_ | refine nI ?_ | refine ix _ (by assumption) ?_ | refine ixI (by omega) (by assumption) ?_ | refine ix_new _ (by omega) fun _ _ => ?_ | refine ixI_new (by omega) (by omega) fun _ _ => ?_ | refine ⟨_, by assumption, ?_⟩); conv => whnf) | (refine Or.inr (Or.inl ?_); (conv => whnf); (repeat (refine aI ?_; conv => whnf)); refine ⟨_, r1 , ?_⟩; rintro _ _ ⟨rfl, ks1, kd1, rm1, rd1, rfl, h1, h1d⟩ <;> (conv => whnf)) | (refine Or.inr (Or.inl ?_); (conv => whnf); (repeat (refine aI ?_; conv => whnf)); refine ⟨_, cubes_at ks1 rm1, ?_⟩; rintro _ _ ⟨rfl, rfl⟩ <;> (conv => whnf)) | (refine Or.inr (Or.inl ?_); (conv => whnf); (repeat (refine aI ?_; conv => whnf)); refine ⟨_, e3 kd1 rd1 h1d , ?_⟩; rintro _ _ ⟨rfl, rm4, rfl⟩ <;> (conv => whnf)) | ((first | refine Alt2.l (aI ?_) | refine Alt2.r (aI ?_)); conv => whnf) | (refine Ok.scope ?_) | ((first | refine Ok.label ?_ | refine rd rfl (by assumption) ?_ | refine ⟨_, .inl ⟨rfl, rfl⟩, ?_⟩ | refine ⟨_, _, rfl, rfl, ?_⟩); conv => whnf) | (refine ⟨fun _ => ?_, fun _ => ?_⟩ <;> (conv => whnf) <;> (try (exfalso; omega))) | ((first | refine aJ ?_ | refine num_any ?_ | refine ⟨_, rfl, ?_⟩); conv => whnf) | fail)
      all_goals first
        | exact absurd trivial (by assumption)
        | (rename_i h; exact absurd hx h)
        | exact absurd hn (by assumption)
        | skip
      have hsq := hseq ks1 rm1 h1
      have hlm : (l.map srow).length = l.length := by simp
      refine Ok.joinK [6, 7, 8, 12, 13, 15] 0 8 (fun k : Nat => ⟨[(6, .bp 0 0), (7, .bp 1 0), (8, .bp 2 0), (12, .bp 5 0), (13, .bp 6 0), (15, .bp 7 0)], [[.i .i64 upTo], [.i .i64 again], [.ff], [.i .i64 n1, .lst 112 (ks1.map trow) rm1], [.i .i64 n1, .lst 120 (kd1.map drow) rd1], [.fn 86 [] [.ep [.i .i64 n1, .lst 112 (ks1.map trow) rm1]]], [.lst 9 (l.map srow) rm4], [.i .i64 (k : Nat)]], [], 131⟩) (fun e k => (e = .normal ∨ e = .exit 0) ∧ k ≤ l.length ∧ (k = l.length ∨ upTo ≤ (k : Int))) ?_ ?_
      · refine Ok.range [6, 7, 8, 12, 13, 15, 45] 0 8 (fun k : Nat => ⟨[(6, .bp 0 0), (7, .bp 1 0), (8, .bp 2 0), (12, .bp 5 0), (13, .bp 6 0), (15, .bp 7 0), (45, .fn 86 [] [.ep [.i .i64 n1, .lst 112 (ks1.map trow) rm1]])], [[.i .i64 upTo], [.i .i64 again], [.ff], [.i .i64 n1, .lst 112 (ks1.map trow) rm1], [.i .i64 n1, .lst 120 (kd1.map drow) rd1], [.fn 86 [] [.ep [.i .i64 n1, .lst 112 (ks1.map trow) rm1]]], [.lst 9 (l.map srow) rm4], [.i .i64 (k : Nat)]], [], 131⟩) (fun k => k ≤ l.length) (Nat.zero_le _) (by
          (conv => whnf)
          rfl) rfl hsq (fun _ => rfl) (by simp) ?_ ?_
        · intro k x hx hk
          obtain ⟨c, hc, rfl⟩ := cubX_get hx
          have hcI : l[((k : Nat) : Int).toNat]? = some c := hc
          have hct := (hj0 c (List.mem_of_getElem? hc)).1.1
          have hkl : k < l.length := (List.getElem?_eq_some_iff.1 hc).1
          refine ⟨rfl, ?_⟩
          (conv => whnf)
          (try (conv => whnf)); repeat' (first | refine OkR.seq ?_ | refine OkL.cons ?_ | ((first | refine OkR.region tok ?_ | refine OkR.region_draw tok follows (by kernel_rfl) ?_ | refine OkR.cond ?_); conv => whnf) | refine OkR.block ?_ | ((first | refine OkR.skip ?_ | refine OkR.exit ?_ | refine OkR.ret ?_ | refine nI ?_ | refine ix _ (by assumption) ?_ | refine ixI (by omega) (by assumption) ?_ | refine ix_new _ (by omega) fun _ _ => ?_ | refine ixI_new (by omega) (by omega) fun _ _ => ?_ | refine ⟨_, by assumption, ?_⟩); conv => whnf) | (refine Or.inl ?_; (conv => whnf); (repeat (refine aI ?_; conv => whnf)); refine ⟨_, text_at c hct, rfl, ?_⟩; conv => whnf) | (refine ⟨_, text_at c hct, rfl, ?_⟩; conv => whnf) | (refine Or.inr (Or.inl ?_); (conv => whnf); (repeat (refine aI ?_; conv => whnf)); refine ⟨_, text_at c hct, ?_⟩; rintro _ _ ⟨rfl, rfl⟩; conv => whnf) | ((first | refine Alt2.l (aI ?_) | refine Alt2.r (aI ?_)); conv => whnf) | (refine OkR.scope ?_) | ((first | refine OkR.label ?_ | refine rd rfl (by assumption) ?_ | refine ⟨_, .inl ⟨rfl, rfl⟩, ?_⟩ | refine ⟨_, _, rfl, rfl, ?_⟩); conv => whnf) | (refine ⟨fun _ => ?_, fun _ => ?_⟩ <;> (conv => whnf) <;> (try (exfalso; omega))) | ((first | refine aJ ?_ | refine num_any ?_ | refine ⟨_, rfl, ?_⟩); conv => whnf) | fail)
          all_goals first
            | (exfalso; omega)
            | (rename_i h; exact absurd rfl h)
            | skip
          · refine OkR.range [6, 7, 8, 12, 13, 15, 17, 67, 137, 138, 139, 143, 144, 146, 176] 0 10 (fun j : Nat => ⟨[(6, .bp 0 0), (7, .bp 1 0), (8, .bp 2 0), (12, .bp 5 0), (13, .bp 6 0), (15, .bp 7 0), (17, .bp 9 0), (67, .fn 86 [] [.ep [.i .i64 n1, .lst 112 (ks1.map trow) rm1]]), (137, .bp 0 0), (138, .bp 1 0), (139, .bp 2 0), (143, .bp 5 0), (144, .bp 6 0), (146, .bp 7 0), (176, .fn 86 [] [.ep [.i .i64 n1, .lst 112 (ks1.map trow) rm1]])], [[.i .i64 upTo], [.i .i64 again], [.ff], [.i .i64 n1, .lst 112 (ks1.map trow) rm1], [.i .i64 n1, .lst 120 (kd1.map drow) rd1], [.fn 86 [] [.ep [.i .i64 n1, .lst 112 (ks1.map trow) rm1]]], [.lst 9 (l.map srow) rm4], [.i .i64 (k : Nat)], crow c, [.i .i64 (j : Nat)]], [], 131⟩) (fun j => j ≤ l.length) (Nat.zero_le _) (by
              (conv => whnf)
              rfl) rfl hsq (fun _ => rfl) (by simp) ?_ ?_
            · intro j y hy hj
              obtain ⟨d, hd, rfl⟩ := cubX_get hy
              have hdI : l[((j : Nat) : Int).toNat]? = some d := hd
              have hdt := (hj0 d (List.mem_of_getElem? hd)).1.1
              have hjl : j < l.length := (List.getElem?_eq_some_iff.1 hd).1
              refine ⟨rfl, ?_⟩
              (conv => whnf)
              (try (conv => whnf)); repeat' (first | refine OkR.seq ?_ | refine OkL.cons ?_ | ((first | refine OkR.region tok ?_ | refine OkR.region_draw tok follows (by kernel_rfl) ?_ | refine OkR.cond ?_); conv => whnf) | refine OkR.block ?_ | ((first | refine OkR.skip ?_ | refine OkR.exit ?_ | refine OkR.ret ?_ | refine nI ?_ | refine ix _ (by assumption) ?_ | refine ixI (by omega) (by assumption) ?_ | refine ix_new _ (by omega) fun _ _ => ?_ | refine ixI_new (by omega) (by omega) fun _ _ => ?_ | refine ⟨_, by assumption, ?_⟩); conv => whnf) | (refine Or.inl ?_; (conv => whnf); (repeat (refine aI ?_; conv => whnf)); refine ⟨_, text_at d hdt, rfl, ?_⟩; conv => whnf) | (refine ⟨_, text_at d hdt, rfl, ?_⟩; conv => whnf) | (refine Or.inr (Or.inl ?_); (conv => whnf); (repeat (refine aI ?_; conv => whnf)); refine ⟨_, text_at d hdt, ?_⟩; rintro _ _ ⟨rfl, rfl⟩; conv => whnf) | ((first | refine Alt2.l (aI ?_) | refine Alt2.r (aI ?_)); conv => whnf) | (refine OkR.scope ?_) | ((first | refine OkR.label ?_ | refine rd rfl (by assumption) ?_ | refine ⟨_, .inl ⟨rfl, rfl⟩, ?_⟩ | refine ⟨_, _, rfl, rfl, ?_⟩); conv => whnf) | (refine ⟨fun _ => ?_, fun _ => ?_⟩ <;> (conv => whnf) <;> (try (exfalso; omega))) | ((first | refine aJ ?_ | refine num_any ?_ | refine ⟨_, rfl, ?_⟩); conv => whnf) | fail)
              all_goals first
                | (exfalso; omega)
                | (rename_i h; exact absurd rfl h)
                | rfl
                | exact ⟨k + 1, ⟨.inr rfl, by omega, .inr (by omega)⟩, by first | rfl | ((conv => whnf); done) | ((conv => whnf); rfl)⟩
                | trace_state
            · intro _
              rw [cubX_len]
              (conv => whnf)
              (try (conv => whnf)); repeat' (first | refine OkR.seq ?_ | refine OkL.cons ?_ | ((first | refine OkR.region tok ?_ | refine OkR.region_draw tok follows (by kernel_rfl) ?_ | refine OkR.cond ?_); conv => whnf) | refine OkR.block ?_ | ((first | refine OkR.skip ?_ | refine OkR.exit ?_ | refine OkR.ret ?_ | refine nI ?_ | refine ix _ (by assumption) ?_ | refine ixI (by omega) (by assumption) ?_ | refine ix_new _ (by omega) fun _ _ => ?_ | refine ixI_new (by omega) (by omega) fun _ _ => ?_ | refine ⟨_, by assumption, ?_⟩ | refine Alt2.l (aI ?_) | refine Alt2.r (aI ?_)); conv => whnf) | (refine OkR.scope ?_) | ((first | refine OkR.label ?_ | refine rd rfl (by assumption) ?_ | refine ⟨_, .inl ⟨rfl, rfl⟩, ?_⟩ | refine ⟨_, _, rfl, rfl, ?_⟩); conv => whnf) | (refine ⟨fun _ => ?_, fun _ => ?_⟩ <;> (conv => whnf) <;> (try (exfalso; omega))) | ((first | refine aJ ?_ | refine num_any ?_ | refine ⟨_, rfl, ?_⟩); conv => whnf) | fail)
              all_goals first
                | (exfalso; omega)
                | rfl
                | exact ⟨k + 1, ⟨.inr rfl, by omega, .inr (by omega)⟩, by first | rfl | ((conv => whnf); done) | ((conv => whnf); rfl)⟩
                | trace_state
          · refine OkR.range [6, 7, 8, 12, 13, 15, 17, 67, 137, 138, 139, 143, 144, 146, 176] 0 10 (fun j : Nat => ⟨[(6, .bp 0 0), (7, .bp 1 0), (8, .bp 2 0), (12, .bp 5 0), (13, .bp 6 0), (15, .bp 7 0), (17, .bp 9 0), (67, .fn 86 [] [.ep [.i .i64 n1, .lst 112 (ks1.map trow) rm1]]), (137, .bp 0 0), (138, .bp 1 0), (139, .bp 2 0), (143, .bp 5 0), (144, .bp 6 0), (146, .bp 7 0), (176, .fn 86 [] [.ep [.i .i64 n1, .lst 112 (ks1.map trow) rm1]])], [[.i .i64 upTo], [.i .i64 again], [.ff], [.i .i64 n1, .lst 112 (ks1.map trow) rm1], [.i .i64 n1, .lst 120 (kd1.map drow) rd1], [.fn 86 [] [.ep [.i .i64 n1, .lst 112 (ks1.map trow) rm1]]], [.lst 9 (l.map srow) rm4], [.i .i64 (k : Nat)], crow c, [.i .i64 (j : Nat)]], [], 131⟩) (fun j => j ≤ l.length) (Nat.zero_le _) (by
              (conv => whnf)
              rfl) rfl hsq (fun _ => rfl) (by simp) ?_ ?_
            · intro j y hy hj
              obtain ⟨d, hd, rfl⟩ := cubX_get hy
              have hdI : l[((j : Nat) : Int).toNat]? = some d := hd
              have hdt := (hj0 d (List.mem_of_getElem? hd)).1.1
              have hjl : j < l.length := (List.getElem?_eq_some_iff.1 hd).1
              refine ⟨rfl, ?_⟩
              (conv => whnf)
              (try (conv => whnf)); repeat' (first | refine OkR.seq ?_ | refine OkL.cons ?_ | ((first | refine OkR.region tok ?_ | refine OkR.region_draw tok follows (by kernel_rfl) ?_ | refine OkR.cond ?_); conv => whnf) | refine OkR.block ?_ | ((first | refine OkR.skip ?_ | refine OkR.exit ?_ | refine OkR.ret ?_ | refine nI ?_ | refine ix _ (by assumption) ?_ | refine ixI (by omega) (by assumption) ?_ | refine ix_new _ (by omega) fun _ _ => ?_ | refine ixI_new (by omega) (by omega) fun _ _ => ?_ | refine ⟨_, by assumption, ?_⟩); conv => whnf) | (refine Or.inl ?_; (conv => whnf); (repeat (refine aI ?_; conv => whnf)); refine ⟨_, text_at d hdt, rfl, ?_⟩; conv => whnf) | (refine ⟨_, text_at d hdt, rfl, ?_⟩; conv => whnf) | (refine Or.inr (Or.inl ?_); (conv => whnf); (repeat (refine aI ?_; conv => whnf)); refine ⟨_, text_at d hdt, ?_⟩; rintro _ _ ⟨rfl, rfl⟩; conv => whnf) | ((first | refine Alt2.l (aI ?_) | refine Alt2.r (aI ?_)); conv => whnf) | (refine OkR.scope ?_) | ((first | refine OkR.label ?_ | refine rd rfl (by assumption) ?_ | refine ⟨_, .inl ⟨rfl, rfl⟩, ?_⟩ | refine ⟨_, _, rfl, rfl, ?_⟩); conv => whnf) | (refine ⟨fun _ => ?_, fun _ => ?_⟩ <;> (conv => whnf) <;> (try (exfalso; omega))) | ((first | refine aJ ?_ | refine num_any ?_ | refine ⟨_, rfl, ?_⟩); conv => whnf) | fail)
              all_goals first
                | (exfalso; omega)
                | (rename_i h; exact absurd rfl h)
                | rfl
                | exact ⟨k + 1, ⟨.inr rfl, by omega, .inr (by omega)⟩, by first | rfl | ((conv => whnf); done) | ((conv => whnf); rfl)⟩
                | trace_state
            · intro _
              rw [cubX_len]
              (conv => whnf)
              (try (conv => whnf)); repeat' (first | refine OkR.seq ?_ | refine OkL.cons ?_ | ((first | refine OkR.region tok ?_ | refine OkR.region_draw tok follows (by kernel_rfl) ?_ | refine OkR.cond ?_); conv => whnf) | refine OkR.block ?_ | ((first | refine OkR.skip ?_ | refine OkR.exit ?_ | refine OkR.ret ?_ | refine nI ?_ | refine ix _ (by assumption) ?_ | refine ixI (by omega) (by assumption) ?_ | refine ix_new _ (by omega) fun _ _ => ?_ | refine ixI_new (by omega) (by omega) fun _ _ => ?_ | refine ⟨_, by assumption, ?_⟩ | refine Alt2.l (aI ?_) | refine Alt2.r (aI ?_)); conv => whnf) | (refine OkR.scope ?_) | ((first | refine OkR.label ?_ | refine rd rfl (by assumption) ?_ | refine ⟨_, .inl ⟨rfl, rfl⟩, ?_⟩ | refine ⟨_, _, rfl, rfl, ?_⟩); conv => whnf) | (refine ⟨fun _ => ?_, fun _ => ?_⟩ <;> (conv => whnf) <;> (try (exfalso; omega))) | ((first | refine aJ ?_ | refine num_any ?_ | refine ⟨_, rfl, ?_⟩); conv => whnf) | fail)
              all_goals first
                | (exfalso; omega)
                | rfl
                | exact ⟨k + 1, ⟨.inr rfl, by omega, .inr (by omega)⟩, by first | rfl | ((conv => whnf); done) | ((conv => whnf); rfl)⟩
                | trace_state
          all_goals first
            | rfl
            | exact ⟨k + 1, ⟨.inr rfl, by omega, .inr (by omega)⟩, by first | rfl | ((conv => whnf); done) | ((conv => whnf); rfl)⟩
            | trace_state
        · intro _
          rw [cubX_len]
          (conv => whnf)
          exact ⟨_, ⟨.inl rfl, Nat.le_refl _, .inl rfl⟩, by first | rfl | ((conv => whnf); done) | ((conv => whnf); rfl)⟩
      · rintro e k ⟨he, hk, hend⟩
        rcases he with rfl | rfl
        · (conv => whnf)
          (try (conv => whnf)); repeat' (first | refine Ok.seq ?_ | refine OkL.cons ?_ | ((first | refine Ok.region tok ?_ | refine Ok.region_draw tok follows (by kernel_rfl) ?_ | refine Ok.cond ?_); conv => whnf) | refine Ok.block ?_ | ((first | refine Ok.skip ?_ | refine Ok.exit ?_ | refine Ok.ret ?_ | refine nI ?_ | refine ix _ (by assumption) ?_ | refine ixI (by omega) (by assumption) ?_ | refine ix_new _ (by omega) fun _ _ => ?_ | refine ixI_new (by omega) (by omega) fun _ _ => ?_ | refine ⟨_, by assumption, ?_⟩ | refine Alt2.l (aI ?_) | refine Alt2.r (aI ?_)); conv => whnf) | (refine Ok.scope ?_) | ((first | refine Ok.label ?_ | refine rd rfl (by assumption) ?_ | refine ⟨_, .inl ⟨rfl, rfl⟩, ?_⟩ | refine ⟨_, _, rfl, rfl, ?_⟩); conv => whnf) | (refine ⟨fun _ => ?_, fun _ => ?_⟩ <;> (conv => whnf) <;> (try (exfalso; omega))) | ((first | refine aJ ?_ | refine num_any ?_ | refine ⟨_, rfl, ?_⟩); conv => whnf) | fail)
          all_goals first
            | (exfalso; omega)
            | skip
          · refine Ok.range [6, 7, 8, 12, 13, 15, 110] 0 8 (fun k : Nat => ⟨[(6, .bp 0 0), (7, .bp 1 0), (8, .bp 2 0), (12, .bp 5 0), (13, .bp 6 0), (15, .bp 7 0), (110, .fn 86 [] [.ep [.i .i64 n1, .lst 112 (ks1.map trow) rm1]])], [[.i .i64 upTo], [.i .i64 again], [.ff], [.i .i64 n1, .lst 112 (ks1.map trow) rm1], [.i .i64 n1, .lst 120 (kd1.map drow) rd1], [.fn 86 [] [.ep [.i .i64 n1, .lst 112 (ks1.map trow) rm1]]], [.lst 9 (l.map srow) rm4], [.i .i64 (k : Nat)]], [], 131⟩) (fun k => k ≤ l.length) (Nat.zero_le _) (by
              (conv => whnf)
              rfl) rfl hsq (fun _ => rfl) (by simp) ?_ ?_
            · intro k x hx hk
              obtain ⟨c, hc, rfl⟩ := cubX_get hx
              have hcI : l[((k : Nat) : Int).toNat]? = some c := hc
              have hct := (hj0 c (List.mem_of_getElem? hc)).1.1
              have hkl : k < l.length := (List.getElem?_eq_some_iff.1 hc).1
              refine ⟨rfl, ?_⟩
              (conv => whnf)
              (try (conv => whnf)); repeat' (first | refine OkR.seq ?_ | refine OkL.cons ?_ | ((first | refine OkR.region tok ?_ | refine OkR.region_draw tok follows (by kernel_rfl) ?_ | refine OkR.cond ?_); conv => whnf) | refine OkR.block ?_ | ((first | refine OkR.skip ?_ | refine OkR.exit ?_ | refine OkR.ret ?_ | refine nI ?_ | refine ix _ (by assumption) ?_ | refine ixI (by omega) (by assumption) ?_ | refine ix_new _ (by omega) fun _ _ => ?_ | refine ixI_new (by omega) (by omega) fun _ _ => ?_ | refine ⟨_, by assumption, ?_⟩); conv => whnf) | (refine Or.inl ?_; (conv => whnf); (repeat (refine aI ?_; conv => whnf)); refine ⟨_, text_at c hct, rfl, ?_⟩; conv => whnf) | (refine ⟨_, text_at c hct, rfl, ?_⟩; conv => whnf) | (refine Or.inr (Or.inl ?_); (conv => whnf); (repeat (refine aI ?_; conv => whnf)); refine ⟨_, text_at c hct, ?_⟩; rintro _ _ ⟨rfl, rfl⟩; conv => whnf) | ((first | refine Alt2.l (aI ?_) | refine Alt2.r (aI ?_)); conv => whnf) | (refine OkR.scope ?_) | ((first | refine OkR.label ?_ | refine rd rfl (by assumption) ?_ | refine ⟨_, .inl ⟨rfl, rfl⟩, ?_⟩ | refine ⟨_, _, rfl, rfl, ?_⟩); conv => whnf) | (refine ⟨fun _ => ?_, fun _ => ?_⟩ <;> (conv => whnf) <;> (try (exfalso; omega))) | ((first | refine aJ ?_ | refine num_any ?_ | refine ⟨_, rfl, ?_⟩); conv => whnf) | fail)
              all_goals first
                | (exfalso; omega)
                | (rename_i h; exact absurd rfl h)
                | rfl
                | trace_state
            · intro _
              rw [cubX_len]
              (conv => whnf)
              (try (conv => whnf)); repeat' (first | refine Ok.seq ?_ | refine OkL.cons ?_ | ((first | refine Ok.region tok ?_ | refine Ok.region_draw tok follows (by kernel_rfl) ?_ | refine Ok.cond ?_); conv => whnf) | refine Ok.block ?_ | ((first | refine Ok.skip ?_ | refine Ok.exit ?_ | refine Ok.ret ?_ | refine nI ?_ | refine ix _ (by assumption) ?_ | refine ixI (by omega) (by assumption) ?_ | refine ix_new _ (by omega) fun _ _ => ?_ | refine ixI_new (by omega) (by omega) fun _ _ => ?_ | refine ⟨_, by assumption, ?_⟩ | refine Alt2.l (aI ?_) | refine Alt2.r (aI ?_)); conv => whnf) | (refine Ok.scope ?_) | ((first | refine Ok.label ?_ | refine rd rfl (by assumption) ?_ | refine ⟨_, .inl ⟨rfl, rfl⟩, ?_⟩ | refine ⟨_, _, rfl, rfl, ?_⟩); conv => whnf) | (refine ⟨fun _ => ?_, fun _ => ?_⟩ <;> (conv => whnf) <;> (try (exfalso; omega))) | ((first | refine aJ ?_ | refine num_any ?_ | refine ⟨_, rfl, ?_⟩); conv => whnf) | fail)
              all_goals first
                | (exfalso; omega)
                | (refine Or.inl ?_; (conv => whnf)
                   show D.b _ = D.b True
                   congr 1
                   exact propext ⟨fun _ => trivial, fun _ => by omega⟩)
                | trace_state
          · refine Ok.range [6, 7, 8, 12, 13, 15, 110] 0 8 (fun k : Nat => ⟨[(6, .bp 0 0), (7, .bp 1 0), (8, .bp 2 0), (12, .bp 5 0), (13, .bp 6 0), (15, .bp 7 0), (110, .fn 86 [] [.ep [.i .i64 n1, .lst 112 (ks1.map trow) rm1]])], [[.i .i64 upTo], [.i .i64 again], [.ff], [.i .i64 n1, .lst 112 (ks1.map trow) rm1], [.i .i64 n1, .lst 120 (kd1.map drow) rd1], [.fn 86 [] [.ep [.i .i64 n1, .lst 112 (ks1.map trow) rm1]]], [.lst 9 (l.map srow) rm4], [.i .i64 (k : Nat)]], [], 131⟩) (fun k => k ≤ l.length) (Nat.zero_le _) (by
              (conv => whnf)
              rfl) rfl hsq (fun _ => rfl) (by simp) ?_ ?_
            · intro k x hx hk
              obtain ⟨c, hc, rfl⟩ := cubX_get hx
              have hcI : l[((k : Nat) : Int).toNat]? = some c := hc
              have hct := (hj0 c (List.mem_of_getElem? hc)).1.1
              have hkl : k < l.length := (List.getElem?_eq_some_iff.1 hc).1
              refine ⟨rfl, ?_⟩
              (conv => whnf)
              (try (conv => whnf)); repeat' (first | refine OkR.seq ?_ | refine OkL.cons ?_ | ((first | refine OkR.region tok ?_ | refine OkR.region_draw tok follows (by kernel_rfl) ?_ | refine OkR.cond ?_); conv => whnf) | refine OkR.block ?_ | ((first | refine OkR.skip ?_ | refine OkR.exit ?_ | refine OkR.ret ?_ | refine nI ?_ | refine ix _ (by assumption) ?_ | refine ixI (by omega) (by assumption) ?_ | refine ix_new _ (by omega) fun _ _ => ?_ | refine ixI_new (by omega) (by omega) fun _ _ => ?_ | refine ⟨_, by assumption, ?_⟩); conv => whnf) | (refine Or.inl ?_; (conv => whnf); (repeat (refine aI ?_; conv => whnf)); refine ⟨_, text_at c hct, rfl, ?_⟩; conv => whnf) | (refine ⟨_, text_at c hct, rfl, ?_⟩; conv => whnf) | (refine Or.inr (Or.inl ?_); (conv => whnf); (repeat (refine aI ?_; conv => whnf)); refine ⟨_, text_at c hct, ?_⟩; rintro _ _ ⟨rfl, rfl⟩; conv => whnf) | ((first | refine Alt2.l (aI ?_) | refine Alt2.r (aI ?_)); conv => whnf) | (refine OkR.scope ?_) | ((first | refine OkR.label ?_ | refine rd rfl (by assumption) ?_ | refine ⟨_, .inl ⟨rfl, rfl⟩, ?_⟩ | refine ⟨_, _, rfl, rfl, ?_⟩); conv => whnf) | (refine ⟨fun _ => ?_, fun _ => ?_⟩ <;> (conv => whnf) <;> (try (exfalso; omega))) | ((first | refine aJ ?_ | refine num_any ?_ | refine ⟨_, rfl, ?_⟩); conv => whnf) | fail)
              all_goals first
                | (exfalso; omega)
                | (rename_i h; exact absurd rfl h)
                | rfl
                | trace_state
            · intro _
              rw [cubX_len]
              (conv => whnf)
              (try (conv => whnf)); repeat' (first | refine Ok.seq ?_ | refine OkL.cons ?_ | ((first | refine Ok.region tok ?_ | refine Ok.region_draw tok follows (by kernel_rfl) ?_ | refine Ok.cond ?_); conv => whnf) | refine Ok.block ?_ | ((first | refine Ok.skip ?_ | refine Ok.exit ?_ | refine Ok.ret ?_ | refine nI ?_ | refine ix _ (by assumption) ?_ | refine ixI (by omega) (by assumption) ?_ | refine ix_new _ (by omega) fun _ _ => ?_ | refine ixI_new (by omega) (by omega) fun _ _ => ?_ | refine ⟨_, by assumption, ?_⟩ | refine Alt2.l (aI ?_) | refine Alt2.r (aI ?_)); conv => whnf) | (refine Ok.scope ?_) | ((first | refine Ok.label ?_ | refine rd rfl (by assumption) ?_ | refine ⟨_, .inl ⟨rfl, rfl⟩, ?_⟩ | refine ⟨_, _, rfl, rfl, ?_⟩); conv => whnf) | (refine ⟨fun _ => ?_, fun _ => ?_⟩ <;> (conv => whnf) <;> (try (exfalso; omega))) | ((first | refine aJ ?_ | refine num_any ?_ | refine ⟨_, rfl, ?_⟩); conv => whnf) | fail)
              all_goals first
                | (exfalso; omega)
                | (refine Or.inl ?_; (conv => whnf)
                   show D.b _ = D.b True
                   congr 1
                   exact propext ⟨fun _ => trivial, fun _ => by omega⟩)
                | trace_state
        · (conv => whnf)
          (try (conv => whnf)); repeat' (first | refine Ok.seq ?_ | refine OkL.cons ?_ | ((first | refine Ok.region tok ?_ | refine Ok.region_draw tok follows (by kernel_rfl) ?_ | refine Ok.cond ?_); conv => whnf) | refine Ok.block ?_ | ((first | refine Ok.skip ?_ | refine Ok.exit ?_ | refine Ok.ret ?_ | refine nI ?_ | refine ix _ (by assumption) ?_ | refine ixI (by omega) (by assumption) ?_ | refine ix_new _ (by omega) fun _ _ => ?_ | refine ixI_new (by omega) (by omega) fun _ _ => ?_ | refine ⟨_, by assumption, ?_⟩ | refine Alt2.l (aI ?_) | refine Alt2.r (aI ?_)); conv => whnf) | (refine Ok.scope ?_) | ((first | refine Ok.label ?_ | refine rd rfl (by assumption) ?_ | refine ⟨_, .inl ⟨rfl, rfl⟩, ?_⟩ | refine ⟨_, _, rfl, rfl, ?_⟩); conv => whnf) | (refine ⟨fun _ => ?_, fun _ => ?_⟩ <;> (conv => whnf) <;> (try (exfalso; omega))) | ((first | refine aJ ?_ | refine num_any ?_ | refine ⟨_, rfl, ?_⟩); conv => whnf) | fail)
          all_goals first
            | (exfalso; omega)
            | skip
          · refine Ok.range [6, 7, 8, 12, 13, 15, 110] 0 8 (fun k : Nat => ⟨[(6, .bp 0 0), (7, .bp 1 0), (8, .bp 2 0), (12, .bp 5 0), (13, .bp 6 0), (15, .bp 7 0), (110, .fn 86 [] [.ep [.i .i64 n1, .lst 112 (ks1.map trow) rm1]])], [[.i .i64 upTo], [.i .i64 again], [.ff], [.i .i64 n1, .lst 112 (ks1.map trow) rm1], [.i .i64 n1, .lst 120 (kd1.map drow) rd1], [.fn 86 [] [.ep [.i .i64 n1, .lst 112 (ks1.map trow) rm1]]], [.lst 9 (l.map srow) rm4], [.i .i64 (k : Nat)]], [], 131⟩) (fun k => k ≤ l.length) (Nat.zero_le _) (by
              (conv => whnf)
              rfl) rfl hsq (fun _ => rfl) (by simp) ?_ ?_
            · intro k x hx hk
              obtain ⟨c, hc, rfl⟩ := cubX_get hx
              have hcI : l[((k : Nat) : Int).toNat]? = some c := hc
              have hct := (hj0 c (List.mem_of_getElem? hc)).1.1
              have hkl : k < l.length := (List.getElem?_eq_some_iff.1 hc).1
              refine ⟨rfl, ?_⟩
              (conv => whnf)
              (try (conv => whnf)); repeat' (first | refine OkR.seq ?_ | refine OkL.cons ?_ | ((first | refine OkR.region tok ?_ | refine OkR.region_draw tok follows (by kernel_rfl) ?_ | refine OkR.cond ?_); conv => whnf) | refine OkR.block ?_ | ((first | refine OkR.skip ?_ | refine OkR.exit ?_ | refine OkR.ret ?_ | refine nI ?_ | refine ix _ (by assumption) ?_ | refine ixI (by omega) (by assumption) ?_ | refine ix_new _ (by omega) fun _ _ => ?_ | refine ixI_new (by omega) (by omega) fun _ _ => ?_ | refine ⟨_, by assumption, ?_⟩); conv => whnf) | (refine Or.inl ?_; (conv => whnf); (repeat (refine aI ?_; conv => whnf)); refine ⟨_, text_at c hct, rfl, ?_⟩; conv => whnf) | (refine ⟨_, text_at c hct, rfl, ?_⟩; conv => whnf) | (refine Or.inr (Or.inl ?_); (conv => whnf); (repeat (refine aI ?_; conv => whnf)); refine ⟨_, text_at c hct, ?_⟩; rintro _ _ ⟨rfl, rfl⟩; conv => whnf) | ((first | refine Alt2.l (aI ?_) | refine Alt2.r (aI ?_)); conv => whnf) | (refine OkR.scope ?_) | ((first | refine OkR.label ?_ | refine rd rfl (by assumption) ?_ | refine ⟨_, .inl ⟨rfl, rfl⟩, ?_⟩ | refine ⟨_, _, rfl, rfl, ?_⟩); conv => whnf) | (refine ⟨fun _ => ?_, fun _ => ?_⟩ <;> (conv => whnf) <;> (try (exfalso; omega))) | ((first | refine aJ ?_ | refine num_any ?_ | refine ⟨_, rfl, ?_⟩); conv => whnf) | fail)
              all_goals first
                | (exfalso; omega)
                | (rename_i h; exact absurd rfl h)
                | rfl
                | trace_state
            · intro _
              rw [cubX_len]
              (conv => whnf)
              (try (conv => whnf)); repeat' (first | refine Ok.seq ?_ | refine OkL.cons ?_ | ((first | refine Ok.region tok ?_ | refine Ok.region_draw tok follows (by kernel_rfl) ?_ | refine Ok.cond ?_); conv => whnf) | refine Ok.block ?_ | ((first | refine Ok.skip ?_ | refine Ok.exit ?_ | refine Ok.ret ?_ | refine nI ?_ | refine ix _ (by assumption) ?_ | refine ixI (by omega) (by assumption) ?_ | refine ix_new _ (by omega) fun _ _ => ?_ | refine ixI_new (by omega) (by omega) fun _ _ => ?_ | refine ⟨_, by assumption, ?_⟩ | refine Alt2.l (aI ?_) | refine Alt2.r (aI ?_)); conv => whnf) | (refine Ok.scope ?_) | ((first | refine Ok.label ?_ | refine rd rfl (by assumption) ?_ | refine ⟨_, .inl ⟨rfl, rfl⟩, ?_⟩ | refine ⟨_, _, rfl, rfl, ?_⟩); conv => whnf) | (refine ⟨fun _ => ?_, fun _ => ?_⟩ <;> (conv => whnf) <;> (try (exfalso; omega))) | ((first | refine aJ ?_ | refine num_any ?_ | refine ⟨_, rfl, ?_⟩); conv => whnf) | fail)
              all_goals first
                | (exfalso; omega)
                | (refine Or.inl ?_; (conv => whnf)
                   show D.b _ = D.b True
                   congr 1
                   exact propext ⟨fun _ => trivial, fun _ => by omega⟩)
                | trace_state
          · refine Ok.range [6, 7, 8, 12, 13, 15, 110] 0 8 (fun k : Nat => ⟨[(6, .bp 0 0), (7, .bp 1 0), (8, .bp 2 0), (12, .bp 5 0), (13, .bp 6 0), (15, .bp 7 0), (110, .fn 86 [] [.ep [.i .i64 n1, .lst 112 (ks1.map trow) rm1]])], [[.i .i64 upTo], [.i .i64 again], [.ff], [.i .i64 n1, .lst 112 (ks1.map trow) rm1], [.i .i64 n1, .lst 120 (kd1.map drow) rd1], [.fn 86 [] [.ep [.i .i64 n1, .lst 112 (ks1.map trow) rm1]]], [.lst 9 (l.map srow) rm4], [.i .i64 (k : Nat)]], [], 131⟩) (fun k => k ≤ l.length) (Nat.zero_le _) (by
              (conv => whnf)
              rfl) rfl hsq (fun _ => rfl) (by simp) ?_ ?_
            · intro k x hx hk
              obtain ⟨c, hc, rfl⟩ := cubX_get hx
              have hcI : l[((k : Nat) : Int).toNat]? = some c := hc
              have hct := (hj0 c (List.mem_of_getElem? hc)).1.1
              have hkl : k < l.length := (List.getElem?_eq_some_iff.1 hc).1
              refine ⟨rfl, ?_⟩
              (conv => whnf)
              (try (conv => whnf)); repeat' (first | refine OkR.seq ?_ | refine OkL.cons ?_ | ((first | refine OkR.region tok ?_ | refine OkR.region_draw tok follows (by kernel_rfl) ?_ | refine OkR.cond ?_); conv => whnf) | refine OkR.block ?_ | ((first | refine OkR.skip ?_ | refine OkR.exit ?_ | refine OkR.ret ?_ | refine nI ?_ | refine ix _ (by assumption) ?_ | refine ixI (by omega) (by assumption) ?_ | refine ix_new _ (by omega) fun _ _ => ?_ | refine ixI_new (by omega) (by omega) fun _ _ => ?_ | refine ⟨_, by assumption, ?_⟩); conv => whnf) | (refine Or.inl ?_; (conv => whnf); (repeat (refine aI ?_; conv => whnf)); refine ⟨_, text_at c hct, rfl, ?_⟩; conv => whnf) | (refine ⟨_, text_at c hct, rfl, ?_⟩; conv => whnf) | (refine Or.inr (Or.inl ?_); (conv => whnf); (repeat (refine aI ?_; conv => whnf)); refine ⟨_, text_at c hct, ?_⟩; rintro _ _ ⟨rfl, rfl⟩; conv => whnf) | ((first | refine Alt2.l (aI ?_) | refine Alt2.r (aI ?_)); conv => whnf) | (refine OkR.scope ?_) | ((first | refine OkR.label ?_ | refine rd rfl (by assumption) ?_ | refine ⟨_, .inl ⟨rfl, rfl⟩, ?_⟩ | refine ⟨_, _, rfl, rfl, ?_⟩); conv => whnf) | (refine ⟨fun _ => ?_, fun _ => ?_⟩ <;> (conv => whnf) <;> (try (exfalso; omega))) | ((first | refine aJ ?_ | refine num_any ?_ | refine ⟨_, rfl, ?_⟩); conv => whnf) | fail)
              all_goals first
                | (exfalso; omega)
                | (rename_i h; exact absurd rfl h)
                | rfl
                | trace_state
            · intro _
              rw [cubX_len]
              (conv => whnf)
              (try (conv => whnf)); repeat' (first | refine Ok.seq ?_ | refine OkL.cons ?_ | ((first | refine Ok.region tok ?_ | refine Ok.region_draw tok follows (by kernel_rfl) ?_ | refine Ok.cond ?_); conv => whnf) | refine Ok.block ?_ | ((first | refine Ok.skip ?_ | refine Ok.exit ?_ | refine Ok.ret ?_ | refine nI ?_ | refine ix _ (by assumption) ?_ | refine ixI (by omega) (by assumption) ?_ | refine ix_new _ (by omega) fun _ _ => ?_ | refine ixI_new (by omega) (by omega) fun _ _ => ?_ | refine ⟨_, by assumption, ?_⟩ | refine Alt2.l (aI ?_) | refine Alt2.r (aI ?_)); conv => whnf) | (refine Ok.scope ?_) | ((first | refine Ok.label ?_ | refine rd rfl (by assumption) ?_ | refine ⟨_, .inl ⟨rfl, rfl⟩, ?_⟩ | refine ⟨_, _, rfl, rfl, ?_⟩); conv => whnf) | (refine ⟨fun _ => ?_, fun _ => ?_⟩ <;> (conv => whnf) <;> (try (exfalso; omega))) | ((first | refine aJ ?_ | refine num_any ?_ | refine ⟨_, rfl, ?_⟩); conv => whnf) | fail)
              all_goals first
                | (exfalso; omega)
                | (refine Or.inl ?_; (conv => whnf)
                   show D.b _ = D.b True
                   congr 1
                   exact propext ⟨fun _ => trivial, fun _ => by omega⟩)
                | trace_state
    
    · (try (conv => whnf)); repeat' (first | (refine And.intro (FnT.mk (by kernel_rfl)) ?_; (conv => whnf)) | refine Ok.seq ?_ | refine OkL.cons ?_ | ((first | refine Ok.region tok ?_ | refine Ok.region_draw tok follows (by kernel_rfl) ?_ | refine Ok.cond ?_); conv => whnf) | refine Ok.block ?_ | ((first | refine Ok.skip ?_ | refine Ok.exit ?_ | refine Ok.ret ?_ | refine nI ?_ | refine ix _ (by assumption) ?_ | refine ixI (by omega) (by assumption) ?_ | refine ix_new _ (by omega) fun _ _ => ?_ | refine ixI_new (by omega) (by omega) fun _ _ => ?_ | refine ⟨_, by assumption, ?_⟩); conv => whnf) | (refine Or.inr (Or.inl ?_); (conv => whnf); (repeat (refine aI ?_; conv => whnf)); refine ⟨_, r1 , ?_⟩; rintro _ _ ⟨rfl, ks1, kd1, rm1, rd1, rfl, h1, h1d⟩ <;> (conv => whnf)) | (refine Or.inr (Or.inl ?_); (conv => whnf); (repeat (refine aI ?_; conv => whnf)); refine ⟨_, cubes_at ks1 rm1, ?_⟩; rintro _ _ ⟨rfl, rfl⟩ <;> (conv => whnf)) | (refine Or.inr (Or.inl ?_); (conv => whnf); (repeat (refine aI ?_; conv => whnf)); refine ⟨_, e3 kd1 rd1 h1d , ?_⟩; rintro _ _ ⟨rfl, rm4, rfl⟩ <;> (conv => whnf)) | ((first | refine Alt2.l (aI ?_) | refine Alt2.r (aI ?_)); conv => whnf) | (refine Ok.scope ?_) | ((first | refine Ok.label ?_ | refine rd rfl (by assumption) ?_ | refine ⟨_, .inl ⟨rfl, rfl⟩, ?_⟩ | refine ⟨_, _, rfl, rfl, ?_⟩); conv => whnf) | (refine ⟨fun _ => ?_, fun _ => ?_⟩ <;> (conv => whnf) <;> (try (exfalso; omega))) | ((first | refine aJ ?_ | refine num_any ?_ | refine ⟨_, rfl, ?_⟩); conv => whnf) | fail)
      all_goals first
        | exact absurd trivial (by assumption)
        | (refine Or.inl ?_; (conv => whnf)
           rfl)
        | (rename_i h; exact absurd hx h)
        | exact absurd hn (by assumption)
  · have hts : allX ts = [] := by
      cases ts with
      | nil => rfl
      | cons t r =>
        have hg := hf.good t (by simp)
        have h1 : t.p.length = n1.toNat := hg.ok.p
        exact absurd (List.eq_nil_of_length_eq_zero (by omega)) hg.p.2
    rw [hts] at hseq
    clear hj0 hjl hall
    have hj0 : AllW n1.toNat ([] : List Str) := fun c hc => by simp at hc
    (try (conv => whnf)); repeat' (first | (refine And.intro (FnT.mk (by kernel_rfl)) ?_; (conv => whnf)) | refine Ok.seq ?_ | refine OkL.cons ?_ | ((first | refine Ok.region tok ?_ | refine Ok.region_draw tok follows (by kernel_rfl) ?_ | refine Ok.cond ?_); conv => whnf) | refine Ok.block ?_ | ((first | refine Ok.skip ?_ | refine Ok.exit ?_ | refine Ok.ret ?_ | refine nI ?_ | refine ix _ (by assumption) ?_ | refine ixI (by omega) (by assumption) ?_ | refine ix_new _ (by omega) fun _ _ => ?_ | refine ixI_new (by omega) (by omega) fun _ _ => ?_ | refine ⟨_, by assumption, ?_⟩); conv => whnf) | (refine Or.inr (Or.inl ?_); (conv => whnf); (repeat (refine aI ?_; conv => whnf)); refine ⟨_, r1 , ?_⟩; rintro _ _ ⟨rfl, ks1, kd1, rm1, rd1, rfl, h1, h1d⟩ <;> (conv => whnf)) | (refine Or.inr (Or.inl ?_); (conv => whnf); (repeat (refine aI ?_; conv => whnf)); refine ⟨_, cubes_at ks1 rm1, ?_⟩; rintro _ _ ⟨rfl, rfl⟩ <;> (conv => whnf)) | ((first | refine Alt2.l (aI ?_) | refine Alt2.r (aI ?_)); conv => whnf) | (refine Ok.scope ?_) | ((first | refine Ok.label ?_ | refine rd rfl (by assumption) ?_ | refine ⟨_, .inl ⟨rfl, rfl⟩, ?_⟩ | refine ⟨_, _, rfl, rfl, ?_⟩); conv => whnf) | (refine ⟨fun _ => ?_, fun _ => ?_⟩ <;> (conv => whnf) <;> (try (exfalso; omega))) | ((first | refine aJ ?_ | refine num_any ?_ | refine ⟨_, rfl, ?_⟩); conv => whnf) | fail)
    all_goals first
      | exact absurd trivial (by assumption)
      | exact absurd (by assumption) hn
      | (rename_i h; exact absurd rfl h)
      | skip
    have hsq := hseq ks1 rm1 h1
    refine Ok.nilC 6 0 9 rfl rfl ?_
    (conv => whnf)
    have hlm : (([] : List Str).map srow).length = ([] : List Str).length := by simp
    refine Ok.joinK [6, 7, 8, 12, 13, 15] 0 8 (fun k : Nat => ⟨[(6, .bp 0 0), (7, .bp 1 0), (8, .bp 2 0), (12, .bp 5 0), (13, .bp 6 0), (15, .bp 7 0)], [[.i .i64 upTo], [.i .i64 again], [.ff], [.i .i64 n1, .lst 112 (ks1.map trow) rm1], [.i .i64 n1, .lst 120 (kd1.map drow) rd1], [.fn 86 [] [.ep [.i .i64 n1, .lst 112 (ks1.map trow) rm1]]], [.lst 9 (([] : List Str).map srow) []], [.i .i64 (k : Nat)]], [], 131⟩) (fun e k => (e = .normal ∨ e = .exit 0) ∧ k ≤ ([] : List Str).length ∧ (k = ([] : List Str).length ∨ upTo ≤ (k : Int))) ?_ ?_
    · refine Ok.range [6, 7, 8, 12, 13, 15, 45] 0 8 (fun k : Nat => ⟨[(6, .bp 0 0), (7, .bp 1 0), (8, .bp 2 0), (12, .bp 5 0), (13, .bp 6 0), (15, .bp 7 0), (45, .fn 86 [] [.ep [.i .i64 n1, .lst 112 (ks1.map trow) rm1]])], [[.i .i64 upTo], [.i .i64 again], [.ff], [.i .i64 n1, .lst 112 (ks1.map trow) rm1], [.i .i64 n1, .lst 120 (kd1.map drow) rd1], [.fn 86 [] [.ep [.i .i64 n1, .lst 112 (ks1.map trow) rm1]]], [.lst 9 (([] : List Str).map srow) []], [.i .i64 (k : Nat)]], [], 131⟩) (fun k => k ≤ ([] : List Str).length) (Nat.zero_le _) (by
        (conv => whnf)
        rfl) rfl hsq (fun _ => rfl) (by simp) ?_ ?_
      · intro k x hx hk
        obtain ⟨c, hc, rfl⟩ := cubX_get hx
        simp at hc
      · intro _
        rw [cubX_len]
        (conv => whnf)
        exact ⟨_, ⟨.inl rfl, Nat.le_refl _, .inl rfl⟩, by first | rfl | ((conv => whnf); done) | ((conv => whnf); rfl)⟩
    · rintro e k ⟨he, hk, hend⟩
      rcases he with rfl | rfl
      · (conv => whnf)
        (try (conv => whnf)); repeat' (first | refine Ok.seq ?_ | refine OkL.cons ?_ | ((first | refine Ok.region tok ?_ | refine Ok.region_draw tok follows (by kernel_rfl) ?_ | refine Ok.cond ?_); conv => whnf) | refine Ok.block ?_ | ((first | refine Ok.skip ?_ | refine Ok.exit ?_ | refine Ok.ret ?_ | refine nI ?_ | refine ix _ (by assumption) ?_ | refine ixI (by omega) (by assumption) ?_ | refine ix_new _ (by omega) fun _ _ => ?_ | refine ixI_new (by omega) (by omega) fun _ _ => ?_ | refine ⟨_, by assumption, ?_⟩ | refine Alt2.l (aI ?_) | refine Alt2.r (aI ?_)); conv => whnf) | (refine Ok.scope ?_) | ((first | refine Ok.label ?_ | refine rd rfl (by assumption) ?_ | refine ⟨_, .inl ⟨rfl, rfl⟩, ?_⟩ | refine ⟨_, _, rfl, rfl, ?_⟩); conv => whnf) | (refine ⟨fun _ => ?_, fun _ => ?_⟩ <;> (conv => whnf) <;> (try (exfalso; omega))) | ((first | refine aJ ?_ | refine num_any ?_ | refine ⟨_, rfl, ?_⟩); conv => whnf) | fail)
        all_goals first
          | (exfalso; omega)
          | skip
        · refine Ok.range [6, 7, 8, 12, 13, 15, 110] 0 8 (fun k : Nat => ⟨[(6, .bp 0 0), (7, .bp 1 0), (8, .bp 2 0), (12, .bp 5 0), (13, .bp 6 0), (15, .bp 7 0), (110, .fn 86 [] [.ep [.i .i64 n1, .lst 112 (ks1.map trow) rm1]])], [[.i .i64 upTo], [.i .i64 again], [.ff], [.i .i64 n1, .lst 112 (ks1.map trow) rm1], [.i .i64 n1, .lst 120 (kd1.map drow) rd1], [.fn 86 [] [.ep [.i .i64 n1, .lst 112 (ks1.map trow) rm1]]], [.lst 9 (([] : List Str).map srow) []], [.i .i64 (k : Nat)]], [], 131⟩) (fun k => k ≤ ([] : List Str).length) (Nat.zero_le _) (by
            (conv => whnf)
            rfl) rfl hsq (fun _ => rfl) (by simp) ?_ ?_
          · intro k x hx hk
            obtain ⟨c, hc, rfl⟩ := cubX_get hx
            simp at hc
          · intro _
            rw [cubX_len]
            (conv => whnf)
            (try (conv => whnf)); repeat' (first | refine Ok.seq ?_ | refine OkL.cons ?_ | ((first | refine Ok.region tok ?_ | refine Ok.region_draw tok follows (by kernel_rfl) ?_ | refine Ok.cond ?_); conv => whnf) | refine Ok.block ?_ | ((first | refine Ok.skip ?_ | refine Ok.exit ?_ | refine Ok.ret ?_ | refine nI ?_ | refine ix _ (by assumption) ?_ | refine ixI (by omega) (by assumption) ?_ | refine ix_new _ (by omega) fun _ _ => ?_ | refine ixI_new (by omega) (by omega) fun _ _ => ?_ | refine ⟨_, by assumption, ?_⟩ | refine Alt2.l (aI ?_) | refine Alt2.r (aI ?_)); conv => whnf) | (refine Ok.scope ?_) | ((first | refine Ok.label ?_ | refine rd rfl (by assumption) ?_ | refine ⟨_, .inl ⟨rfl, rfl⟩, ?_⟩ | refine ⟨_, _, rfl, rfl, ?_⟩); conv => whnf) | (refine ⟨fun _ => ?_, fun _ => ?_⟩ <;> (conv => whnf) <;> (try (exfalso; omega))) | ((first | refine aJ ?_ | refine num_any ?_ | refine ⟨_, rfl, ?_⟩); conv => whnf) | fail)
            all_goals first
              | (exfalso; omega)
              | (refine Or.inl ?_; (conv => whnf)
                 show D.b _ = D.b True
                 congr 1
                 exact propext ⟨fun _ => trivial, fun _ => by omega⟩)
              | trace_state
        · refine Ok.range [6, 7, 8, 12, 13, 15, 110] 0 8 (fun k : Nat => ⟨[(6, .bp 0 0), (7, .bp 1 0), (8, .bp 2 0), (12, .bp 5 0), (13, .bp 6 0), (15, .bp 7 0), (110, .fn 86 [] [.ep [.i .i64 n1, .lst 112 (ks1.map trow) rm1]])], [[.i .i64 upTo], [.i .i64 again], [.ff], [.i .i64 n1, .lst 112 (ks1.map trow) rm1], [.i .i64 n1, .lst 120 (kd1.map drow) rd1], [.fn 86 [] [.ep [.i .i64 n1, .lst 112 (ks1.map trow) rm1]]], [.lst 9 (([] : List Str).map srow) []], [.i .i64 (k : Nat)]], [], 131⟩) (fun k => k ≤ ([] : List Str).length) (Nat.zero_le _) (by
            (conv => whnf)
            rfl) rfl hsq (fun _ => rfl) (by simp) ?_ ?_
          · intro k x hx hk
            obtain ⟨c, hc, rfl⟩ := cubX_get hx
            simp at hc
          · intro _
            rw [cubX_len]
            (conv => whnf)
            (try (conv => whnf)); repeat' (first | refine Ok.seq ?_ | refine OkL.cons ?_ | ((first | refine Ok.region tok ?_ | refine Ok.region_draw tok follows (by kernel_rfl) ?_ | refine Ok.cond ?_); conv => whnf) | refine Ok.block ?_ | ((first | refine Ok.skip ?_ | refine Ok.exit ?_ | refine Ok.ret ?_ | refine nI ?_ | refine ix _ (by assumption) ?_ | refine ixI (by omega) (by assumption) ?_ | refine ix_new _ (by omega) fun _ _ => ?_ | refine ixI_new (by omega) (by omega) fun _ _ => ?_ | refine ⟨_, by assumption, ?_⟩ | refine Alt2.l (aI ?_) | refine Alt2.r (aI ?_)); conv => whnf) | (refine Ok.scope ?_) | ((first | refine Ok.label ?_ | refine rd rfl (by assumption) ?_ | refine ⟨_, .inl ⟨rfl, rfl⟩, ?_⟩ | refine ⟨_, _, rfl, rfl, ?_⟩); conv => whnf) | (refine ⟨fun _ => ?_, fun _ => ?_⟩ <;> (conv => whnf) <;> (try (exfalso; omega))) | ((first | refine aJ ?_ | refine num_any ?_ | refine ⟨_, rfl, ?_⟩); conv => whnf) | fail)
            all_goals first
              | (exfalso; omega)
              | (refine Or.inl ?_; (conv => whnf)
                 show D.b _ = D.b True
                 congr 1
                 exact propext ⟨fun _ => trivial, fun _ => by omega⟩)
              | trace_state
      · (conv => whnf)
        (try (conv => whnf)); repeat' (first | refine Ok.seq ?_ | refine OkL.cons ?_ | ((first | refine Ok.region tok ?_ | refine Ok.region_draw tok follows (by kernel_rfl) ?_ | refine Ok.cond ?_); conv => whnf) | refine Ok.block ?_ | ((first | refine Ok.skip ?_ | refine Ok.exit ?_ | refine Ok.ret ?_ | refine nI ?_ | refine ix _ (by assumption) ?_ | refine ixI (by omega) (by assumption) ?_ | refine ix_new _ (by omega) fun _ _ => ?_ | refine ixI_new (by omega) (by omega) fun _ _ => ?_ | refine ⟨_, by assumption, ?_⟩ | refine Alt2.l (aI ?_) | refine Alt2.r (aI ?_)); conv => whnf) | (refine Ok.scope ?_) | ((first | refine Ok.label ?_ | refine rd rfl (by assumption) ?_ | refine ⟨_, .inl ⟨rfl, rfl⟩, ?_⟩ | refine ⟨_, _, rfl, rfl, ?_⟩); conv => whnf) | (refine ⟨fun _ => ?_, fun _ => ?_⟩ <;> (conv => whnf) <;> (try (exfalso; omega))) | ((first | refine aJ ?_ | refine num_any ?_ | refine ⟨_, rfl, ?_⟩); conv => whnf) | fail)
        all_goals first
          | (exfalso; omega)
          | skip
        · refine Ok.range [6, 7, 8, 12, 13, 15, 110] 0 8 (fun k : Nat => ⟨[(6, .bp 0 0), (7, .bp 1 0), (8, .bp 2 0), (12, .bp 5 0), (13, .bp 6 0), (15, .bp 7 0), (110, .fn 86 [] [.ep [.i .i64 n1, .lst 112 (ks1.map trow) rm1]])], [[.i .i64 upTo], [.i .i64 again], [.ff], [.i .i64 n1, .lst 112 (ks1.map trow) rm1], [.i .i64 n1, .lst 120 (kd1.map drow) rd1], [.fn 86 [] [.ep [.i .i64 n1, .lst 112 (ks1.map trow) rm1]]], [.lst 9 (([] : List Str).map srow) []], [.i .i64 (k : Nat)]], [], 131⟩) (fun k => k ≤ ([] : List Str).length) (Nat.zero_le _) (by
            (conv => whnf)
            rfl) rfl hsq (fun _ => rfl) (by simp) ?_ ?_
          · intro k x hx hk
            obtain ⟨c, hc, rfl⟩ := cubX_get hx
            simp at hc
          · intro _
            rw [cubX_len]
            (conv => whnf)
            (try (conv => whnf)); repeat' (first | refine Ok.seq ?_ | refine OkL.cons ?_ | ((first | refine Ok.region tok ?_ | refine Ok.region_draw tok follows (by kernel_rfl) ?_ | refine Ok.cond ?_); conv => whnf) | refine Ok.block ?_ | ((first | refine Ok.skip ?_ | refine Ok.exit ?_ | refine Ok.ret ?_ | refine nI ?_ | refine ix _ (by assumption) ?_ | refine ixI (by omega) (by assumption) ?_ | refine ix_new _ (by omega) fun _ _ => ?_ | refine ixI_new (by omega) (by omega) fun _ _ => ?_ | refine ⟨_, by assumption, ?_⟩ | refine Alt2.l (aI ?_) | refine Alt2.r (aI ?_)); conv => whnf) | (refine Ok.scope ?_) | ((first | refine Ok.label ?_ | refine rd rfl (by assumption) ?_ | refine ⟨_, .inl ⟨rfl, rfl⟩, ?_⟩ | refine ⟨_, _, rfl, rfl, ?_⟩); conv => whnf) | (refine ⟨fun _ => ?_, fun _ => ?_⟩ <;> (conv => whnf) <;> (try (exfalso; omega))) | ((first | refine aJ ?_ | refine num_any ?_ | refine ⟨_, rfl, ?_⟩); conv => whnf) | fail)
            all_goals first
              | (exfalso; omega)
              | (refine Or.inl ?_; (conv => whnf)
                 show D.b _ = D.b True
                 congr 1
                 exact propext ⟨fun _ => trivial, fun _ => by omega⟩)
              | trace_state
        · refine Ok.range [6, 7, 8, 12, 13, 15, 110] 0 8 (fun k : Nat => ⟨[(6, .bp 0 0), (7, .bp 1 0), (8, .bp 2 0), (12, .bp 5 0), (13, .bp 6 0), (15, .bp 7 0), (110, .fn 86 [] [.ep [.i .i64 n1, .lst 112 (ks1.map trow) rm1]])], [[.i .i64 upTo], [.i .i64 again], [.ff], [.i .i64 n1, .lst 112 (ks1.map trow) rm1], [.i .i64 n1, .lst 120 (kd1.map drow) rd1], [.fn 86 [] [.ep [.i .i64 n1, .lst 112 (ks1.map trow) rm1]]], [.lst 9 (([] : List Str).map srow) []], [.i .i64 (k : Nat)]], [], 131⟩) (fun k => k ≤ ([] : List Str).length) (Nat.zero_le _) (by
            (conv => whnf)
            rfl) rfl hsq (fun _ => rfl) (by simp) ?_ ?_
          · intro k x hx hk
            obtain ⟨c, hc, rfl⟩ := cubX_get hx
            simp at hc
          · intro _
            rw [cubX_len]
            (conv => whnf)
            (try (conv => whnf)); repeat' (first | refine Ok.seq ?_ | refine OkL.cons ?_ | ((first | refine Ok.region tok ?_ | refine Ok.region_draw tok follows (by kernel_rfl) ?_ | refine Ok.cond ?_); conv => whnf) | refine Ok.block ?_ | ((first | refine Ok.skip ?_ | refine Ok.exit ?_ | refine Ok.ret ?_ | refine nI ?_ | refine ix _ (by assumption) ?_ | refine ixI (by omega) (by assumption) ?_ | refine ix_new _ (by omega) fun _ _ => ?_ | refine ixI_new (by omega) (by omega) fun _ _ => ?_ | refine ⟨_, by assumption, ?_⟩ | refine Alt2.l (aI ?_) | refine Alt2.r (aI ?_)); conv => whnf) | (refine Ok.scope ?_) | ((first | refine Ok.label ?_ | refine rd rfl (by assumption) ?_ | refine ⟨_, .inl ⟨rfl, rfl⟩, ?_⟩ | refine ⟨_, _, rfl, rfl, ?_⟩); conv => whnf) | (refine ⟨fun _ => ?_, fun _ => ?_⟩ <;> (conv => whnf) <;> (try (exfalso; omega))) | ((first | refine aJ ?_ | refine num_any ?_ | refine ⟨_, rfl, ?_⟩); conv => whnf) | fail)
            all_goals first
              | (exfalso; omega)
              | (refine Or.inl ?_; (conv => whnf)
                 show D.b _ = D.b True
                 congr 1
                 exact propext ⟨fun _ => trivial, fun _ => by omega⟩)
              | trace_state
end Go.Proofs.YtaiondckookpiaaGreatDoor
