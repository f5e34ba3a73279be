/- The walks and the plain laws that a law of spaces needs, part 7 of 7. -/
import Derived.Test.YtaiondckookpiaaGreatDoorPAF
set_option linter.unusedVariables false
set_option linter.unusedSimpArgs false
namespace Go.Proofs.YtaiondckookpiaaGreatDoor
open Go Go.Vx
set_option maxRecDepth 100000 in
set_option maxHeartbeats 8000000 in
theorem rexpand_at {n : Int} {ts : List Term} (hf : Fine n ts) (ks : List TR) (rm : List (List D)) (h1 : ks.map TR.t = ts) (limit : Int) :
    FSpec Tryz.prog T 32 [.agg [.i .i64 n, .lst 120 (ks.map drow) rm], .i .i64 limit] (ROut (expO n ts limit)) := by
  have hl1 : ks.length = ts.length := by rw [← h1, List.length_map]
  have hm1 : (ks.map drow).length = ts.length := by simp [hl1]
  have hk1 := hf.len
  have hn0 := hf.n0
  refine FSpec.of_ok tok Tryz.func32 rfl Tryz.call32 (by simp) ?_
  by_cases hz : n = 0
  · rw [expO_zero hz]
    subst hz
    (try (conv => whnf)); repeat' (first | refine Ok.seq ?_ | refine OkL.cons ?_ | ((first | refine Ok.region tok ?_ | refine Ok.region_plan (id := 19) tok follows [(4, 14, []), (6, 14, [13, 12, 10, 9, 8]), (10, 14, [13, 12]), (13, 14, []), (4, 15, [14]), (6, 15, [14, 13, 12, 10, 9, 8]), (10, 15, [14, 13, 12]), (13, 15, [14]), (14, 15, [])] [.q 0, .q 1, .q 2, .q 3, .q 4, .q 5, .q 6, .q 7, .q 8, .q 9, .q 10, .q 11, .q 12, .q 13, .l 14, .l 15, .q 16] (by kernel_rfl) ?_ | refine Ok.region_draw tok follows (by kernel_rfl) ?_ | refine Ok.cond ?_); conv => whnf) | refine Ok.block ?_ | ((first | refine Ok.skip ?_ | refine Ok.exit ?_ | refine Ok.ret ?_ | refine nI ?_ | refine ix _ (by assumption) ?_ | refine ixI (by omega) (by assumption) ?_ | refine ix_new _ (by omega) fun _ _ => ?_ | refine ixI_new (by omega) (by omega) fun _ _ => ?_ | refine ⟨_, by assumption, ?_⟩ | refine Alt2.l (aI ?_) | refine Alt2.r (aI ?_)); conv => whnf) | (refine Ok.scope ?_) | ((first | refine Ok.label ?_ | refine rd rfl (by assumption) ?_ | refine ⟨_, .inl ⟨rfl, rfl⟩, ?_⟩ | refine ⟨_, _, rfl, rfl, ?_⟩); conv => whnf) | (refine ⟨fun _ => ?_, fun _ => ?_⟩ <;> (conv => whnf) <;> (try (exfalso; omega))) | ((first | refine aJ ?_ | refine num_any ?_ | refine ⟨_, rfl, ?_⟩); conv => whnf) | fail)
    · refine Or.inl ?_; (conv => whnf)
      exact ⟨rfl, [], rfl⟩
    all_goals (exfalso; rename_i h; exact h rfl)
  by_cases harg : limit < 0 ∨ 2048 < limit
  · rw [expO_arg hz harg]
    (try (conv => whnf)); repeat' (first | refine Ok.seq ?_ | refine OkL.cons ?_ | ((first | refine Ok.region tok ?_ | refine Ok.region_plan (id := 19) tok follows [(4, 14, []), (6, 14, [13, 12, 10, 9, 8]), (10, 14, [13, 12]), (13, 14, []), (4, 15, [14]), (6, 15, [14, 13, 12, 10, 9, 8]), (10, 15, [14, 13, 12]), (13, 15, [14]), (14, 15, [])] [.q 0, .q 1, .q 2, .q 3, .q 4, .q 5, .q 6, .q 7, .q 8, .q 9, .q 10, .q 11, .q 12, .q 13, .l 14, .l 15, .q 16] (by kernel_rfl) ?_ | refine Ok.region_draw tok follows (by kernel_rfl) ?_ | refine Ok.cond ?_); conv => whnf) | refine Ok.block ?_ | ((first | refine Ok.skip ?_ | refine Ok.exit ?_ | refine Ok.ret ?_ | refine nI ?_ | refine ix _ (by assumption) ?_ | refine ixI (by omega) (by assumption) ?_ | refine ix_new _ (by omega) fun _ _ => ?_ | refine ixI_new (by omega) (by omega) fun _ _ => ?_ | refine ⟨_, by assumption, ?_⟩ | refine Alt2.l (aI ?_) | refine Alt2.r (aI ?_)); conv => whnf) | (refine Ok.scope ?_) | ((first | refine Ok.label ?_ | refine rd rfl (by assumption) ?_ | refine ⟨_, .inl ⟨rfl, rfl⟩, ?_⟩ | refine ⟨_, _, rfl, rfl, ?_⟩); conv => whnf) | (refine ⟨fun _ => ?_, fun _ => ?_⟩ <;> (conv => whnf) <;> (try (exfalso; omega))) | ((first | refine aJ ?_ | refine num_any ?_ | refine ⟨_, rfl, ?_⟩); conv => whnf) | fail)
    all_goals first
      | (exfalso; omega)
      | (refine Or.inl ?_; (conv => whnf)
         exact ⟨rfl, [], rfl⟩)
  (try (conv => whnf)); repeat' (first | refine Ok.seq ?_ | refine OkL.cons ?_ | ((first | refine Ok.region tok ?_ | refine Ok.region_plan (id := 19) tok follows [(4, 14, []), (6, 14, [13, 12, 10, 9, 8]), (10, 14, [13, 12]), (13, 14, []), (4, 15, [14]), (6, 15, [14, 13, 12, 10, 9, 8]), (10, 15, [14, 13, 12]), (13, 15, [14]), (14, 15, [])] [.q 0, .q 1, .q 2, .q 3, .q 4, .q 5, .q 6, .q 7, .q 8, .q 9, .q 10, .q 11, .q 12, .q 13, .l 14, .l 15, .q 16] (by kernel_rfl) ?_ | refine Ok.region_draw tok follows (by kernel_rfl) ?_ | refine Ok.cond ?_); conv => whnf) | refine Ok.block ?_ | ((first | refine Ok.skip ?_ | refine Ok.exit ?_ | refine Ok.ret ?_ | refine nI ?_ | refine ix _ (by assumption) ?_ | refine ixI (by omega) (by assumption) ?_ | refine ix_new _ (by omega) fun _ _ => ?_ | refine ixI_new (by omega) (by omega) fun _ _ => ?_ | refine ⟨_, by assumption, ?_⟩ | refine Alt2.l (aI ?_) | refine Alt2.r (aI ?_)); conv => whnf) | (refine Ok.scope ?_) | ((first | refine Ok.label ?_ | refine rd rfl (by assumption) ?_ | refine ⟨_, .inl ⟨rfl, rfl⟩, ?_⟩ | refine ⟨_, _, rfl, rfl, ?_⟩); conv => whnf) | (refine ⟨fun _ => ?_, fun _ => ?_⟩ <;> (conv => whnf) <;> (try (exfalso; omega))) | ((first | refine aJ ?_ | refine num_any ?_ | refine ⟨_, rfl, ?_⟩); conv => whnf) | fail)
  all_goals first
    | (exfalso; omega)
    | skip
  refine Ok.ghost 6 9 rfl ?_
  (conv => whnf)
  refine Ok.loopU [1, 2] [6, 7] 1 1 (fun (x : Nat × List Str) => [.own 0 x.2.length, .i .i64 (x.1 : Nat)]) (fun _ b => b) (fun (x : Nat × List Str) (_ : Vx.Rows) => [some (9, x.2.map srow)]) (fun (x : Nat × List Str) => x.1 ≤ ts.length ∧ expX limit ts [] = expX limit (ts.drop x.1) x.2 ∧ AllW n.toNat x.2 ∧ (x.2.length : Int) ≤ limit) (fun (x : Nat × List Str) => ts.length - x.1) ((0, [])) (⟨Nat.zero_le _, by simp, fun c hc => by simp at hc, by simp; omega⟩) ?_; (conv => whnf); refine ⟨by ((conv => whnf); first | rfl | (simp [envCat, List.take_of_length_le, crow, trow, srow, drow]; done) | (simp [envCat, List.take_of_length_le, crow, trow, srow, drow]; rw [IntKind.wrap_i64]; omega)), ?_⟩
  rintro ⟨i, out⟩ ⟨hi, hex, hal, hle⟩
  dsimp only at hi hex hal hle ⊢
  have hom : (out.map srow).length = out.length := by simp
  (conv => whnf)
  by_cases hil : i < ts.length
  · obtain ⟨a, ha⟩ : ∃ a, ks[i]? = some a := ⟨_, List.getElem?_eq_getElem (by omega)⟩
    have haI : ks[((i : Nat) : Int).toNat]? = some a := ha
    have hat := tr_get h1 ha
    have hag := hf.good _ (List.mem_of_getElem? hat)
    have hlb := hf.less (List.mem_of_getElem? hat)
    have hlb2 : (a.t.less.map srow).length = a.t.less.length := by simp
    rw [drop_get hat, expX_cons] at hex
    by_cases hlim : limit - (out.length : Int) < 1
    · rw [show termX (limit - (out.length : Int)) a.t = none by unfold termX; rw [if_pos hlim]] at hex
      rw [expO_none hz harg hex]
      (try (conv => whnf)); repeat' (first | refine Ok.seq ?_ | refine OkL.cons ?_ | ((first | refine Ok.region tok ?_ | refine Ok.region_plan (id := 19) tok follows [(4, 14, []), (6, 14, [13, 12, 10, 9, 8]), (10, 14, [13, 12]), (13, 14, []), (4, 15, [14]), (6, 15, [14, 13, 12, 10, 9, 8]), (10, 15, [14, 13, 12]), (13, 15, [14]), (14, 15, [])] [.q 0, .q 1, .q 2, .q 3, .q 4, .q 5, .q 6, .q 7, .q 8, .q 9, .q 10, .q 11, .q 12, .q 13, .l 14, .l 15, .q 16] (by kernel_rfl) ?_ | refine Ok.region_draw tok follows (by kernel_rfl) ?_ | refine Ok.cond ?_); conv => whnf) | refine Ok.block ?_ | ((first | refine Ok.skip ?_ | refine Ok.exit ?_ | refine Ok.ret ?_ | refine nI ?_ | refine ix _ (by assumption) ?_ | refine ixI (by omega) (by assumption) ?_ | refine ix_new _ (by omega) fun _ _ => ?_ | refine ixI_new (by omega) (by omega) fun _ _ => ?_ | refine ⟨_, by assumption, ?_⟩ | refine Alt2.l (aI ?_) | refine Alt2.r (aI ?_)); conv => whnf) | (refine Ok.scope ?_) | ((first | refine Ok.label ?_ | refine rd rfl (by assumption) ?_ | refine ⟨_, .inl ⟨rfl, rfl⟩, ?_⟩ | refine ⟨_, _, rfl, rfl, ?_⟩); conv => whnf) | (refine ⟨fun _ => ?_, fun _ => ?_⟩ <;> (conv => whnf) <;> (try (exfalso; omega))) | ((first | refine aJ ?_ | refine num_any ?_ | refine ⟨_, rfl, ?_⟩); conv => whnf) | fail)
      all_goals first
        | (exfalso; omega)
        | (refine Or.inl ?_; (conv => whnf)
           exact ⟨rfl, [], rfl⟩)
    rw [show termX (limit - (out.length : Int)) a.t = splX (limit - (out.length : Int)) a.t.less [a.t.p] by unfold termX; rw [if_neg hlim]] at hex
    (try (conv => whnf)); repeat' (first | refine Ok.seq ?_ | refine OkL.cons ?_ | ((first | refine Ok.region tok ?_ | refine Ok.region_plan (id := 19) tok follows [(4, 14, []), (6, 14, [13, 12, 10, 9, 8]), (10, 14, [13, 12]), (13, 14, []), (4, 15, [14]), (6, 15, [14, 13, 12, 10, 9, 8]), (10, 15, [14, 13, 12]), (13, 15, [14]), (14, 15, [])] [.q 0, .q 1, .q 2, .q 3, .q 4, .q 5, .q 6, .q 7, .q 8, .q 9, .q 10, .q 11, .q 12, .q 13, .l 14, .l 15, .q 16] (by kernel_rfl) ?_ | refine Ok.region_draw tok follows (by kernel_rfl) ?_ | refine Ok.cond ?_); conv => whnf) | refine Ok.block ?_ | ((first | refine Ok.skip ?_ | refine Ok.exit ?_ | refine Ok.ret ?_ | refine nI ?_ | refine ix _ (by assumption) ?_ | refine ixI (by omega) (by assumption) ?_ | refine ix_new _ (by omega) fun _ _ => ?_ | refine ixI_new (by omega) (by omega) fun _ _ => ?_ | refine ⟨_, by assumption, ?_⟩ | refine Alt2.l (aI ?_) | refine Alt2.r (aI ?_)); conv => whnf) | (refine Ok.scope ?_) | ((first | refine Ok.label ?_ | refine rd rfl (by assumption) ?_ | refine ⟨_, .inl ⟨rfl, rfl⟩, ?_⟩ | refine ⟨_, _, rfl, rfl, ?_⟩); conv => whnf) | (refine ⟨fun _ => ?_, fun _ => ?_⟩ <;> (conv => whnf) <;> (try (exfalso; omega))) | ((first | refine aJ ?_ | refine num_any ?_ | refine ⟨_, rfl, ?_⟩); conv => whnf) | fail)
    refine Ok.pub 1 ?_
    (conv => whnf)
    refine Ok.loopU [1, 2, 6, 7] [8, 9] 1 1 (fun (x : Nat × List Str × List (List D)) => [.lst 9 (x.2.1.map srow) x.2.2, .i .i64 (x.1 : Nat)]) (fun _ b => b) (fun (x : Nat × List Str × List (List D)) (_ : Vx.Rows) => [some (9, out.map srow)]) (fun (x : Nat × List Str × List (List D)) => x.1 ≤ a.t.less.length ∧ splX (limit - (out.length : Int)) a.t.less [a.t.p] = splX (limit - (out.length : Int)) (a.t.less.drop x.1) x.2.1 ∧ AllW n.toNat x.2.1 ∧ (x.2.1.length : Int) ≤ limit - (out.length : Int)) (fun (x : Nat × List Str × List (List D)) => a.t.less.length - x.1) ((0, [a.t.p], [])) (⟨Nat.zero_le _, rfl, fun c hc => by simp at hc; subst hc; exact ⟨hag.p, hag.ok.p⟩, by simp; omega⟩) ?_; (conv => whnf); refine ⟨by ((conv => whnf); first | rfl | (simp [envCat, List.take_of_length_le, crow, trow, srow, drow]; done) | (simp [envCat, List.take_of_length_le, crow, trow, srow, drow]; rw [IntKind.wrap_i64]; omega)), ?_⟩
    rintro ⟨j, l, rml⟩ ⟨hj, hsx, hla, hll⟩
    dsimp only at hj hsx hla hll ⊢
    have hlm : (l.map srow).length = l.length := by simp
    (conv => whnf)
    by_cases hjl : j < a.t.less.length
    · obtain ⟨m, hm⟩ : ∃ m, a.t.less[j]? = some m := ⟨_, List.getElem?_eq_getElem hjl⟩
      have hmI : a.t.less[((j : Nat) : Int).toNat]? = some m := hm
      have hmc := (hag.less m (List.mem_of_getElem? hm)).1
      have hsa := splL_all hla hmc
      have hsl := splL_len (m := m) hla
      rw [drop_get hm, splX_cons] at hsx
      (try (conv => whnf)); repeat' (first | refine Ok.seq ?_ | refine OkL.cons ?_ | ((first | refine Ok.region tok ?_ | refine Ok.region_plan (id := 19) tok follows [(4, 14, []), (6, 14, [13, 12, 10, 9, 8]), (10, 14, [13, 12]), (13, 14, []), (4, 15, [14]), (6, 15, [14, 13, 12, 10, 9, 8]), (10, 15, [14, 13, 12]), (13, 15, [14]), (14, 15, [])] [.q 0, .q 1, .q 2, .q 3, .q 4, .q 5, .q 6, .q 7, .q 8, .q 9, .q 10, .q 11, .q 12, .q 13, .l 14, .l 15, .q 16] (by kernel_rfl) ?_ | refine Ok.region_draw tok follows (by kernel_rfl) ?_ | refine Ok.cond ?_); conv => whnf) | refine Ok.block ?_ | ((first | refine Ok.skip ?_ | refine Ok.exit ?_ | refine Ok.ret ?_ | refine nI ?_ | refine ix _ (by assumption) ?_ | refine ixI (by omega) (by assumption) ?_ | refine ix_new _ (by omega) fun _ _ => ?_ | refine ixI_new (by omega) (by omega) fun _ _ => ?_ | refine ⟨_, by assumption, ?_⟩ | refine Alt2.l (aI ?_) | refine Alt2.r (aI ?_)); conv => whnf) | (refine Ok.scope ?_) | ((first | refine Ok.label ?_ | refine rd rfl (by assumption) ?_ | refine ⟨_, .inl ⟨rfl, rfl⟩, ?_⟩ | refine ⟨_, _, rfl, rfl, ?_⟩); conv => whnf) | (refine ⟨fun _ => ?_, fun _ => ?_⟩ <;> (conv => whnf) <;> (try (exfalso; omega))) | ((first | refine aJ ?_ | refine num_any ?_ | refine ⟨_, rfl, ?_⟩); conv => whnf) | fail)
      refine Ok.ghost 10 9 rfl ?_
      (conv => whnf)
      refine Ok.loopU [1, 2, 6, 7, 8, 9] [10, 11] 2 1 (fun (k : Nat) => [.own 1 (splL m (l.take k)).length, .i .i64 (k : Nat)]) (fun _ b => b) (fun (k : Nat) (_ : Vx.Rows) => [some (9, out.map srow), some (9, (splL m (l.take k)).map srow)]) (fun (k : Nat) => k ≤ l.length) (fun (k : Nat) => l.length - k) (0) (Nat.zero_le _) ?_; (conv => whnf); refine ⟨by ((conv => whnf); first | rfl | (simp [envCat, List.take_of_length_le, crow, trow, srow, drow]; done) | (simp [envCat, List.take_of_length_le, crow, trow, srow, drow]; rw [IntKind.wrap_i64]; omega)), ?_⟩
      intro k hk
      have hqm : ((splL m (l.take k)).map srow).length = (splL m (l.take k)).length := by simp
      have hql := splL_len (m := m) (l := l.take k) (n := n.toNat) fun c hc => hla c (List.mem_of_mem_take hc)
      have hqk : (l.take k).length = k := by simp; omega
      (conv => whnf)
      by_cases hkl : k < l.length
      · obtain ⟨c, hc⟩ : ∃ c, l[k]? = some c := ⟨_, List.getElem?_eq_getElem hkl⟩
        have hcI : l[((k : Nat) : Int).toNat]? = some c := hc
        have hcw := hla c (List.mem_of_getElem? hc)
        have hsn := splL_snoc (m := m) hc
        have hcl := splitT_len (d := m) hcw.1.1.len
        have hclm : ((splitT c m).map srow).length = (splitT c m).length := by simp
        have rsp := rsplit_at c m hcw.1 hmc
        generalize splitT c m = S at *
        (try (conv => whnf)); repeat' (first | refine Ok.seq ?_ | refine OkL.cons ?_ | ((first | refine Ok.region tok ?_ | refine Ok.region_plan (id := 19) tok follows [(4, 14, []), (6, 14, [13, 12, 10, 9, 8]), (10, 14, [13, 12]), (13, 14, []), (4, 15, [14]), (6, 15, [14, 13, 12, 10, 9, 8]), (10, 15, [14, 13, 12]), (13, 15, [14]), (14, 15, [])] [.q 0, .q 1, .q 2, .q 3, .q 4, .q 5, .q 6, .q 7, .q 8, .q 9, .q 10, .q 11, .q 12, .q 13, .l 14, .l 15, .q 16] (by kernel_rfl) ?_ | refine Ok.region_draw tok follows (by kernel_rfl) ?_ | refine Ok.cond ?_); conv => whnf) | refine Ok.block ?_ | ((first | refine Ok.skip ?_ | refine Ok.exit ?_ | refine Ok.ret ?_ | refine nI ?_ | refine ix _ (by assumption) ?_ | refine ixI (by omega) (by assumption) ?_ | refine ix_new _ (by omega) fun _ _ => ?_ | refine ixI_new (by omega) (by omega) fun _ _ => ?_ | refine ⟨_, by assumption, ?_⟩); conv => whnf) | (refine Or.inr (Or.inl ?_); (conv => whnf); (repeat (refine aI ?_; conv => whnf)); refine ⟨_, rsp , ?_⟩; rintro _ _ ⟨rmq, rfl, rfl⟩ <;> (conv => whnf)) | ((first | refine Alt2.l (aI ?_) | refine Alt2.r (aI ?_)); conv => whnf) | (refine Ok.scope ?_) | ((first | refine Ok.label ?_ | refine rd rfl (by assumption) ?_ | refine ⟨_, .inl ⟨rfl, rfl⟩, ?_⟩ | refine ⟨_, _, rfl, rfl, ?_⟩); conv => whnf) | (refine ⟨fun _ => ?_, fun _ => ?_⟩ <;> (conv => whnf) <;> (try (exfalso; omega))) | ((first | refine aJ ?_ | refine num_any ?_ | refine ⟨_, rfl, ?_⟩); conv => whnf) | fail)
        refine ⟨k + 1, by omega, by omega, ?_⟩
        rw [hsn, List.map_append]
        (conv => whnf)
        simp [envCat]
      · have hke : k = l.length := by omega
        subst hke
        rw [List.take_length] at *
        refine Ok.pub 1 ?_
        (conv => whnf)
        rw [take_all, drop_all]
        by_cases hov : limit - (out.length : Int) < ((splL m l).length : Int)
        · rw [if_pos hov] at hsx
          rw [hsx] at hex
          rw [expO_none hz harg hex]
          (try (conv => whnf)); repeat' (first | refine Ok.seq ?_ | refine OkL.cons ?_ | ((first | refine Ok.region tok ?_ | refine Ok.region_plan (id := 19) tok follows [(4, 14, []), (6, 14, [13, 12, 10, 9, 8]), (10, 14, [13, 12]), (13, 14, []), (4, 15, [14]), (6, 15, [14, 13, 12, 10, 9, 8]), (10, 15, [14, 13, 12]), (13, 15, [14]), (14, 15, [])] [.q 0, .q 1, .q 2, .q 3, .q 4, .q 5, .q 6, .q 7, .q 8, .q 9, .q 10, .q 11, .q 12, .q 13, .l 14, .l 15, .q 16] (by kernel_rfl) ?_ | refine Ok.region_draw tok follows (by kernel_rfl) ?_ | refine Ok.cond ?_); conv => whnf) | refine Ok.block ?_ | ((first | refine Ok.skip ?_ | refine Ok.exit ?_ | refine Ok.ret ?_ | refine nI ?_ | refine ix _ (by assumption) ?_ | refine ixI (by omega) (by assumption) ?_ | refine ix_new _ (by omega) fun _ _ => ?_ | refine ixI_new (by omega) (by omega) fun _ _ => ?_ | refine ⟨_, by assumption, ?_⟩ | refine Alt2.l (aI ?_) | refine Alt2.r (aI ?_)); conv => whnf) | (refine Ok.scope ?_) | ((first | refine Ok.label ?_ | refine rd rfl (by assumption) ?_ | refine ⟨_, .inl ⟨rfl, rfl⟩, ?_⟩ | refine ⟨_, _, rfl, rfl, ?_⟩); conv => whnf) | (refine ⟨fun _ => ?_, fun _ => ?_⟩ <;> (conv => whnf) <;> (try (exfalso; omega))) | ((first | refine aJ ?_ | refine num_any ?_ | refine ⟨_, rfl, ?_⟩); conv => whnf) | fail)
          all_goals first
            | (exfalso; omega)
            | (refine Or.inl ?_; (conv => whnf)
               exact ⟨rfl, [], rfl⟩)
        · rw [if_neg hov] at hsx
          (try (conv => whnf)); repeat' (first | refine Ok.seq ?_ | refine OkL.cons ?_ | ((first | refine Ok.region tok ?_ | refine Ok.region_plan (id := 19) tok follows [(4, 14, []), (6, 14, [13, 12, 10, 9, 8]), (10, 14, [13, 12]), (13, 14, []), (4, 15, [14]), (6, 15, [14, 13, 12, 10, 9, 8]), (10, 15, [14, 13, 12]), (13, 15, [14]), (14, 15, [])] [.q 0, .q 1, .q 2, .q 3, .q 4, .q 5, .q 6, .q 7, .q 8, .q 9, .q 10, .q 11, .q 12, .q 13, .l 14, .l 15, .q 16] (by kernel_rfl) ?_ | refine Ok.region_draw tok follows (by kernel_rfl) ?_ | refine Ok.cond ?_); conv => whnf) | refine Ok.block ?_ | ((first | refine Ok.skip ?_ | refine Ok.exit ?_ | refine Ok.ret ?_ | refine nI ?_ | refine ix _ (by assumption) ?_ | refine ixI (by omega) (by assumption) ?_ | refine ix_new _ (by omega) fun _ _ => ?_ | refine ixI_new (by omega) (by omega) fun _ _ => ?_ | refine ⟨_, by assumption, ?_⟩ | refine Alt2.l (aI ?_) | refine Alt2.r (aI ?_)); conv => whnf) | (refine Ok.scope ?_) | ((first | refine Ok.label ?_ | refine rd rfl (by assumption) ?_ | refine ⟨_, .inl ⟨rfl, rfl⟩, ?_⟩ | refine ⟨_, _, rfl, rfl, ?_⟩); conv => whnf) | (refine ⟨fun _ => ?_, fun _ => ?_⟩ <;> (conv => whnf) <;> (try (exfalso; omega))) | ((first | refine aJ ?_ | refine num_any ?_ | refine ⟨_, rfl, ?_⟩); conv => whnf) | fail)
          all_goals first
            | (exfalso; omega)
            | skip
          refine ⟨(j + 1, splL m l, []), by dsimp only; omega, ⟨by dsimp only; omega, hsx, hsa, by dsimp only; omega⟩, ?_⟩
          (conv => whnf)
          rfl
    · have hje : j = a.t.less.length := by omega
      subst hje
      rw [List.drop_length] at hsx
      have hsx : splX (limit - (out.length : Int)) a.t.less [a.t.p] = some l := hsx
      rw [hsx] at hex
      have hap : (out.map srow ++ l.map srow).length = out.length + l.length := by simp
      (try (conv => whnf)); repeat' (first | refine Ok.seq ?_ | refine OkL.cons ?_ | ((first | refine Ok.region tok ?_ | refine Ok.region_plan (id := 19) tok follows [(4, 14, []), (6, 14, [13, 12, 10, 9, 8]), (10, 14, [13, 12]), (13, 14, []), (4, 15, [14]), (6, 15, [14, 13, 12, 10, 9, 8]), (10, 15, [14, 13, 12]), (13, 15, [14]), (14, 15, [])] [.q 0, .q 1, .q 2, .q 3, .q 4, .q 5, .q 6, .q 7, .q 8, .q 9, .q 10, .q 11, .q 12, .q 13, .l 14, .l 15, .q 16] (by kernel_rfl) ?_ | refine Ok.region_draw tok follows (by kernel_rfl) ?_ | refine Ok.cond ?_); conv => whnf) | refine Ok.block ?_ | ((first | refine Ok.skip ?_ | refine Ok.exit ?_ | refine Ok.ret ?_ | refine nI ?_ | refine ix _ (by assumption) ?_ | refine ixI (by omega) (by assumption) ?_ | refine ix_new _ (by omega) fun _ _ => ?_ | refine ixI_new (by omega) (by omega) fun _ _ => ?_ | refine ⟨_, by assumption, ?_⟩ | refine Alt2.l (aI ?_) | refine Alt2.r (aI ?_)); conv => whnf) | (refine Ok.scope ?_) | ((first | refine Ok.label ?_ | refine rd rfl (by assumption) ?_ | refine ⟨_, .inl ⟨rfl, rfl⟩, ?_⟩ | refine ⟨_, _, rfl, rfl, ?_⟩); conv => whnf) | (refine ⟨fun _ => ?_, fun _ => ?_⟩ <;> (conv => whnf) <;> (try (exfalso; omega))) | ((first | refine aJ ?_ | refine num_any ?_ | refine ⟨_, rfl, ?_⟩); conv => whnf) | fail)
      refine ⟨(i + 1, out ++ l), by dsimp only; omega, ⟨by dsimp only; omega, hex, fun c hc => (List.mem_append.1 hc).elim (hal c) (hla c), by dsimp only; rw [List.length_append]; omega⟩, ?_⟩
      (conv => whnf)
      simp [envCat]
  · have hie : i = ts.length := by omega
    subst hie
    rw [List.drop_length] at hex
    have hex : expX limit ts [] = some out := hex
    rw [expO_some hz harg hex]
    (try (conv => whnf)); repeat' (first | refine Ok.seq ?_ | refine OkL.cons ?_ | ((first | refine Ok.region tok ?_ | refine Ok.region_plan (id := 19) tok follows [(4, 14, []), (6, 14, [13, 12, 10, 9, 8]), (10, 14, [13, 12]), (13, 14, []), (4, 15, [14]), (6, 15, [14, 13, 12, 10, 9, 8]), (10, 15, [14, 13, 12]), (13, 15, [14]), (14, 15, [])] [.q 0, .q 1, .q 2, .q 3, .q 4, .q 5, .q 6, .q 7, .q 8, .q 9, .q 10, .q 11, .q 12, .q 13, .l 14, .l 15, .q 16] (by kernel_rfl) ?_ | refine Ok.region_draw tok follows (by kernel_rfl) ?_ | refine Ok.cond ?_); conv => whnf) | refine Ok.block ?_ | ((first | refine Ok.skip ?_ | refine Ok.exit ?_ | refine Ok.ret ?_ | refine nI ?_ | refine ix _ (by assumption) ?_ | refine ixI (by omega) (by assumption) ?_ | refine ix_new _ (by omega) fun _ _ => ?_ | refine ixI_new (by omega) (by omega) fun _ _ => ?_ | refine ⟨_, by assumption, ?_⟩ | refine Alt2.l (aI ?_) | refine Alt2.r (aI ?_)); conv => whnf) | (refine Ok.scope ?_) | ((first | refine Ok.label ?_ | refine rd rfl (by assumption) ?_ | refine ⟨_, .inl ⟨rfl, rfl⟩, ?_⟩ | refine ⟨_, _, rfl, rfl, ?_⟩); conv => whnf) | (refine ⟨fun _ => ?_, fun _ => ?_⟩ <;> (conv => whnf) <;> (try (exfalso; omega))) | ((first | refine aJ ?_ | refine num_any ?_ | refine ⟨_, rfl, ?_⟩); conv => whnf) | fail)
    refine Or.inl ?_; (conv => whnf)
    refine ⟨rfl, [], ?_⟩
    rw [List.take_of_length_le (by simp), List.drop_of_length_le (by simp)]
    rfl
end Go.Proofs.YtaiondckookpiaaGreatDoor
namespace Go.Proofs.YtaiondckookpiaaGreatDoor
open Go Go.Vx
def wr1 (a b : UInt8) : UInt8 := if b = 120 then a else b
def writeL (c r : Str) : Str := List.zipWith wr1 c r
theorem writeL_len {c r : Str} (h : r.length = c.length) : (writeL c r).length = c.length := by simp [writeL, h]
theorem writeL_get {c r : Str} {i : Nat} {a b : UInt8} (ha : c[i]? = some a) (hb : r[i]? = some b) : (writeL c r)[i]? = some (wr1 a b) := by
  simp [writeL, List.getElem?_zipWith, ha, hb]
theorem writeL_bits {c r : Str} (h : r.length = c.length) (hr : CT r) (i : Nat) : car (writeL c r) i = (car c i || car r i) ∧ one (writeL c r) i = ((one c i && !car r i) || one r i) := by
  by_cases hi : i < c.length
  · have e1 := List.getElem?_eq_getElem hi
    have e2 := List.getElem?_eq_getElem (show i < r.length by omega)
    have e3 := writeL_get e1 e2
    rw [(at_b e1).1, (at_b e1).2, (at_b e2).1, (at_b e2).2, (at_b e3).1, (at_b e3).2]
    have := hr.cub _ (List.getElem_mem (show i < r.length by omega))
    generalize r[i] = b at this
    rcases this with rfl | rfl | rfl <;> simp [wr1, dig]
  · have h1 := at_out (t := c) (i := i) (by omega)
    have h2 := at_out (t := writeL c r) (i := i) (by rw [writeL_len h]; omega)
    have h3 := at_out (t := r) (i := i) (by omega)
    rw [h1.1, h1.2, h2.1, h2.2, h3.1, h3.2]
    simp
theorem wof_or2 {f g h : Nat → Bool} (e : ∀ i, h i = (f i || g i)) (k : Nat) : wof h k = wof f k ||| wof g k := by
  refine BitVec.eq_of_getLsbD_eq fun i hi => ?_
  rw [BitVec.getLsbD_or, wof_get _ _ _ hi, wof_get _ _ _ hi, wof_get _ _ _ hi, e]
theorem wof_over {f g p h : Nat → Bool} (e : ∀ i, h i = ((f i && !g i) || p i)) (k : Nat) : wof h k = (wof f k &&& ~~~ wof g k) ||| wof p k := by
  refine BitVec.eq_of_getLsbD_eq fun i hi => ?_
  rw [BitVec.getLsbD_or, BitVec.getLsbD_and, BitVec.getLsbD_not, wof_get _ _ _ hi, wof_get _ _ _ hi, wof_get _ _ _ hi, wof_get _ _ _ hi, e]
  simp [hi]
def wwc (w : Nat) (f g : Nat → Bool) (k : Nat) : BitVec 64 := if k < w then wof f k ||| wof g k else wof f k
def wwo (w : Nat) (f g p : Nat → Bool) (k : Nat) : BitVec 64 := if k < w then (wof f k &&& ~~~ wof g k) ||| wof p k else wof f k
@[reducible] def wcells (n w : Nat) (c d : Str) : List D := [.i .i64 (n : Int), .i .u64 ((wwc w (car c) (car d) 0).toNat : Int), .i .u64 ((wwc w (car c) (car d) 1).toNat : Int), .i .u64 ((wwc w (car c) (car d) 2).toNat : Int), .i .u64 ((wwc w (car c) (car d) 3).toNat : Int), .i .u64 ((wwo w (one c) (car d) (one d) 0).toNat : Int), .i .u64 ((wwo w (one c) (car d) (one d) 1).toNat : Int), .i .u64 ((wwo w (one c) (car d) (one d) 2).toNat : Int), .i .u64 ((wwo w (one c) (car d) (one d) 3).toNat : Int)]
theorem wcells_end {c d : Str} (h : d.length = c.length) (hd : CT d) : wcells c.length 4 c d = crow (writeL c d) := by
  simp only [wcells, crow, cells9, wwc, wwo, wof_or2 (fun i => (writeL_bits h hd i).1), wof_over (fun i => (writeL_bits h hd i).2), writeL_len h]
  rfl
theorem writeL_ct {c r : Str} (hc : CT c) (hr : CT r) (h : r.length = c.length) : CT (writeL c r) := by
  refine ⟨by rw [writeL_len h]; exact hc.len, fun b hb => ?_⟩
  obtain ⟨k, hk⟩ := List.getElem?_of_mem hb
  have hkl : k < c.length := by have := (List.getElem?_eq_some_iff.1 hk).1; rw [writeL_len h] at this; exact this
  have e1 := List.getElem?_eq_getElem hkl
  have e2 := List.getElem?_eq_getElem (show k < r.length by omega)
  rw [writeL_get e1 e2] at hk
  cases hk
  unfold wr1
  split
  · exact hc.cub _ (List.getElem_mem hkl)
  · exact hr.cub _ (List.getElem_mem _)
theorem writeL_cn {c r : Str} (hc : CN c) (hr : CT r) (h : r.length = c.length) : CN (writeL c r) :=
  ⟨writeL_ct hc.1 hr h, fun e => hc.2 (List.eq_nil_of_length_eq_zero (by rw [← writeL_len h, e]; rfl))⟩
set_option maxHeartbeats 4000000 in
theorem write_at (c d : Str) (hc : CN c) (hd : CT d) (hl : d.length = c.length) : FSpec Tryz.prog T 95 [.agg (crow c), .agg (crow d)] (fun r rows => r = .agg (crow (writeL c d)) ∧ rows = []) := by
  have hpos : 0 < c.length := List.length_pos_iff.2 hc.2
  refine FSpec.of_ok tok Tryz.func95 rfl Tryz.call95 (by simp) ?_
  (try (conv => whnf)); repeat' (first | ((with_reducible_and_instances (first | refine nShr (by assumption) ?_ | refine nShl1' rfl (by assumption) ?_ | refine nAnd ?_ | refine nOr ?_ | refine nXor ?_ | refine nAndNot ?_ | refine nAnd1' rfl ?_)); conv => whnf) | refine Ok.seq ?_ | refine OkL.cons ?_ | ((first | refine Ok.region tok ?_ | refine Ok.region_plan (id := 6) tok follows [(3, 11, []), (7, 11, [])] [.q 0, .q 1, .q 2, .q 3, .q 4, .q 5, .q 6, .q 7, .q 8, .q 9, .q 10, .l 11] (by kernel_rfl) ?_ | refine Ok.region_plan (id := 7) tok follows [(4, 17, []), (8, 17, []), (13, 17, [])] [.q 0, .q 1, .q 2, .q 3, .q 4, .q 5, .q 6, .q 7, .q 8, .q 9, .q 10, .q 11, .q 12, .q 13, .q 14, .q 15, .q 16, .l 17] (by kernel_rfl) ?_ | refine Ok.region_draw tok follows (by kernel_rfl) ?_ | refine Ok.cond ?_); conv => whnf) | refine Ok.block ?_ | ((first | refine Ok.skip ?_ | refine Ok.exit ?_ | refine Ok.ret ?_ | refine nI ?_ | refine ix _ (by assumption) ?_ | refine ixI (by omega) (by assumption) ?_ | refine ix_new _ (by omega) fun _ _ => ?_ | refine ixI_new (by omega) (by omega) fun _ _ => ?_ | refine ⟨_, by assumption, ?_⟩); conv => whnf) | (refine Or.inl ?_; (conv => whnf); (repeat (refine aI ?_; conv => whnf)); refine ⟨_, fits_at c d, rfl, ?_⟩; conv => whnf) | (refine ⟨_, fits_at c d, rfl, ?_⟩; conv => whnf) | (refine Or.inr (Or.inl ?_); (conv => whnf); (repeat (refine aI ?_; conv => whnf)); refine ⟨_, fits_at c d, ?_⟩; rintro _ _ ⟨rfl, rfl⟩; conv => whnf) | ((first | refine Alt2.l (aI ?_) | refine Alt2.r (aI ?_)); conv => whnf) | (refine Ok.scope ?_) | ((first | refine Ok.label ?_ | refine rd rfl (by assumption) ?_ | refine ⟨_, .inl ⟨rfl, rfl⟩, ?_⟩ | refine ⟨_, _, rfl, rfl, ?_⟩); conv => whnf) | (refine ⟨fun _ => ?_, fun _ => ?_⟩ <;> (conv => whnf) <;> (try (exfalso; omega))) | ((first | refine aJ ?_ | refine num_any ?_ | refine ⟨_, rfl, ?_⟩); conv => whnf) | fail)
  all_goals first
    | (exfalso; omega)
    | skip
  refine Ok.loopU [2, 3, 4] [11] 0 3 (fun (w : Nat) => [.i .i64 (w : Nat)]) (fun (w : Nat) (_ : List (List D)) => [wcells c.length w c d, crow d, [.i .i64 0, .i .u64 0, .i .u64 0, .i .u64 0, .i .u64 0, .i .u64 0, .i .u64 0, .i .u64 0, .i .u64 0]]) (fun _ r => r) (fun (w : Nat) => w ≤ 4) (fun (w : Nat) => 4 - w) (0) (by omega) ?_; (conv => whnf); refine ⟨by ((conv => whnf); first | rfl | (simp [envCat, List.take_of_length_le, cells9, wcells, bcell, crow]; done) | (simp [envCat, List.take_of_length_le, cells9, wcells, bcell, crow]; rw [IntKind.wrap_i64]; omega)), ?_⟩
  rintro w hw
  (conv => whnf)
  by_cases hw4 : w = 4
  · subst hw4
    (try (conv => whnf)); repeat' (first | ((with_reducible_and_instances (first | refine nShr (by assumption) ?_ | refine nShl1' rfl (by assumption) ?_ | refine nAnd ?_ | refine nOr ?_ | refine nXor ?_ | refine nAndNot ?_ | refine nAnd1' rfl ?_)); conv => whnf) | refine Ok.seq ?_ | refine OkL.cons ?_ | ((first | refine Ok.region tok ?_ | refine Ok.region_plan (id := 6) tok follows [(3, 11, []), (7, 11, [])] [.q 0, .q 1, .q 2, .q 3, .q 4, .q 5, .q 6, .q 7, .q 8, .q 9, .q 10, .l 11] (by kernel_rfl) ?_ | refine Ok.region_plan (id := 7) tok follows [(4, 17, []), (8, 17, []), (13, 17, [])] [.q 0, .q 1, .q 2, .q 3, .q 4, .q 5, .q 6, .q 7, .q 8, .q 9, .q 10, .q 11, .q 12, .q 13, .q 14, .q 15, .q 16, .l 17] (by kernel_rfl) ?_ | refine Ok.region_draw tok follows (by kernel_rfl) ?_ | refine Ok.cond ?_); conv => whnf) | refine Ok.block ?_ | ((first | refine Ok.skip ?_ | refine Ok.exit ?_ | refine Ok.ret ?_ | refine nI ?_ | refine ix _ (by assumption) ?_ | refine ixI (by omega) (by assumption) ?_ | refine ix_new _ (by omega) fun _ _ => ?_ | refine ixI_new (by omega) (by omega) fun _ _ => ?_ | refine ⟨_, by assumption, ?_⟩ | refine Alt2.l (aI ?_) | refine Alt2.r (aI ?_)); conv => whnf) | (refine Ok.scope ?_) | ((first | refine Ok.label ?_ | refine rd rfl (by assumption) ?_ | refine ⟨_, .inl ⟨rfl, rfl⟩, ?_⟩ | refine ⟨_, _, rfl, rfl, ?_⟩); conv => whnf) | (refine ⟨fun _ => ?_, fun _ => ?_⟩ <;> (conv => whnf) <;> (try (exfalso; omega))) | ((first | refine aJ ?_ | refine num_any ?_ | refine ⟨_, rfl, ?_⟩); conv => whnf) | fail)
    refine Or.inl ?_; (conv => whnf)
    refine ⟨?_, rfl⟩
    show D.agg (wcells c.length 4 c d) = _
    rw [wcells_end hl hd]
  · rcases (by omega : w = 0 ∨ w = 1 ∨ w = 2 ∨ w = 3) with rfl | rfl | rfl | rfl
    · (try (conv => whnf)); repeat' (first | ((with_reducible_and_instances (first | refine nShr (by assumption) ?_ | refine nShl1' rfl (by assumption) ?_ | refine nAnd ?_ | refine nOr ?_ | refine nXor ?_ | refine nAndNot ?_ | refine nAnd1' rfl ?_)); conv => whnf) | refine Ok.seq ?_ | refine OkL.cons ?_ | ((first | refine Ok.region tok ?_ | refine Ok.region_plan (id := 6) tok follows [(3, 11, []), (7, 11, [])] [.q 0, .q 1, .q 2, .q 3, .q 4, .q 5, .q 6, .q 7, .q 8, .q 9, .q 10, .l 11] (by kernel_rfl) ?_ | refine Ok.region_plan (id := 7) tok follows [(4, 17, []), (8, 17, []), (13, 17, [])] [.q 0, .q 1, .q 2, .q 3, .q 4, .q 5, .q 6, .q 7, .q 8, .q 9, .q 10, .q 11, .q 12, .q 13, .q 14, .q 15, .q 16, .l 17] (by kernel_rfl) ?_ | refine Ok.region_draw tok follows (by kernel_rfl) ?_ | refine Ok.cond ?_); conv => whnf) | refine Ok.block ?_ | ((first | refine Ok.skip ?_ | refine Ok.exit ?_ | refine Ok.ret ?_ | refine nI ?_ | refine ix _ (by assumption) ?_ | refine ixI (by omega) (by assumption) ?_ | refine ix_new _ (by omega) fun _ _ => ?_ | refine ixI_new (by omega) (by omega) fun _ _ => ?_ | refine ⟨_, by assumption, ?_⟩ | refine Alt2.l (aI ?_) | refine Alt2.r (aI ?_)); conv => whnf) | (refine Ok.scope ?_) | ((first | refine Ok.label ?_ | refine rd rfl (by assumption) ?_ | refine ⟨_, .inl ⟨rfl, rfl⟩, ?_⟩ | refine ⟨_, _, rfl, rfl, ?_⟩); conv => whnf) | (refine ⟨fun _ => ?_, fun _ => ?_⟩ <;> (conv => whnf) <;> (try (exfalso; omega))) | ((first | refine aJ ?_ | refine num_any ?_ | refine ⟨_, rfl, ?_⟩); conv => whnf) | fail)
      refine ⟨1, by omega, by omega, ?_⟩
      (conv => whnf)
      rfl
    · (try (conv => whnf)); repeat' (first | ((with_reducible_and_instances (first | refine nShr (by assumption) ?_ | refine nShl1' rfl (by assumption) ?_ | refine nAnd ?_ | refine nOr ?_ | refine nXor ?_ | refine nAndNot ?_ | refine nAnd1' rfl ?_)); conv => whnf) | refine Ok.seq ?_ | refine OkL.cons ?_ | ((first | refine Ok.region tok ?_ | refine Ok.region_plan (id := 6) tok follows [(3, 11, []), (7, 11, [])] [.q 0, .q 1, .q 2, .q 3, .q 4, .q 5, .q 6, .q 7, .q 8, .q 9, .q 10, .l 11] (by kernel_rfl) ?_ | refine Ok.region_plan (id := 7) tok follows [(4, 17, []), (8, 17, []), (13, 17, [])] [.q 0, .q 1, .q 2, .q 3, .q 4, .q 5, .q 6, .q 7, .q 8, .q 9, .q 10, .q 11, .q 12, .q 13, .q 14, .q 15, .q 16, .l 17] (by kernel_rfl) ?_ | refine Ok.region_draw tok follows (by kernel_rfl) ?_ | refine Ok.cond ?_); conv => whnf) | refine Ok.block ?_ | ((first | refine Ok.skip ?_ | refine Ok.exit ?_ | refine Ok.ret ?_ | refine nI ?_ | refine ix _ (by assumption) ?_ | refine ixI (by omega) (by assumption) ?_ | refine ix_new _ (by omega) fun _ _ => ?_ | refine ixI_new (by omega) (by omega) fun _ _ => ?_ | refine ⟨_, by assumption, ?_⟩ | refine Alt2.l (aI ?_) | refine Alt2.r (aI ?_)); conv => whnf) | (refine Ok.scope ?_) | ((first | refine Ok.label ?_ | refine rd rfl (by assumption) ?_ | refine ⟨_, .inl ⟨rfl, rfl⟩, ?_⟩ | refine ⟨_, _, rfl, rfl, ?_⟩); conv => whnf) | (refine ⟨fun _ => ?_, fun _ => ?_⟩ <;> (conv => whnf) <;> (try (exfalso; omega))) | ((first | refine aJ ?_ | refine num_any ?_ | refine ⟨_, rfl, ?_⟩); conv => whnf) | fail)
      refine ⟨2, by omega, by omega, ?_⟩
      (conv => whnf)
      rfl
    · (try (conv => whnf)); repeat' (first | ((with_reducible_and_instances (first | refine nShr (by assumption) ?_ | refine nShl1' rfl (by assumption) ?_ | refine nAnd ?_ | refine nOr ?_ | refine nXor ?_ | refine nAndNot ?_ | refine nAnd1' rfl ?_)); conv => whnf) | refine Ok.seq ?_ | refine OkL.cons ?_ | ((first | refine Ok.region tok ?_ | refine Ok.region_plan (id := 6) tok follows [(3, 11, []), (7, 11, [])] [.q 0, .q 1, .q 2, .q 3, .q 4, .q 5, .q 6, .q 7, .q 8, .q 9, .q 10, .l 11] (by kernel_rfl) ?_ | refine Ok.region_plan (id := 7) tok follows [(4, 17, []), (8, 17, []), (13, 17, [])] [.q 0, .q 1, .q 2, .q 3, .q 4, .q 5, .q 6, .q 7, .q 8, .q 9, .q 10, .q 11, .q 12, .q 13, .q 14, .q 15, .q 16, .l 17] (by kernel_rfl) ?_ | refine Ok.region_draw tok follows (by kernel_rfl) ?_ | refine Ok.cond ?_); conv => whnf) | refine Ok.block ?_ | ((first | refine Ok.skip ?_ | refine Ok.exit ?_ | refine Ok.ret ?_ | refine nI ?_ | refine ix _ (by assumption) ?_ | refine ixI (by omega) (by assumption) ?_ | refine ix_new _ (by omega) fun _ _ => ?_ | refine ixI_new (by omega) (by omega) fun _ _ => ?_ | refine ⟨_, by assumption, ?_⟩ | refine Alt2.l (aI ?_) | refine Alt2.r (aI ?_)); conv => whnf) | (refine Ok.scope ?_) | ((first | refine Ok.label ?_ | refine rd rfl (by assumption) ?_ | refine ⟨_, .inl ⟨rfl, rfl⟩, ?_⟩ | refine ⟨_, _, rfl, rfl, ?_⟩); conv => whnf) | (refine ⟨fun _ => ?_, fun _ => ?_⟩ <;> (conv => whnf) <;> (try (exfalso; omega))) | ((first | refine aJ ?_ | refine num_any ?_ | refine ⟨_, rfl, ?_⟩); conv => whnf) | fail)
      refine ⟨3, by omega, by omega, ?_⟩
      (conv => whnf)
      rfl
    · (try (conv => whnf)); repeat' (first | ((with_reducible_and_instances (first | refine nShr (by assumption) ?_ | refine nShl1' rfl (by assumption) ?_ | refine nAnd ?_ | refine nOr ?_ | refine nXor ?_ | refine nAndNot ?_ | refine nAnd1' rfl ?_)); conv => whnf) | refine Ok.seq ?_ | refine OkL.cons ?_ | ((first | refine Ok.region tok ?_ | refine Ok.region_plan (id := 6) tok follows [(3, 11, []), (7, 11, [])] [.q 0, .q 1, .q 2, .q 3, .q 4, .q 5, .q 6, .q 7, .q 8, .q 9, .q 10, .l 11] (by kernel_rfl) ?_ | refine Ok.region_plan (id := 7) tok follows [(4, 17, []), (8, 17, []), (13, 17, [])] [.q 0, .q 1, .q 2, .q 3, .q 4, .q 5, .q 6, .q 7, .q 8, .q 9, .q 10, .q 11, .q 12, .q 13, .q 14, .q 15, .q 16, .l 17] (by kernel_rfl) ?_ | refine Ok.region_draw tok follows (by kernel_rfl) ?_ | refine Ok.cond ?_); conv => whnf) | refine Ok.block ?_ | ((first | refine Ok.skip ?_ | refine Ok.exit ?_ | refine Ok.ret ?_ | refine nI ?_ | refine ix _ (by assumption) ?_ | refine ixI (by omega) (by assumption) ?_ | refine ix_new _ (by omega) fun _ _ => ?_ | refine ixI_new (by omega) (by omega) fun _ _ => ?_ | refine ⟨_, by assumption, ?_⟩ | refine Alt2.l (aI ?_) | refine Alt2.r (aI ?_)); conv => whnf) | (refine Ok.scope ?_) | ((first | refine Ok.label ?_ | refine rd rfl (by assumption) ?_ | refine ⟨_, .inl ⟨rfl, rfl⟩, ?_⟩ | refine ⟨_, _, rfl, rfl, ?_⟩); conv => whnf) | (refine ⟨fun _ => ?_, fun _ => ?_⟩ <;> (conv => whnf) <;> (try (exfalso; omega))) | ((first | refine aJ ?_ | refine num_any ?_ | refine ⟨_, rfl, ?_⟩); conv => whnf) | fail)
      refine ⟨4, by omega, by omega, ?_⟩
      (conv => whnf)
      rfl
theorem wr_fill {c r : Str} {i : Nat} {a b : UInt8} (ha : c[i]? = some a) (hb : r[i]? = some b) : writeL (c.take (i + 1)) (r.take (i + 1)) ++ c.drop (i + 1) = (writeL (c.take i) (r.take i) ++ c.drop i).set i (wr1 a b) := by
  have hi : i < c.length := (List.getElem?_eq_some_iff.1 ha).1
  have hi2 : i < r.length := (List.getElem?_eq_some_iff.1 hb).1
  have hl : (writeL (c.take i) (r.take i)).length = i := by simp [writeL]; omega
  rw [List.set_append, if_neg (by omega), hl, Nat.sub_self, List.drop_eq_getElem_cons hi, List.set_cons_zero, take_snoc ha, take_snoc hb]
  unfold writeL
  rw [List.zipWith_append (by simp; omega)]
  simp
theorem wr_at {c r : Str} {i : Nat} {a : UInt8} (ha : c[i]? = some a) (hir : i < r.length) : (writeL (c.take i) (r.take i) ++ c.drop i)[i]? = some a := by
  have hi : i < c.length := (List.getElem?_eq_some_iff.1 ha).1
  have hl : (writeL (c.take i) (r.take i)).length = i := by simp [writeL]; omega
  rw [List.getElem?_append_right (by omega), hl, Nat.sub_self, List.getElem?_drop]
  exact ha
set_option maxHeartbeats 4000000 in
theorem rwritten_at (c r : Str) (hc : c.length ≤ 100000) (hl : r.length = c.length) : FSpec Tryz.prog T 96 [.s c, .s r] (fun d _ => d = .s (writeL c r)) := by
  refine FSpec.of_ok tok Tryz.func96 rfl Tryz.call96 (by simp) ?_
  (try (conv => whnf)); repeat' (first | ((with_reducible_and_instances (first | refine nShr (by assumption) ?_ | refine nShl1' rfl (by assumption) ?_ | refine nAnd ?_ | refine nOr ?_ | refine nXor ?_ | refine nAndNot ?_ | refine nAnd1' rfl ?_)); conv => whnf) | refine Ok.seq ?_ | refine OkL.cons ?_ | ((first | refine Ok.region tok ?_ | refine Ok.region_draw tok follows (by kernel_rfl) ?_ | refine Ok.cond ?_); conv => whnf) | refine Ok.block ?_ | ((first | refine Ok.skip ?_ | refine Ok.exit ?_ | refine Ok.ret ?_ | refine nI ?_ | refine ix _ (by assumption) ?_ | refine ixI (by omega) (by assumption) ?_ | refine ix_new _ (by omega) fun _ _ => ?_ | refine ixI_new (by omega) (by omega) fun _ _ => ?_ | refine ⟨_, by assumption, ?_⟩ | refine Alt2.l (aI ?_) | refine Alt2.r (aI ?_)); conv => whnf) | (refine Ok.scope ?_) | ((first | refine Ok.label ?_ | refine rd rfl (by assumption) ?_ | refine ⟨_, .inl ⟨rfl, rfl⟩, ?_⟩ | refine ⟨_, _, rfl, rfl, ?_⟩); conv => whnf) | (refine ⟨fun _ => ?_, fun _ => ?_⟩ <;> (conv => whnf) <;> (try (exfalso; omega))) | ((first | refine aJ ?_ | refine num_any ?_ | refine ⟨_, rfl, ?_⟩); conv => whnf) | fail)
  refine Ok.loopU [1, 5] [6] 1 0 (fun (i : Nat) => [.i .i64 (i : Nat)]) (fun _ b => b) (fun (i : Nat) (_ : Vx.Rows) => [some (Nat.add 5 BIG, (writeL (c.take i) (r.take i) ++ c.drop i).map bcell)]) (fun (i : Nat) => i ≤ c.length) (fun (i : Nat) => c.length - i) (0) (Nat.zero_le _) ?_; (conv => whnf); refine ⟨by ((conv => whnf); first | rfl | (simp [envCat, List.take_of_length_le, cells9, wcells, bcell, crow]; done) | (simp [envCat, List.take_of_length_le, cells9, wcells, bcell, crow]; rw [IntKind.wrap_i64]; omega)), ?_⟩
  intro i hi
  have hrl : (writeL (c.take i) (r.take i) ++ c.drop i).length = c.length := by simp [writeL]; omega
  have hrl2 : ((writeL (c.take i) (r.take i) ++ c.drop i).map bcell).length = c.length := by rw [List.length_map, hrl]
  (conv => whnf)
  by_cases hil : i < c.length
  · obtain ⟨a, ha⟩ : ∃ a, c[i]? = some a := ⟨_, List.getElem?_eq_getElem hil⟩
    obtain ⟨b, hb⟩ : ∃ b, r[i]? = some b := ⟨_, List.getElem?_eq_getElem (by omega)⟩
    have haI : c[((i : Nat) : Int).toNat]? = some a := ha
    have hbI : r[((i : Nat) : Int).toNat]? = some b := hb
    have hfl := wr_fill ha hb
    have hz := wr_at ha (show i < r.length by omega)
    generalize hL : writeL (c.take i) (r.take i) ++ c.drop i = L at *
    have hn : (((120 : UInt8).toNat : Nat) : Int) = 120 := rfl
    by_cases hx : b = 120
    · subst hx
      rw [show wr1 a 120 = a from rfl, set_self hz] at hfl
      (try (conv => whnf)); repeat' (first | ((with_reducible_and_instances (first | refine nShr (by assumption) ?_ | refine nShl1' rfl (by assumption) ?_ | refine nAnd ?_ | refine nOr ?_ | refine nXor ?_ | refine nAndNot ?_ | refine nAnd1' rfl ?_)); conv => whnf) | refine Ok.seq ?_ | refine OkL.cons ?_ | ((first | refine Ok.region tok ?_ | refine Ok.region_draw tok follows (by kernel_rfl) ?_ | refine Ok.cond ?_); conv => whnf) | refine Ok.block ?_ | ((first | refine Ok.skip ?_ | refine Ok.exit ?_ | refine Ok.ret ?_ | refine nI ?_ | refine ix _ (by assumption) ?_ | refine ixI (by omega) (by assumption) ?_ | refine ix_new _ (by omega) fun _ _ => ?_ | refine ixI_new (by omega) (by omega) fun _ _ => ?_ | refine ⟨_, by assumption, ?_⟩ | refine Alt2.l (aI ?_) | refine Alt2.r (aI ?_)); conv => whnf) | (refine Ok.scope ?_) | ((first | refine Ok.label ?_ | refine rd rfl (by assumption) ?_ | refine ⟨_, .inl ⟨rfl, rfl⟩, ?_⟩ | refine ⟨_, _, rfl, rfl, ?_⟩); conv => whnf) | (refine ⟨fun _ => ?_, fun _ => ?_⟩ <;> (conv => whnf) <;> (try (exfalso; omega))) | ((first | refine aJ ?_ | refine num_any ?_ | refine ⟨_, rfl, ?_⟩); conv => whnf) | fail)
      refine ⟨i + 1, by omega, by omega, ?_⟩
      rw [hfl]
      (conv => whnf)
      rfl
    · have hx2 := u8_ne hx
      rw [hn] at hx2
      rw [show wr1 a b = b by unfold wr1; rw [if_neg hx]] at hfl
      (try (conv => whnf)); repeat' (first | ((with_reducible_and_instances (first | refine nShr (by assumption) ?_ | refine nShl1' rfl (by assumption) ?_ | refine nAnd ?_ | refine nOr ?_ | refine nXor ?_ | refine nAndNot ?_ | refine nAnd1' rfl ?_)); conv => whnf) | refine Ok.seq ?_ | refine OkL.cons ?_ | ((first | refine Ok.region tok ?_ | refine Ok.region_draw tok follows (by kernel_rfl) ?_ | refine Ok.cond ?_); conv => whnf) | refine Ok.block ?_ | ((first | refine Ok.skip ?_ | refine Ok.exit ?_ | refine Ok.ret ?_ | refine nI ?_ | refine ix _ (by assumption) ?_ | refine ixI (by omega) (by assumption) ?_ | refine ix_new _ (by omega) fun _ _ => ?_ | refine ixI_new (by omega) (by omega) fun _ _ => ?_ | refine ⟨_, by assumption, ?_⟩ | refine Alt2.l (aI ?_) | refine Alt2.r (aI ?_)); conv => whnf) | (refine Ok.scope ?_) | ((first | refine Ok.label ?_ | refine rd rfl (by assumption) ?_ | refine ⟨_, .inl ⟨rfl, rfl⟩, ?_⟩ | refine ⟨_, _, rfl, rfl, ?_⟩); conv => whnf) | (refine ⟨fun _ => ?_, fun _ => ?_⟩ <;> (conv => whnf) <;> (try (exfalso; omega))) | ((first | refine aJ ?_ | refine num_any ?_ | refine ⟨_, rfl, ?_⟩); conv => whnf) | fail)
      refine st b hz (by simp [bcell]) (by simp [setCells, bcell]) ?_
      rw [toNat_cast, ← hfl]
      (try (conv => whnf)); repeat' (first | ((with_reducible_and_instances (first | refine nShr (by assumption) ?_ | refine nShl1' rfl (by assumption) ?_ | refine nAnd ?_ | refine nOr ?_ | refine nXor ?_ | refine nAndNot ?_ | refine nAnd1' rfl ?_)); conv => whnf) | refine Ok.seq ?_ | refine OkL.cons ?_ | ((first | refine Ok.region tok ?_ | refine Ok.region_draw tok follows (by kernel_rfl) ?_ | refine Ok.cond ?_); conv => whnf) | refine Ok.block ?_ | ((first | refine Ok.skip ?_ | refine Ok.exit ?_ | refine Ok.ret ?_ | refine nI ?_ | refine ix _ (by assumption) ?_ | refine ixI (by omega) (by assumption) ?_ | refine ix_new _ (by omega) fun _ _ => ?_ | refine ixI_new (by omega) (by omega) fun _ _ => ?_ | refine ⟨_, by assumption, ?_⟩ | refine Alt2.l (aI ?_) | refine Alt2.r (aI ?_)); conv => whnf) | (refine Ok.scope ?_) | ((first | refine Ok.label ?_ | refine rd rfl (by assumption) ?_ | refine ⟨_, .inl ⟨rfl, rfl⟩, ?_⟩ | refine ⟨_, _, rfl, rfl, ?_⟩); conv => whnf) | (refine ⟨fun _ => ?_, fun _ => ?_⟩ <;> (conv => whnf) <;> (try (exfalso; omega))) | ((first | refine aJ ?_ | refine num_any ?_ | refine ⟨_, rfl, ?_⟩); conv => whnf) | fail)
      refine ⟨i + 1, by omega, by omega, ?_⟩
      (conv => whnf)
      rfl
  · have hie : i = c.length := by omega
    subst hie
    have hr2 : r.take c.length = r := by rw [← hl]; exact List.take_length
    rw [List.take_length, List.drop_length, List.append_nil, hr2]
    have hbl := writeL_len hl
    (try (conv => whnf)); repeat' (first | ((with_reducible_and_instances (first | refine nShr (by assumption) ?_ | refine nShl1' rfl (by assumption) ?_ | refine nAnd ?_ | refine nOr ?_ | refine nXor ?_ | refine nAndNot ?_ | refine nAnd1' rfl ?_)); conv => whnf) | refine Ok.seq ?_ | refine OkL.cons ?_ | ((first | refine Ok.region tok ?_ | refine Ok.region_draw tok follows (by kernel_rfl) ?_ | refine Ok.cond ?_); conv => whnf) | refine Ok.block ?_ | ((first | refine Ok.skip ?_ | refine Ok.exit ?_ | refine Ok.ret ?_ | refine nI ?_ | refine ix _ (by assumption) ?_ | refine ixI (by omega) (by assumption) ?_ | refine ix_new _ (by omega) fun _ _ => ?_ | refine ixI_new (by omega) (by omega) fun _ _ => ?_ | refine ⟨_, by assumption, ?_⟩ | refine Alt2.l (aI ?_) | refine Alt2.r (aI ?_)); conv => whnf) | (refine Ok.scope ?_) | ((first | refine Ok.label ?_ | refine rd rfl (by assumption) ?_ | refine ⟨_, .inl ⟨rfl, rfl⟩, ?_⟩ | refine ⟨_, _, rfl, rfl, ?_⟩); conv => whnf) | (refine ⟨fun _ => ?_, fun _ => ?_⟩ <;> (conv => whnf) <;> (try (exfalso; omega))) | ((first | refine aJ ?_ | refine num_any ?_ | refine ⟨_, rfl, ?_⟩); conv => whnf) | fail)
    refine ⟨writeL c r, by rw [← hbl]; exact take_all bcell _, ?_⟩
    (try (conv => whnf)); repeat' (first | ((with_reducible_and_instances (first | refine nShr (by assumption) ?_ | refine nShl1' rfl (by assumption) ?_ | refine nAnd ?_ | refine nOr ?_ | refine nXor ?_ | refine nAndNot ?_ | refine nAnd1' rfl ?_)); conv => whnf) | refine Ok.seq ?_ | refine OkL.cons ?_ | ((first | refine Ok.region tok ?_ | refine Ok.region_draw tok follows (by kernel_rfl) ?_ | refine Ok.cond ?_); conv => whnf) | refine Ok.block ?_ | ((first | refine Ok.skip ?_ | refine Ok.exit ?_ | refine Ok.ret ?_ | refine nI ?_ | refine ix _ (by assumption) ?_ | refine ixI (by omega) (by assumption) ?_ | refine ix_new _ (by omega) fun _ _ => ?_ | refine ixI_new (by omega) (by omega) fun _ _ => ?_ | refine ⟨_, by assumption, ?_⟩ | refine Alt2.l (aI ?_) | refine Alt2.r (aI ?_)); conv => whnf) | (refine Ok.scope ?_) | ((first | refine Ok.label ?_ | refine rd rfl (by assumption) ?_ | refine ⟨_, .inl ⟨rfl, rfl⟩, ?_⟩ | refine ⟨_, _, rfl, rfl, ?_⟩); conv => whnf) | (refine ⟨fun _ => ?_, fun _ => ?_⟩ <;> (conv => whnf) <;> (try (exfalso; omega))) | ((first | refine aJ ?_ | refine num_any ?_ | refine ⟨_, rfl, ?_⟩); conv => whnf) | fail)
    refine Or.inl ?_; (conv => whnf)
    rfl
end Go.Proofs.YtaiondckookpiaaGreatDoor
namespace Go.Proofs.YtaiondckookpiaaGreatDoor
open Go Go.Vx
def aft (r : Str) (l : List Str) : List Term := l.map fun c => ⟨writeL c r, []⟩
open Classical in
noncomputable def aftO (n : Int) (ts : List Term) (r : Str) (limit : Int) : Int × Int × List Term := if fitP n (r.length : Int) then (if (expO n ts limit).1 = 0 then bndO n (formT (aft r (expO n ts limit).2)) else ((expO n ts limit).1, 0, [])) else (11, 0, [])
theorem aftO_fit {n : Int} {ts : List Term} {r : Str} {limit : Int} (h : fitP n (r.length : Int)) (h2 : (expO n ts limit).1 = 0) : aftO n ts r limit = bndO n (formT (aft r (expO n ts limit).2)) := by unfold aftO; rw [if_pos h, if_pos h2]
theorem aftO_err {n : Int} {ts : List Term} {r : Str} {limit : Int} (h : fitP n (r.length : Int)) (h2 : (expO n ts limit).1 ≠ 0) : aftO n ts r limit = ((expO n ts limit).1, 0, []) := by unfold aftO; rw [if_pos h, if_neg h2]
theorem aftO_not {n : Int} {ts : List Term} {r : Str} {limit : Int} (h : ¬ fitP n (r.length : Int)) : aftO n ts r limit = (11, 0, []) := by unfold aftO; rw [if_neg h]
theorem termT_nil (p : Str) : termT p [] = some ⟨p, []⟩ := by
  have h : PK p [] = [] := rfl
  rw [termT_pk1 (by rw [h]; simp), h]
theorem aft_good {n : Nat} {r : Str} {l : List Str} (h : AllW n l) (hr : CT r) (hl : r.length = n) (h0 : 0 < n) : ∀ t ∈ aft r l, GoodT n t := by
  intro t ht
  obtain ⟨c, hc, rfl⟩ := List.mem_map.1 ht
  have hh := h c hc
  exact ⟨⟨h0, by dsimp only; rw [writeL_len (by omega)]; exact hh.2, fun m hm => by simp at hm⟩, writeL_cn hh.1 hr (by omega), fun m hm => by simp at hm⟩
theorem aft_snoc {r c : Str} {l : List Str} {i : Nat} (h : l[i]? = some c) : aft r (l.take (i + 1)) = aft r (l.take i) ++ [⟨writeL c r, []⟩] := by
  unfold aft
  rw [take_snoc h, List.map_append]
  rfl
theorem aftO_fine {n : Int} {ts : List Term} {r : Str} {limit : Int} (hf : Fine n ts) (hr : CT r) : Fine (aftO n ts r limit).2.1 (aftO n ts r limit).2.2 := by
  by_cases h : fitP n (r.length : Int)
  · have h1 := h.1
    have h2 := h.2
    by_cases hx : (expO n ts limit).1 = 0
    · rw [aftO_fit h hx]
      exact bndO_fine hf.n0 hf.n1 (aft_good (expO_all hf).1 hr (by omega) (by omega))
    · rw [aftO_err h hx]; exact Fine.nil (n := 0) (by decide) (by decide)
  · rw [aftO_not h]; exact .nil (by decide) (by decide)
set_option maxRecDepth 100000 in
set_option maxHeartbeats 8000000 in
theorem after_at {n : Int} {ts : List Term} (hf : Fine n ts) (ks : List TR) (rm : List (List D)) (h1 : ks.map TR.t = ts) (r : Str) (hr : CT r) (limit : Int) :
    FSpec Tryz.prog T 37 [.agg [.i .i64 n, .lst 112 (ks.map trow) rm], .agg (crow r), .i .i64 limit] (POut (aftO n ts r limit)) := by
  have hfit := fits2_at n (r.length : Int)
  have htx := text_at r hr
  have hex := expand_at hf ks rm h1 limit
  have hal := expO_all (limit := limit) hf
  have hn0 := hf.n0
  have hrl := hr.len
  refine FSpec.of_deferK 6 tok Tryz.func37 rfl Tryz.call37 (by simp) def_after (zd1 := [.i .i64 0, .nilS]) (zd2 := [.i .i64 3]) rfl rfl (by simp [Value.oneCell']) (by simp [Value.oneCell']) rfl ?_
  by_cases hfp : fitP n (r.length : Int)
  · have hnr := hfp.1
    have hn1 := hfp.2
    by_cases hx : (expO n ts limit).1 = 0
    · rw [aftO_fit hfp hx]
      generalize expO n ts limit = o at *
      obtain ⟨x, l⟩ := o
      dsimp only at hx hal ⊢
      subst hx
      have hlm : (l.map crow).length = l.length := by simp
      obtain ⟨hal, hll⟩ := hal
      (try (conv => whnf)); repeat' (first | refine Ok.seq ?_ | refine OkL.cons ?_ | ((first | refine Ok.region tok ?_ | refine Ok.region_plan (id := 5) tok follows [(1, 3, []), (2, 3, [])] [.q 0, .q 1, .l 2, .l 3] (by kernel_rfl) ?_ | refine Ok.region_draw tok follows (by kernel_rfl) ?_ | refine Ok.cond ?_); conv => whnf) | refine Ok.block ?_ | ((first | refine Ok.skip ?_ | refine Ok.exit ?_ | refine Ok.ret ?_ | refine nI ?_ | refine ix _ (by assumption) ?_ | refine ixI (by omega) (by assumption) ?_ | refine ix_new _ (by omega) fun _ _ => ?_ | refine ixI_new (by omega) (by omega) fun _ _ => ?_ | refine ⟨_, by assumption, ?_⟩); conv => whnf) | (refine Or.inl ?_; (conv => whnf); (repeat (refine aI ?_; conv => whnf)); refine ⟨_, htx, rfl, ?_⟩; conv => whnf) | (refine Or.inl ?_; (conv => whnf); (repeat (refine aI ?_; conv => whnf)); refine ⟨_, hfit, rfl, ?_⟩; conv => whnf) | ((first | refine ⟨_, htx, rfl, ?_⟩ | refine ⟨_, hfit, rfl, ?_⟩); conv => whnf) | (refine Or.inr (Or.inl ?_); (conv => whnf); (repeat (refine aI ?_; conv => whnf)); refine ⟨_, htx, ?_⟩; rintro _ _ ⟨rfl, rfl⟩; conv => whnf) | (refine Or.inr (Or.inl ?_); (conv => whnf); (repeat (refine aI ?_; conv => whnf)); refine ⟨_, hfit, ?_⟩; rintro _ _ ⟨rfl, rfl⟩; conv => whnf) | (refine Or.inr (Or.inl ?_); (conv => whnf); (repeat (refine aI ?_; conv => whnf)); refine ⟨_, hex , ?_⟩; rintro _ _ ⟨rfl, rm5, rfl⟩ <;> (conv => whnf)) | ((first | refine Alt2.l (aI ?_) | refine Alt2.r (aI ?_)); conv => whnf) | (refine Ok.scope ?_) | ((first | refine Ok.label ?_ | refine rd rfl (by assumption) ?_ | refine ⟨_, .inl ⟨rfl, rfl⟩, ?_⟩ | refine ⟨_, _, rfl, rfl, ?_⟩); conv => whnf) | (refine ⟨fun _ => ?_, fun _ => ?_⟩ <;> (conv => whnf) <;> (try (exfalso; omega))) | ((first | refine aJ ?_ | refine num_any ?_ | refine ⟨_, rfl, ?_⟩); conv => whnf) | fail)
      all_goals first
        | exact absurd hfp (by assumption)
        | (rename_i h; exact absurd rfl h)
        | skip
      refine OkL.nil ?_
      (conv => whnf)
      refine ⟨2, 3, rfl, rfl, by decide, by decide, by decide, rfl, ?_⟩
      (try (conv => whnf)); repeat' (first | refine Ok.seq ?_ | refine OkL.cons ?_ | ((first | refine Ok.region tok ?_ | refine Ok.region_plan (id := 5) tok follows [(1, 3, []), (2, 3, [])] [.q 0, .q 1, .l 2, .l 3] (by kernel_rfl) ?_ | refine Ok.region_draw tok follows (by kernel_rfl) ?_ | refine Ok.cond ?_); conv => whnf) | refine Ok.block ?_ | ((first | refine Ok.skip ?_ | refine Ok.exit ?_ | refine Ok.ret ?_ | refine nI ?_ | refine ix _ (by assumption) ?_ | refine ixI (by omega) (by assumption) ?_ | refine ix_new _ (by omega) fun _ _ => ?_ | refine ixI_new (by omega) (by omega) fun _ _ => ?_ | refine ⟨_, by assumption, ?_⟩ | refine Alt2.l (aI ?_) | refine Alt2.r (aI ?_)); conv => whnf) | (refine Ok.scope ?_) | ((first | refine Ok.label ?_ | refine rd rfl (by assumption) ?_ | refine ⟨_, .inl ⟨rfl, rfl⟩, ?_⟩ | refine ⟨_, _, rfl, rfl, ?_⟩); conv => whnf) | (refine ⟨fun _ => ?_, fun _ => ?_⟩ <;> (conv => whnf) <;> (try (exfalso; omega))) | ((first | refine aJ ?_ | refine num_any ?_ | refine ⟨_, rfl, ?_⟩); conv => whnf) | fail)
      refine Ok.ghost 9 112 rfl ?_
      (conv => whnf)
      refine Ok.loopU [3, 4, 6, 7, 33, 34, 56, 57] [9, 35] 1 4 (fun (x : Nat × List TR) => [.own 0 x.2.length, .i .i64 (x.1 : Nat)]) (fun _ b => b) (fun (x : Nat × List TR) (_ : Vx.Rows) => [some (112, x.2.map trow)]) (fun (x : Nat × List TR) => x.1 ≤ l.length ∧ x.2.map TR.t = aft r (l.take x.1) ∧ x.2.length ≤ x.1) (fun (x : Nat × List TR) => l.length - x.1) ((0, [])) (⟨Nat.zero_le _, by simp [aft], by simp⟩) ?_; (conv => whnf); refine ⟨by ((conv => whnf); first | rfl | (simp [envCat, List.take_of_length_le, crow, trow, srow, drow]; done) | (simp [envCat, List.take_of_length_le, crow, trow, srow, drow]; rw [IntKind.wrap_i64]; omega)), ?_⟩
      rintro ⟨i, tl⟩ ⟨hi, hl, htl⟩
      dsimp only at hi hl htl ⊢
      have htm : (tl.map trow).length = tl.length := by simp
      (conv => whnf)
      by_cases hil : i < l.length
      · obtain ⟨c, hc⟩ : ∃ c, l[i]? = some c := ⟨_, List.getElem?_eq_getElem hil⟩
        have hcI : l[((i : Nat) : Int).toNat]? = some c := hc
        have hcw := hal c (List.mem_of_getElem? hc)
        have hwr := write_at c r hcw.1 hr (by omega)
        have hcn := writeL_cn hcw.1 hr (show r.length = c.length by omega)
        have hnew : FSpec Tryz.prog T 72 [.agg (crow (writeL c r)), .lst 58 [] []] (NewT (writeL c r) []) := newTerm_at (writeL c r) [] (room := []) hcn (by simp) (by simp [allL]) (by simp) rfl
        (try (conv => whnf)); repeat' (first | refine Ok.seq ?_ | refine OkL.cons ?_ | ((first | refine Ok.region tok ?_ | refine Ok.region_plan (id := 5) tok follows [(1, 3, []), (2, 3, [])] [.q 0, .q 1, .l 2, .l 3] (by kernel_rfl) ?_ | refine Ok.region_draw tok follows (by kernel_rfl) ?_ | refine Ok.cond ?_); conv => whnf) | refine Ok.block ?_ | ((first | refine Ok.skip ?_ | refine Ok.exit ?_ | refine Ok.ret ?_ | refine nI ?_ | refine ix _ (by assumption) ?_ | refine ixI (by omega) (by assumption) ?_ | refine ix_new _ (by omega) fun _ _ => ?_ | refine ixI_new (by omega) (by omega) fun _ _ => ?_ | refine ⟨_, by assumption, ?_⟩); conv => whnf) | (refine Or.inr (Or.inl ?_); (conv => whnf); (repeat (refine aI ?_; conv => whnf)); refine ⟨_, hwr, ?_⟩; rintro _ _ ⟨rfl, rfl⟩ <;> (conv => whnf)) | (refine Or.inr (Or.inl ?_); (conv => whnf); (repeat (refine aI ?_; conv => whnf)); refine ⟨_, hnew , ?_⟩; rintro _ _ ⟨rfl, (⟨ht, rfl⟩ | ⟨t, rm4, ht, rfl⟩)⟩ <;> (conv => whnf)) | ((first | refine Alt2.l (aI ?_) | refine Alt2.r (aI ?_)); conv => whnf) | (refine Ok.scope ?_) | ((first | refine Ok.label ?_ | refine rd rfl (by assumption) ?_ | refine ⟨_, .inl ⟨rfl, rfl⟩, ?_⟩ | refine ⟨_, _, rfl, rfl, ?_⟩); conv => whnf) | (refine ⟨fun _ => ?_, fun _ => ?_⟩ <;> (conv => whnf) <;> (try (exfalso; omega))) | ((first | refine aJ ?_ | refine num_any ?_ | refine ⟨_, rfl, ?_⟩); conv => whnf) | fail)
        all_goals first
          | (rename_i h; exact absurd trivial h)
          | (rename_i h; cases h; done)
          | (exfalso; rw [termT_nil] at ht; cases ht; done)
          | (rw [termT_nil] at ht
             cases ht
             refine ⟨(i + 1, tl ++ [⟨⟨writeL c r, []⟩, rm4⟩]), by dsimp only; omega, ⟨by dsimp only; omega, by dsimp only; rw [aft_snoc hc, List.map_append, hl]; rfl, by simp; omega⟩, ?_⟩
             (conv => whnf)
             simp [envCat])
      · have hie : i = l.length := by omega
        subst hie
        rw [List.take_length] at hl
        have hgood := aft_good hal hr (show r.length = n.toNat by omega) (by omega)
        have hle : ∀ x ∈ tl, x.t.less.length ≤ 1048576 := fun x hx => by
          obtain ⟨c, _, hc⟩ := List.mem_map.1 (mem_of_map hl hx)
          rw [← hc]
          simp
        have hto : ∀ x ∈ tl, TO n.toNat x := fun x hx => (hgood _ (mem_of_map hl hx)).to (hle x hx)
        have htk : List.take tl.length (tl.map trow) = tl.map trow := List.take_of_length_le (by simp)
        rw [← hl]
        by_cases hsz : szT (formT (tl.map TR.t)) ≤ 128
        · rw [bndO_le hsz]
          (try (conv => whnf)); repeat' (first | refine Ok.seq ?_ | refine OkL.cons ?_ | ((first | refine Ok.region tok ?_ | refine Ok.region_plan (id := 5) tok follows [(1, 3, []), (2, 3, [])] [.q 0, .q 1, .l 2, .l 3] (by kernel_rfl) ?_ | refine Ok.region_draw tok follows (by kernel_rfl) ?_ | refine Ok.cond ?_); conv => whnf) | refine Ok.block ?_ | ((first | refine Ok.skip ?_ | refine Ok.exit ?_ | refine Ok.ret ?_ | refine nI ?_ | refine ix _ (by assumption) ?_ | refine ixI (by omega) (by assumption) ?_ | refine ix_new _ (by omega) fun _ _ => ?_ | refine ixI_new (by omega) (by omega) fun _ _ => ?_ | refine ⟨_, by assumption, ?_⟩); conv => whnf) | (refine Or.inr (Or.inl ?_); (conv => whnf); (repeat (refine aI ?_; conv => whnf)); refine ⟨_, form_at n n.toNat tl (by omega) hto htk hsz , ?_⟩; rintro _ _ ⟨ks3, rm3, rfl, rfl, hks3, hkm⟩ <;> (conv => whnf)) | ((first | refine Alt2.l (aI ?_) | refine Alt2.r (aI ?_)); conv => whnf) | (refine Ok.scope ?_) | ((first | refine Ok.label ?_ | refine rd rfl (by assumption) ?_ | refine ⟨_, .inl ⟨rfl, rfl⟩, ?_⟩ | refine ⟨_, _, rfl, rfl, ?_⟩); conv => whnf) | (refine ⟨fun _ => ?_, fun _ => ?_⟩ <;> (conv => whnf) <;> (try (exfalso; omega))) | ((first | refine aJ ?_ | refine num_any ?_ | refine ⟨_, rfl, ?_⟩); conv => whnf) | fail)
          refine Or.inl ?_; (conv => whnf)
          exact ⟨rfl, _, rfl, ks3, rm3, rfl, hks3⟩
        · rw [bndO_gt (by omega)]
          (try (conv => whnf)); repeat' (first | (refine Ok.region_pan (id := 15) tok 3 ?_; (conv => whnf)) | refine Ok.seq ?_ | refine OkL.cons ?_ | ((first | refine Ok.region tok ?_ | refine Ok.cond ?_); conv => whnf) | refine Ok.block ?_ | ((first | refine Ok.skip ?_ | refine Ok.exit ?_ | refine Ok.ret ?_ | refine nI ?_ | refine ix _ (by assumption) ?_ | refine ixI (by omega) (by assumption) ?_ | refine ix_new _ (by omega) fun _ _ => ?_ | refine ixI_new (by omega) (by omega) fun _ _ => ?_ | refine ⟨_, by assumption, ?_⟩ | refine Alt2.l (aI ?_) | refine Alt2.r (aI ?_)); conv => whnf) | (refine Ok.scope ?_) | ((first | refine Ok.label ?_ | refine rd rfl (by assumption) ?_ | refine ⟨_, .inl ⟨rfl, rfl⟩, ?_⟩ | refine ⟨_, _, rfl, rfl, ?_⟩); conv => whnf) | (refine ⟨fun _ => ?_, fun _ => ?_⟩ <;> (conv => whnf) <;> (try (exfalso; omega))) | ((first | refine aJ ?_ | refine num_any ?_ | refine ⟨_, rfl, ?_⟩); conv => whnf) | fail)
          refine ⟨_, form_pan n n.toNat tl (by omega) hto htk (by omega), ?_⟩
          (conv => whnf)
          refine ⟨rfl, 2, 3, _, _, rfl, rfl, rfl, rfl, rfl, rfl, by decide, rfl, ?_⟩
          (conv => whnf)
          refine Or.inl ?_; (conv => whnf)
          exact ⟨rfl, _, rfl, PSp.nil 0⟩
    · rw [aftO_err hfp hx]
      generalize expO n ts limit = o at *
      obtain ⟨x, l⟩ := o
      dsimp only at hx hal ⊢
      (try (conv => whnf)); repeat' (first | refine Ok.seq ?_ | refine OkL.cons ?_ | ((first | refine Ok.region tok ?_ | refine Ok.region_plan (id := 5) tok follows [(1, 3, []), (2, 3, [])] [.q 0, .q 1, .l 2, .l 3] (by kernel_rfl) ?_ | refine Ok.region_draw tok follows (by kernel_rfl) ?_ | refine Ok.cond ?_); conv => whnf) | refine Ok.block ?_ | ((first | refine Ok.skip ?_ | refine Ok.exit ?_ | refine Ok.ret ?_ | refine nI ?_ | refine ix _ (by assumption) ?_ | refine ixI (by omega) (by assumption) ?_ | refine ix_new _ (by omega) fun _ _ => ?_ | refine ixI_new (by omega) (by omega) fun _ _ => ?_ | refine ⟨_, by assumption, ?_⟩); conv => whnf) | (refine Or.inl ?_; (conv => whnf); (repeat (refine aI ?_; conv => whnf)); refine ⟨_, htx, rfl, ?_⟩; conv => whnf) | (refine Or.inl ?_; (conv => whnf); (repeat (refine aI ?_; conv => whnf)); refine ⟨_, hfit, rfl, ?_⟩; conv => whnf) | ((first | refine ⟨_, htx, rfl, ?_⟩ | refine ⟨_, hfit, rfl, ?_⟩); conv => whnf) | (refine Or.inr (Or.inl ?_); (conv => whnf); (repeat (refine aI ?_; conv => whnf)); refine ⟨_, htx, ?_⟩; rintro _ _ ⟨rfl, rfl⟩; conv => whnf) | (refine Or.inr (Or.inl ?_); (conv => whnf); (repeat (refine aI ?_; conv => whnf)); refine ⟨_, hfit, ?_⟩; rintro _ _ ⟨rfl, rfl⟩; conv => whnf) | (refine Or.inr (Or.inl ?_); (conv => whnf); (repeat (refine aI ?_; conv => whnf)); refine ⟨_, hex , ?_⟩; rintro _ _ ⟨rfl, rm5, rfl⟩ <;> (conv => whnf)) | ((first | refine Alt2.l (aI ?_) | refine Alt2.r (aI ?_)); conv => whnf) | (refine Ok.scope ?_) | ((first | refine Ok.label ?_ | refine rd rfl (by assumption) ?_ | refine ⟨_, .inl ⟨rfl, rfl⟩, ?_⟩ | refine ⟨_, _, rfl, rfl, ?_⟩); conv => whnf) | (refine ⟨fun _ => ?_, fun _ => ?_⟩ <;> (conv => whnf) <;> (try (exfalso; omega))) | ((first | refine aJ ?_ | refine num_any ?_ | refine ⟨_, rfl, ?_⟩); conv => whnf) | fail)
      all_goals first
        | exact absurd hfp (by assumption)
        | (rename_i h; exact absurd hx h)
        | (refine Or.inl ?_; (conv => whnf)
           exact ⟨rfl, _, rfl, PSp.nil 0⟩)
  · rw [aftO_not hfp]
    (try (conv => whnf)); repeat' (first | refine Ok.seq ?_ | refine OkL.cons ?_ | ((first | refine Ok.region tok ?_ | refine Ok.region_plan (id := 5) tok follows [(1, 3, []), (2, 3, [])] [.q 0, .q 1, .l 2, .l 3] (by kernel_rfl) ?_ | refine Ok.region_draw tok follows (by kernel_rfl) ?_ | refine Ok.cond ?_); conv => whnf) | refine Ok.block ?_ | ((first | refine Ok.skip ?_ | refine Ok.exit ?_ | refine Ok.ret ?_ | refine nI ?_ | refine ix _ (by assumption) ?_ | refine ixI (by omega) (by assumption) ?_ | refine ix_new _ (by omega) fun _ _ => ?_ | refine ixI_new (by omega) (by omega) fun _ _ => ?_ | refine ⟨_, by assumption, ?_⟩); conv => whnf) | (refine Or.inl ?_; (conv => whnf); (repeat (refine aI ?_; conv => whnf)); refine ⟨_, htx, rfl, ?_⟩; conv => whnf) | (refine Or.inl ?_; (conv => whnf); (repeat (refine aI ?_; conv => whnf)); refine ⟨_, hfit, rfl, ?_⟩; conv => whnf) | ((first | refine ⟨_, htx, rfl, ?_⟩ | refine ⟨_, hfit, rfl, ?_⟩); conv => whnf) | (refine Or.inr (Or.inl ?_); (conv => whnf); (repeat (refine aI ?_; conv => whnf)); refine ⟨_, htx, ?_⟩; rintro _ _ ⟨rfl, rfl⟩; conv => whnf) | (refine Or.inr (Or.inl ?_); (conv => whnf); (repeat (refine aI ?_; conv => whnf)); refine ⟨_, hfit, ?_⟩; rintro _ _ ⟨rfl, rfl⟩; conv => whnf) | ((first | refine Alt2.l (aI ?_) | refine Alt2.r (aI ?_)); conv => whnf) | (refine Ok.scope ?_) | ((first | refine Ok.label ?_ | refine rd rfl (by assumption) ?_ | refine ⟨_, .inl ⟨rfl, rfl⟩, ?_⟩ | refine ⟨_, _, rfl, rfl, ?_⟩); conv => whnf) | (refine ⟨fun _ => ?_, fun _ => ?_⟩ <;> (conv => whnf) <;> (try (exfalso; omega))) | ((first | refine aJ ?_ | refine num_any ?_ | refine ⟨_, rfl, ?_⟩); conv => whnf) | fail)
    · refine Or.inl ?_; (conv => whnf)
      exact ⟨rfl, _, rfl, PSp.nil 0⟩
    · rename_i h
      exact absurd hfp h
set_option maxRecDepth 100000 in
set_option maxHeartbeats 8000000 in
theorem rafter_at {n : Int} {ts : List Term} (hf : Fine n ts) (ks : List TR) (rm : List (List D)) (h1 : ks.map TR.t = ts) (r : Str) (hr : CT r) (limit : Int) :
    FSpec Tryz.prog T 38 [.agg [.i .i64 n, .lst 120 (ks.map drow) rm], .s r, .i .i64 limit] (DOut (aftO n ts r limit)) := by
  have hex := rexpand_at hf ks rm h1 limit
  have hal := expO_all (limit := limit) hf
  have hn0 := hf.n0
  have hnm := hf.n1
  have hrl := hr.len
  refine FSpec.of_ok tok Tryz.func38 rfl Tryz.call38 (by simp) ?_
  by_cases hfp : fitP n (r.length : Int)
  · have hnr := hfp.1
    have hn1 := hfp.2
    by_cases hx : (expO n ts limit).1 = 0
    · rw [aftO_fit hfp hx]
      generalize expO n ts limit = o at *
      obtain ⟨x, l⟩ := o
      dsimp only at hx hal ⊢
      subst hx
      have hlm : (l.map srow).length = l.length := by simp
      obtain ⟨hal, hll⟩ := hal
      (try (conv => whnf)); repeat' (first | refine Ok.seq ?_ | refine OkL.cons ?_ | ((first | refine Ok.region tok ?_ | refine Ok.region_draw tok follows (by kernel_rfl) ?_ | refine Ok.cond ?_); conv => whnf) | refine Ok.block ?_ | ((first | refine Ok.skip ?_ | refine Ok.exit ?_ | refine Ok.ret ?_ | refine nI ?_ | refine ix _ (by assumption) ?_ | refine ixI (by omega) (by assumption) ?_ | refine ix_new _ (by omega) fun _ _ => ?_ | refine ixI_new (by omega) (by omega) fun _ _ => ?_ | refine ⟨_, by assumption, ?_⟩); conv => whnf) | (refine Or.inr (Or.inl ?_); (conv => whnf); (repeat (refine aI ?_; conv => whnf)); refine ⟨_, hex , ?_⟩; rintro _ _ ⟨rfl, rm5, rfl⟩ <;> (conv => whnf)) | ((first | refine Alt2.l (aI ?_) | refine Alt2.r (aI ?_)); conv => whnf) | (refine Ok.scope ?_) | ((first | refine Ok.label ?_ | refine rd rfl (by assumption) ?_ | refine ⟨_, .inl ⟨rfl, rfl⟩, ?_⟩ | refine ⟨_, _, rfl, rfl, ?_⟩); conv => whnf) | (refine ⟨fun _ => ?_, fun _ => ?_⟩ <;> (conv => whnf) <;> (try (exfalso; omega))) | ((first | refine aJ ?_ | refine num_any ?_ | refine ⟨_, rfl, ?_⟩); conv => whnf) | fail)
      all_goals first
        | (exfalso; omega)
        | (rename_i h; exact absurd rfl h)
        | skip
      refine Ok.ghost 10 120 rfl ?_
      (conv => whnf)
      refine Ok.loopU [1, 3, 6, 8] [10, 11] 1 2 (fun (x : Nat × List TR) => [.own 0 x.2.length, .i .i64 (x.1 : Nat)]) (fun _ b => b) (fun (x : Nat × List TR) (_ : Vx.Rows) => [some (120, x.2.map drow)]) (fun (x : Nat × List TR) => x.1 ≤ l.length ∧ x.2.map TR.t = aft r (l.take x.1) ∧ x.2.length ≤ x.1) (fun (x : Nat × List TR) => l.length - x.1) ((0, [])) (⟨Nat.zero_le _, by simp [aft], by simp⟩) ?_; (conv => whnf); refine ⟨by ((conv => whnf); first | rfl | (simp [envCat, List.take_of_length_le, crow, trow, srow, drow]; done) | (simp [envCat, List.take_of_length_le, crow, trow, srow, drow]; rw [IntKind.wrap_i64]; omega)), ?_⟩
      rintro ⟨i, tl⟩ ⟨hi, hl, htl⟩
      dsimp only at hi hl htl ⊢
      have htm : (tl.map drow).length = tl.length := by simp
      (conv => whnf)
      by_cases hil : i < l.length
      · obtain ⟨c, hc⟩ : ∃ c, l[i]? = some c := ⟨_, List.getElem?_eq_getElem hil⟩
        have hcI : l[((i : Nat) : Int).toNat]? = some c := hc
        have hcw := hal c (List.mem_of_getElem? hc)
        have hwr := rwritten_at c r (by omega) (by omega)
        (try (conv => whnf)); repeat' (first | refine Ok.seq ?_ | refine OkL.cons ?_ | ((first | refine Ok.region tok ?_ | refine Ok.region_draw tok follows (by kernel_rfl) ?_ | refine Ok.cond ?_); conv => whnf) | refine Ok.block ?_ | ((first | refine Ok.skip ?_ | refine Ok.exit ?_ | refine Ok.ret ?_ | refine nI ?_ | refine ix _ (by assumption) ?_ | refine ixI (by omega) (by assumption) ?_ | refine ix_new _ (by omega) fun _ _ => ?_ | refine ixI_new (by omega) (by omega) fun _ _ => ?_ | refine ⟨_, by assumption, ?_⟩); conv => whnf) | (refine Or.inl ?_; (conv => whnf); (repeat (refine aI ?_; conv => whnf)); refine ⟨_, hwr, rfl, ?_⟩; conv => whnf) | (refine ⟨_, hwr, rfl, ?_⟩; conv => whnf) | (refine Or.inr (Or.inl ?_); (conv => whnf); (repeat (refine aI ?_; conv => whnf)); refine ⟨_, hwr, ?_⟩; rintro _ _ ⟨rfl, rfl⟩; conv => whnf) | ((first | refine Alt2.l (aI ?_) | refine Alt2.r (aI ?_)); conv => whnf) | (refine Ok.scope ?_) | ((first | refine Ok.label ?_ | refine rd rfl (by assumption) ?_ | refine ⟨_, .inl ⟨rfl, rfl⟩, ?_⟩ | refine ⟨_, _, rfl, rfl, ?_⟩); conv => whnf) | (refine ⟨fun _ => ?_, fun _ => ?_⟩ <;> (conv => whnf) <;> (try (exfalso; omega))) | ((first | refine aJ ?_ | refine num_any ?_ | refine ⟨_, rfl, ?_⟩); conv => whnf) | fail)
        refine ⟨(i + 1, tl ++ [⟨⟨writeL c r, []⟩, []⟩]), by dsimp only; omega, ⟨by dsimp only; omega, by dsimp only; rw [aft_snoc hc, List.map_append, hl]; rfl, by simp; omega⟩, ?_⟩
        (conv => whnf)
        simp [envCat]
      · have hie : i = l.length := by omega
        subst hie
        rw [List.take_length] at hl
        have hgood := aft_good hal hr (show r.length = n.toNat by omega) (by omega)
        have hle : ∀ x ∈ tl, x.t.less.length ≤ 1048576 := fun x hx => by
          obtain ⟨c, _, hc⟩ := List.mem_map.1 (mem_of_map hl hx)
          rw [← hc]
          simp
        have hrn : ∀ x ∈ tl, RN2 x ∧ x.t.Ok n.toNat := fun x hx => (hgood _ (mem_of_map hl hx)).rn (hle x hx)
        have htk : List.take tl.length (tl.map drow) = tl.map drow := List.take_of_length_le (by simp)
        have hln : (tl.map TR.t).length ≤ 1048576 := by simp; omega
        rw [← hl]
        (try (conv => whnf)); repeat' (first | refine Ok.seq ?_ | refine OkL.cons ?_ | ((first | refine Ok.region tok ?_ | refine Ok.region_draw tok follows (by kernel_rfl) ?_ | refine Ok.cond ?_); conv => whnf) | refine Ok.block ?_ | ((first | refine Ok.skip ?_ | refine Ok.exit ?_ | refine Ok.ret ?_ | refine nI ?_ | refine ix _ (by assumption) ?_ | refine ixI (by omega) (by assumption) ?_ | refine ix_new _ (by omega) fun _ _ => ?_ | refine ixI_new (by omega) (by omega) fun _ _ => ?_ | refine ⟨_, by assumption, ?_⟩); conv => whnf) | (refine Or.inr (Or.inl ?_); (conv => whnf); (repeat (refine aI ?_; conv => whnf)); refine ⟨_, rform_at n n.toNat tl (by omega) hrn htk , ?_⟩; rintro _ _ ⟨ks3, rm3, rfl, rfl, hks3, hkm⟩ <;> (conv => whnf)) | (refine Or.inr (Or.inl ?_); (conv => whnf); (repeat (refine aI ?_; conv => whnf)); refine ⟨_, rbound_at n ks3 (form_len hks3 hln) (fun x hx => hle x (hkm x hx)) rfl , ?_⟩; rintro _ _ ⟨rfl, (⟨hb, rfl⟩ | ⟨hb, rfl⟩)⟩ <;> (conv => whnf)) | ((first | refine Alt2.l (aI ?_) | refine Alt2.r (aI ?_)); conv => whnf) | (refine Ok.scope ?_) | ((first | refine Ok.label ?_ | refine rd rfl (by assumption) ?_ | refine ⟨_, .inl ⟨rfl, rfl⟩, ?_⟩ | refine ⟨_, _, rfl, rfl, ?_⟩); conv => whnf) | (refine ⟨fun _ => ?_, fun _ => ?_⟩ <;> (conv => whnf) <;> (try (exfalso; omega))) | ((first | refine aJ ?_ | refine num_any ?_ | refine ⟨_, rfl, ?_⟩); conv => whnf) | fail)
        · refine Or.inl ?_; (conv => whnf)
          exact DOut.form hks3 hb
        · refine Or.inl ?_; (conv => whnf)
          exact DOut.many hks3 hb
    · rw [aftO_err hfp hx]
      generalize expO n ts limit = o at *
      obtain ⟨x, l⟩ := o
      dsimp only at hx hal ⊢
      (try (conv => whnf)); repeat' (first | refine Ok.seq ?_ | refine OkL.cons ?_ | ((first | refine Ok.region tok ?_ | refine Ok.region_draw tok follows (by kernel_rfl) ?_ | refine Ok.cond ?_); conv => whnf) | refine Ok.block ?_ | ((first | refine Ok.skip ?_ | refine Ok.exit ?_ | refine Ok.ret ?_ | refine nI ?_ | refine ix _ (by assumption) ?_ | refine ixI (by omega) (by assumption) ?_ | refine ix_new _ (by omega) fun _ _ => ?_ | refine ixI_new (by omega) (by omega) fun _ _ => ?_ | refine ⟨_, by assumption, ?_⟩); conv => whnf) | (refine Or.inr (Or.inl ?_); (conv => whnf); (repeat (refine aI ?_; conv => whnf)); refine ⟨_, hex , ?_⟩; rintro _ _ ⟨rfl, rm5, rfl⟩ <;> (conv => whnf)) | ((first | refine Alt2.l (aI ?_) | refine Alt2.r (aI ?_)); conv => whnf) | (refine Ok.scope ?_) | ((first | refine Ok.label ?_ | refine rd rfl (by assumption) ?_ | refine ⟨_, .inl ⟨rfl, rfl⟩, ?_⟩ | refine ⟨_, _, rfl, rfl, ?_⟩); conv => whnf) | (refine ⟨fun _ => ?_, fun _ => ?_⟩ <;> (conv => whnf) <;> (try (exfalso; omega))) | ((first | refine aJ ?_ | refine num_any ?_ | refine ⟨_, rfl, ?_⟩); conv => whnf) | fail)
      all_goals first
        | (exfalso; omega)
        | (rename_i h; exact absurd hx h)
        | (refine Or.inl ?_; (conv => whnf)
           exact ⟨rfl, _, rfl, DSp.nil 0⟩)
  · rw [aftO_not hfp]
    (try (conv => whnf)); repeat' (first | refine Ok.seq ?_ | refine OkL.cons ?_ | ((first | refine Ok.region tok ?_ | refine Ok.region_draw tok follows (by kernel_rfl) ?_ | refine Ok.cond ?_); conv => whnf) | refine Ok.block ?_ | ((first | refine Ok.skip ?_ | refine Ok.exit ?_ | refine Ok.ret ?_ | refine nI ?_ | refine ix _ (by assumption) ?_ | refine ixI (by omega) (by assumption) ?_ | refine ix_new _ (by omega) fun _ _ => ?_ | refine ixI_new (by omega) (by omega) fun _ _ => ?_ | refine ⟨_, by assumption, ?_⟩ | refine Alt2.l (aI ?_) | refine Alt2.r (aI ?_)); conv => whnf) | (refine Ok.scope ?_) | ((first | refine Ok.label ?_ | refine rd rfl (by assumption) ?_ | refine ⟨_, .inl ⟨rfl, rfl⟩, ?_⟩ | refine ⟨_, _, rfl, rfl, ?_⟩); conv => whnf) | (refine ⟨fun _ => ?_, fun _ => ?_⟩ <;> (conv => whnf) <;> (try (exfalso; omega))) | ((first | refine aJ ?_ | refine num_any ?_ | refine ⟨_, rfl, ?_⟩); conv => whnf) | fail)
    all_goals first
      | (refine Or.inl ?_; (conv => whnf)
         exact ⟨rfl, _, rfl, DSp.nil 0⟩)
      | (exfalso; exact hfp ⟨by omega, by omega⟩)
set_option maxRecDepth 100000 in
set_option maxHeartbeats 4000000 in
theorem aftersLaw_at (n : Int) (a : Str) (w : Str) (limit : Int) : FSpec Tryz.prog T 10 [.i .i64 n, .s a, .s w, .i .i64 limit] (fun r _ => r = .b True) := by
  have hf := parO_fine n a
  have r1 := read_at n a
  unfold ReadO at r1
  generalize parO n a = o1 at *
  obtain ⟨e1, n1, ts⟩ := o1
  dsimp only at hf r1
  have hj := aftO_fine (r := zer w) (limit := limit) hf (zer_ct w)
  refine FSpec.of_ok tok Tryz.func10 rfl Tryz.call10 (by simp) ?_
  (try (conv => whnf)); repeat' (first | refine Ok.seq ?_ | refine OkL.cons ?_ | ((first | refine Ok.region tok ?_ | refine Ok.region_tree (id := 4) tok follows [(0, 4, []), (2, 4, []), (0, 9, []), (2, 9, []), (4, 9, []), (8, 9, [])] (.q 0 (.q 1 (.q 3 (.alt 2 (.alt 4 (.q 5 (.q 6 (.q 7 (.l 8 (.l 9 (.q 10 .nil)))))) (.alt 8 (.l 4 (.q 5 (.q 6 (.q 7 (.l 9 (.q 10 .nil)))))) .nil)) (.alt 8 (.l 2 (.l 4 (.q 5 (.q 6 (.q 7 (.l 9 (.q 10 .nil))))))) .nil))))) (by kernel_rfl) ?_ | refine Ok.region_tree (id := 5) tok follows [(0, 4, []), (2, 4, []), (0, 9, []), (2, 9, []), (4, 9, []), (8, 9, [])] (.q 0 (.q 1 (.q 3 (.alt 2 (.alt 4 (.q 5 (.q 6 (.q 7 (.l 8 (.l 9 (.q 10 .nil)))))) (.alt 8 (.l 4 (.q 5 (.q 6 (.q 7 (.l 9 (.q 10 .nil)))))) .nil)) (.alt 8 (.l 2 (.l 4 (.q 5 (.q 6 (.q 7 (.l 9 (.q 10 .nil))))))) .nil))))) (by kernel_rfl) ?_ | refine Ok.region_draw tok follows (by kernel_rfl) ?_ | refine Ok.cond ?_); conv => whnf) | refine Ok.block ?_ | ((first | refine Ok.skip ?_ | refine Ok.exit ?_ | refine Ok.ret ?_ | refine nI ?_ | refine ix _ (by assumption) ?_ | refine ixI (by omega) (by assumption) ?_ | refine ix_new _ (by omega) fun _ _ => ?_ | refine ixI_new (by omega) (by omega) fun _ _ => ?_ | refine ⟨_, by assumption, ?_⟩); conv => whnf) | (refine Or.inl ?_; (conv => whnf); (repeat (refine aI ?_; conv => whnf)); refine ⟨_, zeroed_at w, rfl, ?_⟩; conv => whnf) | (refine Or.inl ?_; (conv => whnf); (repeat (refine aI ?_; conv => whnf)); refine ⟨_, same_at hj ks3 kd3 rm3 rd3 h3 h3d, rfl, ?_⟩; conv => whnf) | ((first | refine ⟨_, zeroed_at w, rfl, ?_⟩ | refine ⟨_, same_at hj ks3 kd3 rm3 rd3 h3 h3d, rfl, ?_⟩); conv => whnf) | (refine Or.inr (Or.inl ?_); (conv => whnf); (repeat (refine aI ?_; conv => whnf)); refine ⟨_, zeroed_at w, ?_⟩; rintro _ _ ⟨rfl, rfl⟩; conv => whnf) | (refine Or.inr (Or.inl ?_); (conv => whnf); (repeat (refine aI ?_; conv => whnf)); refine ⟨_, same_at hj ks3 kd3 rm3 rd3 h3 h3d, ?_⟩; rintro _ _ ⟨rfl, rfl⟩; conv => whnf) | (refine Or.inr (Or.inl ?_); (conv => whnf); (repeat (refine aI ?_; conv => whnf)); refine ⟨_, r1 , ?_⟩; rintro _ _ ⟨rfl, ks1, kd1, rm1, rd1, rfl, h1, h1d⟩ <;> (conv => whnf)) | (refine Or.inr (Or.inl ?_); (conv => whnf); (repeat (refine aI ?_; conv => whnf)); refine ⟨_, cube_at w, ?_⟩; rintro _ _ ⟨rfl, rfl⟩ <;> (conv => whnf)) | (refine Or.inr (Or.inl ?_); (conv => whnf); (repeat (refine aI ?_; conv => whnf)); refine ⟨_, after_at hf ks1 rm1 h1 (zer w) (zer_ct w) limit , ?_⟩; rintro _ _ ⟨rfl, _, rfl, ks3, rm3, rfl, h3⟩ <;> (conv => whnf)) | (refine Or.inr (Or.inl ?_); (conv => whnf); (repeat (refine aI ?_; conv => whnf)); refine ⟨_, rafter_at hf kd1 rd1 h1d (zer w) (zer_ct w) limit , ?_⟩; rintro _ _ ⟨rfl, _, rfl, kd3, rd3, rfl, h3d⟩ <;> (conv => whnf)) | ((first | refine Alt2.l (aI ?_) | refine Alt2.r (aI ?_)); conv => whnf) | (refine Ok.scope ?_) | ((first | refine Ok.label ?_ | refine rd rfl (by assumption) ?_ | refine ⟨_, .inl ⟨rfl, rfl⟩, ?_⟩ | refine ⟨_, _, rfl, rfl, ?_⟩); conv => whnf) | (refine ⟨fun _ => ?_, fun _ => ?_⟩ <;> (conv => whnf) <;> (try (exfalso; omega))) | ((first | refine aJ ?_ | refine num_any ?_ | refine ⟨_, rfl, ?_⟩); conv => whnf) | (exact True.intro) | (refine And.intro ?_ ?_ <;> (conv => whnf)) | fail)
  all_goals first
    | exact absurd trivial (by assumption)
    | (refine Or.inl ?_; (conv => whnf)
       rfl)
end Go.Proofs.YtaiondckookpiaaGreatDoor
