/- The walks and the plain laws that a law of spaces needs, part 7 of 7. -/
import Derived.Test.YtaiondckookpiaaGreatDoorPEF
set_option linter.unusedVariables false
set_option linter.unusedSimpArgs false
namespace Go.Proofs.YtaiondckookpiaaGreatDoor
open Go Go.Vx
set_option maxRecDepth 100000 in
set_option maxHeartbeats 8000000 in
theorem rexpand_at {n : Int} {ts : List Term} (hf : Fine n ts) (ks : List TR) (rm : List (List D)) (h1 : ks.map TR.t = ts) (limit : Int) :
    FSpec Tryz.prog T 32 [.agg [.i .i64 n, .lst 120 (ks.map drow) rm], .i .i64 limit] (ROut (expO n ts limit)) := by
  have hl1 : ks.length = ts.length := by rw [← h1, List.length_map]
  have hm1 : (ks.map drow).length = ts.length := by simp [hl1]
  have hk1 := hf.len
  have hn0 := hf.n0
  refine FSpec.of_ok tok Tryz.func32 rfl Tryz.call32 (by simp) ?_
  by_cases hz : n = 0
  · rw [expO_zero hz]
    subst hz
    (try (conv => whnf)); repeat' (first | refine Ok.seq ?_ | refine OkL.cons ?_ | ((first | refine Ok.region tok ?_ | refine Ok.region_plan (id := 19) tok follows [(4, 14, []), (6, 14, [13, 12, 10, 9, 8]), (10, 14, [13, 12]), (13, 14, []), (4, 15, [14]), (6, 15, [14, 13, 12, 10, 9, 8]), (10, 15, [14, 13, 12]), (13, 15, [14]), (14, 15, [])] [.q 0, .q 1, .q 2, .q 3, .q 4, .q 5, .q 6, .q 7, .q 8, .q 9, .q 10, .q 11, .q 12, .q 13, .l 14, .l 15, .q 16] (by kernel_rfl) ?_ | refine Ok.region_draw tok follows (by kernel_rfl) ?_ | refine Ok.cond ?_); conv => whnf) | refine Ok.block ?_ | ((first | refine Ok.skip ?_ | refine Ok.exit ?_ | refine Ok.ret ?_ | refine nI ?_ | refine ix _ (by assumption) ?_ | refine ixI (by omega) (by assumption) ?_ | refine ix_new _ (by omega) fun _ _ => ?_ | refine ixI_new (by omega) (by omega) fun _ _ => ?_ | refine ⟨_, by assumption, ?_⟩ | refine Alt2.l (aI ?_) | refine Alt2.r (aI ?_)); conv => whnf) | (refine Ok.scope ?_) | ((first | refine Ok.label ?_ | refine rd rfl (by assumption) ?_ | refine ⟨_, .inl ⟨rfl, rfl⟩, ?_⟩ | refine ⟨_, _, rfl, rfl, ?_⟩); conv => whnf) | (refine ⟨fun _ => ?_, fun _ => ?_⟩ <;> (conv => whnf) <;> (try (exfalso; omega))) | ((first | refine aJ ?_ | refine num_any ?_ | refine ⟨_, rfl, ?_⟩); conv => whnf) | fail)
    · refine Or.inl ?_; (conv => whnf)
      exact ⟨rfl, [], rfl⟩
    all_goals (exfalso; rename_i h; exact h rfl)
  by_cases harg : limit < 0 ∨ 2048 < limit
  · rw [expO_arg hz harg]
    (try (conv => whnf)); repeat' (first | refine Ok.seq ?_ | refine OkL.cons ?_ | ((first | refine Ok.region tok ?_ | refine Ok.region_plan (id := 19) tok follows [(4, 14, []), (6, 14, [13, 12, 10, 9, 8]), (10, 14, [13, 12]), (13, 14, []), (4, 15, [14]), (6, 15, [14, 13, 12, 10, 9, 8]), (10, 15, [14, 13, 12]), (13, 15, [14]), (14, 15, [])] [.q 0, .q 1, .q 2, .q 3, .q 4, .q 5, .q 6, .q 7, .q 8, .q 9, .q 10, .q 11, .q 12, .q 13, .l 14, .l 15, .q 16] (by kernel_rfl) ?_ | refine Ok.region_draw tok follows (by kernel_rfl) ?_ | refine Ok.cond ?_); conv => whnf) | refine Ok.block ?_ | ((first | refine Ok.skip ?_ | refine Ok.exit ?_ | refine Ok.ret ?_ | refine nI ?_ | refine ix _ (by assumption) ?_ | refine ixI (by omega) (by assumption) ?_ | refine ix_new _ (by omega) fun _ _ => ?_ | refine ixI_new (by omega) (by omega) fun _ _ => ?_ | refine ⟨_, by assumption, ?_⟩ | refine Alt2.l (aI ?_) | refine Alt2.r (aI ?_)); conv => whnf) | (refine Ok.scope ?_) | ((first | refine Ok.label ?_ | refine rd rfl (by assumption) ?_ | refine ⟨_, .inl ⟨rfl, rfl⟩, ?_⟩ | refine ⟨_, _, rfl, rfl, ?_⟩); conv => whnf) | (refine ⟨fun _ => ?_, fun _ => ?_⟩ <;> (conv => whnf) <;> (try (exfalso; omega))) | ((first | refine aJ ?_ | refine num_any ?_ | refine ⟨_, rfl, ?_⟩); conv => whnf) | fail)
    all_goals first
      | (exfalso; omega)
      | (refine Or.inl ?_; (conv => whnf)
         exact ⟨rfl, [], rfl⟩)
  (try (conv => whnf)); repeat' (first | refine Ok.seq ?_ | refine OkL.cons ?_ | ((first | refine Ok.region tok ?_ | refine Ok.region_plan (id := 19) tok follows [(4, 14, []), (6, 14, [13, 12, 10, 9, 8]), (10, 14, [13, 12]), (13, 14, []), (4, 15, [14]), (6, 15, [14, 13, 12, 10, 9, 8]), (10, 15, [14, 13, 12]), (13, 15, [14]), (14, 15, [])] [.q 0, .q 1, .q 2, .q 3, .q 4, .q 5, .q 6, .q 7, .q 8, .q 9, .q 10, .q 11, .q 12, .q 13, .l 14, .l 15, .q 16] (by kernel_rfl) ?_ | refine Ok.region_draw tok follows (by kernel_rfl) ?_ | refine Ok.cond ?_); conv => whnf) | refine Ok.block ?_ | ((first | refine Ok.skip ?_ | refine Ok.exit ?_ | refine Ok.ret ?_ | refine nI ?_ | refine ix _ (by assumption) ?_ | refine ixI (by omega) (by assumption) ?_ | refine ix_new _ (by omega) fun _ _ => ?_ | refine ixI_new (by omega) (by omega) fun _ _ => ?_ | refine ⟨_, by assumption, ?_⟩ | refine Alt2.l (aI ?_) | refine Alt2.r (aI ?_)); conv => whnf) | (refine Ok.scope ?_) | ((first | refine Ok.label ?_ | refine rd rfl (by assumption) ?_ | refine ⟨_, .inl ⟨rfl, rfl⟩, ?_⟩ | refine ⟨_, _, rfl, rfl, ?_⟩); conv => whnf) | (refine ⟨fun _ => ?_, fun _ => ?_⟩ <;> (conv => whnf) <;> (try (exfalso; omega))) | ((first | refine aJ ?_ | refine num_any ?_ | refine ⟨_, rfl, ?_⟩); conv => whnf) | fail)
  all_goals first
    | (exfalso; omega)
    | skip
  refine Ok.ghost 6 9 rfl ?_
  (conv => whnf)
  refine Ok.loopU [1, 2] [6, 7] 1 1 (fun (x : Nat × List Str) => [.own 0 x.2.length, .i .i64 (x.1 : Nat)]) (fun _ b => b) (fun (x : Nat × List Str) (_ : Vx.Rows) => [some (9, x.2.map srow)]) (fun (x : Nat × List Str) => x.1 ≤ ts.length ∧ expX limit ts [] = expX limit (ts.drop x.1) x.2 ∧ AllW n.toNat x.2 ∧ (x.2.length : Int) ≤ limit) (fun (x : Nat × List Str) => ts.length - x.1) ((0, [])) (⟨Nat.zero_le _, by simp, fun c hc => by simp at hc, by simp; omega⟩) ?_; (conv => whnf); refine ⟨by ((conv => whnf); first | rfl | (simp [envCat, List.take_of_length_le, crow, trow, srow, drow]; done) | (simp [envCat, List.take_of_length_le, crow, trow, srow, drow]; rw [IntKind.wrap_i64]; omega)), ?_⟩
  rintro ⟨i, out⟩ ⟨hi, hex, hal, hle⟩
  dsimp only at hi hex hal hle ⊢
  have hom : (out.map srow).length = out.length := by simp
  (conv => whnf)
  by_cases hil : i < ts.length
  · obtain ⟨a, ha⟩ : ∃ a, ks[i]? = some a := ⟨_, List.getElem?_eq_getElem (by omega)⟩
    have haI : ks[((i : Nat) : Int).toNat]? = some a := ha
    have hat := tr_get h1 ha
    have hag := hf.good _ (List.mem_of_getElem? hat)
    have hlb := hf.less (List.mem_of_getElem? hat)
    have hlb2 : (a.t.less.map srow).length = a.t.less.length := by simp
    rw [drop_get hat, expX_cons] at hex
    by_cases hlim : limit - (out.length : Int) < 1
    · rw [show termX (limit - (out.length : Int)) a.t = none by unfold termX; rw [if_pos hlim]] at hex
      rw [expO_none hz harg hex]
      (try (conv => whnf)); repeat' (first | refine Ok.seq ?_ | refine OkL.cons ?_ | ((first | refine Ok.region tok ?_ | refine Ok.region_plan (id := 19) tok follows [(4, 14, []), (6, 14, [13, 12, 10, 9, 8]), (10, 14, [13, 12]), (13, 14, []), (4, 15, [14]), (6, 15, [14, 13, 12, 10, 9, 8]), (10, 15, [14, 13, 12]), (13, 15, [14]), (14, 15, [])] [.q 0, .q 1, .q 2, .q 3, .q 4, .q 5, .q 6, .q 7, .q 8, .q 9, .q 10, .q 11, .q 12, .q 13, .l 14, .l 15, .q 16] (by kernel_rfl) ?_ | refine Ok.region_draw tok follows (by kernel_rfl) ?_ | refine Ok.cond ?_); conv => whnf) | refine Ok.block ?_ | ((first | refine Ok.skip ?_ | refine Ok.exit ?_ | refine Ok.ret ?_ | refine nI ?_ | refine ix _ (by assumption) ?_ | refine ixI (by omega) (by assumption) ?_ | refine ix_new _ (by omega) fun _ _ => ?_ | refine ixI_new (by omega) (by omega) fun _ _ => ?_ | refine ⟨_, by assumption, ?_⟩ | refine Alt2.l (aI ?_) | refine Alt2.r (aI ?_)); conv => whnf) | (refine Ok.scope ?_) | ((first | refine Ok.label ?_ | refine rd rfl (by assumption) ?_ | refine ⟨_, .inl ⟨rfl, rfl⟩, ?_⟩ | refine ⟨_, _, rfl, rfl, ?_⟩); conv => whnf) | (refine ⟨fun _ => ?_, fun _ => ?_⟩ <;> (conv => whnf) <;> (try (exfalso; omega))) | ((first | refine aJ ?_ | refine num_any ?_ | refine ⟨_, rfl, ?_⟩); conv => whnf) | fail)
      all_goals first
        | (exfalso; omega)
        | (refine Or.inl ?_; (conv => whnf)
           exact ⟨rfl, [], rfl⟩)
    rw [show termX (limit - (out.length : Int)) a.t = splX (limit - (out.length : Int)) a.t.less [a.t.p] by unfold termX; rw [if_neg hlim]] at hex
    (try (conv => whnf)); repeat' (first | refine Ok.seq ?_ | refine OkL.cons ?_ | ((first | refine Ok.region tok ?_ | refine Ok.region_plan (id := 19) tok follows [(4, 14, []), (6, 14, [13, 12, 10, 9, 8]), (10, 14, [13, 12]), (13, 14, []), (4, 15, [14]), (6, 15, [14, 13, 12, 10, 9, 8]), (10, 15, [14, 13, 12]), (13, 15, [14]), (14, 15, [])] [.q 0, .q 1, .q 2, .q 3, .q 4, .q 5, .q 6, .q 7, .q 8, .q 9, .q 10, .q 11, .q 12, .q 13, .l 14, .l 15, .q 16] (by kernel_rfl) ?_ | refine Ok.region_draw tok follows (by kernel_rfl) ?_ | refine Ok.cond ?_); conv => whnf) | refine Ok.block ?_ | ((first | refine Ok.skip ?_ | refine Ok.exit ?_ | refine Ok.ret ?_ | refine nI ?_ | refine ix _ (by assumption) ?_ | refine ixI (by omega) (by assumption) ?_ | refine ix_new _ (by omega) fun _ _ => ?_ | refine ixI_new (by omega) (by omega) fun _ _ => ?_ | refine ⟨_, by assumption, ?_⟩ | refine Alt2.l (aI ?_) | refine Alt2.r (aI ?_)); conv => whnf) | (refine Ok.scope ?_) | ((first | refine Ok.label ?_ | refine rd rfl (by assumption) ?_ | refine ⟨_, .inl ⟨rfl, rfl⟩, ?_⟩ | refine ⟨_, _, rfl, rfl, ?_⟩); conv => whnf) | (refine ⟨fun _ => ?_, fun _ => ?_⟩ <;> (conv => whnf) <;> (try (exfalso; omega))) | ((first | refine aJ ?_ | refine num_any ?_ | refine ⟨_, rfl, ?_⟩); conv => whnf) | fail)
    refine Ok.pub 1 ?_
    (conv => whnf)
    refine Ok.loopU [1, 2, 6, 7] [8, 9] 1 1 (fun (x : Nat × List Str × List (List D)) => [.lst 9 (x.2.1.map srow) x.2.2, .i .i64 (x.1 : Nat)]) (fun _ b => b) (fun (x : Nat × List Str × List (List D)) (_ : Vx.Rows) => [some (9, out.map srow)]) (fun (x : Nat × List Str × List (List D)) => x.1 ≤ a.t.less.length ∧ splX (limit - (out.length : Int)) a.t.less [a.t.p] = splX (limit - (out.length : Int)) (a.t.less.drop x.1) x.2.1 ∧ AllW n.toNat x.2.1 ∧ (x.2.1.length : Int) ≤ limit - (out.length : Int)) (fun (x : Nat × List Str × List (List D)) => a.t.less.length - x.1) ((0, [a.t.p], [])) (⟨Nat.zero_le _, rfl, fun c hc => by simp at hc; subst hc; exact ⟨hag.p, hag.ok.p⟩, by simp; omega⟩) ?_; (conv => whnf); refine ⟨by ((conv => whnf); first | rfl | (simp [envCat, List.take_of_length_le, crow, trow, srow, drow]; done) | (simp [envCat, List.take_of_length_le, crow, trow, srow, drow]; rw [IntKind.wrap_i64]; omega)), ?_⟩
    rintro ⟨j, l, rml⟩ ⟨hj, hsx, hla, hll⟩
    dsimp only at hj hsx hla hll ⊢
    have hlm : (l.map srow).length = l.length := by simp
    (conv => whnf)
    by_cases hjl : j < a.t.less.length
    · obtain ⟨m, hm⟩ : ∃ m, a.t.less[j]? = some m := ⟨_, List.getElem?_eq_getElem hjl⟩
      have hmI : a.t.less[((j : Nat) : Int).toNat]? = some m := hm
      have hmc := (hag.less m (List.mem_of_getElem? hm)).1
      have hsa := splL_all hla hmc
      have hsl := splL_len (m := m) hla
      rw [drop_get hm, splX_cons] at hsx
      (try (conv => whnf)); repeat' (first | refine Ok.seq ?_ | refine OkL.cons ?_ | ((first | refine Ok.region tok ?_ | refine Ok.region_plan (id := 19) tok follows [(4, 14, []), (6, 14, [13, 12, 10, 9, 8]), (10, 14, [13, 12]), (13, 14, []), (4, 15, [14]), (6, 15, [14, 13, 12, 10, 9, 8]), (10, 15, [14, 13, 12]), (13, 15, [14]), (14, 15, [])] [.q 0, .q 1, .q 2, .q 3, .q 4, .q 5, .q 6, .q 7, .q 8, .q 9, .q 10, .q 11, .q 12, .q 13, .l 14, .l 15, .q 16] (by kernel_rfl) ?_ | refine Ok.region_draw tok follows (by kernel_rfl) ?_ | refine Ok.cond ?_); conv => whnf) | refine Ok.block ?_ | ((first | refine Ok.skip ?_ | refine Ok.exit ?_ | refine Ok.ret ?_ | refine nI ?_ | refine ix _ (by assumption) ?_ | refine ixI (by omega) (by assumption) ?_ | refine ix_new _ (by omega) fun _ _ => ?_ | refine ixI_new (by omega) (by omega) fun _ _ => ?_ | refine ⟨_, by assumption, ?_⟩ | refine Alt2.l (aI ?_) | refine Alt2.r (aI ?_)); conv => whnf) | (refine Ok.scope ?_) | ((first | refine Ok.label ?_ | refine rd rfl (by assumption) ?_ | refine ⟨_, .inl ⟨rfl, rfl⟩, ?_⟩ | refine ⟨_, _, rfl, rfl, ?_⟩); conv => whnf) | (refine ⟨fun _ => ?_, fun _ => ?_⟩ <;> (conv => whnf) <;> (try (exfalso; omega))) | ((first | refine aJ ?_ | refine num_any ?_ | refine ⟨_, rfl, ?_⟩); conv => whnf) | fail)
      refine Ok.ghost 10 9 rfl ?_
      (conv => whnf)
      refine Ok.loopU [1, 2, 6, 7, 8, 9] [10, 11] 2 1 (fun (k : Nat) => [.own 1 (splL m (l.take k)).length, .i .i64 (k : Nat)]) (fun _ b => b) (fun (k : Nat) (_ : Vx.Rows) => [some (9, out.map srow), some (9, (splL m (l.take k)).map srow)]) (fun (k : Nat) => k ≤ l.length) (fun (k : Nat) => l.length - k) (0) (Nat.zero_le _) ?_; (conv => whnf); refine ⟨by ((conv => whnf); first | rfl | (simp [envCat, List.take_of_length_le, crow, trow, srow, drow]; done) | (simp [envCat, List.take_of_length_le, crow, trow, srow, drow]; rw [IntKind.wrap_i64]; omega)), ?_⟩
      intro k hk
      have hqm : ((splL m (l.take k)).map srow).length = (splL m (l.take k)).length := by simp
      have hql := splL_len (m := m) (l := l.take k) (n := n.toNat) fun c hc => hla c (List.mem_of_mem_take hc)
      have hqk : (l.take k).length = k := by simp; omega
      (conv => whnf)
      by_cases hkl : k < l.length
      · obtain ⟨c, hc⟩ : ∃ c, l[k]? = some c := ⟨_, List.getElem?_eq_getElem hkl⟩
        have hcI : l[((k : Nat) : Int).toNat]? = some c := hc
        have hcw := hla c (List.mem_of_getElem? hc)
        have hsn := splL_snoc (m := m) hc
        have hcl := splitT_len (d := m) hcw.1.1.len
        have hclm : ((splitT c m).map srow).length = (splitT c m).length := by simp
        have rsp := rsplit_at c m hcw.1 hmc
        generalize splitT c m = S at *
        (try (conv => whnf)); repeat' (first | refine Ok.seq ?_ | refine OkL.cons ?_ | ((first | refine Ok.region tok ?_ | refine Ok.region_plan (id := 19) tok follows [(4, 14, []), (6, 14, [13, 12, 10, 9, 8]), (10, 14, [13, 12]), (13, 14, []), (4, 15, [14]), (6, 15, [14, 13, 12, 10, 9, 8]), (10, 15, [14, 13, 12]), (13, 15, [14]), (14, 15, [])] [.q 0, .q 1, .q 2, .q 3, .q 4, .q 5, .q 6, .q 7, .q 8, .q 9, .q 10, .q 11, .q 12, .q 13, .l 14, .l 15, .q 16] (by kernel_rfl) ?_ | refine Ok.region_draw tok follows (by kernel_rfl) ?_ | refine Ok.cond ?_); conv => whnf) | refine Ok.block ?_ | ((first | refine Ok.skip ?_ | refine Ok.exit ?_ | refine Ok.ret ?_ | refine nI ?_ | refine ix _ (by assumption) ?_ | refine ixI (by omega) (by assumption) ?_ | refine ix_new _ (by omega) fun _ _ => ?_ | refine ixI_new (by omega) (by omega) fun _ _ => ?_ | refine ⟨_, by assumption, ?_⟩); conv => whnf) | (refine Or.inr (Or.inl ?_); (conv => whnf); (repeat (refine aI ?_; conv => whnf)); refine ⟨_, rsp , ?_⟩; rintro _ _ ⟨rmq, rfl, rfl⟩ <;> (conv => whnf)) | ((first | refine Alt2.l (aI ?_) | refine Alt2.r (aI ?_)); conv => whnf) | (refine Ok.scope ?_) | ((first | refine Ok.label ?_ | refine rd rfl (by assumption) ?_ | refine ⟨_, .inl ⟨rfl, rfl⟩, ?_⟩ | refine ⟨_, _, rfl, rfl, ?_⟩); conv => whnf) | (refine ⟨fun _ => ?_, fun _ => ?_⟩ <;> (conv => whnf) <;> (try (exfalso; omega))) | ((first | refine aJ ?_ | refine num_any ?_ | refine ⟨_, rfl, ?_⟩); conv => whnf) | fail)
        refine ⟨k + 1, by omega, by omega, ?_⟩
        rw [hsn, List.map_append]
        (conv => whnf)
        simp [envCat]
      · have hke : k = l.length := by omega
        subst hke
        rw [List.take_length] at *
        refine Ok.pub 1 ?_
        (conv => whnf)
        rw [take_all, drop_all]
        by_cases hov : limit - (out.length : Int) < ((splL m l).length : Int)
        · rw [if_pos hov] at hsx
          rw [hsx] at hex
          rw [expO_none hz harg hex]
          (try (conv => whnf)); repeat' (first | refine Ok.seq ?_ | refine OkL.cons ?_ | ((first | refine Ok.region tok ?_ | refine Ok.region_plan (id := 19) tok follows [(4, 14, []), (6, 14, [13, 12, 10, 9, 8]), (10, 14, [13, 12]), (13, 14, []), (4, 15, [14]), (6, 15, [14, 13, 12, 10, 9, 8]), (10, 15, [14, 13, 12]), (13, 15, [14]), (14, 15, [])] [.q 0, .q 1, .q 2, .q 3, .q 4, .q 5, .q 6, .q 7, .q 8, .q 9, .q 10, .q 11, .q 12, .q 13, .l 14, .l 15, .q 16] (by kernel_rfl) ?_ | refine Ok.region_draw tok follows (by kernel_rfl) ?_ | refine Ok.cond ?_); conv => whnf) | refine Ok.block ?_ | ((first | refine Ok.skip ?_ | refine Ok.exit ?_ | refine Ok.ret ?_ | refine nI ?_ | refine ix _ (by assumption) ?_ | refine ixI (by omega) (by assumption) ?_ | refine ix_new _ (by omega) fun _ _ => ?_ | refine ixI_new (by omega) (by omega) fun _ _ => ?_ | refine ⟨_, by assumption, ?_⟩ | refine Alt2.l (aI ?_) | refine Alt2.r (aI ?_)); conv => whnf) | (refine Ok.scope ?_) | ((first | refine Ok.label ?_ | refine rd rfl (by assumption) ?_ | refine ⟨_, .inl ⟨rfl, rfl⟩, ?_⟩ | refine ⟨_, _, rfl, rfl, ?_⟩); conv => whnf) | (refine ⟨fun _ => ?_, fun _ => ?_⟩ <;> (conv => whnf) <;> (try (exfalso; omega))) | ((first | refine aJ ?_ | refine num_any ?_ | refine ⟨_, rfl, ?_⟩); conv => whnf) | fail)
          all_goals first
            | (exfalso; omega)
            | (refine Or.inl ?_; (conv => whnf)
               exact ⟨rfl, [], rfl⟩)
        · rw [if_neg hov] at hsx
          (try (conv => whnf)); repeat' (first | refine Ok.seq ?_ | refine OkL.cons ?_ | ((first | refine Ok.region tok ?_ | refine Ok.region_plan (id := 19) tok follows [(4, 14, []), (6, 14, [13, 12, 10, 9, 8]), (10, 14, [13, 12]), (13, 14, []), (4, 15, [14]), (6, 15, [14, 13, 12, 10, 9, 8]), (10, 15, [14, 13, 12]), (13, 15, [14]), (14, 15, [])] [.q 0, .q 1, .q 2, .q 3, .q 4, .q 5, .q 6, .q 7, .q 8, .q 9, .q 10, .q 11, .q 12, .q 13, .l 14, .l 15, .q 16] (by kernel_rfl) ?_ | refine Ok.region_draw tok follows (by kernel_rfl) ?_ | refine Ok.cond ?_); conv => whnf) | refine Ok.block ?_ | ((first | refine Ok.skip ?_ | refine Ok.exit ?_ | refine Ok.ret ?_ | refine nI ?_ | refine ix _ (by assumption) ?_ | refine ixI (by omega) (by assumption) ?_ | refine ix_new _ (by omega) fun _ _ => ?_ | refine ixI_new (by omega) (by omega) fun _ _ => ?_ | refine ⟨_, by assumption, ?_⟩ | refine Alt2.l (aI ?_) | refine Alt2.r (aI ?_)); conv => whnf) | (refine Ok.scope ?_) | ((first | refine Ok.label ?_ | refine rd rfl (by assumption) ?_ | refine ⟨_, .inl ⟨rfl, rfl⟩, ?_⟩ | refine ⟨_, _, rfl, rfl, ?_⟩); conv => whnf) | (refine ⟨fun _ => ?_, fun _ => ?_⟩ <;> (conv => whnf) <;> (try (exfalso; omega))) | ((first | refine aJ ?_ | refine num_any ?_ | refine ⟨_, rfl, ?_⟩); conv => whnf) | fail)
          all_goals first
            | (exfalso; omega)
            | skip
          refine ⟨(j + 1, splL m l, []), by dsimp only; omega, ⟨by dsimp only; omega, hsx, hsa, by dsimp only; omega⟩, ?_⟩
          (conv => whnf)
          rfl
    · have hje : j = a.t.less.length := by omega
      subst hje
      rw [List.drop_length] at hsx
      have hsx : splX (limit - (out.length : Int)) a.t.less [a.t.p] = some l := hsx
      rw [hsx] at hex
      have hap : (out.map srow ++ l.map srow).length = out.length + l.length := by simp
      (try (conv => whnf)); repeat' (first | refine Ok.seq ?_ | refine OkL.cons ?_ | ((first | refine Ok.region tok ?_ | refine Ok.region_plan (id := 19) tok follows [(4, 14, []), (6, 14, [13, 12, 10, 9, 8]), (10, 14, [13, 12]), (13, 14, []), (4, 15, [14]), (6, 15, [14, 13, 12, 10, 9, 8]), (10, 15, [14, 13, 12]), (13, 15, [14]), (14, 15, [])] [.q 0, .q 1, .q 2, .q 3, .q 4, .q 5, .q 6, .q 7, .q 8, .q 9, .q 10, .q 11, .q 12, .q 13, .l 14, .l 15, .q 16] (by kernel_rfl) ?_ | refine Ok.region_draw tok follows (by kernel_rfl) ?_ | refine Ok.cond ?_); conv => whnf) | refine Ok.block ?_ | ((first | refine Ok.skip ?_ | refine Ok.exit ?_ | refine Ok.ret ?_ | refine nI ?_ | refine ix _ (by assumption) ?_ | refine ixI (by omega) (by assumption) ?_ | refine ix_new _ (by omega) fun _ _ => ?_ | refine ixI_new (by omega) (by omega) fun _ _ => ?_ | refine ⟨_, by assumption, ?_⟩ | refine Alt2.l (aI ?_) | refine Alt2.r (aI ?_)); conv => whnf) | (refine Ok.scope ?_) | ((first | refine Ok.label ?_ | refine rd rfl (by assumption) ?_ | refine ⟨_, .inl ⟨rfl, rfl⟩, ?_⟩ | refine ⟨_, _, rfl, rfl, ?_⟩); conv => whnf) | (refine ⟨fun _ => ?_, fun _ => ?_⟩ <;> (conv => whnf) <;> (try (exfalso; omega))) | ((first | refine aJ ?_ | refine num_any ?_ | refine ⟨_, rfl, ?_⟩); conv => whnf) | fail)
      refine ⟨(i + 1, out ++ l), by dsimp only; omega, ⟨by dsimp only; omega, hex, fun c hc => (List.mem_append.1 hc).elim (hal c) (hla c), by dsimp only; rw [List.length_append]; omega⟩, ?_⟩
      (conv => whnf)
      simp [envCat]
  · have hie : i = ts.length := by omega
    subst hie
    rw [List.drop_length] at hex
    have hex : expX limit ts [] = some out := hex
    rw [expO_some hz harg hex]
    (try (conv => whnf)); repeat' (first | refine Ok.seq ?_ | refine OkL.cons ?_ | ((first | refine Ok.region tok ?_ | refine Ok.region_plan (id := 19) tok follows [(4, 14, []), (6, 14, [13, 12, 10, 9, 8]), (10, 14, [13, 12]), (13, 14, []), (4, 15, [14]), (6, 15, [14, 13, 12, 10, 9, 8]), (10, 15, [14, 13, 12]), (13, 15, [14]), (14, 15, [])] [.q 0, .q 1, .q 2, .q 3, .q 4, .q 5, .q 6, .q 7, .q 8, .q 9, .q 10, .q 11, .q 12, .q 13, .l 14, .l 15, .q 16] (by kernel_rfl) ?_ | refine Ok.region_draw tok follows (by kernel_rfl) ?_ | refine Ok.cond ?_); conv => whnf) | refine Ok.block ?_ | ((first | refine Ok.skip ?_ | refine Ok.exit ?_ | refine Ok.ret ?_ | refine nI ?_ | refine ix _ (by assumption) ?_ | refine ixI (by omega) (by assumption) ?_ | refine ix_new _ (by omega) fun _ _ => ?_ | refine ixI_new (by omega) (by omega) fun _ _ => ?_ | refine ⟨_, by assumption, ?_⟩ | refine Alt2.l (aI ?_) | refine Alt2.r (aI ?_)); conv => whnf) | (refine Ok.scope ?_) | ((first | refine Ok.label ?_ | refine rd rfl (by assumption) ?_ | refine ⟨_, .inl ⟨rfl, rfl⟩, ?_⟩ | refine ⟨_, _, rfl, rfl, ?_⟩); conv => whnf) | (refine ⟨fun _ => ?_, fun _ => ?_⟩ <;> (conv => whnf) <;> (try (exfalso; omega))) | ((first | refine aJ ?_ | refine num_any ?_ | refine ⟨_, rfl, ?_⟩); conv => whnf) | fail)
    refine Or.inl ?_; (conv => whnf)
    refine ⟨rfl, [], ?_⟩
    rw [List.take_of_length_le (by simp), List.drop_of_length_le (by simp)]
    rfl
set_option maxHeartbeats 4000000 in
theorem listed_at (l : List Str) {rm1 rm2 : List (List D)} (hl : ∀ c ∈ l, CT c) (hll : l.length ≤ 100000) : FSpec Tryz.prog T 36 [.lst 46 (l.map crow) rm1, .lst 9 (l.map srow) rm2] (fun d _ => d = .b True) := by
  have h1 : (l.map crow).length = l.length := by simp
  have h2 : (l.map srow).length = l.length := by simp
  refine FSpec.of_ok tok Tryz.func36 rfl Tryz.call36 (by simp) ?_
  (try (conv => whnf)); repeat' (first | refine Ok.seq ?_ | refine OkL.cons ?_ | ((first | refine Ok.region tok ?_ | refine Ok.region_draw tok follows (by kernel_rfl) ?_ | refine Ok.cond ?_); conv => whnf) | refine Ok.block ?_ | ((first | refine Ok.skip ?_ | refine Ok.exit ?_ | refine Ok.ret ?_ | refine nI ?_ | refine ix _ (by assumption) ?_ | refine ixI (by omega) (by assumption) ?_ | refine ix_new _ (by omega) fun _ _ => ?_ | refine ixI_new (by omega) (by omega) fun _ _ => ?_ | refine ⟨_, by assumption, ?_⟩ | refine Alt2.l (aI ?_) | refine Alt2.r (aI ?_)); conv => whnf) | (refine Ok.scope ?_) | ((first | refine Ok.label ?_ | refine rd rfl (by assumption) ?_ | refine ⟨_, .inl ⟨rfl, rfl⟩, ?_⟩ | refine ⟨_, _, rfl, rfl, ?_⟩); conv => whnf) | (refine ⟨fun _ => ?_, fun _ => ?_⟩ <;> (conv => whnf) <;> (try (exfalso; omega))) | ((first | refine aJ ?_ | refine num_any ?_ | refine ⟨_, rfl, ?_⟩); conv => whnf) | fail)
  all_goals first
    | (exfalso; omega)
    | skip
  refine Ok.loopU [0, 1] [5] 0 0 (fun (i : Nat) => [.i .i64 (i : Nat)]) (fun _ b => b) (fun _ r => r) (fun (i : Nat) => i ≤ l.length) (fun (i : Nat) => l.length - i) (0) (Nat.zero_le _) ?_; (conv => whnf); refine ⟨by ((conv => whnf); first | rfl | (simp [envCat, List.take_of_length_le, crow, trow, srow, drow]; done) | (simp [envCat, List.take_of_length_le, crow, trow, srow, drow]; rw [IntKind.wrap_i64]; omega)), ?_⟩
  intro i hi
  (conv => whnf)
  by_cases hil : i < l.length
  · obtain ⟨c, hc⟩ : ∃ c, l[i]? = some c := ⟨_, List.getElem?_eq_getElem hil⟩
    have hcI : l[((i : Nat) : Int).toNat]? = some c := hc
    have hct := hl c (List.mem_of_getElem? hc)
    (try (conv => whnf)); repeat' (first | refine Ok.seq ?_ | refine OkL.cons ?_ | ((first | refine Ok.region tok ?_ | refine Ok.region_draw tok follows (by kernel_rfl) ?_ | refine Ok.cond ?_); conv => whnf) | refine Ok.block ?_ | ((first | refine Ok.skip ?_ | refine Ok.exit ?_ | refine Ok.ret ?_ | refine nI ?_ | refine ix _ (by assumption) ?_ | refine ixI (by omega) (by assumption) ?_ | refine ix_new _ (by omega) fun _ _ => ?_ | refine ixI_new (by omega) (by omega) fun _ _ => ?_ | refine ⟨_, by assumption, ?_⟩); conv => whnf) | (refine Or.inl ?_; (conv => whnf); (repeat (refine aI ?_; conv => whnf)); refine ⟨_, text_at c hct, rfl, ?_⟩; conv => whnf) | (refine ⟨_, text_at c hct, rfl, ?_⟩; conv => whnf) | (refine Or.inr (Or.inl ?_); (conv => whnf); (repeat (refine aI ?_; conv => whnf)); refine ⟨_, text_at c hct, ?_⟩; rintro _ _ ⟨rfl, rfl⟩; conv => whnf) | ((first | refine Alt2.l (aI ?_) | refine Alt2.r (aI ?_)); conv => whnf) | (refine Ok.scope ?_) | ((first | refine Ok.label ?_ | refine rd rfl (by assumption) ?_ | refine ⟨_, .inl ⟨rfl, rfl⟩, ?_⟩ | refine ⟨_, _, rfl, rfl, ?_⟩); conv => whnf) | (refine ⟨fun _ => ?_, fun _ => ?_⟩ <;> (conv => whnf) <;> (try (exfalso; omega))) | ((first | refine aJ ?_ | refine num_any ?_ | refine ⟨_, rfl, ?_⟩); conv => whnf) | fail)
    all_goals first
      | (rename_i h; exact absurd rfl h)
      | (refine ⟨i + 1, by omega, by omega, ?_⟩
         (conv => whnf)
         rfl)
  · have hie : i = l.length := by omega
    subst hie
    (try (conv => whnf)); repeat' (first | refine Ok.seq ?_ | refine OkL.cons ?_ | ((first | refine Ok.region tok ?_ | refine Ok.region_draw tok follows (by kernel_rfl) ?_ | refine Ok.cond ?_); conv => whnf) | refine Ok.block ?_ | ((first | refine Ok.skip ?_ | refine Ok.exit ?_ | refine Ok.ret ?_ | refine nI ?_ | refine ix _ (by assumption) ?_ | refine ixI (by omega) (by assumption) ?_ | refine ix_new _ (by omega) fun _ _ => ?_ | refine ixI_new (by omega) (by omega) fun _ _ => ?_ | refine ⟨_, by assumption, ?_⟩ | refine Alt2.l (aI ?_) | refine Alt2.r (aI ?_)); conv => whnf) | (refine Ok.scope ?_) | ((first | refine Ok.label ?_ | refine rd rfl (by assumption) ?_ | refine ⟨_, .inl ⟨rfl, rfl⟩, ?_⟩ | refine ⟨_, _, rfl, rfl, ?_⟩); conv => whnf) | (refine ⟨fun _ => ?_, fun _ => ?_⟩ <;> (conv => whnf) <;> (try (exfalso; omega))) | ((first | refine aJ ?_ | refine num_any ?_ | refine ⟨_, rfl, ?_⟩); conv => whnf) | fail)
    refine Or.inl ?_; (conv => whnf)
    rfl
set_option maxRecDepth 100000 in
set_option maxHeartbeats 4000000 in
theorem expandsLaw_at (n : Int) (a : Str) (limit : Int) : FSpec Tryz.prog T 9 [.i .i64 n, .s a, .i .i64 limit] (fun r _ => r = .b True) := by
  have hf := parO_fine n a
  have r1 := read_at n a
  unfold ReadO at r1
  generalize parO n a = o1 at *
  obtain ⟨e1, n1, ts⟩ := o1
  dsimp only at hf r1
  obtain ⟨hj, hjl⟩ := expO_all (limit := limit) hf
  have e2 := fun ks rm h1 => expand_at hf ks rm h1 limit
  have e3 := fun ks rm h1 => rexpand_at hf ks rm h1 limit
  generalize expO n1 ts limit = o2 at *
  obtain ⟨x, l⟩ := o2
  dsimp only at hj hjl
  refine FSpec.of_ok tok Tryz.func9 rfl Tryz.call9 (by simp) ?_
  (try (conv => whnf)); repeat' (first | refine Ok.seq ?_ | refine OkL.cons ?_ | ((first | refine Ok.region tok ?_ | refine Ok.region_draw tok follows (by kernel_rfl) ?_ | refine Ok.cond ?_); conv => whnf) | refine Ok.block ?_ | ((first | refine Ok.skip ?_ | refine Ok.exit ?_ | refine Ok.ret ?_ | refine nI ?_ | refine ix _ (by assumption) ?_ | refine ixI (by omega) (by assumption) ?_ | refine ix_new _ (by omega) fun _ _ => ?_ | refine ixI_new (by omega) (by omega) fun _ _ => ?_ | refine ⟨_, by assumption, ?_⟩); conv => whnf) | (refine Or.inl ?_; (conv => whnf); (repeat (refine aI ?_; conv => whnf)); refine ⟨_, num_at x, rfl, ?_⟩; conv => whnf) | (refine Or.inl ?_; (conv => whnf); (repeat (refine aI ?_; conv => whnf)); refine ⟨_, listed_at l (fun c hc => (hj c hc).1.1) (by omega), rfl, ?_⟩; conv => whnf) | ((first | refine ⟨_, num_at x, rfl, ?_⟩ | refine ⟨_, listed_at l (fun c hc => (hj c hc).1.1) (by omega), rfl, ?_⟩); conv => whnf) | (refine Or.inr (Or.inl ?_); (conv => whnf); (repeat (refine aI ?_; conv => whnf)); refine ⟨_, num_at x, ?_⟩; rintro _ _ ⟨rfl, rfl⟩; conv => whnf) | (refine Or.inr (Or.inl ?_); (conv => whnf); (repeat (refine aI ?_; conv => whnf)); refine ⟨_, listed_at l (fun c hc => (hj c hc).1.1) (by omega), ?_⟩; rintro _ _ ⟨rfl, rfl⟩; conv => whnf) | (refine Or.inr (Or.inl ?_); (conv => whnf); (repeat (refine aI ?_; conv => whnf)); refine ⟨_, r1 , ?_⟩; rintro _ _ ⟨rfl, ks1, kd1, rm1, rd1, rfl, h1, h1d⟩ <;> (conv => whnf)) | (refine Or.inr (Or.inl ?_); (conv => whnf); (repeat (refine aI ?_; conv => whnf)); refine ⟨_, e2 ks1 rm1 h1 , ?_⟩; rintro _ _ ⟨rfl, rm3, rfl⟩ <;> (conv => whnf)) | (refine Or.inr (Or.inl ?_); (conv => whnf); (repeat (refine aI ?_; conv => whnf)); refine ⟨_, e3 kd1 rd1 h1d , ?_⟩; rintro _ _ ⟨rfl, rm4, rfl⟩ <;> (conv => whnf)) | ((first | refine Alt2.l (aI ?_) | refine Alt2.r (aI ?_)); conv => whnf) | (refine Ok.scope ?_) | ((first | refine Ok.label ?_ | refine rd rfl (by assumption) ?_ | refine ⟨_, .inl ⟨rfl, rfl⟩, ?_⟩ | refine ⟨_, _, rfl, rfl, ?_⟩); conv => whnf) | (refine ⟨fun _ => ?_, fun _ => ?_⟩ <;> (conv => whnf) <;> (try (exfalso; omega))) | ((first | refine aJ ?_ | refine num_any ?_ | refine ⟨_, rfl, ?_⟩); conv => whnf) | fail)
  all_goals first
    | exact absurd trivial (by assumption)
    | (refine Or.inl ?_; (conv => whnf)
       rfl)
    | trace_state
end Go.Proofs.YtaiondckookpiaaGreatDoor
