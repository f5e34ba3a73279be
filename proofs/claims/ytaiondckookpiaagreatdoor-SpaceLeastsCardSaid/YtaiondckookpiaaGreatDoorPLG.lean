/- The walks and the plain laws that a law of spaces needs, part 7 of 7. -/
import Derived.Test.YtaiondckookpiaaGreatDoorPLF
set_option linter.unusedVariables false
set_option linter.unusedSimpArgs false
namespace Go.Proofs.YtaiondckookpiaaGreatDoor
open Go Go.Vx
set_option maxRecDepth 100000 in
set_option maxHeartbeats 8000000 in
theorem rexpand_at {n : Int} {ts : List Term} (hf : Fine n ts) (ks : List TR) (rm : List (List D)) (h1 : ks.map TR.t = ts) (limit : Int) :
    FSpec Tryz.prog T 32 [.agg [.i .i64 n, .lst 120 (ks.map drow) rm], .i .i64 limit] (ROut (expO n ts limit)) := by
  have hl1 : ks.length = ts.length := by rw [← h1, List.length_map]
  have hm1 : (ks.map drow).length = ts.length := by simp [hl1]
  have hk1 := hf.len
  have hn0 := hf.n0
  refine FSpec.of_ok tok Tryz.func32 rfl Tryz.call32 (by simp) ?_
  by_cases hz : n = 0
  · rw [expO_zero hz]
    subst hz
    (try (conv => whnf)); repeat' (first | refine Ok.seq ?_ | refine OkL.cons ?_ | ((first | refine Ok.region tok ?_ | refine Ok.region_plan (id := 19) tok follows [(4, 14, []), (6, 14, [13, 12, 10, 9, 8]), (10, 14, [13, 12]), (13, 14, []), (4, 15, [14]), (6, 15, [14, 13, 12, 10, 9, 8]), (10, 15, [14, 13, 12]), (13, 15, [14]), (14, 15, [])] [.q 0, .q 1, .q 2, .q 3, .q 4, .q 5, .q 6, .q 7, .q 8, .q 9, .q 10, .q 11, .q 12, .q 13, .l 14, .l 15, .q 16] (by kernel_rfl) ?_ | refine Ok.region_draw tok follows (by kernel_rfl) ?_ | refine Ok.cond ?_); conv => whnf) | refine Ok.block ?_ | ((first | refine Ok.skip ?_ | refine Ok.exit ?_ | refine Ok.ret ?_ | refine nI ?_ | refine ix _ (by assumption) ?_ | refine ixI (by omega) (by assumption) ?_ | refine ix_new _ (by omega) fun _ _ => ?_ | refine ixI_new (by omega) (by omega) fun _ _ => ?_ | refine ⟨_, by assumption, ?_⟩ | refine Alt2.l (aI ?_) | refine Alt2.r (aI ?_)); conv => whnf) | (refine Ok.scope ?_) | ((first | refine Ok.label ?_ | refine rd rfl (by assumption) ?_ | refine ⟨_, .inl ⟨rfl, rfl⟩, ?_⟩ | refine ⟨_, _, rfl, rfl, ?_⟩); conv => whnf) | (refine ⟨fun _ => ?_, fun _ => ?_⟩ <;> (conv => whnf) <;> (try (exfalso; omega))) | ((first | refine aJ ?_ | refine num_any ?_ | refine ⟨_, rfl, ?_⟩); conv => whnf) | fail)
    · refine Or.inl ?_; (conv => whnf)
      exact ⟨rfl, [], rfl⟩
    all_goals (exfalso; rename_i h; exact h rfl)
  by_cases harg : limit < 0 ∨ 2048 < limit
  · rw [expO_arg hz harg]
    (try (conv => whnf)); repeat' (first | refine Ok.seq ?_ | refine OkL.cons ?_ | ((first | refine Ok.region tok ?_ | refine Ok.region_plan (id := 19) tok follows [(4, 14, []), (6, 14, [13, 12, 10, 9, 8]), (10, 14, [13, 12]), (13, 14, []), (4, 15, [14]), (6, 15, [14, 13, 12, 10, 9, 8]), (10, 15, [14, 13, 12]), (13, 15, [14]), (14, 15, [])] [.q 0, .q 1, .q 2, .q 3, .q 4, .q 5, .q 6, .q 7, .q 8, .q 9, .q 10, .q 11, .q 12, .q 13, .l 14, .l 15, .q 16] (by kernel_rfl) ?_ | refine Ok.region_draw tok follows (by kernel_rfl) ?_ | refine Ok.cond ?_); conv => whnf) | refine Ok.block ?_ | ((first | refine Ok.skip ?_ | refine Ok.exit ?_ | refine Ok.ret ?_ | refine nI ?_ | refine ix _ (by assumption) ?_ | refine ixI (by omega) (by assumption) ?_ | refine ix_new _ (by omega) fun _ _ => ?_ | refine ixI_new (by omega) (by omega) fun _ _ => ?_ | refine ⟨_, by assumption, ?_⟩ | refine Alt2.l (aI ?_) | refine Alt2.r (aI ?_)); conv => whnf) | (refine Ok.scope ?_) | ((first | refine Ok.label ?_ | refine rd rfl (by assumption) ?_ | refine ⟨_, .inl ⟨rfl, rfl⟩, ?_⟩ | refine ⟨_, _, rfl, rfl, ?_⟩); conv => whnf) | (refine ⟨fun _ => ?_, fun _ => ?_⟩ <;> (conv => whnf) <;> (try (exfalso; omega))) | ((first | refine aJ ?_ | refine num_any ?_ | refine ⟨_, rfl, ?_⟩); conv => whnf) | fail)
    all_goals first
      | (exfalso; omega)
      | (refine Or.inl ?_; (conv => whnf)
         exact ⟨rfl, [], rfl⟩)
  (try (conv => whnf)); repeat' (first | refine Ok.seq ?_ | refine OkL.cons ?_ | ((first | refine Ok.region tok ?_ | refine Ok.region_plan (id := 19) tok follows [(4, 14, []), (6, 14, [13, 12, 10, 9, 8]), (10, 14, [13, 12]), (13, 14, []), (4, 15, [14]), (6, 15, [14, 13, 12, 10, 9, 8]), (10, 15, [14, 13, 12]), (13, 15, [14]), (14, 15, [])] [.q 0, .q 1, .q 2, .q 3, .q 4, .q 5, .q 6, .q 7, .q 8, .q 9, .q 10, .q 11, .q 12, .q 13, .l 14, .l 15, .q 16] (by kernel_rfl) ?_ | refine Ok.region_draw tok follows (by kernel_rfl) ?_ | refine Ok.cond ?_); conv => whnf) | refine Ok.block ?_ | ((first | refine Ok.skip ?_ | refine Ok.exit ?_ | refine Ok.ret ?_ | refine nI ?_ | refine ix _ (by assumption) ?_ | refine ixI (by omega) (by assumption) ?_ | refine ix_new _ (by omega) fun _ _ => ?_ | refine ixI_new (by omega) (by omega) fun _ _ => ?_ | refine ⟨_, by assumption, ?_⟩ | refine Alt2.l (aI ?_) | refine Alt2.r (aI ?_)); conv => whnf) | (refine Ok.scope ?_) | ((first | refine Ok.label ?_ | refine rd rfl (by assumption) ?_ | refine ⟨_, .inl ⟨rfl, rfl⟩, ?_⟩ | refine ⟨_, _, rfl, rfl, ?_⟩); conv => whnf) | (refine ⟨fun _ => ?_, fun _ => ?_⟩ <;> (conv => whnf) <;> (try (exfalso; omega))) | ((first | refine aJ ?_ | refine num_any ?_ | refine ⟨_, rfl, ?_⟩); conv => whnf) | fail)
  all_goals first
    | (exfalso; omega)
    | skip
  refine Ok.ghost 6 9 rfl ?_
  (conv => whnf)
  refine Ok.loopU [1, 2] [6, 7] 1 1 (fun (x : Nat × List Str) => [.own 0 x.2.length, .i .i64 (x.1 : Nat)]) (fun _ b => b) (fun (x : Nat × List Str) (_ : Vx.Rows) => [some (9, x.2.map srow)]) (fun (x : Nat × List Str) => x.1 ≤ ts.length ∧ expX limit ts [] = expX limit (ts.drop x.1) x.2 ∧ AllW n.toNat x.2 ∧ (x.2.length : Int) ≤ limit) (fun (x : Nat × List Str) => ts.length - x.1) ((0, [])) (⟨Nat.zero_le _, by simp, fun c hc => by simp at hc, by simp; omega⟩) ?_; (conv => whnf); refine ⟨by ((conv => whnf); first | rfl | (simp [envCat, List.take_of_length_le, crow, trow, srow, drow]; done) | (simp [envCat, List.take_of_length_le, crow, trow, srow, drow]; rw [IntKind.wrap_i64]; omega)), ?_⟩
  rintro ⟨i, out⟩ ⟨hi, hex, hal, hle⟩
  dsimp only at hi hex hal hle ⊢
  have hom : (out.map srow).length = out.length := by simp
  (conv => whnf)
  by_cases hil : i < ts.length
  · obtain ⟨a, ha⟩ : ∃ a, ks[i]? = some a := ⟨_, List.getElem?_eq_getElem (by omega)⟩
    have haI : ks[((i : Nat) : Int).toNat]? = some a := ha
    have hat := tr_get h1 ha
    have hag := hf.good _ (List.mem_of_getElem? hat)
    have hlb := hf.less (List.mem_of_getElem? hat)
    have hlb2 : (a.t.less.map srow).length = a.t.less.length := by simp
    rw [drop_get hat, expX_cons] at hex
    by_cases hlim : limit - (out.length : Int) < 1
    · rw [show termX (limit - (out.length : Int)) a.t = none by unfold termX; rw [if_pos hlim]] at hex
      rw [expO_none hz harg hex]
      (try (conv => whnf)); repeat' (first | refine Ok.seq ?_ | refine OkL.cons ?_ | ((first | refine Ok.region tok ?_ | refine Ok.region_plan (id := 19) tok follows [(4, 14, []), (6, 14, [13, 12, 10, 9, 8]), (10, 14, [13, 12]), (13, 14, []), (4, 15, [14]), (6, 15, [14, 13, 12, 10, 9, 8]), (10, 15, [14, 13, 12]), (13, 15, [14]), (14, 15, [])] [.q 0, .q 1, .q 2, .q 3, .q 4, .q 5, .q 6, .q 7, .q 8, .q 9, .q 10, .q 11, .q 12, .q 13, .l 14, .l 15, .q 16] (by kernel_rfl) ?_ | refine Ok.region_draw tok follows (by kernel_rfl) ?_ | refine Ok.cond ?_); conv => whnf) | refine Ok.block ?_ | ((first | refine Ok.skip ?_ | refine Ok.exit ?_ | refine Ok.ret ?_ | refine nI ?_ | refine ix _ (by assumption) ?_ | refine ixI (by omega) (by assumption) ?_ | refine ix_new _ (by omega) fun _ _ => ?_ | refine ixI_new (by omega) (by omega) fun _ _ => ?_ | refine ⟨_, by assumption, ?_⟩ | refine Alt2.l (aI ?_) | refine Alt2.r (aI ?_)); conv => whnf) | (refine Ok.scope ?_) | ((first | refine Ok.label ?_ | refine rd rfl (by assumption) ?_ | refine ⟨_, .inl ⟨rfl, rfl⟩, ?_⟩ | refine ⟨_, _, rfl, rfl, ?_⟩); conv => whnf) | (refine ⟨fun _ => ?_, fun _ => ?_⟩ <;> (conv => whnf) <;> (try (exfalso; omega))) | ((first | refine aJ ?_ | refine num_any ?_ | refine ⟨_, rfl, ?_⟩); conv => whnf) | fail)
      all_goals first
        | (exfalso; omega)
        | (refine Or.inl ?_; (conv => whnf)
           exact ⟨rfl, [], rfl⟩)
    rw [show termX (limit - (out.length : Int)) a.t = splX (limit - (out.length : Int)) a.t.less [a.t.p] by unfold termX; rw [if_neg hlim]] at hex
    (try (conv => whnf)); repeat' (first | refine Ok.seq ?_ | refine OkL.cons ?_ | ((first | refine Ok.region tok ?_ | refine Ok.region_plan (id := 19) tok follows [(4, 14, []), (6, 14, [13, 12, 10, 9, 8]), (10, 14, [13, 12]), (13, 14, []), (4, 15, [14]), (6, 15, [14, 13, 12, 10, 9, 8]), (10, 15, [14, 13, 12]), (13, 15, [14]), (14, 15, [])] [.q 0, .q 1, .q 2, .q 3, .q 4, .q 5, .q 6, .q 7, .q 8, .q 9, .q 10, .q 11, .q 12, .q 13, .l 14, .l 15, .q 16] (by kernel_rfl) ?_ | refine Ok.region_draw tok follows (by kernel_rfl) ?_ | refine Ok.cond ?_); conv => whnf) | refine Ok.block ?_ | ((first | refine Ok.skip ?_ | refine Ok.exit ?_ | refine Ok.ret ?_ | refine nI ?_ | refine ix _ (by assumption) ?_ | refine ixI (by omega) (by assumption) ?_ | refine ix_new _ (by omega) fun _ _ => ?_ | refine ixI_new (by omega) (by omega) fun _ _ => ?_ | refine ⟨_, by assumption, ?_⟩ | refine Alt2.l (aI ?_) | refine Alt2.r (aI ?_)); conv => whnf) | (refine Ok.scope ?_) | ((first | refine Ok.label ?_ | refine rd rfl (by assumption) ?_ | refine ⟨_, .inl ⟨rfl, rfl⟩, ?_⟩ | refine ⟨_, _, rfl, rfl, ?_⟩); conv => whnf) | (refine ⟨fun _ => ?_, fun _ => ?_⟩ <;> (conv => whnf) <;> (try (exfalso; omega))) | ((first | refine aJ ?_ | refine num_any ?_ | refine ⟨_, rfl, ?_⟩); conv => whnf) | fail)
    refine Ok.pub 1 ?_
    (conv => whnf)
    refine Ok.loopU [1, 2, 6, 7] [8, 9] 1 1 (fun (x : Nat × List Str × List (List D)) => [.lst 9 (x.2.1.map srow) x.2.2, .i .i64 (x.1 : Nat)]) (fun _ b => b) (fun (x : Nat × List Str × List (List D)) (_ : Vx.Rows) => [some (9, out.map srow)]) (fun (x : Nat × List Str × List (List D)) => x.1 ≤ a.t.less.length ∧ splX (limit - (out.length : Int)) a.t.less [a.t.p] = splX (limit - (out.length : Int)) (a.t.less.drop x.1) x.2.1 ∧ AllW n.toNat x.2.1 ∧ (x.2.1.length : Int) ≤ limit - (out.length : Int)) (fun (x : Nat × List Str × List (List D)) => a.t.less.length - x.1) ((0, [a.t.p], [])) (⟨Nat.zero_le _, rfl, fun c hc => by simp at hc; subst hc; exact ⟨hag.p, hag.ok.p⟩, by simp; omega⟩) ?_; (conv => whnf); refine ⟨by ((conv => whnf); first | rfl | (simp [envCat, List.take_of_length_le, crow, trow, srow, drow]; done) | (simp [envCat, List.take_of_length_le, crow, trow, srow, drow]; rw [IntKind.wrap_i64]; omega)), ?_⟩
    rintro ⟨j, l, rml⟩ ⟨hj, hsx, hla, hll⟩
    dsimp only at hj hsx hla hll ⊢
    have hlm : (l.map srow).length = l.length := by simp
    (conv => whnf)
    by_cases hjl : j < a.t.less.length
    · obtain ⟨m, hm⟩ : ∃ m, a.t.less[j]? = some m := ⟨_, List.getElem?_eq_getElem hjl⟩
      have hmI : a.t.less[((j : Nat) : Int).toNat]? = some m := hm
      have hmc := (hag.less m (List.mem_of_getElem? hm)).1
      have hsa := splL_all hla hmc
      have hsl := splL_len (m := m) hla
      rw [drop_get hm, splX_cons] at hsx
      (try (conv => whnf)); repeat' (first | refine Ok.seq ?_ | refine OkL.cons ?_ | ((first | refine Ok.region tok ?_ | refine Ok.region_plan (id := 19) tok follows [(4, 14, []), (6, 14, [13, 12, 10, 9, 8]), (10, 14, [13, 12]), (13, 14, []), (4, 15, [14]), (6, 15, [14, 13, 12, 10, 9, 8]), (10, 15, [14, 13, 12]), (13, 15, [14]), (14, 15, [])] [.q 0, .q 1, .q 2, .q 3, .q 4, .q 5, .q 6, .q 7, .q 8, .q 9, .q 10, .q 11, .q 12, .q 13, .l 14, .l 15, .q 16] (by kernel_rfl) ?_ | refine Ok.region_draw tok follows (by kernel_rfl) ?_ | refine Ok.cond ?_); conv => whnf) | refine Ok.block ?_ | ((first | refine Ok.skip ?_ | refine Ok.exit ?_ | refine Ok.ret ?_ | refine nI ?_ | refine ix _ (by assumption) ?_ | refine ixI (by omega) (by assumption) ?_ | refine ix_new _ (by omega) fun _ _ => ?_ | refine ixI_new (by omega) (by omega) fun _ _ => ?_ | refine ⟨_, by assumption, ?_⟩ | refine Alt2.l (aI ?_) | refine Alt2.r (aI ?_)); conv => whnf) | (refine Ok.scope ?_) | ((first | refine Ok.label ?_ | refine rd rfl (by assumption) ?_ | refine ⟨_, .inl ⟨rfl, rfl⟩, ?_⟩ | refine ⟨_, _, rfl, rfl, ?_⟩); conv => whnf) | (refine ⟨fun _ => ?_, fun _ => ?_⟩ <;> (conv => whnf) <;> (try (exfalso; omega))) | ((first | refine aJ ?_ | refine num_any ?_ | refine ⟨_, rfl, ?_⟩); conv => whnf) | fail)
      refine Ok.ghost 10 9 rfl ?_
      (conv => whnf)
      refine Ok.loopU [1, 2, 6, 7, 8, 9] [10, 11] 2 1 (fun (k : Nat) => [.own 1 (splL m (l.take k)).length, .i .i64 (k : Nat)]) (fun _ b => b) (fun (k : Nat) (_ : Vx.Rows) => [some (9, out.map srow), some (9, (splL m (l.take k)).map srow)]) (fun (k : Nat) => k ≤ l.length) (fun (k : Nat) => l.length - k) (0) (Nat.zero_le _) ?_; (conv => whnf); refine ⟨by ((conv => whnf); first | rfl | (simp [envCat, List.take_of_length_le, crow, trow, srow, drow]; done) | (simp [envCat, List.take_of_length_le, crow, trow, srow, drow]; rw [IntKind.wrap_i64]; omega)), ?_⟩
      intro k hk
      have hqm : ((splL m (l.take k)).map srow).length = (splL m (l.take k)).length := by simp
      have hql := splL_len (m := m) (l := l.take k) (n := n.toNat) fun c hc => hla c (List.mem_of_mem_take hc)
      have hqk : (l.take k).length = k := by simp; omega
      (conv => whnf)
      by_cases hkl : k < l.length
      · obtain ⟨c, hc⟩ : ∃ c, l[k]? = some c := ⟨_, List.getElem?_eq_getElem hkl⟩
        have hcI : l[((k : Nat) : Int).toNat]? = some c := hc
        have hcw := hla c (List.mem_of_getElem? hc)
        have hsn := splL_snoc (m := m) hc
        have hcl := splitT_len (d := m) hcw.1.1.len
        have hclm : ((splitT c m).map srow).length = (splitT c m).length := by simp
        have rsp := rsplit_at c m hcw.1 hmc
        generalize splitT c m = S at *
        (try (conv => whnf)); repeat' (first | refine Ok.seq ?_ | refine OkL.cons ?_ | ((first | refine Ok.region tok ?_ | refine Ok.region_plan (id := 19) tok follows [(4, 14, []), (6, 14, [13, 12, 10, 9, 8]), (10, 14, [13, 12]), (13, 14, []), (4, 15, [14]), (6, 15, [14, 13, 12, 10, 9, 8]), (10, 15, [14, 13, 12]), (13, 15, [14]), (14, 15, [])] [.q 0, .q 1, .q 2, .q 3, .q 4, .q 5, .q 6, .q 7, .q 8, .q 9, .q 10, .q 11, .q 12, .q 13, .l 14, .l 15, .q 16] (by kernel_rfl) ?_ | refine Ok.region_draw tok follows (by kernel_rfl) ?_ | refine Ok.cond ?_); conv => whnf) | refine Ok.block ?_ | ((first | refine Ok.skip ?_ | refine Ok.exit ?_ | refine Ok.ret ?_ | refine nI ?_ | refine ix _ (by assumption) ?_ | refine ixI (by omega) (by assumption) ?_ | refine ix_new _ (by omega) fun _ _ => ?_ | refine ixI_new (by omega) (by omega) fun _ _ => ?_ | refine ⟨_, by assumption, ?_⟩); conv => whnf) | (refine Or.inr (Or.inl ?_); (conv => whnf); (repeat (refine aI ?_; conv => whnf)); refine ⟨_, rsp , ?_⟩; rintro _ _ ⟨rmq, rfl, rfl⟩ <;> (conv => whnf)) | ((first | refine Alt2.l (aI ?_) | refine Alt2.r (aI ?_)); conv => whnf) | (refine Ok.scope ?_) | ((first | refine Ok.label ?_ | refine rd rfl (by assumption) ?_ | refine ⟨_, .inl ⟨rfl, rfl⟩, ?_⟩ | refine ⟨_, _, rfl, rfl, ?_⟩); conv => whnf) | (refine ⟨fun _ => ?_, fun _ => ?_⟩ <;> (conv => whnf) <;> (try (exfalso; omega))) | ((first | refine aJ ?_ | refine num_any ?_ | refine ⟨_, rfl, ?_⟩); conv => whnf) | fail)
        refine ⟨k + 1, by omega, by omega, ?_⟩
        rw [hsn, List.map_append]
        (conv => whnf)
        simp [envCat]
      · have hke : k = l.length := by omega
        subst hke
        rw [List.take_length] at *
        refine Ok.pub 1 ?_
        (conv => whnf)
        rw [take_all, drop_all]
        by_cases hov : limit - (out.length : Int) < ((splL m l).length : Int)
        · rw [if_pos hov] at hsx
          rw [hsx] at hex
          rw [expO_none hz harg hex]
          (try (conv => whnf)); repeat' (first | refine Ok.seq ?_ | refine OkL.cons ?_ | ((first | refine Ok.region tok ?_ | refine Ok.region_plan (id := 19) tok follows [(4, 14, []), (6, 14, [13, 12, 10, 9, 8]), (10, 14, [13, 12]), (13, 14, []), (4, 15, [14]), (6, 15, [14, 13, 12, 10, 9, 8]), (10, 15, [14, 13, 12]), (13, 15, [14]), (14, 15, [])] [.q 0, .q 1, .q 2, .q 3, .q 4, .q 5, .q 6, .q 7, .q 8, .q 9, .q 10, .q 11, .q 12, .q 13, .l 14, .l 15, .q 16] (by kernel_rfl) ?_ | refine Ok.region_draw tok follows (by kernel_rfl) ?_ | refine Ok.cond ?_); conv => whnf) | refine Ok.block ?_ | ((first | refine Ok.skip ?_ | refine Ok.exit ?_ | refine Ok.ret ?_ | refine nI ?_ | refine ix _ (by assumption) ?_ | refine ixI (by omega) (by assumption) ?_ | refine ix_new _ (by omega) fun _ _ => ?_ | refine ixI_new (by omega) (by omega) fun _ _ => ?_ | refine ⟨_, by assumption, ?_⟩ | refine Alt2.l (aI ?_) | refine Alt2.r (aI ?_)); conv => whnf) | (refine Ok.scope ?_) | ((first | refine Ok.label ?_ | refine rd rfl (by assumption) ?_ | refine ⟨_, .inl ⟨rfl, rfl⟩, ?_⟩ | refine ⟨_, _, rfl, rfl, ?_⟩); conv => whnf) | (refine ⟨fun _ => ?_, fun _ => ?_⟩ <;> (conv => whnf) <;> (try (exfalso; omega))) | ((first | refine aJ ?_ | refine num_any ?_ | refine ⟨_, rfl, ?_⟩); conv => whnf) | fail)
          all_goals first
            | (exfalso; omega)
            | (refine Or.inl ?_; (conv => whnf)
               exact ⟨rfl, [], rfl⟩)
        · rw [if_neg hov] at hsx
          (try (conv => whnf)); repeat' (first | refine Ok.seq ?_ | refine OkL.cons ?_ | ((first | refine Ok.region tok ?_ | refine Ok.region_plan (id := 19) tok follows [(4, 14, []), (6, 14, [13, 12, 10, 9, 8]), (10, 14, [13, 12]), (13, 14, []), (4, 15, [14]), (6, 15, [14, 13, 12, 10, 9, 8]), (10, 15, [14, 13, 12]), (13, 15, [14]), (14, 15, [])] [.q 0, .q 1, .q 2, .q 3, .q 4, .q 5, .q 6, .q 7, .q 8, .q 9, .q 10, .q 11, .q 12, .q 13, .l 14, .l 15, .q 16] (by kernel_rfl) ?_ | refine Ok.region_draw tok follows (by kernel_rfl) ?_ | refine Ok.cond ?_); conv => whnf) | refine Ok.block ?_ | ((first | refine Ok.skip ?_ | refine Ok.exit ?_ | refine Ok.ret ?_ | refine nI ?_ | refine ix _ (by assumption) ?_ | refine ixI (by omega) (by assumption) ?_ | refine ix_new _ (by omega) fun _ _ => ?_ | refine ixI_new (by omega) (by omega) fun _ _ => ?_ | refine ⟨_, by assumption, ?_⟩ | refine Alt2.l (aI ?_) | refine Alt2.r (aI ?_)); conv => whnf) | (refine Ok.scope ?_) | ((first | refine Ok.label ?_ | refine rd rfl (by assumption) ?_ | refine ⟨_, .inl ⟨rfl, rfl⟩, ?_⟩ | refine ⟨_, _, rfl, rfl, ?_⟩); conv => whnf) | (refine ⟨fun _ => ?_, fun _ => ?_⟩ <;> (conv => whnf) <;> (try (exfalso; omega))) | ((first | refine aJ ?_ | refine num_any ?_ | refine ⟨_, rfl, ?_⟩); conv => whnf) | fail)
          all_goals first
            | (exfalso; omega)
            | skip
          refine ⟨(j + 1, splL m l, []), by dsimp only; omega, ⟨by dsimp only; omega, hsx, hsa, by dsimp only; omega⟩, ?_⟩
          (conv => whnf)
          rfl
    · have hje : j = a.t.less.length := by omega
      subst hje
      rw [List.drop_length] at hsx
      have hsx : splX (limit - (out.length : Int)) a.t.less [a.t.p] = some l := hsx
      rw [hsx] at hex
      have hap : (out.map srow ++ l.map srow).length = out.length + l.length := by simp
      (try (conv => whnf)); repeat' (first | refine Ok.seq ?_ | refine OkL.cons ?_ | ((first | refine Ok.region tok ?_ | refine Ok.region_plan (id := 19) tok follows [(4, 14, []), (6, 14, [13, 12, 10, 9, 8]), (10, 14, [13, 12]), (13, 14, []), (4, 15, [14]), (6, 15, [14, 13, 12, 10, 9, 8]), (10, 15, [14, 13, 12]), (13, 15, [14]), (14, 15, [])] [.q 0, .q 1, .q 2, .q 3, .q 4, .q 5, .q 6, .q 7, .q 8, .q 9, .q 10, .q 11, .q 12, .q 13, .l 14, .l 15, .q 16] (by kernel_rfl) ?_ | refine Ok.region_draw tok follows (by kernel_rfl) ?_ | refine Ok.cond ?_); conv => whnf) | refine Ok.block ?_ | ((first | refine Ok.skip ?_ | refine Ok.exit ?_ | refine Ok.ret ?_ | refine nI ?_ | refine ix _ (by assumption) ?_ | refine ixI (by omega) (by assumption) ?_ | refine ix_new _ (by omega) fun _ _ => ?_ | refine ixI_new (by omega) (by omega) fun _ _ => ?_ | refine ⟨_, by assumption, ?_⟩ | refine Alt2.l (aI ?_) | refine Alt2.r (aI ?_)); conv => whnf) | (refine Ok.scope ?_) | ((first | refine Ok.label ?_ | refine rd rfl (by assumption) ?_ | refine ⟨_, .inl ⟨rfl, rfl⟩, ?_⟩ | refine ⟨_, _, rfl, rfl, ?_⟩); conv => whnf) | (refine ⟨fun _ => ?_, fun _ => ?_⟩ <;> (conv => whnf) <;> (try (exfalso; omega))) | ((first | refine aJ ?_ | refine num_any ?_ | refine ⟨_, rfl, ?_⟩); conv => whnf) | fail)
      refine ⟨(i + 1, out ++ l), by dsimp only; omega, ⟨by dsimp only; omega, hex, fun c hc => (List.mem_append.1 hc).elim (hal c) (hla c), by dsimp only; rw [List.length_append]; omega⟩, ?_⟩
      (conv => whnf)
      simp [envCat]
  · have hie : i = ts.length := by omega
    subst hie
    rw [List.drop_length] at hex
    have hex : expX limit ts [] = some out := hex
    rw [expO_some hz harg hex]
    (try (conv => whnf)); repeat' (first | refine Ok.seq ?_ | refine OkL.cons ?_ | ((first | refine Ok.region tok ?_ | refine Ok.region_plan (id := 19) tok follows [(4, 14, []), (6, 14, [13, 12, 10, 9, 8]), (10, 14, [13, 12]), (13, 14, []), (4, 15, [14]), (6, 15, [14, 13, 12, 10, 9, 8]), (10, 15, [14, 13, 12]), (13, 15, [14]), (14, 15, [])] [.q 0, .q 1, .q 2, .q 3, .q 4, .q 5, .q 6, .q 7, .q 8, .q 9, .q 10, .q 11, .q 12, .q 13, .l 14, .l 15, .q 16] (by kernel_rfl) ?_ | refine Ok.region_draw tok follows (by kernel_rfl) ?_ | refine Ok.cond ?_); conv => whnf) | refine Ok.block ?_ | ((first | refine Ok.skip ?_ | refine Ok.exit ?_ | refine Ok.ret ?_ | refine nI ?_ | refine ix _ (by assumption) ?_ | refine ixI (by omega) (by assumption) ?_ | refine ix_new _ (by omega) fun _ _ => ?_ | refine ixI_new (by omega) (by omega) fun _ _ => ?_ | refine ⟨_, by assumption, ?_⟩ | refine Alt2.l (aI ?_) | refine Alt2.r (aI ?_)); conv => whnf) | (refine Ok.scope ?_) | ((first | refine Ok.label ?_ | refine rd rfl (by assumption) ?_ | refine ⟨_, .inl ⟨rfl, rfl⟩, ?_⟩ | refine ⟨_, _, rfl, rfl, ?_⟩); conv => whnf) | (refine ⟨fun _ => ?_, fun _ => ?_⟩ <;> (conv => whnf) <;> (try (exfalso; omega))) | ((first | refine aJ ?_ | refine num_any ?_ | refine ⟨_, rfl, ?_⟩); conv => whnf) | fail)
    refine Or.inl ?_; (conv => whnf)
    refine ⟨rfl, [], ?_⟩
    rw [List.take_of_length_le (by simp), List.drop_of_length_le (by simp)]
    rfl
end Go.Proofs.YtaiondckookpiaaGreatDoor
namespace Go.Vx
open Go.RowKit
section
variable {P : Program} {T : Tab} {l : Nat} {x : List D} {n : Nat} {Q : Exit → List (Nat × D) → Prop} {s : St}
structure OkO (P : Program) (T : Tab) (l : Nat) (x : List D) (n : Nat) (c : Code) (Q : Exit → List (Nat × D) → Prop) (s : St) : Prop where
  run : ∀ (B : Nat) J Jp, Yields P T l B [x] J Jp → (∀ V W, ¬ J (some 1) V W) → ∀ (V : Vw) (a0 : Act) (w0 : World) (env : List (Nat × D)), J (some 0) V w0 → PureS (szOf T) B V env n a0 w0 →
    ∀ (V' : Vw) (μ : List Nat) (ω : List Value) (a : Act) (w : World), Sim (szOf T) w0 ⟨V, fun _ => undef, a0.defers, []⟩ V' μ ω s a w → c.wp P (yPost P T B J Jp n fun e g env => g = none ∧ Q e env) a w
theorem OkO.seq {c y : Code} (h : Ok P T c (thenQ (OkO P T l x n y Q) (fun _ _ => False)) s) : OkO P T l x n (.seq c y) Q s := by
  refine ⟨fun B J Jp hY h1 V a0 w0 env hJ hp V' μ ω a w hS => wp_seq (wp_mono (h.run w0 _ V' μ ω a w hS) ?_)⟩
  rintro e a' w' ⟨s', V2, μ', ω', hq, hS2⟩
  cases e with
  | normal => exact OkO.run hq B J Jp hY h1 V a0 w0 env hJ hp V2 μ' ω' a' w' hS2
  | _ => exact False.elim hq
def thenO (N : List (Nat × D) → Prop) (Q : Exit → List (Nat × D) → Prop) : Exit → List (Nat × D) → Prop
  | .normal, env => N env
  | e, env => Q e env
theorem OkO.seqY {c y : Code} (h : OkO P T l x n c (thenO (OkY P T l [x] n y (fun e g env => g = none ∧ Q e env) none) Q) s) : OkO P T l x n (.seq c y) Q s := by
  refine ⟨fun B J Jp hY h1 V a0 w0 env hJ hp V' μ ω a w hS => wp_seq (wp_mono (h.run B J Jp hY h1 V a0 w0 env hJ hp V' μ ω a w hS) ?_)⟩
  rintro e a' w' (⟨g', env', V', ⟨rfl, hk⟩, h1, h2⟩ | ⟨ch, rfl, h⟩)
  · cases e with
    | normal => exact OkY.run hk B J Jp hY V' a' w' h1 h2
    | _ => exact .inl ⟨none, env', V', ⟨rfl, hk⟩, h1, h2⟩
  · exact .inr ⟨ch, rfl, h⟩
def blockO (id : Nat) (Q : Exit → List (Nat × D) → Prop) : Exit → List (Nat × D) → Prop
  | .exit id', env => match Nat.beq id' id with | true => Q .normal env | false => Q (.exit id') env
  | e, env => Q e env
theorem OkO.block {id : Nat} {c : Code} (h : OkO P T l x n c (blockO id Q) s) : OkO P T l x n (.block id c) Q s := by
  refine ⟨fun B J Jp hY h1 V a0 w0 env hJ hp V' μ ω a w hS => wp_block (wp_mono (h.run B J Jp hY h1 V a0 w0 env hJ hp V' μ ω a w hS) ?_)⟩
  rintro e a' w' (⟨g', env', V', ⟨rfl, hk⟩, h1, h2⟩ | ⟨ch, rfl, h⟩)
  · cases e with
    | exit id' =>
      simp only [blockO] at hk
      simp only [Exit.inBlock]
      split at hk
      · rename_i hb
        rw [if_pos (beq_nat_true hb)]
        exact .inl ⟨none, env', V', ⟨rfl, hk⟩, h1, h2⟩
      · rename_i hb
        rw [if_neg (by rintro rfl; rw [Nat.beq_refl] at hb; cases hb)]
        exact .inl ⟨none, env', V', ⟨rfl, hk⟩, h1, h2⟩
    | _ => exact .inl ⟨none, env', V', ⟨rfl, hk⟩, h1, h2⟩
  · exact .inr ⟨ch, rfl, h⟩
theorem OkO.loop {c : Code} (h : OkO P T l x n c (thenO (fun _ => False) Q) s) : OkO P T l x n (.loop c) Q s := by
  refine ⟨fun B J Jp hY h1 V a0 w0 env hJ hp V' μ ω a w hS => wp_loop_at (fun k a1 w1 => k = 0 ∧ a1 = a ∧ w1 = w) ?_ ⟨rfl, rfl, rfl⟩⟩
  rintro k a1 w1 ⟨rfl, rfl, rfl⟩
  refine wp_mono (h.run B J Jp hY h1 V a0 w0 env hJ hp V' μ ω _ _ hS) ?_
  rintro e a' w' (⟨g', env', V', ⟨rfl, hk⟩, h1, h2⟩ | ⟨ch, rfl, h⟩)
  · cases e with
    | normal => exact False.elim hk
    | _ => exact .inl ⟨none, env', V', ⟨rfl, hk⟩, h1, h2⟩
  · exact .inr ⟨ch, rfl, h⟩
def yCallO (P : Program) (T : Tab) (l n : Nat) (ops r : List Oper) (x : List D) (Q : Exit → List (Nat × D) → Prop) (o : Oper) (s : St) : Prop :=
  match o.guard with
  | some _ => False
  | none => match o.op with
    | .call { callee := .value (.tmp t), args, argTypes := _ } => s.get (.tmp t) = .yld l ∧ s.gets args.toList = x ∧ imms x = true ∧ purK n s fun env' =>
        putK ⟨env', [], [], n⟩ o.dst .ff fun s => vops P T ops r s fun s' => purK n s' (Q .normal)
    | _ => False
theorem OkO.yreg (hT : TOk P T) {id : Nat} {ops : List Oper} (j : Nat) (h : vopsCut P T ops j ops s (yCallO P T l n ops (ops.drop (j + 1)) x Q)) :
    OkO P T l x n (.region id ops.toArray false) Q s := by
  refine ⟨fun B J Jp hY h1 V a0 w0 env hJ hp V' μ ω a w hS0 => (wpIn_wide (n := 0)).1 ?_⟩
  show Code.wpIn (fen none) 0 P _ _ a w
  refine wpIn_region_lit (vopsCutIn_sound hT j ops _ V' μ ω a w _ hS0 h ?_)
  intro o r s V1 μ1 ω1 a1 w1 hr hk hS1
  have hr2 : ops.drop (j + 1) = r := by rw [← List.drop_drop, hr]; rfl
  rw [hr2] at hk
  obtain ⟨dst, op, type, pos, after, guard⟩ := o
  unfold yCallO at hk
  split at hk
  · exact hk.elim
  rename_i hg
  dsimp only at hg
  subst hg
  split at hk
  case h_2 => exact hk.elim
  rename_i t args ats hop
  dsimp only at hop
  subst hop
  obtain ⟨hyl, hgs, him, hk⟩ := hk
  have hev : a1.eval (.tmp t) = .func (.yield l) #[] #[] := by have := hS1.get (.tmp t); rw [hyl] at this; exact this.yld_
  obtain ⟨env', hk2, hp1⟩ := hp.after hS1 hk
  have hJ1 := hY.grow _ _ _ _ _ hJ hS1.mem.below hS1.mem.vle hS1.mem.vok (fresh_of hS1.mem rfl)
  obtain ⟨ms, e1, e2, e3⟩ := hp1.marks
  have hvals := hS1.gets args.toList
  rw [hgs] at hvals
  obtain ⟨fn, tmps, assign, body, hyi, hround⟩ := hY.round 0 x V1 w1 (args.toList.map a1.eval) rfl hJ1 hvals.1 (fun i v d h1 h2 => immD_ri (hvals.2 i v d h1 h2) (imms_at him i d h2)) (keptOf ms) (fun y hy => by
    obtain ⟨D, hD, rfl⟩ := List.mem_map.1 hy
    exact ⟨(e3 D hD).1, (e3 D hD).2, fun _ _ _ e => by cases e⟩)
  unfold wpListIn
  rw [if_pos (by simp [Region.wanted])]
  refine ⟨fun _ _ => trivial, ?_⟩
  have hrun : (execOp a1.eval ⟨dst, .call ⟨.value (.tmp t), args, ats⟩, type, pos, after, none⟩).run P w1 = .ok (.round l fn tmps assign body) w1 := by
    have ha : (args.toList.map a1.eval).toArray = args.map a1.eval := by apply Array.ext'; simp
    rw [ha] at hyi
    simp only [execOp, resolve, hev, Deferred.ofValue, Sem.run_bind, Sem.run_pure, Result.andThen_ok]
    simp [invoke, go_sem, hyi]
  have hsem : ∀ o, Oper.semAt (fen none).round a1.eval o = execOp a1.eval o := fun o => Oper.semAt_none _ _
  rw [hsem, hrun]
  refine ⟨(fun hh => by cases hh), ?_⟩
  refine RoundIn.mono hround ?_
  rintro e W' ⟨hE, h⟩
  have hmk : ∃ ms : List Nat, a1.defers = ms.map mkD ∧ ms.Nodup ∧ ∀ D ∈ ms, B ≤ D ∧ W'.heap[D]? = some (.deferred (some [])) := ⟨ms, e1, e2, fun D hD => ⟨(e3 D hD).1, hE (D, _) (List.mem_map.2 ⟨D, hD, rfl⟩)⟩⟩
  rcases h with ⟨V2, hle, ⟨rfl, hJ2⟩ | ⟨rfl, hJ2⟩⟩ | ⟨c, rfl, hJp⟩
  · exact absurd hJ2 (h1 _ _)
  · have hp2 : PureS (szOf T) B V2 env' n a1 W' := ⟨hp1.tmps, hmk, hY.size _ _ _ hJ2, hY.vok _ _ _ hJ2, fun t => (hp1.env t).mono hle (.refl _) (.refl _)⟩
    obtain ⟨s3, hq3, hS3⟩ := putK_sound hp2.sim (.imm _ _ .ff) hk2
    refine vopsIn_sound hT r s3 V2 [] [] _ W' _ hS3 hq3 ?_
    intro s4 V4 μ4 ω4 a4 w4 hk4 hS4
    obtain ⟨env5, hk5, hp5⟩ := hp2.after (a' := a4) (w' := w4) hS4 hk4
    exact .inl ⟨none, env5, V4, ⟨rfl, hk5⟩, hY.grow _ _ _ _ _ hJ2 hS4.mem.below hS4.mem.vle hS4.mem.vok (fresh_of hS4.mem rfl), hp5⟩
  · exact .inr ⟨c, rfl, hJp, hmk⟩
theorem YSpecI.of_okO {f : FuncId} {fn : Func} {c : Code} (hf : P.funcs[f]? = some fn) (hb : fn.body = some c) (hcall : ∀ args w, (callFunc f args).run P w = .ok (.enter f args) w) {cap : List D} (hres : fn.results = #[]) (hn : cap.length + 1 ≤ fn.ntmps)
    (h : ∀ l, OkO P T l x fn.ntmps c (fun e _ => e = .normal ∨ e = .ret) ⟨envOf 0 (.yld l :: cap), [], [], fn.ntmps⟩) : YSpecI P T f cap [x] (· = 0) := by
  refine ⟨hcall, fun V w args hl hR l J Jp hY hI hJ => calls_of_wp_X hf hb ?_⟩
  have hst := start_sim (T := T) (fn := fn) (ds := .yld l :: cap) (V := V) (w := w) (args := #[.func (.yield l) #[] #[]] ++ args) (df := []) (by simpa using hn) (hY.vok _ _ _ hJ) (by simp; omega) (fun j v d h1 h2 => by
    cases j with
    | zero =>
      rw [Array.getElem?_append_left (by simp)] at h1
      simp at h1 h2
      subst h1 h2
      exact .yld l
    | succ j =>
      refine hR j v d ?_ (by simpa using h2)
      rw [Array.getElem?_append_right (by simp)] at h1
      simpa using h1)
  have hps : PureS (szOf T) w.heap.size V (envOf 0 (.yld l :: cap)) fn.ntmps _ w := ⟨hst.tmps, ⟨[], rfl, List.nodup_nil, by simp⟩, Nat.le_refl _, hY.vok _ _ _ hJ, hst.env⟩
  refine wp_mono ((h l).run w.heap.size J Jp hY (fun V W h => by have := hI 1 V W h; omega) V _ w _ hJ hps V [] [] _ w hps.sim) ?_
  rintro e a' w' (⟨g', env', V', ⟨rfl, he⟩, hJ', hp⟩ | ⟨ch, rfl, hJp, ms, e1, e2, e3⟩)
  · obtain ⟨ms, e1, e2, e3⟩ := hp.marks
    have fin : LeavesX P fn a'.tmps (fun e w' => ((∃ v, e = .returned v) ∧ ∃ V', J (some [x].length) V' w' ∨ J none V' w') ∨ ∃ c, e = .panicked c ∧ Jp c w') a'.defers .returning w' := by
      rw [e1, ← List.append_nil (ms.map mkD)]
      refine leavesX_marks (by simp) ms w' e2 (fun D hD => (e3 D hD).2) ⟨.tuple #[], ?_, .inl ⟨⟨_, rfl⟩, V', .inr ((J_shut hY ms w' e2 e3).1 none V' hJ')⟩⟩
      rw [results_eq, hres]
      simp
    rcases he with rfl | rfl
    · exact fin
    · exact fin
  · show LeavesX P fn a'.tmps _ a'.defers _ w'
    rw [e1, ← List.append_nil (ms.map mkD)]
    exact leavesX_marks (by simp) ms w' e2 (fun D hD => (e3 D hD).2) (.inr ⟨ch, rfl, (J_shut hY ms w' e2 e3).2 ch hJp⟩)
end
end Go.Vx
namespace Go.Proofs.YtaiondckookpiaaGreatDoor
open Go Go.Vx
def lst1 (b : UInt8) : UInt8 := if b = 120 then 48 else b
def leastL (c : Str) : Str := c.map lst1
theorem leastL_len (c : Str) : (leastL c).length = c.length := by simp [leastL]
theorem leastL_get {c : Str} {i : Nat} {b : UInt8} (h : c[i]? = some b) : (leastL c)[i]? = some (lst1 b) := by simp [leastL, h]
theorem memb_at (c : Str) : FSpec Tryz.prog T 97 [.agg (crow c)] (fun d rows => d = .fn 128 [] [.ep (crow c)] ∧ rows = []) := by
  refine FSpec.of_ok tok Tryz.func97 rfl Tryz.call97 (by simp) ?_
  (try (conv => whnf)); repeat' (first | ((with_reducible_and_instances (first | refine nShr (by assumption) ?_ | refine nShl1' rfl (by assumption) ?_ | refine nAnd ?_ | refine nOr ?_ | refine nXor ?_ | refine nAndNot ?_ | refine nAnd1' rfl ?_)); conv => whnf) | refine Ok.seq ?_ | refine OkL.cons ?_ | ((first | refine Ok.region tok ?_ | refine Ok.region_draw tok follows (by kernel_rfl) ?_ | refine Ok.cond ?_); conv => whnf) | refine Ok.block ?_ | ((first | refine Ok.skip ?_ | refine Ok.exit ?_ | refine Ok.ret ?_ | refine nI ?_ | refine ix _ (by assumption) ?_ | refine ixI (by omega) (by assumption) ?_ | refine ix_new _ (by omega) fun _ _ => ?_ | refine ixI_new (by omega) (by omega) fun _ _ => ?_ | refine ⟨_, by assumption, ?_⟩ | refine Alt2.l (aI ?_) | refine Alt2.r (aI ?_)); conv => whnf) | (refine Ok.scope ?_) | ((first | refine Ok.label ?_ | refine rd rfl (by assumption) ?_ | refine ⟨_, .inl ⟨rfl, rfl⟩, ?_⟩ | refine ⟨_, _, rfl, rfl, ?_⟩); conv => whnf) | (refine ⟨fun _ => ?_, fun _ => ?_⟩ <;> (conv => whnf) <;> (try (exfalso; omega))) | ((first | refine aJ ?_ | refine num_any ?_ | refine ⟨_, rfl, ?_⟩); conv => whnf) | fail)
  refine Or.inr ?_
  (conv => whnf)
  (try (conv => whnf)); repeat' (first | ((with_reducible_and_instances (first | refine nShr (by assumption) ?_ | refine nShl1' rfl (by assumption) ?_ | refine nAnd ?_ | refine nOr ?_ | refine nXor ?_ | refine nAndNot ?_ | refine nAnd1' rfl ?_)); conv => whnf) | (refine Ok.pubB (c := Code.ret) rfl ?_; (conv => whnf); refine Ok.ret ?_; (conv => whnf)) | refine Ok.seq ?_ | refine OkL.cons ?_ | ((first | refine Ok.region tok ?_ | refine Ok.region_draw tok follows (by kernel_rfl) ?_ | refine Ok.cond ?_); conv => whnf) | refine Ok.block ?_ | ((first | refine Ok.skip ?_ | refine Ok.exit ?_ | refine Ok.ret ?_ | refine nI ?_ | refine ix _ (by assumption) ?_ | refine ixI (by omega) (by assumption) ?_ | refine ix_new _ (by omega) fun _ _ => ?_ | refine ixI_new (by omega) (by omega) fun _ _ => ?_ | refine ⟨_, by assumption, ?_⟩ | refine Alt2.l (aI ?_) | refine Alt2.r (aI ?_)); conv => whnf) | (refine Ok.scope ?_) | ((first | refine Ok.label ?_ | refine rd rfl (by assumption) ?_ | refine ⟨_, .inl ⟨rfl, rfl⟩, ?_⟩ | refine ⟨_, _, rfl, rfl, ?_⟩); conv => whnf) | (refine ⟨fun _ => ?_, fun _ => ?_⟩ <;> (conv => whnf) <;> (try (exfalso; omega))) | ((first | refine aJ ?_ | refine num_any ?_ | refine ⟨_, rfl, ?_⟩); conv => whnf) | fail)
  refine Or.inl ?_; (conv => whnf)
  exact ⟨rfl, rfl⟩
theorem fill_at2 {L : Str} {i : Nat} (hi : i < L.length) (x : UInt8) : ((L.take i ++ List.replicate (L.length - i) (0 : UInt8)).set i x)[i]? = some x := by
  rw [List.getElem?_set_self (by simp; omega)]
set_option maxHeartbeats 4000000 in
theorem memb_seq (c : Str) (hc : CN c) : YSpecI Tryz.prog T 128 [.ep (crow c)] [[.s (leastL c)]] (· = 0) := by
  have hlen := hc.1.len
  have hpos : 0 < c.length := List.length_pos_iff.2 hc.2
  refine YSpecI.of_okO Tryz.func128 rfl Tryz.call128 rfl (show 2 ≤ 37 by decide) fun y => ?_
  refine OkO.seq ?_
  (try (conv => whnf)); repeat' (first | ((with_reducible_and_instances (first | refine nShr (by assumption) ?_ | refine nShl1' rfl (by assumption) ?_ | refine nAnd ?_ | refine nOr ?_ | refine nXor ?_ | refine nAndNot ?_ | refine nAnd1' rfl ?_)); conv => whnf) | refine Ok.seq ?_ | refine OkL.cons ?_ | ((first | refine Ok.region tok ?_ | refine Ok.region_draw tok follows (by kernel_rfl) ?_ | refine Ok.cond ?_); conv => whnf) | refine Ok.block ?_ | ((first | refine Ok.skip ?_ | refine Ok.exit ?_ | refine Ok.ret ?_ | refine nI ?_ | refine ix _ (by assumption) ?_ | refine ixI (by omega) (by assumption) ?_ | refine ix_new _ (by omega) fun _ _ => ?_ | refine ixI_new (by omega) (by omega) fun _ _ => ?_ | refine ⟨_, by assumption, ?_⟩ | refine Alt2.l (aI ?_) | refine Alt2.r (aI ?_)); conv => whnf) | (refine Ok.scope ?_) | ((first | refine Ok.label ?_ | refine rd rfl (by assumption) ?_ | refine ⟨_, .inl ⟨rfl, rfl⟩, ?_⟩ | refine ⟨_, _, rfl, rfl, ?_⟩); conv => whnf) | (refine ⟨fun _ => ?_, fun _ => ?_⟩ <;> (conv => whnf) <;> (try (exfalso; omega))) | ((first | refine aJ ?_ | refine num_any ?_ | refine ⟨_, rfl, ?_⟩); conv => whnf) | fail)
  refine OkO.seq ?_
  (try (conv => whnf)); repeat' (first | ((with_reducible_and_instances (first | refine nShr (by assumption) ?_ | refine nShl1' rfl (by assumption) ?_ | refine nAnd ?_ | refine nOr ?_ | refine nXor ?_ | refine nAndNot ?_ | refine nAnd1' rfl ?_)); conv => whnf) | refine Ok.seq ?_ | refine OkL.cons ?_ | ((first | refine Ok.region tok ?_ | refine Ok.region_draw tok follows (by kernel_rfl) ?_ | refine Ok.cond ?_); conv => whnf) | refine Ok.block ?_ | ((first | refine Ok.skip ?_ | refine Ok.exit ?_ | refine Ok.ret ?_ | refine nI ?_ | refine ix _ (by assumption) ?_ | refine ixI (by omega) (by assumption) ?_ | refine ix_new _ (by omega) fun _ _ => ?_ | refine ixI_new (by omega) (by omega) fun _ _ => ?_ | refine ⟨_, by assumption, ?_⟩ | refine Alt2.l (aI ?_) | refine Alt2.r (aI ?_)); conv => whnf) | (refine Ok.scope ?_) | ((first | refine Ok.label ?_ | refine rd rfl (by assumption) ?_ | refine ⟨_, .inl ⟨rfl, rfl⟩, ?_⟩ | refine ⟨_, _, rfl, rfl, ?_⟩); conv => whnf) | (refine ⟨fun _ => ?_, fun _ => ?_⟩ <;> (conv => whnf) <;> (try (exfalso; omega))) | ((first | refine aJ ?_ | refine num_any ?_ | refine ⟨_, rfl, ?_⟩); conv => whnf) | fail)
  refine OkO.seq ?_
  (try (conv => whnf)); repeat' (first | ((with_reducible_and_instances (first | refine nShr (by assumption) ?_ | refine nShl1' rfl (by assumption) ?_ | refine nAnd ?_ | refine nOr ?_ | refine nXor ?_ | refine nAndNot ?_ | refine nAnd1' rfl ?_)); conv => whnf) | refine Ok.seq ?_ | refine OkL.cons ?_ | ((first | refine Ok.region tok ?_ | refine Ok.region_draw tok follows (by kernel_rfl) ?_ | refine Ok.cond ?_); conv => whnf) | refine Ok.block ?_ | ((first | refine Ok.skip ?_ | refine Ok.exit ?_ | refine Ok.ret ?_ | refine nI ?_ | refine ix _ (by assumption) ?_ | refine ixI (by omega) (by assumption) ?_ | refine ix_new _ (by omega) fun _ _ => ?_ | refine ixI_new (by omega) (by omega) fun _ _ => ?_ | refine ⟨_, by assumption, ?_⟩ | refine Alt2.l (aI ?_) | refine Alt2.r (aI ?_)); conv => whnf) | (refine Ok.scope ?_) | ((first | refine Ok.label ?_ | refine rd rfl (by assumption) ?_ | refine ⟨_, .inl ⟨rfl, rfl⟩, ?_⟩ | refine ⟨_, _, rfl, rfl, ?_⟩); conv => whnf) | (refine ⟨fun _ => ?_, fun _ => ?_⟩ <;> (conv => whnf) <;> (try (exfalso; omega))) | ((first | refine aJ ?_ | refine num_any ?_ | refine ⟨_, rfl, ?_⟩); conv => whnf) | fail)
  all_goals first
    | (exfalso; omega)
    | skip
  refine OkO.seq ?_
  (try (conv => whnf)); repeat' (first | ((with_reducible_and_instances (first | refine nShr (by assumption) ?_ | refine nShl1' rfl (by assumption) ?_ | refine nAnd ?_ | refine nOr ?_ | refine nXor ?_ | refine nAndNot ?_ | refine nAnd1' rfl ?_)); conv => whnf) | refine Ok.seq ?_ | refine OkL.cons ?_ | ((first | refine Ok.region tok ?_ | refine Ok.region_draw tok follows (by kernel_rfl) ?_ | refine Ok.cond ?_); conv => whnf) | refine Ok.block ?_ | ((first | refine Ok.skip ?_ | refine Ok.exit ?_ | refine Ok.ret ?_ | refine nI ?_ | refine ix _ (by assumption) ?_ | refine ixI (by omega) (by assumption) ?_ | refine ix_new _ (by omega) fun _ _ => ?_ | refine ixI_new (by omega) (by omega) fun _ _ => ?_ | refine ⟨_, by assumption, ?_⟩ | refine Alt2.l (aI ?_) | refine Alt2.r (aI ?_)); conv => whnf) | (refine Ok.scope ?_) | ((first | refine Ok.label ?_ | refine rd rfl (by assumption) ?_ | refine ⟨_, .inl ⟨rfl, rfl⟩, ?_⟩ | refine ⟨_, _, rfl, rfl, ?_⟩); conv => whnf) | (refine ⟨fun _ => ?_, fun _ => ?_⟩ <;> (conv => whnf) <;> (try (exfalso; omega))) | ((first | refine aJ ?_ | refine num_any ?_ | refine ⟨_, rfl, ?_⟩); conv => whnf) | fail)
  refine OkO.block (OkO.loop (OkO.seq ?_))
  (try (conv => whnf)); repeat' (first | ((with_reducible_and_instances (first | refine nShr (by assumption) ?_ | refine nShl1' rfl (by assumption) ?_ | refine nAnd ?_ | refine nOr ?_ | refine nXor ?_ | refine nAndNot ?_ | refine nAnd1' rfl ?_)); conv => whnf) | refine Ok.seq ?_ | refine OkL.cons ?_ | ((first | refine Ok.region tok ?_ | refine Ok.region_draw tok follows (by kernel_rfl) ?_ | refine Ok.cond ?_); conv => whnf) | refine Ok.block ?_ | ((first | refine Ok.skip ?_ | refine Ok.exit ?_ | refine Ok.ret ?_ | refine nI ?_ | refine ix _ (by assumption) ?_ | refine ixI (by omega) (by assumption) ?_ | refine ix_new _ (by omega) fun _ _ => ?_ | refine ixI_new (by omega) (by omega) fun _ _ => ?_ | refine ⟨_, by assumption, ?_⟩ | refine Alt2.l (aI ?_) | refine Alt2.r (aI ?_)); conv => whnf) | (refine Ok.scope ?_) | ((first | refine Ok.label ?_ | refine rd rfl (by assumption) ?_ | refine ⟨_, .inl ⟨rfl, rfl⟩, ?_⟩ | refine ⟨_, _, rfl, rfl, ?_⟩); conv => whnf) | (refine ⟨fun _ => ?_, fun _ => ?_⟩ <;> (conv => whnf) <;> (try (exfalso; omega))) | ((first | refine aJ ?_ | refine num_any ?_ | refine ⟨_, rfl, ?_⟩); conv => whnf) | fail)
  refine OkO.seqY (OkO.block (OkO.seq ?_))
  obtain ⟨L, hL⟩ : ∃ L, L = leastL c := ⟨_, rfl⟩
  have hLl : L.length = c.length := by rw [hL]; exact leastL_len c
  (try (conv => whnf)); repeat' (first | ((with_reducible_and_instances (first | refine nShr (by assumption) ?_ | refine nShl1' rfl (by assumption) ?_ | refine nAnd ?_ | refine nOr ?_ | refine nXor ?_ | refine nAndNot ?_ | refine nAnd1' rfl ?_)); conv => whnf) | refine Ok.seq ?_ | refine OkL.cons ?_ | ((first | refine Ok.region tok ?_ | refine Ok.region_draw tok follows (by kernel_rfl) ?_ | refine Ok.cond ?_); conv => whnf) | refine Ok.block ?_ | ((first | refine Ok.skip ?_ | refine Ok.exit ?_ | refine Ok.ret ?_ | refine nI ?_ | refine ix _ (by assumption) ?_ | refine ixI (by omega) (by assumption) ?_ | refine ix_new _ (by omega) fun _ _ => ?_ | refine ixI_new (by omega) (by omega) fun _ _ => ?_ | refine ⟨_, by assumption, ?_⟩ | refine Alt2.l (aI ?_) | refine Alt2.r (aI ?_)); conv => whnf) | (refine Ok.scope ?_) | ((first | refine Ok.label ?_ | refine rd rfl (by assumption) ?_ | refine ⟨_, .inl ⟨rfl, rfl⟩, ?_⟩ | refine ⟨_, _, rfl, rfl, ?_⟩); conv => whnf) | (refine ⟨fun _ => ?_, fun _ => ?_⟩ <;> (conv => whnf) <;> (try (exfalso; omega))) | ((first | refine aJ ?_ | refine num_any ?_ | refine ⟨_, rfl, ?_⟩); conv => whnf) | fail)
  refine Ok.loopU [0, 1, 3, 4, 19] [20] 1 1 (fun (i : Nat) => [.i .i64 (i : Nat)]) (fun (i : Nat) (_ : List (List D)) => [[.i .u64 ((wof (one c) 0).toNat : Int), .i .u64 ((wof (one c) 1).toNat : Int), .i .u64 ((wof (one c) 2).toNat : Int), .i .u64 ((wof (one c) 3).toNat : Int)]]) (fun (i : Nat) (_ : Vx.Rows) => [some (5, (L.take i ++ List.replicate (c.length - i) 0).map bcell)]) (fun (i : Nat) => i ≤ c.length) (fun (i : Nat) => c.length - i) (0) (Nat.zero_le _) ?_; (conv => whnf); refine ⟨by ((conv => whnf); first | rfl | (simp [envCat, List.take_of_length_le, cells9, bcell, crow]; done) | (simp [envCat, List.take_of_length_le, cells9, bcell, crow]; rw [IntKind.wrap_i64]; omega)), ?_⟩
  rintro i hi
  have hll : (L.take i ++ List.replicate (c.length - i) (0 : UInt8)).length = c.length := by simp; omega
  have hlm : ((L.take i ++ List.replicate (c.length - i) (0 : UInt8)).map bcell).length = c.length := by rw [List.length_map, hll]
  (conv => whnf)
  by_cases hit : i < c.length
  · obtain ⟨b, hb⟩ : ∃ b, c[i]? = some b := ⟨_, List.getElem?_eq_getElem hit⟩
    have hbL : L[i]? = some (lst1 b) := by rw [hL]; exact leastL_get hb
    obtain ⟨q, r, hqr, hr, hq⟩ := split64 i (by omega)
    have hrem := rem64 hqr hr
    have hquo := quo64 hqr hr (by omega)
    have hrr : ((r : Nat) : Int) = ((r : Nat) : Int) ∧ r < 64 := ⟨rfl, hr⟩
    have hoa := at_word (f := one c) hqr hr
    rw [(at_b hb).2] at hoa
    have hfa := fill_at (t := L) (i := i) (by omega)
    have hfs := fill_set hbL
    have hf2 := fill_at2 (L := L) (i := i) (by omega) 48
    rw [hLl] at hfa hfs hf2
    by_cases h49 : b = 49
    · subst h49
      have ho := hoa.2 rfl
      rcases hq with rfl | rfl | rfl | rfl
      all_goals
        (try (conv => whnf)); repeat' (first | ((with_reducible_and_instances (first | refine nShr (by assumption) ?_ | refine nShl1' rfl (by assumption) ?_ | refine nAnd ?_ | refine nOr ?_ | refine nXor ?_ | refine nAndNot ?_ | refine nAnd1' rfl ?_)); conv => whnf) | refine Ok.seq ?_ | refine OkL.cons ?_ | ((first | refine Ok.region tok ?_ | refine ⟨_, (hquo.symm).symm, ?_⟩ | refine ⟨_, (hrem.symm).symm, ?_⟩ | refine Ok.region_draw tok follows (by kernel_rfl) ?_ | refine Ok.cond ?_); conv => whnf) | refine Ok.block ?_ | ((first | refine Ok.skip ?_ | refine Ok.exit ?_ | refine Ok.ret ?_ | refine nI ?_ | refine ix _ (by assumption) ?_ | refine ixI (by omega) (by assumption) ?_ | refine ix_new _ (by omega) fun _ _ => ?_ | refine ixI_new (by omega) (by omega) fun _ _ => ?_ | refine ⟨_, by assumption, ?_⟩ | refine Alt2.l (aI ?_) | refine Alt2.r (aI ?_)); conv => whnf) | (refine Ok.scope ?_) | ((first | refine Ok.label ?_ | refine rd rfl (by assumption) ?_ | refine ⟨_, .inl ⟨rfl, rfl⟩, ?_⟩ | refine ⟨_, _, rfl, rfl, ?_⟩); conv => whnf) | (refine ⟨fun _ => ?_, fun _ => ?_⟩ <;> (conv => whnf) <;> (try (exfalso; omega))) | ((first | refine aJ ?_ | refine num_any ?_ | refine ⟨_, rfl, ?_⟩); conv => whnf) | fail)
        refine st 48 hfa (by simp [bcell]) (by simp [setCells, bcell]) ?_
        (try (conv => whnf)); repeat' (first | ((with_reducible_and_instances (first | refine nShr (by assumption) ?_ | refine nShl1' rfl (by assumption) ?_ | refine nAnd ?_ | refine nOr ?_ | refine nXor ?_ | refine nAndNot ?_ | refine nAnd1' rfl ?_)); conv => whnf) | refine Ok.seq ?_ | refine OkL.cons ?_ | ((first | refine Ok.region tok ?_ | refine ⟨_, (hquo.symm).symm, ?_⟩ | refine ⟨_, (hrem.symm).symm, ?_⟩ | refine Ok.region_draw tok follows (by kernel_rfl) ?_ | refine Ok.cond ?_); conv => whnf) | refine Ok.block ?_ | ((first | refine Ok.skip ?_ | refine Ok.exit ?_ | refine Ok.ret ?_ | refine nI ?_ | refine ix _ (by assumption) ?_ | refine ixI (by omega) (by assumption) ?_ | refine ix_new _ (by omega) fun _ _ => ?_ | refine ixI_new (by omega) (by omega) fun _ _ => ?_ | refine ⟨_, by assumption, ?_⟩ | refine Alt2.l (aI ?_) | refine Alt2.r (aI ?_)); conv => whnf) | (refine Ok.scope ?_) | ((first | refine Ok.label ?_ | refine rd rfl (by assumption) ?_ | refine ⟨_, .inl ⟨rfl, rfl⟩, ?_⟩ | refine ⟨_, _, rfl, rfl, ?_⟩); conv => whnf) | (refine ⟨fun _ => ?_, fun _ => ?_⟩ <;> (conv => whnf) <;> (try (exfalso; omega))) | ((first | refine aJ ?_ | refine num_any ?_ | refine ⟨_, rfl, ?_⟩); conv => whnf) | fail)
        refine Or.inr (Or.inr (Or.inl ?_)); (conv => whnf); refine ⟨_, _, Tryz.func89, rfl, Tryz.call89, ?_⟩; (conv => whnf)
        (try (conv => whnf)); repeat' (first | ((with_reducible_and_instances (first | refine nShr (by assumption) ?_ | refine nShl1' rfl (by assumption) ?_ | refine nAnd ?_ | refine nOr ?_ | refine nXor ?_ | refine nAndNot ?_ | refine nAnd1' rfl ?_)); conv => whnf) | refine Ok.seq ?_ | refine OkL.cons ?_ | ((first | refine Ok.region tok ?_ | refine ⟨_, (hquo.symm).symm, ?_⟩ | refine ⟨_, (hrem.symm).symm, ?_⟩ | refine Ok.region_draw tok follows (by kernel_rfl) ?_ | refine Ok.cond ?_); conv => whnf) | refine Ok.block ?_ | ((first | refine Ok.skip ?_ | refine Ok.exit ?_ | refine Ok.ret ?_ | refine nI ?_ | refine ix _ (by assumption) ?_ | refine ixI (by omega) (by assumption) ?_ | refine ix_new _ (by omega) fun _ _ => ?_ | refine ixI_new (by omega) (by omega) fun _ _ => ?_ | refine ⟨_, by assumption, ?_⟩ | refine Alt2.l (aI ?_) | refine Alt2.r (aI ?_)); conv => whnf) | (refine Ok.scope ?_) | ((first | refine Ok.label ?_ | refine rd rfl (by assumption) ?_ | refine ⟨_, .inl ⟨rfl, rfl⟩, ?_⟩ | refine ⟨_, _, rfl, rfl, ?_⟩); conv => whnf) | (refine ⟨fun _ => ?_, fun _ => ?_⟩ <;> (conv => whnf) <;> (try (exfalso; omega))) | ((first | refine aJ ?_ | refine num_any ?_ | refine ⟨_, rfl, ?_⟩); conv => whnf) | fail)
        refine st 49 hf2 (by simp [bcell]) (by simp [setCells, bcell]) ?_
        (try (conv => whnf)); repeat' (first | ((with_reducible_and_instances (first | refine nShr (by assumption) ?_ | refine nShl1' rfl (by assumption) ?_ | refine nAnd ?_ | refine nOr ?_ | refine nXor ?_ | refine nAndNot ?_ | refine nAnd1' rfl ?_)); conv => whnf) | refine Ok.seq ?_ | refine OkL.cons ?_ | ((first | refine Ok.region tok ?_ | refine Ok.region_draw tok follows (by kernel_rfl) ?_ | refine Ok.cond ?_); conv => whnf) | refine Ok.block ?_ | ((first | refine Ok.skip ?_ | refine Ok.exit ?_ | refine Ok.ret ?_ | refine nI ?_ | refine ix _ (by assumption) ?_ | refine ixI (by omega) (by assumption) ?_ | refine ix_new _ (by omega) fun _ _ => ?_ | refine ixI_new (by omega) (by omega) fun _ _ => ?_ | refine ⟨_, by assumption, ?_⟩ | refine Alt2.l (aI ?_) | refine Alt2.r (aI ?_)); conv => whnf) | (refine Ok.scope ?_) | ((first | refine Ok.label ?_ | refine rd rfl (by assumption) ?_ | refine ⟨_, .inl ⟨rfl, rfl⟩, ?_⟩ | refine ⟨_, _, rfl, rfl, ?_⟩); conv => whnf) | (refine ⟨fun _ => ?_, fun _ => ?_⟩ <;> (conv => whnf) <;> (try (exfalso; omega))) | ((first | refine aJ ?_ | refine num_any ?_ | refine ⟨_, rfl, ?_⟩); conv => whnf) | fail)
        refine ⟨i + 1, by omega, by omega, ?_⟩
        rw [show lst1 49 = 49 from rfl] at hfs
        (conv => whnf)
        simp only [toNat_cast, List.set_set, hfs, envCat]
        rfl
    · have hl1 : lst1 b = 48 := by
        rcases hc.1.cub b (List.mem_of_getElem? hb) with rfl | rfl | rfl
        · rfl
        · exact absurd rfl h49
        · rfl
      rw [hl1] at hfs
      have ho : ¬ _ := fun e => absurd (hoa.1 e) (by simpa using h49)
      clear hoa
      rcases hq with rfl | rfl | rfl | rfl
      all_goals
        (try (conv => whnf)); repeat' (first | ((with_reducible_and_instances (first | refine nShr (by assumption) ?_ | refine nShl1' rfl (by assumption) ?_ | refine nAnd ?_ | refine nOr ?_ | refine nXor ?_ | refine nAndNot ?_ | refine nAnd1' rfl ?_)); conv => whnf) | refine Ok.seq ?_ | refine OkL.cons ?_ | ((first | refine Ok.region tok ?_ | refine ⟨_, (hquo.symm).symm, ?_⟩ | refine ⟨_, (hrem.symm).symm, ?_⟩ | refine Ok.region_draw tok follows (by kernel_rfl) ?_ | refine Ok.cond ?_); conv => whnf) | refine Ok.block ?_ | ((first | refine Ok.skip ?_ | refine Ok.exit ?_ | refine Ok.ret ?_ | refine nI ?_ | refine ix _ (by assumption) ?_ | refine ixI (by omega) (by assumption) ?_ | refine ix_new _ (by omega) fun _ _ => ?_ | refine ixI_new (by omega) (by omega) fun _ _ => ?_ | refine ⟨_, by assumption, ?_⟩ | refine Alt2.l (aI ?_) | refine Alt2.r (aI ?_)); conv => whnf) | (refine Ok.scope ?_) | ((first | refine Ok.label ?_ | refine rd rfl (by assumption) ?_ | refine ⟨_, .inl ⟨rfl, rfl⟩, ?_⟩ | refine ⟨_, _, rfl, rfl, ?_⟩); conv => whnf) | (refine ⟨fun _ => ?_, fun _ => ?_⟩ <;> (conv => whnf) <;> (try (exfalso; omega))) | ((first | refine aJ ?_ | refine num_any ?_ | refine ⟨_, rfl, ?_⟩); conv => whnf) | fail)
        refine st 48 hfa (by simp [bcell]) (by simp [setCells, bcell]) ?_
        (try (conv => whnf)); repeat' (first | ((with_reducible_and_instances (first | refine nShr (by assumption) ?_ | refine nShl1' rfl (by assumption) ?_ | refine nAnd ?_ | refine nOr ?_ | refine nXor ?_ | refine nAndNot ?_ | refine nAnd1' rfl ?_)); conv => whnf) | refine Ok.seq ?_ | refine OkL.cons ?_ | ((first | refine Ok.region tok ?_ | refine ⟨_, (hquo.symm).symm, ?_⟩ | refine ⟨_, (hrem.symm).symm, ?_⟩ | refine Ok.region_draw tok follows (by kernel_rfl) ?_ | refine Ok.cond ?_); conv => whnf) | refine Ok.block ?_ | ((first | refine Ok.skip ?_ | refine Ok.exit ?_ | refine Ok.ret ?_ | refine nI ?_ | refine ix _ (by assumption) ?_ | refine ixI (by omega) (by assumption) ?_ | refine ix_new _ (by omega) fun _ _ => ?_ | refine ixI_new (by omega) (by omega) fun _ _ => ?_ | refine ⟨_, by assumption, ?_⟩ | refine Alt2.l (aI ?_) | refine Alt2.r (aI ?_)); conv => whnf) | (refine Ok.scope ?_) | ((first | refine Ok.label ?_ | refine rd rfl (by assumption) ?_ | refine ⟨_, .inl ⟨rfl, rfl⟩, ?_⟩ | refine ⟨_, _, rfl, rfl, ?_⟩); conv => whnf) | (refine ⟨fun _ => ?_, fun _ => ?_⟩ <;> (conv => whnf) <;> (try (exfalso; omega))) | ((first | refine aJ ?_ | refine num_any ?_ | refine ⟨_, rfl, ?_⟩); conv => whnf) | fail)
        refine Or.inr (Or.inr (Or.inl ?_)); (conv => whnf); refine ⟨_, _, Tryz.func89, rfl, Tryz.call89, ?_⟩; (conv => whnf)
        (try (conv => whnf)); repeat' (first | ((with_reducible_and_instances (first | refine nShr (by assumption) ?_ | refine nShl1' rfl (by assumption) ?_ | refine nAnd ?_ | refine nOr ?_ | refine nXor ?_ | refine nAndNot ?_ | refine nAnd1' rfl ?_)); conv => whnf) | refine Ok.seq ?_ | refine OkL.cons ?_ | ((first | refine Ok.region tok ?_ | refine ⟨_, (hquo.symm).symm, ?_⟩ | refine ⟨_, (hrem.symm).symm, ?_⟩ | refine Ok.region_draw tok follows (by kernel_rfl) ?_ | refine Ok.cond ?_); conv => whnf) | refine Ok.block ?_ | ((first | refine Ok.skip ?_ | refine Ok.exit ?_ | refine Ok.ret ?_ | refine nI ?_ | refine ix _ (by assumption) ?_ | refine ixI (by omega) (by assumption) ?_ | refine ix_new _ (by omega) fun _ _ => ?_ | refine ixI_new (by omega) (by omega) fun _ _ => ?_ | refine ⟨_, by assumption, ?_⟩ | refine Alt2.l (aI ?_) | refine Alt2.r (aI ?_)); conv => whnf) | (refine Ok.scope ?_) | ((first | refine Ok.label ?_ | refine rd rfl (by assumption) ?_ | refine ⟨_, .inl ⟨rfl, rfl⟩, ?_⟩ | refine ⟨_, _, rfl, rfl, ?_⟩); conv => whnf) | (refine ⟨fun _ => ?_, fun _ => ?_⟩ <;> (conv => whnf) <;> (try (exfalso; omega))) | ((first | refine aJ ?_ | refine num_any ?_ | refine ⟨_, rfl, ?_⟩); conv => whnf) | fail)
        refine ⟨i + 1, by omega, by omega, ?_⟩
        (conv => whnf)
        simp only [toNat_cast, hfs, envCat]
        rfl
  · have he : i = c.length := by omega
    subst he
    have hLt : L.take c.length = L := by rw [← hLl]; exact List.take_length
    rw [hLt, Nat.sub_self, List.replicate_zero, List.append_nil] at *
    (try (conv => whnf)); repeat' (first | ((with_reducible_and_instances (first | refine nShr (by assumption) ?_ | refine nShl1' rfl (by assumption) ?_ | refine nAnd ?_ | refine nOr ?_ | refine nXor ?_ | refine nAndNot ?_ | refine nAnd1' rfl ?_)); conv => whnf) | refine Ok.seq ?_ | refine OkL.cons ?_ | ((first | refine Ok.region tok ?_ | refine Ok.region_draw tok follows (by kernel_rfl) ?_ | refine Ok.cond ?_); conv => whnf) | refine Ok.block ?_ | ((first | refine Ok.skip ?_ | refine Ok.exit ?_ | refine Ok.ret ?_ | refine nI ?_ | refine ix _ (by assumption) ?_ | refine ixI (by omega) (by assumption) ?_ | refine ix_new _ (by omega) fun _ _ => ?_ | refine ixI_new (by omega) (by omega) fun _ _ => ?_ | refine ⟨_, by assumption, ?_⟩ | refine Alt2.l (aI ?_) | refine Alt2.r (aI ?_)); conv => whnf) | (refine Ok.scope ?_) | ((first | refine Ok.label ?_ | refine rd rfl (by assumption) ?_ | refine ⟨_, .inl ⟨rfl, rfl⟩, ?_⟩ | refine ⟨_, _, rfl, rfl, ?_⟩); conv => whnf) | (refine ⟨fun _ => ?_, fun _ => ?_⟩ <;> (conv => whnf) <;> (try (exfalso; omega))) | ((first | refine aJ ?_ | refine num_any ?_ | refine ⟨_, rfl, ?_⟩); conv => whnf) | fail)
    refine OkO.seqY (OkO.yreg tok 3 ?_)
    (conv => whnf)
    refine ⟨by rw [List.length_map]; omega, L, by rw [← hLl]; exact take_all bcell L, ?_⟩
    (conv => whnf)
    subst hL
    refine ⟨rfl, rfl, rfl, ?_⟩
    (conv => whnf)
    refine OkY.cond ?_
    (conv => whnf)
    refine OkY.ret ?_
    (conv => whnf)
    exact ⟨rfl, .inr rfl⟩
theorem ls_fill {c : Str} {i : Nat} {a : UInt8} (ha : c[i]? = some a) : leastL (c.take (i + 1)) ++ c.drop (i + 1) = (leastL (c.take i) ++ c.drop i).set i (lst1 a) := by
  have hi : i < c.length := (List.getElem?_eq_some_iff.1 ha).1
  have hl : (leastL (c.take i)).length = i := by simp [leastL]; omega
  rw [List.set_append, if_neg (by omega), hl, Nat.sub_self, List.drop_eq_getElem_cons hi, List.set_cons_zero, take_snoc ha]
  unfold leastL
  rw [List.map_append]
  simp
theorem ls_at {c : Str} {i : Nat} {a : UInt8} (ha : c[i]? = some a) : (leastL (c.take i) ++ c.drop i)[i]? = some a := by
  have hi : i < c.length := (List.getElem?_eq_some_iff.1 ha).1
  have hl : (leastL (c.take i)).length = i := by simp [leastL]; omega
  rw [List.getElem?_append_right (by omega), hl, Nat.sub_self, List.getElem?_drop]
  exact ha
set_option maxHeartbeats 4000000 in
theorem rleast_at (c : Str) (hc : c.length ≤ 100000) : FSpec Tryz.prog T 98 [.s c] (fun d _ => d = .s (leastL c)) := by
  refine FSpec.of_ok tok Tryz.func98 rfl Tryz.call98 (by simp) ?_
  (try (conv => whnf)); repeat' (first | ((with_reducible_and_instances (first | refine nShr (by assumption) ?_ | refine nShl1' rfl (by assumption) ?_ | refine nAnd ?_ | refine nOr ?_ | refine nXor ?_ | refine nAndNot ?_ | refine nAnd1' rfl ?_)); conv => whnf) | refine Ok.seq ?_ | refine OkL.cons ?_ | ((first | refine Ok.region tok ?_ | refine Ok.region_draw tok follows (by kernel_rfl) ?_ | refine Ok.cond ?_); conv => whnf) | refine Ok.block ?_ | ((first | refine Ok.skip ?_ | refine Ok.exit ?_ | refine Ok.ret ?_ | refine nI ?_ | refine ix _ (by assumption) ?_ | refine ixI (by omega) (by assumption) ?_ | refine ix_new _ (by omega) fun _ _ => ?_ | refine ixI_new (by omega) (by omega) fun _ _ => ?_ | refine ⟨_, by assumption, ?_⟩ | refine Alt2.l (aI ?_) | refine Alt2.r (aI ?_)); conv => whnf) | (refine Ok.scope ?_) | ((first | refine Ok.label ?_ | refine rd rfl (by assumption) ?_ | refine ⟨_, .inl ⟨rfl, rfl⟩, ?_⟩ | refine ⟨_, _, rfl, rfl, ?_⟩); conv => whnf) | (refine ⟨fun _ => ?_, fun _ => ?_⟩ <;> (conv => whnf) <;> (try (exfalso; omega))) | ((first | refine aJ ?_ | refine num_any ?_ | refine ⟨_, rfl, ?_⟩); conv => whnf) | fail)
  refine Ok.loopU [3] [4] 1 0 (fun (i : Nat) => [.i .i64 (i : Nat)]) (fun _ b => b) (fun (i : Nat) (_ : Vx.Rows) => [some (Nat.add 5 BIG, (leastL (c.take i) ++ c.drop i).map bcell)]) (fun (i : Nat) => i ≤ c.length) (fun (i : Nat) => c.length - i) (0) (Nat.zero_le _) ?_; (conv => whnf); refine ⟨by ((conv => whnf); first | rfl | (simp [envCat, List.take_of_length_le, cells9, bcell, crow]; done) | (simp [envCat, List.take_of_length_le, cells9, bcell, crow]; rw [IntKind.wrap_i64]; omega)), ?_⟩
  intro i hi
  have hrl : (leastL (c.take i) ++ c.drop i).length = c.length := by simp [leastL]; omega
  have hrl2 : ((leastL (c.take i) ++ c.drop i).map bcell).length = c.length := by rw [List.length_map, hrl]
  (conv => whnf)
  by_cases hil : i < c.length
  · obtain ⟨a, ha⟩ : ∃ a, c[i]? = some a := ⟨_, List.getElem?_eq_getElem hil⟩
    have hfl := ls_fill ha
    have hz := ls_at ha
    generalize hL : leastL (c.take i) ++ c.drop i = L at *
    have hzI : L[((i : Nat) : Int).toNat]? = some a := hz
    by_cases hx : a = 120
    · subst hx
      have hn : (((120 : UInt8).toNat : Nat) : Int) = 120 := rfl
      rw [show lst1 120 = 48 from rfl] at hfl
      (try (conv => whnf)); repeat' (first | ((with_reducible_and_instances (first | refine nShr (by assumption) ?_ | refine nShl1' rfl (by assumption) ?_ | refine nAnd ?_ | refine nOr ?_ | refine nXor ?_ | refine nAndNot ?_ | refine nAnd1' rfl ?_)); conv => whnf) | refine Ok.seq ?_ | refine OkL.cons ?_ | ((first | refine Ok.region tok ?_ | refine Ok.region_draw tok follows (by kernel_rfl) ?_ | refine Ok.cond ?_); conv => whnf) | refine Ok.block ?_ | ((first | refine Ok.skip ?_ | refine Ok.exit ?_ | refine Ok.ret ?_ | refine nI ?_ | refine ix _ (by assumption) ?_ | refine ixI (by omega) (by assumption) ?_ | refine ix_new _ (by omega) fun _ _ => ?_ | refine ixI_new (by omega) (by omega) fun _ _ => ?_ | refine ⟨_, by assumption, ?_⟩ | refine Alt2.l (aI ?_) | refine Alt2.r (aI ?_)); conv => whnf) | (refine Ok.scope ?_) | ((first | refine Ok.label ?_ | refine rd rfl (by assumption) ?_ | refine ⟨_, .inl ⟨rfl, rfl⟩, ?_⟩ | refine ⟨_, _, rfl, rfl, ?_⟩); conv => whnf) | (refine ⟨fun _ => ?_, fun _ => ?_⟩ <;> (conv => whnf) <;> (try (exfalso; omega))) | ((first | refine aJ ?_ | refine num_any ?_ | refine ⟨_, rfl, ?_⟩); conv => whnf) | fail)
      refine st 48 hz (by simp [bcell]) (by simp [setCells, bcell]) ?_
      rw [toNat_cast, ← hfl]
      (try (conv => whnf)); repeat' (first | ((with_reducible_and_instances (first | refine nShr (by assumption) ?_ | refine nShl1' rfl (by assumption) ?_ | refine nAnd ?_ | refine nOr ?_ | refine nXor ?_ | refine nAndNot ?_ | refine nAnd1' rfl ?_)); conv => whnf) | refine Ok.seq ?_ | refine OkL.cons ?_ | ((first | refine Ok.region tok ?_ | refine Ok.region_draw tok follows (by kernel_rfl) ?_ | refine Ok.cond ?_); conv => whnf) | refine Ok.block ?_ | ((first | refine Ok.skip ?_ | refine Ok.exit ?_ | refine Ok.ret ?_ | refine nI ?_ | refine ix _ (by assumption) ?_ | refine ixI (by omega) (by assumption) ?_ | refine ix_new _ (by omega) fun _ _ => ?_ | refine ixI_new (by omega) (by omega) fun _ _ => ?_ | refine ⟨_, by assumption, ?_⟩ | refine Alt2.l (aI ?_) | refine Alt2.r (aI ?_)); conv => whnf) | (refine Ok.scope ?_) | ((first | refine Ok.label ?_ | refine rd rfl (by assumption) ?_ | refine ⟨_, .inl ⟨rfl, rfl⟩, ?_⟩ | refine ⟨_, _, rfl, rfl, ?_⟩); conv => whnf) | (refine ⟨fun _ => ?_, fun _ => ?_⟩ <;> (conv => whnf) <;> (try (exfalso; omega))) | ((first | refine aJ ?_ | refine num_any ?_ | refine ⟨_, rfl, ?_⟩); conv => whnf) | fail)
      refine ⟨i + 1, by omega, by omega, ?_⟩
      (conv => whnf)
      rfl
    · have hx2 := u8_ne hx
      rw [show (((120 : UInt8).toNat : Nat) : Int) = 120 from rfl] at hx2
      rw [show lst1 a = a by unfold lst1; rw [if_neg hx]] at hfl
      have hset : L.set i a = L := by
        apply List.ext_getElem?
        intro k
        by_cases hk : k = i
        · subst hk; rw [List.getElem?_set_self (by omega), hz]
        · rw [List.getElem?_set_ne (Ne.symm hk)]
      rw [hset] at hfl
      (try (conv => whnf)); repeat' (first | ((with_reducible_and_instances (first | refine nShr (by assumption) ?_ | refine nShl1' rfl (by assumption) ?_ | refine nAnd ?_ | refine nOr ?_ | refine nXor ?_ | refine nAndNot ?_ | refine nAnd1' rfl ?_)); conv => whnf) | refine Ok.seq ?_ | refine OkL.cons ?_ | ((first | refine Ok.region tok ?_ | refine Ok.region_draw tok follows (by kernel_rfl) ?_ | refine Ok.cond ?_); conv => whnf) | refine Ok.block ?_ | ((first | refine Ok.skip ?_ | refine Ok.exit ?_ | refine Ok.ret ?_ | refine nI ?_ | refine ix _ (by assumption) ?_ | refine ixI (by omega) (by assumption) ?_ | refine ix_new _ (by omega) fun _ _ => ?_ | refine ixI_new (by omega) (by omega) fun _ _ => ?_ | refine ⟨_, by assumption, ?_⟩ | refine Alt2.l (aI ?_) | refine Alt2.r (aI ?_)); conv => whnf) | (refine Ok.scope ?_) | ((first | refine Ok.label ?_ | refine rd rfl (by assumption) ?_ | refine ⟨_, .inl ⟨rfl, rfl⟩, ?_⟩ | refine ⟨_, _, rfl, rfl, ?_⟩); conv => whnf) | (refine ⟨fun _ => ?_, fun _ => ?_⟩ <;> (conv => whnf) <;> (try (exfalso; omega))) | ((first | refine aJ ?_ | refine num_any ?_ | refine ⟨_, rfl, ?_⟩); conv => whnf) | fail)
      refine ⟨i + 1, by omega, by omega, ?_⟩
      rw [hfl]
      (conv => whnf)
      rfl
  · have hie : i = c.length := by omega
    subst hie
    rw [List.take_length, List.drop_length, List.append_nil]
    have hbl := leastL_len c
    (try (conv => whnf)); repeat' (first | ((with_reducible_and_instances (first | refine nShr (by assumption) ?_ | refine nShl1' rfl (by assumption) ?_ | refine nAnd ?_ | refine nOr ?_ | refine nXor ?_ | refine nAndNot ?_ | refine nAnd1' rfl ?_)); conv => whnf) | refine Ok.seq ?_ | refine OkL.cons ?_ | ((first | refine Ok.region tok ?_ | refine Ok.region_draw tok follows (by kernel_rfl) ?_ | refine Ok.cond ?_); conv => whnf) | refine Ok.block ?_ | ((first | refine Ok.skip ?_ | refine Ok.exit ?_ | refine Ok.ret ?_ | refine nI ?_ | refine ix _ (by assumption) ?_ | refine ixI (by omega) (by assumption) ?_ | refine ix_new _ (by omega) fun _ _ => ?_ | refine ixI_new (by omega) (by omega) fun _ _ => ?_ | refine ⟨_, by assumption, ?_⟩ | refine Alt2.l (aI ?_) | refine Alt2.r (aI ?_)); conv => whnf) | (refine Ok.scope ?_) | ((first | refine Ok.label ?_ | refine rd rfl (by assumption) ?_ | refine ⟨_, .inl ⟨rfl, rfl⟩, ?_⟩ | refine ⟨_, _, rfl, rfl, ?_⟩); conv => whnf) | (refine ⟨fun _ => ?_, fun _ => ?_⟩ <;> (conv => whnf) <;> (try (exfalso; omega))) | ((first | refine aJ ?_ | refine num_any ?_ | refine ⟨_, rfl, ?_⟩); conv => whnf) | fail)
    refine ⟨leastL c, by rw [← hbl]; exact take_all bcell _, ?_⟩
    (try (conv => whnf)); repeat' (first | ((with_reducible_and_instances (first | refine nShr (by assumption) ?_ | refine nShl1' rfl (by assumption) ?_ | refine nAnd ?_ | refine nOr ?_ | refine nXor ?_ | refine nAndNot ?_ | refine nAnd1' rfl ?_)); conv => whnf) | refine Ok.seq ?_ | refine OkL.cons ?_ | ((first | refine Ok.region tok ?_ | refine Ok.region_draw tok follows (by kernel_rfl) ?_ | refine Ok.cond ?_); conv => whnf) | refine Ok.block ?_ | ((first | refine Ok.skip ?_ | refine Ok.exit ?_ | refine Ok.ret ?_ | refine nI ?_ | refine ix _ (by assumption) ?_ | refine ixI (by omega) (by assumption) ?_ | refine ix_new _ (by omega) fun _ _ => ?_ | refine ixI_new (by omega) (by omega) fun _ _ => ?_ | refine ⟨_, by assumption, ?_⟩ | refine Alt2.l (aI ?_) | refine Alt2.r (aI ?_)); conv => whnf) | (refine Ok.scope ?_) | ((first | refine Ok.label ?_ | refine rd rfl (by assumption) ?_ | refine ⟨_, .inl ⟨rfl, rfl⟩, ?_⟩ | refine ⟨_, _, rfl, rfl, ?_⟩); conv => whnf) | (refine ⟨fun _ => ?_, fun _ => ?_⟩ <;> (conv => whnf) <;> (try (exfalso; omega))) | ((first | refine aJ ?_ | refine num_any ?_ | refine ⟨_, rfl, ?_⟩); conv => whnf) | fail)
    refine Or.inl ?_; (conv => whnf)
    rfl
end Go.Proofs.YtaiondckookpiaaGreatDoor
namespace Go.Proofs.YtaiondckookpiaaGreatDoor
open Go Go.Vx
open Classical in
noncomputable def lstep (b c : Str) : Str := if b = [] ∨ Op.bytesLess (leastL c) b = true then leastL c else b
noncomputable def lsts (l : List Str) : Str := l.foldl lstep []
noncomputable def lstO (o : Int × List Str) : Int × Str := if o.1 = 0 then (0, lsts o.2) else (o.1, [])
theorem lsts_snoc {l : List Str} {i : Nat} {c : Str} (h : l[i]? = some c) : lsts (l.take (i + 1)) = lstep (lsts (l.take i)) c := by
  unfold lsts; rw [take_snoc h, List.foldl_append]; rfl
theorem lstep_yes {b c : Str} (h : b = [] ∨ Op.bytesLess (leastL c) b = true) : lstep b c = leastL c := if_pos h
theorem lstep_no {b c : Str} (h : ¬ (b = [] ∨ Op.bytesLess (leastL c) b = true)) : lstep b c = b := if_neg h
def LOut (o : Int × Str) (d : D) (_ : Vx.Rows) : Prop := d = .tup [.s o.2, .b (o.2 ≠ []), .i .i64 o.1]
set_option maxRecDepth 100000 in
set_option maxHeartbeats 8000000 in
theorem least_at {n : Int} {ts : List Term} (hf : Fine n ts) (ks : List TR) (rm : List (List D)) (h1 : ks.map TR.t = ts) (limit : Int) :
    FSpec Tryz.prog T 39 [.agg [.i .i64 n, .lst 112 (ks.map trow) rm], .i .i64 limit] (LOut (lstO (expO n ts limit))) := by
  have hex := expand_at hf ks rm h1 limit
  have hal := expO_all (limit := limit) hf
  generalize expO n ts limit = o at *
  obtain ⟨x, l⟩ := o
  dsimp only at hal
  obtain ⟨hal, hll⟩ := hal
  have hlm : (l.map crow).length = l.length := by simp
  replace hex : FSpec Tryz.prog T 34 [.agg [.i .i64 n, .lst 112 (ks.map trow) rm], .i .i64 limit] (fun d rows => rows = [] ∧ ∃ rm, d = .tup [.lst 46 (l.map crow) rm, .i .i64 x]) := hex
  refine FSpec.of_ok tok Tryz.func39 rfl Tryz.call39 (by simp) ?_
  by_cases hx : x = 0
  · subst hx
    rw [show lstO (0, l) = (0, lsts l) from if_pos rfl]
    (try (conv => whnf)); repeat' (first | refine Ok.seq ?_ | refine OkL.cons ?_ | ((first | refine Ok.region tok ?_ | refine Ok.region_draw tok follows (by kernel_rfl) ?_ | refine Ok.cond ?_); conv => whnf) | refine Ok.block ?_ | ((first | refine Ok.skip ?_ | refine Ok.exit ?_ | refine Ok.ret ?_ | refine nI ?_ | refine ix _ (by assumption) ?_ | refine ixI (by omega) (by assumption) ?_ | refine ix_new _ (by omega) fun _ _ => ?_ | refine ixI_new (by omega) (by omega) fun _ _ => ?_ | refine ⟨_, by assumption, ?_⟩); conv => whnf) | (refine Or.inr (Or.inl ?_); (conv => whnf); (repeat (refine aI ?_; conv => whnf)); refine ⟨_, hex , ?_⟩; rintro _ _ ⟨rfl, rm5, rfl⟩ <;> (conv => whnf)) | ((first | refine Alt2.l (aI ?_) | refine Alt2.r (aI ?_)); conv => whnf) | (refine Ok.scope ?_) | ((first | refine Ok.label ?_ | refine rd rfl (by assumption) ?_ | refine ⟨_, .inl ⟨rfl, rfl⟩, ?_⟩ | refine ⟨_, _, rfl, rfl, ?_⟩); conv => whnf) | (refine ⟨fun _ => ?_, fun _ => ?_⟩ <;> (conv => whnf) <;> (try (exfalso; omega))) | ((first | refine aJ ?_ | refine num_any ?_ | refine ⟨_, rfl, ?_⟩); conv => whnf) | fail)
    all_goals first
      | (rename_i h; exact absurd rfl h)
      | skip
    refine Ok.loopU [9, 22, 23] [24] 0 2 (fun (i : Nat) => [.i .i64 (i : Nat)]) (fun (i : Nat) (_ : List (List D)) => [[.i .i64 n, .lst 112 (ks.map trow) rm], [.s (lsts (l.take i))]]) (fun _ r => r) (fun (i : Nat) => i ≤ l.length) (fun (i : Nat) => l.length - i) (0) (Nat.zero_le _) ?_; (conv => whnf); refine ⟨by ((conv => whnf); first | rfl | (simp [envCat, List.take_of_length_le, crow, trow, srow, drow]; done) | (simp [envCat, List.take_of_length_le, crow, trow, srow, drow]; rw [IntKind.wrap_i64]; omega)), ?_⟩
    rintro i hi
    (conv => whnf)
    by_cases hil : i < l.length
    · obtain ⟨c, hc⟩ : ∃ c, l[i]? = some c := ⟨_, List.getElem?_eq_getElem hil⟩
      have hcI : l[((i : Nat) : Int).toNat]? = some c := hc
      have hcw := hal c (List.mem_of_getElem? hc)
      have hsn := lsts_snoc hc
      generalize hbst : lsts (l.take i) = bst at *
      (try (conv => whnf)); repeat' (first | refine Ok.seq ?_ | refine OkL.cons ?_ | ((first | refine Ok.region tok ?_ | refine Ok.region_draw tok follows (by kernel_rfl) ?_ | refine Ok.cond ?_); conv => whnf) | refine Ok.block ?_ | ((first | refine Ok.skip ?_ | refine Ok.exit ?_ | refine Ok.ret ?_ | refine nI ?_ | refine ix _ (by assumption) ?_ | refine ixI (by omega) (by assumption) ?_ | refine ix_new _ (by omega) fun _ _ => ?_ | refine ixI_new (by omega) (by omega) fun _ _ => ?_ | refine ⟨_, by assumption, ?_⟩); conv => whnf) | (refine Or.inr (Or.inl ?_); (conv => whnf); (repeat (refine aI ?_; conv => whnf)); refine ⟨_, memb_at c, ?_⟩; rintro _ _ ⟨rfl, rfl⟩ <;> (conv => whnf)) | ((first | refine Alt2.l (aI ?_) | refine Alt2.r (aI ?_)); conv => whnf) | (refine Ok.scope ?_) | ((first | refine Ok.label ?_ | refine rd rfl (by assumption) ?_ | refine ⟨_, .inl ⟨rfl, rfl⟩, ?_⟩ | refine ⟨_, _, rfl, rfl, ?_⟩); conv => whnf) | (refine ⟨fun _ => ?_, fun _ => ?_⟩ <;> (conv => whnf) <;> (try (exfalso; omega))) | ((first | refine aJ ?_ | refine num_any ?_ | refine ⟨_, rfl, ?_⟩); conv => whnf) | fail)
      all_goals first
        | (exfalso; omega)
        | skip
      refine Ok.rangeI [9, 22, 23, 24, 29] 0 2 (fun _ => ⟨[(9, .bp 1 0), (22, .lst 46 (l.map crow) rm5), (23, .i .i64 (l.map crow).length), (24, .i .i64 (i : Nat)), (29, .fn 128 [] [.ep (crow c)])], [[.i .i64 n, .lst 112 (ks.map trow) rm], [.s bst]], [], 43⟩) (· = 0) rfl (by
        (conv => whnf)
        rfl) rfl (memb_seq c hcw.1) (fun _ => rfl) (by simp) ?_ ?_
      · rintro k x hxk rfl
        obtain rfl : [D.s (leastL c)] = x := by simpa using hxk
        refine ⟨rfl, ?_⟩
        (conv => whnf)
        (try (conv => whnf)); repeat' (first | refine OkR.seq ?_ | refine OkL.cons ?_ | ((first | refine OkR.region tok ?_ | refine OkR.cond ?_); conv => whnf) | refine OkR.block ?_ | ((first | refine OkR.skip ?_ | refine OkR.exit ?_ | refine OkR.ret ?_ | refine nI ?_ | refine ix _ (by assumption) ?_ | refine ixI (by omega) (by assumption) ?_ | refine ix_new _ (by omega) fun _ _ => ?_ | refine ixI_new (by omega) (by omega) fun _ _ => ?_ | refine ⟨_, by assumption, ?_⟩ | refine Alt2.l (aI ?_) | refine Alt2.r (aI ?_)); conv => whnf) | (refine OkR.scope ?_) | ((first | refine OkR.label ?_ | refine rd rfl (by assumption) ?_ | refine ⟨_, .inl ⟨rfl, rfl⟩, ?_⟩ | refine ⟨_, _, rfl, rfl, ?_⟩); conv => whnf) | (refine ⟨fun _ => ?_, fun _ => ?_⟩ <;> (conv => whnf) <;> (try (exfalso; omega))) | ((first | refine aJ ?_ | refine num_any ?_ | refine ⟨_, rfl, ?_⟩); conv => whnf) | fail)
        all_goals first
          | (rw [lstep_yes (.inl (by assumption))] at hsn
             (try (conv => whnf)); repeat' (first | refine Ok.seq ?_ | refine OkL.cons ?_ | ((first | refine Ok.region tok ?_ | refine Ok.region_draw tok follows (by kernel_rfl) ?_ | refine Ok.cond ?_); conv => whnf) | refine Ok.block ?_ | ((first | refine Ok.skip ?_ | refine Ok.exit ?_ | refine Ok.ret ?_ | refine nI ?_ | refine ix _ (by assumption) ?_ | refine ixI (by omega) (by assumption) ?_ | refine ix_new _ (by omega) fun _ _ => ?_ | refine ixI_new (by omega) (by omega) fun _ _ => ?_ | refine ⟨_, by assumption, ?_⟩ | refine Alt2.l (aI ?_) | refine Alt2.r (aI ?_)); conv => whnf) | (refine Ok.scope ?_) | ((first | refine Ok.label ?_ | refine rd rfl (by assumption) ?_ | refine ⟨_, .inl ⟨rfl, rfl⟩, ?_⟩ | refine ⟨_, _, rfl, rfl, ?_⟩); conv => whnf) | (refine ⟨fun _ => ?_, fun _ => ?_⟩ <;> (conv => whnf) <;> (try (exfalso; omega))) | ((first | refine aJ ?_ | refine num_any ?_ | refine ⟨_, rfl, ?_⟩); conv => whnf) | fail)
             refine ⟨i + 1, by omega, by omega, ?_⟩
             rw [hsn]
             (conv => whnf)
             rfl)
          | (rw [lstep_yes (.inr (by assumption))] at hsn
             (try (conv => whnf)); repeat' (first | refine Ok.seq ?_ | refine OkL.cons ?_ | ((first | refine Ok.region tok ?_ | refine Ok.region_draw tok follows (by kernel_rfl) ?_ | refine Ok.cond ?_); conv => whnf) | refine Ok.block ?_ | ((first | refine Ok.skip ?_ | refine Ok.exit ?_ | refine Ok.ret ?_ | refine nI ?_ | refine ix _ (by assumption) ?_ | refine ixI (by omega) (by assumption) ?_ | refine ix_new _ (by omega) fun _ _ => ?_ | refine ixI_new (by omega) (by omega) fun _ _ => ?_ | refine ⟨_, by assumption, ?_⟩ | refine Alt2.l (aI ?_) | refine Alt2.r (aI ?_)); conv => whnf) | (refine Ok.scope ?_) | ((first | refine Ok.label ?_ | refine rd rfl (by assumption) ?_ | refine ⟨_, .inl ⟨rfl, rfl⟩, ?_⟩ | refine ⟨_, _, rfl, rfl, ?_⟩); conv => whnf) | (refine ⟨fun _ => ?_, fun _ => ?_⟩ <;> (conv => whnf) <;> (try (exfalso; omega))) | ((first | refine aJ ?_ | refine num_any ?_ | refine ⟨_, rfl, ?_⟩); conv => whnf) | fail)
             refine ⟨i + 1, by omega, by omega, ?_⟩
             rw [hsn]
             (conv => whnf)
             rfl)
          | (rename_i ha hb
             rw [lstep_no (fun h => h.elim ha hb)] at hsn
             (try (conv => whnf)); repeat' (first | refine Ok.seq ?_ | refine OkL.cons ?_ | ((first | refine Ok.region tok ?_ | refine Ok.region_draw tok follows (by kernel_rfl) ?_ | refine Ok.cond ?_); conv => whnf) | refine Ok.block ?_ | ((first | refine Ok.skip ?_ | refine Ok.exit ?_ | refine Ok.ret ?_ | refine nI ?_ | refine ix _ (by assumption) ?_ | refine ixI (by omega) (by assumption) ?_ | refine ix_new _ (by omega) fun _ _ => ?_ | refine ixI_new (by omega) (by omega) fun _ _ => ?_ | refine ⟨_, by assumption, ?_⟩ | refine Alt2.l (aI ?_) | refine Alt2.r (aI ?_)); conv => whnf) | (refine Ok.scope ?_) | ((first | refine Ok.label ?_ | refine rd rfl (by assumption) ?_ | refine ⟨_, .inl ⟨rfl, rfl⟩, ?_⟩ | refine ⟨_, _, rfl, rfl, ?_⟩); conv => whnf) | (refine ⟨fun _ => ?_, fun _ => ?_⟩ <;> (conv => whnf) <;> (try (exfalso; omega))) | ((first | refine aJ ?_ | refine num_any ?_ | refine ⟨_, rfl, ?_⟩); conv => whnf) | fail)
             refine ⟨i + 1, by omega, by omega, ?_⟩
             rw [hsn]
             (conv => whnf)
             rfl)
      · intro h
        cases h
    · have hie : i = l.length := by omega
      subst hie
      rw [List.take_length]
      generalize lsts l = bst
      (try (conv => whnf)); repeat' (first | refine Ok.seq ?_ | refine OkL.cons ?_ | ((first | refine Ok.region tok ?_ | refine Ok.region_draw tok follows (by kernel_rfl) ?_ | refine Ok.cond ?_); conv => whnf) | refine Ok.block ?_ | ((first | refine Ok.skip ?_ | refine Ok.exit ?_ | refine Ok.ret ?_ | refine nI ?_ | refine ix _ (by assumption) ?_ | refine ixI (by omega) (by assumption) ?_ | refine ix_new _ (by omega) fun _ _ => ?_ | refine ixI_new (by omega) (by omega) fun _ _ => ?_ | refine ⟨_, by assumption, ?_⟩ | refine Alt2.l (aI ?_) | refine Alt2.r (aI ?_)); conv => whnf) | (refine Ok.scope ?_) | ((first | refine Ok.label ?_ | refine rd rfl (by assumption) ?_ | refine ⟨_, .inl ⟨rfl, rfl⟩, ?_⟩ | refine ⟨_, _, rfl, rfl, ?_⟩); conv => whnf) | (refine ⟨fun _ => ?_, fun _ => ?_⟩ <;> (conv => whnf) <;> (try (exfalso; omega))) | ((first | refine aJ ?_ | refine num_any ?_ | refine ⟨_, rfl, ?_⟩); conv => whnf) | fail)
      all_goals first
        | (exfalso; omega)
        | skip
      refine Or.inl ?_; (conv => whnf)
      rfl
  · rw [show lstO (x, l) = (x, []) from if_neg hx]
    (try (conv => whnf)); repeat' (first | refine Ok.seq ?_ | refine OkL.cons ?_ | ((first | refine Ok.region tok ?_ | refine Ok.region_draw tok follows (by kernel_rfl) ?_ | refine Ok.cond ?_); conv => whnf) | refine Ok.block ?_ | ((first | refine Ok.skip ?_ | refine Ok.exit ?_ | refine Ok.ret ?_ | refine nI ?_ | refine ix _ (by assumption) ?_ | refine ixI (by omega) (by assumption) ?_ | refine ix_new _ (by omega) fun _ _ => ?_ | refine ixI_new (by omega) (by omega) fun _ _ => ?_ | refine ⟨_, by assumption, ?_⟩); conv => whnf) | (refine Or.inr (Or.inl ?_); (conv => whnf); (repeat (refine aI ?_; conv => whnf)); refine ⟨_, hex , ?_⟩; rintro _ _ ⟨rfl, rm5, rfl⟩ <;> (conv => whnf)) | ((first | refine Alt2.l (aI ?_) | refine Alt2.r (aI ?_)); conv => whnf) | (refine Ok.scope ?_) | ((first | refine Ok.label ?_ | refine rd rfl (by assumption) ?_ | refine ⟨_, .inl ⟨rfl, rfl⟩, ?_⟩ | refine ⟨_, _, rfl, rfl, ?_⟩); conv => whnf) | (refine ⟨fun _ => ?_, fun _ => ?_⟩ <;> (conv => whnf) <;> (try (exfalso; omega))) | ((first | refine aJ ?_ | refine num_any ?_ | refine ⟨_, rfl, ?_⟩); conv => whnf) | fail)
    all_goals first
      | (rename_i h; exact absurd hx h)
      | (refine Or.inl ?_; (conv => whnf)
         exact congrArg (fun p => D.tup [D.s [], D.b p, D.i .i64 x]) (propext ⟨False.elim, fun h => h rfl⟩))
end Go.Proofs.YtaiondckookpiaaGreatDoor
namespace Go.Proofs.YtaiondckookpiaaGreatDoor
open Go Go.Vx
theorem lstep_ne {b c : Str} (h : c ≠ []) : lstep b c ≠ [] := by
  by_cases hb : b = [] ∨ Op.bytesLess (leastL c) b = true
  · rw [lstep_yes hb]
    intro e
    exact h (List.eq_nil_of_length_eq_zero (by rw [← leastL_len, e]; rfl))
  · rw [lstep_no hb]
    exact fun e => hb (.inl e)
set_option maxRecDepth 100000 in
set_option maxHeartbeats 8000000 in
theorem rleast2_at {n : Int} {ts : List Term} (hf : Fine n ts) (ks : List TR) (rm : List (List D)) (h1 : ks.map TR.t = ts) (limit : Int) :
    FSpec Tryz.prog T 40 [.agg [.i .i64 n, .lst 120 (ks.map drow) rm], .i .i64 limit] (LOut (lstO (expO n ts limit))) := by
  have hex := rexpand_at hf ks rm h1 limit
  have hal := expO_all (limit := limit) hf
  have hnm := hf.n1
  generalize expO n ts limit = o at *
  obtain ⟨x, l⟩ := o
  dsimp only at hal
  obtain ⟨hal, hll⟩ := hal
  have hlm : (l.map srow).length = l.length := by simp
  replace hex : FSpec Tryz.prog T 32 [.agg [.i .i64 n, .lst 120 (ks.map drow) rm], .i .i64 limit] (fun d rows => rows = [] ∧ ∃ rm, d = .tup [.lst 9 (l.map srow) rm, .i .i64 x]) := hex
  refine FSpec.of_ok tok Tryz.func40 rfl Tryz.call40 (by simp) ?_
  by_cases hx : x = 0
  · subst hx
    rw [show lstO (0, l) = (0, lsts l) from if_pos rfl]
    by_cases hl0 : l.length = 0
    · obtain rfl := List.eq_nil_of_length_eq_zero hl0
      (try (conv => whnf)); repeat' (first | refine Ok.seq ?_ | refine OkL.cons ?_ | ((first | refine Ok.region tok ?_ | refine Ok.region_draw tok follows (by kernel_rfl) ?_ | refine Ok.cond ?_); conv => whnf) | refine Ok.block ?_ | ((first | refine Ok.skip ?_ | refine Ok.exit ?_ | refine Ok.ret ?_ | refine nI ?_ | refine ix _ (by assumption) ?_ | refine ixI (by omega) (by assumption) ?_ | refine ix_new _ (by omega) fun _ _ => ?_ | refine ixI_new (by omega) (by omega) fun _ _ => ?_ | refine ⟨_, by assumption, ?_⟩); conv => whnf) | (refine Or.inr (Or.inl ?_); (conv => whnf); (repeat (refine aI ?_; conv => whnf)); refine ⟨_, hex , ?_⟩; rintro _ _ ⟨rfl, rm5, rfl⟩ <;> (conv => whnf)) | ((first | refine Alt2.l (aI ?_) | refine Alt2.r (aI ?_)); conv => whnf) | (refine Ok.scope ?_) | ((first | refine Ok.label ?_ | refine rd rfl (by assumption) ?_ | refine ⟨_, .inl ⟨rfl, rfl⟩, ?_⟩ | refine ⟨_, _, rfl, rfl, ?_⟩); conv => whnf) | (refine ⟨fun _ => ?_, fun _ => ?_⟩ <;> (conv => whnf) <;> (try (exfalso; omega))) | ((first | refine aJ ?_ | refine num_any ?_ | refine ⟨_, rfl, ?_⟩); conv => whnf) | fail)
      all_goals first
        | (refine Or.inl ?_; (conv => whnf)
           exact congrArg (fun p => D.tup [D.s [], D.b p, D.i .i64 0]) (propext ⟨False.elim, fun h => h rfl⟩))
        | (exfalso; omega)
        | (rename_i h; exact absurd rfl h)
    obtain ⟨c0, hc0⟩ : ∃ c, l[0]? = some c := ⟨_, List.getElem?_eq_getElem (by omega)⟩
    have hc0I : l[((0 : Nat) : Int).toNat]? = some c0 := hc0
    have hc0J : l[(0 : Int).toNat]? = some c0 := hc0
    have hcw0 := hal c0 (List.mem_of_getElem? hc0)
    have hs0 : lsts (l.take 1) = leastL c0 := (lsts_snoc hc0).trans (lstep_yes (.inl rfl))
    have hn0 : lsts (l.take 1) ≠ [] := by rw [lsts_snoc hc0]; exact lstep_ne hcw0.1.2
    (try (conv => whnf)); repeat' (first | refine Ok.seq ?_ | refine OkL.cons ?_ | ((first | refine Ok.region tok ?_ | refine Ok.region_draw tok follows (by kernel_rfl) ?_ | refine Ok.cond ?_); conv => whnf) | refine Ok.block ?_ | ((first | refine Ok.skip ?_ | refine Ok.exit ?_ | refine Ok.ret ?_ | refine nI ?_ | refine ix _ (by assumption) ?_ | refine ixI (by omega) (by assumption) ?_ | refine ix_new _ (by omega) fun _ _ => ?_ | refine ixI_new (by omega) (by omega) fun _ _ => ?_ | refine ⟨_, by assumption, ?_⟩); conv => whnf) | (refine Or.inl ?_; (conv => whnf); (repeat (refine aI ?_; conv => whnf)); refine ⟨_, rleast_at c0 (by omega), rfl, ?_⟩; conv => whnf) | (refine ⟨_, rleast_at c0 (by omega), rfl, ?_⟩; conv => whnf) | (refine Or.inr (Or.inl ?_); (conv => whnf); (repeat (refine aI ?_; conv => whnf)); refine ⟨_, rleast_at c0 (by omega), ?_⟩; rintro _ _ ⟨rfl, rfl⟩; conv => whnf) | (refine Or.inr (Or.inl ?_); (conv => whnf); (repeat (refine aI ?_; conv => whnf)); refine ⟨_, hex , ?_⟩; rintro _ _ ⟨rfl, rm5, rfl⟩ <;> (conv => whnf)) | ((first | refine Alt2.l (aI ?_) | refine Alt2.r (aI ?_)); conv => whnf) | (refine Ok.scope ?_) | ((first | refine Ok.label ?_ | refine rd rfl (by assumption) ?_ | refine ⟨_, .inl ⟨rfl, rfl⟩, ?_⟩ | refine ⟨_, _, rfl, rfl, ?_⟩); conv => whnf) | (refine ⟨fun _ => ?_, fun _ => ?_⟩ <;> (conv => whnf) <;> (try (exfalso; omega))) | ((first | refine aJ ?_ | refine num_any ?_ | refine ⟨_, rfl, ?_⟩); conv => whnf) | fail)
    all_goals first
      | (exfalso; omega)
      | (rename_i h; exact absurd rfl h)
      | skip
    rw [← hs0]
    refine Ok.loopU [7] [9, 10] 0 1 (fun (i : Nat) => [.s (lsts (l.take i)), .i .i64 (i : Nat)]) (fun (i : Nat) (_ : List (List D)) => [[.i .i64 n, .lst 120 (ks.map drow) rm]]) (fun _ r => r) (fun (i : Nat) => (1 ≤ i ∧ i ≤ l.length) ∧ lsts (l.take i) ≠ []) (fun (i : Nat) => l.length - i) (1) (⟨⟨Nat.le_refl _, by omega⟩, hn0⟩) ?_; (conv => whnf); refine ⟨by ((conv => whnf); first | rfl | (simp [envCat, List.take_of_length_le, crow, trow, srow, drow]; done) | (simp [envCat, List.take_of_length_le, crow, trow, srow, drow]; rw [IntKind.wrap_i64]; omega)), ?_⟩
    rintro i ⟨⟨hi1, hi⟩, hne⟩
    (conv => whnf)
    by_cases hil : i < l.length
    · obtain ⟨c, hc⟩ : ∃ c, l[i]? = some c := ⟨_, List.getElem?_eq_getElem hil⟩
      have hcI : l[((i : Nat) : Int).toNat]? = some c := hc
      have hcw := hal c (List.mem_of_getElem? hc)
      have hsn := lsts_snoc hc
      have hne2 := lstep_ne (b := lsts (l.take i)) hcw.1.2
      rw [← hsn] at hne2
      generalize hbst : lsts (l.take i) = bst at *
      (try (conv => whnf)); repeat' (first | refine Ok.seq ?_ | refine OkL.cons ?_ | ((first | refine Ok.region tok ?_ | refine Ok.region_draw tok follows (by kernel_rfl) ?_ | refine Ok.cond ?_); conv => whnf) | refine Ok.block ?_ | ((first | refine Ok.skip ?_ | refine Ok.exit ?_ | refine Ok.ret ?_ | refine nI ?_ | refine ix _ (by assumption) ?_ | refine ixI (by omega) (by assumption) ?_ | refine ix_new _ (by omega) fun _ _ => ?_ | refine ixI_new (by omega) (by omega) fun _ _ => ?_ | refine ⟨_, by assumption, ?_⟩); conv => whnf) | (refine Or.inl ?_; (conv => whnf); (repeat (refine aI ?_; conv => whnf)); refine ⟨_, rleast_at c (by omega), rfl, ?_⟩; conv => whnf) | (refine ⟨_, rleast_at c (by omega), rfl, ?_⟩; conv => whnf) | (refine Or.inr (Or.inl ?_); (conv => whnf); (repeat (refine aI ?_; conv => whnf)); refine ⟨_, rleast_at c (by omega), ?_⟩; rintro _ _ ⟨rfl, rfl⟩; conv => whnf) | ((first | refine Alt2.l (aI ?_) | refine Alt2.r (aI ?_)); conv => whnf) | (refine Ok.scope ?_) | ((first | refine Ok.label ?_ | refine rd rfl (by assumption) ?_ | refine ⟨_, .inl ⟨rfl, rfl⟩, ?_⟩ | refine ⟨_, _, rfl, rfl, ?_⟩); conv => whnf) | (refine ⟨fun _ => ?_, fun _ => ?_⟩ <;> (conv => whnf) <;> (try (exfalso; omega))) | ((first | refine aJ ?_ | refine num_any ?_ | refine ⟨_, rfl, ?_⟩); conv => whnf) | fail)
      all_goals first
        | (exfalso; omega)
        | (rw [lstep_yes (.inr (by assumption))] at hsn
           refine ⟨i + 1, by omega, ⟨⟨by omega, by omega⟩, hne2⟩, ?_⟩
           rw [hsn]
           (conv => whnf)
           rfl)
        | (rename_i ha
           rw [lstep_no (fun h => h.elim hne ha)] at hsn
           refine ⟨i + 1, by omega, ⟨⟨by omega, by omega⟩, hne2⟩, ?_⟩
           rw [hsn]
           (conv => whnf)
           rfl)
    · have hie : i = l.length := by omega
      subst hie
      rw [List.take_length] at *
      generalize lsts l = bst at *
      (try (conv => whnf)); repeat' (first | refine Ok.seq ?_ | refine OkL.cons ?_ | ((first | refine Ok.region tok ?_ | refine Ok.region_draw tok follows (by kernel_rfl) ?_ | refine Ok.cond ?_); conv => whnf) | refine Ok.block ?_ | ((first | refine Ok.skip ?_ | refine Ok.exit ?_ | refine Ok.ret ?_ | refine nI ?_ | refine ix _ (by assumption) ?_ | refine ixI (by omega) (by assumption) ?_ | refine ix_new _ (by omega) fun _ _ => ?_ | refine ixI_new (by omega) (by omega) fun _ _ => ?_ | refine ⟨_, by assumption, ?_⟩ | refine Alt2.l (aI ?_) | refine Alt2.r (aI ?_)); conv => whnf) | (refine Ok.scope ?_) | ((first | refine Ok.label ?_ | refine rd rfl (by assumption) ?_ | refine ⟨_, .inl ⟨rfl, rfl⟩, ?_⟩ | refine ⟨_, _, rfl, rfl, ?_⟩); conv => whnf) | (refine ⟨fun _ => ?_, fun _ => ?_⟩ <;> (conv => whnf) <;> (try (exfalso; omega))) | ((first | refine aJ ?_ | refine num_any ?_ | refine ⟨_, rfl, ?_⟩); conv => whnf) | fail)
      all_goals first
        | (exfalso; omega)
        | skip
      refine Or.inl ?_; (conv => whnf)
      exact congrArg (fun p => D.tup [D.s bst, D.b p, D.i .i64 0]) (propext ⟨fun _ => hne, fun _ => trivial⟩)
  · rw [show lstO (x, l) = (x, []) from if_neg hx]
    (try (conv => whnf)); repeat' (first | refine Ok.seq ?_ | refine OkL.cons ?_ | ((first | refine Ok.region tok ?_ | refine Ok.region_draw tok follows (by kernel_rfl) ?_ | refine Ok.cond ?_); conv => whnf) | refine Ok.block ?_ | ((first | refine Ok.skip ?_ | refine Ok.exit ?_ | refine Ok.ret ?_ | refine nI ?_ | refine ix _ (by assumption) ?_ | refine ixI (by omega) (by assumption) ?_ | refine ix_new _ (by omega) fun _ _ => ?_ | refine ixI_new (by omega) (by omega) fun _ _ => ?_ | refine ⟨_, by assumption, ?_⟩); conv => whnf) | (refine Or.inr (Or.inl ?_); (conv => whnf); (repeat (refine aI ?_; conv => whnf)); refine ⟨_, hex , ?_⟩; rintro _ _ ⟨rfl, rm5, rfl⟩ <;> (conv => whnf)) | ((first | refine Alt2.l (aI ?_) | refine Alt2.r (aI ?_)); conv => whnf) | (refine Ok.scope ?_) | ((first | refine Ok.label ?_ | refine rd rfl (by assumption) ?_ | refine ⟨_, .inl ⟨rfl, rfl⟩, ?_⟩ | refine ⟨_, _, rfl, rfl, ?_⟩); conv => whnf) | (refine ⟨fun _ => ?_, fun _ => ?_⟩ <;> (conv => whnf) <;> (try (exfalso; omega))) | ((first | refine aJ ?_ | refine num_any ?_ | refine ⟨_, rfl, ?_⟩); conv => whnf) | fail)
    all_goals first
      | (rename_i h; exact absurd hx h)
      | (refine Or.inl ?_; (conv => whnf)
         exact congrArg (fun p => D.tup [D.s [], D.b p, D.i .i64 x]) (propext ⟨False.elim, fun h => h rfl⟩))
      | trace_state
set_option maxRecDepth 100000 in
set_option maxHeartbeats 4000000 in
theorem leastsLaw_at (n : Int) (a : Str) (limit : Int) : FSpec Tryz.prog T 11 [.i .i64 n, .s a, .i .i64 limit] (fun r _ => r = .b True) := by
  have hf := parO_fine n a
  have r1 := read_at n a
  unfold ReadO at r1
  generalize parO n a = o1 at *
  obtain ⟨e1, n1, ts⟩ := o1
  dsimp only at hf r1
  have e2 := fun ks rm h1 => least_at hf ks rm h1 limit
  have e3 := fun ks rm h1 => rleast2_at hf ks rm h1 limit
  generalize lstO (expO n1 ts limit) = o2 at *
  obtain ⟨x, l⟩ := o2
  refine FSpec.of_ok tok Tryz.func11 rfl Tryz.call11 (by simp) ?_
  (try (conv => whnf)); repeat' (first | refine Ok.seq ?_ | refine OkL.cons ?_ | ((first | refine Ok.region tok ?_ | refine Ok.region_draw tok follows (by kernel_rfl) ?_ | refine Ok.cond ?_); conv => whnf) | refine Ok.block ?_ | ((first | refine Ok.skip ?_ | refine Ok.exit ?_ | refine Ok.ret ?_ | refine nI ?_ | refine ix _ (by assumption) ?_ | refine ixI (by omega) (by assumption) ?_ | refine ix_new _ (by omega) fun _ _ => ?_ | refine ixI_new (by omega) (by omega) fun _ _ => ?_ | refine ⟨_, by assumption, ?_⟩); conv => whnf) | (refine Or.inl ?_; (conv => whnf); (repeat (refine aI ?_; conv => whnf)); refine ⟨_, e2 ks1 rm1 h1, rfl, ?_⟩; conv => whnf) | (refine Or.inl ?_; (conv => whnf); (repeat (refine aI ?_; conv => whnf)); refine ⟨_, e3 kd1 rd1 h1d, rfl, ?_⟩; conv => whnf) | (refine Or.inl ?_; (conv => whnf); (repeat (refine aI ?_; conv => whnf)); refine ⟨_, num_at x, rfl, ?_⟩; conv => whnf) | ((first | refine ⟨_, e2 ks1 rm1 h1, rfl, ?_⟩ | refine ⟨_, e3 kd1 rd1 h1d, rfl, ?_⟩ | refine ⟨_, num_at x, rfl, ?_⟩); conv => whnf) | (refine Or.inr (Or.inl ?_); (conv => whnf); (repeat (refine aI ?_; conv => whnf)); refine ⟨_, e2 ks1 rm1 h1, ?_⟩; rintro _ _ ⟨rfl, rfl⟩; conv => whnf) | (refine Or.inr (Or.inl ?_); (conv => whnf); (repeat (refine aI ?_; conv => whnf)); refine ⟨_, e3 kd1 rd1 h1d, ?_⟩; rintro _ _ ⟨rfl, rfl⟩; conv => whnf) | (refine Or.inr (Or.inl ?_); (conv => whnf); (repeat (refine aI ?_; conv => whnf)); refine ⟨_, num_at x, ?_⟩; rintro _ _ ⟨rfl, rfl⟩; conv => whnf) | (refine Or.inr (Or.inl ?_); (conv => whnf); (repeat (refine aI ?_; conv => whnf)); refine ⟨_, r1 , ?_⟩; rintro _ _ ⟨rfl, ks1, kd1, rm1, rd1, rfl, h1, h1d⟩ <;> (conv => whnf)) | ((first | refine Alt2.l (aI ?_) | refine Alt2.r (aI ?_)); conv => whnf) | (refine Ok.scope ?_) | ((first | refine Ok.label ?_ | refine rd rfl (by assumption) ?_ | refine ⟨_, .inl ⟨rfl, rfl⟩, ?_⟩ | refine ⟨_, _, rfl, rfl, ?_⟩); conv => whnf) | (refine ⟨fun _ => ?_, fun _ => ?_⟩ <;> (conv => whnf) <;> (try (exfalso; omega))) | ((first | refine aJ ?_ | refine num_any ?_ | refine ⟨_, rfl, ?_⟩); conv => whnf) | fail)
  all_goals first
    | exact absurd trivial (by assumption)
    | (rename_i h; exact absurd rfl h)
    | (refine Or.inl ?_; (conv => whnf)
       exact congrArg D.b (propext ⟨fun _ => trivial, fun _ => Iff.rfl⟩))
end Go.Proofs.YtaiondckookpiaaGreatDoor
