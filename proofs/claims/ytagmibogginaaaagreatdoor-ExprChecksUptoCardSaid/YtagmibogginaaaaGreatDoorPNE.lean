/- The walks and the plain laws that a law of spaces needs, part 5 of 6. -/
import Derived.Test.YtagmibogginaaaaGreatDoorPND
set_option linter.unusedVariables false
set_option linter.unusedSimpArgs false
namespace Go.Proofs.YtagmibogginaaaaGreatDoor
open Go Go.Vx Go.Shelf
theorem xall_at (n : Nat) (h : n ≤ 256) (h0 : 1 ≤ n) : FSpec Tryz.prog T 115 [.i .i64 (n : Nat)] (fun d rows => d = .agg (crow (xsT n)) ∧ rows = []) := by
  refine FSpec.of_ok tok Tryz.func115 rfl Tryz.call115 (by simp) ?_
  rw [crow_xs]
  (try (conv => whnf)); repeat' (first | refine Ok.seq ?_ | refine OkL.cons ?_ | ((first | refine Ok.region tok ?_ | refine Ok.region_draw tok follows (by kernel_rfl) ?_ | refine Ok.cond ?_); conv => whnf) | refine Ok.block ?_ | ((first | refine Ok.skip ?_ | refine Ok.exit ?_ | refine Ok.ret ?_ | refine nI ?_ | refine ix _ (by assumption) ?_ | refine ixI (by omega) (by assumption) ?_ | refine ix_new _ (by omega) fun _ _ => ?_ | refine ixI_new (by omega) (by omega) fun _ _ => ?_ | refine ⟨_, by assumption, ?_⟩ | refine Alt2.l (aI ?_) | refine Alt2.r (aI ?_)); conv => whnf) | (refine Ok.scope ?_) | ((first | refine Ok.label ?_ | refine rd rfl (by assumption) ?_ | refine ⟨_, .inl ⟨rfl, rfl⟩, ?_⟩ | refine ⟨_, _, rfl, rfl, ?_⟩); conv => whnf) | (refine ⟨fun _ => ?_, fun _ => ?_⟩ <;> (conv => whnf) <;> (try (exfalso; omega))) | ((first | refine aJ ?_ | refine num_any ?_ | refine ⟨_, rfl, ?_⟩); conv => whnf) | fail)
  all_goals first
    | (exfalso; omega)
    | (refine Or.inl ?_; (conv => whnf)
       exact ⟨rfl, rfl⟩)
theorem cur_xs {c : Str} {n i : Nat} (hc : c.length = n) (hi : i ≤ n) : curL (xsT n) c i = c.take i ++ xsT (n - i) := by
  unfold curL
  have h1 : (xsT n).drop i = xsT (n - i) := by simp [xsT]
  rw [h1]
  congr 1
  refine List.ext_getElem? fun k => ?_
  by_cases hk : k < i
  · obtain ⟨b, hb⟩ : ∃ b, c[k]? = some b := ⟨_, List.getElem?_eq_getElem (by omega)⟩
    have e1 : (xsT n)[k]? = some 120 := by simp [xsT, List.getElem?_replicate]; omega
    simp [List.getElem?_zipWith, List.getElem?_take, hk, hb, e1, ov1]
  · simp [List.getElem?_zipWith, List.getElem?_take, hk]
theorem set_xs {c : Str} {n i : Nat} (y : UInt8) (hc : c.length = n) (hi : i < n) : (c.take i ++ xsT (n - i)).set i y = c.take i ++ [y] ++ xsT (n - i - 1) := by
  have h1 : (c.take i).length = i := by simp; omega
  rw [List.set_append_right _ _ (by omega), h1, Nat.sub_self]
  obtain ⟨m, hm⟩ : ∃ m, n - i = m + 1 := ⟨n - i - 1, by omega⟩
  rw [hm, show m + 1 - 1 = m by omega]
  simp [xsT, List.replicate_succ]
theorem pc_xs {c : Str} {n i : Nat} {x : UInt8} (hc : c.length = n) (hx : c[i]? = some x) (h : x ≠ 120) : pcT (xsT n) c i = some (c.take i ++ [97 - x] ++ xsT (n - i - 1)) := by
  have hi : i < n := by have := (List.getElem?_eq_some_iff.1 hx).1; omega
  rw [pcT_at (a := 120) (by simp [xsT, List.getElem?_replicate, hi]) hx, if_pos ⟨rfl, h⟩, cur_xs hc (by omega), set_xs _ hc hi]
theorem pc_xs_no {c : Str} {n i : Nat} (hc : c.length = n) (hx : c[i]? = some 120) : pcT (xsT n) c i = none := by
  have hi : i < n := by have := (List.getElem?_eq_some_iff.1 hx).1; omega
  rw [pcT_at (a := 120) (by simp [xsT, List.getElem?_replicate, hi]) hx, if_neg (by simp)]
theorem split_xs {c : Str} {n : Nat} (hn : 1 ≤ n) (hn2 : n ≤ 256) (hc : CT c) (hl : c.length = n) : splitT (xsT n) c = pcsT (xsT n) c n := by
  obtain ⟨m, hm, _⟩ := cfl_some (xs_ct hn2) hc (by rw [xsT_len, hl]) (xs_cn hn2 hn).2 (fun i => by simp [cfl, xs_bits])
  unfold splitT
  rw [hm, xsT_len]
  rfl
set_option maxHeartbeats 8000000 in
theorem other_at (c : Str) (n : Nat) (hl : c.length = n) (hn : n ≤ 256) (hok : cubOk c) : FSpec Tryz.prog T 78 [.s c] (fun d rows => d = .own 0 (pcsT (xsT n) c n).length ∧ rows = [some (9, (pcsT (xsT n) c n).map srow)]) := by
  refine FSpec.of_ok tok Tryz.func78 rfl Tryz.call78 (by simp) ?_
  (try (conv => whnf)); repeat' (first | refine Ok.seq ?_ | refine OkL.cons ?_ | ((first | refine Ok.region tok ?_ | refine Ok.region_plan (id := 9) tok follows [(11, 13, [12]), (11, 14, []), (13, 14, [])] [.q 0, .q 1, .q 2, .q 3, .q 4, .q 5, .q 6, .q 7, .q 8, .q 9, .q 10, .l 11, .q 12, .l 13, .l 14, .q 15] (by kernel_rfl) ?_ | refine Ok.region_draw tok follows (by kernel_rfl) ?_ | refine Ok.cond ?_); conv => whnf) | refine Ok.block ?_ | ((first | refine Ok.skip ?_ | refine Ok.exit ?_ | refine Ok.ret ?_ | refine nI ?_ | refine ix _ (by assumption) ?_ | refine ixI (by omega) (by assumption) ?_ | refine ix_new _ (by omega) fun _ _ => ?_ | refine ixI_new (by omega) (by omega) fun _ _ => ?_ | refine ⟨_, by assumption, ?_⟩ | refine Alt2.l (aI ?_) | refine Alt2.r (aI ?_)); conv => whnf) | (refine Ok.scope ?_) | ((first | refine Ok.label ?_ | refine rd rfl (by assumption) ?_ | refine ⟨_, .inl ⟨rfl, rfl⟩, ?_⟩ | refine ⟨_, _, rfl, rfl, ?_⟩); conv => whnf) | (refine ⟨fun _ => ?_, fun _ => ?_⟩ <;> (conv => whnf) <;> (try (exfalso; omega))) | ((first | refine aJ ?_ | refine num_any ?_ | refine ⟨_, rfl, ?_⟩); conv => whnf) | fail)
  refine Ok.ghost 3 9 rfl ?_
  (conv => whnf)
  refine Ok.loopU [0] [3, 4] 1 0 (fun (i : Nat) => [.own 0 (pcsT (xsT n) c i).length, .i .i64 (i : Nat)]) (fun _ b => b) (fun (i : Nat) (_ : Vx.Rows) => [some (9, (pcsT (xsT n) c i).map srow)]) (fun (i : Nat) => i ≤ n) (fun (i : Nat) => n - i) (0) (Nat.zero_le _) ?_; (conv => whnf); refine ⟨by ((conv => whnf); first | rfl | (simp [envCat, List.take_of_length_le, nrow, frow, bcell, srow, tcells, crow]; done) | (simp [envCat, List.take_of_length_le, nrow, frow, bcell, srow, tcells, crow]; rw [IntKind.wrap_i64]; omega)), ?_⟩
  intro i hi
  have hlm : ((pcsT (xsT n) c i).map srow).length = (pcsT (xsT n) c i).length := by simp
  have hpl := pcsT_len (xsT n) c i
  (conv => whnf)
  by_cases hil : i < n
  · obtain ⟨x, hx⟩ : ∃ x, c[i]? = some x := ⟨_, List.getElem?_eq_getElem (by omega)⟩
    have hxI : c[((i : Nat) : Int).toNat]? = some x := hx
    have hti : (c.take i).length = i := by simp; omega
    have hxs := xs_at (n - i - 1) (by omega)
    rw [show ((n - i - 1 : Nat) : Int) = (c.length : Int) - (i : Int) - 1 by omega] at hxs
    have hxl := xsT_len (n - i - 1)
    rcases hok x (List.mem_of_getElem? hx) with rfl | rfl | rfl
    · have hp := pcsT_some (pc_xs hl hx (by decide))
      have e1 : (((48 : UInt8).toNat : Nat) : Int) = 48 := rfl
      (try (conv => whnf)); repeat' (first | (refine ⟨0, i, rfl, rfl, Nat.zero_le _, by omega, c.take i, by simp, ?_⟩; (conv => whnf)) | refine Ok.seq ?_ | refine OkL.cons ?_ | ((first | refine Ok.region tok ?_ | refine Ok.region_plan (id := 9) tok follows [(11, 13, [12]), (11, 14, []), (13, 14, [])] [.q 0, .q 1, .q 2, .q 3, .q 4, .q 5, .q 6, .q 7, .q 8, .q 9, .q 10, .l 11, .q 12, .l 13, .l 14, .q 15] (by kernel_rfl) ?_ | refine Ok.region_draw tok follows (by kernel_rfl) ?_ | refine Ok.cond ?_); conv => whnf) | refine Ok.block ?_ | ((first | refine Ok.skip ?_ | refine Ok.exit ?_ | refine Ok.ret ?_ | refine nI ?_ | refine ix _ (by assumption) ?_ | refine ixI (by omega) (by assumption) ?_ | refine ix_new _ (by omega) fun _ _ => ?_ | refine ixI_new (by omega) (by omega) fun _ _ => ?_ | refine ⟨_, by assumption, ?_⟩); conv => whnf) | (refine Or.inl ?_; (conv => whnf); (repeat (refine aI ?_; conv => whnf)); refine ⟨_, hxs, rfl, ?_⟩; conv => whnf) | (refine ⟨_, hxs, rfl, ?_⟩; conv => whnf) | (refine Or.inr (Or.inl ?_); (conv => whnf); (repeat (refine aI ?_; conv => whnf)); refine ⟨_, hxs, ?_⟩; rintro _ _ ⟨rfl, rfl⟩; conv => whnf) | ((first | refine Alt2.l (aI ?_) | refine Alt2.r (aI ?_)); conv => whnf) | (refine Ok.scope ?_) | ((first | refine Ok.label ?_ | refine rd rfl (by assumption) ?_ | refine ⟨_, .inl ⟨rfl, rfl⟩, ?_⟩ | refine ⟨_, _, rfl, rfl, ?_⟩); conv => whnf) | (refine ⟨fun _ => ?_, fun _ => ?_⟩ <;> (conv => whnf) <;> (try (exfalso; omega))) | ((first | refine aJ ?_ | refine num_any ?_ | refine ⟨_, rfl, ?_⟩); conv => whnf) | fail)
      all_goals first
        | (exfalso; omega)
        | skip
      all_goals
        refine ⟨i + 1, by omega, by omega, ?_⟩
        rw [hp]
        (conv => whnf)
        simp [envCat]
    · have hp := pcsT_some (pc_xs hl hx (by decide))
      have e1 : (((49 : UInt8).toNat : Nat) : Int) = 49 := rfl
      (try (conv => whnf)); repeat' (first | (refine ⟨0, i, rfl, rfl, Nat.zero_le _, by omega, c.take i, by simp, ?_⟩; (conv => whnf)) | refine Ok.seq ?_ | refine OkL.cons ?_ | ((first | refine Ok.region tok ?_ | refine Ok.region_plan (id := 9) tok follows [(11, 13, [12]), (11, 14, []), (13, 14, [])] [.q 0, .q 1, .q 2, .q 3, .q 4, .q 5, .q 6, .q 7, .q 8, .q 9, .q 10, .l 11, .q 12, .l 13, .l 14, .q 15] (by kernel_rfl) ?_ | refine Ok.region_draw tok follows (by kernel_rfl) ?_ | refine Ok.cond ?_); conv => whnf) | refine Ok.block ?_ | ((first | refine Ok.skip ?_ | refine Ok.exit ?_ | refine Ok.ret ?_ | refine nI ?_ | refine ix _ (by assumption) ?_ | refine ixI (by omega) (by assumption) ?_ | refine ix_new _ (by omega) fun _ _ => ?_ | refine ixI_new (by omega) (by omega) fun _ _ => ?_ | refine ⟨_, by assumption, ?_⟩); conv => whnf) | (refine Or.inl ?_; (conv => whnf); (repeat (refine aI ?_; conv => whnf)); refine ⟨_, hxs, rfl, ?_⟩; conv => whnf) | (refine ⟨_, hxs, rfl, ?_⟩; conv => whnf) | (refine Or.inr (Or.inl ?_); (conv => whnf); (repeat (refine aI ?_; conv => whnf)); refine ⟨_, hxs, ?_⟩; rintro _ _ ⟨rfl, rfl⟩; conv => whnf) | ((first | refine Alt2.l (aI ?_) | refine Alt2.r (aI ?_)); conv => whnf) | (refine Ok.scope ?_) | ((first | refine Ok.label ?_ | refine rd rfl (by assumption) ?_ | refine ⟨_, .inl ⟨rfl, rfl⟩, ?_⟩ | refine ⟨_, _, rfl, rfl, ?_⟩); conv => whnf) | (refine ⟨fun _ => ?_, fun _ => ?_⟩ <;> (conv => whnf) <;> (try (exfalso; omega))) | ((first | refine aJ ?_ | refine num_any ?_ | refine ⟨_, rfl, ?_⟩); conv => whnf) | fail)
      all_goals first
        | (exfalso; omega)
        | skip
      all_goals
        refine ⟨i + 1, by omega, by omega, ?_⟩
        rw [hp]
        (conv => whnf)
        simp [envCat]
    · have hp := pcsT_none (pc_xs_no hl hx)
      have e1 : (((120 : UInt8).toNat : Nat) : Int) = 120 := rfl
      (try (conv => whnf)); repeat' (first | refine Ok.seq ?_ | refine OkL.cons ?_ | ((first | refine Ok.region tok ?_ | refine Ok.region_plan (id := 9) tok follows [(11, 13, [12]), (11, 14, []), (13, 14, [])] [.q 0, .q 1, .q 2, .q 3, .q 4, .q 5, .q 6, .q 7, .q 8, .q 9, .q 10, .l 11, .q 12, .l 13, .l 14, .q 15] (by kernel_rfl) ?_ | refine Ok.region_draw tok follows (by kernel_rfl) ?_ | refine Ok.cond ?_); conv => whnf) | refine Ok.block ?_ | ((first | refine Ok.skip ?_ | refine Ok.exit ?_ | refine Ok.ret ?_ | refine nI ?_ | refine ix _ (by assumption) ?_ | refine ixI (by omega) (by assumption) ?_ | refine ix_new _ (by omega) fun _ _ => ?_ | refine ixI_new (by omega) (by omega) fun _ _ => ?_ | refine ⟨_, by assumption, ?_⟩ | refine Alt2.l (aI ?_) | refine Alt2.r (aI ?_)); conv => whnf) | (refine Ok.scope ?_) | ((first | refine Ok.label ?_ | refine rd rfl (by assumption) ?_ | refine ⟨_, .inl ⟨rfl, rfl⟩, ?_⟩ | refine ⟨_, _, rfl, rfl, ?_⟩); conv => whnf) | (refine ⟨fun _ => ?_, fun _ => ?_⟩ <;> (conv => whnf) <;> (try (exfalso; omega))) | ((first | refine aJ ?_ | refine num_any ?_ | refine ⟨_, rfl, ?_⟩); conv => whnf) | fail)
      all_goals first
        | (exfalso; omega)
        | skip
      all_goals
        refine ⟨i + 1, by omega, by omega, ?_⟩
        rw [hp]
        (conv => whnf)
        first | rfl | simp [envCat]
  · have hie : i = n := by omega
    subst hie
    (try (conv => whnf)); repeat' (first | refine Ok.seq ?_ | refine OkL.cons ?_ | ((first | refine Ok.region tok ?_ | refine Ok.region_plan (id := 9) tok follows [(11, 13, [12]), (11, 14, []), (13, 14, [])] [.q 0, .q 1, .q 2, .q 3, .q 4, .q 5, .q 6, .q 7, .q 8, .q 9, .q 10, .l 11, .q 12, .l 13, .l 14, .q 15] (by kernel_rfl) ?_ | refine Ok.region_draw tok follows (by kernel_rfl) ?_ | refine Ok.cond ?_); conv => whnf) | refine Ok.block ?_ | ((first | refine Ok.skip ?_ | refine Ok.exit ?_ | refine Ok.ret ?_ | refine nI ?_ | refine ix _ (by assumption) ?_ | refine ixI (by omega) (by assumption) ?_ | refine ix_new _ (by omega) fun _ _ => ?_ | refine ixI_new (by omega) (by omega) fun _ _ => ?_ | refine ⟨_, by assumption, ?_⟩ | refine Alt2.l (aI ?_) | refine Alt2.r (aI ?_)); conv => whnf) | (refine Ok.scope ?_) | ((first | refine Ok.label ?_ | refine rd rfl (by assumption) ?_ | refine ⟨_, .inl ⟨rfl, rfl⟩, ?_⟩ | refine ⟨_, _, rfl, rfl, ?_⟩); conv => whnf) | (refine ⟨fun _ => ?_, fun _ => ?_⟩ <;> (conv => whnf) <;> (try (exfalso; omega))) | ((first | refine aJ ?_ | refine num_any ?_ | refine ⟨_, rfl, ?_⟩); conv => whnf) | fail)
    all_goals first
      | (exfalso; omega)
      | (refine Or.inr (Or.inl ?_); (conv => whnf)
         exact ⟨rfl, rfl⟩)
      | trace_state
end Go.Proofs.YtagmibogginaaaaGreatDoor
namespace Go.Proofs.YtagmibogginaaaaGreatDoor
open Go Go.Vx Go.Shelf
theorem bin_take (v b n : Nat) (h : n ≤ b) : (binT v b b).take n = binT v b n := by
  unfold binT
  rw [← List.map_take, List.take_range, Nat.min_eq_left h]
theorem pfx_full (v b : Nat) : pfxT v b b = binT v b b := by unfold pfxT; rw [Nat.sub_self]; simp [xsT]
def oneTT (t : Tst) (b : Nat) : Str := if t.form = 4 then t.pat else if t.form = 2 then pfxT t.lo.toNat b t.len.toNat else pfxT t.lo.toNat b b
set_option maxHeartbeats 4000000 in
theorem one_at (f : Str) (op form hi : Int) (vl vn : Nat) (pat : Str) (b : Nat) (hb : b ≤ 32) (hvl : vl < 9223372036854775808) (hvn : vn ≤ b) : FSpec Tryz.prog T 113 [.agg (tcl f op form vl hi vn pat), .i .i64 (b : Nat)] (fun d _ => d = .s (oneTT ⟨f, op, form, vl, hi, vn, pat⟩ b)) := by
  have hp1 := prefix_at vl b vn hvl (by omega) hvn vl b vn rfl rfl rfl
  have hp2 := prefix_at vl b b hvl (by omega) (Nat.le_refl _) vl b b rfl rfl rfl
  refine FSpec.of_ok tok Tryz.func113 rfl Tryz.call113 (by simp) ?_
  unfold oneTT
  dsimp only
  (try (conv => whnf)); repeat' (first | refine Ok.seq ?_ | refine OkL.cons ?_ | ((first | refine Ok.region tok ?_ | refine Ok.region_draw tok follows (by kernel_rfl) ?_ | refine Ok.cond ?_); conv => whnf) | refine Ok.block ?_ | ((first | refine Ok.skip ?_ | refine Ok.exit ?_ | refine Ok.ret ?_ | refine nI ?_ | refine ix _ (by assumption) ?_ | refine ixI (by omega) (by assumption) ?_ | refine ix_new _ (by omega) fun _ _ => ?_ | refine ixI_new (by omega) (by omega) fun _ _ => ?_ | refine ⟨_, by assumption, ?_⟩); conv => whnf) | (refine Or.inl ?_; (conv => whnf); (repeat (refine aI ?_; conv => whnf)); refine ⟨_, hp1, rfl, ?_⟩; conv => whnf) | (refine Or.inl ?_; (conv => whnf); (repeat (refine aI ?_; conv => whnf)); refine ⟨_, hp2, rfl, ?_⟩; conv => whnf) | ((first | refine ⟨_, hp1, rfl, ?_⟩ | refine ⟨_, hp2, rfl, ?_⟩); conv => whnf) | (refine Or.inr (Or.inl ?_); (conv => whnf); (repeat (refine aI ?_; conv => whnf)); refine ⟨_, hp1, ?_⟩; rintro _ _ ⟨rfl, rfl⟩; conv => whnf) | (refine Or.inr (Or.inl ?_); (conv => whnf); (repeat (refine aI ?_; conv => whnf)); refine ⟨_, hp2, ?_⟩; rintro _ _ ⟨rfl, rfl⟩; conv => whnf) | ((first | refine Alt2.l (aI ?_) | refine Alt2.r (aI ?_)); conv => whnf) | (refine Ok.scope ?_) | ((first | refine Ok.label ?_ | refine rd rfl (by assumption) ?_ | refine ⟨_, .inl ⟨rfl, rfl⟩, ?_⟩ | refine ⟨_, _, rfl, rfl, ?_⟩); conv => whnf) | (refine ⟨fun _ => ?_, fun _ => ?_⟩ <;> (conv => whnf) <;> (try (exfalso; omega))) | ((first | refine aJ ?_ | refine num_any ?_ | refine ⟨_, rfl, ?_⟩); conv => whnf) | fail)
  all_goals first
    | (exfalso; omega)
    | (refine Or.inl ?_; (conv => whnf)
       first
         | (rw [if_pos (by omega)]; rfl)
         | (rw [if_neg (by omega), if_pos (by omega)]; rfl)
         | (rw [if_neg (by omega), if_neg (by omega)]; rfl))
    | trace_state
set_option maxHeartbeats 4000000 in
theorem rone_at (f : Str) (op form hi : Int) (vl vn : Nat) (pat : Str) (b : Nat) (hb : b ≤ 32) (hvl : vl < 9223372036854775808) (hvn : vn ≤ b) : FSpec Tryz.prog T 77 [.agg (tcl f op form vl hi vn pat), .i .i64 (b : Nat)] (fun d _ => d = .s (oneTT ⟨f, op, form, vl, hi, vn, pat⟩ b)) := by
  have hd := digits_at vl b hvl (by omega)
  have hx := xs_at (b - vn) (by omega)
  rw [show ((b - vn : Nat) : Int) = (b : Int) - vn by omega] at hx
  have hbl := binT_len vl b b
  have hbl2 := binT_len vl b vn
  have hxl := xsT_len (b - vn)
  refine FSpec.of_ok tok Tryz.func77 rfl Tryz.call77 (by simp) ?_
  unfold oneTT
  dsimp only
  rw [pfx_full]
  (try (conv => whnf)); repeat' (first | (refine ⟨0, vn, rfl, rfl, Nat.zero_le _, by omega, binT vl b vn, by rw [bin_take vl b vn hvn]; rfl, ?_⟩; (conv => whnf)) | refine Ok.seq ?_ | refine OkL.cons ?_ | ((first | refine Ok.region tok ?_ | refine Ok.region_draw tok follows (by kernel_rfl) ?_ | refine Ok.cond ?_); conv => whnf) | refine Ok.block ?_ | ((first | refine Ok.skip ?_ | refine Ok.exit ?_ | refine Ok.ret ?_ | refine nI ?_ | refine ix _ (by assumption) ?_ | refine ixI (by omega) (by assumption) ?_ | refine ix_new _ (by omega) fun _ _ => ?_ | refine ixI_new (by omega) (by omega) fun _ _ => ?_ | refine ⟨_, by assumption, ?_⟩); conv => whnf) | (refine Or.inl ?_; (conv => whnf); (repeat (refine aI ?_; conv => whnf)); refine ⟨_, hd, rfl, ?_⟩; conv => whnf) | (refine Or.inl ?_; (conv => whnf); (repeat (refine aI ?_; conv => whnf)); refine ⟨_, hx, rfl, ?_⟩; conv => whnf) | ((first | refine ⟨_, hd, rfl, ?_⟩ | refine ⟨_, hx, rfl, ?_⟩); conv => whnf) | (refine Or.inr (Or.inl ?_); (conv => whnf); (repeat (refine aI ?_; conv => whnf)); refine ⟨_, hd, ?_⟩; rintro _ _ ⟨rfl, rfl⟩; conv => whnf) | (refine Or.inr (Or.inl ?_); (conv => whnf); (repeat (refine aI ?_; conv => whnf)); refine ⟨_, hx, ?_⟩; rintro _ _ ⟨rfl, rfl⟩; conv => whnf) | ((first | refine Alt2.l (aI ?_) | refine Alt2.r (aI ?_)); conv => whnf) | (refine Ok.scope ?_) | ((first | refine Ok.label ?_ | refine rd rfl (by assumption) ?_ | refine ⟨_, .inl ⟨rfl, rfl⟩, ?_⟩ | refine ⟨_, _, rfl, rfl, ?_⟩); conv => whnf) | (refine ⟨fun _ => ?_, fun _ => ?_⟩ <;> (conv => whnf) <;> (try (exfalso; omega))) | ((first | refine aJ ?_ | refine num_any ?_ | refine ⟨_, rfl, ?_⟩); conv => whnf) | fail)
  all_goals first
    | (exfalso; omega)
    | (refine Or.inl ?_; (conv => whnf)
       first
         | (rw [if_pos (by omega)]; rfl)
         | (rw [if_neg (by omega), if_pos (by omega)]; rfl)
         | (rw [if_neg (by omega), if_neg (by omega)]; rfl))
    | trace_state
theorem one_len {t : Tst} {b : Nat} (h1 : t.form = 4 → t.pat.length = b) (h2 : t.len.toNat ≤ b) : (oneTT t b).length = b := by
  unfold oneTT
  split
  · rename_i h; exact h1 h
  split
  · exact pfxT_len h2
  · exact pfxT_len (Nat.le_refl _)
theorem pfx_cub (v b n : Nat) : cubOk (pfxT v b n) := by
  intro x hx
  unfold pfxT at hx
  rcases List.mem_append.1 hx with h | h
  · unfold binT at h
    obtain ⟨i, _, rfl⟩ := List.mem_map.1 h
    unfold bitC
    split <;> simp
  · rw [(List.mem_replicate.1 h).2]; simp
theorem one_cub {t : Tst} {b : Nat} (h1 : t.form = 4 → cubOk t.pat) : cubOk (oneTT t b) := by
  unfold oneTT
  split
  · rename_i h; exact h1 h
  split
  · exact pfx_cub _ _ _
  · exact pfx_cub _ _ _
set_option maxHeartbeats 4000000 in
theorem from_at (b lo H : Nat) (hb : b ≤ 32) (hH : H ≤ tw b) (hlo : lo ≤ tw b) (bI lI hI : Int) (e1 : bI = b) (e2 : lI = lo) (e3 : hI = (H : Int) - 1) :
    FSpec Tryz.prog T 76 [.i .i64 bI, .i .i64 lI, .i .i64 hI] (fun d rows => d = .own 0 (coverC b H lo).length ∧ rows = [some (9, (coverC b H lo).map srow)]) := by
  subst e1 e2 e3
  have htb := tw62 (show b ≤ 62 by omega)
  have htop := rtop_at b (by omega)
  have hh := halves_at b lo H hb hH hlo b 0 0 0 (Nat.le_refl _) (by omega) (by omega) rfl
  rw [← cover_is_halves hH] at hh
  have hcl := coverC_len (bits := b) (lo := lo) (H := H) hH
  by_cases hlt : lo < H
  · refine FSpec.of_ok tok Tryz.func76 rfl Tryz.call76 (by simp) ?_
    generalize coverC b H lo = C at *
    have hlm : (C.map srow).length = C.length := by simp
    (try (conv => whnf)); repeat' (first | refine Ok.seq ?_ | refine OkL.cons ?_ | ((first | refine Ok.region tok ?_ | refine Ok.region_draw tok follows (by kernel_rfl) ?_ | refine Ok.cond ?_); conv => whnf) | refine Ok.block ?_ | ((first | refine Ok.skip ?_ | refine Ok.exit ?_ | refine Ok.ret ?_ | refine nI ?_ | refine ix _ (by assumption) ?_ | refine ixI (by omega) (by assumption) ?_ | refine ix_new _ (by omega) fun _ _ => ?_ | refine ixI_new (by omega) (by omega) fun _ _ => ?_ | refine ⟨_, by assumption, ?_⟩); conv => whnf) | (refine Or.inl ?_; (conv => whnf); (repeat (refine aI ?_; conv => whnf)); refine ⟨_, htop, rfl, ?_⟩; conv => whnf) | (refine Or.inl ?_; (conv => whnf); (repeat (refine aI ?_; conv => whnf)); refine ⟨_, hh, rfl, ?_⟩; conv => whnf) | ((first | refine ⟨_, htop, rfl, ?_⟩ | refine ⟨_, hh, rfl, ?_⟩); conv => whnf) | (refine Or.inr (Or.inl ?_); (conv => whnf); (repeat (refine aI ?_; conv => whnf)); refine ⟨_, htop, ?_⟩; rintro _ _ ⟨rfl, rfl⟩; conv => whnf) | (refine Or.inr (Or.inl ?_); (conv => whnf); (repeat (refine aI ?_; conv => whnf)); refine ⟨_, hh, ?_⟩; rintro _ _ ⟨rfl, rfl⟩; conv => whnf) | ((first | refine Alt2.l (aI ?_) | refine Alt2.r (aI ?_)); conv => whnf) | (refine Ok.scope ?_) | ((first | refine Ok.label ?_ | refine rd rfl (by assumption) ?_ | refine ⟨_, .inl ⟨rfl, rfl⟩, ?_⟩ | refine ⟨_, _, rfl, rfl, ?_⟩); conv => whnf) | (refine ⟨fun _ => ?_, fun _ => ?_⟩ <;> (conv => whnf) <;> (try (exfalso; omega))) | ((first | refine aJ ?_ | refine num_any ?_ | refine ⟨_, rfl, ?_⟩); conv => whnf) | fail)
    all_goals first
      | (exfalso; omega)
      | (refine Or.inr (Or.inl ?_); (conv => whnf)
         exact ⟨rfl, rfl⟩)
      | trace_state
  · refine FSpec.of_ok tok Tryz.func76 rfl Tryz.call76 (by simp) ?_
    rw [coverC_end (by omega)]
    (try (conv => whnf)); repeat' (first | refine Ok.seq ?_ | refine OkL.cons ?_ | ((first | refine Ok.region tok ?_ | refine Ok.region_draw tok follows (by kernel_rfl) ?_ | refine Ok.cond ?_); conv => whnf) | refine Ok.block ?_ | ((first | refine Ok.skip ?_ | refine Ok.exit ?_ | refine Ok.ret ?_ | refine nI ?_ | refine ix _ (by assumption) ?_ | refine ixI (by omega) (by assumption) ?_ | refine ix_new _ (by omega) fun _ _ => ?_ | refine ixI_new (by omega) (by omega) fun _ _ => ?_ | refine ⟨_, by assumption, ?_⟩); conv => whnf) | (refine Or.inl ?_; (conv => whnf); (repeat (refine aI ?_; conv => whnf)); refine ⟨_, htop, rfl, ?_⟩; conv => whnf) | (refine ⟨_, htop, rfl, ?_⟩; conv => whnf) | (refine Or.inr (Or.inl ?_); (conv => whnf); (repeat (refine aI ?_; conv => whnf)); refine ⟨_, htop, ?_⟩; rintro _ _ ⟨rfl, rfl⟩; conv => whnf) | ((first | refine Alt2.l (aI ?_) | refine Alt2.r (aI ?_)); conv => whnf) | (refine Ok.scope ?_) | ((first | refine Ok.label ?_ | refine rd rfl (by assumption) ?_ | refine ⟨_, .inl ⟨rfl, rfl⟩, ?_⟩ | refine ⟨_, _, rfl, rfl, ?_⟩); conv => whnf) | (refine ⟨fun _ => ?_, fun _ => ?_⟩ <;> (conv => whnf) <;> (try (exfalso; omega))) | ((first | refine aJ ?_ | refine num_any ?_ | refine ⟨_, rfl, ?_⟩); conv => whnf) | fail)
    all_goals first
      | (exfalso; omega)
      | (refine Or.inr (Or.inr ?_); (conv => whnf)
         exact ⟨rfl, rfl⟩)
      | trace_state
end Go.Proofs.YtagmibogginaaaaGreatDoor
namespace Go.Proofs.YtagmibogginaaaaGreatDoor
open Go Go.Vx Go.Shelf
def eitT (t : Tst) (b : Nat) : List Str :=
  if t.form = 3 then (if t.op = 1 then coverC b (t.hi.toNat + 1) t.lo.toNat else coverC b t.lo.toNat 0 ++ coverC b (tw b) (t.hi.toNat + 1))
  else if t.op = 1 then [oneTT t b] else splitT (xsT b) (oneTT t b)
def valT (t : Tst) (b : Nat) : List Str :=
  if t.op ≤ 2 then eitT t b else if t.op = 3 then coverC b t.lo.toNat 0 else if t.op = 4 then coverC b (t.lo.toNat + 1) 0
  else if t.op = 5 then coverC b (tw b) (t.lo.toNat + 1) else coverC b (tw b) t.lo.toNat
set_option maxHeartbeats 8000000 in
theorem either_at (f : Str) (op form : Int) (vl vh vn : Nat) (pat : Str) (b : Nat) (h0 : 1 ≤ b) (hb : b ≤ 32) (hvl : vl < tw b) (hvh : vh < tw b) (hvn : vn ≤ b) (hpl : form = 4 → pat.length = b) (hpc : form = 4 → cubOk pat) :
    FSpec Tryz.prog T 97 [.agg (tcl f op form vl vh vn pat), .i .i64 (b : Nat)] (fun d rows => d = .own 0 (eitT ⟨f, op, form, vl, vh, vn, pat⟩ b).length ∧ rows = [some (9, (eitT ⟨f, op, form, vl, vh, vn, pat⟩ b).map srow)]) := by
  have htb := tw62 (show b ≤ 62 by omega)
  have htop := top_at b (by omega)
  refine FSpec.of_ok tok Tryz.func97 rfl Tryz.call97 (by simp) ?_
  unfold eitT
  dsimp only
  simp only [Int.toNat_natCast]
  by_cases h3 : form = 3
  · rw [if_pos h3]
    by_cases h1 : op = 1
    · rw [if_pos h1]
      have hc := cover_at b vl (vh + 1) hb (by omega) (by omega) b vl vh rfl rfl (by omega)
      generalize coverC b (vh + 1) vl = C at *
      have hlm : (C.map srow).length = C.length := by simp
      (try (conv => whnf)); repeat' (first | refine Ok.seq ?_ | refine OkL.cons ?_ | ((first | refine Ok.region tok ?_ | refine Ok.region_plan (id := 4) tok follows [(2, 4, [3]), (2, 10, [4, 3]), (4, 10, []), (2, 11, [10, 4, 3]), (7, 11, [8]), (4, 11, [10]), (10, 11, []), (2, 12, [4, 3]), (7, 12, [11, 8]), (4, 12, []), (10, 12, [11]), (11, 12, [])] [.q 0, .q 1, .q 2, .q 3, .q 5, .q 6, .q 7, .q 8, .q 9, .l 4, .l 10, .l 11, .l 12, .q 13] (by kernel_rfl) ?_ | refine Ok.region_plan (id := 10) tok follows [(2, 3, []), (1, 3, [])] [.q 0, .q 2, .q 5, .l 1, .l 3, .q 4] (by kernel_rfl) ?_ | refine Ok.region_draw tok follows (by kernel_rfl) ?_ | refine Ok.cond ?_); conv => whnf) | refine Ok.block ?_ | ((first | refine Ok.skip ?_ | refine Ok.exit ?_ | refine Ok.ret ?_ | refine nI ?_ | refine ix _ (by assumption) ?_ | refine ixI (by omega) (by assumption) ?_ | refine ix_new _ (by omega) fun _ _ => ?_ | refine ixI_new (by omega) (by omega) fun _ _ => ?_ | refine ⟨_, by assumption, ?_⟩); conv => whnf) | (refine Or.inl ?_; (conv => whnf); (repeat (refine aI ?_; conv => whnf)); refine ⟨_, hc, rfl, ?_⟩; conv => whnf) | (refine ⟨_, hc, rfl, ?_⟩; conv => whnf) | (refine Or.inr (Or.inl ?_); (conv => whnf); (repeat (refine aI ?_; conv => whnf)); refine ⟨_, hc, ?_⟩; rintro _ _ ⟨rfl, rfl⟩; conv => whnf) | ((first | refine Alt2.l (aI ?_) | refine Alt2.r (aI ?_)); conv => whnf) | (refine Ok.scope ?_) | ((first | refine Ok.label ?_ | refine rd rfl (by assumption) ?_ | refine ⟨_, .inl ⟨rfl, rfl⟩, ?_⟩ | refine ⟨_, _, rfl, rfl, ?_⟩); conv => whnf) | (refine ⟨fun _ => ?_, fun _ => ?_⟩ <;> (conv => whnf) <;> (try (exfalso; omega))) | ((first | refine aJ ?_ | refine num_any ?_ | refine ⟨_, rfl, ?_⟩); conv => whnf) | fail)
      all_goals first
        | (exfalso; omega)
        | (refine Or.inr (Or.inl ?_); (conv => whnf)
           exact ⟨rfl, rfl⟩)
        | trace_state
    · rw [if_neg h1]
      have hc1 := cover_at b 0 vl hb (by omega) (by omega) b 0 ((vl : Int) - 1) rfl rfl rfl
      have hc2 := cover_at b (vh + 1) (tw b) hb (by omega) (by omega) b ((vh : Int) + 1) ((tw b : Int) - 1) rfl rfl rfl
      have hl1 := coverC_len (bits := b) (lo := 0) (H := vl) (by show vl ≤ tw b; omega)
      have hl2 := coverC_len (bits := b) (lo := vh + 1) (H := tw b) (Nat.le_refl _)
      generalize coverC b vl 0 = A at *
      generalize coverC b (tw b) (vh + 1) = B at *
      have hlA : (A.map srow).length = A.length := by simp
      have hlB : (B.map srow).length = B.length := by simp
      (try (conv => whnf)); repeat' (first | (refine ⟨B.map srow, .inl ⟨hlB.symm, rfl⟩, ?_⟩; (conv => whnf)) | refine Ok.seq ?_ | refine OkL.cons ?_ | ((first | refine Ok.region tok ?_ | refine Ok.region_plan (id := 4) tok follows [(2, 4, [3]), (2, 10, [4, 3]), (4, 10, []), (2, 11, [10, 4, 3]), (7, 11, [8]), (4, 11, [10]), (10, 11, []), (2, 12, [4, 3]), (7, 12, [11, 8]), (4, 12, []), (10, 12, [11]), (11, 12, [])] [.q 0, .q 1, .q 2, .q 3, .q 5, .q 6, .q 7, .q 8, .q 9, .l 4, .l 10, .l 11, .l 12, .q 13] (by kernel_rfl) ?_ | refine Ok.region_plan (id := 10) tok follows [(2, 3, []), (1, 3, [])] [.q 0, .q 2, .q 5, .l 1, .l 3, .q 4] (by kernel_rfl) ?_ | refine Ok.region_draw tok follows (by kernel_rfl) ?_ | refine Ok.cond ?_); conv => whnf) | refine Ok.block ?_ | ((first | refine Ok.skip ?_ | refine Ok.exit ?_ | refine Ok.ret ?_ | refine nI ?_ | refine ix _ (by assumption) ?_ | refine ixI (by omega) (by assumption) ?_ | refine ix_new _ (by omega) fun _ _ => ?_ | refine ixI_new (by omega) (by omega) fun _ _ => ?_ | refine ⟨_, by assumption, ?_⟩); conv => whnf) | (refine Or.inl ?_; (conv => whnf); (repeat (refine aI ?_; conv => whnf)); refine ⟨_, htop, rfl, ?_⟩; conv => whnf) | (refine Or.inl ?_; (conv => whnf); (repeat (refine aI ?_; conv => whnf)); refine ⟨_, hc1, rfl, ?_⟩; conv => whnf) | (refine Or.inl ?_; (conv => whnf); (repeat (refine aI ?_; conv => whnf)); refine ⟨_, hc2, rfl, ?_⟩; conv => whnf) | ((first | refine ⟨_, htop, rfl, ?_⟩ | refine ⟨_, hc1, rfl, ?_⟩ | refine ⟨_, hc2, rfl, ?_⟩); conv => whnf) | (refine Or.inr (Or.inl ?_); (conv => whnf); (repeat (refine aI ?_; conv => whnf)); refine ⟨_, htop, ?_⟩; rintro _ _ ⟨rfl, rfl⟩; conv => whnf) | (refine Or.inr (Or.inl ?_); (conv => whnf); (repeat (refine aI ?_; conv => whnf)); refine ⟨_, hc1, ?_⟩; rintro _ _ ⟨rfl, rfl⟩; conv => whnf) | (refine Or.inr (Or.inl ?_); (conv => whnf); (repeat (refine aI ?_; conv => whnf)); refine ⟨_, hc2, ?_⟩; rintro _ _ ⟨rfl, rfl⟩; conv => whnf) | ((first | refine Alt2.l (aI ?_) | refine Alt2.r (aI ?_)); conv => whnf) | (refine Ok.scope ?_) | ((first | refine Ok.label ?_ | refine rd rfl (by assumption) ?_ | refine ⟨_, .inl ⟨rfl, rfl⟩, ?_⟩ | refine ⟨_, _, rfl, rfl, ?_⟩); conv => whnf) | (refine ⟨fun _ => ?_, fun _ => ?_⟩ <;> (conv => whnf) <;> (try (exfalso; omega))) | ((first | refine aJ ?_ | refine num_any ?_ | refine ⟨_, rfl, ?_⟩); conv => whnf) | fail)
      all_goals first
        | (exfalso; omega)
        | (refine Or.inr (Or.inl ?_); (conv => whnf)
           exact ⟨by simp; rfl, by simp⟩)
        | trace_state
  · rw [if_neg h3]
    have ho := one_at f op form vh vl vn pat b hb (by omega) hvn
    have hcl : (oneTT ⟨f, op, form, vl, vh, vn, pat⟩ b).length = b := one_len hpl (by simp; omega)
    have hcc : cubOk (oneTT ⟨f, op, form, vl, vh, vn, pat⟩ b) := one_cub hpc
    generalize oneTT ⟨f, op, form, vl, vh, vn, pat⟩ b = c at *
    have hct : CT c := ⟨by omega, hcc⟩
    by_cases h1 : op = 1
    · rw [if_pos h1]
      (try (conv => whnf)); repeat' (first | refine Ok.seq ?_ | refine OkL.cons ?_ | ((first | refine Ok.region tok ?_ | refine Ok.region_plan (id := 4) tok follows [(2, 4, [3]), (2, 10, [4, 3]), (4, 10, []), (2, 11, [10, 4, 3]), (7, 11, [8]), (4, 11, [10]), (10, 11, []), (2, 12, [4, 3]), (7, 12, [11, 8]), (4, 12, []), (10, 12, [11]), (11, 12, [])] [.q 0, .q 1, .q 2, .q 3, .q 5, .q 6, .q 7, .q 8, .q 9, .l 4, .l 10, .l 11, .l 12, .q 13] (by kernel_rfl) ?_ | refine Ok.region_plan (id := 10) tok follows [(2, 3, []), (1, 3, [])] [.q 0, .q 2, .q 5, .l 1, .l 3, .q 4] (by kernel_rfl) ?_ | refine Ok.region_draw tok follows (by kernel_rfl) ?_ | refine Ok.cond ?_); conv => whnf) | refine Ok.block ?_ | ((first | refine Ok.skip ?_ | refine Ok.exit ?_ | refine Ok.ret ?_ | refine nI ?_ | refine ix _ (by assumption) ?_ | refine ixI (by omega) (by assumption) ?_ | refine ix_new _ (by omega) fun _ _ => ?_ | refine ixI_new (by omega) (by omega) fun _ _ => ?_ | refine ⟨_, by assumption, ?_⟩); conv => whnf) | (refine Or.inl ?_; (conv => whnf); (repeat (refine aI ?_; conv => whnf)); refine ⟨_, ho, rfl, ?_⟩; conv => whnf) | (refine ⟨_, ho, rfl, ?_⟩; conv => whnf) | (refine Or.inr (Or.inl ?_); (conv => whnf); (repeat (refine aI ?_; conv => whnf)); refine ⟨_, ho, ?_⟩; rintro _ _ ⟨rfl, rfl⟩; conv => whnf) | ((first | refine Alt2.l (aI ?_) | refine Alt2.r (aI ?_)); conv => whnf) | (refine Ok.scope ?_) | ((first | refine Ok.label ?_ | refine rd rfl (by assumption) ?_ | refine ⟨_, .inl ⟨rfl, rfl⟩, ?_⟩ | refine ⟨_, _, rfl, rfl, ?_⟩); conv => whnf) | (refine ⟨fun _ => ?_, fun _ => ?_⟩ <;> (conv => whnf) <;> (try (exfalso; omega))) | ((first | refine aJ ?_ | refine num_any ?_ | refine ⟨_, rfl, ?_⟩); conv => whnf) | fail)
      all_goals first
        | (exfalso; omega)
        | (refine Or.inr (Or.inl ?_); (conv => whnf)
           exact ⟨rfl, rfl⟩)
        | trace_state
    · rw [if_neg h1]
      have hne : c ≠ [] := fun e => by rw [e] at hcl; simp at hcl; omega
      have hpz : perr c = 0 := by unfold perr; rw [if_neg (by omega), if_pos ⟨hct, hne⟩]
      have hpa := parse_at c
      rw [zer_of ⟨hct, hne⟩, hpz] at hpa
      have hsp := split_at (xsT b) c (xs_cn (by omega) h0) hct
      have hPc := splitT_cn (xs_cn (show b ≤ 256 by omega) h0) hct
      have hPl := splitT_len (c := xsT b) (d := c) (by rw [xsT_len]; omega)
      generalize splitT (xsT b) c = P at *
      have hlP : (P.map crow).length = P.length := by simp
      (try (conv => whnf)); repeat' (first | refine Ok.seq ?_ | refine OkL.cons ?_ | ((first | refine Ok.region tok ?_ | refine Ok.region_plan (id := 4) tok follows [(2, 4, [3]), (2, 10, [4, 3]), (4, 10, []), (2, 11, [10, 4, 3]), (7, 11, [8]), (4, 11, [10]), (10, 11, []), (2, 12, [4, 3]), (7, 12, [11, 8]), (4, 12, []), (10, 12, [11]), (11, 12, [])] [.q 0, .q 1, .q 2, .q 3, .q 5, .q 6, .q 7, .q 8, .q 9, .l 4, .l 10, .l 11, .l 12, .q 13] (by kernel_rfl) ?_ | refine Ok.region_plan (id := 10) tok follows [(2, 3, []), (1, 3, [])] [.q 0, .q 2, .q 5, .l 1, .l 3, .q 4] (by kernel_rfl) ?_ | refine Ok.region_draw tok follows (by kernel_rfl) ?_ | refine Ok.cond ?_); conv => whnf) | refine Ok.block ?_ | ((first | refine Ok.skip ?_ | refine Ok.exit ?_ | refine Ok.ret ?_ | refine nI ?_ | refine ix _ (by assumption) ?_ | refine ixI (by omega) (by assumption) ?_ | refine ix_new _ (by omega) fun _ _ => ?_ | refine ixI_new (by omega) (by omega) fun _ _ => ?_ | refine ⟨_, by assumption, ?_⟩); conv => whnf) | (refine Or.inl ?_; (conv => whnf); (repeat (refine aI ?_; conv => whnf)); refine ⟨_, ho, rfl, ?_⟩; conv => whnf) | (refine Or.inl ?_; (conv => whnf); (repeat (refine aI ?_; conv => whnf)); refine ⟨_, hpa, rfl, ?_⟩; conv => whnf) | (refine Or.inl ?_; (conv => whnf); (repeat (refine aI ?_; conv => whnf)); refine ⟨_, xall_at b (by omega) h0, rfl, ?_⟩; conv => whnf) | ((first | refine ⟨_, ho, rfl, ?_⟩ | refine ⟨_, hpa, rfl, ?_⟩ | refine ⟨_, xall_at b (by omega) h0, rfl, ?_⟩); conv => whnf) | (refine Or.inr (Or.inl ?_); (conv => whnf); (repeat (refine aI ?_; conv => whnf)); refine ⟨_, ho, ?_⟩; rintro _ _ ⟨rfl, rfl⟩; conv => whnf) | (refine Or.inr (Or.inl ?_); (conv => whnf); (repeat (refine aI ?_; conv => whnf)); refine ⟨_, hpa, ?_⟩; rintro _ _ ⟨rfl, rfl⟩; conv => whnf) | (refine Or.inr (Or.inl ?_); (conv => whnf); (repeat (refine aI ?_; conv => whnf)); refine ⟨_, xall_at b (by omega) h0, ?_⟩; rintro _ _ ⟨rfl, rfl⟩; conv => whnf) | (refine Or.inr (Or.inl ?_); (conv => whnf); (repeat (refine aI ?_; conv => whnf)); refine ⟨_, hsp , ?_⟩; rintro _ _ ⟨rm, rfl, rfl⟩ <;> (conv => whnf)) | ((first | refine Alt2.l (aI ?_) | refine Alt2.r (aI ?_)); conv => whnf) | (refine Ok.scope ?_) | ((first | refine Ok.label ?_ | refine rd rfl (by assumption) ?_ | refine ⟨_, .inl ⟨rfl, rfl⟩, ?_⟩ | refine ⟨_, _, rfl, rfl, ?_⟩); conv => whnf) | (refine ⟨fun _ => ?_, fun _ => ?_⟩ <;> (conv => whnf) <;> (try (exfalso; omega))) | ((first | refine aJ ?_ | refine num_any ?_ | refine ⟨_, rfl, ?_⟩); conv => whnf) | fail)
      all_goals first
        | (exfalso; omega)
        | skip
      refine Ok.ghost 8 9 rfl ?_
      (conv => whnf)
      refine Ok.loopU [52, 53] [8, 54] 1 2 (fun (i : Nat) => [.own 0 i, .i .i64 (i : Nat)]) (fun _ b => b) (fun (i : Nat) (_ : Vx.Rows) => [some (9, (P.take i).map srow)]) (fun (i : Nat) => i ≤ P.length) (fun (i : Nat) => P.length - i) (0) (Nat.zero_le _) ?_; (conv => whnf); refine ⟨by ((conv => whnf); first | rfl | (simp [envCat, List.take_of_length_le, nrow, frow, bcell, srow, tcells, crow]; done) | (simp [envCat, List.take_of_length_le, nrow, frow, bcell, srow, tcells, crow]; rw [IntKind.wrap_i64]; omega)), ?_⟩
      intro i hi
      have hti : ((P.take i).map srow).length = i := by simp; omega
      (conv => whnf)
      by_cases hil : i < P.length
      · obtain ⟨x, hx⟩ : ∃ x, P[i]? = some x := ⟨_, List.getElem?_eq_getElem hil⟩
        have hxI : P[((i : Nat) : Int).toNat]? = some x := hx
        have hxt := text_at x (hPc x (List.mem_of_getElem? hx)).1.1
        have hsn : (P.take (i + 1)).map srow = (P.take i).map srow ++ [srow x] := by rw [take_snoc hx, List.map_append]; rfl
        (try (conv => whnf)); repeat' (first | refine Ok.seq ?_ | refine OkL.cons ?_ | ((first | refine Ok.region tok ?_ | refine Ok.region_plan (id := 4) tok follows [(2, 4, [3]), (2, 10, [4, 3]), (4, 10, []), (2, 11, [10, 4, 3]), (7, 11, [8]), (4, 11, [10]), (10, 11, []), (2, 12, [4, 3]), (7, 12, [11, 8]), (4, 12, []), (10, 12, [11]), (11, 12, [])] [.q 0, .q 1, .q 2, .q 3, .q 5, .q 6, .q 7, .q 8, .q 9, .l 4, .l 10, .l 11, .l 12, .q 13] (by kernel_rfl) ?_ | refine Ok.region_plan (id := 10) tok follows [(2, 3, []), (1, 3, [])] [.q 0, .q 2, .q 5, .l 1, .l 3, .q 4] (by kernel_rfl) ?_ | refine Ok.region_draw tok follows (by kernel_rfl) ?_ | refine Ok.cond ?_); conv => whnf) | refine Ok.block ?_ | ((first | refine Ok.skip ?_ | refine Ok.exit ?_ | refine Ok.ret ?_ | refine nI ?_ | refine ix _ (by assumption) ?_ | refine ixI (by omega) (by assumption) ?_ | refine ix_new _ (by omega) fun _ _ => ?_ | refine ixI_new (by omega) (by omega) fun _ _ => ?_ | refine ⟨_, by assumption, ?_⟩); conv => whnf) | (refine Or.inl ?_; (conv => whnf); (repeat (refine aI ?_; conv => whnf)); refine ⟨_, hxt, rfl, ?_⟩; conv => whnf) | (refine ⟨_, hxt, rfl, ?_⟩; conv => whnf) | (refine Or.inr (Or.inl ?_); (conv => whnf); (repeat (refine aI ?_; conv => whnf)); refine ⟨_, hxt, ?_⟩; rintro _ _ ⟨rfl, rfl⟩; conv => whnf) | ((first | refine Alt2.l (aI ?_) | refine Alt2.r (aI ?_)); conv => whnf) | (refine Ok.scope ?_) | ((first | refine Ok.label ?_ | refine rd rfl (by assumption) ?_ | refine ⟨_, .inl ⟨rfl, rfl⟩, ?_⟩ | refine ⟨_, _, rfl, rfl, ?_⟩); conv => whnf) | (refine ⟨fun _ => ?_, fun _ => ?_⟩ <;> (conv => whnf) <;> (try (exfalso; omega))) | ((first | refine aJ ?_ | refine num_any ?_ | refine ⟨_, rfl, ?_⟩); conv => whnf) | fail)
        all_goals first
          | (exfalso; omega)
          | skip
        refine ⟨i + 1, by omega, by omega, ?_⟩
        rw [hsn]
        (conv => whnf)
        simp [envCat]
        omega
      · have hie : i = P.length := by omega
        subst hie
        rw [List.take_length]
        (try (conv => whnf)); repeat' (first | refine Ok.seq ?_ | refine OkL.cons ?_ | ((first | refine Ok.region tok ?_ | refine Ok.region_plan (id := 4) tok follows [(2, 4, [3]), (2, 10, [4, 3]), (4, 10, []), (2, 11, [10, 4, 3]), (7, 11, [8]), (4, 11, [10]), (10, 11, []), (2, 12, [4, 3]), (7, 12, [11, 8]), (4, 12, []), (10, 12, [11]), (11, 12, [])] [.q 0, .q 1, .q 2, .q 3, .q 5, .q 6, .q 7, .q 8, .q 9, .l 4, .l 10, .l 11, .l 12, .q 13] (by kernel_rfl) ?_ | refine Ok.region_plan (id := 10) tok follows [(2, 3, []), (1, 3, [])] [.q 0, .q 2, .q 5, .l 1, .l 3, .q 4] (by kernel_rfl) ?_ | refine Ok.region_draw tok follows (by kernel_rfl) ?_ | refine Ok.cond ?_); conv => whnf) | refine Ok.block ?_ | ((first | refine Ok.skip ?_ | refine Ok.exit ?_ | refine Ok.ret ?_ | refine nI ?_ | refine ix _ (by assumption) ?_ | refine ixI (by omega) (by assumption) ?_ | refine ix_new _ (by omega) fun _ _ => ?_ | refine ixI_new (by omega) (by omega) fun _ _ => ?_ | refine ⟨_, by assumption, ?_⟩ | refine Alt2.l (aI ?_) | refine Alt2.r (aI ?_)); conv => whnf) | (refine Ok.scope ?_) | ((first | refine Ok.label ?_ | refine rd rfl (by assumption) ?_ | refine ⟨_, .inl ⟨rfl, rfl⟩, ?_⟩ | refine ⟨_, _, rfl, rfl, ?_⟩); conv => whnf) | (refine ⟨fun _ => ?_, fun _ => ?_⟩ <;> (conv => whnf) <;> (try (exfalso; omega))) | ((first | refine aJ ?_ | refine num_any ?_ | refine ⟨_, rfl, ?_⟩); conv => whnf) | fail)
        all_goals first
          | (exfalso; omega)
          | (refine Or.inr (Or.inl ?_); (conv => whnf)
             exact ⟨rfl, rfl⟩)
          | trace_state
set_option maxHeartbeats 8000000 in
theorem values_at (f : Str) (op form : Int) (vl vh vn : Nat) (pat : Str) (b : Nat) (h0 : 1 ≤ b) (hb : b ≤ 32) (ho : 1 ≤ op ∧ op ≤ 6) (hvl : vl < tw b) (hvh : vh < tw b) (hvn : vn ≤ b) (hpl : form = 4 → pat.length = b) (hpc : form = 4 → cubOk pat) :
    FSpec Tryz.prog T 72 [.agg (tcl f op form vl vh vn pat), .i .i64 (b : Nat)] (fun d rows => d = .own 0 (valT ⟨f, op, form, vl, vh, vn, pat⟩ b).length ∧ rows = [some (9, (valT ⟨f, op, form, vl, vh, vn, pat⟩ b).map srow)]) := by
  have htb := tw62 (show b ≤ 62 by omega)
  have htop := top_at b (by omega)
  refine FSpec.of_ok tok Tryz.func72 rfl Tryz.call72 (by simp) ?_
  unfold valT
  dsimp only
  simp only [Int.toNat_natCast]
  by_cases h2 : op ≤ 2
  · rw [if_pos h2]
    have he := either_at f op form vl vh vn pat b h0 hb hvl hvh hvn hpl hpc
    generalize eitT ⟨f, op, form, vl, vh, vn, pat⟩ b = C at *
    have hlm : (C.map srow).length = C.length := by simp
    (try (conv => whnf)); repeat' (first | refine Ok.seq ?_ | refine OkL.cons ?_ | ((first | refine Ok.region tok ?_ | refine Ok.region_draw tok follows (by kernel_rfl) ?_ | refine Ok.cond ?_); conv => whnf) | refine Ok.block ?_ | ((first | refine Ok.skip ?_ | refine Ok.exit ?_ | refine Ok.ret ?_ | refine nI ?_ | refine ix _ (by assumption) ?_ | refine ixI (by omega) (by assumption) ?_ | refine ix_new _ (by omega) fun _ _ => ?_ | refine ixI_new (by omega) (by omega) fun _ _ => ?_ | refine ⟨_, by assumption, ?_⟩); conv => whnf) | (refine Or.inl ?_; (conv => whnf); (repeat (refine aI ?_; conv => whnf)); refine ⟨_, he, rfl, ?_⟩; conv => whnf) | (refine ⟨_, he, rfl, ?_⟩; conv => whnf) | (refine Or.inr (Or.inl ?_); (conv => whnf); (repeat (refine aI ?_; conv => whnf)); refine ⟨_, he, ?_⟩; rintro _ _ ⟨rfl, rfl⟩; conv => whnf) | ((first | refine Alt2.l (aI ?_) | refine Alt2.r (aI ?_)); conv => whnf) | (refine Ok.scope ?_) | ((first | refine Ok.label ?_ | refine rd rfl (by assumption) ?_ | refine ⟨_, .inl ⟨rfl, rfl⟩, ?_⟩ | refine ⟨_, _, rfl, rfl, ?_⟩); conv => whnf) | (refine ⟨fun _ => ?_, fun _ => ?_⟩ <;> (conv => whnf) <;> (try (exfalso; omega))) | ((first | refine aJ ?_ | refine num_any ?_ | refine ⟨_, rfl, ?_⟩); conv => whnf) | fail)
    all_goals first
      | (exfalso; omega)
      | (refine Or.inr (Or.inl ?_); (conv => whnf)
         exact ⟨rfl, rfl⟩)
      | trace_state
  rw [if_neg h2]
  by_cases h3 : op = 3
  · rw [if_pos h3]
    have hc := cover_at b 0 vl hb (by omega) (by omega) b 0 ((vl : Int) - 1) rfl rfl rfl
    generalize coverC b vl 0 = C at *
    have hlm : (C.map srow).length = C.length := by simp
    (try (conv => whnf)); repeat' (first | refine Ok.seq ?_ | refine OkL.cons ?_ | ((first | refine Ok.region tok ?_ | refine Ok.region_draw tok follows (by kernel_rfl) ?_ | refine Ok.cond ?_); conv => whnf) | refine Ok.block ?_ | ((first | refine Ok.skip ?_ | refine Ok.exit ?_ | refine Ok.ret ?_ | refine nI ?_ | refine ix _ (by assumption) ?_ | refine ixI (by omega) (by assumption) ?_ | refine ix_new _ (by omega) fun _ _ => ?_ | refine ixI_new (by omega) (by omega) fun _ _ => ?_ | refine ⟨_, by assumption, ?_⟩); conv => whnf) | (refine Or.inl ?_; (conv => whnf); (repeat (refine aI ?_; conv => whnf)); refine ⟨_, hc, rfl, ?_⟩; conv => whnf) | (refine ⟨_, hc, rfl, ?_⟩; conv => whnf) | (refine Or.inr (Or.inl ?_); (conv => whnf); (repeat (refine aI ?_; conv => whnf)); refine ⟨_, hc, ?_⟩; rintro _ _ ⟨rfl, rfl⟩; conv => whnf) | ((first | refine Alt2.l (aI ?_) | refine Alt2.r (aI ?_)); conv => whnf) | (refine Ok.scope ?_) | ((first | refine Ok.label ?_ | refine rd rfl (by assumption) ?_ | refine ⟨_, .inl ⟨rfl, rfl⟩, ?_⟩ | refine ⟨_, _, rfl, rfl, ?_⟩); conv => whnf) | (refine ⟨fun _ => ?_, fun _ => ?_⟩ <;> (conv => whnf) <;> (try (exfalso; omega))) | ((first | refine aJ ?_ | refine num_any ?_ | refine ⟨_, rfl, ?_⟩); conv => whnf) | fail)
    all_goals first
      | (exfalso; omega)
      | (refine Or.inr (Or.inl ?_); (conv => whnf)
         exact ⟨rfl, rfl⟩)
      | trace_state
  rw [if_neg h3]
  by_cases h4 : op = 4
  · rw [if_pos h4]
    have hc := cover_at b 0 (vl + 1) hb (by omega) (by omega) b 0 ((vl : Int) + 1 - 1) rfl rfl (by omega)
    generalize coverC b (vl + 1) 0 = C at *
    have hlm : (C.map srow).length = C.length := by simp
    (try (conv => whnf)); repeat' (first | refine Ok.seq ?_ | refine OkL.cons ?_ | ((first | refine Ok.region tok ?_ | refine Ok.region_draw tok follows (by kernel_rfl) ?_ | refine Ok.cond ?_); conv => whnf) | refine Ok.block ?_ | ((first | refine Ok.skip ?_ | refine Ok.exit ?_ | refine Ok.ret ?_ | refine nI ?_ | refine ix _ (by assumption) ?_ | refine ixI (by omega) (by assumption) ?_ | refine ix_new _ (by omega) fun _ _ => ?_ | refine ixI_new (by omega) (by omega) fun _ _ => ?_ | refine ⟨_, by assumption, ?_⟩); conv => whnf) | (refine Or.inl ?_; (conv => whnf); (repeat (refine aI ?_; conv => whnf)); refine ⟨_, hc, rfl, ?_⟩; conv => whnf) | (refine ⟨_, hc, rfl, ?_⟩; conv => whnf) | (refine Or.inr (Or.inl ?_); (conv => whnf); (repeat (refine aI ?_; conv => whnf)); refine ⟨_, hc, ?_⟩; rintro _ _ ⟨rfl, rfl⟩; conv => whnf) | ((first | refine Alt2.l (aI ?_) | refine Alt2.r (aI ?_)); conv => whnf) | (refine Ok.scope ?_) | ((first | refine Ok.label ?_ | refine rd rfl (by assumption) ?_ | refine ⟨_, .inl ⟨rfl, rfl⟩, ?_⟩ | refine ⟨_, _, rfl, rfl, ?_⟩); conv => whnf) | (refine ⟨fun _ => ?_, fun _ => ?_⟩ <;> (conv => whnf) <;> (try (exfalso; omega))) | ((first | refine aJ ?_ | refine num_any ?_ | refine ⟨_, rfl, ?_⟩); conv => whnf) | fail)
    all_goals first
      | (exfalso; omega)
      | (refine Or.inr (Or.inl ?_); (conv => whnf)
         exact ⟨rfl, rfl⟩)
      | trace_state
  rw [if_neg h4]
  by_cases h5 : op = 5
  · rw [if_pos h5]
    have hc := cover_at b (vl + 1) (tw b) hb (by omega) (by omega) b ((vl : Int) + 1) ((tw b : Int) - 1) rfl rfl rfl
    generalize coverC b (tw b) (vl + 1) = C at *
    have hlm : (C.map srow).length = C.length := by simp
    (try (conv => whnf)); repeat' (first | refine Ok.seq ?_ | refine OkL.cons ?_ | ((first | refine Ok.region tok ?_ | refine Ok.region_draw tok follows (by kernel_rfl) ?_ | refine Ok.cond ?_); conv => whnf) | refine Ok.block ?_ | ((first | refine Ok.skip ?_ | refine Ok.exit ?_ | refine Ok.ret ?_ | refine nI ?_ | refine ix _ (by assumption) ?_ | refine ixI (by omega) (by assumption) ?_ | refine ix_new _ (by omega) fun _ _ => ?_ | refine ixI_new (by omega) (by omega) fun _ _ => ?_ | refine ⟨_, by assumption, ?_⟩); conv => whnf) | (refine Or.inl ?_; (conv => whnf); (repeat (refine aI ?_; conv => whnf)); refine ⟨_, htop, rfl, ?_⟩; conv => whnf) | (refine Or.inl ?_; (conv => whnf); (repeat (refine aI ?_; conv => whnf)); refine ⟨_, hc, rfl, ?_⟩; conv => whnf) | ((first | refine ⟨_, htop, rfl, ?_⟩ | refine ⟨_, hc, rfl, ?_⟩); conv => whnf) | (refine Or.inr (Or.inl ?_); (conv => whnf); (repeat (refine aI ?_; conv => whnf)); refine ⟨_, htop, ?_⟩; rintro _ _ ⟨rfl, rfl⟩; conv => whnf) | (refine Or.inr (Or.inl ?_); (conv => whnf); (repeat (refine aI ?_; conv => whnf)); refine ⟨_, hc, ?_⟩; rintro _ _ ⟨rfl, rfl⟩; conv => whnf) | ((first | refine Alt2.l (aI ?_) | refine Alt2.r (aI ?_)); conv => whnf) | (refine Ok.scope ?_) | ((first | refine Ok.label ?_ | refine rd rfl (by assumption) ?_ | refine ⟨_, .inl ⟨rfl, rfl⟩, ?_⟩ | refine ⟨_, _, rfl, rfl, ?_⟩); conv => whnf) | (refine ⟨fun _ => ?_, fun _ => ?_⟩ <;> (conv => whnf) <;> (try (exfalso; omega))) | ((first | refine aJ ?_ | refine num_any ?_ | refine ⟨_, rfl, ?_⟩); conv => whnf) | fail)
    all_goals first
      | (exfalso; omega)
      | (refine Or.inr (Or.inl ?_); (conv => whnf)
         exact ⟨rfl, rfl⟩)
      | trace_state
  rw [if_neg h5]
  have hc := cover_at b vl (tw b) hb (by omega) (by omega) b ((vl : Int) - 1 + 1) ((tw b : Int) - 1) rfl (by omega) rfl
  generalize coverC b (tw b) vl = C at *
  have hlm : (C.map srow).length = C.length := by simp
  (try (conv => whnf)); repeat' (first | refine Ok.seq ?_ | refine OkL.cons ?_ | ((first | refine Ok.region tok ?_ | refine Ok.region_draw tok follows (by kernel_rfl) ?_ | refine Ok.cond ?_); conv => whnf) | refine Ok.block ?_ | ((first | refine Ok.skip ?_ | refine Ok.exit ?_ | refine Ok.ret ?_ | refine nI ?_ | refine ix _ (by assumption) ?_ | refine ixI (by omega) (by assumption) ?_ | refine ix_new _ (by omega) fun _ _ => ?_ | refine ixI_new (by omega) (by omega) fun _ _ => ?_ | refine ⟨_, by assumption, ?_⟩); conv => whnf) | (refine Or.inl ?_; (conv => whnf); (repeat (refine aI ?_; conv => whnf)); refine ⟨_, htop, rfl, ?_⟩; conv => whnf) | (refine Or.inl ?_; (conv => whnf); (repeat (refine aI ?_; conv => whnf)); refine ⟨_, hc, rfl, ?_⟩; conv => whnf) | ((first | refine ⟨_, htop, rfl, ?_⟩ | refine ⟨_, hc, rfl, ?_⟩); conv => whnf) | (refine Or.inr (Or.inl ?_); (conv => whnf); (repeat (refine aI ?_; conv => whnf)); refine ⟨_, htop, ?_⟩; rintro _ _ ⟨rfl, rfl⟩; conv => whnf) | (refine Or.inr (Or.inl ?_); (conv => whnf); (repeat (refine aI ?_; conv => whnf)); refine ⟨_, hc, ?_⟩; rintro _ _ ⟨rfl, rfl⟩; conv => whnf) | ((first | refine Alt2.l (aI ?_) | refine Alt2.r (aI ?_)); conv => whnf) | (refine Ok.scope ?_) | ((first | refine Ok.label ?_ | refine rd rfl (by assumption) ?_ | refine ⟨_, .inl ⟨rfl, rfl⟩, ?_⟩ | refine ⟨_, _, rfl, rfl, ?_⟩); conv => whnf) | (refine ⟨fun _ => ?_, fun _ => ?_⟩ <;> (conv => whnf) <;> (try (exfalso; omega))) | ((first | refine aJ ?_ | refine num_any ?_ | refine ⟨_, rfl, ?_⟩); conv => whnf) | fail)
  all_goals first
    | (exfalso; omega)
    | (refine Or.inr (Or.inl ?_); (conv => whnf)
       exact ⟨rfl, rfl⟩)
    | trace_state
set_option maxHeartbeats 16000000 in
theorem rat_at (f : Str) (op form : Int) (vl vh vn : Nat) (pat : Str) (b : Nat) (h0 : 1 ≤ b) (hb : b ≤ 32) (ho : 1 ≤ op ∧ op ≤ 6) (hvl : vl < tw b) (hvh : vh < tw b) (hvn : vn ≤ b) (hpl : form = 4 → pat.length = b) (hpc : form = 4 → cubOk pat) :
    FSpec Tryz.prog T 47 [.agg (tcl f op form vl vh vn pat), .i .i64 (b : Nat)] (fun d rows => d = .own 0 (valT ⟨f, op, form, vl, vh, vn, pat⟩ b).length ∧ rows = [some (9, (valT ⟨f, op, form, vl, vh, vn, pat⟩ b).map srow)]) := by
  have htb := tw62 (show b ≤ 62 by omega)
  have htop := rtop_at b (by omega)
  refine FSpec.of_ok tok Tryz.func47 rfl Tryz.call47 (by simp) ?_
  unfold valT
  dsimp only
  simp only [Int.toNat_natCast]
  by_cases h2 : op ≤ 2
  · rw [if_pos h2]
    unfold eitT
    dsimp only
    simp only [Int.toNat_natCast]
    by_cases hf3 : form = 3
    · rw [if_pos hf3]
      by_cases h1 : op = 1
      · rw [if_pos h1]
        have hc := from_at b vl (vh + 1) hb (by omega) (by omega) b vl vh rfl rfl (by omega)
        generalize coverC b (vh + 1) vl = C at *
        have hlm : (C.map srow).length = C.length := by simp
        (try (conv => whnf)); repeat' (first | refine Ok.seq ?_ | refine OkL.cons ?_ | ((first | refine Ok.region tok ?_ | refine Ok.region_plan (id := 7) tok follows [(2, 6, [3]), (5, 6, [])] [.q 0, .q 1, .q 2, .q 3, .q 4, .l 5, .l 6, .q 7] (by kernel_rfl) ?_ | refine Ok.region_plan (id := 9) tok follows [(2, 5, []), (4, 5, [])] [.q 0, .q 1, .q 2, .q 3, .l 4, .l 5, .q 6] (by kernel_rfl) ?_ | refine Ok.region_plan (id := 18) tok follows [(2, 6, [3]), (5, 6, [])] [.q 0, .q 1, .q 2, .q 3, .q 4, .l 5, .l 6, .q 7] (by kernel_rfl) ?_ | refine Ok.region_draw tok follows (by kernel_rfl) ?_ | refine Ok.cond ?_); conv => whnf) | refine Ok.block ?_ | ((first | refine Ok.skip ?_ | refine Ok.exit ?_ | refine Ok.ret ?_ | refine nI ?_ | refine ix _ (by assumption) ?_ | refine ixI (by omega) (by assumption) ?_ | refine ix_new _ (by omega) fun _ _ => ?_ | refine ixI_new (by omega) (by omega) fun _ _ => ?_ | refine ⟨_, by assumption, ?_⟩); conv => whnf) | (refine Or.inl ?_; (conv => whnf); (repeat (refine aI ?_; conv => whnf)); refine ⟨_, hc, rfl, ?_⟩; conv => whnf) | (refine ⟨_, hc, rfl, ?_⟩; conv => whnf) | (refine Or.inr (Or.inl ?_); (conv => whnf); (repeat (refine aI ?_; conv => whnf)); refine ⟨_, hc, ?_⟩; rintro _ _ ⟨rfl, rfl⟩; conv => whnf) | ((first | refine Alt2.l (aI ?_) | refine Alt2.r (aI ?_)); conv => whnf) | (refine Ok.scope ?_) | ((first | refine Ok.label ?_ | refine rd rfl (by assumption) ?_ | refine ⟨_, .inl ⟨rfl, rfl⟩, ?_⟩ | refine ⟨_, _, rfl, rfl, ?_⟩); conv => whnf) | (refine ⟨fun _ => ?_, fun _ => ?_⟩ <;> (conv => whnf) <;> (try (exfalso; omega))) | ((first | refine aJ ?_ | refine num_any ?_ | refine ⟨_, rfl, ?_⟩); conv => whnf) | fail)
        all_goals first
          | (exfalso; omega)
          | (refine Or.inr (Or.inl ?_); (conv => whnf)
             exact ⟨rfl, rfl⟩)
          | trace_state
      · rw [if_neg h1]
        have hc1 := from_at b 0 vl hb (by omega) (by omega) b 0 ((vl : Int) - 1) rfl rfl rfl
        have hc2 := from_at b (vh + 1) (tw b) hb (by omega) (by omega) b ((vh : Int) + 1) ((tw b : Int) - 1) rfl rfl rfl
        have hl1 := coverC_len (bits := b) (lo := 0) (H := vl) (by show vl ≤ tw b; omega)
        have hl2 := coverC_len (bits := b) (lo := vh + 1) (H := tw b) (Nat.le_refl _)
        generalize coverC b vl 0 = A at *
        generalize coverC b (tw b) (vh + 1) = B at *
        have hAm : (A.map srow).length = A.length := by simp
        have hBm : (B.map srow).length = B.length := by simp
        (try (conv => whnf)); repeat' (first | refine Ok.seq ?_ | refine OkL.cons ?_ | ((first | refine Ok.region tok ?_ | refine Ok.region_plan (id := 7) tok follows [(2, 6, [3]), (5, 6, [])] [.q 0, .q 1, .q 2, .q 3, .q 4, .l 5, .l 6, .q 7] (by kernel_rfl) ?_ | refine Ok.region_plan (id := 9) tok follows [(2, 5, []), (4, 5, [])] [.q 0, .q 1, .q 2, .q 3, .l 4, .l 5, .q 6] (by kernel_rfl) ?_ | refine Ok.region_plan (id := 18) tok follows [(2, 6, [3]), (5, 6, [])] [.q 0, .q 1, .q 2, .q 3, .q 4, .l 5, .l 6, .q 7] (by kernel_rfl) ?_ | refine Ok.region_draw tok follows (by kernel_rfl) ?_ | refine Ok.cond ?_); conv => whnf) | refine Ok.block ?_ | ((first | refine Ok.skip ?_ | refine Ok.exit ?_ | refine Ok.ret ?_ | refine nI ?_ | refine ix _ (by assumption) ?_ | refine ixI (by omega) (by assumption) ?_ | refine ix_new _ (by omega) fun _ _ => ?_ | refine ixI_new (by omega) (by omega) fun _ _ => ?_ | refine ⟨_, by assumption, ?_⟩); conv => whnf) | (refine Or.inl ?_; (conv => whnf); (repeat (refine aI ?_; conv => whnf)); refine ⟨_, htop, rfl, ?_⟩; conv => whnf) | (refine Or.inl ?_; (conv => whnf); (repeat (refine aI ?_; conv => whnf)); refine ⟨_, hc1, rfl, ?_⟩; conv => whnf) | (refine Or.inl ?_; (conv => whnf); (repeat (refine aI ?_; conv => whnf)); refine ⟨_, hc2, rfl, ?_⟩; conv => whnf) | ((first | refine ⟨_, htop, rfl, ?_⟩ | refine ⟨_, hc1, rfl, ?_⟩ | refine ⟨_, hc2, rfl, ?_⟩); conv => whnf) | (refine Or.inr (Or.inl ?_); (conv => whnf); (repeat (refine aI ?_; conv => whnf)); refine ⟨_, htop, ?_⟩; rintro _ _ ⟨rfl, rfl⟩; conv => whnf) | (refine Or.inr (Or.inl ?_); (conv => whnf); (repeat (refine aI ?_; conv => whnf)); refine ⟨_, hc1, ?_⟩; rintro _ _ ⟨rfl, rfl⟩; conv => whnf) | (refine Or.inr (Or.inl ?_); (conv => whnf); (repeat (refine aI ?_; conv => whnf)); refine ⟨_, hc2, ?_⟩; rintro _ _ ⟨rfl, rfl⟩; conv => whnf) | ((first | refine Alt2.l (aI ?_) | refine Alt2.r (aI ?_)); conv => whnf) | (refine Ok.scope ?_) | ((first | refine Ok.label ?_ | refine rd rfl (by assumption) ?_ | refine ⟨_, .inl ⟨rfl, rfl⟩, ?_⟩ | refine ⟨_, _, rfl, rfl, ?_⟩); conv => whnf) | (refine ⟨fun _ => ?_, fun _ => ?_⟩ <;> (conv => whnf) <;> (try (exfalso; omega))) | ((first | refine aJ ?_ | refine num_any ?_ | refine ⟨_, rfl, ?_⟩); conv => whnf) | fail)
        all_goals first
          | (exfalso; omega)
          | skip
        refine Ok.loopU [7] [6, 8] 2 1 (fun (i : Nat) => [.own 0 (A.length + i), .i .i64 (i : Nat)]) (fun _ b => b) (fun (i : Nat) (_ : Vx.Rows) => [some (9, A.map srow ++ (B.take i).map srow), some (9, B.map srow)]) (fun (i : Nat) => i ≤ B.length) (fun (i : Nat) => B.length - i) (0) (Nat.zero_le _) ?_; (conv => whnf); refine ⟨by ((conv => whnf); first | rfl | (simp [envCat, List.take_of_length_le, nrow, frow, bcell, srow, tcells, crow]; done) | (simp [envCat, List.take_of_length_le, nrow, frow, bcell, srow, tcells, crow]; rw [IntKind.wrap_i64]; omega)), ?_⟩
        intro i hi
        have hti : ((B.take i).map srow).length = i := by simp; omega
        have hap : (A.map srow ++ (B.take i).map srow).length = A.length + i := by rw [List.length_append, hAm, hti]
        (conv => whnf)
        by_cases hil : i < B.length
        · obtain ⟨c, hc⟩ : ∃ c, B[i]? = some c := ⟨_, List.getElem?_eq_getElem hil⟩
          have hcI : B[((i : Nat) : Int).toNat]? = some c := hc
          have hsn : (B.take (i + 1)).map srow = (B.take i).map srow ++ [srow c] := by rw [take_snoc hc, List.map_append]; rfl
          (try (conv => whnf)); repeat' (first | refine Ok.seq ?_ | refine OkL.cons ?_ | ((first | refine Ok.region tok ?_ | refine Ok.region_plan (id := 7) tok follows [(2, 6, [3]), (5, 6, [])] [.q 0, .q 1, .q 2, .q 3, .q 4, .l 5, .l 6, .q 7] (by kernel_rfl) ?_ | refine Ok.region_plan (id := 9) tok follows [(2, 5, []), (4, 5, [])] [.q 0, .q 1, .q 2, .q 3, .l 4, .l 5, .q 6] (by kernel_rfl) ?_ | refine Ok.region_plan (id := 18) tok follows [(2, 6, [3]), (5, 6, [])] [.q 0, .q 1, .q 2, .q 3, .q 4, .l 5, .l 6, .q 7] (by kernel_rfl) ?_ | refine Ok.region_draw tok follows (by kernel_rfl) ?_ | refine Ok.cond ?_); conv => whnf) | refine Ok.block ?_ | ((first | refine Ok.skip ?_ | refine Ok.exit ?_ | refine Ok.ret ?_ | refine nI ?_ | refine ix _ (by assumption) ?_ | refine ixI (by omega) (by assumption) ?_ | refine ix_new _ (by omega) fun _ _ => ?_ | refine ixI_new (by omega) (by omega) fun _ _ => ?_ | refine ⟨_, by assumption, ?_⟩ | refine Alt2.l (aI ?_) | refine Alt2.r (aI ?_)); conv => whnf) | (refine Ok.scope ?_) | ((first | refine Ok.label ?_ | refine rd rfl (by assumption) ?_ | refine ⟨_, .inl ⟨rfl, rfl⟩, ?_⟩ | refine ⟨_, _, rfl, rfl, ?_⟩); conv => whnf) | (refine ⟨fun _ => ?_, fun _ => ?_⟩ <;> (conv => whnf) <;> (try (exfalso; omega))) | ((first | refine aJ ?_ | refine num_any ?_ | refine ⟨_, rfl, ?_⟩); conv => whnf) | fail)
          all_goals first
            | (exfalso; omega)
            | skip
          refine ⟨i + 1, by omega, by omega, ?_⟩
          rw [hsn]
          (conv => whnf)
          simp [envCat]
          omega
        · have hie : i = B.length := by omega
          subst hie
          rw [List.take_length]
          (try (conv => whnf)); repeat' (first | refine Ok.seq ?_ | refine OkL.cons ?_ | ((first | refine Ok.region tok ?_ | refine Ok.region_plan (id := 7) tok follows [(2, 6, [3]), (5, 6, [])] [.q 0, .q 1, .q 2, .q 3, .q 4, .l 5, .l 6, .q 7] (by kernel_rfl) ?_ | refine Ok.region_plan (id := 9) tok follows [(2, 5, []), (4, 5, [])] [.q 0, .q 1, .q 2, .q 3, .l 4, .l 5, .q 6] (by kernel_rfl) ?_ | refine Ok.region_plan (id := 18) tok follows [(2, 6, [3]), (5, 6, [])] [.q 0, .q 1, .q 2, .q 3, .q 4, .l 5, .l 6, .q 7] (by kernel_rfl) ?_ | refine Ok.region_draw tok follows (by kernel_rfl) ?_ | refine Ok.cond ?_); conv => whnf) | refine Ok.block ?_ | ((first | refine Ok.skip ?_ | refine Ok.exit ?_ | refine Ok.ret ?_ | refine nI ?_ | refine ix _ (by assumption) ?_ | refine ixI (by omega) (by assumption) ?_ | refine ix_new _ (by omega) fun _ _ => ?_ | refine ixI_new (by omega) (by omega) fun _ _ => ?_ | refine ⟨_, by assumption, ?_⟩ | refine Alt2.l (aI ?_) | refine Alt2.r (aI ?_)); conv => whnf) | (refine Ok.scope ?_) | ((first | refine Ok.label ?_ | refine rd rfl (by assumption) ?_ | refine ⟨_, .inl ⟨rfl, rfl⟩, ?_⟩ | refine ⟨_, _, rfl, rfl, ?_⟩); conv => whnf) | (refine ⟨fun _ => ?_, fun _ => ?_⟩ <;> (conv => whnf) <;> (try (exfalso; omega))) | ((first | refine aJ ?_ | refine num_any ?_ | refine ⟨_, rfl, ?_⟩); conv => whnf) | fail)
          all_goals first
            | (exfalso; omega)
            | (refine Or.inr (Or.inl ?_); (conv => whnf)
               exact ⟨by rw [List.length_append]; rfl, by rw [List.map_append]⟩)
            | trace_state
    · rw [if_neg hf3]
      have ho := rone_at f op form vh vl vn pat b hb (by omega) hvn
      have hcl : (oneTT ⟨f, op, form, vl, vh, vn, pat⟩ b).length = b := one_len hpl (by simp; omega)
      have hcc : cubOk (oneTT ⟨f, op, form, vl, vh, vn, pat⟩ b) := one_cub hpc
      generalize oneTT ⟨f, op, form, vl, vh, vn, pat⟩ b = c at *
      have hct : CT c := ⟨by omega, hcc⟩
      by_cases h1 : op = 1
      · rw [if_pos h1]
        (try (conv => whnf)); repeat' (first | refine Ok.seq ?_ | refine OkL.cons ?_ | ((first | refine Ok.region tok ?_ | refine Ok.region_plan (id := 7) tok follows [(2, 6, [3]), (5, 6, [])] [.q 0, .q 1, .q 2, .q 3, .q 4, .l 5, .l 6, .q 7] (by kernel_rfl) ?_ | refine Ok.region_plan (id := 9) tok follows [(2, 5, []), (4, 5, [])] [.q 0, .q 1, .q 2, .q 3, .l 4, .l 5, .q 6] (by kernel_rfl) ?_ | refine Ok.region_plan (id := 18) tok follows [(2, 6, [3]), (5, 6, [])] [.q 0, .q 1, .q 2, .q 3, .q 4, .l 5, .l 6, .q 7] (by kernel_rfl) ?_ | refine Ok.region_draw tok follows (by kernel_rfl) ?_ | refine Ok.cond ?_); conv => whnf) | refine Ok.block ?_ | ((first | refine Ok.skip ?_ | refine Ok.exit ?_ | refine Ok.ret ?_ | refine nI ?_ | refine ix _ (by assumption) ?_ | refine ixI (by omega) (by assumption) ?_ | refine ix_new _ (by omega) fun _ _ => ?_ | refine ixI_new (by omega) (by omega) fun _ _ => ?_ | refine ⟨_, by assumption, ?_⟩); conv => whnf) | (refine Or.inl ?_; (conv => whnf); (repeat (refine aI ?_; conv => whnf)); refine ⟨_, ho, rfl, ?_⟩; conv => whnf) | (refine ⟨_, ho, rfl, ?_⟩; conv => whnf) | (refine Or.inr (Or.inl ?_); (conv => whnf); (repeat (refine aI ?_; conv => whnf)); refine ⟨_, ho, ?_⟩; rintro _ _ ⟨rfl, rfl⟩; conv => whnf) | ((first | refine Alt2.l (aI ?_) | refine Alt2.r (aI ?_)); conv => whnf) | (refine Ok.scope ?_) | ((first | refine Ok.label ?_ | refine rd rfl (by assumption) ?_ | refine ⟨_, .inl ⟨rfl, rfl⟩, ?_⟩ | refine ⟨_, _, rfl, rfl, ?_⟩); conv => whnf) | (refine ⟨fun _ => ?_, fun _ => ?_⟩ <;> (conv => whnf) <;> (try (exfalso; omega))) | ((first | refine aJ ?_ | refine num_any ?_ | refine ⟨_, rfl, ?_⟩); conv => whnf) | fail)
        all_goals first
          | (exfalso; omega)
          | (refine Or.inr (Or.inl ?_); (conv => whnf)
             exact ⟨rfl, rfl⟩)
          | trace_state
      · rw [if_neg h1, split_xs h0 (by omega) hct hcl]
        have hoth := other_at c b hcl (by omega) hcc
        generalize pcsT (xsT b) c b = C at *
        have hlm : (C.map srow).length = C.length := by simp
        (try (conv => whnf)); repeat' (first | refine Ok.seq ?_ | refine OkL.cons ?_ | ((first | refine Ok.region tok ?_ | refine Ok.region_plan (id := 7) tok follows [(2, 6, [3]), (5, 6, [])] [.q 0, .q 1, .q 2, .q 3, .q 4, .l 5, .l 6, .q 7] (by kernel_rfl) ?_ | refine Ok.region_plan (id := 9) tok follows [(2, 5, []), (4, 5, [])] [.q 0, .q 1, .q 2, .q 3, .l 4, .l 5, .q 6] (by kernel_rfl) ?_ | refine Ok.region_plan (id := 18) tok follows [(2, 6, [3]), (5, 6, [])] [.q 0, .q 1, .q 2, .q 3, .q 4, .l 5, .l 6, .q 7] (by kernel_rfl) ?_ | refine Ok.region_draw tok follows (by kernel_rfl) ?_ | refine Ok.cond ?_); conv => whnf) | refine Ok.block ?_ | ((first | refine Ok.skip ?_ | refine Ok.exit ?_ | refine Ok.ret ?_ | refine nI ?_ | refine ix _ (by assumption) ?_ | refine ixI (by omega) (by assumption) ?_ | refine ix_new _ (by omega) fun _ _ => ?_ | refine ixI_new (by omega) (by omega) fun _ _ => ?_ | refine ⟨_, by assumption, ?_⟩); conv => whnf) | (refine Or.inl ?_; (conv => whnf); (repeat (refine aI ?_; conv => whnf)); refine ⟨_, ho, rfl, ?_⟩; conv => whnf) | (refine Or.inl ?_; (conv => whnf); (repeat (refine aI ?_; conv => whnf)); refine ⟨_, hoth, rfl, ?_⟩; conv => whnf) | ((first | refine ⟨_, ho, rfl, ?_⟩ | refine ⟨_, hoth, rfl, ?_⟩); conv => whnf) | (refine Or.inr (Or.inl ?_); (conv => whnf); (repeat (refine aI ?_; conv => whnf)); refine ⟨_, ho, ?_⟩; rintro _ _ ⟨rfl, rfl⟩; conv => whnf) | (refine Or.inr (Or.inl ?_); (conv => whnf); (repeat (refine aI ?_; conv => whnf)); refine ⟨_, hoth, ?_⟩; rintro _ _ ⟨rfl, rfl⟩; conv => whnf) | ((first | refine Alt2.l (aI ?_) | refine Alt2.r (aI ?_)); conv => whnf) | (refine Ok.scope ?_) | ((first | refine Ok.label ?_ | refine rd rfl (by assumption) ?_ | refine ⟨_, .inl ⟨rfl, rfl⟩, ?_⟩ | refine ⟨_, _, rfl, rfl, ?_⟩); conv => whnf) | (refine ⟨fun _ => ?_, fun _ => ?_⟩ <;> (conv => whnf) <;> (try (exfalso; omega))) | ((first | refine aJ ?_ | refine num_any ?_ | refine ⟨_, rfl, ?_⟩); conv => whnf) | fail)
        all_goals first
          | (exfalso; omega)
          | (refine Or.inr (Or.inl ?_); (conv => whnf)
             exact ⟨rfl, rfl⟩)
          | trace_state
  rw [if_neg h2]
  by_cases h3 : op = 3
  · rw [if_pos h3]
    have hc := from_at b 0 vl hb (by omega) (by omega) b 0 ((vl : Int) - 1) rfl rfl rfl
    generalize coverC b vl 0 = C at *
    have hlm : (C.map srow).length = C.length := by simp
    (try (conv => whnf)); repeat' (first | refine Ok.seq ?_ | refine OkL.cons ?_ | ((first | refine Ok.region tok ?_ | refine Ok.region_plan (id := 7) tok follows [(2, 6, [3]), (5, 6, [])] [.q 0, .q 1, .q 2, .q 3, .q 4, .l 5, .l 6, .q 7] (by kernel_rfl) ?_ | refine Ok.region_plan (id := 9) tok follows [(2, 5, []), (4, 5, [])] [.q 0, .q 1, .q 2, .q 3, .l 4, .l 5, .q 6] (by kernel_rfl) ?_ | refine Ok.region_plan (id := 18) tok follows [(2, 6, [3]), (5, 6, [])] [.q 0, .q 1, .q 2, .q 3, .q 4, .l 5, .l 6, .q 7] (by kernel_rfl) ?_ | refine Ok.region_draw tok follows (by kernel_rfl) ?_ | refine Ok.cond ?_); conv => whnf) | refine Ok.block ?_ | ((first | refine Ok.skip ?_ | refine Ok.exit ?_ | refine Ok.ret ?_ | refine nI ?_ | refine ix _ (by assumption) ?_ | refine ixI (by omega) (by assumption) ?_ | refine ix_new _ (by omega) fun _ _ => ?_ | refine ixI_new (by omega) (by omega) fun _ _ => ?_ | refine ⟨_, by assumption, ?_⟩); conv => whnf) | (refine Or.inl ?_; (conv => whnf); (repeat (refine aI ?_; conv => whnf)); refine ⟨_, hc, rfl, ?_⟩; conv => whnf) | (refine ⟨_, hc, rfl, ?_⟩; conv => whnf) | (refine Or.inr (Or.inl ?_); (conv => whnf); (repeat (refine aI ?_; conv => whnf)); refine ⟨_, hc, ?_⟩; rintro _ _ ⟨rfl, rfl⟩; conv => whnf) | ((first | refine Alt2.l (aI ?_) | refine Alt2.r (aI ?_)); conv => whnf) | (refine Ok.scope ?_) | ((first | refine Ok.label ?_ | refine rd rfl (by assumption) ?_ | refine ⟨_, .inl ⟨rfl, rfl⟩, ?_⟩ | refine ⟨_, _, rfl, rfl, ?_⟩); conv => whnf) | (refine ⟨fun _ => ?_, fun _ => ?_⟩ <;> (conv => whnf) <;> (try (exfalso; omega))) | ((first | refine aJ ?_ | refine num_any ?_ | refine ⟨_, rfl, ?_⟩); conv => whnf) | fail)
    all_goals first
      | (exfalso; omega)
      | (refine Or.inr (Or.inl ?_); (conv => whnf)
         exact ⟨rfl, rfl⟩)
      | trace_state
  rw [if_neg h3]
  by_cases h4 : op = 4
  · rw [if_pos h4]
    have hc := from_at b 0 (vl + 1) hb (by omega) (by omega) b 0 (vl : Int) rfl rfl (by omega)
    generalize coverC b (vl + 1) 0 = C at *
    have hlm : (C.map srow).length = C.length := by simp
    (try (conv => whnf)); repeat' (first | refine Ok.seq ?_ | refine OkL.cons ?_ | ((first | refine Ok.region tok ?_ | refine Ok.region_plan (id := 7) tok follows [(2, 6, [3]), (5, 6, [])] [.q 0, .q 1, .q 2, .q 3, .q 4, .l 5, .l 6, .q 7] (by kernel_rfl) ?_ | refine Ok.region_plan (id := 9) tok follows [(2, 5, []), (4, 5, [])] [.q 0, .q 1, .q 2, .q 3, .l 4, .l 5, .q 6] (by kernel_rfl) ?_ | refine Ok.region_plan (id := 18) tok follows [(2, 6, [3]), (5, 6, [])] [.q 0, .q 1, .q 2, .q 3, .q 4, .l 5, .l 6, .q 7] (by kernel_rfl) ?_ | refine Ok.region_draw tok follows (by kernel_rfl) ?_ | refine Ok.cond ?_); conv => whnf) | refine Ok.block ?_ | ((first | refine Ok.skip ?_ | refine Ok.exit ?_ | refine Ok.ret ?_ | refine nI ?_ | refine ix _ (by assumption) ?_ | refine ixI (by omega) (by assumption) ?_ | refine ix_new _ (by omega) fun _ _ => ?_ | refine ixI_new (by omega) (by omega) fun _ _ => ?_ | refine ⟨_, by assumption, ?_⟩); conv => whnf) | (refine Or.inl ?_; (conv => whnf); (repeat (refine aI ?_; conv => whnf)); refine ⟨_, hc, rfl, ?_⟩; conv => whnf) | (refine ⟨_, hc, rfl, ?_⟩; conv => whnf) | (refine Or.inr (Or.inl ?_); (conv => whnf); (repeat (refine aI ?_; conv => whnf)); refine ⟨_, hc, ?_⟩; rintro _ _ ⟨rfl, rfl⟩; conv => whnf) | ((first | refine Alt2.l (aI ?_) | refine Alt2.r (aI ?_)); conv => whnf) | (refine Ok.scope ?_) | ((first | refine Ok.label ?_ | refine rd rfl (by assumption) ?_ | refine ⟨_, .inl ⟨rfl, rfl⟩, ?_⟩ | refine ⟨_, _, rfl, rfl, ?_⟩); conv => whnf) | (refine ⟨fun _ => ?_, fun _ => ?_⟩ <;> (conv => whnf) <;> (try (exfalso; omega))) | ((first | refine aJ ?_ | refine num_any ?_ | refine ⟨_, rfl, ?_⟩); conv => whnf) | fail)
    all_goals first
      | (exfalso; omega)
      | (refine Or.inr (Or.inl ?_); (conv => whnf)
         exact ⟨rfl, rfl⟩)
      | trace_state
  rw [if_neg h4]
  by_cases h5 : op = 5
  · rw [if_pos h5]
    have hc := from_at b (vl + 1) (tw b) hb (by omega) (by omega) b ((vl : Int) + 1) ((tw b : Int) - 1) rfl rfl rfl
    generalize coverC b (tw b) (vl + 1) = C at *
    have hlm : (C.map srow).length = C.length := by simp
    (try (conv => whnf)); repeat' (first | refine Ok.seq ?_ | refine OkL.cons ?_ | ((first | refine Ok.region tok ?_ | refine Ok.region_plan (id := 7) tok follows [(2, 6, [3]), (5, 6, [])] [.q 0, .q 1, .q 2, .q 3, .q 4, .l 5, .l 6, .q 7] (by kernel_rfl) ?_ | refine Ok.region_plan (id := 9) tok follows [(2, 5, []), (4, 5, [])] [.q 0, .q 1, .q 2, .q 3, .l 4, .l 5, .q 6] (by kernel_rfl) ?_ | refine Ok.region_plan (id := 18) tok follows [(2, 6, [3]), (5, 6, [])] [.q 0, .q 1, .q 2, .q 3, .q 4, .l 5, .l 6, .q 7] (by kernel_rfl) ?_ | refine Ok.region_draw tok follows (by kernel_rfl) ?_ | refine Ok.cond ?_); conv => whnf) | refine Ok.block ?_ | ((first | refine Ok.skip ?_ | refine Ok.exit ?_ | refine Ok.ret ?_ | refine nI ?_ | refine ix _ (by assumption) ?_ | refine ixI (by omega) (by assumption) ?_ | refine ix_new _ (by omega) fun _ _ => ?_ | refine ixI_new (by omega) (by omega) fun _ _ => ?_ | refine ⟨_, by assumption, ?_⟩); conv => whnf) | (refine Or.inl ?_; (conv => whnf); (repeat (refine aI ?_; conv => whnf)); refine ⟨_, htop, rfl, ?_⟩; conv => whnf) | (refine Or.inl ?_; (conv => whnf); (repeat (refine aI ?_; conv => whnf)); refine ⟨_, hc, rfl, ?_⟩; conv => whnf) | ((first | refine ⟨_, htop, rfl, ?_⟩ | refine ⟨_, hc, rfl, ?_⟩); conv => whnf) | (refine Or.inr (Or.inl ?_); (conv => whnf); (repeat (refine aI ?_; conv => whnf)); refine ⟨_, htop, ?_⟩; rintro _ _ ⟨rfl, rfl⟩; conv => whnf) | (refine Or.inr (Or.inl ?_); (conv => whnf); (repeat (refine aI ?_; conv => whnf)); refine ⟨_, hc, ?_⟩; rintro _ _ ⟨rfl, rfl⟩; conv => whnf) | ((first | refine Alt2.l (aI ?_) | refine Alt2.r (aI ?_)); conv => whnf) | (refine Ok.scope ?_) | ((first | refine Ok.label ?_ | refine rd rfl (by assumption) ?_ | refine ⟨_, .inl ⟨rfl, rfl⟩, ?_⟩ | refine ⟨_, _, rfl, rfl, ?_⟩); conv => whnf) | (refine ⟨fun _ => ?_, fun _ => ?_⟩ <;> (conv => whnf) <;> (try (exfalso; omega))) | ((first | refine aJ ?_ | refine num_any ?_ | refine ⟨_, rfl, ?_⟩); conv => whnf) | fail)
    all_goals first
      | (exfalso; omega)
      | (refine Or.inr (Or.inl ?_); (conv => whnf)
         exact ⟨rfl, rfl⟩)
      | trace_state
  rw [if_neg h5]
  have hc := from_at b vl (tw b) hb (by omega) (by omega) b (vl : Int) ((tw b : Int) - 1) rfl rfl rfl
  generalize coverC b (tw b) vl = C at *
  have hlm : (C.map srow).length = C.length := by simp
  (try (conv => whnf)); repeat' (first | refine Ok.seq ?_ | refine OkL.cons ?_ | ((first | refine Ok.region tok ?_ | refine Ok.region_plan (id := 7) tok follows [(2, 6, [3]), (5, 6, [])] [.q 0, .q 1, .q 2, .q 3, .q 4, .l 5, .l 6, .q 7] (by kernel_rfl) ?_ | refine Ok.region_plan (id := 9) tok follows [(2, 5, []), (4, 5, [])] [.q 0, .q 1, .q 2, .q 3, .l 4, .l 5, .q 6] (by kernel_rfl) ?_ | refine Ok.region_plan (id := 18) tok follows [(2, 6, [3]), (5, 6, [])] [.q 0, .q 1, .q 2, .q 3, .q 4, .l 5, .l 6, .q 7] (by kernel_rfl) ?_ | refine Ok.region_draw tok follows (by kernel_rfl) ?_ | refine Ok.cond ?_); conv => whnf) | refine Ok.block ?_ | ((first | refine Ok.skip ?_ | refine Ok.exit ?_ | refine Ok.ret ?_ | refine nI ?_ | refine ix _ (by assumption) ?_ | refine ixI (by omega) (by assumption) ?_ | refine ix_new _ (by omega) fun _ _ => ?_ | refine ixI_new (by omega) (by omega) fun _ _ => ?_ | refine ⟨_, by assumption, ?_⟩); conv => whnf) | (refine Or.inl ?_; (conv => whnf); (repeat (refine aI ?_; conv => whnf)); refine ⟨_, htop, rfl, ?_⟩; conv => whnf) | (refine Or.inl ?_; (conv => whnf); (repeat (refine aI ?_; conv => whnf)); refine ⟨_, hc, rfl, ?_⟩; conv => whnf) | ((first | refine ⟨_, htop, rfl, ?_⟩ | refine ⟨_, hc, rfl, ?_⟩); conv => whnf) | (refine Or.inr (Or.inl ?_); (conv => whnf); (repeat (refine aI ?_; conv => whnf)); refine ⟨_, htop, ?_⟩; rintro _ _ ⟨rfl, rfl⟩; conv => whnf) | (refine Or.inr (Or.inl ?_); (conv => whnf); (repeat (refine aI ?_; conv => whnf)); refine ⟨_, hc, ?_⟩; rintro _ _ ⟨rfl, rfl⟩; conv => whnf) | ((first | refine Alt2.l (aI ?_) | refine Alt2.r (aI ?_)); conv => whnf) | (refine Ok.scope ?_) | ((first | refine Ok.label ?_ | refine rd rfl (by assumption) ?_ | refine ⟨_, .inl ⟨rfl, rfl⟩, ?_⟩ | refine ⟨_, _, rfl, rfl, ?_⟩); conv => whnf) | (refine ⟨fun _ => ?_, fun _ => ?_⟩ <;> (conv => whnf) <;> (try (exfalso; omega))) | ((first | refine aJ ?_ | refine num_any ?_ | refine ⟨_, rfl, ?_⟩); conv => whnf) | fail)
  all_goals first
    | (exfalso; omega)
    | (refine Or.inr (Or.inl ?_); (conv => whnf)
       exact ⟨rfl, rfl⟩)
    | trace_state
end Go.Proofs.YtagmibogginaaaaGreatDoor
namespace Go.Proofs.YtagmibogginaaaaGreatDoor
open Go Go.Vx Go.Shelf
inductive Tr where
  | leaf (p : Prop)
  | test (t : Tst)
  | neg (x : Tr)
  | and (x y : Tr)
  | or (x y : Tr)
def Tr.ty : Tr → Nat
  | .leaf _ => 139 | .test _ => 141 | .neg _ => 143 | .and _ _ => 147 | .or _ _ => 148
def Tr.cs : Tr → List D
  | .leaf p => [.b p] | .test t => tcells t | .neg x => [.ifc x.ty (.agg x.cs)]
  | .and x y => [.ifc x.ty (.agg x.cs), .ifc y.ty (.agg y.cs)] | .or x y => [.ifc x.ty (.agg x.cs), .ifc y.ty (.agg y.cs)]
@[reducible] def Tr.d (x : Tr) : D := .ifc x.ty (.agg x.cs)
def Tr.isO : Tr → Bool | .or _ _ => true | _ => false
def Tr.isJ : Tr → Bool | .or _ _ => true | .and _ _ => true | _ => false
def cnt : Bool → Nat | true => 1 | false => 0
def Tr.sz : Tr → Nat | .leaf _ => 1 | .test _ => 1 | .neg x => x.sz + 1 | .and x y => x.sz + y.sz + 1 | .or x y => x.sz + y.sz + 1
def Tr.nest : Tr → Nat
  | .leaf _ => 0 | .test _ => 0 | .neg x => x.nest + cnt x.isJ + 1
  | .and x y => max (x.nest + cnt x.isO) (y.nest + cnt y.isJ) | .or x y => max x.nest (y.nest + cnt y.isO)
theorem cnt_le (b : Bool) : cnt b ≤ 1 := by cases b <;> simp [cnt]
theorem nest_le (x : Tr) : x.nest ≤ 2 * x.sz := by
  induction x with
  | leaf _ => simp [Tr.nest]
  | test _ => simp [Tr.nest]
  | neg x ih => have := cnt_le x.isJ; simp only [Tr.nest, Tr.sz]; omega
  | and x y h1 h2 => have := cnt_le x.isO; have := cnt_le y.isJ; simp only [Tr.nest, Tr.sz]; omega
  | or x y h1 h2 => have := cnt_le y.isO; simp only [Tr.nest, Tr.sz]; omega
theorem bff {p : Prop} (h : ¬ p) : D.b False = D.b p := by congr 1; exact propext ⟨False.elim, h⟩
theorem btt {p : Prop} (h : p) : D.b True = D.b p := by congr 1; exact propext ⟨fun _ => h, fun _ => trivial⟩
theorem joined_at (x : Tr) : FSpec Tryz.prog T 220 [x.d] (fun d _ => d = .b (x.isJ = true)) := by
  refine FSpec.of_ok tok Tryz.func220 rfl Tryz.call220 (by simp) ?_
  cases x
  all_goals
    (try (conv => whnf)); repeat' (first | refine Ok.seq ?_ | refine OkL.cons ?_ | ((first | refine Ok.region tok ?_ | refine Ok.region_draw tok follows (by kernel_rfl) ?_ | refine Ok.cond ?_); conv => whnf) | refine Ok.block ?_ | ((first | refine Ok.skip ?_ | refine Ok.exit ?_ | refine Ok.ret ?_ | refine nI ?_ | refine ix _ (by assumption) ?_ | refine ixI (by omega) (by assumption) ?_ | refine ix_new _ (by omega) fun _ _ => ?_ | refine ixI_new (by omega) (by omega) fun _ _ => ?_ | refine ⟨_, by assumption, ?_⟩ | refine Alt2.l (aI ?_) | refine Alt2.r (aI ?_)); conv => whnf) | (refine Ok.scope ?_) | ((first | refine Ok.label ?_ | refine rd rfl (by assumption) ?_ | refine ⟨_, .inl ⟨rfl, rfl⟩, ?_⟩ | refine ⟨_, _, rfl, rfl, ?_⟩); conv => whnf) | (refine ⟨fun _ => ?_, fun _ => ?_⟩ <;> (conv => whnf) <;> (try (exfalso; omega))) | ((first | refine aJ ?_ | refine num_any ?_ | refine ⟨_, rfl, ?_⟩); conv => whnf) | fail)
    refine Or.inl ?_; (conv => whnf)
    first | exact btt rfl | exact bff (by simp [Tr.isJ])
theorem isOr_at (x : Tr) : FSpec Tryz.prog T 228 [x.d] (fun d _ => d = .b (x.isO = true)) := by
  refine FSpec.of_ok tok Tryz.func228 rfl Tryz.call228 (by simp) ?_
  cases x
  all_goals
    (try (conv => whnf)); repeat' (first | refine Ok.seq ?_ | refine OkL.cons ?_ | ((first | refine Ok.region tok ?_ | refine Ok.region_draw tok follows (by kernel_rfl) ?_ | refine Ok.cond ?_); conv => whnf) | refine Ok.block ?_ | ((first | refine Ok.skip ?_ | refine Ok.exit ?_ | refine Ok.ret ?_ | refine nI ?_ | refine ix _ (by assumption) ?_ | refine ixI (by omega) (by assumption) ?_ | refine ix_new _ (by omega) fun _ _ => ?_ | refine ixI_new (by omega) (by omega) fun _ _ => ?_ | refine ⟨_, by assumption, ?_⟩ | refine Alt2.l (aI ?_) | refine Alt2.r (aI ?_)); conv => whnf) | (refine Ok.scope ?_) | ((first | refine Ok.label ?_ | refine rd rfl (by assumption) ?_ | refine ⟨_, .inl ⟨rfl, rfl⟩, ?_⟩ | refine ⟨_, _, rfl, rfl, ?_⟩); conv => whnf) | (refine ⟨fun _ => ?_, fun _ => ?_⟩ <;> (conv => whnf) <;> (try (exfalso; omega))) | ((first | refine aJ ?_ | refine num_any ?_ | refine ⟨_, rfl, ?_⟩); conv => whnf) | fail)
    refine Or.inl ?_; (conv => whnf)
    first | exact btt rfl | exact bff (by simp [Tr.isO])
theorem count_at (b : Bool) : FSpec Tryz.prog T 227 [.b (b = true)] (fun d _ => d = .i .i64 (cnt b : Nat)) := by
  refine FSpec.of_ok tok Tryz.func227 rfl Tryz.call227 (by simp) ?_
  cases b
  all_goals
    (try (conv => whnf)); repeat' (first | refine Ok.seq ?_ | refine OkL.cons ?_ | ((first | refine Ok.region tok ?_ | refine Ok.region_draw tok follows (by kernel_rfl) ?_ | refine Ok.cond ?_); conv => whnf) | refine Ok.block ?_ | ((first | refine Ok.skip ?_ | refine Ok.exit ?_ | refine Ok.ret ?_ | refine nI ?_ | refine ix _ (by assumption) ?_ | refine ixI (by omega) (by assumption) ?_ | refine ix_new _ (by omega) fun _ _ => ?_ | refine ixI_new (by omega) (by omega) fun _ _ => ?_ | refine ⟨_, by assumption, ?_⟩ | refine Alt2.l (aI ?_) | refine Alt2.r (aI ?_)); conv => whnf) | (refine Ok.scope ?_) | ((first | refine Ok.label ?_ | refine rd rfl (by assumption) ?_ | refine ⟨_, .inl ⟨rfl, rfl⟩, ?_⟩ | refine ⟨_, _, rfl, rfl, ?_⟩); conv => whnf) | (refine ⟨fun _ => ?_, fun _ => ?_⟩ <;> (conv => whnf) <;> (try (exfalso; omega))) | ((first | refine aJ ?_ | refine num_any ?_ | refine ⟨_, rfl, ?_⟩); conv => whnf) | fail)
    all_goals first
      | (rename_i h; cases h; done)
      | (rename_i h; exact absurd rfl h)
      | (refine Or.inl ?_; (conv => whnf)
         rfl)
      | trace_state
theorem mLeaf : MethC Tryz.prog "reach/expr.nesting" 139 154 := .of tok (by kernel_rfl) (by kernel_rfl) Tryz.call154
theorem mTest : MethC Tryz.prog "reach/expr.nesting" 141 204 := .of tok (by kernel_rfl) (by kernel_rfl) Tryz.call204
theorem mNot : MethC Tryz.prog "reach/expr.nesting" 143 217 := .of tok (by kernel_rfl) (by kernel_rfl) Tryz.call217
theorem mAnd : MethC Tryz.prog "reach/expr.nesting" 147 223 := .of tok (by kernel_rfl) (by kernel_rfl) Tryz.call223
theorem mOr : MethC Tryz.prog "reach/expr.nesting" 148 233 := .of tok (by kernel_rfl) (by kernel_rfl) Tryz.call233
theorem leafN (cs : List D) (p : Prop) (h : cs = [.b p]) : FSpec Tryz.prog T 154 [.agg cs] (fun d _ => d = .i .i64 0) := by
  subst h
  refine FSpec.of_ok tok Tryz.func154 rfl Tryz.call154 (by simp) ?_
  (try (conv => whnf)); repeat' (first | refine Ok.seq ?_ | refine OkL.cons ?_ | ((first | refine Ok.region tok ?_ | refine Ok.region_draw tok follows (by kernel_rfl) ?_ | refine Ok.cond ?_); conv => whnf) | refine Ok.block ?_ | ((first | refine Ok.skip ?_ | refine Ok.exit ?_ | refine Ok.ret ?_ | refine nI ?_ | refine ix _ (by assumption) ?_ | refine ixI (by omega) (by assumption) ?_ | refine ix_new _ (by omega) fun _ _ => ?_ | refine ixI_new (by omega) (by omega) fun _ _ => ?_ | refine ⟨_, by assumption, ?_⟩ | refine Alt2.l (aI ?_) | refine Alt2.r (aI ?_)); conv => whnf) | (refine Ok.scope ?_) | ((first | refine Ok.label ?_ | refine rd rfl (by assumption) ?_ | refine ⟨_, .inl ⟨rfl, rfl⟩, ?_⟩ | refine ⟨_, _, rfl, rfl, ?_⟩); conv => whnf) | (refine ⟨fun _ => ?_, fun _ => ?_⟩ <;> (conv => whnf) <;> (try (exfalso; omega))) | ((first | refine aJ ?_ | refine num_any ?_ | refine ⟨_, rfl, ?_⟩); conv => whnf) | fail)
  refine Or.inl ?_; (conv => whnf)
  rfl
theorem testN (t : Tst) : FSpec Tryz.prog T 204 [.agg (tcells t)] (fun d _ => d = .i .i64 0) := by
  refine FSpec.of_ok tok Tryz.func204 rfl Tryz.call204 (by simp) ?_
  (try (conv => whnf)); repeat' (first | refine Ok.seq ?_ | refine OkL.cons ?_ | ((first | refine Ok.region tok ?_ | refine Ok.region_draw tok follows (by kernel_rfl) ?_ | refine Ok.cond ?_); conv => whnf) | refine Ok.block ?_ | ((first | refine Ok.skip ?_ | refine Ok.exit ?_ | refine Ok.ret ?_ | refine nI ?_ | refine ix _ (by assumption) ?_ | refine ixI (by omega) (by assumption) ?_ | refine ix_new _ (by omega) fun _ _ => ?_ | refine ixI_new (by omega) (by omega) fun _ _ => ?_ | refine ⟨_, by assumption, ?_⟩ | refine Alt2.l (aI ?_) | refine Alt2.r (aI ?_)); conv => whnf) | (refine Ok.scope ?_) | ((first | refine Ok.label ?_ | refine rd rfl (by assumption) ?_ | refine ⟨_, .inl ⟨rfl, rfl⟩, ?_⟩ | refine ⟨_, _, rfl, rfl, ?_⟩); conv => whnf) | (refine ⟨fun _ => ?_, fun _ => ?_⟩ <;> (conv => whnf) <;> (try (exfalso; omega))) | ((first | refine aJ ?_ | refine num_any ?_ | refine ⟨_, rfl, ?_⟩); conv => whnf) | fail)
  refine Or.inl ?_; (conv => whnf)
  rfl
theorem deeper_at (x y : Tr) (a b : Nat) (ha : a ≤ 1) (hb : b ≤ 1) (hx : x.sz ≤ 1000) (hy : y.sz ≤ 1000) (fx fy : FuncId) (mx : MethC Tryz.prog "reach/expr.nesting" x.ty fx) (my : MethC Tryz.prog "reach/expr.nesting" y.ty fy)
    (sx : FSpec Tryz.prog T fx [.agg x.cs] (fun d _ => d = .i .i64 (x.nest : Nat))) (sy : FSpec Tryz.prog T fy [.agg y.cs] (fun d _ => d = .i .i64 (y.nest : Nat))) :
    FSpec Tryz.prog T 221 [.agg [x.d, y.d], .i .i64 (a : Nat), .i .i64 (b : Nat)] (fun d _ => d = .i .i64 (max (x.nest + a) (y.nest + b) : Nat)) := by
  have h1 := nest_le x
  have h2 := nest_le y
  refine FSpec.of_ok tok Tryz.func221 rfl Tryz.call221 (by simp) ?_
  (try (conv => whnf)); repeat' (first | refine Ok.seq ?_ | refine OkL.cons ?_ | ((first | refine Ok.region tok ?_ | refine Ok.region_plan (id := 1) tok follows [(1, 2, []), (1, 7, [2]), (6, 7, []), (2, 7, []), (1, 10, [4, 2]), (6, 10, [9, 7]), (2, 10, [4]), (7, 10, [9])] [.q 0, .q 1, .q 3, .q 5, .q 6, .q 8, .l 2, .q 4, .l 7, .q 9, .l 10, .q 11] (by kernel_rfl) ?_ | refine Ok.region_draw tok follows (by kernel_rfl) ?_ | refine Ok.cond ?_); conv => whnf) | refine Ok.block ?_ | ((first | refine Ok.skip ?_ | refine Ok.exit ?_ | refine Ok.ret ?_ | refine nI ?_ | refine ix _ (by assumption) ?_ | refine ixI (by omega) (by assumption) ?_ | refine ix_new _ (by omega) fun _ _ => ?_ | refine ixI_new (by omega) (by omega) fun _ _ => ?_ | refine ⟨_, by assumption, ?_⟩ | refine ⟨_, mx, _, sx, rfl, ?_⟩); conv => whnf) | (refine Or.inl ?_; (conv => whnf); (repeat (refine aI ?_; conv => whnf)); refine ⟨_, mx, _, sx, rfl, ?_⟩; conv => whnf) | (refine ⟨_, my, _, sy, rfl, ?_⟩; conv => whnf) | (refine Or.inl ?_; (conv => whnf); (repeat (refine aI ?_; conv => whnf)); refine ⟨_, my, _, sy, rfl, ?_⟩; conv => whnf) | ((first | refine Alt2.l (aI ?_) | refine Alt2.r (aI ?_)); conv => whnf) | (refine Ok.scope ?_) | ((first | refine Ok.label ?_ | refine rd rfl (by assumption) ?_ | refine ⟨_, .inl ⟨rfl, rfl⟩, ?_⟩ | refine ⟨_, _, rfl, rfl, ?_⟩); conv => whnf) | (refine ⟨fun _ => ?_, fun _ => ?_⟩ <;> (conv => whnf) <;> (try (exfalso; omega))) | ((first | refine aJ ?_ | refine num_any ?_ | refine ⟨_, rfl, ?_⟩); conv => whnf) | fail)
  refine Or.inl ?_; (conv => whnf)
  refine congrArg (D.i .i64) ?_
  split <;> omega
theorem nest_at (x : Tr) (hx : x.sz ≤ 1000) : ∃ f, MethC Tryz.prog "reach/expr.nesting" x.ty f ∧ FSpec Tryz.prog T f [.agg x.cs] (fun d _ => d = .i .i64 (x.nest : Nat)) := by
  induction x with
  | leaf p => exact ⟨_, mLeaf, leafN _ p rfl⟩
  | test t => exact ⟨_, mTest, testN t⟩
  | neg x ih =>
    simp only [Tr.sz] at hx
    obtain ⟨fx, mx, sx⟩ := ih (by omega)
    have hn := nest_le x
    refine ⟨_, mNot, ?_⟩
    refine FSpec.of_ok tok Tryz.func217 rfl Tryz.call217 (by simp) ?_
    have hj := joined_at x
    cases hJ : x.isJ
    all_goals
      rw [hJ] at hj
      (try (conv => whnf)); repeat' (first | refine Ok.seq ?_ | refine OkL.cons ?_ | ((first | refine Ok.region tok ?_ | refine Ok.region_draw tok follows (by kernel_rfl) ?_ | refine Ok.cond ?_); conv => whnf) | refine Ok.block ?_ | ((first | refine Ok.skip ?_ | refine Ok.exit ?_ | refine Ok.ret ?_ | refine nI ?_ | refine ix _ (by assumption) ?_ | refine ixI (by omega) (by assumption) ?_ | refine ix_new _ (by omega) fun _ _ => ?_ | refine ixI_new (by omega) (by omega) fun _ _ => ?_ | refine ⟨_, by assumption, ?_⟩); conv => whnf) | (refine Or.inl ?_; (conv => whnf); (repeat (refine aI ?_; conv => whnf)); refine ⟨_, hj, rfl, ?_⟩; conv => whnf) | (refine ⟨_, hj, rfl, ?_⟩; conv => whnf) | (refine Or.inr (Or.inl ?_); (conv => whnf); (repeat (refine aI ?_; conv => whnf)); refine ⟨_, hj, ?_⟩; rintro _ _ ⟨rfl, rfl⟩; conv => whnf) | (refine ⟨_, mx, _, sx, rfl, ?_⟩; conv => whnf) | (refine Or.inl ?_; (conv => whnf); (repeat (refine aI ?_; conv => whnf)); refine ⟨_, mx, _, sx, rfl, ?_⟩; conv => whnf) | ((first | refine Alt2.l (aI ?_) | refine Alt2.r (aI ?_)); conv => whnf) | (refine Ok.scope ?_) | ((first | refine Ok.label ?_ | refine rd rfl (by assumption) ?_ | refine ⟨_, .inl ⟨rfl, rfl⟩, ?_⟩ | refine ⟨_, _, rfl, rfl, ?_⟩); conv => whnf) | (refine ⟨fun _ => ?_, fun _ => ?_⟩ <;> (conv => whnf) <;> (try (exfalso; omega))) | ((first | refine aJ ?_ | refine num_any ?_ | refine ⟨_, rfl, ?_⟩); conv => whnf) | fail)
      all_goals first
        | (rename_i h; cases h; done)
        | (rename_i h; exact absurd rfl h)
        | (refine Or.inl ?_; (conv => whnf)
           show D.i .i64 _ = D.i .i64 ((x.nest + cnt x.isJ + 1 : Nat) : Int)
           rw [hJ]
           refine congrArg (D.i .i64) ?_
           simp only [cnt]
           omega)
        | trace_state
  | and x y ih1 ih2 =>
    simp only [Tr.sz] at hx
    obtain ⟨fx, mx, sx⟩ := ih1 (by omega)
    obtain ⟨fy, my, sy⟩ := ih2 (by omega)
    refine ⟨_, mAnd, ?_⟩
    refine FSpec.of_ok tok Tryz.func223 rfl Tryz.call223 (by simp) ?_
    (try (conv => whnf)); repeat' (first | refine Ok.seq ?_ | refine OkL.cons ?_ | ((first | refine Ok.region tok ?_ | refine Ok.region_draw tok follows (by kernel_rfl) ?_ | refine Ok.cond ?_); conv => whnf) | refine Ok.block ?_ | ((first | refine Ok.skip ?_ | refine Ok.exit ?_ | refine Ok.ret ?_ | refine nI ?_ | refine ix _ (by assumption) ?_ | refine ixI (by omega) (by assumption) ?_ | refine ix_new _ (by omega) fun _ _ => ?_ | refine ixI_new (by omega) (by omega) fun _ _ => ?_ | refine ⟨_, by assumption, ?_⟩); conv => whnf) | (refine Or.inl ?_; (conv => whnf); (repeat (refine aI ?_; conv => whnf)); refine ⟨_, isOr_at x, rfl, ?_⟩; conv => whnf) | (refine Or.inl ?_; (conv => whnf); (repeat (refine aI ?_; conv => whnf)); refine ⟨_, joined_at y, rfl, ?_⟩; conv => whnf) | (refine Or.inl ?_; (conv => whnf); (repeat (refine aI ?_; conv => whnf)); refine ⟨_, count_at x.isO, rfl, ?_⟩; conv => whnf) | (refine Or.inl ?_; (conv => whnf); (repeat (refine aI ?_; conv => whnf)); refine ⟨_, count_at y.isJ, rfl, ?_⟩; conv => whnf) | (refine Or.inl ?_; (conv => whnf); (repeat (refine aI ?_; conv => whnf)); refine ⟨_, deeper_at x y _ _ (cnt_le _) (cnt_le _) (by omega) (by omega) fx fy mx my sx sy, rfl, ?_⟩; conv => whnf) | ((first | refine ⟨_, isOr_at x, rfl, ?_⟩ | refine ⟨_, joined_at y, rfl, ?_⟩ | refine ⟨_, count_at x.isO, rfl, ?_⟩ | refine ⟨_, count_at y.isJ, rfl, ?_⟩ | refine ⟨_, deeper_at x y _ _ (cnt_le _) (cnt_le _) (by omega) (by omega) fx fy mx my sx sy, rfl, ?_⟩); conv => whnf) | (refine Or.inr (Or.inl ?_); (conv => whnf); (repeat (refine aI ?_; conv => whnf)); refine ⟨_, isOr_at x, ?_⟩; rintro _ _ ⟨rfl, rfl⟩; conv => whnf) | (refine Or.inr (Or.inl ?_); (conv => whnf); (repeat (refine aI ?_; conv => whnf)); refine ⟨_, joined_at y, ?_⟩; rintro _ _ ⟨rfl, rfl⟩; conv => whnf) | (refine Or.inr (Or.inl ?_); (conv => whnf); (repeat (refine aI ?_; conv => whnf)); refine ⟨_, count_at x.isO, ?_⟩; rintro _ _ ⟨rfl, rfl⟩; conv => whnf) | (refine Or.inr (Or.inl ?_); (conv => whnf); (repeat (refine aI ?_; conv => whnf)); refine ⟨_, count_at y.isJ, ?_⟩; rintro _ _ ⟨rfl, rfl⟩; conv => whnf) | (refine Or.inr (Or.inl ?_); (conv => whnf); (repeat (refine aI ?_; conv => whnf)); refine ⟨_, deeper_at x y _ _ (cnt_le _) (cnt_le _) (by omega) (by omega) fx fy mx my sx sy, ?_⟩; rintro _ _ ⟨rfl, rfl⟩; conv => whnf) | ((first | refine Alt2.l (aI ?_) | refine Alt2.r (aI ?_)); conv => whnf) | (refine Ok.scope ?_) | ((first | refine Ok.label ?_ | refine rd rfl (by assumption) ?_ | refine ⟨_, .inl ⟨rfl, rfl⟩, ?_⟩ | refine ⟨_, _, rfl, rfl, ?_⟩); conv => whnf) | (refine ⟨fun _ => ?_, fun _ => ?_⟩ <;> (conv => whnf) <;> (try (exfalso; omega))) | ((first | refine aJ ?_ | refine num_any ?_ | refine ⟨_, rfl, ?_⟩); conv => whnf) | fail)
    refine Or.inl ?_; (conv => whnf)
    rfl
  | or x y ih1 ih2 =>
    simp only [Tr.sz] at hx
    obtain ⟨fx, mx, sx⟩ := ih1 (by omega)
    obtain ⟨fy, my, sy⟩ := ih2 (by omega)
    refine ⟨_, mOr, ?_⟩
    refine FSpec.of_ok tok Tryz.func233 rfl Tryz.call233 (by simp) ?_
    (try (conv => whnf)); repeat' (first | refine Ok.seq ?_ | refine OkL.cons ?_ | ((first | refine Ok.region tok ?_ | refine Ok.region_draw tok follows (by kernel_rfl) ?_ | refine Ok.cond ?_); conv => whnf) | refine Ok.block ?_ | ((first | refine Ok.skip ?_ | refine Ok.exit ?_ | refine Ok.ret ?_ | refine nI ?_ | refine ix _ (by assumption) ?_ | refine ixI (by omega) (by assumption) ?_ | refine ix_new _ (by omega) fun _ _ => ?_ | refine ixI_new (by omega) (by omega) fun _ _ => ?_ | refine ⟨_, by assumption, ?_⟩); conv => whnf) | (refine Or.inl ?_; (conv => whnf); (repeat (refine aI ?_; conv => whnf)); refine ⟨_, isOr_at y, rfl, ?_⟩; conv => whnf) | (refine Or.inl ?_; (conv => whnf); (repeat (refine aI ?_; conv => whnf)); refine ⟨_, count_at y.isO, rfl, ?_⟩; conv => whnf) | (refine Or.inl ?_; (conv => whnf); (repeat (refine aI ?_; conv => whnf)); refine ⟨_, deeper_at x y 0 _ (by omega) (cnt_le _) (by omega) (by omega) fx fy mx my sx sy, rfl, ?_⟩; conv => whnf) | ((first | refine ⟨_, isOr_at y, rfl, ?_⟩ | refine ⟨_, count_at y.isO, rfl, ?_⟩ | refine ⟨_, deeper_at x y 0 _ (by omega) (cnt_le _) (by omega) (by omega) fx fy mx my sx sy, rfl, ?_⟩); conv => whnf) | (refine Or.inr (Or.inl ?_); (conv => whnf); (repeat (refine aI ?_; conv => whnf)); refine ⟨_, isOr_at y, ?_⟩; rintro _ _ ⟨rfl, rfl⟩; conv => whnf) | (refine Or.inr (Or.inl ?_); (conv => whnf); (repeat (refine aI ?_; conv => whnf)); refine ⟨_, count_at y.isO, ?_⟩; rintro _ _ ⟨rfl, rfl⟩; conv => whnf) | (refine Or.inr (Or.inl ?_); (conv => whnf); (repeat (refine aI ?_; conv => whnf)); refine ⟨_, deeper_at x y 0 _ (by omega) (cnt_le _) (by omega) (by omega) fx fy mx my sx sy, ?_⟩; rintro _ _ ⟨rfl, rfl⟩; conv => whnf) | ((first | refine Alt2.l (aI ?_) | refine Alt2.r (aI ?_)); conv => whnf) | (refine Ok.scope ?_) | ((first | refine Ok.label ?_ | refine rd rfl (by assumption) ?_ | refine ⟨_, .inl ⟨rfl, rfl⟩, ?_⟩ | refine ⟨_, _, rfl, rfl, ?_⟩); conv => whnf) | (refine ⟨fun _ => ?_, fun _ => ?_⟩ <;> (conv => whnf) <;> (try (exfalso; omega))) | ((first | refine aJ ?_ | refine num_any ?_ | refine ⟨_, rfl, ?_⟩); conv => whnf) | fail)
    refine Or.inl ?_; (conv => whnf)
    rfl
end Go.Proofs.YtagmibogginaaaaGreatDoor
namespace Go.Proofs.YtagmibogginaaaaGreatDoor
open Go Go.Vx Go.Shelf
theorem edrop_at {α : Type} {l : List α} {i : Nat} {x : α} (h : l[i]? = some x) : l.drop i = x :: l.drop (i + 1) := by
  obtain ⟨h1, rfl⟩ := List.getElem?_eq_some_iff.1 h
  exact List.drop_eq_getElem_cons h1
@[reducible] def qrow (x : Tr) : List D := [x.d]
def zT (t : Tst) : Prop := eqDs (tcells t) [.s [], .i .i64 0, .i .i64 0, .i .i64 0, .i .i64 0, .i .i64 0, .s []]
def shapeT (c : Nd) (rs : List Tr) : Option (List Tr) :=
  if c.kind = 1 ∨ c.kind = 2 then some (.leaf (c.kind = 1) :: rs)
  else if c.kind = 3 then some (.test c.t :: rs)
  else if c.kind = 4 then match rs with | x :: r => some (.neg x :: r) | [] => none
  else if c.kind = 5 then match rs with | y :: x :: r => some (.and x y :: r) | _ => none
  else if c.kind = 6 then match rs with | y :: x :: r => some (.or x y :: r) | _ => none
  else none
open Classical in
noncomputable def stepT (c : Nd) (rs : List Tr) : Option (List Tr) := if c.kind ≠ 3 ∧ ¬ zT c.t then none else shapeT c rs
noncomputable def buildR : List Nd → List Tr → Option (List Tr)
  | [], rs => some rs
  | c :: e, rs => match stepT c rs with | some rs' => buildR e rs' | none => none
def oneT : List Tr → Option Tr | [x] => some x | _ => none
noncomputable def bldO (e : List Nd) : Option Tr := (buildR e []).bind oneT
def szs (rs : List Tr) : Nat := (rs.map Tr.sz).sum
theorem shapeT_sz {c : Nd} {rs rs' : List Tr} (h : shapeT c rs = some rs') : szs rs' ≤ szs rs + 1 := by
  unfold shapeT at h
  split at h
  · cases h; simp [szs, Tr.sz]; omega
  split at h
  · cases h; simp [szs, Tr.sz]; omega
  split at h
  · split at h
    · cases h; simp [szs, Tr.sz]; omega
    · cases h
  split at h
  · split at h
    · cases h; simp [szs, Tr.sz]; omega
    · cases h
  split at h
  · split at h
    · cases h; simp [szs, Tr.sz]; omega
    · cases h
  · cases h
theorem buildR_sz : ∀ (e : List Nd) (rs rs' : List Tr), buildR e rs = some rs' → szs rs' ≤ szs rs + e.length
  | [], rs, rs', h => by unfold buildR at h; cases h; simp
  | c :: e, rs, rs', h => by
    unfold buildR at h
    split at h
    · rename_i r1 h1
      have h2 := buildR_sz e _ _ h
      unfold stepT at h1
      split at h1
      · cases h1
      · have := shapeT_sz h1
        simp only [List.length_cons]
        omega
    · cases h
theorem bldO_sz {e : List Nd} {x : Tr} (h : bldO e = some x) : x.sz ≤ e.length := by
  unfold bldO at h
  cases hb : buildR e [] with
  | none => rw [hb] at h; cases h
  | some l =>
    rw [hb] at h
    have := buildR_sz _ _ _ hb
    match l, h with
    | [y], h => cases h; simpa [szs] using this
def bldD : Option Tr → D | some x => .tup [x.d, .b True] | none => .tup [.nilI, .b False]
theorem bad_z {c : Nd} {rs : List Tr} (h : c.kind ≠ 3) (h2 : ¬ zT c.t) : stepT c rs = none := by unfold stepT; rw [if_pos ⟨h, h2⟩]
theorem stepT_ok {c : Nd} {rs : List Tr} (h : ¬ (c.kind ≠ 3 ∧ ¬ zT c.t)) : stepT c rs = shapeT c rs := by unfold stepT; rw [if_neg h]
theorem bld_none {e : List Nd} {c : Nd} {r : List Nd} {rs : List Tr} (h : buildR e [] = buildR (c :: r) rs) (hs : stepT c rs = none) : bldO e = none := by
  have h2 : buildR (c :: r) rs = none := by unfold buildR; rw [hs]
  unfold bldO
  rw [h, h2]
  rfl
theorem bld_step {e : List Nd} {c : Nd} {r : List Nd} {rs rs' : List Tr} (h : buildR e [] = buildR (c :: r) rs) (hs : stepT c rs = some rs') : buildR e [] = buildR r rs' := by
  rw [h]
  conv => lhs; unfold buildR
  rw [hs]
theorem push_nil (rs : List Tr) (x : Tr) : ((rs.reverse ++ []).map qrow) ++ [qrow x] = ((x :: rs).reverse ++ []).map qrow := by simp
theorem push_cons (rs : List Tr) (x y : Tr) (j : List Tr) : ((rs.reverse ++ y :: j).map qrow).set rs.length (qrow x) = ((x :: rs).reverse ++ j).map qrow := by
  rw [List.map_append, List.set_append_right _ _ (by simp)]
  simp
theorem pile_top (x : Tr) (r j : List Tr) : ((x :: r).reverse ++ j)[r.length]? = some x := by simp
theorem pile_top2 (x y : Tr) (r j : List Tr) : ((y :: x :: r).reverse ++ j)[r.length]? = some x := by simp
theorem set_top (x x' : Tr) (r j : List Tr) : ((x :: r).reverse ++ j).set r.length x' = (x' :: r).reverse ++ j := by simp
theorem set_top2 (x y x' : Tr) (r j : List Tr) : ((y :: x :: r).reverse ++ j).set r.length x' = (x' :: r).reverse ++ (y :: j) := by simp
theorem sh12 {c : Nd} {rs : List Tr} (h : c.kind = 1 ∨ c.kind = 2) : shapeT c rs = some (.leaf (c.kind = 1) :: rs) := by unfold shapeT; rw [if_pos h]
theorem sh3 {c : Nd} {rs : List Tr} (h : c.kind = 3) : shapeT c rs = some (.test c.t :: rs) := by unfold shapeT; rw [if_neg (by omega), if_pos h]
theorem sh4 {c : Nd} {rs : List Tr} (h : c.kind = 4) : shapeT c rs = match rs with | x :: r => some (.neg x :: r) | [] => none := by unfold shapeT; rw [if_neg (by omega), if_neg (by omega), if_pos h]
theorem sh5 {c : Nd} {rs : List Tr} (h : c.kind = 5) : shapeT c rs = match rs with | y :: x :: r => some (.and x y :: r) | _ => none := by unfold shapeT; rw [if_neg (by omega), if_neg (by omega), if_neg (by omega), if_pos h]
theorem sh6 {c : Nd} {rs : List Tr} (h : c.kind = 6) : shapeT c rs = match rs with | y :: x :: r => some (.or x y :: r) | _ => none := by unfold shapeT; rw [if_neg (by omega), if_neg (by omega), if_neg (by omega), if_neg (by omega), if_pos h]
theorem sh0 {c : Nd} {rs : List Tr} (h : c.kind < 1 ∨ 6 < c.kind) : shapeT c rs = none := by unfold shapeT; rw [if_neg (by omega), if_neg (by omega), if_neg (by omega), if_neg (by omega), if_neg (by omega)]
theorem bld_end {e : List Nd} {rs : List Tr} (h : buildR e [] = buildR [] rs) : bldO e = oneT rs := by
  have h2 : buildR e [] = some rs := h.trans (by unfold buildR; rfl)
  unfold bldO
  rw [h2]
  rfl
set_option maxHeartbeats 16000000 in
theorem build_at (e : List Nd) (r1 : List (List D)) (hl : e.length ≤ 1000) : FSpec Tryz.prog T 38 [.lst 56 (e.map nrow) r1] (fun d _ => d = bldD (bldO e)) := by
  have h1 : (e.map nrow).length = e.length := by simp
  refine FSpec.of_ok tok Tryz.func38 rfl Tryz.call38 (by simp) ?_
  (try (conv => whnf)); repeat' (first | refine Ok.seq ?_ | refine OkL.cons ?_ | ((first | refine Ok.region tok ?_ | refine Ok.region_plan (id := 23) tok follows [(4, 11, []), (8, 11, []), (10, 11, [])] [.q 0, .q 1, .q 2, .q 3, .q 4, .q 5, .q 6, .q 7, .q 8, .q 9, .l 10, .l 11] (by kernel_rfl) ?_ | refine Ok.region_draw tok follows (by kernel_rfl) ?_ | refine Ok.cond ?_); conv => whnf) | refine Ok.block ?_ | ((first | refine Ok.skip ?_ | refine Ok.exit ?_ | refine Ok.ret ?_ | refine nI ?_ | refine ix _ (by assumption) ?_ | refine ixI (by omega) (by assumption) ?_ | refine ix_new _ (by omega) fun _ _ => ?_ | refine ixI_new (by omega) (by omega) fun _ _ => ?_ | refine ⟨_, by assumption, ?_⟩ | refine Alt2.l (aI ?_) | refine Alt2.r (aI ?_)); conv => whnf) | (refine Ok.scope ?_) | ((first | refine Ok.label ?_ | refine rd rfl (by assumption) ?_ | refine ⟨_, .inl ⟨rfl, rfl⟩, ?_⟩ | refine ⟨_, _, rfl, rfl, ?_⟩); conv => whnf) | (refine ⟨fun _ => ?_, fun _ => ?_⟩ <;> (conv => whnf) <;> (try (exfalso; omega))) | ((first | refine aJ ?_ | refine num_any ?_ | refine ⟨_, rfl, ?_⟩); conv => whnf) | fail)
  refine Ok.ghost 4 58 rfl ?_
  (conv => whnf)
  refine Ok.loopU [9, 10] [4, 11] 1 0 (fun (x : Nat × Nat × List Tr × List Tr) => [.own 0 x.2.1, .i .i64 (x.1 : Nat)]) (fun _ b => b) (fun (x : Nat × Nat × List Tr × List Tr) (_ : Vx.Rows) => [some (58, (x.2.2.1.reverse ++ x.2.2.2).map qrow)]) (fun (x : Nat × Nat × List Tr × List Tr) => x.1 ≤ e.length ∧ x.2.2.1.length = x.2.1 ∧ x.2.1 + x.2.2.2.length ≤ x.1 ∧ buildR e [] = buildR (e.drop x.1) x.2.2.1) (fun (x : Nat × Nat × List Tr × List Tr) => e.length - x.1) ((0, 0, [], [])) (⟨Nat.zero_le _, rfl, Nat.le_refl _, rfl⟩) ?_; (conv => whnf); refine ⟨by ((conv => whnf); first | rfl | (simp [envCat, List.take_of_length_le, nrow, frow, tcells, qrow]; done) | (simp [envCat, List.take_of_length_le, nrow, frow, tcells, qrow]; rw [IntKind.wrap_i64]; omega)), ?_⟩
  rintro ⟨i, n, rs, j⟩ ⟨hi, hn, hj, hb⟩
  dsimp only at hi hn hj hb ⊢
  have hlm : ((rs.reverse ++ j).map qrow).length = n + j.length := by simp [hn]
  (conv => whnf)
  by_cases hil : i < e.length
  · obtain ⟨c, hc⟩ : ∃ c, e[i]? = some c := ⟨_, List.getElem?_eq_getElem hil⟩
    have hcI : e[((i : Nat) : Int).toNat]? = some c := hc
    rw [edrop_at hc] at hb
    by_cases hz : c.kind ≠ 3 ∧ ¬ zT c.t
    · rw [bld_none hb (bad_z hz.1 hz.2)]
      have hz1 := hz.1
      have hz2 := hz.2
      (try (conv => whnf)); repeat' (first | (refine ⟨_, eqTest, by kernel_rfl, ?_⟩; (conv => whnf)) | (refine ⟨fun _ => ?_, fun h => absurd (Classical.not_not.1 h) hz2⟩; (conv => whnf)) | refine Ok.seq ?_ | refine OkL.cons ?_ | ((first | refine Ok.region tok ?_ | refine Ok.region_plan (id := 23) tok follows [(4, 11, []), (8, 11, []), (10, 11, [])] [.q 0, .q 1, .q 2, .q 3, .q 4, .q 5, .q 6, .q 7, .q 8, .q 9, .l 10, .l 11] (by kernel_rfl) ?_ | refine Ok.region_draw tok follows (by kernel_rfl) ?_ | refine Ok.cond ?_); conv => whnf) | refine Ok.block ?_ | ((first | refine Ok.skip ?_ | refine Ok.exit ?_ | refine Ok.ret ?_ | refine nI ?_ | refine ix _ (by assumption) ?_ | refine ixI (by omega) (by assumption) ?_ | refine ix_new _ (by omega) fun _ _ => ?_ | refine ixI_new (by omega) (by omega) fun _ _ => ?_ | refine ⟨_, by assumption, ?_⟩ | refine Alt2.l (aI ?_) | refine Alt2.r (aI ?_)); conv => whnf) | (refine Ok.scope ?_) | ((first | refine Ok.label ?_ | refine rd rfl (by assumption) ?_ | refine ⟨_, .inl ⟨rfl, rfl⟩, ?_⟩ | refine ⟨_, _, rfl, rfl, ?_⟩); conv => whnf) | (refine ⟨fun _ => ?_, fun _ => ?_⟩ <;> (conv => whnf) <;> (try (exfalso; omega))) | ((first | refine aJ ?_ | refine num_any ?_ | refine ⟨_, rfl, ?_⟩); conv => whnf) | fail)
      all_goals first
        | (exfalso; omega)
        | (refine Or.inl ?_; (conv => whnf)
           rfl)
        | trace_state
    · have hst := stepT_ok (rs := rs) hz
      have hz3 : c.kind = 3 ∨ zT c.t := by
        by_cases h : c.kind = 3
        · exact .inl h
        · exact .inr (Classical.byContradiction fun h2 => hz ⟨h, h2⟩)
      by_cases hk3 : c.kind = 3
      · have hb2 := bld_step hb (hst.trans (sh3 hk3))
        cases j with
        | nil =>
          simp only [List.length_nil, Nat.add_zero] at hj hlm
          (try (conv => whnf)); repeat' (first | (refine And.intro ⟨by kernel_rfl⟩ ?_; (conv => whnf)) | refine Ok.seq ?_ | refine OkL.cons ?_ | ((first | refine Ok.region tok ?_ | refine Ok.region_plan (id := 23) tok follows [(4, 11, []), (8, 11, []), (10, 11, [])] [.q 0, .q 1, .q 2, .q 3, .q 4, .q 5, .q 6, .q 7, .q 8, .q 9, .l 10, .l 11] (by kernel_rfl) ?_ | refine Ok.region_draw tok follows (by kernel_rfl) ?_ | refine Ok.cond ?_); conv => whnf) | refine Ok.block ?_ | ((first | refine Ok.skip ?_ | refine Ok.exit ?_ | refine Ok.ret ?_ | refine nI ?_ | refine ix _ (by assumption) ?_ | refine ixI (by omega) (by assumption) ?_ | refine ix_new _ (by omega) fun _ _ => ?_ | refine ixI_new (by omega) (by omega) fun _ _ => ?_ | refine ⟨_, by assumption, ?_⟩ | refine Alt2.l (aI ?_) | refine Alt2.r (aI ?_)); conv => whnf) | (refine Ok.scope ?_) | ((first | refine Ok.label ?_ | refine rd rfl (by assumption) ?_ | refine ⟨_, .inl ⟨rfl, rfl⟩, ?_⟩ | refine ⟨_, _, rfl, rfl, ?_⟩); conv => whnf) | (refine ⟨fun _ => ?_, fun _ => ?_⟩ <;> (conv => whnf) <;> (try (exfalso; omega))) | ((first | refine aJ ?_ | refine num_any ?_ | refine ⟨_, rfl, ?_⟩); conv => whnf) | fail)
          all_goals first
            | (exfalso; omega)
            | skip
          all_goals
            refine ⟨(i + 1, n + 1, Tr.test c.t :: rs, []), by dsimp only; omega, ⟨by dsimp only; omega, by simp [hn], by simp; omega, hb2⟩, ?_⟩
            rw [← push_nil]
            (conv => whnf)
            simp [envCat, hn]
            try exact ⟨rfl, rfl⟩
        | cons y j =>
          simp only [List.length_cons] at hj hlm
          (try (conv => whnf)); repeat' (first | (refine And.intro ⟨by kernel_rfl⟩ ?_; (conv => whnf)) | refine Ok.seq ?_ | refine OkL.cons ?_ | ((first | refine Ok.region tok ?_ | refine Ok.region_plan (id := 23) tok follows [(4, 11, []), (8, 11, []), (10, 11, [])] [.q 0, .q 1, .q 2, .q 3, .q 4, .q 5, .q 6, .q 7, .q 8, .q 9, .l 10, .l 11] (by kernel_rfl) ?_ | refine Ok.region_draw tok follows (by kernel_rfl) ?_ | refine Ok.cond ?_); conv => whnf) | refine Ok.block ?_ | ((first | refine Ok.skip ?_ | refine Ok.exit ?_ | refine Ok.ret ?_ | refine nI ?_ | refine ix _ (by assumption) ?_ | refine ixI (by omega) (by assumption) ?_ | refine ix_new _ (by omega) fun _ _ => ?_ | refine ixI_new (by omega) (by omega) fun _ _ => ?_ | refine ⟨_, by assumption, ?_⟩ | refine Alt2.l (aI ?_) | refine Alt2.r (aI ?_)); conv => whnf) | (refine Ok.scope ?_) | ((first | refine Ok.label ?_ | refine rd rfl (by assumption) ?_ | refine ⟨_, .inl ⟨rfl, rfl⟩, ?_⟩ | refine ⟨_, _, rfl, rfl, ?_⟩); conv => whnf) | (refine ⟨fun _ => ?_, fun _ => ?_⟩ <;> (conv => whnf) <;> (try (exfalso; omega))) | ((first | refine aJ ?_ | refine num_any ?_ | refine ⟨_, rfl, ?_⟩); conv => whnf) | fail)
          all_goals first
            | (exfalso; omega)
            | skip
          all_goals
            refine ⟨(i + 1, n + 1, Tr.test c.t :: rs, j), by dsimp only; omega, ⟨by dsimp only; omega, by simp [hn], by simp; omega, hb2⟩, ?_⟩
            rw [← push_cons rs _ y j, hn]
            (conv => whnf)
            simp [envCat]
            try rfl
      have hz4 : zT c.t := hz3.resolve_left hk3
      by_cases hk1 : c.kind = 1 ∨ c.kind = 2
      · have hb2 := bld_step hb (hst.trans (sh12 hk1))
        cases j with
        | nil =>
          simp only [List.length_nil, Nat.add_zero] at hj hlm
          (try (conv => whnf)); repeat' (first | (refine ⟨_, eqTest, by kernel_rfl, ?_⟩; (conv => whnf)) | (refine ⟨fun h => absurd hz4 h, fun _ => ?_⟩; (conv => whnf)) | (refine And.intro ⟨by kernel_rfl⟩ ?_; (conv => whnf)) | refine Ok.seq ?_ | refine OkL.cons ?_ | ((first | refine Ok.region tok ?_ | refine Ok.region_plan (id := 23) tok follows [(4, 11, []), (8, 11, []), (10, 11, [])] [.q 0, .q 1, .q 2, .q 3, .q 4, .q 5, .q 6, .q 7, .q 8, .q 9, .l 10, .l 11] (by kernel_rfl) ?_ | refine Ok.region_draw tok follows (by kernel_rfl) ?_ | refine Ok.cond ?_); conv => whnf) | refine Ok.block ?_ | ((first | refine Ok.skip ?_ | refine Ok.exit ?_ | refine Ok.ret ?_ | refine nI ?_ | refine ix _ (by assumption) ?_ | refine ixI (by omega) (by assumption) ?_ | refine ix_new _ (by omega) fun _ _ => ?_ | refine ixI_new (by omega) (by omega) fun _ _ => ?_ | refine ⟨_, by assumption, ?_⟩ | refine Alt2.l (aI ?_) | refine Alt2.r (aI ?_)); conv => whnf) | (refine Ok.scope ?_) | ((first | refine Ok.label ?_ | refine rd rfl (by assumption) ?_ | refine ⟨_, .inl ⟨rfl, rfl⟩, ?_⟩ | refine ⟨_, _, rfl, rfl, ?_⟩); conv => whnf) | (refine ⟨fun _ => ?_, fun _ => ?_⟩ <;> (conv => whnf) <;> (try (exfalso; omega))) | ((first | refine aJ ?_ | refine num_any ?_ | refine ⟨_, rfl, ?_⟩); conv => whnf) | fail)
          all_goals first
            | (exfalso; omega)
            | skip
          all_goals
            refine ⟨(i + 1, n + 1, Tr.leaf (c.kind = 1) :: rs, []), by dsimp only; omega, ⟨by dsimp only; omega, by simp [hn], by simp; omega, hb2⟩, ?_⟩
            rw [← push_nil]
            (conv => whnf)
            simp [envCat, hn]
            try exact ⟨rfl, rfl⟩
        | cons y j =>
          simp only [List.length_cons] at hj hlm
          (try (conv => whnf)); repeat' (first | (refine ⟨_, eqTest, by kernel_rfl, ?_⟩; (conv => whnf)) | (refine ⟨fun h => absurd hz4 h, fun _ => ?_⟩; (conv => whnf)) | (refine And.intro ⟨by kernel_rfl⟩ ?_; (conv => whnf)) | refine Ok.seq ?_ | refine OkL.cons ?_ | ((first | refine Ok.region tok ?_ | refine Ok.region_plan (id := 23) tok follows [(4, 11, []), (8, 11, []), (10, 11, [])] [.q 0, .q 1, .q 2, .q 3, .q 4, .q 5, .q 6, .q 7, .q 8, .q 9, .l 10, .l 11] (by kernel_rfl) ?_ | refine Ok.region_draw tok follows (by kernel_rfl) ?_ | refine Ok.cond ?_); conv => whnf) | refine Ok.block ?_ | ((first | refine Ok.skip ?_ | refine Ok.exit ?_ | refine Ok.ret ?_ | refine nI ?_ | refine ix _ (by assumption) ?_ | refine ixI (by omega) (by assumption) ?_ | refine ix_new _ (by omega) fun _ _ => ?_ | refine ixI_new (by omega) (by omega) fun _ _ => ?_ | refine ⟨_, by assumption, ?_⟩ | refine Alt2.l (aI ?_) | refine Alt2.r (aI ?_)); conv => whnf) | (refine Ok.scope ?_) | ((first | refine Ok.label ?_ | refine rd rfl (by assumption) ?_ | refine ⟨_, .inl ⟨rfl, rfl⟩, ?_⟩ | refine ⟨_, _, rfl, rfl, ?_⟩); conv => whnf) | (refine ⟨fun _ => ?_, fun _ => ?_⟩ <;> (conv => whnf) <;> (try (exfalso; omega))) | ((first | refine aJ ?_ | refine num_any ?_ | refine ⟨_, rfl, ?_⟩); conv => whnf) | fail)
          all_goals first
            | (exfalso; omega)
            | skip
          all_goals
            refine ⟨(i + 1, n + 1, Tr.leaf (c.kind = 1) :: rs, j), by dsimp only; omega, ⟨by dsimp only; omega, by simp [hn], by simp; omega, hb2⟩, ?_⟩
            rw [← push_cons rs _ y j, hn]
            (conv => whnf)
            simp [envCat]
            try rfl
      by_cases hk4 : c.kind = 4
      · match rs, hn with
        | [], hn =>
          simp only [List.length_nil] at hn
          subst hn
          rw [bld_none hb (hst.trans (sh4 hk4))]
          (try (conv => whnf)); repeat' (first | (refine ⟨_, eqTest, by kernel_rfl, ?_⟩; (conv => whnf)) | (refine ⟨fun h => absurd hz4 h, fun _ => ?_⟩; (conv => whnf)) | (refine And.intro ⟨by kernel_rfl⟩ ?_; (conv => whnf)) | refine Ok.seq ?_ | refine OkL.cons ?_ | ((first | refine Ok.region tok ?_ | refine Ok.region_plan (id := 23) tok follows [(4, 11, []), (8, 11, []), (10, 11, [])] [.q 0, .q 1, .q 2, .q 3, .q 4, .q 5, .q 6, .q 7, .q 8, .q 9, .l 10, .l 11] (by kernel_rfl) ?_ | refine Ok.region_draw tok follows (by kernel_rfl) ?_ | refine Ok.cond ?_); conv => whnf) | refine Ok.block ?_ | ((first | refine Ok.skip ?_ | refine Ok.exit ?_ | refine Ok.ret ?_ | refine nI ?_ | refine ix _ (by assumption) ?_ | refine ixI (by omega) (by assumption) ?_ | refine ix_new _ (by omega) fun _ _ => ?_ | refine ixI_new (by omega) (by omega) fun _ _ => ?_ | refine ⟨_, by assumption, ?_⟩ | refine Alt2.l (aI ?_) | refine Alt2.r (aI ?_)); conv => whnf) | (refine Ok.scope ?_) | ((first | refine Ok.label ?_ | refine rd rfl (by assumption) ?_ | refine ⟨_, .inl ⟨rfl, rfl⟩, ?_⟩ | refine ⟨_, _, rfl, rfl, ?_⟩); conv => whnf) | (refine ⟨fun _ => ?_, fun _ => ?_⟩ <;> (conv => whnf) <;> (try (exfalso; omega))) | ((first | refine aJ ?_ | refine num_any ?_ | refine ⟨_, rfl, ?_⟩); conv => whnf) | fail)
          all_goals first
            | (exfalso; omega)
            | (refine Or.inl ?_; (conv => whnf)
               rfl)
            | trace_state
        | x :: r, hn =>
          simp only [List.length_cons] at hn
          obtain ⟨m, rfl⟩ : ∃ m, n = m + 1 := ⟨n - 1, by omega⟩
          have hm : r.length = m := by omega
          have hb2 := bld_step hb (hst.trans (sh4 hk4))
          have hmI : (((m + 1 : Nat) : Int) - 1).toNat = m := by omega
          have hg1 : ((x :: r).reverse ++ j)[(((m + 1 : Nat) : Int) - 1).toNat]? = some x := by rw [hmI, ← hm]; exact pile_top x r j
          (try (conv => whnf)); repeat' (first | (refine ⟨_, eqTest, by kernel_rfl, ?_⟩; (conv => whnf)) | (refine ⟨fun h => absurd hz4 h, fun _ => ?_⟩; (conv => whnf)) | (refine And.intro ⟨by kernel_rfl⟩ ?_; (conv => whnf)) | (refine rd rfl hg1 ?_; (conv => whnf)) | (refine st (Tr.neg x) hg1 (by simp) rfl ?_; (conv => whnf)) | refine Ok.seq ?_ | refine OkL.cons ?_ | ((first | refine Ok.region tok ?_ | refine Ok.region_plan (id := 23) tok follows [(4, 11, []), (8, 11, []), (10, 11, [])] [.q 0, .q 1, .q 2, .q 3, .q 4, .q 5, .q 6, .q 7, .q 8, .q 9, .l 10, .l 11] (by kernel_rfl) ?_ | refine Ok.region_draw tok follows (by kernel_rfl) ?_ | refine Ok.cond ?_); conv => whnf) | refine Ok.block ?_ | ((first | refine Ok.skip ?_ | refine Ok.exit ?_ | refine Ok.ret ?_ | refine nI ?_ | refine ix _ (by assumption) ?_ | refine ixI (by omega) (by assumption) ?_ | refine ix_new _ (by omega) fun _ _ => ?_ | refine ixI_new (by omega) (by omega) fun _ _ => ?_ | refine ⟨_, by assumption, ?_⟩ | refine Alt2.l (aI ?_) | refine Alt2.r (aI ?_)); conv => whnf) | (refine Ok.scope ?_) | ((first | refine Ok.label ?_ | refine rd rfl (by assumption) ?_ | refine ⟨_, .inl ⟨rfl, rfl⟩, ?_⟩ | refine ⟨_, _, rfl, rfl, ?_⟩); conv => whnf) | (refine ⟨fun _ => ?_, fun _ => ?_⟩ <;> (conv => whnf) <;> (try (exfalso; omega))) | ((first | refine aJ ?_ | refine num_any ?_ | refine ⟨_, rfl, ?_⟩); conv => whnf) | fail)
          all_goals first
            | (exfalso; omega)
            | skip
          all_goals
            refine ⟨(i + 1, m + 1, Tr.neg x :: r, j), by dsimp only; omega, ⟨by dsimp only; omega, by simp [hm], by dsimp only; omega, hb2⟩, ?_⟩
            rw [hmI, ← hm, set_top]
            (conv => whnf)
            rfl
      by_cases hk5 : c.kind = 5
      · match rs, hn with
        | [], hn =>
          simp only [List.length_nil] at hn
          subst hn
          rw [bld_none hb (hst.trans (sh5 hk5))]
          (try (conv => whnf)); repeat' (first | (refine ⟨_, eqTest, by kernel_rfl, ?_⟩; (conv => whnf)) | (refine ⟨fun h => absurd hz4 h, fun _ => ?_⟩; (conv => whnf)) | (refine And.intro ⟨by kernel_rfl⟩ ?_; (conv => whnf)) | refine Ok.seq ?_ | refine OkL.cons ?_ | ((first | refine Ok.region tok ?_ | refine Ok.region_plan (id := 23) tok follows [(4, 11, []), (8, 11, []), (10, 11, [])] [.q 0, .q 1, .q 2, .q 3, .q 4, .q 5, .q 6, .q 7, .q 8, .q 9, .l 10, .l 11] (by kernel_rfl) ?_ | refine Ok.region_draw tok follows (by kernel_rfl) ?_ | refine Ok.cond ?_); conv => whnf) | refine Ok.block ?_ | ((first | refine Ok.skip ?_ | refine Ok.exit ?_ | refine Ok.ret ?_ | refine nI ?_ | refine ix _ (by assumption) ?_ | refine ixI (by omega) (by assumption) ?_ | refine ix_new _ (by omega) fun _ _ => ?_ | refine ixI_new (by omega) (by omega) fun _ _ => ?_ | refine ⟨_, by assumption, ?_⟩ | refine Alt2.l (aI ?_) | refine Alt2.r (aI ?_)); conv => whnf) | (refine Ok.scope ?_) | ((first | refine Ok.label ?_ | refine rd rfl (by assumption) ?_ | refine ⟨_, .inl ⟨rfl, rfl⟩, ?_⟩ | refine ⟨_, _, rfl, rfl, ?_⟩); conv => whnf) | (refine ⟨fun _ => ?_, fun _ => ?_⟩ <;> (conv => whnf) <;> (try (exfalso; omega))) | ((first | refine aJ ?_ | refine num_any ?_ | refine ⟨_, rfl, ?_⟩); conv => whnf) | fail)
          all_goals first
            | (exfalso; omega)
            | (refine Or.inl ?_; (conv => whnf)
               rfl)
            | trace_state
        | [y], hn =>
          simp only [List.length_cons, List.length_nil] at hn
          subst hn
          rw [bld_none hb (hst.trans (sh5 hk5))]
          (try (conv => whnf)); repeat' (first | (refine ⟨_, eqTest, by kernel_rfl, ?_⟩; (conv => whnf)) | (refine ⟨fun h => absurd hz4 h, fun _ => ?_⟩; (conv => whnf)) | (refine And.intro ⟨by kernel_rfl⟩ ?_; (conv => whnf)) | refine Ok.seq ?_ | refine OkL.cons ?_ | ((first | refine Ok.region tok ?_ | refine Ok.region_plan (id := 23) tok follows [(4, 11, []), (8, 11, []), (10, 11, [])] [.q 0, .q 1, .q 2, .q 3, .q 4, .q 5, .q 6, .q 7, .q 8, .q 9, .l 10, .l 11] (by kernel_rfl) ?_ | refine Ok.region_draw tok follows (by kernel_rfl) ?_ | refine Ok.cond ?_); conv => whnf) | refine Ok.block ?_ | ((first | refine Ok.skip ?_ | refine Ok.exit ?_ | refine Ok.ret ?_ | refine nI ?_ | refine ix _ (by assumption) ?_ | refine ixI (by omega) (by assumption) ?_ | refine ix_new _ (by omega) fun _ _ => ?_ | refine ixI_new (by omega) (by omega) fun _ _ => ?_ | refine ⟨_, by assumption, ?_⟩ | refine Alt2.l (aI ?_) | refine Alt2.r (aI ?_)); conv => whnf) | (refine Ok.scope ?_) | ((first | refine Ok.label ?_ | refine rd rfl (by assumption) ?_ | refine ⟨_, .inl ⟨rfl, rfl⟩, ?_⟩ | refine ⟨_, _, rfl, rfl, ?_⟩); conv => whnf) | (refine ⟨fun _ => ?_, fun _ => ?_⟩ <;> (conv => whnf) <;> (try (exfalso; omega))) | ((first | refine aJ ?_ | refine num_any ?_ | refine ⟨_, rfl, ?_⟩); conv => whnf) | fail)
          all_goals first
            | (exfalso; omega)
            | (refine Or.inl ?_; (conv => whnf)
               rfl)
            | trace_state
        | y :: x :: r, hn =>
          simp only [List.length_cons] at hn
          obtain ⟨m, rfl⟩ : ∃ m, n = m + 2 := ⟨n - 2, by omega⟩
          have hm : r.length = m := by omega
          have hb2 := bld_step hb (hst.trans (sh5 hk5))
          have hmI : (((m + 2 : Nat) : Int) - 1).toNat = m + 1 := by omega
          have hmJ : (((m + 2 : Nat) : Int) - 1 - 1).toNat = m := by omega
          have hg1 : ((y :: x :: r).reverse ++ j)[(((m + 2 : Nat) : Int) - 1).toNat]? = some y := by rw [hmI, ← hm]; exact pile_top y (x :: r) j
          have hg2 : ((y :: x :: r).reverse ++ j)[(((m + 2 : Nat) : Int) - 1 - 1).toNat]? = some x := by rw [hmJ, ← hm]; exact pile_top2 x y r j
          (try (conv => whnf)); repeat' (first | (refine ⟨_, eqTest, by kernel_rfl, ?_⟩; (conv => whnf)) | (refine ⟨fun h => absurd hz4 h, fun _ => ?_⟩; (conv => whnf)) | (refine And.intro ⟨by kernel_rfl⟩ ?_; (conv => whnf)) | (refine rd rfl hg1 ?_; (conv => whnf)) | (refine rd rfl hg2 ?_; (conv => whnf)) | (refine st (Tr.and x y) hg2 (by simp) rfl ?_; (conv => whnf)) | (refine ⟨m + 1, rfl, (by show ((m + 2 : Nat) : Int) - 1 = ((m + 1 : Nat) : Int); omega), (by omega), ?_⟩; (conv => whnf)) | refine Ok.seq ?_ | refine OkL.cons ?_ | ((first | refine Ok.region tok ?_ | refine Ok.region_plan (id := 23) tok follows [(4, 11, []), (8, 11, []), (10, 11, [])] [.q 0, .q 1, .q 2, .q 3, .q 4, .q 5, .q 6, .q 7, .q 8, .q 9, .l 10, .l 11] (by kernel_rfl) ?_ | refine Ok.region_draw tok follows (by kernel_rfl) ?_ | refine Ok.cond ?_); conv => whnf) | refine Ok.block ?_ | ((first | refine Ok.skip ?_ | refine Ok.exit ?_ | refine Ok.ret ?_ | refine nI ?_ | refine ix _ (by assumption) ?_ | refine ixI (by omega) (by assumption) ?_ | refine ix_new _ (by omega) fun _ _ => ?_ | refine ixI_new (by omega) (by omega) fun _ _ => ?_ | refine ⟨_, by assumption, ?_⟩ | refine Alt2.l (aI ?_) | refine Alt2.r (aI ?_)); conv => whnf) | (refine Ok.scope ?_) | ((first | refine Ok.label ?_ | refine rd rfl (by assumption) ?_ | refine ⟨_, .inl ⟨rfl, rfl⟩, ?_⟩ | refine ⟨_, _, rfl, rfl, ?_⟩); conv => whnf) | (refine ⟨fun _ => ?_, fun _ => ?_⟩ <;> (conv => whnf) <;> (try (exfalso; omega))) | ((first | refine aJ ?_ | refine num_any ?_ | refine ⟨_, rfl, ?_⟩); conv => whnf) | fail)
          all_goals first
            | (exfalso; omega)
            | skip
          all_goals
            refine ⟨(i + 1, m + 1, Tr.and x y :: r, y :: j), by dsimp only; omega, ⟨by dsimp only; omega, by simp [hm], by simp; omega, hb2⟩, ?_⟩
            rw [hmJ, ← hm, set_top2]
            (conv => whnf)
            rfl
      by_cases hk6 : c.kind = 6
      · match rs, hn with
        | [], hn =>
          simp only [List.length_nil] at hn
          subst hn
          rw [bld_none hb (hst.trans (sh6 hk6))]
          (try (conv => whnf)); repeat' (first | (refine ⟨_, eqTest, by kernel_rfl, ?_⟩; (conv => whnf)) | (refine ⟨fun h => absurd hz4 h, fun _ => ?_⟩; (conv => whnf)) | (refine And.intro ⟨by kernel_rfl⟩ ?_; (conv => whnf)) | refine Ok.seq ?_ | refine OkL.cons ?_ | ((first | refine Ok.region tok ?_ | refine Ok.region_plan (id := 23) tok follows [(4, 11, []), (8, 11, []), (10, 11, [])] [.q 0, .q 1, .q 2, .q 3, .q 4, .q 5, .q 6, .q 7, .q 8, .q 9, .l 10, .l 11] (by kernel_rfl) ?_ | refine Ok.region_draw tok follows (by kernel_rfl) ?_ | refine Ok.cond ?_); conv => whnf) | refine Ok.block ?_ | ((first | refine Ok.skip ?_ | refine Ok.exit ?_ | refine Ok.ret ?_ | refine nI ?_ | refine ix _ (by assumption) ?_ | refine ixI (by omega) (by assumption) ?_ | refine ix_new _ (by omega) fun _ _ => ?_ | refine ixI_new (by omega) (by omega) fun _ _ => ?_ | refine ⟨_, by assumption, ?_⟩ | refine Alt2.l (aI ?_) | refine Alt2.r (aI ?_)); conv => whnf) | (refine Ok.scope ?_) | ((first | refine Ok.label ?_ | refine rd rfl (by assumption) ?_ | refine ⟨_, .inl ⟨rfl, rfl⟩, ?_⟩ | refine ⟨_, _, rfl, rfl, ?_⟩); conv => whnf) | (refine ⟨fun _ => ?_, fun _ => ?_⟩ <;> (conv => whnf) <;> (try (exfalso; omega))) | ((first | refine aJ ?_ | refine num_any ?_ | refine ⟨_, rfl, ?_⟩); conv => whnf) | fail)
          all_goals first
            | (exfalso; omega)
            | (refine Or.inl ?_; (conv => whnf)
               rfl)
            | trace_state
        | [y], hn =>
          simp only [List.length_cons, List.length_nil] at hn
          subst hn
          rw [bld_none hb (hst.trans (sh6 hk6))]
          (try (conv => whnf)); repeat' (first | (refine ⟨_, eqTest, by kernel_rfl, ?_⟩; (conv => whnf)) | (refine ⟨fun h => absurd hz4 h, fun _ => ?_⟩; (conv => whnf)) | (refine And.intro ⟨by kernel_rfl⟩ ?_; (conv => whnf)) | refine Ok.seq ?_ | refine OkL.cons ?_ | ((first | refine Ok.region tok ?_ | refine Ok.region_plan (id := 23) tok follows [(4, 11, []), (8, 11, []), (10, 11, [])] [.q 0, .q 1, .q 2, .q 3, .q 4, .q 5, .q 6, .q 7, .q 8, .q 9, .l 10, .l 11] (by kernel_rfl) ?_ | refine Ok.region_draw tok follows (by kernel_rfl) ?_ | refine Ok.cond ?_); conv => whnf) | refine Ok.block ?_ | ((first | refine Ok.skip ?_ | refine Ok.exit ?_ | refine Ok.ret ?_ | refine nI ?_ | refine ix _ (by assumption) ?_ | refine ixI (by omega) (by assumption) ?_ | refine ix_new _ (by omega) fun _ _ => ?_ | refine ixI_new (by omega) (by omega) fun _ _ => ?_ | refine ⟨_, by assumption, ?_⟩ | refine Alt2.l (aI ?_) | refine Alt2.r (aI ?_)); conv => whnf) | (refine Ok.scope ?_) | ((first | refine Ok.label ?_ | refine rd rfl (by assumption) ?_ | refine ⟨_, .inl ⟨rfl, rfl⟩, ?_⟩ | refine ⟨_, _, rfl, rfl, ?_⟩); conv => whnf) | (refine ⟨fun _ => ?_, fun _ => ?_⟩ <;> (conv => whnf) <;> (try (exfalso; omega))) | ((first | refine aJ ?_ | refine num_any ?_ | refine ⟨_, rfl, ?_⟩); conv => whnf) | fail)
          all_goals first
            | (exfalso; omega)
            | (refine Or.inl ?_; (conv => whnf)
               rfl)
            | trace_state
        | y :: x :: r, hn =>
          simp only [List.length_cons] at hn
          obtain ⟨m, rfl⟩ : ∃ m, n = m + 2 := ⟨n - 2, by omega⟩
          have hm : r.length = m := by omega
          have hb2 := bld_step hb (hst.trans (sh6 hk6))
          have hmI : (((m + 2 : Nat) : Int) - 1).toNat = m + 1 := by omega
          have hmJ : (((m + 2 : Nat) : Int) - 1 - 1).toNat = m := by omega
          have hg1 : ((y :: x :: r).reverse ++ j)[(((m + 2 : Nat) : Int) - 1).toNat]? = some y := by rw [hmI, ← hm]; exact pile_top y (x :: r) j
          have hg2 : ((y :: x :: r).reverse ++ j)[(((m + 2 : Nat) : Int) - 1 - 1).toNat]? = some x := by rw [hmJ, ← hm]; exact pile_top2 x y r j
          (try (conv => whnf)); repeat' (first | (refine ⟨_, eqTest, by kernel_rfl, ?_⟩; (conv => whnf)) | (refine ⟨fun h => absurd hz4 h, fun _ => ?_⟩; (conv => whnf)) | (refine And.intro ⟨by kernel_rfl⟩ ?_; (conv => whnf)) | (refine rd rfl hg1 ?_; (conv => whnf)) | (refine rd rfl hg2 ?_; (conv => whnf)) | (refine st (Tr.or x y) hg2 (by simp) rfl ?_; (conv => whnf)) | (refine ⟨m + 1, rfl, (by show ((m + 2 : Nat) : Int) - 1 = ((m + 1 : Nat) : Int); omega), (by omega), ?_⟩; (conv => whnf)) | refine Ok.seq ?_ | refine OkL.cons ?_ | ((first | refine Ok.region tok ?_ | refine Ok.region_plan (id := 23) tok follows [(4, 11, []), (8, 11, []), (10, 11, [])] [.q 0, .q 1, .q 2, .q 3, .q 4, .q 5, .q 6, .q 7, .q 8, .q 9, .l 10, .l 11] (by kernel_rfl) ?_ | refine Ok.region_draw tok follows (by kernel_rfl) ?_ | refine Ok.cond ?_); conv => whnf) | refine Ok.block ?_ | ((first | refine Ok.skip ?_ | refine Ok.exit ?_ | refine Ok.ret ?_ | refine nI ?_ | refine ix _ (by assumption) ?_ | refine ixI (by omega) (by assumption) ?_ | refine ix_new _ (by omega) fun _ _ => ?_ | refine ixI_new (by omega) (by omega) fun _ _ => ?_ | refine ⟨_, by assumption, ?_⟩ | refine Alt2.l (aI ?_) | refine Alt2.r (aI ?_)); conv => whnf) | (refine Ok.scope ?_) | ((first | refine Ok.label ?_ | refine rd rfl (by assumption) ?_ | refine ⟨_, .inl ⟨rfl, rfl⟩, ?_⟩ | refine ⟨_, _, rfl, rfl, ?_⟩); conv => whnf) | (refine ⟨fun _ => ?_, fun _ => ?_⟩ <;> (conv => whnf) <;> (try (exfalso; omega))) | ((first | refine aJ ?_ | refine num_any ?_ | refine ⟨_, rfl, ?_⟩); conv => whnf) | fail)
          all_goals first
            | (exfalso; omega)
            | skip
          all_goals
            refine ⟨(i + 1, m + 1, Tr.or x y :: r, y :: j), by dsimp only; omega, ⟨by dsimp only; omega, by simp [hm], by simp; omega, hb2⟩, ?_⟩
            rw [hmJ, ← hm, set_top2]
            (conv => whnf)
            rfl
      rw [bld_none hb (hst.trans (sh0 (by omega)))]
      (try (conv => whnf)); repeat' (first | (refine ⟨_, eqTest, by kernel_rfl, ?_⟩; (conv => whnf)) | (refine ⟨fun h => absurd hz4 h, fun _ => ?_⟩; (conv => whnf)) | (refine And.intro ⟨by kernel_rfl⟩ ?_; (conv => whnf)) | refine Ok.seq ?_ | refine OkL.cons ?_ | ((first | refine Ok.region tok ?_ | refine Ok.region_plan (id := 23) tok follows [(4, 11, []), (8, 11, []), (10, 11, [])] [.q 0, .q 1, .q 2, .q 3, .q 4, .q 5, .q 6, .q 7, .q 8, .q 9, .l 10, .l 11] (by kernel_rfl) ?_ | refine Ok.region_draw tok follows (by kernel_rfl) ?_ | refine Ok.cond ?_); conv => whnf) | refine Ok.block ?_ | ((first | refine Ok.skip ?_ | refine Ok.exit ?_ | refine Ok.ret ?_ | refine nI ?_ | refine ix _ (by assumption) ?_ | refine ixI (by omega) (by assumption) ?_ | refine ix_new _ (by omega) fun _ _ => ?_ | refine ixI_new (by omega) (by omega) fun _ _ => ?_ | refine ⟨_, by assumption, ?_⟩ | refine Alt2.l (aI ?_) | refine Alt2.r (aI ?_)); conv => whnf) | (refine Ok.scope ?_) | ((first | refine Ok.label ?_ | refine rd rfl (by assumption) ?_ | refine ⟨_, .inl ⟨rfl, rfl⟩, ?_⟩ | refine ⟨_, _, rfl, rfl, ?_⟩); conv => whnf) | (refine ⟨fun _ => ?_, fun _ => ?_⟩ <;> (conv => whnf) <;> (try (exfalso; omega))) | ((first | refine aJ ?_ | refine num_any ?_ | refine ⟨_, rfl, ?_⟩); conv => whnf) | fail)
      all_goals first
        | (exfalso; omega)
        | (refine Or.inl ?_; (conv => whnf)
           rfl)
        | trace_state
  · have hie : i = e.length := by omega
    subst hie
    rw [List.drop_length] at hb
    have hbe := bld_end hb
    match rs, hn with
    | [], hn =>
      simp only [List.length_nil] at hn
      subst hn
      rw [hbe]
      (try (conv => whnf)); repeat' (first | refine Ok.seq ?_ | refine OkL.cons ?_ | ((first | refine Ok.region tok ?_ | refine Ok.region_plan (id := 23) tok follows [(4, 11, []), (8, 11, []), (10, 11, [])] [.q 0, .q 1, .q 2, .q 3, .q 4, .q 5, .q 6, .q 7, .q 8, .q 9, .l 10, .l 11] (by kernel_rfl) ?_ | refine Ok.region_draw tok follows (by kernel_rfl) ?_ | refine Ok.cond ?_); conv => whnf) | refine Ok.block ?_ | ((first | refine Ok.skip ?_ | refine Ok.exit ?_ | refine Ok.ret ?_ | refine nI ?_ | refine ix _ (by assumption) ?_ | refine ixI (by omega) (by assumption) ?_ | refine ix_new _ (by omega) fun _ _ => ?_ | refine ixI_new (by omega) (by omega) fun _ _ => ?_ | refine ⟨_, by assumption, ?_⟩ | refine Alt2.l (aI ?_) | refine Alt2.r (aI ?_)); conv => whnf) | (refine Ok.scope ?_) | ((first | refine Ok.label ?_ | refine rd rfl (by assumption) ?_ | refine ⟨_, .inl ⟨rfl, rfl⟩, ?_⟩ | refine ⟨_, _, rfl, rfl, ?_⟩); conv => whnf) | (refine ⟨fun _ => ?_, fun _ => ?_⟩ <;> (conv => whnf) <;> (try (exfalso; omega))) | ((first | refine aJ ?_ | refine num_any ?_ | refine ⟨_, rfl, ?_⟩); conv => whnf) | fail)
      all_goals first
        | (exfalso; omega)
        | (refine Or.inl ?_; (conv => whnf)
           rfl)
        | trace_state
    | [x], hn =>
      simp only [List.length_cons, List.length_nil] at hn
      subst hn
      rw [hbe]
      have hg0 : ([x].reverse ++ j)[(0 : Int).toNat]? = some x := by simp
      (try (conv => whnf)); repeat' (first | (refine rd rfl hg0 ?_; (conv => whnf)) | refine Ok.seq ?_ | refine OkL.cons ?_ | ((first | refine Ok.region tok ?_ | refine Ok.region_plan (id := 23) tok follows [(4, 11, []), (8, 11, []), (10, 11, [])] [.q 0, .q 1, .q 2, .q 3, .q 4, .q 5, .q 6, .q 7, .q 8, .q 9, .l 10, .l 11] (by kernel_rfl) ?_ | refine Ok.region_draw tok follows (by kernel_rfl) ?_ | refine Ok.cond ?_); conv => whnf) | refine Ok.block ?_ | ((first | refine Ok.skip ?_ | refine Ok.exit ?_ | refine Ok.ret ?_ | refine nI ?_ | refine ix _ (by assumption) ?_ | refine ixI (by omega) (by assumption) ?_ | refine ix_new _ (by omega) fun _ _ => ?_ | refine ixI_new (by omega) (by omega) fun _ _ => ?_ | refine ⟨_, by assumption, ?_⟩ | refine Alt2.l (aI ?_) | refine Alt2.r (aI ?_)); conv => whnf) | (refine Ok.scope ?_) | ((first | refine Ok.label ?_ | refine rd rfl (by assumption) ?_ | refine ⟨_, .inl ⟨rfl, rfl⟩, ?_⟩ | refine ⟨_, _, rfl, rfl, ?_⟩); conv => whnf) | (refine ⟨fun _ => ?_, fun _ => ?_⟩ <;> (conv => whnf) <;> (try (exfalso; omega))) | ((first | refine aJ ?_ | refine num_any ?_ | refine ⟨_, rfl, ?_⟩); conv => whnf) | fail)
      all_goals first
        | (exfalso; omega)
        | (refine Or.inl ?_; (conv => whnf)
           rfl)
        | trace_state
    | x :: y :: r, hn =>
      simp only [List.length_cons] at hn
      rw [hbe]
      (try (conv => whnf)); repeat' (first | refine Ok.seq ?_ | refine OkL.cons ?_ | ((first | refine Ok.region tok ?_ | refine Ok.region_plan (id := 23) tok follows [(4, 11, []), (8, 11, []), (10, 11, [])] [.q 0, .q 1, .q 2, .q 3, .q 4, .q 5, .q 6, .q 7, .q 8, .q 9, .l 10, .l 11] (by kernel_rfl) ?_ | refine Ok.region_draw tok follows (by kernel_rfl) ?_ | refine Ok.cond ?_); conv => whnf) | refine Ok.block ?_ | ((first | refine Ok.skip ?_ | refine Ok.exit ?_ | refine Ok.ret ?_ | refine nI ?_ | refine ix _ (by assumption) ?_ | refine ixI (by omega) (by assumption) ?_ | refine ix_new _ (by omega) fun _ _ => ?_ | refine ixI_new (by omega) (by omega) fun _ _ => ?_ | refine ⟨_, by assumption, ?_⟩ | refine Alt2.l (aI ?_) | refine Alt2.r (aI ?_)); conv => whnf) | (refine Ok.scope ?_) | ((first | refine Ok.label ?_ | refine rd rfl (by assumption) ?_ | refine ⟨_, .inl ⟨rfl, rfl⟩, ?_⟩ | refine ⟨_, _, rfl, rfl, ?_⟩); conv => whnf) | (refine ⟨fun _ => ?_, fun _ => ?_⟩ <;> (conv => whnf) <;> (try (exfalso; omega))) | ((first | refine aJ ?_ | refine num_any ?_ | refine ⟨_, rfl, ?_⟩); conv => whnf) | fail)
      all_goals first
        | (exfalso; omega)
        | (refine Or.inl ?_; (conv => whnf)
           rfl)
        | trace_state
end Go.Proofs.YtagmibogginaaaaGreatDoor
namespace Go.Proofs.YtagmibogginaaaaGreatDoor
open Go Go.Vx Go.Shelf
def SM : Str := [48, 49, 50, 51, 52, 53, 54, 55, 56, 57, 97, 98, 99, 100, 101, 102]
theorem tmodN (n k : Nat) : ((n % k : Nat) : Int) = (n : Int).tmod (k : Int) := by rw [Int.tmod_eq_emod_of_nonneg (by omega)]; rfl
theorem tdivN (n k : Nat) (h : n < 9223372036854775808) : ((n / k : Nat) : Int) = IntKind.i64.wrap ((n : Int).tdiv (k : Int)) := by
  rw [Int.tdiv_eq_ediv_of_nonneg (by omega), IntKind.wrap_i64]
  have h1 : ((n / k : Nat) : Int) = (n : Int) / (k : Int) := rfl
  have h2 := Nat.div_le_self n k
  have h3 : (0 : Int) ≤ (n : Int) / (k : Int) := Int.natCast_nonneg (n / k)
  omega
theorem sm_len (a b : Nat) (h : b ≤ a + 1) : ((SM.take b).drop a).length ≤ 1 := by simp; omega
set_option maxHeartbeats 4000000 in
theorem plain_ex : ∀ (k n : Nat), n < 10 ^ (k + 1) → k ≤ 9 → ∃ s : Str, s.length ≤ k + 1 ∧ FSpec Tryz.prog T 128 [.i .i64 (n : Nat)] (fun d _ => d = .s s) := by
  have base : ∀ n : Nat, n < 10 → FSpec Tryz.prog T 128 [.i .i64 (n : Nat)] (fun d _ => d = .s ((SM.take (n + 1)).drop n)) := by
    intro n hn
    refine FSpec.of_ok tok Tryz.func128 rfl Tryz.call128 (by simp) ?_
    (try (conv => whnf)); repeat' (first | (refine ⟨n, n + 1, rfl, rfl, (by omega), (by show n + 1 ≤ 16; omega), _, rfl, ?_⟩; (conv => whnf)) | refine Ok.seq ?_ | refine OkL.cons ?_ | ((first | refine Ok.region tok ?_ | refine Ok.region_draw tok follows (by kernel_rfl) ?_ | refine Ok.cond ?_); conv => whnf) | refine Ok.block ?_ | ((first | refine Ok.skip ?_ | refine Ok.exit ?_ | refine Ok.ret ?_ | refine nI ?_ | refine ix _ (by assumption) ?_ | refine ixI (by omega) (by assumption) ?_ | refine ix_new _ (by omega) fun _ _ => ?_ | refine ixI_new (by omega) (by omega) fun _ _ => ?_ | refine ⟨_, by assumption, ?_⟩ | refine Alt2.l (aI ?_) | refine Alt2.r (aI ?_)); conv => whnf) | (refine Ok.scope ?_) | ((first | refine Ok.label ?_ | refine rd rfl (by assumption) ?_ | refine ⟨_, .inl ⟨rfl, rfl⟩, ?_⟩ | refine ⟨_, _, rfl, rfl, ?_⟩); conv => whnf) | (refine ⟨fun _ => ?_, fun _ => ?_⟩ <;> (conv => whnf) <;> (try (exfalso; omega))) | ((first | refine aJ ?_ | refine num_any ?_ | refine ⟨_, rfl, ?_⟩); conv => whnf) | fail)
    all_goals first
      | (exfalso; omega)
      | (refine Or.inl ?_; (conv => whnf)
         rfl)
      | trace_state
  intro k
  induction k with
  | zero => exact fun n hn _ => ⟨_, by have := sm_len n (n + 1) (by omega); omega, base n (by omega)⟩
  | succ k ih =>
    intro n hn hk
    by_cases h10 : n < 10
    · exact ⟨_, by have := sm_len n (n + 1) (by omega); omega, base n h10⟩
    · have hp : 10 ^ (k + 1 + 1) = 10 * 10 ^ (k + 1) := by rw [Nat.pow_succ, Nat.mul_comm]
      have hp9 : 10 ^ (k + 1 + 1) ≤ 10 ^ 11 := Nat.pow_le_pow_right (by decide) (by omega)
      have hp11 : (10 : Nat) ^ 11 = 100000000000 := by decide
      obtain ⟨s, hs, hf⟩ := ih (n / 10) (by omega) (by omega)
      have hq := tdivN n 10 (by omega)
      have hr := tmodN n 10
      have hr2 : n % 10 < 10 := Nat.mod_lt _ (by decide)
      have hl := sm_len (n % 10) (n % 10 + 1) (by omega)
      refine ⟨s ++ (SM.take (n % 10 + 1)).drop (n % 10), by rw [List.length_append]; omega, ?_⟩
      refine FSpec.of_ok tok Tryz.func128 rfl Tryz.call128 (by simp) ?_
      (try (conv => whnf)); repeat' (first | (refine ⟨n % 10, n % 10 + 1, rfl, rfl, (by omega), (by show n % 10 + 1 ≤ 16; omega), _, rfl, ?_⟩; (conv => whnf)) | refine Ok.seq ?_ | refine OkL.cons ?_ | ((first | refine Ok.region tok ?_ | refine ⟨_, (hq.symm).symm, ?_⟩ | refine ⟨_, (hr.symm).symm, ?_⟩ | refine Ok.region_draw tok follows (by kernel_rfl) ?_ | refine Ok.cond ?_); conv => whnf) | refine Ok.block ?_ | ((first | refine Ok.skip ?_ | refine Ok.exit ?_ | refine Ok.ret ?_ | refine nI ?_ | refine ix _ (by assumption) ?_ | refine ixI (by omega) (by assumption) ?_ | refine ix_new _ (by omega) fun _ _ => ?_ | refine ixI_new (by omega) (by omega) fun _ _ => ?_ | refine ⟨_, by assumption, ?_⟩); conv => whnf) | (refine Or.inl ?_; (conv => whnf); (repeat (refine aI ?_; conv => whnf)); refine ⟨_, hf, rfl, ?_⟩; conv => whnf) | (refine ⟨_, hf, rfl, ?_⟩; conv => whnf) | (refine Or.inr (Or.inl ?_); (conv => whnf); (repeat (refine aI ?_; conv => whnf)); refine ⟨_, hf, ?_⟩; rintro _ _ ⟨rfl, rfl⟩; conv => whnf) | ((first | refine Alt2.l (aI ?_) | refine Alt2.r (aI ?_)); conv => whnf) | (refine Ok.scope ?_) | ((first | refine Ok.label ?_ | refine rd rfl (by assumption) ?_ | refine ⟨_, .inl ⟨rfl, rfl⟩, ?_⟩ | refine ⟨_, _, rfl, rfl, ?_⟩); conv => whnf) | (refine ⟨fun _ => ?_, fun _ => ?_⟩ <;> (conv => whnf) <;> (try (exfalso; omega))) | ((first | refine aJ ?_ | refine num_any ?_ | refine ⟨_, rfl, ?_⟩); conv => whnf) | fail)
      all_goals first
        | (exfalso; omega)
        | (refine Or.inl ?_; (conv => whnf)
           rfl)
        | trace_state
theorem plain9 (n : Nat) (h : n ≤ 4294967295) : ∃ s : Str, s.length ≤ 10 ∧ FSpec Tryz.prog T 128 [.i .i64 (n : Nat)] (fun d _ => d = .s s) :=
  plain_ex 9 n (by have : (10 : Nat) ^ (9 + 1) = 10000000000 := by decide
                   omega) (by decide)
set_option maxHeartbeats 4000000 in
theorem num3_ex (v : Int) (p : Prop) : ∃ (s : Str) (c : Int), s.length ≤ 43 ∧ FSpec Tryz.prog T 119 [.i .i64 v, .b p] (fun d _ => d = .tup [.s s, .i .i64 c]) := by
  by_cases hv : v < 0 ∨ 4294967295 < v
  · refine ⟨[], 31, by simp, ?_⟩
    refine FSpec.of_ok tok Tryz.func119 rfl Tryz.call119 (by simp) ?_
    (try (conv => whnf)); repeat' (first | refine Ok.seq ?_ | refine OkL.cons ?_ | ((first | refine Ok.region tok ?_ | refine Ok.region_draw tok follows (by kernel_rfl) ?_ | refine Ok.cond ?_); conv => whnf) | refine Ok.block ?_ | ((first | refine Ok.skip ?_ | refine Ok.exit ?_ | refine Ok.ret ?_ | refine nI ?_ | refine ix _ (by assumption) ?_ | refine ixI (by omega) (by assumption) ?_ | refine ix_new _ (by omega) fun _ _ => ?_ | refine ixI_new (by omega) (by omega) fun _ _ => ?_ | refine ⟨_, by assumption, ?_⟩ | refine Alt2.l (aI ?_) | refine Alt2.r (aI ?_)); conv => whnf) | (refine Ok.scope ?_) | ((first | refine Ok.label ?_ | refine rd rfl (by assumption) ?_ | refine ⟨_, .inl ⟨rfl, rfl⟩, ?_⟩ | refine ⟨_, _, rfl, rfl, ?_⟩); conv => whnf) | (refine ⟨fun _ => ?_, fun _ => ?_⟩ <;> (conv => whnf) <;> (try (exfalso; omega))) | ((first | refine aJ ?_ | refine num_any ?_ | refine ⟨_, rfl, ?_⟩); conv => whnf) | fail)
    all_goals first
      | (exfalso; omega)
      | (refine Or.inl ?_; (conv => whnf)
         rfl)
      | trace_state
  · obtain ⟨n, rfl⟩ : ∃ n : Nat, v = n := ⟨v.toNat, by omega⟩
    by_cases hp : p
    · obtain ⟨s1, l1, f1⟩ := plain9 (n / 16777216) (by omega)
      obtain ⟨s2, l2, f2⟩ := plain9 (n / 65536 % 256) (by omega)
      obtain ⟨s3, l3, f3⟩ := plain9 (n / 256 % 256) (by omega)
      obtain ⟨s4, l4, f4⟩ := plain9 (n % 256) (by omega)
      have q1 := tdivN n 16777216 (by omega)
      have q2 := tdivN n 65536 (by omega)
      have q3 := tdivN n 256 (by omega)
      have m2 := tmodN (n / 65536) 256
      have m3 := tmodN (n / 256) 256
      have m4 := tmodN n 256
      refine ⟨s1 ++ [46] ++ s2 ++ [46] ++ s3 ++ [46] ++ s4, 0, by simp; omega, ?_⟩
      refine FSpec.of_ok tok Tryz.func119 rfl Tryz.call119 (by simp) ?_
      (try (conv => whnf)); repeat' (first | refine Ok.seq ?_ | refine OkL.cons ?_ | ((first | refine Ok.region tok ?_ | refine ⟨_, (q1.symm).symm, ?_⟩ | refine ⟨_, (q2.symm).symm, ?_⟩ | refine ⟨_, (q3.symm).symm, ?_⟩ | refine ⟨_, (m2.symm).symm, ?_⟩ | refine ⟨_, (m3.symm).symm, ?_⟩ | refine ⟨_, (m4.symm).symm, ?_⟩ | refine Ok.region_draw tok follows (by kernel_rfl) ?_ | refine Ok.cond ?_); conv => whnf) | refine Ok.block ?_ | ((first | refine Ok.skip ?_ | refine Ok.exit ?_ | refine Ok.ret ?_ | refine nI ?_ | refine ix _ (by assumption) ?_ | refine ixI (by omega) (by assumption) ?_ | refine ix_new _ (by omega) fun _ _ => ?_ | refine ixI_new (by omega) (by omega) fun _ _ => ?_ | refine ⟨_, by assumption, ?_⟩); conv => whnf) | (refine Or.inl ?_; (conv => whnf); (repeat (refine aI ?_; conv => whnf)); refine ⟨_, f1, rfl, ?_⟩; conv => whnf) | (refine Or.inl ?_; (conv => whnf); (repeat (refine aI ?_; conv => whnf)); refine ⟨_, f2, rfl, ?_⟩; conv => whnf) | (refine Or.inl ?_; (conv => whnf); (repeat (refine aI ?_; conv => whnf)); refine ⟨_, f3, rfl, ?_⟩; conv => whnf) | (refine Or.inl ?_; (conv => whnf); (repeat (refine aI ?_; conv => whnf)); refine ⟨_, f4, rfl, ?_⟩; conv => whnf) | ((first | refine ⟨_, f1, rfl, ?_⟩ | refine ⟨_, f2, rfl, ?_⟩ | refine ⟨_, f3, rfl, ?_⟩ | refine ⟨_, f4, rfl, ?_⟩); conv => whnf) | (refine Or.inr (Or.inl ?_); (conv => whnf); (repeat (refine aI ?_; conv => whnf)); refine ⟨_, f1, ?_⟩; rintro _ _ ⟨rfl, rfl⟩; conv => whnf) | (refine Or.inr (Or.inl ?_); (conv => whnf); (repeat (refine aI ?_; conv => whnf)); refine ⟨_, f2, ?_⟩; rintro _ _ ⟨rfl, rfl⟩; conv => whnf) | (refine Or.inr (Or.inl ?_); (conv => whnf); (repeat (refine aI ?_; conv => whnf)); refine ⟨_, f3, ?_⟩; rintro _ _ ⟨rfl, rfl⟩; conv => whnf) | (refine Or.inr (Or.inl ?_); (conv => whnf); (repeat (refine aI ?_; conv => whnf)); refine ⟨_, f4, ?_⟩; rintro _ _ ⟨rfl, rfl⟩; conv => whnf) | ((first | refine Alt2.l (aI ?_) | refine Alt2.r (aI ?_)); conv => whnf) | (refine Ok.scope ?_) | ((first | refine Ok.label ?_ | refine rd rfl (by assumption) ?_ | refine ⟨_, .inl ⟨rfl, rfl⟩, ?_⟩ | refine ⟨_, _, rfl, rfl, ?_⟩); conv => whnf) | (refine ⟨fun _ => ?_, fun _ => ?_⟩ <;> (conv => whnf) <;> (try (exfalso; omega))) | ((first | refine aJ ?_ | refine num_any ?_ | refine ⟨_, rfl, ?_⟩); conv => whnf) | fail)
      all_goals first
        | (exfalso; omega)
        | (rename_i h; exact absurd hp h)
        | (refine Or.inl ?_; (conv => whnf)
           rfl)
        | trace_state
    · obtain ⟨s1, l1, f1⟩ := plain9 n (by omega)
      refine ⟨s1, 0, by omega, ?_⟩
      refine FSpec.of_ok tok Tryz.func119 rfl Tryz.call119 (by simp) ?_
      (try (conv => whnf)); repeat' (first | refine Ok.seq ?_ | refine OkL.cons ?_ | ((first | refine Ok.region tok ?_ | refine Ok.region_draw tok follows (by kernel_rfl) ?_ | refine Ok.cond ?_); conv => whnf) | refine Ok.block ?_ | ((first | refine Ok.skip ?_ | refine Ok.exit ?_ | refine Ok.ret ?_ | refine nI ?_ | refine ix _ (by assumption) ?_ | refine ixI (by omega) (by assumption) ?_ | refine ix_new _ (by omega) fun _ _ => ?_ | refine ixI_new (by omega) (by omega) fun _ _ => ?_ | refine ⟨_, by assumption, ?_⟩); conv => whnf) | (refine Or.inl ?_; (conv => whnf); (repeat (refine aI ?_; conv => whnf)); refine ⟨_, f1, rfl, ?_⟩; conv => whnf) | (refine ⟨_, f1, rfl, ?_⟩; conv => whnf) | (refine Or.inr (Or.inl ?_); (conv => whnf); (repeat (refine aI ?_; conv => whnf)); refine ⟨_, f1, ?_⟩; rintro _ _ ⟨rfl, rfl⟩; conv => whnf) | ((first | refine Alt2.l (aI ?_) | refine Alt2.r (aI ?_)); conv => whnf) | (refine Ok.scope ?_) | ((first | refine Ok.label ?_ | refine rd rfl (by assumption) ?_ | refine ⟨_, .inl ⟨rfl, rfl⟩, ?_⟩ | refine ⟨_, _, rfl, rfl, ?_⟩); conv => whnf) | (refine ⟨fun _ => ?_, fun _ => ?_⟩ <;> (conv => whnf) <;> (try (exfalso; omega))) | ((first | refine aJ ?_ | refine num_any ?_ | refine ⟨_, rfl, ?_⟩); conv => whnf) | fail)
      all_goals first
        | (exfalso; omega)
        | (rename_i h; exact absurd h hp)
        | (refine Or.inl ?_; (conv => whnf)
           rfl)
        | trace_state
theorem number_ex (v : Int) (p : Prop) : ∃ s : Str, s.length ≤ 43 ∧ FSpec Tryz.prog T 100 [.i .i64 v, .b p] (fun d _ => d = .s s) := by
  by_cases hp : p
  · obtain ⟨s, c, hl, hf⟩ := num3_ex v True
    refine ⟨s, hl, ?_⟩
    refine FSpec.of_ok tok Tryz.func100 rfl Tryz.call100 (by simp) ?_
    (try (conv => whnf)); repeat' (first | refine Ok.seq ?_ | refine OkL.cons ?_ | ((first | refine Ok.region tok ?_ | refine Ok.region_draw tok follows (by kernel_rfl) ?_ | refine Ok.cond ?_); conv => whnf) | refine Ok.block ?_ | ((first | refine Ok.skip ?_ | refine Ok.exit ?_ | refine Ok.ret ?_ | refine nI ?_ | refine ix _ (by assumption) ?_ | refine ixI (by omega) (by assumption) ?_ | refine ix_new _ (by omega) fun _ _ => ?_ | refine ixI_new (by omega) (by omega) fun _ _ => ?_ | refine ⟨_, by assumption, ?_⟩); conv => whnf) | (refine Or.inl ?_; (conv => whnf); (repeat (refine aI ?_; conv => whnf)); refine ⟨_, hf, rfl, ?_⟩; conv => whnf) | (refine ⟨_, hf, rfl, ?_⟩; conv => whnf) | (refine Or.inr (Or.inl ?_); (conv => whnf); (repeat (refine aI ?_; conv => whnf)); refine ⟨_, hf, ?_⟩; rintro _ _ ⟨rfl, rfl⟩; conv => whnf) | ((first | refine Alt2.l (aI ?_) | refine Alt2.r (aI ?_)); conv => whnf) | (refine Ok.scope ?_) | ((first | refine Ok.label ?_ | refine rd rfl (by assumption) ?_ | refine ⟨_, .inl ⟨rfl, rfl⟩, ?_⟩ | refine ⟨_, _, rfl, rfl, ?_⟩); conv => whnf) | (refine ⟨fun _ => ?_, fun _ => ?_⟩ <;> (conv => whnf) <;> (try (exfalso; omega))) | ((first | refine aJ ?_ | refine num_any ?_ | refine ⟨_, rfl, ?_⟩); conv => whnf) | fail)
    all_goals first
      | (exfalso; omega)
      | (rename_i h; exact absurd hp h)
      | (refine Or.inl ?_; (conv => whnf)
         rfl)
      | trace_state
  · obtain ⟨s, c, hl, hf⟩ := num3_ex v (65536 ≤ v)
    refine ⟨s, hl, ?_⟩
    refine FSpec.of_ok tok Tryz.func100 rfl Tryz.call100 (by simp) ?_
    (try (conv => whnf)); repeat' (first | refine Ok.seq ?_ | refine OkL.cons ?_ | ((first | refine Ok.region tok ?_ | refine Ok.region_draw tok follows (by kernel_rfl) ?_ | refine Ok.cond ?_); conv => whnf) | refine Ok.block ?_ | ((first | refine Ok.skip ?_ | refine Ok.exit ?_ | refine Ok.ret ?_ | refine nI ?_ | refine ix _ (by assumption) ?_ | refine ixI (by omega) (by assumption) ?_ | refine ix_new _ (by omega) fun _ _ => ?_ | refine ixI_new (by omega) (by omega) fun _ _ => ?_ | refine ⟨_, by assumption, ?_⟩); conv => whnf) | (refine Or.inl ?_; (conv => whnf); (repeat (refine aI ?_; conv => whnf)); refine ⟨_, hf, rfl, ?_⟩; conv => whnf) | (refine ⟨_, hf, rfl, ?_⟩; conv => whnf) | (refine Or.inr (Or.inl ?_); (conv => whnf); (repeat (refine aI ?_; conv => whnf)); refine ⟨_, hf, ?_⟩; rintro _ _ ⟨rfl, rfl⟩; conv => whnf) | ((first | refine Alt2.l (aI ?_) | refine Alt2.r (aI ?_)); conv => whnf) | (refine Ok.scope ?_) | ((first | refine Ok.label ?_ | refine rd rfl (by assumption) ?_ | refine ⟨_, .inl ⟨rfl, rfl⟩, ?_⟩ | refine ⟨_, _, rfl, rfl, ?_⟩); conv => whnf) | (refine ⟨fun _ => ?_, fun _ => ?_⟩ <;> (conv => whnf) <;> (try (exfalso; omega))) | ((first | refine aJ ?_ | refine num_any ?_ | refine ⟨_, rfl, ?_⟩); conv => whnf) | fail)
    all_goals first
      | (exfalso; omega)
      | (rename_i h; exact absurd h hp)
      | (refine Or.inl ?_; (conv => whnf)
         rfl)
      | trace_state
theorem sign_ex (op : Int) : ∃ s : Str, s.length ≤ 2 ∧ FSpec Tryz.prog T 99 [.i .i64 op] (fun d _ => d = .s s) := by
  have go : ∀ s : Str, (s = if op = 1 then [61] else if op = 2 then [33, 61] else if op = 3 then [60] else if op = 4 then [60, 61] else if op = 5 then [62] else if op = 6 then [62, 61] else []) → FSpec Tryz.prog T 99 [.i .i64 op] (fun d _ => d = .s s) := by
    intro s hs
    refine FSpec.of_ok tok Tryz.func99 rfl Tryz.call99 (by simp) ?_
    (try (conv => whnf)); repeat' (first | refine Ok.seq ?_ | refine OkL.cons ?_ | ((first | refine Ok.region tok ?_ | refine Ok.region_draw tok follows (by kernel_rfl) ?_ | refine Ok.cond ?_); conv => whnf) | refine Ok.block ?_ | ((first | refine Ok.skip ?_ | refine Ok.exit ?_ | refine Ok.ret ?_ | refine nI ?_ | refine ix _ (by assumption) ?_ | refine ixI (by omega) (by assumption) ?_ | refine ix_new _ (by omega) fun _ _ => ?_ | refine ixI_new (by omega) (by omega) fun _ _ => ?_ | refine ⟨_, by assumption, ?_⟩ | refine Alt2.l (aI ?_) | refine Alt2.r (aI ?_)); conv => whnf) | (refine Ok.scope ?_) | ((first | refine Ok.label ?_ | refine rd rfl (by assumption) ?_ | refine ⟨_, .inl ⟨rfl, rfl⟩, ?_⟩ | refine ⟨_, _, rfl, rfl, ?_⟩); conv => whnf) | (refine ⟨fun _ => ?_, fun _ => ?_⟩ <;> (conv => whnf) <;> (try (exfalso; omega))) | ((first | refine aJ ?_ | refine num_any ?_ | refine ⟨_, rfl, ?_⟩); conv => whnf) | fail)
    all_goals
      refine Or.inl ?_; (conv => whnf)
      rw [hs]
      first
        | (rename_i h; subst h; rfl)
        | (simp [*]; rfl)
  refine ⟨_, ?_, go _ rfl⟩
  repeat' split
  all_goals decide
set_option maxHeartbeats 8000000 in
theorem testText_ex (f : Str) (op form lo hi len : Int) (pat : Str) (hf : f.length ≤ 1000000000000) (hp : pat.length ≤ 1000000000000) :
    ∃ s : Str, s.length ≤ f.length + pat.length + 100 ∧ FSpec Tryz.prog T 73 [.agg [.s f, .i .i64 op, .i .i64 form, .i .i64 lo, .i .i64 hi, .i .i64 len, .s pat]] (fun d _ => d = .s s) := by
  obtain ⟨sg, lg, fg⟩ := sign_ex op
  obtain ⟨a1, k1, f1⟩ := number_ex lo True
  obtain ⟨a2, k2, f2⟩ := number_ex len False
  obtain ⟨a3, k3, f3⟩ := number_ex lo False
  obtain ⟨a4, k4, f4⟩ := number_ex hi False
  have h6 : 6 = 6 := rfl
  by_cases c2 : form = 2
  · refine ⟨f ++ [32] ++ sg ++ [32] ++ a1 ++ [47] ++ a2, by simp; omega, ?_⟩
    refine FSpec.of_ok tok Tryz.func73 rfl Tryz.call73 (by simp) ?_
    (try (conv => whnf)); repeat' (first | refine Ok.seq ?_ | refine OkL.cons ?_ | ((first | refine Ok.region tok ?_ | refine Ok.region_draw tok follows (by kernel_rfl) ?_ | refine Ok.cond ?_); conv => whnf) | refine Ok.block ?_ | ((first | refine Ok.skip ?_ | refine Ok.exit ?_ | refine Ok.ret ?_ | refine nI ?_ | refine ix _ (by assumption) ?_ | refine ixI (by omega) (by assumption) ?_ | refine ix_new _ (by omega) fun _ _ => ?_ | refine ixI_new (by omega) (by omega) fun _ _ => ?_ | refine ⟨_, by assumption, ?_⟩); conv => whnf) | (refine Or.inl ?_; (conv => whnf); (repeat (refine aI ?_; conv => whnf)); refine ⟨_, fg, rfl, ?_⟩; conv => whnf) | (refine Or.inl ?_; (conv => whnf); (repeat (refine aI ?_; conv => whnf)); refine ⟨_, f1, rfl, ?_⟩; conv => whnf) | (refine Or.inl ?_; (conv => whnf); (repeat (refine aI ?_; conv => whnf)); refine ⟨_, f2, rfl, ?_⟩; conv => whnf) | ((first | refine ⟨_, fg, rfl, ?_⟩ | refine ⟨_, f1, rfl, ?_⟩ | refine ⟨_, f2, rfl, ?_⟩); conv => whnf) | (refine Or.inr (Or.inl ?_); (conv => whnf); (repeat (refine aI ?_; conv => whnf)); refine ⟨_, fg, ?_⟩; rintro _ _ ⟨rfl, rfl⟩; conv => whnf) | (refine Or.inr (Or.inl ?_); (conv => whnf); (repeat (refine aI ?_; conv => whnf)); refine ⟨_, f1, ?_⟩; rintro _ _ ⟨rfl, rfl⟩; conv => whnf) | (refine Or.inr (Or.inl ?_); (conv => whnf); (repeat (refine aI ?_; conv => whnf)); refine ⟨_, f2, ?_⟩; rintro _ _ ⟨rfl, rfl⟩; conv => whnf) | ((first | refine Alt2.l (aI ?_) | refine Alt2.r (aI ?_)); conv => whnf) | (refine Ok.scope ?_) | ((first | refine Ok.label ?_ | refine rd rfl (by assumption) ?_ | refine ⟨_, .inl ⟨rfl, rfl⟩, ?_⟩ | refine ⟨_, _, rfl, rfl, ?_⟩); conv => whnf) | (refine ⟨fun _ => ?_, fun _ => ?_⟩ <;> (conv => whnf) <;> (try (exfalso; omega))) | ((first | refine aJ ?_ | refine num_any ?_ | refine ⟨_, rfl, ?_⟩); conv => whnf) | fail)
    all_goals first
      | (exfalso; omega)
      | (refine Or.inl ?_; (conv => whnf)
         rfl)
      | trace_state
  by_cases c3 : form = 3
  · refine ⟨f ++ [32] ++ sg ++ [32] ++ a3 ++ [46, 46] ++ a4, by simp; omega, ?_⟩
    refine FSpec.of_ok tok Tryz.func73 rfl Tryz.call73 (by simp) ?_
    (try (conv => whnf)); repeat' (first | refine Ok.seq ?_ | refine OkL.cons ?_ | ((first | refine Ok.region tok ?_ | refine Ok.region_draw tok follows (by kernel_rfl) ?_ | refine Ok.cond ?_); conv => whnf) | refine Ok.block ?_ | ((first | refine Ok.skip ?_ | refine Ok.exit ?_ | refine Ok.ret ?_ | refine nI ?_ | refine ix _ (by assumption) ?_ | refine ixI (by omega) (by assumption) ?_ | refine ix_new _ (by omega) fun _ _ => ?_ | refine ixI_new (by omega) (by omega) fun _ _ => ?_ | refine ⟨_, by assumption, ?_⟩); conv => whnf) | (refine Or.inl ?_; (conv => whnf); (repeat (refine aI ?_; conv => whnf)); refine ⟨_, fg, rfl, ?_⟩; conv => whnf) | (refine Or.inl ?_; (conv => whnf); (repeat (refine aI ?_; conv => whnf)); refine ⟨_, f3, rfl, ?_⟩; conv => whnf) | (refine Or.inl ?_; (conv => whnf); (repeat (refine aI ?_; conv => whnf)); refine ⟨_, f4, rfl, ?_⟩; conv => whnf) | ((first | refine ⟨_, fg, rfl, ?_⟩ | refine ⟨_, f3, rfl, ?_⟩ | refine ⟨_, f4, rfl, ?_⟩); conv => whnf) | (refine Or.inr (Or.inl ?_); (conv => whnf); (repeat (refine aI ?_; conv => whnf)); refine ⟨_, fg, ?_⟩; rintro _ _ ⟨rfl, rfl⟩; conv => whnf) | (refine Or.inr (Or.inl ?_); (conv => whnf); (repeat (refine aI ?_; conv => whnf)); refine ⟨_, f3, ?_⟩; rintro _ _ ⟨rfl, rfl⟩; conv => whnf) | (refine Or.inr (Or.inl ?_); (conv => whnf); (repeat (refine aI ?_; conv => whnf)); refine ⟨_, f4, ?_⟩; rintro _ _ ⟨rfl, rfl⟩; conv => whnf) | ((first | refine Alt2.l (aI ?_) | refine Alt2.r (aI ?_)); conv => whnf) | (refine Ok.scope ?_) | ((first | refine Ok.label ?_ | refine rd rfl (by assumption) ?_ | refine ⟨_, .inl ⟨rfl, rfl⟩, ?_⟩ | refine ⟨_, _, rfl, rfl, ?_⟩); conv => whnf) | (refine ⟨fun _ => ?_, fun _ => ?_⟩ <;> (conv => whnf) <;> (try (exfalso; omega))) | ((first | refine aJ ?_ | refine num_any ?_ | refine ⟨_, rfl, ?_⟩); conv => whnf) | fail)
    all_goals first
      | (exfalso; omega)
      | (refine Or.inl ?_; (conv => whnf)
         rfl)
      | trace_state
  by_cases c4 : form = 4
  · refine ⟨f ++ [32] ++ sg ++ [32] ++ [37] ++ pat, by simp; omega, ?_⟩
    refine FSpec.of_ok tok Tryz.func73 rfl Tryz.call73 (by simp) ?_
    (try (conv => whnf)); repeat' (first | refine Ok.seq ?_ | refine OkL.cons ?_ | ((first | refine Ok.region tok ?_ | refine Ok.region_draw tok follows (by kernel_rfl) ?_ | refine Ok.cond ?_); conv => whnf) | refine Ok.block ?_ | ((first | refine Ok.skip ?_ | refine Ok.exit ?_ | refine Ok.ret ?_ | refine nI ?_ | refine ix _ (by assumption) ?_ | refine ixI (by omega) (by assumption) ?_ | refine ix_new _ (by omega) fun _ _ => ?_ | refine ixI_new (by omega) (by omega) fun _ _ => ?_ | refine ⟨_, by assumption, ?_⟩); conv => whnf) | (refine Or.inl ?_; (conv => whnf); (repeat (refine aI ?_; conv => whnf)); refine ⟨_, fg, rfl, ?_⟩; conv => whnf) | (refine ⟨_, fg, rfl, ?_⟩; conv => whnf) | (refine Or.inr (Or.inl ?_); (conv => whnf); (repeat (refine aI ?_; conv => whnf)); refine ⟨_, fg, ?_⟩; rintro _ _ ⟨rfl, rfl⟩; conv => whnf) | ((first | refine Alt2.l (aI ?_) | refine Alt2.r (aI ?_)); conv => whnf) | (refine Ok.scope ?_) | ((first | refine Ok.label ?_ | refine rd rfl (by assumption) ?_ | refine ⟨_, .inl ⟨rfl, rfl⟩, ?_⟩ | refine ⟨_, _, rfl, rfl, ?_⟩); conv => whnf) | (refine ⟨fun _ => ?_, fun _ => ?_⟩ <;> (conv => whnf) <;> (try (exfalso; omega))) | ((first | refine aJ ?_ | refine num_any ?_ | refine ⟨_, rfl, ?_⟩); conv => whnf) | fail)
    all_goals first
      | (exfalso; omega)
      | (refine Or.inl ?_; (conv => whnf)
         rfl)
      | trace_state
  · refine ⟨f ++ [32] ++ sg ++ [32] ++ a3, by simp; omega, ?_⟩
    refine FSpec.of_ok tok Tryz.func73 rfl Tryz.call73 (by simp) ?_
    (try (conv => whnf)); repeat' (first | refine Ok.seq ?_ | refine OkL.cons ?_ | ((first | refine Ok.region tok ?_ | refine Ok.region_draw tok follows (by kernel_rfl) ?_ | refine Ok.cond ?_); conv => whnf) | refine Ok.block ?_ | ((first | refine Ok.skip ?_ | refine Ok.exit ?_ | refine Ok.ret ?_ | refine nI ?_ | refine ix _ (by assumption) ?_ | refine ixI (by omega) (by assumption) ?_ | refine ix_new _ (by omega) fun _ _ => ?_ | refine ixI_new (by omega) (by omega) fun _ _ => ?_ | refine ⟨_, by assumption, ?_⟩); conv => whnf) | (refine Or.inl ?_; (conv => whnf); (repeat (refine aI ?_; conv => whnf)); refine ⟨_, fg, rfl, ?_⟩; conv => whnf) | (refine Or.inl ?_; (conv => whnf); (repeat (refine aI ?_; conv => whnf)); refine ⟨_, f3, rfl, ?_⟩; conv => whnf) | ((first | refine ⟨_, fg, rfl, ?_⟩ | refine ⟨_, f3, rfl, ?_⟩); conv => whnf) | (refine Or.inr (Or.inl ?_); (conv => whnf); (repeat (refine aI ?_; conv => whnf)); refine ⟨_, fg, ?_⟩; rintro _ _ ⟨rfl, rfl⟩; conv => whnf) | (refine Or.inr (Or.inl ?_); (conv => whnf); (repeat (refine aI ?_; conv => whnf)); refine ⟨_, f3, ?_⟩; rintro _ _ ⟨rfl, rfl⟩; conv => whnf) | ((first | refine Alt2.l (aI ?_) | refine Alt2.r (aI ?_)); conv => whnf) | (refine Ok.scope ?_) | ((first | refine Ok.label ?_ | refine rd rfl (by assumption) ?_ | refine ⟨_, .inl ⟨rfl, rfl⟩, ?_⟩ | refine ⟨_, _, rfl, rfl, ?_⟩); conv => whnf) | (refine ⟨fun _ => ?_, fun _ => ?_⟩ <;> (conv => whnf) <;> (try (exfalso; omega))) | ((first | refine aJ ?_ | refine num_any ?_ | refine ⟨_, rfl, ?_⟩); conv => whnf) | fail)
    all_goals first
      | (exfalso; omega)
      | (refine Or.inl ?_; (conv => whnf)
         rfl)
      | trace_state
theorem leaf_ex (c : Nd) (hf : c.t.f.length ≤ 1000000000000) (hp : c.t.pat.length ≤ 1000000000000) :
    ∃ s : Str, s.length ≤ c.t.f.length + c.t.pat.length + 100 ∧ FSpec Tryz.prog T 41 [.agg (nrow c)] (fun d _ => d = .s s) := by
  obtain ⟨st, lt, ft⟩ := testText_ex c.t.f c.t.op c.t.form c.t.lo c.t.hi c.t.len c.t.pat hf hp
  by_cases c1 : c.kind = 1
  · refine ⟨[97, 110, 121], by simp, ?_⟩
    refine FSpec.of_ok tok Tryz.func41 rfl Tryz.call41 (by simp) ?_
    (try (conv => whnf)); repeat' (first | refine Ok.seq ?_ | refine OkL.cons ?_ | ((first | refine Ok.region tok ?_ | refine Ok.region_draw tok follows (by kernel_rfl) ?_ | refine Ok.cond ?_); conv => whnf) | refine Ok.block ?_ | ((first | refine Ok.skip ?_ | refine Ok.exit ?_ | refine Ok.ret ?_ | refine nI ?_ | refine ix _ (by assumption) ?_ | refine ixI (by omega) (by assumption) ?_ | refine ix_new _ (by omega) fun _ _ => ?_ | refine ixI_new (by omega) (by omega) fun _ _ => ?_ | refine ⟨_, by assumption, ?_⟩ | refine Alt2.l (aI ?_) | refine Alt2.r (aI ?_)); conv => whnf) | (refine Ok.scope ?_) | ((first | refine Ok.label ?_ | refine rd rfl (by assumption) ?_ | refine ⟨_, .inl ⟨rfl, rfl⟩, ?_⟩ | refine ⟨_, _, rfl, rfl, ?_⟩); conv => whnf) | (refine ⟨fun _ => ?_, fun _ => ?_⟩ <;> (conv => whnf) <;> (try (exfalso; omega))) | ((first | refine aJ ?_ | refine num_any ?_ | refine ⟨_, rfl, ?_⟩); conv => whnf) | fail)
    all_goals first
      | (exfalso; omega)
      | (refine Or.inl ?_; (conv => whnf)
         rfl)
      | trace_state
  by_cases c2 : c.kind = 2
  · refine ⟨[110, 111, 110, 101], by simp, ?_⟩
    refine FSpec.of_ok tok Tryz.func41 rfl Tryz.call41 (by simp) ?_
    (try (conv => whnf)); repeat' (first | refine Ok.seq ?_ | refine OkL.cons ?_ | ((first | refine Ok.region tok ?_ | refine Ok.region_draw tok follows (by kernel_rfl) ?_ | refine Ok.cond ?_); conv => whnf) | refine Ok.block ?_ | ((first | refine Ok.skip ?_ | refine Ok.exit ?_ | refine Ok.ret ?_ | refine nI ?_ | refine ix _ (by assumption) ?_ | refine ixI (by omega) (by assumption) ?_ | refine ix_new _ (by omega) fun _ _ => ?_ | refine ixI_new (by omega) (by omega) fun _ _ => ?_ | refine ⟨_, by assumption, ?_⟩ | refine Alt2.l (aI ?_) | refine Alt2.r (aI ?_)); conv => whnf) | (refine Ok.scope ?_) | ((first | refine Ok.label ?_ | refine rd rfl (by assumption) ?_ | refine ⟨_, .inl ⟨rfl, rfl⟩, ?_⟩ | refine ⟨_, _, rfl, rfl, ?_⟩); conv => whnf) | (refine ⟨fun _ => ?_, fun _ => ?_⟩ <;> (conv => whnf) <;> (try (exfalso; omega))) | ((first | refine aJ ?_ | refine num_any ?_ | refine ⟨_, rfl, ?_⟩); conv => whnf) | fail)
    all_goals first
      | (exfalso; omega)
      | (refine Or.inl ?_; (conv => whnf)
         rfl)
      | trace_state
  · refine ⟨st, lt, ?_⟩
    refine FSpec.of_ok tok Tryz.func41 rfl Tryz.call41 (by simp) ?_
    (try (conv => whnf)); repeat' (first | refine Ok.seq ?_ | refine OkL.cons ?_ | ((first | refine Ok.region tok ?_ | refine Ok.region_draw tok follows (by kernel_rfl) ?_ | refine Ok.cond ?_); conv => whnf) | refine Ok.block ?_ | ((first | refine Ok.skip ?_ | refine Ok.exit ?_ | refine Ok.ret ?_ | refine nI ?_ | refine ix _ (by assumption) ?_ | refine ixI (by omega) (by assumption) ?_ | refine ix_new _ (by omega) fun _ _ => ?_ | refine ixI_new (by omega) (by omega) fun _ _ => ?_ | refine ⟨_, by assumption, ?_⟩); conv => whnf) | (refine Or.inl ?_; (conv => whnf); (repeat (refine aI ?_; conv => whnf)); refine ⟨_, ft, rfl, ?_⟩; conv => whnf) | (refine ⟨_, ft, rfl, ?_⟩; conv => whnf) | (refine Or.inr (Or.inl ?_); (conv => whnf); (repeat (refine aI ?_; conv => whnf)); refine ⟨_, ft, ?_⟩; rintro _ _ ⟨rfl, rfl⟩; conv => whnf) | ((first | refine Alt2.l (aI ?_) | refine Alt2.r (aI ?_)); conv => whnf) | (refine Ok.scope ?_) | ((first | refine Ok.label ?_ | refine rd rfl (by assumption) ?_ | refine ⟨_, .inl ⟨rfl, rfl⟩, ?_⟩ | refine ⟨_, _, rfl, rfl, ?_⟩); conv => whnf) | (refine ⟨fun _ => ?_, fun _ => ?_⟩ <;> (conv => whnf) <;> (try (exfalso; omega))) | ((first | refine aJ ?_ | refine num_any ?_ | refine ⟨_, rfl, ?_⟩); conv => whnf) | fail)
    all_goals first
      | (exfalso; omega)
      | (refine Or.inl ?_; (conv => whnf)
         rfl)
      | trace_state
@[reducible] def pc (s : Str) (b n : Nat) : List D := [.s s, .i .i64 (b : Nat), .i .i64 (n : Nat)]
def inS (b : Bool) (s : Str) : Str := match b with | true => [40] ++ s ++ [41] | false => s
def inBy (b : Bool) (y : Nat) : Nat := match b with | true => 3 | false => y
theorem in_at (s : Str) (y n : Nat) (b : Bool) (p : Prop) (hb : p ↔ b = true) (hs : s.length ≤ 1000000000000000) (hn : n ≤ 1000000) :
    FSpec Tryz.prog T 42 [.agg (pc s y n), .b p] (fun d _ => d = .agg (pc (inS b s) (inBy b y) (n + cnt b))) := by
  refine FSpec.of_ok tok Tryz.func42 rfl Tryz.call42 (by simp) ?_
  cases b
  · have hp : ¬ p := fun h => by cases hb.1 h
    (try (conv => whnf)); repeat' (first | refine Ok.seq ?_ | refine OkL.cons ?_ | ((first | refine Ok.region tok ?_ | refine Ok.region_draw tok follows (by kernel_rfl) ?_ | refine Ok.cond ?_); conv => whnf) | refine Ok.block ?_ | ((first | refine Ok.skip ?_ | refine Ok.exit ?_ | refine Ok.ret ?_ | refine nI ?_ | refine ix _ (by assumption) ?_ | refine ixI (by omega) (by assumption) ?_ | refine ix_new _ (by omega) fun _ _ => ?_ | refine ixI_new (by omega) (by omega) fun _ _ => ?_ | refine ⟨_, by assumption, ?_⟩ | refine Alt2.l (aI ?_) | refine Alt2.r (aI ?_)); conv => whnf) | (refine Ok.scope ?_) | ((first | refine Ok.label ?_ | refine rd rfl (by assumption) ?_ | refine ⟨_, .inl ⟨rfl, rfl⟩, ?_⟩ | refine ⟨_, _, rfl, rfl, ?_⟩); conv => whnf) | (refine ⟨fun _ => ?_, fun _ => ?_⟩ <;> (conv => whnf) <;> (try (exfalso; omega))) | ((first | refine aJ ?_ | refine num_any ?_ | refine ⟨_, rfl, ?_⟩); conv => whnf) | fail)
    all_goals first
      | (exfalso; omega)
      | (rename_i h; exact absurd h hp)
      | (refine Or.inl ?_; (conv => whnf)
         rfl)
      | trace_state
  · have hp : p := hb.2 rfl
    have hl : ([40] ++ s ++ [41] : Str).length = s.length + 2 := by simp
    (try (conv => whnf)); repeat' (first | refine Ok.seq ?_ | refine OkL.cons ?_ | ((first | refine Ok.region tok ?_ | refine Ok.region_draw tok follows (by kernel_rfl) ?_ | refine Ok.cond ?_); conv => whnf) | refine Ok.block ?_ | ((first | refine Ok.skip ?_ | refine Ok.exit ?_ | refine Ok.ret ?_ | refine nI ?_ | refine ix _ (by assumption) ?_ | refine ixI (by omega) (by assumption) ?_ | refine ix_new _ (by omega) fun _ _ => ?_ | refine ixI_new (by omega) (by omega) fun _ _ => ?_ | refine ⟨_, by assumption, ?_⟩ | refine Alt2.l (aI ?_) | refine Alt2.r (aI ?_)); conv => whnf) | (refine Ok.scope ?_) | ((first | refine Ok.label ?_ | refine rd rfl (by assumption) ?_ | refine ⟨_, .inl ⟨rfl, rfl⟩, ?_⟩ | refine ⟨_, _, rfl, rfl, ?_⟩); conv => whnf) | (refine ⟨fun _ => ?_, fun _ => ?_⟩ <;> (conv => whnf) <;> (try (exfalso; omega))) | ((first | refine aJ ?_ | refine num_any ?_ | refine ⟨_, rfl, ?_⟩); conv => whnf) | fail)
    all_goals first
      | (exfalso; omega)
      | (rename_i h; exact absurd hp h)
      | (refine Or.inl ?_; (conv => whnf)
         rfl)
      | trace_state
theorem greater_at (a b : Nat) (aI bI : Int) (e1 : aI = a) (e2 : bI = b) : FSpec Tryz.prog T 43 [.i .i64 aI, .i .i64 bI] (fun d _ => d = .i .i64 (max a b : Nat)) := by
  subst e1 e2
  refine FSpec.of_ok tok Tryz.func43 rfl Tryz.call43 (by simp) ?_
  (try (conv => whnf)); repeat' (first | refine Ok.seq ?_ | refine OkL.cons ?_ | ((first | refine Ok.region tok ?_ | refine Ok.region_draw tok follows (by kernel_rfl) ?_ | refine Ok.cond ?_); conv => whnf) | refine Ok.block ?_ | ((first | refine Ok.skip ?_ | refine Ok.exit ?_ | refine Ok.ret ?_ | refine nI ?_ | refine ix _ (by assumption) ?_ | refine ixI (by omega) (by assumption) ?_ | refine ix_new _ (by omega) fun _ _ => ?_ | refine ixI_new (by omega) (by omega) fun _ _ => ?_ | refine ⟨_, by assumption, ?_⟩ | refine Alt2.l (aI ?_) | refine Alt2.r (aI ?_)); conv => whnf) | (refine Ok.scope ?_) | ((first | refine Ok.label ?_ | refine rd rfl (by assumption) ?_ | refine ⟨_, .inl ⟨rfl, rfl⟩, ?_⟩ | refine ⟨_, _, rfl, rfl, ?_⟩); conv => whnf) | (refine ⟨fun _ => ?_, fun _ => ?_⟩ <;> (conv => whnf) <;> (try (exfalso; omega))) | ((first | refine aJ ?_ | refine num_any ?_ | refine ⟨_, rfl, ?_⟩); conv => whnf) | fail)
  · rename_i h
    refine Or.inl ?_; (conv => whnf)
    refine congrArg (D.i .i64) ?_
    omega
  · rename_i h
    refine Or.inl ?_; (conv => whnf)
    refine congrArg (D.i .i64) ?_
    omega
end Go.Proofs.YtagmibogginaaaaGreatDoor
namespace Go.Proofs.YtagmibogginaaaaGreatDoor
open Go Go.Vx Go.Shelf
def byT : Tr → Nat | .or _ _ => 1 | .and _ _ => 2 | _ => 3
theorem by_lt3 (x : Tr) : ((byT x : Nat) : Int) < 3 ↔ x.isJ = true := by cases x <;> simp [byT, Tr.isJ]
theorem by_lt2 (x : Tr) : ((byT x : Nat) : Int) < 2 ↔ x.isO = true := by cases x <;> simp [byT, Tr.isO]
theorem by_le2 (x : Tr) : ((byT x : Nat) : Int) ≤ 2 ↔ x.isJ = true := by cases x <;> simp [byT, Tr.isJ]
theorem by_lt1 (x : Tr) : ((byT x : Nat) : Int) < 1 ↔ false = true := by cases x <;> simp [byT]
theorem by_le1 (x : Tr) : ((byT x : Nat) : Int) ≤ 1 ↔ x.isO = true := by cases x <;> simp [byT, Tr.isO]
abbrev PT := Tr × Str
@[reducible] def prow (q : PT) : List D := pc q.2 (byT q.1) q.1.nest
theorem inS_len (b : Bool) (s : Str) : (inS b s).length ≤ s.length + 2 := by cases b <;> simp [inS]
@[reducible] def LB : Nat := 3000000000000
def Fit (ps : List PT) : Prop := ∀ q ∈ ps, q.2.length ≤ LB * q.1.sz
theorem fit_nil : Fit [] := fun q hq => absurd hq (by simp)
theorem ppush_nil (ps : List PT) (x : PT) : ((ps.reverse ++ []).map prow) ++ [prow x] = ((x :: ps).reverse ++ []).map prow := by simp
theorem ppush_cons (ps : List PT) (x y : PT) (j : List PT) : ((ps.reverse ++ y :: j).map prow).set ps.length (prow x) = ((x :: ps).reverse ++ j).map prow := by
  rw [List.map_append, List.set_append_right _ _ (by simp)]
  simp
theorem ppile_top (x : PT) (r j : List PT) : ((x :: r).reverse ++ j)[r.length]? = some x := by simp
theorem ppile_top2 (x y : PT) (r j : List PT) : ((y :: x :: r).reverse ++ j)[r.length]? = some x := by simp
theorem pset_top (x x' : PT) (r j : List PT) : ((x :: r).reverse ++ j).set r.length x' = (x' :: r).reverse ++ j := by simp
theorem pset_top2 (x y x' : PT) (r j : List PT) : ((y :: x :: r).reverse ++ j).set r.length x' = (x' :: r).reverse ++ (y :: j) := by simp
def tellP (e : List Nd) (d : D) : Prop := match bldO e with | some x => ∃ s : Str, d = .tup [.agg (pc s (byT x) x.nest), .b True] | none => d = .tup [.agg (pc [] 0 0), .b False]
theorem tell_none {e : List Nd} (h : bldO e = none) : tellP e (.tup [.agg (pc [] 0 0), .b False]) := by unfold tellP; rw [h]
theorem tell_some {e : List Nd} {x : Tr} (h : bldO e = some x) (s : Str) : tellP e (.tup [.agg (pc s (byT x) x.nest), .b True]) := by unfold tellP; rw [h]; exact ⟨s, rfl⟩
def TxtOk (e : List Nd) : Prop := ∀ c ∈ e, c.t.f.length ≤ 1000000000000 ∧ c.t.pat.length ≤ 1000000000000
end Go.Proofs.YtagmibogginaaaaGreatDoor
