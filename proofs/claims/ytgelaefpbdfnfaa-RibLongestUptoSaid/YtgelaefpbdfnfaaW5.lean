/- The document's Shortest. -/
import Derived.Test.YtgelaefpbdfnfaaW4
import Derived.Test.YtgelaefpbdfnfaaRO2
namespace Go.Proofs.Ytgelaefpbdfnfaa
open Go Go.Vx

theorem set_dests {far : List Int} {ds : List Int} {k : Nat} {d : Int} (hd : ds[k]? = some d) (h0 : 0 ≤ d) (h1 : d < far.length) (h : ∀ c ∈ ds.take k, far[c.toNat]? = some 0) : ∀ c ∈ ds.take (k + 1), (far.set d.toNat 0)[c.toNat]? = some 0 := by
  intro c hc
  by_cases hcd : c.toNat = d.toNat
  · rw [hcd, List.getElem?_set_self (by omega)]
  · rw [List.getElem?_set_ne (Ne.symm hcd)]
    rw [List.take_add_one, hd] at hc
    rcases List.mem_append.1 hc with hc | hc
    · exact h c hc
    · simp at hc; subst hc; exact absurd rfl hcd

set_option maxRecDepth 100000 in
set_option maxHeartbeats 4000000 in
theorem refShortest_at (n : Int) (es : List Edge) (ds : List Int) {re se rd sd : List (List D)} (he : re = es.map Edge.row) (hd : rd = ds.map irow) : FSpec Try.prog T 13 [.i .i64 n, .lst 34 re se, .lst 3 rd sd]
    (fun d rows => rows = [some (3, (farE n es ds).map irow), some (3, (fstE n es ds).map irow)] ∧ d = .tup [.own 0 (farE n es ds).length, .own 1 (fstE n es ds).length, .i .i64 (graphE n es ds)]) := by
  subst he hd
  have hel : (es.map Edge.row).length = es.length := by simp
  have hdl : (ds.map irow).length = ds.length := by simp
  refine FSpec.of_ok tok Try.func13 rfl Try.call13 (by simp) ?_
  (try (conv => whnf)); repeat' (first | refine Ok.seq ?_ | (refine Ok.region tok ?_; conv => whnf) | (refine Ok.region_plan (id := 23) tok follows [(2, 12, []), (5, 12, []), (7, 12, []), (9, 12, [])] [.q 0, .q 1, .q 2, .q 3, .q 4, .q 5, .q 6, .q 7, .q 8, .q 9, .q 10, .q 11, .l 12] (by kernel_rfl) ?_; conv => whnf) | (refine Ok.region_draw tok follows (by kernel_rfl) ?_; conv => whnf) | (refine Ok.cond ?_; conv => whnf) | refine Ok.block ?_ | (refine Ok.skip ?_; conv => whnf) | (refine Ok.exit ?_; conv => whnf) | (refine Ok.ret ?_; conv => whnf) | (refine num_in (by omega) (by omega) ?_; conv => whnf) | (refine ix _ (by assumption) ?_; conv => whnf) | (refine ixI (by omega) (by assumption) ?_; conv => whnf) | (refine ix_new _ (by omega) fun _ _ => ?_; conv => whnf) | (refine ixI_new (by omega) (by omega) fun _ _ => ?_; conv => whnf) | (refine Or.inl ?_; (conv => whnf); (repeat (refine And.intro (by first | omega | (simp; done) | (simp; omega)) ?_; (conv => whnf))); refine ⟨_, refGraph_at n es ds rfl rfl, rfl, ?_⟩; conv => whnf) | (refine ⟨_, refGraph_at n es ds rfl rfl, rfl, ?_⟩; conv => whnf) | (refine Or.inr (Or.inl ?_); (conv => whnf); (repeat (refine And.intro (by first | omega | (simp; done) | (simp; omega)) ?_; (conv => whnf))); refine ⟨_, refGraph_at n es ds rfl rfl, ?_⟩; rintro _ _ ⟨rfl, rfl⟩; conv => whnf) | (refine rd rfl (by assumption) ?_; conv => whnf) | (refine ⟨_, .inl ⟨rfl, rfl⟩, ?_⟩; conv => whnf) | (refine ⟨_, _, rfl, rfl, ?_⟩; conv => whnf) | (refine ⟨fun _ => ?_, fun _ => ?_⟩ <;> (conv => whnf) <;> (try (exfalso; omega))) | (refine And.intro (by first | omega | rfl | (simp; done) | (simp; omega)) ?_; conv => whnf) | (refine num_any ?_; conv => whnf) | (refine ⟨_, rfl, ?_⟩; conv => whnf) | fail)
  · rename_i h1
    refine Or.inr (Or.inr ?_); (conv => whnf)
    simp [oneD, farE, fstE, h1]
  rename_i h1
  have h1 : graphE n es ds = 0 := Classical.not_not.1 h1
  obtain ⟨g1, g2, g3, g4, hE, hD⟩ := graphE_ok h1
  obtain ⟨N, rfl⟩ := Int.eq_ofNat_of_zero_le (show 0 ≤ n by omega)
  obtain ⟨g, hg⟩ := dist_ex hE hD
  have hc1 : ∀ e ∈ es, 1 ≤ e.cost := fun e he => (hE e he).2.2.2.2.1
  refine Ok.ghost 10 3 rfl ?_
  (conv => whnf)
  refine Ok.ghost 11 3 rfl ?_
  (conv => whnf)
  refine Ok.loopU [0, 1, 2] [10, 11, 12] 2 0 (fun (k : Nat) => [.own 0 k, .own 1 k, .i .i64 (k : Nat)]) (fun _ b => b) (fun (k : Nat) (_ : Vx.Rows) => [some (3, (List.replicate k (-1)).map irow), some (3, (List.replicate k (-1)).map irow)]) (fun (k : Nat) => k ≤ N) (fun (k : Nat) => N - k) (0) (Nat.zero_le _) ?_; (conv => whnf); refine ⟨by ((conv => whnf); first | rfl | (simp [envCat, List.take_of_length_le, Edge.row, irow]; done) | (simp [envCat, List.take_of_length_le, Edge.row, irow]; rw [IntKind.wrap_i64]; omega)), ?_⟩
  rintro k hk
  have hrl : ((List.replicate k (-1)).map irow).length = k := by simp
  by_cases hkN : k < N
  · (try (conv => whnf)); repeat' (first | refine Ok.seq ?_ | (refine Ok.region tok ?_; conv => whnf) | (refine Ok.region_plan (id := 23) tok follows [(2, 12, []), (5, 12, []), (7, 12, []), (9, 12, [])] [.q 0, .q 1, .q 2, .q 3, .q 4, .q 5, .q 6, .q 7, .q 8, .q 9, .q 10, .q 11, .l 12] (by kernel_rfl) ?_; conv => whnf) | (refine Ok.region_draw tok follows (by kernel_rfl) ?_; conv => whnf) | (refine Ok.cond ?_; conv => whnf) | refine Ok.block ?_ | (refine Ok.skip ?_; conv => whnf) | (refine Ok.exit ?_; conv => whnf) | (refine Ok.ret ?_; conv => whnf) | (refine num_in (by omega) (by omega) ?_; conv => whnf) | (refine ix _ (by assumption) ?_; conv => whnf) | (refine ixI (by omega) (by assumption) ?_; conv => whnf) | (refine ix_new _ (by omega) fun _ _ => ?_; conv => whnf) | (refine ixI_new (by omega) (by omega) fun _ _ => ?_; conv => whnf) | (refine rd rfl (by assumption) ?_; conv => whnf) | (refine ⟨_, .inl ⟨rfl, rfl⟩, ?_⟩; conv => whnf) | (refine ⟨_, _, rfl, rfl, ?_⟩; conv => whnf) | (refine ⟨fun _ => ?_, fun _ => ?_⟩ <;> (conv => whnf) <;> (try (exfalso; omega))) | (refine And.intro (by first | omega | rfl | (simp; done) | (simp; omega)) ?_; conv => whnf) | (refine num_any ?_; conv => whnf) | (refine ⟨_, rfl, ?_⟩; conv => whnf) | fail)
    refine ⟨k + 1, by omega, by omega, ?_⟩
    (conv => whnf); simp [envCat, irow, List.replicate_succ']
  obtain rfl : N = k := by omega
  (try (conv => whnf)); repeat' (first | refine Ok.seq ?_ | (refine Ok.region tok ?_; conv => whnf) | (refine Ok.region_plan (id := 23) tok follows [(2, 12, []), (5, 12, []), (7, 12, []), (9, 12, [])] [.q 0, .q 1, .q 2, .q 3, .q 4, .q 5, .q 6, .q 7, .q 8, .q 9, .q 10, .q 11, .l 12] (by kernel_rfl) ?_; conv => whnf) | (refine Ok.region_draw tok follows (by kernel_rfl) ?_; conv => whnf) | (refine Ok.cond ?_; conv => whnf) | refine Ok.block ?_ | (refine Ok.skip ?_; conv => whnf) | (refine Ok.exit ?_; conv => whnf) | (refine Ok.ret ?_; conv => whnf) | (refine num_in (by omega) (by omega) ?_; conv => whnf) | (refine ix _ (by assumption) ?_; conv => whnf) | (refine ixI (by omega) (by assumption) ?_; conv => whnf) | (refine ix_new _ (by omega) fun _ _ => ?_; conv => whnf) | (refine ixI_new (by omega) (by omega) fun _ _ => ?_; conv => whnf) | (refine rd rfl (by assumption) ?_; conv => whnf) | (refine ⟨_, .inl ⟨rfl, rfl⟩, ?_⟩; conv => whnf) | (refine ⟨_, _, rfl, rfl, ?_⟩; conv => whnf) | (refine ⟨fun _ => ?_, fun _ => ?_⟩ <;> (conv => whnf) <;> (try (exfalso; omega))) | (refine And.intro (by first | omega | rfl | (simp; done) | (simp; omega)) ?_; conv => whnf) | (refine num_any ?_; conv => whnf) | (refine ⟨_, rfl, ?_⟩; conv => whnf) | fail)
  refine Ok.loopU [0, 1, 2, 10, 11] [13] 2 0 (fun (x : List Int × Nat) => [.i .i64 (x.2 : Nat)]) (fun _ b => b) (fun (x : List Int × Nat) (_ : Vx.Rows) => [some (3, x.1.map irow), some (3, (List.replicate N (-1)).map irow)]) (fun (x : List Int × Nat) => x.2 ≤ ds.length ∧ x.1.length = N ∧ (∀ (v : Nat) x', x.1[v]? = some x' → x' = -1 ∨ x' = 0 ∧ ((v : Nat) : Int) ∈ ds) ∧ (∀ c ∈ ds.take x.2, x.1[c.toNat]? = some 0)) (fun (x : List Int × Nat) => ds.length - x.2) ((List.replicate N (-1), 0)) (⟨Nat.zero_le _, by simp, fun v x' hv => by simp [List.getElem?_replicate] at hv; exact .inl hv.2.symm, by simp⟩) ?_; (conv => whnf); refine ⟨by ((conv => whnf); first | rfl | (simp [envCat, List.take_of_length_le, Edge.row, irow]; done) | (simp [envCat, List.take_of_length_le, Edge.row, irow]; rw [IntKind.wrap_i64]; omega)), ?_⟩
  rintro ⟨far, k⟩ ⟨hk, hfl, hlow, hde⟩
  dsimp only at hk hfl hlow hde ⊢
  have hfl' : (far.map irow).length = N := by simp [hfl]
  by_cases hkd : k < ds.length
  · obtain ⟨d, hd⟩ : ∃ d, ds[k]? = some d := ⟨_, List.getElem?_eq_getElem hkd⟩
    obtain ⟨hd0, hd1⟩ := hD d (List.mem_of_getElem? hd)
    obtain ⟨x, hx⟩ : ∃ x, far[d.toNat]? = some x := ⟨_, List.getElem?_eq_getElem (by omega)⟩
    (try (conv => whnf)); repeat' (first | refine Ok.seq ?_ | (refine Ok.region tok ?_; conv => whnf) | (refine Ok.region_plan (id := 23) tok follows [(2, 12, []), (5, 12, []), (7, 12, []), (9, 12, [])] [.q 0, .q 1, .q 2, .q 3, .q 4, .q 5, .q 6, .q 7, .q 8, .q 9, .q 10, .q 11, .l 12] (by kernel_rfl) ?_; conv => whnf) | (refine Ok.region_draw tok follows (by kernel_rfl) ?_; conv => whnf) | (refine Ok.cond ?_; conv => whnf) | refine Ok.block ?_ | (refine Ok.skip ?_; conv => whnf) | (refine Ok.exit ?_; conv => whnf) | (refine Ok.ret ?_; conv => whnf) | (refine num_in (by omega) (by omega) ?_; conv => whnf) | (refine ix _ (by assumption) ?_; conv => whnf) | (refine ixI (by omega) (by assumption) ?_; conv => whnf) | (refine ix_new _ (by omega) fun _ _ => ?_; conv => whnf) | (refine ixI_new (by omega) (by omega) fun _ _ => ?_; conv => whnf) | (refine rd rfl (by assumption) ?_; conv => whnf) | (refine ⟨_, .inl ⟨rfl, rfl⟩, ?_⟩; conv => whnf) | (refine ⟨_, _, rfl, rfl, ?_⟩; conv => whnf) | (refine ⟨fun _ => ?_, fun _ => ?_⟩ <;> (conv => whnf) <;> (try (exfalso; omega))) | (refine And.intro (by first | omega | rfl | (simp; done) | (simp; omega)) ?_; conv => whnf) | (refine num_any ?_; conv => whnf) | (refine ⟨_, rfl, ?_⟩; conv => whnf) | fail)
    refine st (0 : Int) hx (by simp [irow]) (by simp [setCells, irow]) ?_
    (try (conv => whnf)); repeat' (first | refine Ok.seq ?_ | (refine Ok.region tok ?_; conv => whnf) | (refine Ok.region_plan (id := 23) tok follows [(2, 12, []), (5, 12, []), (7, 12, []), (9, 12, [])] [.q 0, .q 1, .q 2, .q 3, .q 4, .q 5, .q 6, .q 7, .q 8, .q 9, .q 10, .q 11, .l 12] (by kernel_rfl) ?_; conv => whnf) | (refine Ok.region_draw tok follows (by kernel_rfl) ?_; conv => whnf) | (refine Ok.cond ?_; conv => whnf) | refine Ok.block ?_ | (refine Ok.skip ?_; conv => whnf) | (refine Ok.exit ?_; conv => whnf) | (refine Ok.ret ?_; conv => whnf) | (refine num_in (by omega) (by omega) ?_; conv => whnf) | (refine ix _ (by assumption) ?_; conv => whnf) | (refine ixI (by omega) (by assumption) ?_; conv => whnf) | (refine ix_new _ (by omega) fun _ _ => ?_; conv => whnf) | (refine ixI_new (by omega) (by omega) fun _ _ => ?_; conv => whnf) | (refine rd rfl (by assumption) ?_; conv => whnf) | (refine ⟨_, .inl ⟨rfl, rfl⟩, ?_⟩; conv => whnf) | (refine ⟨_, _, rfl, rfl, ?_⟩; conv => whnf) | (refine ⟨fun _ => ?_, fun _ => ?_⟩ <;> (conv => whnf) <;> (try (exfalso; omega))) | (refine And.intro (by first | omega | rfl | (simp; done) | (simp; omega)) ?_; conv => whnf) | (refine num_any ?_; conv => whnf) | (refine ⟨_, rfl, ?_⟩; conv => whnf) | fail)
    refine ⟨(far.set d.toNat 0, k + 1), by dsimp only; omega, ⟨by dsimp only; omega, by simp [hfl], fun v x' hv => ?_, set_dests hd hd0 (by omega) hde⟩, ?_⟩
    · by_cases hvd : v = d.toNat
      · subst hvd
        rw [List.getElem?_set_self (by omega)] at hv
        cases hv
        refine .inr ⟨rfl, ?_⟩
        rw [Int.toNat_of_nonneg hd0]
        exact List.mem_of_getElem? hd
      · rw [List.getElem?_set_ne (Ne.symm hvd)] at hv
        exact hlow v x' hv
    · (conv => whnf); (first | rfl | simp [envCat, List.take_of_length_le, Edge.row, irow])
  have hkk : k = ds.length := by omega
  subst hkk
  rw [List.take_length] at hde
  have hR : Rnd N es ds g far 0 0 := ⟨hfl, fun v x hv => by
    rcases hlow v x hv with h | ⟨rfl, hvd⟩
    · exact .inl h
    · exact .inr ⟨0, by have := hg.dest _ hvd; simpa using this, by omega, by omega⟩, hde, fun _ _ _ _ h => by omega, fun _ _ _ _ _ _ _ _ h => by omega⟩
  have hfb0 : ∀ (v : Nat) y, far[v]? = some y → y ≤ 0 := fun v y hv => by rcases hlow v y hv with h | h <;> omega
  clear hlow hde
  (try (conv => whnf)); repeat' (first | refine Ok.seq ?_ | (refine Ok.region tok ?_; conv => whnf) | (refine Ok.region_plan (id := 23) tok follows [(2, 12, []), (5, 12, []), (7, 12, []), (9, 12, [])] [.q 0, .q 1, .q 2, .q 3, .q 4, .q 5, .q 6, .q 7, .q 8, .q 9, .q 10, .q 11, .l 12] (by kernel_rfl) ?_; conv => whnf) | (refine Ok.region_draw tok follows (by kernel_rfl) ?_; conv => whnf) | (refine Ok.cond ?_; conv => whnf) | refine Ok.block ?_ | (refine Ok.skip ?_; conv => whnf) | (refine Ok.exit ?_; conv => whnf) | (refine Ok.ret ?_; conv => whnf) | (refine num_in (by omega) (by omega) ?_; conv => whnf) | (refine ix _ (by assumption) ?_; conv => whnf) | (refine ixI (by omega) (by assumption) ?_; conv => whnf) | (refine ix_new _ (by omega) fun _ _ => ?_; conv => whnf) | (refine ixI_new (by omega) (by omega) fun _ _ => ?_; conv => whnf) | (refine rd rfl (by assumption) ?_; conv => whnf) | (refine ⟨_, .inl ⟨rfl, rfl⟩, ?_⟩; conv => whnf) | (refine ⟨_, _, rfl, rfl, ?_⟩; conv => whnf) | (refine ⟨fun _ => ?_, fun _ => ?_⟩ <;> (conv => whnf) <;> (try (exfalso; omega))) | (refine And.intro (by first | omega | rfl | (simp; done) | (simp; omega)) ?_; conv => whnf) | (refine num_any ?_; conv => whnf) | (refine ⟨_, rfl, ?_⟩; conv => whnf) | fail)
  refine Ok.loopU [0, 1, 10, 11] [14] 2 0 (fun (x : List Int × Nat) => [.i .i64 (x.2 : Nat)]) (fun _ b => b) (fun (x : List Int × Nat) (_ : Vx.Rows) => [some (3, x.1.map irow), some (3, (List.replicate N (-1)).map irow)]) (fun (x : List Int × Nat) => x.2 ≤ N ∧ Rnd N es ds g x.1 x.2 0 ∧ (∀ (v : Nat) y, x.1[v]? = some y → y ≤ 480000 * x.2)) (fun (x : List Int × Nat) => N - x.2) ((far, 0)) (⟨Nat.zero_le _, hR, fun v y hv => by have := hfb0 v y hv; dsimp only; omega⟩) ?_; (conv => whnf); refine ⟨by ((conv => whnf); first | rfl | (simp [envCat, List.take_of_length_le, Edge.row, irow]; done) | (simp [envCat, List.take_of_length_le, Edge.row, irow]; rw [IntKind.wrap_i64]; omega)), ?_⟩
  clear hR hfb0 hfl hfl' far
  rintro ⟨far, j⟩ ⟨hj, hR, hfb⟩
  dsimp only at hj hR hfb ⊢
  have hfl : far.length = N := hR.len
  have hfl' : (far.map irow).length = N := by simp [hfl]
  by_cases hjN : j < N
  · (try (conv => whnf)); repeat' (first | refine Ok.seq ?_ | (refine Ok.region tok ?_; conv => whnf) | (refine Ok.region_plan (id := 23) tok follows [(2, 12, []), (5, 12, []), (7, 12, []), (9, 12, [])] [.q 0, .q 1, .q 2, .q 3, .q 4, .q 5, .q 6, .q 7, .q 8, .q 9, .q 10, .q 11, .l 12] (by kernel_rfl) ?_; conv => whnf) | (refine Ok.region_draw tok follows (by kernel_rfl) ?_; conv => whnf) | (refine Ok.cond ?_; conv => whnf) | refine Ok.block ?_ | (refine Ok.skip ?_; conv => whnf) | (refine Ok.exit ?_; conv => whnf) | (refine Ok.ret ?_; conv => whnf) | (refine num_in (by omega) (by omega) ?_; conv => whnf) | (refine ix _ (by assumption) ?_; conv => whnf) | (refine ixI (by omega) (by assumption) ?_; conv => whnf) | (refine ix_new _ (by omega) fun _ _ => ?_; conv => whnf) | (refine ixI_new (by omega) (by omega) fun _ _ => ?_; conv => whnf) | (refine rd rfl (by assumption) ?_; conv => whnf) | (refine ⟨_, .inl ⟨rfl, rfl⟩, ?_⟩; conv => whnf) | (refine ⟨_, _, rfl, rfl, ?_⟩; conv => whnf) | (refine ⟨fun _ => ?_, fun _ => ?_⟩ <;> (conv => whnf) <;> (try (exfalso; omega))) | (refine And.intro (by first | omega | rfl | (simp; done) | (simp; omega)) ?_; conv => whnf) | (refine num_any ?_; conv => whnf) | (refine ⟨_, rfl, ?_⟩; conv => whnf) | fail)
    refine Ok.loopU [0, 1, 10, 11, 14] [15] 2 0 (fun (x : List Int × Nat) => [.i .i64 (x.2 : Nat)]) (fun _ b => b) (fun (x : List Int × Nat) (_ : Vx.Rows) => [some (3, x.1.map irow), some (3, (List.replicate N (-1)).map irow)]) (fun (x : List Int × Nat) => x.2 ≤ es.length ∧ Rnd N es ds g x.1 j x.2 ∧ (∀ (v : Nat) y, x.1[v]? = some y → y ≤ 480000 * j + 9999 * x.2)) (fun (x : List Int × Nat) => es.length - x.2) ((far, 0)) (⟨Nat.zero_le _, hR, fun v y hv => by have := hfb v y hv; dsimp only; omega⟩) ?_; (conv => whnf); refine ⟨by ((conv => whnf); first | rfl | (simp [envCat, List.take_of_length_le, Edge.row, irow]; done) | (simp [envCat, List.take_of_length_le, Edge.row, irow]; rw [IntKind.wrap_i64]; omega)), ?_⟩
    clear hR hfb hfl hfl' far
    rintro ⟨far, k⟩ ⟨hk, hR, hfb⟩
    dsimp only at hk hR hfb ⊢
    have hfl : far.length = N := hR.len
    have hfl' : (far.map irow).length = N := by simp [hfl]
    by_cases hke : k < es.length
    · obtain ⟨e, he⟩ : ∃ e, es[k]? = some e := ⟨_, List.getElem?_eq_getElem hke⟩
      obtain ⟨e1, e2, e3, e4, e5, e6, _, _⟩ := hE e (List.mem_of_getElem? he)
      obtain ⟨x, hx⟩ : ∃ y, far[e.frm.toNat]? = some y := ⟨_, List.getElem?_eq_getElem (by omega)⟩
      obtain ⟨y, hy⟩ : ∃ y, far[e.to.toNat]? = some y := ⟨_, List.getElem?_eq_getElem (by omega)⟩
      have hyb := hfb _ y hy
      have hyl : -1 ≤ y := by rcases hR.low _ y hy with h | ⟨_, _, _, _⟩ <;> omega
      have hre : relax far e = if 0 ≤ y ∧ (x < 0 ∨ y + e.cost < x) then far.set e.frm.toNat (y + e.cost) else far := by unfold relax; rw [hy, hx]
      have hR' := hR.step hg e5 e1 e2 e3 e4 he
      have hskip : ¬ (0 ≤ y ∧ (x < 0 ∨ y + e.cost < x)) → Rnd N es ds g far j (k + 1) := fun h => by rw [hre, if_neg h] at hR'; exact hR'
      have htake : (0 ≤ y ∧ (x < 0 ∨ y + e.cost < x)) → Rnd N es ds g (far.set e.frm.toNat (y + e.cost)) j (k + 1) := fun h => by rw [hre, if_pos h] at hR'; exact hR'
      clear hR' hre
      (try (conv => whnf)); repeat' (first | refine Ok.seq ?_ | (refine Ok.region tok ?_; conv => whnf) | (refine Ok.region_plan (id := 23) tok follows [(2, 12, []), (5, 12, []), (7, 12, []), (9, 12, [])] [.q 0, .q 1, .q 2, .q 3, .q 4, .q 5, .q 6, .q 7, .q 8, .q 9, .q 10, .q 11, .l 12] (by kernel_rfl) ?_; conv => whnf) | (refine Ok.region_draw tok follows (by kernel_rfl) ?_; conv => whnf) | (refine Ok.cond ?_; conv => whnf) | refine Ok.block ?_ | (refine Ok.skip ?_; conv => whnf) | (refine Ok.exit ?_; conv => whnf) | (refine Ok.ret ?_; conv => whnf) | (refine num_in (by omega) (by omega) ?_; conv => whnf) | (refine ix _ (by assumption) ?_; conv => whnf) | (refine ixI (by omega) (by assumption) ?_; conv => whnf) | (refine ix_new _ (by omega) fun _ _ => ?_; conv => whnf) | (refine ixI_new (by omega) (by omega) fun _ _ => ?_; conv => whnf) | (refine rd rfl (by assumption) ?_; conv => whnf) | (refine ⟨_, .inl ⟨rfl, rfl⟩, ?_⟩; conv => whnf) | (refine ⟨_, _, rfl, rfl, ?_⟩; conv => whnf) | (refine ⟨fun _ => ?_, fun _ => ?_⟩ <;> (conv => whnf) <;> (try (exfalso; omega))) | (refine And.intro (by first | omega | rfl | (simp; done) | (simp; omega)) ?_; conv => whnf) | (refine num_any ?_; conv => whnf) | (refine ⟨_, rfl, ?_⟩; conv => whnf) | fail)
      · refine st (y + e.cost) hx (by simp [irow]) (by simp [setCells, irow]) ?_
        (try (conv => whnf)); repeat' (first | refine Ok.seq ?_ | (refine Ok.region tok ?_; conv => whnf) | (refine Ok.region_plan (id := 23) tok follows [(2, 12, []), (5, 12, []), (7, 12, []), (9, 12, [])] [.q 0, .q 1, .q 2, .q 3, .q 4, .q 5, .q 6, .q 7, .q 8, .q 9, .q 10, .q 11, .l 12] (by kernel_rfl) ?_; conv => whnf) | (refine Ok.region_draw tok follows (by kernel_rfl) ?_; conv => whnf) | (refine Ok.cond ?_; conv => whnf) | refine Ok.block ?_ | (refine Ok.skip ?_; conv => whnf) | (refine Ok.exit ?_; conv => whnf) | (refine Ok.ret ?_; conv => whnf) | (refine num_in (by omega) (by omega) ?_; conv => whnf) | (refine ix _ (by assumption) ?_; conv => whnf) | (refine ixI (by omega) (by assumption) ?_; conv => whnf) | (refine ix_new _ (by omega) fun _ _ => ?_; conv => whnf) | (refine ixI_new (by omega) (by omega) fun _ _ => ?_; conv => whnf) | (refine rd rfl (by assumption) ?_; conv => whnf) | (refine ⟨_, .inl ⟨rfl, rfl⟩, ?_⟩; conv => whnf) | (refine ⟨_, _, rfl, rfl, ?_⟩; conv => whnf) | (refine ⟨fun _ => ?_, fun _ => ?_⟩ <;> (conv => whnf) <;> (try (exfalso; omega))) | (refine And.intro (by first | omega | rfl | (simp; done) | (simp; omega)) ?_; conv => whnf) | (refine num_any ?_; conv => whnf) | (refine ⟨_, rfl, ?_⟩; conv => whnf) | fail)
        have hT := htake (by omega)
        refine ⟨(far.set e.frm.toNat (y + e.cost), k + 1), by dsimp only; omega, ⟨by dsimp only; omega, hT, fun v z hv => ?_⟩, ?_⟩
        · dsimp only at hv ⊢
          rw [List.getElem?_set] at hv
          split at hv
          · split at hv
            · cases hv; omega
            · cases hv
          · have := hfb v z hv; omega
        · (conv => whnf); (first | rfl | simp [envCat, List.take_of_length_le, Edge.row, irow])
      · refine st (y + e.cost) hx (by simp [irow]) (by simp [setCells, irow]) ?_
        (try (conv => whnf)); repeat' (first | refine Ok.seq ?_ | (refine Ok.region tok ?_; conv => whnf) | (refine Ok.region_plan (id := 23) tok follows [(2, 12, []), (5, 12, []), (7, 12, []), (9, 12, [])] [.q 0, .q 1, .q 2, .q 3, .q 4, .q 5, .q 6, .q 7, .q 8, .q 9, .q 10, .q 11, .l 12] (by kernel_rfl) ?_; conv => whnf) | (refine Ok.region_draw tok follows (by kernel_rfl) ?_; conv => whnf) | (refine Ok.cond ?_; conv => whnf) | refine Ok.block ?_ | (refine Ok.skip ?_; conv => whnf) | (refine Ok.exit ?_; conv => whnf) | (refine Ok.ret ?_; conv => whnf) | (refine num_in (by omega) (by omega) ?_; conv => whnf) | (refine ix _ (by assumption) ?_; conv => whnf) | (refine ixI (by omega) (by assumption) ?_; conv => whnf) | (refine ix_new _ (by omega) fun _ _ => ?_; conv => whnf) | (refine ixI_new (by omega) (by omega) fun _ _ => ?_; conv => whnf) | (refine rd rfl (by assumption) ?_; conv => whnf) | (refine ⟨_, .inl ⟨rfl, rfl⟩, ?_⟩; conv => whnf) | (refine ⟨_, _, rfl, rfl, ?_⟩; conv => whnf) | (refine ⟨fun _ => ?_, fun _ => ?_⟩ <;> (conv => whnf) <;> (try (exfalso; omega))) | (refine And.intro (by first | omega | rfl | (simp; done) | (simp; omega)) ?_; conv => whnf) | (refine num_any ?_; conv => whnf) | (refine ⟨_, rfl, ?_⟩; conv => whnf) | fail)
        have hT := htake (by omega)
        refine ⟨(far.set e.frm.toNat (y + e.cost), k + 1), by dsimp only; omega, ⟨by dsimp only; omega, hT, fun v z hv => ?_⟩, ?_⟩
        · dsimp only at hv ⊢
          rw [List.getElem?_set] at hv
          split at hv
          · split at hv
            · cases hv; omega
            · cases hv
          · have := hfb v z hv; omega
        · (conv => whnf); (first | rfl | simp [envCat, List.take_of_length_le, Edge.row, irow])
      all_goals
        refine ⟨(far, k + 1), by dsimp only; omega, ⟨by dsimp only; omega, hskip (by omega), fun v y hv => by have := hfb v y hv; dsimp only; omega⟩, ?_⟩
        (conv => whnf); (first | rfl | simp [envCat, List.take_of_length_le, Edge.row, irow])
    · obtain rfl : k = es.length := by omega
      (try (conv => whnf)); repeat' (first | refine Ok.seq ?_ | (refine Ok.region tok ?_; conv => whnf) | (refine Ok.region_plan (id := 23) tok follows [(2, 12, []), (5, 12, []), (7, 12, []), (9, 12, [])] [.q 0, .q 1, .q 2, .q 3, .q 4, .q 5, .q 6, .q 7, .q 8, .q 9, .q 10, .q 11, .l 12] (by kernel_rfl) ?_; conv => whnf) | (refine Ok.region_draw tok follows (by kernel_rfl) ?_; conv => whnf) | (refine Ok.cond ?_; conv => whnf) | refine Ok.block ?_ | (refine Ok.skip ?_; conv => whnf) | (refine Ok.exit ?_; conv => whnf) | (refine Ok.ret ?_; conv => whnf) | (refine num_in (by omega) (by omega) ?_; conv => whnf) | (refine ix _ (by assumption) ?_; conv => whnf) | (refine ixI (by omega) (by assumption) ?_; conv => whnf) | (refine ix_new _ (by omega) fun _ _ => ?_; conv => whnf) | (refine ixI_new (by omega) (by omega) fun _ _ => ?_; conv => whnf) | (refine rd rfl (by assumption) ?_; conv => whnf) | (refine ⟨_, .inl ⟨rfl, rfl⟩, ?_⟩; conv => whnf) | (refine ⟨_, _, rfl, rfl, ?_⟩; conv => whnf) | (refine ⟨fun _ => ?_, fun _ => ?_⟩ <;> (conv => whnf) <;> (try (exfalso; omega))) | (refine And.intro (by first | omega | rfl | (simp; done) | (simp; omega)) ?_; conv => whnf) | (refine num_any ?_; conv => whnf) | (refine ⟨_, rfl, ?_⟩; conv => whnf) | fail)
      refine ⟨(far, j + 1), by dsimp only; omega, ⟨by dsimp only; omega, hR.next hg (fun d h => (hD d h).1), fun v y hv => by have := hfb v y hv; dsimp only; omega⟩, ?_⟩
      (conv => whnf); (first | rfl | simp [envCat, List.take_of_length_le, Edge.row, irow])
  · obtain rfl : N = j := by omega
    obtain rfl := hR.done hg
    (try (conv => whnf)); repeat' (first | refine Ok.seq ?_ | (refine Ok.region tok ?_; conv => whnf) | (refine Ok.region_plan (id := 23) tok follows [(2, 12, []), (5, 12, []), (7, 12, []), (9, 12, [])] [.q 0, .q 1, .q 2, .q 3, .q 4, .q 5, .q 6, .q 7, .q 8, .q 9, .q 10, .q 11, .l 12] (by kernel_rfl) ?_; conv => whnf) | (refine Ok.region_draw tok follows (by kernel_rfl) ?_; conv => whnf) | (refine Ok.cond ?_; conv => whnf) | refine Ok.block ?_ | (refine Ok.skip ?_; conv => whnf) | (refine Ok.exit ?_; conv => whnf) | (refine Ok.ret ?_; conv => whnf) | (refine num_in (by omega) (by omega) ?_; conv => whnf) | (refine ix _ (by assumption) ?_; conv => whnf) | (refine ixI (by omega) (by assumption) ?_; conv => whnf) | (refine ix_new _ (by omega) fun _ _ => ?_; conv => whnf) | (refine ixI_new (by omega) (by omega) fun _ _ => ?_; conv => whnf) | (refine rd rfl (by assumption) ?_; conv => whnf) | (refine ⟨_, .inl ⟨rfl, rfl⟩, ?_⟩; conv => whnf) | (refine ⟨_, _, rfl, rfl, ?_⟩; conv => whnf) | (refine ⟨fun _ => ?_, fun _ => ?_⟩ <;> (conv => whnf) <;> (try (exfalso; omega))) | (refine And.intro (by first | omega | rfl | (simp; done) | (simp; omega)) ?_; conv => whnf) | (refine num_any ?_; conv => whnf) | (refine ⟨_, rfl, ?_⟩; conv => whnf) | fail)
    refine Ok.loopU [1, 10, 11] [17] 2 0 (fun (x : List Int × Nat) => [.i .i64 ((x.2 : Nat) - 1 : Int)]) (fun _ b => b) (fun (x : List Int × Nat) (_ : Vx.Rows) => [some (3, far.map irow), some (3, x.1.map irow)]) (fun (x : List Int × Nat) => x.2 ≤ es.length ∧ IsFirst N es far x.1 x.2 es.length) (fun (x : List Int × Nat) => x.2) ((List.replicate N (-1), es.length)) (⟨Nat.le_refl _, by simp, fun v p hv => .inl ⟨by simp [List.getElem?_replicate] at hv; omega, fun i h h' => by dsimp only at h; omega⟩⟩) ?_; (conv => whnf); refine ⟨by ((conv => whnf); first | rfl | (simp [envCat, List.take_of_length_le, Edge.row, irow]; done) | (simp [envCat, List.take_of_length_le, Edge.row, irow]; rw [IntKind.wrap_i64]; omega)), ?_⟩
    rintro ⟨f, m⟩ ⟨hm, hf⟩
    dsimp only at hm hf ⊢
    have hffl : (f.map irow).length = N := by simp [hf.1]
    rcases m with _ | k
    · (try (conv => whnf)); repeat' (first | refine Ok.seq ?_ | (refine Ok.region tok ?_; conv => whnf) | (refine Ok.region_plan (id := 23) tok follows [(2, 12, []), (5, 12, []), (7, 12, []), (9, 12, [])] [.q 0, .q 1, .q 2, .q 3, .q 4, .q 5, .q 6, .q 7, .q 8, .q 9, .q 10, .q 11, .l 12] (by kernel_rfl) ?_; conv => whnf) | (refine Ok.region_draw tok follows (by kernel_rfl) ?_; conv => whnf) | (refine Ok.cond ?_; conv => whnf) | refine Ok.block ?_ | (refine Ok.skip ?_; conv => whnf) | (refine Ok.exit ?_; conv => whnf) | (refine Ok.ret ?_; conv => whnf) | (refine num_in (by omega) (by omega) ?_; conv => whnf) | (refine ix _ (by assumption) ?_; conv => whnf) | (refine ixI (by omega) (by assumption) ?_; conv => whnf) | (refine ix_new _ (by omega) fun _ _ => ?_; conv => whnf) | (refine ixI_new (by omega) (by omega) fun _ _ => ?_; conv => whnf) | (refine rd rfl (by assumption) ?_; conv => whnf) | (refine ⟨_, .inl ⟨rfl, rfl⟩, ?_⟩; conv => whnf) | (refine ⟨_, _, rfl, rfl, ?_⟩; conv => whnf) | (refine ⟨fun _ => ?_, fun _ => ?_⟩ <;> (conv => whnf) <;> (try (exfalso; omega))) | (refine And.intro (by first | omega | rfl | (simp; done) | (simp; omega)) ?_; conv => whnf) | (refine num_any ?_; conv => whnf) | (refine ⟨_, rfl, ?_⟩; conv => whnf) | fail)
      refine Or.inr (Or.inl ?_); (conv => whnf)
      have h2 : farE (N : Int) es ds = far := by unfold farE; rw [if_neg (by omega), Int.toNat_natCast]; exact distF_eq hc1 hg
      have h3 : fstE (N : Int) es ds = f := by unfold fstE; rw [if_neg (by omega), Int.toNat_natCast, distF_eq hc1 hg]; exact firF_eq hf
      rw [h2, h3, h1]
      simp [oneD, hg.len, hf.1]
    · obtain ⟨e, he⟩ : ∃ e, es[k]? = some e := ⟨_, List.getElem?_eq_getElem (by omega)⟩
      obtain ⟨e1, e2, e3, e4, e5, e6, _, _⟩ := hE e (List.mem_of_getElem? he)
      obtain ⟨x, hx⟩ : ∃ y, far[e.frm.toNat]? = some y := ⟨_, List.getElem?_eq_getElem (by omega)⟩
      obtain ⟨y, hy⟩ : ∃ y, far[e.to.toNat]? = some y := ⟨_, List.getElem?_eq_getElem (by omega)⟩
      obtain ⟨p, hp⟩ : ∃ y, f[e.frm.toNat]? = some y := ⟨_, List.getElem?_eq_getElem (by rw [hf.1]; omega)⟩
      have hTi : Ti es far k e.frm.toNat ↔ 0 ≤ y ∧ x = y + e.cost := by
        constructor
        · rintro ⟨e', x', y', h1, h2, h3, h4, h5, h6⟩
          rw [he] at h1; cases h1
          rw [hy] at h3; cases h3
          rw [hx] at h5; cases h5
          exact ⟨h4, h6⟩
        · rintro ⟨h1, h2⟩
          exact ⟨e, x, y, he, rfl, hy, h1, hx, h2⟩
      have hTo : ∀ v, v ≠ e.frm.toNat → ¬ Ti es far k v := by
        rintro v hv ⟨e', x', y', h1, h2, _⟩
        rw [he] at h1; cases h1
        exact hv h2.symm
      have hyb := hfb _ y hy
      have hyl : -1 ≤ y := by rcases hR.low _ y hy with h | ⟨_, _, _, _⟩ <;> omega
      have hskip : ¬ (0 ≤ y ∧ x = y + e.cost) → IsFirst N es far f k es.length := fun hc => ⟨hf.1, fun v q hv => (hf.2 v q hv).skipL (by
        by_cases hvg : v = e.frm.toNat
        · subst hvg
          exact fun h => hc (hTi.1 h)
        · exact hTo v hvg)⟩
      have htake : 0 ≤ y → x = y + e.cost → IsFirst N es far (f.set e.frm.toNat (k : Int)) k es.length := fun h1 h2 => ⟨by simp [hf.1], fun v q hv => by
        by_cases hvg : v = e.frm.toNat
        · subst hvg
          rw [List.getElem?_set_self (by rw [hf.1]; omega)] at hv
          cases hv
          exact .takeL (by omega) (hTi.2 ⟨h1, h2⟩)
        · rw [List.getElem?_set_ne (Ne.symm hvg)] at hv
          exact (hf.2 v q hv).skipL (hTo v hvg)⟩
      have he' : es[(((k + 1 : Nat) : Int) - 1).toNat]? = some e := by rw [show (((k + 1 : Nat) : Int) - 1).toNat = k by omega]; exact he
      have hk1 : (((k + 1 : Nat) : Int) - 1) = (k : Int) := by omega
      (try (conv => whnf)); repeat' (first | refine Ok.seq ?_ | (refine Ok.region tok ?_; conv => whnf) | (refine Ok.region_plan (id := 23) tok follows [(2, 12, []), (5, 12, []), (7, 12, []), (9, 12, [])] [.q 0, .q 1, .q 2, .q 3, .q 4, .q 5, .q 6, .q 7, .q 8, .q 9, .q 10, .q 11, .l 12] (by kernel_rfl) ?_; conv => whnf) | (refine Ok.region_draw tok follows (by kernel_rfl) ?_; conv => whnf) | (refine Ok.cond ?_; conv => whnf) | refine Ok.block ?_ | (refine Ok.skip ?_; conv => whnf) | (refine Ok.exit ?_; conv => whnf) | (refine Ok.ret ?_; conv => whnf) | (refine num_in (by omega) (by omega) ?_; conv => whnf) | (refine ix _ (by assumption) ?_; conv => whnf) | (refine ixI (by omega) (by assumption) ?_; conv => whnf) | (refine ix_new _ (by omega) fun _ _ => ?_; conv => whnf) | (refine ixI_new (by omega) (by omega) fun _ _ => ?_; conv => whnf) | (refine rd rfl (by assumption) ?_; conv => whnf) | (refine ⟨_, .inl ⟨rfl, rfl⟩, ?_⟩; conv => whnf) | (refine ⟨_, _, rfl, rfl, ?_⟩; conv => whnf) | (refine ⟨fun _ => ?_, fun _ => ?_⟩ <;> (conv => whnf) <;> (try (exfalso; omega))) | (refine And.intro (by first | omega | rfl | (simp; done) | (simp; omega)) ?_; conv => whnf) | (refine num_any ?_; conv => whnf) | (refine ⟨_, rfl, ?_⟩; conv => whnf) | fail)
      · refine st (((k + 1 : Nat) : Int) - 1) hp (by simp [irow]) (by simp [setCells, irow]) ?_
        (try (conv => whnf)); repeat' (first | refine Ok.seq ?_ | (refine Ok.region tok ?_; conv => whnf) | (refine Ok.region_plan (id := 23) tok follows [(2, 12, []), (5, 12, []), (7, 12, []), (9, 12, [])] [.q 0, .q 1, .q 2, .q 3, .q 4, .q 5, .q 6, .q 7, .q 8, .q 9, .q 10, .q 11, .l 12] (by kernel_rfl) ?_; conv => whnf) | (refine Ok.region_draw tok follows (by kernel_rfl) ?_; conv => whnf) | (refine Ok.cond ?_; conv => whnf) | refine Ok.block ?_ | (refine Ok.skip ?_; conv => whnf) | (refine Ok.exit ?_; conv => whnf) | (refine Ok.ret ?_; conv => whnf) | (refine num_in (by omega) (by omega) ?_; conv => whnf) | (refine ix _ (by assumption) ?_; conv => whnf) | (refine ixI (by omega) (by assumption) ?_; conv => whnf) | (refine ix_new _ (by omega) fun _ _ => ?_; conv => whnf) | (refine ixI_new (by omega) (by omega) fun _ _ => ?_; conv => whnf) | (refine rd rfl (by assumption) ?_; conv => whnf) | (refine ⟨_, .inl ⟨rfl, rfl⟩, ?_⟩; conv => whnf) | (refine ⟨_, _, rfl, rfl, ?_⟩; conv => whnf) | (refine ⟨fun _ => ?_, fun _ => ?_⟩ <;> (conv => whnf) <;> (try (exfalso; omega))) | (refine And.intro (by first | omega | rfl | (simp; done) | (simp; omega)) ?_; conv => whnf) | (refine num_any ?_; conv => whnf) | (refine ⟨_, rfl, ?_⟩; conv => whnf) | fail)
        refine ⟨(f.set e.frm.toNat (k : Int), k), by dsimp only; omega, ⟨by dsimp only; omega, htake (by omega) (by omega)⟩, ?_⟩
        rw [hk1]
        (conv => whnf); (first | rfl | simp [envCat, List.take_of_length_le, Edge.row, irow])
      all_goals
        refine ⟨(f, k), by dsimp only; omega, ⟨by dsimp only; omega, hskip (by omega)⟩, ?_⟩
        rw [hk1]
        (conv => whnf); (first | rfl | simp [envCat, List.take_of_length_le, Edge.row, irow])
end Go.Proofs.Ytgelaefpbdfnfaa
