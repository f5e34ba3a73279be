/- RibWays: the law. -/
import Derived.Test.YtgelaefpbdfnfaaX2
namespace Go.Proofs.Ytgelaefpbdfnfaa
open Go Go.Vx

theorem firstOf_ex (es : List Edge) (far : List Int) (v : Nat) : ∀ hi, ∃ p, FirstOf es far 0 hi v p
  | 0 => ⟨-1, .inl ⟨rfl, fun i _ h => by omega⟩⟩
  | hi + 1 => by
    obtain ⟨p, hp⟩ := firstOf_ex es far v hi
    by_cases h : ¬ Ti es far hi v ∨ 0 ≤ p
    · exact ⟨p, hp.skipR h⟩
    · exact ⟨hi, hp.takeR (by omega) (Nat.zero_le _) (Classical.not_not.1 fun h' => h (.inl h'))⟩
theorem isFirst_ex (n : Nat) (es : List Edge) (far : List Int) : ∃ f, IsFirst n es far f 0 es.length := by
  refine ⟨(List.range n).map fun v => (firstOf_ex es far v es.length).choose, by simp, fun v p hv => ?_⟩
  rw [List.getElem?_map] at hv
  by_cases h : v < n
  · rw [List.getElem?_range h] at hv
    cases hv
    exact (firstOf_ex es far v es.length).choose_spec
  · rw [List.getElem?_eq_none (by simp; omega)] at hv
    cases hv
theorem short_ok {n : Int} {es : List Edge} {ds : List Int} (h : graphE n es ds = 0) : ∃ (N : Nat) (far fst : List Int), n = (N : Int) ∧ IsDist N es ds far ∧ IsFirst N es far fst 0 es.length ∧ farE n es ds = far ∧ fstE n es ds = fst := by
  obtain ⟨g1, g2, g3, g4, hE, hD⟩ := graphE_ok h
  obtain ⟨N, rfl⟩ := Int.eq_ofNat_of_zero_le (show 0 ≤ n by omega)
  obtain ⟨far, hg⟩ := dist_ex hE hD
  obtain ⟨fst, hf⟩ := isFirst_ex N es far
  have hc1 : ∀ e ∈ es, 1 ≤ e.cost := fun e he => (hE e he).2.2.2.2.1
  refine ⟨N, far, fst, rfl, hg, hf, ?_, ?_⟩
  · unfold farE; rw [if_neg (by omega), Int.toNat_natCast]; exact distF_eq hc1 hg
  · unfold fstE; rw [if_neg (by omega), Int.toNat_natCast, distF_eq hc1 hg]; exact firF_eq hf

set_option maxRecDepth 100000 in
set_option maxHeartbeats 4000000 in
theorem ways_law (n : Int) (es : List Edge) (ds : List Int) (re rq : List (List D)) : FSpec Try.prog T 10 [.i .i64 n, .lst 34 (es.map Edge.row) re, .lst 3 (ds.map irow) rq] (fun d _ => d = .b True) := by
  refine FSpec.of_ok tok Try.func10 rfl Try.call10 (by simp) ?_
  have hel : (es.map Edge.row).length = es.length := by simp
  have hdl : (ds.map irow).length = ds.length := by simp
  have hs := Shortest_at n es ds (re := es.map Edge.row) (rd := ds.map irow) (se := re) (sd := rq) rfl rfl
  by_cases h1 : graphE n es ds = 0
  · obtain ⟨N, far, fst, rfl, hg, hf, e1, e2⟩ := short_ok h1
    obtain ⟨g1, g2, g3, g4, hE, hD⟩ := graphE_ok h1
    rw [e1, e2, h1] at hs
    have hfl : (far.map irow).length = N := by simp [hg.len]
    have hsl : (fst.map irow).length = N := by simp [hf.1]
    have hfl2 := hg.len
    have hsl2 := hf.1
    have hc : ∀ e ∈ es, 1 ≤ e.cost ∧ e.cost ≤ 9999 := fun e he => ⟨(hE e he).2.2.2.2.1, (hE e he).2.2.2.2.2.1⟩
    have hbd := dist_le (by omega) hc hg
    (try (conv => whnf)); repeat' (first | refine Ok.seq ?_ | (refine Ok.region tok ?_; conv => whnf) | (refine Ok.region_draw tok follows (by kernel_rfl) ?_; conv => whnf) | (refine Ok.cond ?_; conv => whnf) | refine Ok.block ?_ | (refine Ok.skip ?_; conv => whnf) | (refine Ok.exit ?_; conv => whnf) | (refine Ok.ret ?_; conv => whnf) | (refine num_in (by omega) (by omega) ?_; conv => whnf) | (refine ix _ (by assumption) ?_; conv => whnf) | (refine ixI (by omega) (by assumption) ?_; conv => whnf) | (refine ix_new _ (by omega) fun _ _ => ?_; conv => whnf) | (refine ixI_new (by omega) (by omega) fun _ _ => ?_; conv => whnf) | (refine Or.inl ?_; (conv => whnf); (repeat (refine And.intro (by first | omega | (simp; done) | (simp; omega)) ?_; (conv => whnf))); refine ⟨_, awake_spec, rfl, ?_⟩; conv => whnf) | (refine Or.inl ?_; (conv => whnf); (repeat (refine And.intro (by first | omega | (simp; done) | (simp; omega)) ?_; (conv => whnf))); refine ⟨_, below_at hE hD rfl rfl (by omega) (by omega), rfl, ?_⟩; conv => whnf) | (refine ⟨_, awake_spec, rfl, ?_⟩; conv => whnf) | (refine ⟨_, below_at hE hD rfl rfl (by omega) (by omega), rfl, ?_⟩; conv => whnf) | (refine Or.inr (Or.inl ?_); (conv => whnf); (repeat (refine And.intro (by first | omega | (simp; done) | (simp; omega)) ?_; (conv => whnf))); refine ⟨_, awake_spec, ?_⟩; rintro _ _ ⟨rfl, rfl⟩; conv => whnf) | (refine Or.inr (Or.inl ?_); (conv => whnf); (repeat (refine And.intro (by first | omega | (simp; done) | (simp; omega)) ?_; (conv => whnf))); refine ⟨_, below_at hE hD rfl rfl (by omega) (by omega), ?_⟩; rintro _ _ ⟨rfl, rfl⟩; conv => whnf) | (refine Or.inr (Or.inr (Or.inr ?_)); (conv => whnf); (repeat (refine And.intro (by first | omega | (simp; done) | (simp; omega)) ?_; (conv => whnf))); refine ⟨_, hs, ?_⟩; rintro _ _ ⟨rfl, rfl⟩ <;> (refine And.intro (by simp [gRowsP, grounds, D.ground, Edge.row, irow]) ?_; conv => whnf)) | (refine Or.inr (Or.inr ?_); (conv => whnf); (repeat (refine And.intro (by first | omega | (simp; done) | (simp; omega)) ?_; (conv => whnf))); refine ⟨_, hs, ?_⟩; rintro _ _ ⟨rfl, rfl⟩ <;> (refine And.intro (by simp [gRowsP, grounds, D.ground, Edge.row, irow]) ?_; conv => whnf)) | (refine rd rfl (by assumption) ?_; conv => whnf) | (refine ⟨_, .inl ⟨rfl, rfl⟩, ?_⟩; conv => whnf) | (refine ⟨_, _, rfl, rfl, ?_⟩; conv => whnf) | (refine ⟨fun _ => ?_, fun _ => ?_⟩ <;> (conv => whnf) <;> (try (exfalso; omega))) | (refine And.intro (by first | omega | rfl | (simp; done) | (simp; omega)) ?_; conv => whnf) | (refine num_any ?_; conv => whnf) | (refine ⟨_, rfl, ?_⟩; conv => whnf) | fail)
    refine Ok.loopU [0, 1, 2, 7, 8] [10] 2 0 (fun (k : Nat) => [.i .i64 (k : Nat)]) (fun _ b => b) (fun (k : Nat) (_ : Vx.Rows) => [some (3, far.map irow), some (3, fst.map irow)]) (fun (k : Nat) => k ≤ ds.length) (fun (k : Nat) => ds.length - k) (0) (Nat.zero_le _) ?_; (conv => whnf); refine ⟨by ((conv => whnf); first | rfl | (simp [envCat, List.take_of_length_le, Edge.row, irow]; done) | (simp [envCat, List.take_of_length_le, Edge.row, irow]; rw [IntKind.wrap_i64]; omega)), ?_⟩
    rintro k hk
    by_cases hkd : k < ds.length
    · obtain ⟨d, hd⟩ : ∃ d, ds[k]? = some d := ⟨_, List.getElem?_eq_getElem hkd⟩
      obtain ⟨hd0, hd1⟩ := hD d (List.mem_of_getElem? hd)
      have hx := hg.dest d (List.mem_of_getElem? hd)
      (try (conv => whnf)); repeat' (first | refine Ok.seq ?_ | (refine Ok.region tok ?_; conv => whnf) | (refine Ok.region_draw tok follows (by kernel_rfl) ?_; conv => whnf) | (refine Ok.cond ?_; conv => whnf) | refine Ok.block ?_ | (refine Ok.skip ?_; conv => whnf) | (refine Ok.exit ?_; conv => whnf) | (refine Ok.ret ?_; conv => whnf) | (refine num_in (by omega) (by omega) ?_; conv => whnf) | (refine ix _ (by assumption) ?_; conv => whnf) | (refine ixI (by omega) (by assumption) ?_; conv => whnf) | (refine ix_new _ (by omega) fun _ _ => ?_; conv => whnf) | (refine ixI_new (by omega) (by omega) fun _ _ => ?_; conv => whnf) | (refine rd rfl (by assumption) ?_; conv => whnf) | (refine ⟨_, .inl ⟨rfl, rfl⟩, ?_⟩; conv => whnf) | (refine ⟨_, _, rfl, rfl, ?_⟩; conv => whnf) | (refine ⟨fun _ => ?_, fun _ => ?_⟩ <;> (conv => whnf) <;> (try (exfalso; omega))) | (refine And.intro (by first | omega | rfl | (simp; done) | (simp; omega)) ?_; conv => whnf) | (refine num_any ?_; conv => whnf) | (refine ⟨_, rfl, ?_⟩; conv => whnf) | fail)
      refine ⟨k + 1, by omega, by omega, ?_⟩
      (conv => whnf); (first | rfl | simp [envCat, List.take_of_length_le, Edge.row, irow])
    (try (conv => whnf)); repeat' (first | refine Ok.seq ?_ | (refine Ok.region tok ?_; conv => whnf) | (refine Ok.region_draw tok follows (by kernel_rfl) ?_; conv => whnf) | (refine Ok.cond ?_; conv => whnf) | refine Ok.block ?_ | (refine Ok.skip ?_; conv => whnf) | (refine Ok.exit ?_; conv => whnf) | (refine Ok.ret ?_; conv => whnf) | (refine num_in (by omega) (by omega) ?_; conv => whnf) | (refine ix _ (by assumption) ?_; conv => whnf) | (refine ixI (by omega) (by assumption) ?_; conv => whnf) | (refine ix_new _ (by omega) fun _ _ => ?_; conv => whnf) | (refine ixI_new (by omega) (by omega) fun _ _ => ?_; conv => whnf) | (refine rd rfl (by assumption) ?_; conv => whnf) | (refine ⟨_, .inl ⟨rfl, rfl⟩, ?_⟩; conv => whnf) | (refine ⟨_, _, rfl, rfl, ?_⟩; conv => whnf) | (refine ⟨fun _ => ?_, fun _ => ?_⟩ <;> (conv => whnf) <;> (try (exfalso; omega))) | (refine And.intro (by first | omega | rfl | (simp; done) | (simp; omega)) ?_; conv => whnf) | (refine num_any ?_; conv => whnf) | (refine ⟨_, rfl, ?_⟩; conv => whnf) | fail)
    refine Ok.loopU [0, 1, 2, 7, 8] [11] 2 0 (fun (j : Nat) => [.i .i64 (j : Nat)]) (fun _ b => b) (fun (j : Nat) (_ : Vx.Rows) => [some (3, far.map irow), some (3, fst.map irow)]) (fun (j : Nat) => j ≤ es.length) (fun (j : Nat) => es.length - j) (0) (Nat.zero_le _) ?_; (conv => whnf); refine ⟨by ((conv => whnf); first | rfl | (simp [envCat, List.take_of_length_le, Edge.row, irow]; done) | (simp [envCat, List.take_of_length_le, Edge.row, irow]; rw [IntKind.wrap_i64]; omega)), ?_⟩
    rintro j hj
    by_cases hje : j < es.length
    · obtain ⟨e, he⟩ : ∃ e, es[j]? = some e := ⟨_, List.getElem?_eq_getElem hje⟩
      have hem := List.mem_of_getElem? he
      obtain ⟨e1, e2, e3, e4, e5, e6, _, _⟩ := hE e hem
      obtain ⟨x, hx⟩ : ∃ y, far[e.frm.toNat]? = some y := ⟨_, List.getElem?_eq_getElem (by omega)⟩
      obtain ⟨y, hy⟩ : ∃ y, far[e.to.toNat]? = some y := ⟨_, List.getElem?_eq_getElem (by omega)⟩
      have hyb := hbd _ y hy
      have hyl : -1 ≤ y := by rcases hg.low _ y hy with h | h <;> omega
      have hcon : 0 ≤ y → 0 ≤ x ∧ x ≤ y + e.cost := fun h => by
        obtain ⟨x', h1, h2, h3⟩ := hg.edge e hem y hy h
        rw [hx] at h1; cases h1
        exact ⟨h2, h3⟩
      (try (conv => whnf)); repeat' (first | refine Ok.seq ?_ | (refine Ok.region tok ?_; conv => whnf) | (refine Ok.region_draw tok follows (by kernel_rfl) ?_; conv => whnf) | (refine Ok.cond ?_; conv => whnf) | refine Ok.block ?_ | (refine Ok.skip ?_; conv => whnf) | (refine Ok.exit ?_; conv => whnf) | (refine Ok.ret ?_; conv => whnf) | (refine num_in (by omega) (by omega) ?_; conv => whnf) | (refine ix _ (by assumption) ?_; conv => whnf) | (refine ixI (by omega) (by assumption) ?_; conv => whnf) | (refine ix_new _ (by omega) fun _ _ => ?_; conv => whnf) | (refine ixI_new (by omega) (by omega) fun _ _ => ?_; conv => whnf) | (refine rd rfl (by assumption) ?_; conv => whnf) | (refine ⟨_, .inl ⟨rfl, rfl⟩, ?_⟩; conv => whnf) | (refine ⟨_, _, rfl, rfl, ?_⟩; conv => whnf) | (refine ⟨fun _ => ?_, fun _ => ?_⟩ <;> (conv => whnf) <;> (try (exfalso; omega))) | (refine And.intro (by first | omega | rfl | (simp; done) | (simp; omega)) ?_; conv => whnf) | (refine num_any ?_; conv => whnf) | (refine ⟨_, rfl, ?_⟩; conv => whnf) | fail)
      all_goals first
        | (exfalso; omega)
        | (refine ⟨j + 1, by omega, by omega, ?_⟩; (conv => whnf); (first | rfl | simp [envCat, List.take_of_length_le, Edge.row, irow]))
    (try (conv => whnf)); repeat' (first | refine Ok.seq ?_ | (refine Ok.region tok ?_; conv => whnf) | (refine Ok.region_draw tok follows (by kernel_rfl) ?_; conv => whnf) | (refine Ok.cond ?_; conv => whnf) | refine Ok.block ?_ | (refine Ok.skip ?_; conv => whnf) | (refine Ok.exit ?_; conv => whnf) | (refine Ok.ret ?_; conv => whnf) | (refine num_in (by omega) (by omega) ?_; conv => whnf) | (refine ix _ (by assumption) ?_; conv => whnf) | (refine ixI (by omega) (by assumption) ?_; conv => whnf) | (refine ix_new _ (by omega) fun _ _ => ?_; conv => whnf) | (refine ixI_new (by omega) (by omega) fun _ _ => ?_; conv => whnf) | (refine rd rfl (by assumption) ?_; conv => whnf) | (refine ⟨_, .inl ⟨rfl, rfl⟩, ?_⟩; conv => whnf) | (refine ⟨_, _, rfl, rfl, ?_⟩; conv => whnf) | (refine ⟨fun _ => ?_, fun _ => ?_⟩ <;> (conv => whnf) <;> (try (exfalso; omega))) | (refine And.intro (by first | omega | rfl | (simp; done) | (simp; omega)) ?_; conv => whnf) | (refine num_any ?_; conv => whnf) | (refine ⟨_, rfl, ?_⟩; conv => whnf) | fail)
    refine Ok.loopU [0, 1, 2, 7, 8] [13] 2 0 (fun (v : Nat) => [.i .i64 (v : Nat)]) (fun _ b => b) (fun (v : Nat) (_ : Vx.Rows) => [some (3, far.map irow), some (3, fst.map irow)]) (fun (v : Nat) => v ≤ N) (fun (v : Nat) => N - v) (0) (Nat.zero_le _) ?_; (conv => whnf); refine ⟨by ((conv => whnf); first | rfl | (simp [envCat, List.take_of_length_le, Edge.row, irow]; done) | (simp [envCat, List.take_of_length_le, Edge.row, irow]; rw [IntKind.wrap_i64]; omega)), ?_⟩
    rintro v hv
    by_cases hvN : v < N
    · (try (conv => whnf)); repeat' (first | refine Ok.seq ?_ | (refine Ok.region tok ?_; conv => whnf) | (refine Ok.region_draw tok follows (by kernel_rfl) ?_; conv => whnf) | (refine Ok.cond ?_; conv => whnf) | refine Ok.block ?_ | (refine Ok.skip ?_; conv => whnf) | (refine Ok.exit ?_; conv => whnf) | (refine Ok.ret ?_; conv => whnf) | (refine num_in (by omega) (by omega) ?_; conv => whnf) | (refine ix _ (by assumption) ?_; conv => whnf) | (refine ixI (by omega) (by assumption) ?_; conv => whnf) | (refine ix_new _ (by omega) fun _ _ => ?_; conv => whnf) | (refine ixI_new (by omega) (by omega) fun _ _ => ?_; conv => whnf) | (refine Or.inl ?_; (conv => whnf); (repeat (refine And.intro (by first | omega | (simp; done) | (simp; omega)) ?_; (conv => whnf))); refine ⟨_, way_at hE hD (by omega) (by omega) (by omega) hg hf hvN (take_allI far) (take_allI fst) rfl rfl, rfl, ?_⟩; conv => whnf) | (refine ⟨_, way_at hE hD (by omega) (by omega) (by omega) hg hf hvN (take_allI far) (take_allI fst) rfl rfl, rfl, ?_⟩; conv => whnf) | (refine Or.inr (Or.inl ?_); (conv => whnf); (repeat (refine And.intro (by first | omega | (simp; done) | (simp; omega)) ?_; (conv => whnf))); refine ⟨_, way_at hE hD (by omega) (by omega) (by omega) hg hf hvN (take_allI far) (take_allI fst) rfl rfl, ?_⟩; rintro _ _ ⟨rfl, rfl⟩; conv => whnf) | (refine rd rfl (by assumption) ?_; conv => whnf) | (refine ⟨_, .inl ⟨rfl, rfl⟩, ?_⟩; conv => whnf) | (refine ⟨_, _, rfl, rfl, ?_⟩; conv => whnf) | (refine ⟨fun _ => ?_, fun _ => ?_⟩ <;> (conv => whnf) <;> (try (exfalso; omega))) | (refine And.intro (by first | omega | rfl | (simp; done) | (simp; omega)) ?_; conv => whnf) | (refine num_any ?_; conv => whnf) | (refine ⟨_, rfl, ?_⟩; conv => whnf) | fail)
      refine ⟨v + 1, by omega, by omega, ?_⟩
      (conv => whnf); (first | rfl | simp [envCat, List.take_of_length_le, Edge.row, irow])
    · (try (conv => whnf)); repeat' (first | refine Ok.seq ?_ | (refine Ok.region tok ?_; conv => whnf) | (refine Ok.region_draw tok follows (by kernel_rfl) ?_; conv => whnf) | (refine Ok.cond ?_; conv => whnf) | refine Ok.block ?_ | (refine Ok.skip ?_; conv => whnf) | (refine Ok.exit ?_; conv => whnf) | (refine Ok.ret ?_; conv => whnf) | (refine num_in (by omega) (by omega) ?_; conv => whnf) | (refine ix _ (by assumption) ?_; conv => whnf) | (refine ixI (by omega) (by assumption) ?_; conv => whnf) | (refine ix_new _ (by omega) fun _ _ => ?_; conv => whnf) | (refine ixI_new (by omega) (by omega) fun _ _ => ?_; conv => whnf) | (refine rd rfl (by assumption) ?_; conv => whnf) | (refine ⟨_, .inl ⟨rfl, rfl⟩, ?_⟩; conv => whnf) | (refine ⟨_, _, rfl, rfl, ?_⟩; conv => whnf) | (refine ⟨fun _ => ?_, fun _ => ?_⟩ <;> (conv => whnf) <;> (try (exfalso; omega))) | (refine And.intro (by first | omega | rfl | (simp; done) | (simp; omega)) ?_; conv => whnf) | (refine num_any ?_; conv => whnf) | (refine ⟨_, rfl, ?_⟩; conv => whnf) | fail)
      refine Or.inl ?_; (conv => whnf)
      rfl
  · have e1 : farE n es ds = [] := by unfold farE; rw [if_pos h1]
    have e2 : fstE n es ds = [] := by unfold fstE; rw [if_pos h1]
    rw [e1, e2] at hs
    (try (conv => whnf)); repeat' (first | refine Ok.seq ?_ | (refine Ok.region tok ?_; conv => whnf) | (refine Ok.region_draw tok follows (by kernel_rfl) ?_; conv => whnf) | (refine Ok.cond ?_; conv => whnf) | refine Ok.block ?_ | (refine Ok.skip ?_; conv => whnf) | (refine Ok.exit ?_; conv => whnf) | (refine Ok.ret ?_; conv => whnf) | (refine num_in (by omega) (by omega) ?_; conv => whnf) | (refine ix _ (by assumption) ?_; conv => whnf) | (refine ixI (by omega) (by assumption) ?_; conv => whnf) | (refine ix_new _ (by omega) fun _ _ => ?_; conv => whnf) | (refine ixI_new (by omega) (by omega) fun _ _ => ?_; conv => whnf) | (refine Or.inl ?_; (conv => whnf); (repeat (refine And.intro (by first | omega | (simp; done) | (simp; omega)) ?_; (conv => whnf))); refine ⟨_, awake_spec, rfl, ?_⟩; conv => whnf) | (refine ⟨_, awake_spec, rfl, ?_⟩; conv => whnf) | (refine Or.inr (Or.inl ?_); (conv => whnf); (repeat (refine And.intro (by first | omega | (simp; done) | (simp; omega)) ?_; (conv => whnf))); refine ⟨_, awake_spec, ?_⟩; rintro _ _ ⟨rfl, rfl⟩; conv => whnf) | (refine Or.inr (Or.inr (Or.inr ?_)); (conv => whnf); (repeat (refine And.intro (by first | omega | (simp; done) | (simp; omega)) ?_; (conv => whnf))); refine ⟨_, hs, ?_⟩; rintro _ _ ⟨rfl, rfl⟩ <;> (refine And.intro (by simp [gRowsP, grounds, D.ground, Edge.row, irow]) ?_; conv => whnf)) | (refine Or.inr (Or.inr ?_); (conv => whnf); (repeat (refine And.intro (by first | omega | (simp; done) | (simp; omega)) ?_; (conv => whnf))); refine ⟨_, hs, ?_⟩; rintro _ _ ⟨rfl, rfl⟩ <;> (refine And.intro (by simp [gRowsP, grounds, D.ground, Edge.row, irow]) ?_; conv => whnf)) | (refine rd rfl (by assumption) ?_; conv => whnf) | (refine ⟨_, .inl ⟨rfl, rfl⟩, ?_⟩; conv => whnf) | (refine ⟨_, _, rfl, rfl, ?_⟩; conv => whnf) | (refine ⟨fun _ => ?_, fun _ => ?_⟩ <;> (conv => whnf) <;> (try (exfalso; omega))) | (refine And.intro (by first | omega | rfl | (simp; done) | (simp; omega)) ?_; conv => whnf) | (refine num_any ?_; conv => whnf) | (refine ⟨_, rfl, ?_⟩; conv => whnf) | fail)
    all_goals
      refine Or.inl ?_; (conv => whnf)
    all_goals first
      | rfl
      | exact b_eq ⟨fun _ => trivial, fun _ => rfl⟩
      | exact absurd rfl (by assumption)
theorem ways_row (B : Nat) : ∃ ls, shapes T 9 [3, 22, 23] = some ls ∧ ∀ xs, TyAs T B [3, 22, 23] ls xs → FSpec Try.prog T 10 xs (fun d _ => d = .b True) := by
  refine ⟨_, rfl, fun xs h => ?_⟩
  obtain ⟨_, _, rfl, h0, h⟩ := as_cons h
  obtain ⟨_, _, rfl, h1, h⟩ := as_cons h
  obtain ⟨_, _, rfl, h2, h⟩ := as_cons h
  obtain rfl := as_nil h
  obtain ⟨n, rfl, _⟩ := int_of (leaf h0 rfl)
  obtain ⟨es, room, rfl, _⟩ := lst_of (leaf h1 rfl) edge_of
  obtain ⟨ds, room', rfl, _⟩ := ints_of (leaf h2 rfl)
  exact ways_law _ _ _ _ _
end Go.Proofs.Ytgelaefpbdfnfaa
