/- RibWays: shortest ways, by the lengths and the edges alone. -/
import Derived.Test.YtgelaefpbdfnfaaX1
import Derived.Test.YtgelaefpbdfnfaaRS4
namespace Go.Proofs.Ytgelaefpbdfnfaa
open Go Go.Vx

theorem dist_bd {n : Nat} {es : List Edge} {ds g : List Int} (hE : ∀ e ∈ es, 1 ≤ e.cost ∧ e.cost ≤ 9999) (hg : IsDist n es ds g) : ∀ (m : Nat) (v : Nat) (y : Int), rank g y ≤ m → g[v]? = some y → y ≤ 9999 * m := by
  intro m
  induction m with
  | zero =>
    intro v y hr hv
    rcases hg.low v y hv with h | h
    · omega
    rcases hg.tight v y hv h with ⟨rfl, _⟩ | ⟨e, he, _, z, hz, hz0, hy⟩
    · omega
    · have := rank_lt (y := y) hz hz0 (by have := hE e he; omega)
      omega
  | succ m ih =>
    intro v y hr hv
    rcases hg.low v y hv with h | h
    · omega
    rcases hg.tight v y hv h with ⟨rfl, _⟩ | ⟨e, he, _, z, hz, hz0, hy⟩
    · omega
    · have h2 := hE e he
      have := rank_lt (y := y) hz hz0 (by omega)
      have := ih _ z (by omega) hz
      omega
theorem dist_le {n : Nat} {es : List Edge} {ds g : List Int} (hn : n ≤ 16) (hE : ∀ e ∈ es, 1 ≤ e.cost ∧ e.cost ≤ 9999) (hg : IsDist n es ds g) (v : Nat) (y : Int) (hv : g[v]? = some y) : y ≤ 160000 := by
  have h1 := rank_le g v y hv
  have h2 := dist_bd hE hg 16 v y (by have := hg.len; omega) hv
  omega

set_option maxRecDepth 100000 in
theorem below_at {n : Int} {es : List Edge} {ds : List Int} {re se rd sd : List (List D)} (hE : ∀ e ∈ es, okE n e) (hD : ∀ d ∈ ds, okD n d) (he : re = es.map Edge.row) (hd : rd = ds.map irow) (hl : es.length ≤ 60) (hl2 : ds.length ≤ 60) : FSpec Try.prog T 33 [.i .i64 n, .lst 34 re se, .lst 3 rd sd] (fun d _ => d = .tt) := by
  subst he hd
  refine FSpec.tt (p := True) ?_ trivial
  have hel : (es.map Edge.row).length = es.length := by simp
  have hdl : (ds.map irow).length = ds.length := by simp
  refine FSpec.of_ok tok Try.func33 rfl Try.call33 (by simp) ?_
  (try (conv => whnf)); repeat' (first | refine Ok.seq ?_ | (refine Ok.region tok ?_; conv => whnf) | (refine Ok.region_draw tok follows (by kernel_rfl) ?_; conv => whnf) | (refine Ok.cond ?_; conv => whnf) | refine Ok.block ?_ | (refine Ok.skip ?_; conv => whnf) | (refine Ok.exit ?_; conv => whnf) | (refine Ok.ret ?_; conv => whnf) | (refine num_in (by omega) (by omega) ?_; conv => whnf) | (refine ix _ (by assumption) ?_; conv => whnf) | (refine ixI (by omega) (by assumption) ?_; conv => whnf) | (refine ix_new _ (by omega) fun _ _ => ?_; conv => whnf) | (refine ixI_new (by omega) (by omega) fun _ _ => ?_; conv => whnf) | (refine rd rfl (by assumption) ?_; conv => whnf) | (refine ⟨_, .inl ⟨rfl, rfl⟩, ?_⟩; conv => whnf) | (refine ⟨_, _, rfl, rfl, ?_⟩; conv => whnf) | (refine ⟨fun _ => ?_, fun _ => ?_⟩ <;> (conv => whnf) <;> (try (exfalso; omega))) | (refine And.intro (by first | omega | rfl | (simp; done) | (simp; omega)) ?_; conv => whnf) | (refine num_any ?_; conv => whnf) | (refine ⟨_, rfl, ?_⟩; conv => whnf) | fail)
  refine Ok.loopU [0, 1, 2] [7] 0 0 (fun (k : Nat) => [.i .i64 (k : Nat)]) (fun _ b => b) (fun _ r => r) (fun (k : Nat) => k ≤ ds.length) (fun (k : Nat) => ds.length - k) (0) (Nat.zero_le _) ?_; (conv => whnf); refine ⟨by ((conv => whnf); first | rfl | (simp [envCat, List.take_of_length_le, Edge.row, irow]; done) | (simp [envCat, List.take_of_length_le, Edge.row, irow]; rw [IntKind.wrap_i64]; omega)), ?_⟩
  rintro k hk
  by_cases hkd : k < ds.length
  · obtain ⟨d, hd⟩ : ∃ d, ds[k]? = some d := ⟨_, List.getElem?_eq_getElem hkd⟩
    obtain ⟨hd0, hd1⟩ := hD d (List.mem_of_getElem? hd)
    (try (conv => whnf)); repeat' (first | refine Ok.seq ?_ | (refine Ok.region tok ?_; conv => whnf) | (refine Ok.region_draw tok follows (by kernel_rfl) ?_; conv => whnf) | (refine Ok.cond ?_; conv => whnf) | refine Ok.block ?_ | (refine Ok.skip ?_; conv => whnf) | (refine Ok.exit ?_; conv => whnf) | (refine Ok.ret ?_; conv => whnf) | (refine num_in (by omega) (by omega) ?_; conv => whnf) | (refine ix _ (by assumption) ?_; conv => whnf) | (refine ixI (by omega) (by assumption) ?_; conv => whnf) | (refine ix_new _ (by omega) fun _ _ => ?_; conv => whnf) | (refine ixI_new (by omega) (by omega) fun _ _ => ?_; conv => whnf) | (refine rd rfl (by assumption) ?_; conv => whnf) | (refine ⟨_, .inl ⟨rfl, rfl⟩, ?_⟩; conv => whnf) | (refine ⟨_, _, rfl, rfl, ?_⟩; conv => whnf) | (refine ⟨fun _ => ?_, fun _ => ?_⟩ <;> (conv => whnf) <;> (try (exfalso; omega))) | (refine And.intro (by first | omega | rfl | (simp; done) | (simp; omega)) ?_; conv => whnf) | (refine num_any ?_; conv => whnf) | (refine ⟨_, rfl, ?_⟩; conv => whnf) | fail)
    refine ⟨k + 1, by omega, by omega, ?_⟩
    (conv => whnf); (first | rfl | simp [envCat, List.take_of_length_le, Edge.row, irow])
  (try (conv => whnf)); repeat' (first | refine Ok.seq ?_ | (refine Ok.region tok ?_; conv => whnf) | (refine Ok.region_draw tok follows (by kernel_rfl) ?_; conv => whnf) | (refine Ok.cond ?_; conv => whnf) | refine Ok.block ?_ | (refine Ok.skip ?_; conv => whnf) | (refine Ok.exit ?_; conv => whnf) | (refine Ok.ret ?_; conv => whnf) | (refine num_in (by omega) (by omega) ?_; conv => whnf) | (refine ix _ (by assumption) ?_; conv => whnf) | (refine ixI (by omega) (by assumption) ?_; conv => whnf) | (refine ix_new _ (by omega) fun _ _ => ?_; conv => whnf) | (refine ixI_new (by omega) (by omega) fun _ _ => ?_; conv => whnf) | (refine rd rfl (by assumption) ?_; conv => whnf) | (refine ⟨_, .inl ⟨rfl, rfl⟩, ?_⟩; conv => whnf) | (refine ⟨_, _, rfl, rfl, ?_⟩; conv => whnf) | (refine ⟨fun _ => ?_, fun _ => ?_⟩ <;> (conv => whnf) <;> (try (exfalso; omega))) | (refine And.intro (by first | omega | rfl | (simp; done) | (simp; omega)) ?_; conv => whnf) | (refine num_any ?_; conv => whnf) | (refine ⟨_, rfl, ?_⟩; conv => whnf) | fail)
  refine Ok.loopU [0, 1] [8] 0 0 (fun (k : Nat) => [.i .i64 (k : Nat)]) (fun _ b => b) (fun _ r => r) (fun (k : Nat) => k ≤ es.length) (fun (k : Nat) => es.length - k) (0) (Nat.zero_le _) ?_; (conv => whnf); refine ⟨by ((conv => whnf); first | rfl | (simp [envCat, List.take_of_length_le, Edge.row, irow]; done) | (simp [envCat, List.take_of_length_le, Edge.row, irow]; rw [IntKind.wrap_i64]; omega)), ?_⟩
  rintro j hj
  by_cases hje : j < es.length
  · obtain ⟨e, he⟩ : ∃ e, es[j]? = some e := ⟨_, List.getElem?_eq_getElem hje⟩
    obtain ⟨e1, e2, e3, e4, e5, e6, _, _⟩ := hE e (List.mem_of_getElem? he)
    (try (conv => whnf)); repeat' (first | refine Ok.seq ?_ | (refine Ok.region tok ?_; conv => whnf) | (refine Ok.region_draw tok follows (by kernel_rfl) ?_; conv => whnf) | (refine Ok.cond ?_; conv => whnf) | refine Ok.block ?_ | (refine Ok.skip ?_; conv => whnf) | (refine Ok.exit ?_; conv => whnf) | (refine Ok.ret ?_; conv => whnf) | (refine num_in (by omega) (by omega) ?_; conv => whnf) | (refine ix _ (by assumption) ?_; conv => whnf) | (refine ixI (by omega) (by assumption) ?_; conv => whnf) | (refine ix_new _ (by omega) fun _ _ => ?_; conv => whnf) | (refine ixI_new (by omega) (by omega) fun _ _ => ?_; conv => whnf) | (refine rd rfl (by assumption) ?_; conv => whnf) | (refine ⟨_, .inl ⟨rfl, rfl⟩, ?_⟩; conv => whnf) | (refine ⟨_, _, rfl, rfl, ?_⟩; conv => whnf) | (refine ⟨fun _ => ?_, fun _ => ?_⟩ <;> (conv => whnf) <;> (try (exfalso; omega))) | (refine And.intro (by first | omega | rfl | (simp; done) | (simp; omega)) ?_; conv => whnf) | (refine num_any ?_; conv => whnf) | (refine ⟨_, rfl, ?_⟩; conv => whnf) | fail)
    refine ⟨j + 1, by omega, by omega, ?_⟩
    (conv => whnf); (first | rfl | simp [envCat, List.take_of_length_le, Edge.row, irow])
  · (try (conv => whnf)); repeat' (first | refine Ok.seq ?_ | (refine Ok.region tok ?_; conv => whnf) | (refine Ok.region_draw tok follows (by kernel_rfl) ?_; conv => whnf) | (refine Ok.cond ?_; conv => whnf) | refine Ok.block ?_ | (refine Ok.skip ?_; conv => whnf) | (refine Ok.exit ?_; conv => whnf) | (refine Ok.ret ?_; conv => whnf) | (refine num_in (by omega) (by omega) ?_; conv => whnf) | (refine ix _ (by assumption) ?_; conv => whnf) | (refine ixI (by omega) (by assumption) ?_; conv => whnf) | (refine ix_new _ (by omega) fun _ _ => ?_; conv => whnf) | (refine ixI_new (by omega) (by omega) fun _ _ => ?_; conv => whnf) | (refine rd rfl (by assumption) ?_; conv => whnf) | (refine ⟨_, .inl ⟨rfl, rfl⟩, ?_⟩; conv => whnf) | (refine ⟨_, _, rfl, rfl, ?_⟩; conv => whnf) | (refine ⟨fun _ => ?_, fun _ => ?_⟩ <;> (conv => whnf) <;> (try (exfalso; omega))) | (refine And.intro (by first | omega | rfl | (simp; done) | (simp; omega)) ?_; conv => whnf) | (refine num_any ?_; conv => whnf) | (refine ⟨_, rfl, ?_⟩; conv => whnf) | fail)
    refine Or.inl ?_; (conv => whnf)
    rfl

set_option maxRecDepth 100000 in
set_option maxHeartbeats 4000000 in
theorem way_at {n : Nat} {es : List Edge} {ds far fst : List Int} {k : Nat} {rf sf rs ss re se rd sd : List (List D)} (hE : ∀ e ∈ es, okE n e) (hD : ∀ d ∈ ds, okD n d) (hl : es.length ≤ 60) (hl2 : ds.length ≤ 60) (hn : n ≤ 16) (hg : IsDist n es ds far) (hf : IsFirst n es far fst 0 es.length) (hk : k < n)
    (h1 : rf = far.map irow) (h2 : rs = fst.map irow) (h3 : re = es.map Edge.row) (h4 : rd = ds.map irow) : FSpec Try.prog T 34 [.lst 3 rf sf, .lst 3 rs ss, .lst 34 re se, .lst 3 rd sd, .i .i64 (k : Nat)] (fun d _ => d = .tt) := by
  subst h1 h2 h3 h4
  refine FSpec.tt (p := True) ?_ trivial
  have hc : ∀ e ∈ es, 1 ≤ e.cost ∧ e.cost ≤ 9999 := fun e he => ⟨(hE e he).2.2.2.2.1, (hE e he).2.2.2.2.2.1⟩
  have hbd := dist_le hn hc hg
  have hel : (es.map Edge.row).length = es.length := by simp
  have hdl : (ds.map irow).length = ds.length := by simp
  have hfl : (far.map irow).length = n := by simp [hg.len]
  have hsl : (fst.map irow).length = n := by simp [hf.1]
  obtain ⟨x, hx⟩ : ∃ x, far[k]? = some x := ⟨_, List.getElem?_eq_getElem (by rw [hg.len]; exact hk)⟩
  obtain ⟨p, hp⟩ : ∃ x, fst[k]? = some x := ⟨_, List.getElem?_eq_getElem (by rw [hf.1]; exact hk)⟩
  have hF := hf.2 k p hp
  have hT1 : ∀ i, Ti es far i k → 1 ≤ x := by
    rintro i ⟨e, x', y, he, _, _, hy, hx', hxy⟩
    rw [hx] at hx'; cases hx'
    have := hc e (List.mem_of_getElem? he)
    omega
  have hA : ((k : Int) ∈ ds ∨ x < 0) → p = -1 ∧ x ≤ 0 := by
    intro h
    have hx0 : x ≤ 0 := by
      rcases h with h | h
      · have := hg.dest _ h
        rw [Int.toNat_natCast, hx] at this
        cases this; omega
      · omega
    refine ⟨?_, hx0⟩
    rcases hF with ⟨h, _⟩ | ⟨i, _, _, _, hT, _⟩
    · exact h
    · have := hT1 i hT; omega
  have hB : ¬ ((k : Int) ∈ ds ∨ x < 0) → ∃ (j : Nat) (e : Edge), p = (j : Int) ∧ es[j]? = some e ∧ e.frm = (k : Int) ∧ Ti es far j k ∧ ∀ i, i < j → ¬ Ti es far i k := by
    intro h
    have hin : ∃ i, i < es.length ∧ Ti es far i k := by
      rcases hg.tight k x hx (by omega) with ⟨_, h'⟩ | ⟨e, he, hfr, y, hy, hy0, hxy⟩
      · exact absurd (.inl h') h
      · obtain ⟨i, hi⟩ := List.getElem?_of_mem he
        exact ⟨i, (List.getElem?_eq_some_iff.1 hi).1, e, x, y, hi, by omega, hy, hy0, hx, hxy⟩
    obtain ⟨i, hi, hTi⟩ := hin
    rcases hF with ⟨_, h'⟩ | ⟨j, hj, _, hjl, hT, hlt⟩
    · exact absurd hTi (h' i (Nat.zero_le _) hi)
    · obtain ⟨e, x', y, he, hfr, hrest⟩ := id hT
      refine ⟨j, e, hj, he, ?_, hT, fun i hi => hlt i (Nat.zero_le _) hi⟩
      have := (hE e (List.mem_of_getElem? he)).1
      omega
  refine FSpec.of_ok tok Try.func34 rfl Try.call34 (by simp) ?_
  (try (conv => whnf)); repeat' (first | refine Ok.seq ?_ | (refine Ok.region tok ?_; conv => whnf) | (refine Ok.region_draw tok follows (by kernel_rfl) ?_; conv => whnf) | (refine Ok.cond ?_; conv => whnf) | refine Ok.block ?_ | (refine Ok.skip ?_; conv => whnf) | (refine Ok.exit ?_; conv => whnf) | (refine Ok.ret ?_; conv => whnf) | (refine num_in (by omega) (by omega) ?_; conv => whnf) | (refine ix _ (by assumption) ?_; conv => whnf) | (refine ixI (by omega) (by assumption) ?_; conv => whnf) | (refine ix_new _ (by omega) fun _ _ => ?_; conv => whnf) | (refine ixI_new (by omega) (by omega) fun _ _ => ?_; conv => whnf) | (refine rd rfl (by assumption) ?_; conv => whnf) | (refine ⟨_, .inl ⟨rfl, rfl⟩, ?_⟩; conv => whnf) | (refine ⟨_, _, rfl, rfl, ?_⟩; conv => whnf) | (refine ⟨fun _ => ?_, fun _ => ?_⟩ <;> (conv => whnf) <;> (try (exfalso; omega))) | (refine And.intro (by first | omega | rfl | (simp; done) | (simp; omega)) ?_; conv => whnf) | (refine num_any ?_; conv => whnf) | (refine ⟨_, rfl, ?_⟩; conv => whnf) | fail)
  refine Ok.loopU [0, 1, 2, 3, 4] [11, 12] 0 0 (fun (x : D × Nat) => [x.1, .i .i64 (x.2 : Nat)]) (fun _ b => b) (fun _ r => r) (fun (x : D × Nat) => x.2 ≤ ds.length ∧ isB x.1 ((k : Int) ∈ ds.take x.2)) (fun (x : D × Nat) => ds.length - x.2) ((.ff, 0)) (⟨Nat.zero_le _, .inr (.inl ⟨rfl, by simp⟩)⟩) ?_; (conv => whnf); refine ⟨by ((conv => whnf); first | rfl | (simp [envCat, List.take_of_length_le, Edge.row, irow]; done) | (simp [envCat, List.take_of_length_le, Edge.row, irow]; rw [IntKind.wrap_i64]; omega)), ?_⟩
  rintro ⟨d, i⟩ ⟨hi, hd⟩
  dsimp only at hi hd ⊢
  by_cases hid : i < ds.length
  · obtain ⟨c, hc⟩ : ∃ d, ds[i]? = some d := ⟨_, List.getElem?_eq_getElem hid⟩
    have htk : ds.take (i + 1) = ds.take i ++ [c] := by rw [List.take_add_one, hc]; rfl
    rcases hd with ⟨rfl, hd⟩ | ⟨rfl, hd⟩ | ⟨q, rfl, hd⟩
    · (try (conv => whnf)); repeat' (first | refine Ok.seq ?_ | (refine Ok.region tok ?_; conv => whnf) | (refine Ok.region_draw tok follows (by kernel_rfl) ?_; conv => whnf) | (refine Ok.cond ?_; conv => whnf) | refine Ok.block ?_ | (refine Ok.skip ?_; conv => whnf) | (refine Ok.exit ?_; conv => whnf) | (refine Ok.ret ?_; conv => whnf) | (refine num_in (by omega) (by omega) ?_; conv => whnf) | (refine ix _ (by assumption) ?_; conv => whnf) | (refine ixI (by omega) (by assumption) ?_; conv => whnf) | (refine ix_new _ (by omega) fun _ _ => ?_; conv => whnf) | (refine ixI_new (by omega) (by omega) fun _ _ => ?_; conv => whnf) | (refine rd rfl (by assumption) ?_; conv => whnf) | (refine ⟨_, .inl ⟨rfl, rfl⟩, ?_⟩; conv => whnf) | (refine ⟨_, _, rfl, rfl, ?_⟩; conv => whnf) | (refine ⟨fun _ => ?_, fun _ => ?_⟩ <;> (conv => whnf) <;> (try (exfalso; omega))) | (refine And.intro (by first | omega | rfl | (simp; done) | (simp; omega)) ?_; conv => whnf) | (refine num_any ?_; conv => whnf) | (refine ⟨_, rfl, ?_⟩; conv => whnf) | fail)
      refine ⟨(.tt, i + 1), by dsimp only; omega, ⟨by dsimp only; omega, .inl ⟨rfl, by dsimp only; rw [htk]; exact List.mem_append_left _ hd⟩⟩, ?_⟩
      (conv => whnf); (first | rfl | simp [envCat, List.take_of_length_le, Edge.row, irow])
    · (try (conv => whnf)); repeat' (first | refine Ok.seq ?_ | (refine Ok.region tok ?_; conv => whnf) | (refine Ok.region_draw tok follows (by kernel_rfl) ?_; conv => whnf) | (refine Ok.cond ?_; conv => whnf) | refine Ok.block ?_ | (refine Ok.skip ?_; conv => whnf) | (refine Ok.exit ?_; conv => whnf) | (refine Ok.ret ?_; conv => whnf) | (refine num_in (by omega) (by omega) ?_; conv => whnf) | (refine ix _ (by assumption) ?_; conv => whnf) | (refine ixI (by omega) (by assumption) ?_; conv => whnf) | (refine ix_new _ (by omega) fun _ _ => ?_; conv => whnf) | (refine ixI_new (by omega) (by omega) fun _ _ => ?_; conv => whnf) | (refine rd rfl (by assumption) ?_; conv => whnf) | (refine ⟨_, .inl ⟨rfl, rfl⟩, ?_⟩; conv => whnf) | (refine ⟨_, _, rfl, rfl, ?_⟩; conv => whnf) | (refine ⟨fun _ => ?_, fun _ => ?_⟩ <;> (conv => whnf) <;> (try (exfalso; omega))) | (refine And.intro (by first | omega | rfl | (simp; done) | (simp; omega)) ?_; conv => whnf) | (refine num_any ?_; conv => whnf) | (refine ⟨_, rfl, ?_⟩; conv => whnf) | fail)
      refine ⟨(.b (c = (k : Int)), i + 1), by dsimp only; omega, ⟨by dsimp only; omega, .inr (.inr ⟨_, rfl, by dsimp only; rw [htk]; simp [hd, eq_comm]⟩)⟩, ?_⟩
      (conv => whnf); (first | rfl | simp [envCat, List.take_of_length_le, Edge.row, irow])
    · (try (conv => whnf)); repeat' (first | refine Ok.seq ?_ | (refine Ok.region tok ?_; conv => whnf) | (refine Ok.region_draw tok follows (by kernel_rfl) ?_; conv => whnf) | (refine Ok.cond ?_; conv => whnf) | refine Ok.block ?_ | (refine Ok.skip ?_; conv => whnf) | (refine Ok.exit ?_; conv => whnf) | (refine Ok.ret ?_; conv => whnf) | (refine num_in (by omega) (by omega) ?_; conv => whnf) | (refine ix _ (by assumption) ?_; conv => whnf) | (refine ixI (by omega) (by assumption) ?_; conv => whnf) | (refine ix_new _ (by omega) fun _ _ => ?_; conv => whnf) | (refine ixI_new (by omega) (by omega) fun _ _ => ?_; conv => whnf) | (refine rd rfl (by assumption) ?_; conv => whnf) | (refine ⟨_, .inl ⟨rfl, rfl⟩, ?_⟩; conv => whnf) | (refine ⟨_, _, rfl, rfl, ?_⟩; conv => whnf) | (refine ⟨fun _ => ?_, fun _ => ?_⟩ <;> (conv => whnf) <;> (try (exfalso; omega))) | (refine And.intro (by first | omega | rfl | (simp; done) | (simp; omega)) ?_; conv => whnf) | (refine num_any ?_; conv => whnf) | (refine ⟨_, rfl, ?_⟩; conv => whnf) | fail)
      · rename_i hq
        refine ⟨(.tt, i + 1), by dsimp only; omega, ⟨by dsimp only; omega, .inl ⟨rfl, by dsimp only; rw [htk]; exact List.mem_append_left _ (hd.1 hq)⟩⟩, ?_⟩
        (conv => whnf); (first | rfl | simp [envCat, List.take_of_length_le, Edge.row, irow])
      · rename_i hq
        have hd' : ¬ (k : Int) ∈ ds.take i := fun h => hq (hd.2 h)
        refine ⟨(.b (c = (k : Int)), i + 1), by dsimp only; omega, ⟨by dsimp only; omega, .inr (.inr ⟨_, rfl, by dsimp only; rw [htk]; simp [hd', eq_comm]⟩)⟩, ?_⟩
        (conv => whnf); (first | rfl | simp [envCat, List.take_of_length_le, Edge.row, irow])
  obtain rfl : i = ds.length := by omega
  rw [List.take_length] at hd
  by_cases hq : (k : Int) ∈ ds ∨ x < 0
  · obtain ⟨rfl, hx0⟩ := hA hq
    rcases hd with ⟨rfl, hd⟩ | ⟨rfl, hd⟩ | ⟨q, rfl, hd⟩
    · (try (conv => whnf)); repeat' (first | refine Ok.seq ?_ | (refine Ok.region tok ?_; conv => whnf) | (refine Ok.region_draw tok follows (by kernel_rfl) ?_; conv => whnf) | (refine Ok.cond ?_; conv => whnf) | refine Ok.block ?_ | (refine Ok.skip ?_; conv => whnf) | (refine Ok.exit ?_; conv => whnf) | (refine Ok.ret ?_; conv => whnf) | (refine num_in (by omega) (by omega) ?_; conv => whnf) | (refine ix _ (by assumption) ?_; conv => whnf) | (refine ixI (by omega) (by assumption) ?_; conv => whnf) | (refine ix_new _ (by omega) fun _ _ => ?_; conv => whnf) | (refine ixI_new (by omega) (by omega) fun _ _ => ?_; conv => whnf) | (refine rd rfl (by assumption) ?_; conv => whnf) | (refine ⟨_, .inl ⟨rfl, rfl⟩, ?_⟩; conv => whnf) | (refine ⟨_, _, rfl, rfl, ?_⟩; conv => whnf) | (refine ⟨fun _ => ?_, fun _ => ?_⟩ <;> (conv => whnf) <;> (try (exfalso; omega))) | (refine And.intro (by first | omega | rfl | (simp; done) | (simp; omega)) ?_; conv => whnf) | (refine num_any ?_; conv => whnf) | (refine ⟨_, rfl, ?_⟩; conv => whnf) | fail)
      refine Or.inl ?_; (conv => whnf)
      exact b_eq ⟨fun _ => trivial, fun _ => hx0⟩
    · (try (conv => whnf)); repeat' (first | refine Ok.seq ?_ | (refine Ok.region tok ?_; conv => whnf) | (refine Ok.region_draw tok follows (by kernel_rfl) ?_; conv => whnf) | (refine Ok.cond ?_; conv => whnf) | refine Ok.block ?_ | (refine Ok.skip ?_; conv => whnf) | (refine Ok.exit ?_; conv => whnf) | (refine Ok.ret ?_; conv => whnf) | (refine num_in (by omega) (by omega) ?_; conv => whnf) | (refine ix _ (by assumption) ?_; conv => whnf) | (refine ixI (by omega) (by assumption) ?_; conv => whnf) | (refine ix_new _ (by omega) fun _ _ => ?_; conv => whnf) | (refine ixI_new (by omega) (by omega) fun _ _ => ?_; conv => whnf) | (refine rd rfl (by assumption) ?_; conv => whnf) | (refine ⟨_, .inl ⟨rfl, rfl⟩, ?_⟩; conv => whnf) | (refine ⟨_, _, rfl, rfl, ?_⟩; conv => whnf) | (refine ⟨fun _ => ?_, fun _ => ?_⟩ <;> (conv => whnf) <;> (try (exfalso; omega))) | (refine And.intro (by first | omega | rfl | (simp; done) | (simp; omega)) ?_; conv => whnf) | (refine num_any ?_; conv => whnf) | (refine ⟨_, rfl, ?_⟩; conv => whnf) | fail)
      all_goals first
        | exact absurd hq (fun h => h.elim hd (by assumption))
        | (refine Or.inl ?_; (conv => whnf); exact b_eq ⟨fun _ => trivial, fun _ => hx0⟩)
    · (try (conv => whnf)); repeat' (first | refine Ok.seq ?_ | (refine Ok.region tok ?_; conv => whnf) | (refine Ok.region_draw tok follows (by kernel_rfl) ?_; conv => whnf) | (refine Ok.cond ?_; conv => whnf) | refine Ok.block ?_ | (refine Ok.skip ?_; conv => whnf) | (refine Ok.exit ?_; conv => whnf) | (refine Ok.ret ?_; conv => whnf) | (refine num_in (by omega) (by omega) ?_; conv => whnf) | (refine ix _ (by assumption) ?_; conv => whnf) | (refine ixI (by omega) (by assumption) ?_; conv => whnf) | (refine ix_new _ (by omega) fun _ _ => ?_; conv => whnf) | (refine ixI_new (by omega) (by omega) fun _ _ => ?_; conv => whnf) | (refine rd rfl (by assumption) ?_; conv => whnf) | (refine ⟨_, .inl ⟨rfl, rfl⟩, ?_⟩; conv => whnf) | (refine ⟨_, _, rfl, rfl, ?_⟩; conv => whnf) | (refine ⟨fun _ => ?_, fun _ => ?_⟩ <;> (conv => whnf) <;> (try (exfalso; omega))) | (refine And.intro (by first | omega | rfl | (simp; done) | (simp; omega)) ?_; conv => whnf) | (refine num_any ?_; conv => whnf) | (refine ⟨_, rfl, ?_⟩; conv => whnf) | fail)
      all_goals first
        | (refine Or.inl ?_; (conv => whnf); exact b_eq ⟨fun _ => trivial, fun _ => hx0⟩)
        | (rename_i b1 b2 _; exact absurd hq (fun h => h.elim (fun h => b1 (hd.2 h)) b2))
  · obtain ⟨j, e, rfl, he, hfr, hT, hnT⟩ := hB hq
    have hjl := (List.getElem?_eq_some_iff.1 he).1
    rcases hd with ⟨rfl, hd⟩ | ⟨rfl, hd⟩ | ⟨q, rfl, hd⟩
    · exact absurd (.inl hd) hq
    · (try (conv => whnf)); repeat' (first | refine Ok.seq ?_ | (refine Ok.region tok ?_; conv => whnf) | (refine Ok.region_draw tok follows (by kernel_rfl) ?_; conv => whnf) | (refine Ok.cond ?_; conv => whnf) | refine Ok.block ?_ | (refine Ok.skip ?_; conv => whnf) | (refine Ok.exit ?_; conv => whnf) | (refine Ok.ret ?_; conv => whnf) | (refine num_in (by omega) (by omega) ?_; conv => whnf) | (refine ix _ (by assumption) ?_; conv => whnf) | (refine ixI (by omega) (by assumption) ?_; conv => whnf) | (refine ix_new _ (by omega) fun _ _ => ?_; conv => whnf) | (refine ixI_new (by omega) (by omega) fun _ _ => ?_; conv => whnf) | (refine rd rfl (by assumption) ?_; conv => whnf) | (refine ⟨_, .inl ⟨rfl, rfl⟩, ?_⟩; conv => whnf) | (refine ⟨_, _, rfl, rfl, ?_⟩; conv => whnf) | (refine ⟨fun _ => ?_, fun _ => ?_⟩ <;> (conv => whnf) <;> (try (exfalso; omega))) | (refine And.intro (by first | omega | rfl | (simp; done) | (simp; omega)) ?_; conv => whnf) | (refine num_any ?_; conv => whnf) | (refine ⟨_, rfl, ?_⟩; conv => whnf) | fail)
      refine Ok.loopU [0, 2, 4, 13] [14] 0 0 (fun (i : Nat) => [.i .i64 (i : Nat)]) (fun _ b => b) (fun _ r => r) (fun (i : Nat) => i ≤ j + 1) (fun (i : Nat) => j + 1 - i) (0) (Nat.zero_le _) ?_; (conv => whnf); refine ⟨by ((conv => whnf); first | rfl | (simp [envCat, List.take_of_length_le, Edge.row, irow]; done) | (simp [envCat, List.take_of_length_le, Edge.row, irow]; rw [IntKind.wrap_i64]; omega)), ?_⟩
      rintro i hi
      by_cases hij : i ≤ j
      · obtain ⟨a, ha⟩ : ∃ e, es[i]? = some e := ⟨_, List.getElem?_eq_getElem (by omega)⟩
        obtain ⟨e1, e2, e3, e4, e5, e6, _, _⟩ := hE a (List.mem_of_getElem? ha)
        obtain ⟨y, hy⟩ : ∃ y, far[a.to.toNat]? = some y := ⟨_, List.getElem?_eq_getElem (by rw [hg.len]; omega)⟩
        have hyb := hbd _ y hy
        have hyl : -1 ≤ y := by rcases hg.low _ y hy with h | h <;> omega
        have hTi : i = j ↔ a.frm = (k : Int) ∧ 0 ≤ y ∧ y + a.cost = x := by
          constructor
          · rintro rfl
            obtain ⟨e', x', y', h1, h2, h3, h4, h5, h6⟩ := hT
            rw [ha] at h1; cases h1
            rw [hy] at h3; cases h3
            rw [hx] at h5; cases h5
            rw [ha] at he; cases he
            exact ⟨hfr, h4, h6.symm⟩
          · rintro ⟨h1, h2, h3⟩
            by_cases h : i = j
            · exact h
            · exact absurd ⟨a, x, y, ha, by omega, hy, h2, hx, h3.symm⟩ (hnT i (by omega))
        (try (conv => whnf)); repeat' (first | refine Ok.seq ?_ | (refine Ok.region tok ?_; conv => whnf) | (refine Ok.region_draw tok follows (by kernel_rfl) ?_; conv => whnf) | (refine Ok.cond ?_; conv => whnf) | refine Ok.block ?_ | (refine Ok.skip ?_; conv => whnf) | (refine Ok.exit ?_; conv => whnf) | (refine Ok.ret ?_; conv => whnf) | (refine num_in (by omega) (by omega) ?_; conv => whnf) | (refine ix _ (by assumption) ?_; conv => whnf) | (refine ixI (by omega) (by assumption) ?_; conv => whnf) | (refine ix_new _ (by omega) fun _ _ => ?_; conv => whnf) | (refine ixI_new (by omega) (by omega) fun _ _ => ?_; conv => whnf) | (refine rd rfl (by assumption) ?_; conv => whnf) | (refine ⟨_, .inl ⟨rfl, rfl⟩, ?_⟩; conv => whnf) | (refine ⟨_, _, rfl, rfl, ?_⟩; conv => whnf) | (refine ⟨fun _ => ?_, fun _ => ?_⟩ <;> (conv => whnf) <;> (try (exfalso; omega))) | (refine And.intro (by first | omega | rfl | (simp; done) | (simp; omega)) ?_; conv => whnf) | (refine num_any ?_; conv => whnf) | (refine ⟨_, rfl, ?_⟩; conv => whnf) | fail)
        all_goals first
          | (exfalso; omega)
          | (exfalso; simp only [false_iff, Classical.not_not] at *; omega)
          | (refine ⟨i + 1, by omega, by omega, ?_⟩; (conv => whnf); (first | rfl | simp [envCat, List.take_of_length_le, Edge.row, irow]))
      · obtain rfl : i = j + 1 := by omega
        (try (conv => whnf)); repeat' (first | refine Ok.seq ?_ | (refine Ok.region tok ?_; conv => whnf) | (refine Ok.region_draw tok follows (by kernel_rfl) ?_; conv => whnf) | (refine Ok.cond ?_; conv => whnf) | refine Ok.block ?_ | (refine Ok.skip ?_; conv => whnf) | (refine Ok.exit ?_; conv => whnf) | (refine Ok.ret ?_; conv => whnf) | (refine num_in (by omega) (by omega) ?_; conv => whnf) | (refine ix _ (by assumption) ?_; conv => whnf) | (refine ixI (by omega) (by assumption) ?_; conv => whnf) | (refine ix_new _ (by omega) fun _ _ => ?_; conv => whnf) | (refine ixI_new (by omega) (by omega) fun _ _ => ?_; conv => whnf) | (refine rd rfl (by assumption) ?_; conv => whnf) | (refine ⟨_, .inl ⟨rfl, rfl⟩, ?_⟩; conv => whnf) | (refine ⟨_, _, rfl, rfl, ?_⟩; conv => whnf) | (refine ⟨fun _ => ?_, fun _ => ?_⟩ <;> (conv => whnf) <;> (try (exfalso; omega))) | (refine And.intro (by first | omega | rfl | (simp; done) | (simp; omega)) ?_; conv => whnf) | (refine num_any ?_; conv => whnf) | (refine ⟨_, rfl, ?_⟩; conv => whnf) | fail)
        refine Or.inl ?_; (conv => whnf)
        rfl
    · have hnq : ¬ q := fun h => hq (.inl (hd.1 h))
      (try (conv => whnf)); repeat' (first | refine Ok.seq ?_ | (refine Ok.region tok ?_; conv => whnf) | (refine Ok.region_draw tok follows (by kernel_rfl) ?_; conv => whnf) | (refine Ok.cond ?_; conv => whnf) | refine Ok.block ?_ | (refine Ok.skip ?_; conv => whnf) | (refine Ok.exit ?_; conv => whnf) | (refine Ok.ret ?_; conv => whnf) | (refine num_in (by omega) (by omega) ?_; conv => whnf) | (refine ix _ (by assumption) ?_; conv => whnf) | (refine ixI (by omega) (by assumption) ?_; conv => whnf) | (refine ix_new _ (by omega) fun _ _ => ?_; conv => whnf) | (refine ixI_new (by omega) (by omega) fun _ _ => ?_; conv => whnf) | (refine rd rfl (by assumption) ?_; conv => whnf) | (refine ⟨_, .inl ⟨rfl, rfl⟩, ?_⟩; conv => whnf) | (refine ⟨_, _, rfl, rfl, ?_⟩; conv => whnf) | (refine ⟨fun _ => ?_, fun _ => ?_⟩ <;> (conv => whnf) <;> (try (exfalso; omega))) | (refine And.intro (by first | omega | rfl | (simp; done) | (simp; omega)) ?_; conv => whnf) | (refine num_any ?_; conv => whnf) | (refine ⟨_, rfl, ?_⟩; conv => whnf) | fail)
      · exact absurd (by assumption) hnq
      refine Ok.loopU [0, 2, 4, 13] [14] 0 0 (fun (i : Nat) => [.i .i64 (i : Nat)]) (fun _ b => b) (fun _ r => r) (fun (i : Nat) => i ≤ j + 1) (fun (i : Nat) => j + 1 - i) (0) (Nat.zero_le _) ?_; (conv => whnf); refine ⟨by ((conv => whnf); first | rfl | (simp [envCat, List.take_of_length_le, Edge.row, irow]; done) | (simp [envCat, List.take_of_length_le, Edge.row, irow]; rw [IntKind.wrap_i64]; omega)), ?_⟩
      rintro i hi
      by_cases hij : i ≤ j
      · obtain ⟨a, ha⟩ : ∃ e, es[i]? = some e := ⟨_, List.getElem?_eq_getElem (by omega)⟩
        obtain ⟨e1, e2, e3, e4, e5, e6, _, _⟩ := hE a (List.mem_of_getElem? ha)
        obtain ⟨y, hy⟩ : ∃ y, far[a.to.toNat]? = some y := ⟨_, List.getElem?_eq_getElem (by rw [hg.len]; omega)⟩
        have hyb := hbd _ y hy
        have hyl : -1 ≤ y := by rcases hg.low _ y hy with h | h <;> omega
        have hTi : i = j ↔ a.frm = (k : Int) ∧ 0 ≤ y ∧ y + a.cost = x := by
          constructor
          · rintro rfl
            obtain ⟨e', x', y', h1, h2, h3, h4, h5, h6⟩ := hT
            rw [ha] at h1; cases h1
            rw [hy] at h3; cases h3
            rw [hx] at h5; cases h5
            rw [ha] at he; cases he
            exact ⟨hfr, h4, h6.symm⟩
          · rintro ⟨h1, h2, h3⟩
            by_cases h : i = j
            · exact h
            · exact absurd ⟨a, x, y, ha, by omega, hy, h2, hx, h3.symm⟩ (hnT i (by omega))
        (try (conv => whnf)); repeat' (first | refine Ok.seq ?_ | (refine Ok.region tok ?_; conv => whnf) | (refine Ok.region_draw tok follows (by kernel_rfl) ?_; conv => whnf) | (refine Ok.cond ?_; conv => whnf) | refine Ok.block ?_ | (refine Ok.skip ?_; conv => whnf) | (refine Ok.exit ?_; conv => whnf) | (refine Ok.ret ?_; conv => whnf) | (refine num_in (by omega) (by omega) ?_; conv => whnf) | (refine ix _ (by assumption) ?_; conv => whnf) | (refine ixI (by omega) (by assumption) ?_; conv => whnf) | (refine ix_new _ (by omega) fun _ _ => ?_; conv => whnf) | (refine ixI_new (by omega) (by omega) fun _ _ => ?_; conv => whnf) | (refine rd rfl (by assumption) ?_; conv => whnf) | (refine ⟨_, .inl ⟨rfl, rfl⟩, ?_⟩; conv => whnf) | (refine ⟨_, _, rfl, rfl, ?_⟩; conv => whnf) | (refine ⟨fun _ => ?_, fun _ => ?_⟩ <;> (conv => whnf) <;> (try (exfalso; omega))) | (refine And.intro (by first | omega | rfl | (simp; done) | (simp; omega)) ?_; conv => whnf) | (refine num_any ?_; conv => whnf) | (refine ⟨_, rfl, ?_⟩; conv => whnf) | fail)
        all_goals first
          | (exfalso; omega)
          | (exfalso; simp only [false_iff, Classical.not_not] at *; omega)
          | (refine ⟨i + 1, by omega, by omega, ?_⟩; (conv => whnf); (first | rfl | simp [envCat, List.take_of_length_le, Edge.row, irow]))
      · obtain rfl : i = j + 1 := by omega
        (try (conv => whnf)); repeat' (first | refine Ok.seq ?_ | (refine Ok.region tok ?_; conv => whnf) | (refine Ok.region_draw tok follows (by kernel_rfl) ?_; conv => whnf) | (refine Ok.cond ?_; conv => whnf) | refine Ok.block ?_ | (refine Ok.skip ?_; conv => whnf) | (refine Ok.exit ?_; conv => whnf) | (refine Ok.ret ?_; conv => whnf) | (refine num_in (by omega) (by omega) ?_; conv => whnf) | (refine ix _ (by assumption) ?_; conv => whnf) | (refine ixI (by omega) (by assumption) ?_; conv => whnf) | (refine ix_new _ (by omega) fun _ _ => ?_; conv => whnf) | (refine ixI_new (by omega) (by omega) fun _ _ => ?_; conv => whnf) | (refine rd rfl (by assumption) ?_; conv => whnf) | (refine ⟨_, .inl ⟨rfl, rfl⟩, ?_⟩; conv => whnf) | (refine ⟨_, _, rfl, rfl, ?_⟩; conv => whnf) | (refine ⟨fun _ => ?_, fun _ => ?_⟩ <;> (conv => whnf) <;> (try (exfalso; omega))) | (refine And.intro (by first | omega | rfl | (simp; done) | (simp; omega)) ?_; conv => whnf) | (refine num_any ?_; conv => whnf) | (refine ⟨_, rfl, ?_⟩; conv => whnf) | fail)
        refine Or.inl ?_; (conv => whnf)
        rfl
end Go.Proofs.Ytgelaefpbdfnfaa
