/- The checks of graphs. -/
import Derived.Test.YtgelaefpbdfnfaaW1
namespace Go.Proofs.Ytgelaefpbdfnfaa
open Go Go.Vx
theorem graphE_edge {n : Int} {es : List Edge} {ds : List Int} (h1 : es.length ≤ 48) (h2 : ds.length ≤ 16) (h3 : 1 ≤ n) (h4 : n ≤ 16) {e : Edge} (he : e ∈ es) (hn : ¬ okE n e) : graphE n es ds = 81 := by
  unfold graphE
  rw [if_neg (by omega), if_neg (by omega), if_neg (fun h => hn (h e he))]
theorem graphE_dest {n : Int} {es : List Edge} {ds : List Int} (h1 : es.length ≤ 48) (h2 : ds.length ≤ 16) (h3 : 1 ≤ n) (h4 : n ≤ 16) (hE : ∀ e ∈ es, okE n e) {d : Int} (hd : d ∈ ds) (hn : ¬ okD n d) : graphE n es ds = 1 := by
  unfold graphE
  rw [if_neg (by omega), if_neg (by omega), if_pos hE, if_neg (fun h => hn (h d hd))]
theorem graphE_good {n : Int} {es : List Edge} {ds : List Int} (h1 : es.length ≤ 48) (h2 : ds.length ≤ 16) (h3 : 1 ≤ n) (h4 : n ≤ 16) (hE : ∀ e ∈ es, okE n e) (hD : ∀ d ∈ ds, okD n d) : graphE n es ds = 0 := by
  unfold graphE
  rw [if_neg (by omega), if_neg (by omega), if_pos hE, if_pos hD]
theorem all_take {α : Type} {l : List α} {p : α → Prop} {k : Nat} {a : α} (h : ∀ x ∈ l.take k, p x) (ha : l[k]? = some a) (hp : p a) : ∀ x ∈ l.take (k + 1), p x := by
  intro x hx
  rw [List.take_add_one, ha] at hx
  rcases List.mem_append.1 hx with hx | hx
  · exact h x hx
  · simp at hx; rw [hx]; exact hp

set_option maxRecDepth 100000 in
theorem graph_at (n : Int) (es : List Edge) (ds : List Int) {re se rd sd : List (List D)} (he : re = es.map Edge.row) (hd : rd = ds.map irow) : FSpec Try.prog T 35 [.i .i64 n, .lst 34 re se, .lst 3 rd sd] (fun d _ => d = .i .i64 (graphE n es ds)) := by
  subst he hd
  have hel : (es.map Edge.row).length = es.length := by simp
  have hdl : (ds.map irow).length = ds.length := by simp
  refine FSpec.of_ok tok Try.func35 rfl Try.call35 (by simp) ?_
  by_cases h1 : 48 < es.length ∨ 16 < ds.length
  · have hg : graphE n es ds = 2 := by unfold graphE; rw [if_pos h1]
    (try (conv => whnf)); repeat' (first | refine Ok.seq ?_ | (refine Ok.region tok ?_; conv => whnf) | (refine Ok.region_draw tok follows (by kernel_rfl) ?_; conv => whnf) | (refine Ok.cond ?_; conv => whnf) | refine Ok.block ?_ | (refine Ok.skip ?_; conv => whnf) | (refine Ok.exit ?_; conv => whnf) | (refine Ok.ret ?_; conv => whnf) | (refine num_in (by omega) (by omega) ?_; conv => whnf) | (refine ix _ (by assumption) ?_; conv => whnf) | (refine ixI (by omega) (by assumption) ?_; conv => whnf) | (refine ix_new _ (by omega) fun _ _ => ?_; conv => whnf) | (refine ixI_new (by omega) (by omega) fun _ _ => ?_; conv => whnf) | (refine rd rfl (by assumption) ?_; conv => whnf) | (refine ⟨_, .inl ⟨rfl, rfl⟩, ?_⟩; conv => whnf) | (refine ⟨_, _, rfl, rfl, ?_⟩; conv => whnf) | (refine ⟨fun _ => ?_, fun _ => ?_⟩ <;> (conv => whnf) <;> (try (exfalso; omega))) | (refine And.intro (by first | omega | rfl | (simp; done) | (simp; omega)) ?_; conv => whnf) | (refine num_any ?_; conv => whnf) | (refine ⟨_, rfl, ?_⟩; conv => whnf) | fail)
    all_goals try (refine Or.inl ?_; (conv => whnf); rw [hg]; rfl)
  have h1a : es.length ≤ 48 := by omega
  have h1b : ds.length ≤ 16 := by omega
  by_cases h2 : n < 1 ∨ 16 < n
  · have hg : graphE n es ds = 1 := by unfold graphE; rw [if_neg h1, if_pos h2]
    (try (conv => whnf)); repeat' (first | refine Ok.seq ?_ | (refine Ok.region tok ?_; conv => whnf) | (refine Ok.region_draw tok follows (by kernel_rfl) ?_; conv => whnf) | (refine Ok.cond ?_; conv => whnf) | refine Ok.block ?_ | (refine Ok.skip ?_; conv => whnf) | (refine Ok.exit ?_; conv => whnf) | (refine Ok.ret ?_; conv => whnf) | (refine num_in (by omega) (by omega) ?_; conv => whnf) | (refine ix _ (by assumption) ?_; conv => whnf) | (refine ixI (by omega) (by assumption) ?_; conv => whnf) | (refine ix_new _ (by omega) fun _ _ => ?_; conv => whnf) | (refine ixI_new (by omega) (by omega) fun _ _ => ?_; conv => whnf) | (refine rd rfl (by assumption) ?_; conv => whnf) | (refine ⟨_, .inl ⟨rfl, rfl⟩, ?_⟩; conv => whnf) | (refine ⟨_, _, rfl, rfl, ?_⟩; conv => whnf) | (refine ⟨fun _ => ?_, fun _ => ?_⟩ <;> (conv => whnf) <;> (try (exfalso; omega))) | (refine And.intro (by first | omega | rfl | (simp; done) | (simp; omega)) ?_; conv => whnf) | (refine num_any ?_; conv => whnf) | (refine ⟨_, rfl, ?_⟩; conv => whnf) | fail)
    all_goals try (refine Or.inl ?_; (conv => whnf); rw [hg]; rfl)
  (try (conv => whnf)); repeat' (first | refine Ok.seq ?_ | (refine Ok.region tok ?_; conv => whnf) | (refine Ok.region_draw tok follows (by kernel_rfl) ?_; conv => whnf) | (refine Ok.cond ?_; conv => whnf) | refine Ok.block ?_ | (refine Ok.skip ?_; conv => whnf) | (refine Ok.exit ?_; conv => whnf) | (refine Ok.ret ?_; conv => whnf) | (refine num_in (by omega) (by omega) ?_; conv => whnf) | (refine ix _ (by assumption) ?_; conv => whnf) | (refine ixI (by omega) (by assumption) ?_; conv => whnf) | (refine ix_new _ (by omega) fun _ _ => ?_; conv => whnf) | (refine ixI_new (by omega) (by omega) fun _ _ => ?_; conv => whnf) | (refine rd rfl (by assumption) ?_; conv => whnf) | (refine ⟨_, .inl ⟨rfl, rfl⟩, ?_⟩; conv => whnf) | (refine ⟨_, _, rfl, rfl, ?_⟩; conv => whnf) | (refine ⟨fun _ => ?_, fun _ => ?_⟩ <;> (conv => whnf) <;> (try (exfalso; omega))) | (refine And.intro (by first | omega | rfl | (simp; done) | (simp; omega)) ?_; conv => whnf) | (refine num_any ?_; conv => whnf) | (refine ⟨_, rfl, ?_⟩; conv => whnf) | fail)
  refine Ok.loopU [0, 2, 25, 26] [27] 0 0 (fun (k : Nat) => [.i .i64 (k : Nat)]) (fun _ b => b) (fun _ r => r) (fun (k : Nat) => k ≤ es.length ∧ ∀ e ∈ es.take k, okE n e) (fun (k : Nat) => es.length - k) (0) (⟨Nat.zero_le _, by simp⟩) ?_; (conv => whnf); refine ⟨by ((conv => whnf); first | rfl | (simp [envCat, List.take_of_length_le, Edge.row, irow]; done) | (simp [envCat, List.take_of_length_le, Edge.row, irow]; rw [IntKind.wrap_i64]; omega)), ?_⟩
  rintro k ⟨hk, ha⟩
  by_cases hkl : k < es.length
  · obtain ⟨e, hke⟩ : ∃ e, es[k]? = some e := ⟨_, List.getElem?_eq_getElem hkl⟩
    have hbad : ¬ okE n e → graphE n es ds = 81 := graphE_edge h1a h1b (by omega) (by omega) (List.mem_of_getElem? hke)
    (try (conv => whnf)); repeat' (first | refine Ok.seq ?_ | (refine Ok.region tok ?_; conv => whnf) | (refine Ok.region_draw tok follows (by kernel_rfl) ?_; conv => whnf) | (refine Ok.cond ?_; conv => whnf) | refine Ok.block ?_ | (refine Ok.skip ?_; conv => whnf) | (refine Ok.exit ?_; conv => whnf) | (refine Ok.ret ?_; conv => whnf) | (refine num_in (by omega) (by omega) ?_; conv => whnf) | (refine ix _ (by assumption) ?_; conv => whnf) | (refine ixI (by omega) (by assumption) ?_; conv => whnf) | (refine ix_new _ (by omega) fun _ _ => ?_; conv => whnf) | (refine ixI_new (by omega) (by omega) fun _ _ => ?_; conv => whnf) | (refine rd rfl (by assumption) ?_; conv => whnf) | (refine ⟨_, .inl ⟨rfl, rfl⟩, ?_⟩; conv => whnf) | (refine ⟨_, _, rfl, rfl, ?_⟩; conv => whnf) | (refine ⟨fun _ => ?_, fun _ => ?_⟩ <;> (conv => whnf) <;> (try (exfalso; omega))) | (refine And.intro (by first | omega | rfl | (simp; done) | (simp; omega)) ?_; conv => whnf) | (refine num_any ?_; conv => whnf) | (refine ⟨_, rfl, ?_⟩; conv => whnf) | fail)
    all_goals first
      | (refine ⟨k + 1, by omega, ⟨by omega, all_take ha hke (by unfold okE; omega)⟩, ?_⟩; (conv => whnf); (first | rfl | simp [envCat, List.take_of_length_le, Edge.row, irow]))
      | (refine Or.inl ?_; (conv => whnf); rw [hbad (by unfold okE; omega)]; rfl)
  · have hkk : k = es.length := by omega
    subst hkk
    rw [List.take_length] at ha
    (try (conv => whnf)); repeat' (first | refine Ok.seq ?_ | (refine Ok.region tok ?_; conv => whnf) | (refine Ok.region_draw tok follows (by kernel_rfl) ?_; conv => whnf) | (refine Ok.cond ?_; conv => whnf) | refine Ok.block ?_ | (refine Ok.skip ?_; conv => whnf) | (refine Ok.exit ?_; conv => whnf) | (refine Ok.ret ?_; conv => whnf) | (refine num_in (by omega) (by omega) ?_; conv => whnf) | (refine ix _ (by assumption) ?_; conv => whnf) | (refine ixI (by omega) (by assumption) ?_; conv => whnf) | (refine ix_new _ (by omega) fun _ _ => ?_; conv => whnf) | (refine ixI_new (by omega) (by omega) fun _ _ => ?_; conv => whnf) | (refine rd rfl (by assumption) ?_; conv => whnf) | (refine ⟨_, .inl ⟨rfl, rfl⟩, ?_⟩; conv => whnf) | (refine ⟨_, _, rfl, rfl, ?_⟩; conv => whnf) | (refine ⟨fun _ => ?_, fun _ => ?_⟩ <;> (conv => whnf) <;> (try (exfalso; omega))) | (refine And.intro (by first | omega | rfl | (simp; done) | (simp; omega)) ?_; conv => whnf) | (refine num_any ?_; conv => whnf) | (refine ⟨_, rfl, ?_⟩; conv => whnf) | fail)
    refine Ok.loopU [0, 72, 73] [74] 0 0 (fun (k : Nat) => [.i .i64 (k : Nat)]) (fun _ b => b) (fun _ r => r) (fun (k : Nat) => k ≤ ds.length ∧ ∀ e ∈ ds.take k, okD n e) (fun (k : Nat) => ds.length - k) (0) (⟨Nat.zero_le _, by simp⟩) ?_; (conv => whnf); refine ⟨by ((conv => whnf); first | rfl | (simp [envCat, List.take_of_length_le, Edge.row, irow]; done) | (simp [envCat, List.take_of_length_le, Edge.row, irow]; rw [IntKind.wrap_i64]; omega)), ?_⟩
    rintro k ⟨hk, hb⟩
    by_cases hkl : k < ds.length
    · obtain ⟨d, hkd⟩ : ∃ e, ds[k]? = some e := ⟨_, List.getElem?_eq_getElem hkl⟩
      have hbad : ¬ okD n d → graphE n es ds = 1 := graphE_dest h1a h1b (by omega) (by omega) ha (List.mem_of_getElem? hkd)
      (try (conv => whnf)); repeat' (first | refine Ok.seq ?_ | (refine Ok.region tok ?_; conv => whnf) | (refine Ok.region_draw tok follows (by kernel_rfl) ?_; conv => whnf) | (refine Ok.cond ?_; conv => whnf) | refine Ok.block ?_ | (refine Ok.skip ?_; conv => whnf) | (refine Ok.exit ?_; conv => whnf) | (refine Ok.ret ?_; conv => whnf) | (refine num_in (by omega) (by omega) ?_; conv => whnf) | (refine ix _ (by assumption) ?_; conv => whnf) | (refine ixI (by omega) (by assumption) ?_; conv => whnf) | (refine ix_new _ (by omega) fun _ _ => ?_; conv => whnf) | (refine ixI_new (by omega) (by omega) fun _ _ => ?_; conv => whnf) | (refine rd rfl (by assumption) ?_; conv => whnf) | (refine ⟨_, .inl ⟨rfl, rfl⟩, ?_⟩; conv => whnf) | (refine ⟨_, _, rfl, rfl, ?_⟩; conv => whnf) | (refine ⟨fun _ => ?_, fun _ => ?_⟩ <;> (conv => whnf) <;> (try (exfalso; omega))) | (refine And.intro (by first | omega | rfl | (simp; done) | (simp; omega)) ?_; conv => whnf) | (refine num_any ?_; conv => whnf) | (refine ⟨_, rfl, ?_⟩; conv => whnf) | fail)
      all_goals first
        | (refine ⟨k + 1, by omega, ⟨by omega, all_take hb hkd (by unfold okD; omega)⟩, ?_⟩; (conv => whnf); (first | rfl | simp [envCat, List.take_of_length_le, Edge.row, irow]))
        | (refine Or.inl ?_; (conv => whnf); rw [hbad (by unfold okD; omega)]; rfl)
    · have hkk : k = ds.length := by omega
      subst hkk
      rw [List.take_length] at hb
      (try (conv => whnf)); repeat' (first | refine Ok.seq ?_ | (refine Ok.region tok ?_; conv => whnf) | (refine Ok.region_draw tok follows (by kernel_rfl) ?_; conv => whnf) | (refine Ok.cond ?_; conv => whnf) | refine Ok.block ?_ | (refine Ok.skip ?_; conv => whnf) | (refine Ok.exit ?_; conv => whnf) | (refine Ok.ret ?_; conv => whnf) | (refine num_in (by omega) (by omega) ?_; conv => whnf) | (refine ix _ (by assumption) ?_; conv => whnf) | (refine ixI (by omega) (by assumption) ?_; conv => whnf) | (refine ix_new _ (by omega) fun _ _ => ?_; conv => whnf) | (refine ixI_new (by omega) (by omega) fun _ _ => ?_; conv => whnf) | (refine rd rfl (by assumption) ?_; conv => whnf) | (refine ⟨_, .inl ⟨rfl, rfl⟩, ?_⟩; conv => whnf) | (refine ⟨_, _, rfl, rfl, ?_⟩; conv => whnf) | (refine ⟨fun _ => ?_, fun _ => ?_⟩ <;> (conv => whnf) <;> (try (exfalso; omega))) | (refine And.intro (by first | omega | rfl | (simp; done) | (simp; omega)) ?_; conv => whnf) | (refine num_any ?_; conv => whnf) | (refine ⟨_, rfl, ?_⟩; conv => whnf) | fail)
      refine Or.inl ?_; (conv => whnf)
      rw [graphE_good h1a h1b (by omega) (by omega) ha hb]
      rfl

set_option maxRecDepth 100000 in
theorem refGraph_at (n : Int) (es : List Edge) (ds : List Int) {re se rd sd : List (List D)} (he : re = es.map Edge.row) (hd : rd = ds.map irow) : FSpec Try.prog T 39 [.i .i64 n, .lst 34 re se, .lst 3 rd sd] (fun d _ => d = .i .i64 (graphE n es ds)) := by
  subst he hd
  have hel : (es.map Edge.row).length = es.length := by simp
  have hdl : (ds.map irow).length = ds.length := by simp
  refine FSpec.of_ok tok Try.func39 rfl Try.call39 (by simp) ?_
  by_cases h1 : 48 < es.length ∨ 16 < ds.length
  · have hg : graphE n es ds = 2 := by unfold graphE; rw [if_pos h1]
    (try (conv => whnf)); repeat' (first | refine Ok.seq ?_ | (refine Ok.region tok ?_; conv => whnf) | (refine Ok.region_draw tok follows (by kernel_rfl) ?_; conv => whnf) | (refine Ok.cond ?_; conv => whnf) | refine Ok.block ?_ | (refine Ok.skip ?_; conv => whnf) | (refine Ok.exit ?_; conv => whnf) | (refine Ok.ret ?_; conv => whnf) | (refine num_in (by omega) (by omega) ?_; conv => whnf) | (refine ix _ (by assumption) ?_; conv => whnf) | (refine ixI (by omega) (by assumption) ?_; conv => whnf) | (refine ix_new _ (by omega) fun _ _ => ?_; conv => whnf) | (refine ixI_new (by omega) (by omega) fun _ _ => ?_; conv => whnf) | (refine rd rfl (by assumption) ?_; conv => whnf) | (refine ⟨_, .inl ⟨rfl, rfl⟩, ?_⟩; conv => whnf) | (refine ⟨_, _, rfl, rfl, ?_⟩; conv => whnf) | (refine ⟨fun _ => ?_, fun _ => ?_⟩ <;> (conv => whnf) <;> (try (exfalso; omega))) | (refine And.intro (by first | omega | rfl | (simp; done) | (simp; omega)) ?_; conv => whnf) | (refine num_any ?_; conv => whnf) | (refine ⟨_, rfl, ?_⟩; conv => whnf) | fail)
    all_goals try (refine Or.inl ?_; (conv => whnf); rw [hg]; rfl)
  have h1a : es.length ≤ 48 := by omega
  have h1b : ds.length ≤ 16 := by omega
  by_cases h2 : n < 1 ∨ 16 < n
  · have hg : graphE n es ds = 1 := by unfold graphE; rw [if_neg h1, if_pos h2]
    (try (conv => whnf)); repeat' (first | refine Ok.seq ?_ | (refine Ok.region tok ?_; conv => whnf) | (refine Ok.region_draw tok follows (by kernel_rfl) ?_; conv => whnf) | (refine Ok.cond ?_; conv => whnf) | refine Ok.block ?_ | (refine Ok.skip ?_; conv => whnf) | (refine Ok.exit ?_; conv => whnf) | (refine Ok.ret ?_; conv => whnf) | (refine num_in (by omega) (by omega) ?_; conv => whnf) | (refine ix _ (by assumption) ?_; conv => whnf) | (refine ixI (by omega) (by assumption) ?_; conv => whnf) | (refine ix_new _ (by omega) fun _ _ => ?_; conv => whnf) | (refine ixI_new (by omega) (by omega) fun _ _ => ?_; conv => whnf) | (refine rd rfl (by assumption) ?_; conv => whnf) | (refine ⟨_, .inl ⟨rfl, rfl⟩, ?_⟩; conv => whnf) | (refine ⟨_, _, rfl, rfl, ?_⟩; conv => whnf) | (refine ⟨fun _ => ?_, fun _ => ?_⟩ <;> (conv => whnf) <;> (try (exfalso; omega))) | (refine And.intro (by first | omega | rfl | (simp; done) | (simp; omega)) ?_; conv => whnf) | (refine num_any ?_; conv => whnf) | (refine ⟨_, rfl, ?_⟩; conv => whnf) | fail)
    all_goals try (refine Or.inl ?_; (conv => whnf); rw [hg]; rfl)
  (try (conv => whnf)); repeat' (first | refine Ok.seq ?_ | (refine Ok.region tok ?_; conv => whnf) | (refine Ok.region_draw tok follows (by kernel_rfl) ?_; conv => whnf) | (refine Ok.cond ?_; conv => whnf) | refine Ok.block ?_ | (refine Ok.skip ?_; conv => whnf) | (refine Ok.exit ?_; conv => whnf) | (refine Ok.ret ?_; conv => whnf) | (refine num_in (by omega) (by omega) ?_; conv => whnf) | (refine ix _ (by assumption) ?_; conv => whnf) | (refine ixI (by omega) (by assumption) ?_; conv => whnf) | (refine ix_new _ (by omega) fun _ _ => ?_; conv => whnf) | (refine ixI_new (by omega) (by omega) fun _ _ => ?_; conv => whnf) | (refine rd rfl (by assumption) ?_; conv => whnf) | (refine ⟨_, .inl ⟨rfl, rfl⟩, ?_⟩; conv => whnf) | (refine ⟨_, _, rfl, rfl, ?_⟩; conv => whnf) | (refine ⟨fun _ => ?_, fun _ => ?_⟩ <;> (conv => whnf) <;> (try (exfalso; omega))) | (refine And.intro (by first | omega | rfl | (simp; done) | (simp; omega)) ?_; conv => whnf) | (refine num_any ?_; conv => whnf) | (refine ⟨_, rfl, ?_⟩; conv => whnf) | fail)
  refine Ok.loopU [0, 1, 2] [7] 0 0 (fun (k : Nat) => [.i .i64 (k : Nat)]) (fun _ b => b) (fun _ r => r) (fun (k : Nat) => k ≤ es.length ∧ ∀ e ∈ es.take k, okE n e) (fun (k : Nat) => es.length - k) (0) (⟨Nat.zero_le _, by simp⟩) ?_; (conv => whnf); refine ⟨by ((conv => whnf); first | rfl | (simp [envCat, List.take_of_length_le, Edge.row, irow]; done) | (simp [envCat, List.take_of_length_le, Edge.row, irow]; rw [IntKind.wrap_i64]; omega)), ?_⟩
  rintro k ⟨hk, ha⟩
  by_cases hkl : k < es.length
  · obtain ⟨e, hke⟩ : ∃ e, es[k]? = some e := ⟨_, List.getElem?_eq_getElem hkl⟩
    have hbad : ¬ okE n e → graphE n es ds = 81 := graphE_edge h1a h1b (by omega) (by omega) (List.mem_of_getElem? hke)
    (try (conv => whnf)); repeat' (first | refine Ok.seq ?_ | (refine Ok.region tok ?_; conv => whnf) | (refine Ok.region_draw tok follows (by kernel_rfl) ?_; conv => whnf) | (refine Ok.cond ?_; conv => whnf) | refine Ok.block ?_ | (refine Ok.skip ?_; conv => whnf) | (refine Ok.exit ?_; conv => whnf) | (refine Ok.ret ?_; conv => whnf) | (refine num_in (by omega) (by omega) ?_; conv => whnf) | (refine ix _ (by assumption) ?_; conv => whnf) | (refine ixI (by omega) (by assumption) ?_; conv => whnf) | (refine ix_new _ (by omega) fun _ _ => ?_; conv => whnf) | (refine ixI_new (by omega) (by omega) fun _ _ => ?_; conv => whnf) | (refine rd rfl (by assumption) ?_; conv => whnf) | (refine ⟨_, .inl ⟨rfl, rfl⟩, ?_⟩; conv => whnf) | (refine ⟨_, _, rfl, rfl, ?_⟩; conv => whnf) | (refine ⟨fun _ => ?_, fun _ => ?_⟩ <;> (conv => whnf) <;> (try (exfalso; omega))) | (refine And.intro (by first | omega | rfl | (simp; done) | (simp; omega)) ?_; conv => whnf) | (refine num_any ?_; conv => whnf) | (refine ⟨_, rfl, ?_⟩; conv => whnf) | fail)
    all_goals first
      | (refine ⟨k + 1, by omega, ⟨by omega, all_take ha hke (by unfold okE; omega)⟩, ?_⟩; (conv => whnf); (first | rfl | simp [envCat, List.take_of_length_le, Edge.row, irow]))
      | (refine Or.inl ?_; (conv => whnf); rw [hbad (by unfold okE; omega)]; rfl)
  · have hkk : k = es.length := by omega
    subst hkk
    rw [List.take_length] at ha
    (try (conv => whnf)); repeat' (first | refine Ok.seq ?_ | (refine Ok.region tok ?_; conv => whnf) | (refine Ok.region_draw tok follows (by kernel_rfl) ?_; conv => whnf) | (refine Ok.cond ?_; conv => whnf) | refine Ok.block ?_ | (refine Ok.skip ?_; conv => whnf) | (refine Ok.exit ?_; conv => whnf) | (refine Ok.ret ?_; conv => whnf) | (refine num_in (by omega) (by omega) ?_; conv => whnf) | (refine ix _ (by assumption) ?_; conv => whnf) | (refine ixI (by omega) (by assumption) ?_; conv => whnf) | (refine ix_new _ (by omega) fun _ _ => ?_; conv => whnf) | (refine ixI_new (by omega) (by omega) fun _ _ => ?_; conv => whnf) | (refine rd rfl (by assumption) ?_; conv => whnf) | (refine ⟨_, .inl ⟨rfl, rfl⟩, ?_⟩; conv => whnf) | (refine ⟨_, _, rfl, rfl, ?_⟩; conv => whnf) | (refine ⟨fun _ => ?_, fun _ => ?_⟩ <;> (conv => whnf) <;> (try (exfalso; omega))) | (refine And.intro (by first | omega | rfl | (simp; done) | (simp; omega)) ?_; conv => whnf) | (refine num_any ?_; conv => whnf) | (refine ⟨_, rfl, ?_⟩; conv => whnf) | fail)
    refine Ok.loopU [0, 2] [9] 0 0 (fun (k : Nat) => [.i .i64 (k : Nat)]) (fun _ b => b) (fun _ r => r) (fun (k : Nat) => k ≤ ds.length ∧ ∀ e ∈ ds.take k, okD n e) (fun (k : Nat) => ds.length - k) (0) (⟨Nat.zero_le _, by simp⟩) ?_; (conv => whnf); refine ⟨by ((conv => whnf); first | rfl | (simp [envCat, List.take_of_length_le, Edge.row, irow]; done) | (simp [envCat, List.take_of_length_le, Edge.row, irow]; rw [IntKind.wrap_i64]; omega)), ?_⟩
    rintro k ⟨hk, hb⟩
    by_cases hkl : k < ds.length
    · obtain ⟨d, hkd⟩ : ∃ e, ds[k]? = some e := ⟨_, List.getElem?_eq_getElem hkl⟩
      have hbad : ¬ okD n d → graphE n es ds = 1 := graphE_dest h1a h1b (by omega) (by omega) ha (List.mem_of_getElem? hkd)
      (try (conv => whnf)); repeat' (first | refine Ok.seq ?_ | (refine Ok.region tok ?_; conv => whnf) | (refine Ok.region_draw tok follows (by kernel_rfl) ?_; conv => whnf) | (refine Ok.cond ?_; conv => whnf) | refine Ok.block ?_ | (refine Ok.skip ?_; conv => whnf) | (refine Ok.exit ?_; conv => whnf) | (refine Ok.ret ?_; conv => whnf) | (refine num_in (by omega) (by omega) ?_; conv => whnf) | (refine ix _ (by assumption) ?_; conv => whnf) | (refine ixI (by omega) (by assumption) ?_; conv => whnf) | (refine ix_new _ (by omega) fun _ _ => ?_; conv => whnf) | (refine ixI_new (by omega) (by omega) fun _ _ => ?_; conv => whnf) | (refine rd rfl (by assumption) ?_; conv => whnf) | (refine ⟨_, .inl ⟨rfl, rfl⟩, ?_⟩; conv => whnf) | (refine ⟨_, _, rfl, rfl, ?_⟩; conv => whnf) | (refine ⟨fun _ => ?_, fun _ => ?_⟩ <;> (conv => whnf) <;> (try (exfalso; omega))) | (refine And.intro (by first | omega | rfl | (simp; done) | (simp; omega)) ?_; conv => whnf) | (refine num_any ?_; conv => whnf) | (refine ⟨_, rfl, ?_⟩; conv => whnf) | fail)
      all_goals first
        | (refine ⟨k + 1, by omega, ⟨by omega, all_take hb hkd (by unfold okD; omega)⟩, ?_⟩; (conv => whnf); (first | rfl | simp [envCat, List.take_of_length_le, Edge.row, irow]))
        | (refine Or.inl ?_; (conv => whnf); rw [hbad (by unfold okD; omega)]; rfl)
    · have hkk : k = ds.length := by omega
      subst hkk
      rw [List.take_length] at hb
      (try (conv => whnf)); repeat' (first | refine Ok.seq ?_ | (refine Ok.region tok ?_; conv => whnf) | (refine Ok.region_draw tok follows (by kernel_rfl) ?_; conv => whnf) | (refine Ok.cond ?_; conv => whnf) | refine Ok.block ?_ | (refine Ok.skip ?_; conv => whnf) | (refine Ok.exit ?_; conv => whnf) | (refine Ok.ret ?_; conv => whnf) | (refine num_in (by omega) (by omega) ?_; conv => whnf) | (refine ix _ (by assumption) ?_; conv => whnf) | (refine ixI (by omega) (by assumption) ?_; conv => whnf) | (refine ix_new _ (by omega) fun _ _ => ?_; conv => whnf) | (refine ixI_new (by omega) (by omega) fun _ _ => ?_; conv => whnf) | (refine rd rfl (by assumption) ?_; conv => whnf) | (refine ⟨_, .inl ⟨rfl, rfl⟩, ?_⟩; conv => whnf) | (refine ⟨_, _, rfl, rfl, ?_⟩; conv => whnf) | (refine ⟨fun _ => ?_, fun _ => ?_⟩ <;> (conv => whnf) <;> (try (exfalso; omega))) | (refine And.intro (by first | omega | rfl | (simp; done) | (simp; omega)) ?_; conv => whnf) | (refine num_any ?_; conv => whnf) | (refine ⟨_, rfl, ?_⟩; conv => whnf) | fail)
      refine Or.inl ?_; (conv => whnf)
      rw [graphE_good h1a h1b (by omega) (by omega) ha hb]
      rfl

theorem nearer_spec (rows room : List (List D)) (a b : Rch) : FSpec Try.prog T 36 [.lst 3 rows room, .agg a.row, .agg b.row] (fun d _ => d = .b (nearP a b)) := by
  refine FSpec.of_ok tok Try.func36 rfl Try.call36 (by simp) ?_
  (try (conv => whnf)); repeat' (first | refine Ok.seq ?_ | (refine Ok.region tok ?_; conv => whnf) | (refine Ok.region_draw tok follows (by kernel_rfl) ?_; conv => whnf) | (refine Ok.cond ?_; conv => whnf) | refine Ok.block ?_ | (refine Ok.skip ?_; conv => whnf) | (refine Ok.exit ?_; conv => whnf) | (refine Ok.ret ?_; conv => whnf) | (refine num_in (by omega) (by omega) ?_; conv => whnf) | (refine ix _ (by assumption) ?_; conv => whnf) | (refine ixI (by omega) (by assumption) ?_; conv => whnf) | (refine ix_new _ (by omega) fun _ _ => ?_; conv => whnf) | (refine ixI_new (by omega) (by omega) fun _ _ => ?_; conv => whnf) | (refine rd rfl (by assumption) ?_; conv => whnf) | (refine ⟨_, .inl ⟨rfl, rfl⟩, ?_⟩; conv => whnf) | (refine ⟨_, _, rfl, rfl, ?_⟩; conv => whnf) | (refine ⟨fun _ => ?_, fun _ => ?_⟩ <;> (conv => whnf) <;> (try (exfalso; omega))) | (refine And.intro (by first | omega | rfl | (simp; done) | (simp; omega)) ?_; conv => whnf) | (refine num_any ?_; conv => whnf) | (refine ⟨_, rfl, ?_⟩; conv => whnf) | fail)
  refine Or.inl ?_; (conv => whnf)
  exact b_eq Iff.rfl
end Go.Proofs.Ytgelaefpbdfnfaa
