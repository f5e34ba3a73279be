/- The document's comparison: networks. -/
import Derived.Test.YtkkmbgfhhcoehaaC6
namespace Go.Proofs.Ytkkmbgfhhcoehaa
open Go Go.Vx
def eqBoxesP (p : Prop) (u v : List BoxB) : Prop := u.length = v.length ∧ ∀ (i : Nat) x y, u[i]? = some x → v[i]? = some y → eqBoxP p x y
def equalP (p : Prop) (a b : ConfigB) : Prop := a.title = b.title ∧ a.routing = b.routing ∧ (a.slim ↔ b.slim) ∧ a.fields = b.fields ∧ eqBoxesP p a.boxes b.boxes ∧ eqL p Eq a.links b.links ∧ eqL p Eq a.slices b.slices
set_option maxRecDepth 100000 in
set_option maxHeartbeats 4000000 in
theorem equal_at (p : Prop) (a b : Config) (hl : a.fields.l.length ≤ 1048576) (hl2 : a.boxes.l.length ≤ 1048576) : FSpec Try.prog T 26 [.agg a.row, .agg b.row, .b p] (fun d _ => d = .b (equalP p a.b b.b)) := by
  have hfa : (a.fields.l.map SI.row).length = a.fields.l.length := by simp
  have hfb : (b.fields.l.map SI.row).length = b.fields.l.length := by simp
  have hba : (a.boxes.l.map Box.row).length = a.boxes.l.length := by simp
  have hbb : (b.boxes.l.map Box.row).length = b.boxes.l.length := by simp
  have hlen : equalP p a.b b.b → a.fields.l.length = b.fields.l.length ∧ a.boxes.l.length = b.boxes.l.length := fun h => ⟨congrArg List.length h.2.2.2.1, by have := h.2.2.2.2.1.1; simpa [Config.b] using this⟩
  refine FSpec.of_ok tok Try.func26 rfl Try.call26 (by simp) ?_
  (try (conv => whnf)); repeat' (first | refine Ok.seq ?_ | (refine Ok.region tok ?_; conv => whnf) | (refine Ok.region_draw tok follows (by kernel_rfl) ?_; conv => whnf) | (refine Ok.cond ?_; conv => whnf) | refine Ok.block ?_ | (refine Ok.skip ?_; conv => whnf) | (refine Ok.exit ?_; conv => whnf) | (refine Ok.ret ?_; conv => whnf) | (refine num_in (by omega) (by omega) ?_; conv => whnf) | (refine ix _ (by assumption) ?_; conv => whnf) | (refine ixI (by omega) (by assumption) ?_; conv => whnf) | (refine ix_new _ (by omega) fun _ _ => ?_; conv => whnf) | (refine ixI_new (by omega) (by omega) fun _ _ => ?_; conv => whnf) | (refine rd rfl (by assumption) ?_; conv => whnf) | (refine ⟨_, .inl ⟨rfl, rfl⟩, ?_⟩; conv => whnf) | (refine ⟨_, _, rfl, rfl, ?_⟩; conv => whnf) | (refine ⟨fun _ => ?_, fun _ => ?_⟩ <;> (conv => whnf) <;> (try (exfalso; omega))) | (refine And.intro (by first | omega | rfl | (simp; done) | (simp; omega)) ?_; conv => whnf) | (refine num_any ?_; conv => whnf) | (refine ⟨_, rfl, ?_⟩; conv => whnf) | fail)
  any_goals
    refine Or.inl ?_; (conv => whnf)
    exact b_eq ⟨fun h => h.elim, fun h => by
      have h1 := hlen h
      obtain ⟨e1, e2, e3, _⟩ := h
      simp only [Config.b] at e1 e2 e3
      first
        | omega
        | exact absurd e1 (by assumption)
        | exact absurd e2 (by assumption)
        | exact absurd e3 (by assumption)⟩
  rename_i q1 q2 q3 q4 q5
  have q1 := Classical.not_not.1 q1
  have q2 := Classical.not_not.1 q2
  have q3 := Classical.not_not.1 q3
  refine Ok.loopU [2, 3, 4] [7] 0 2 (fun (k : Nat) => [.i .i64 (k : Nat)]) (fun _ b => b) (fun _ r => r) (fun (k : Nat) => k ≤ a.fields.l.length ∧ a.fields.l.take k = b.fields.l.take k) (fun (k : Nat) => a.fields.l.length - k) (0) (⟨Nat.zero_le _, by simp⟩) ?_; (conv => whnf); refine ⟨by ((conv => whnf); first | rfl | (simp [envCat, List.take_of_length_le, SI.row, Node.row, Pfx.row, Link.row, srow, Line.row, Rule.row, Box.row, Slc.row, Config.row, Ls.d]; done) | (simp [envCat, List.take_of_length_le, SI.row, Node.row, Pfx.row, Link.row, srow, Line.row, Rule.row, Box.row, Slc.row, Config.row, Ls.d]; rw [IntKind.wrap_i64]; omega)), ?_⟩
  rintro k ⟨hk, hf⟩
  by_cases hka : k < a.fields.l.length
  · obtain ⟨x, hx⟩ : ∃ x, a.fields.l[k]? = some x := ⟨_, List.getElem?_eq_getElem hka⟩
    obtain ⟨y, hy⟩ : ∃ x, b.fields.l[k]? = some x := ⟨_, List.getElem?_eq_getElem (by omega)⟩
    (try (conv => whnf)); repeat' (first | refine Ok.seq ?_ | (refine Ok.region tok ?_; conv => whnf) | (refine Ok.region_draw tok follows (by kernel_rfl) ?_; conv => whnf) | (refine Ok.cond ?_; conv => whnf) | refine Ok.block ?_ | (refine Ok.skip ?_; conv => whnf) | (refine Ok.exit ?_; conv => whnf) | (refine Ok.ret ?_; conv => whnf) | (refine num_in (by omega) (by omega) ?_; conv => whnf) | (refine ix _ (by assumption) ?_; conv => whnf) | (refine ixI (by omega) (by assumption) ?_; conv => whnf) | (refine ix_new _ (by omega) fun _ _ => ?_; conv => whnf) | (refine ixI_new (by omega) (by omega) fun _ _ => ?_; conv => whnf) | (refine rd rfl (by assumption) ?_; conv => whnf) | (refine ⟨_, .inl ⟨rfl, rfl⟩, ?_⟩; conv => whnf) | (refine ⟨_, _, rfl, rfl, ?_⟩; conv => whnf) | (refine ⟨fun _ => ?_, fun _ => ?_⟩ <;> (conv => whnf) <;> (try (exfalso; omega))) | (refine And.intro (by first | omega | rfl | (simp; done) | (simp; omega)) ?_; conv => whnf) | (refine num_any ?_; conv => whnf) | (refine ⟨_, rfl, ?_⟩; conv => whnf) | fail)
    refine ⟨_, eqSI43, by kernel_rfl, ?_⟩
    (conv => whnf)
    (try (conv => whnf)); repeat' (first | refine Ok.seq ?_ | (refine Ok.region tok ?_; conv => whnf) | (refine Ok.region_draw tok follows (by kernel_rfl) ?_; conv => whnf) | (refine Ok.cond ?_; conv => whnf) | refine Ok.block ?_ | (refine Ok.skip ?_; conv => whnf) | (refine Ok.exit ?_; conv => whnf) | (refine Ok.ret ?_; conv => whnf) | (refine num_in (by omega) (by omega) ?_; conv => whnf) | (refine ix _ (by assumption) ?_; conv => whnf) | (refine ixI (by omega) (by assumption) ?_; conv => whnf) | (refine ix_new _ (by omega) fun _ _ => ?_; conv => whnf) | (refine ixI_new (by omega) (by omega) fun _ _ => ?_; conv => whnf) | (refine rd rfl (by assumption) ?_; conv => whnf) | (refine ⟨_, .inl ⟨rfl, rfl⟩, ?_⟩; conv => whnf) | (refine ⟨_, _, rfl, rfl, ?_⟩; conv => whnf) | (refine ⟨fun _ => ?_, fun _ => ?_⟩ <;> (conv => whnf) <;> (try (exfalso; omega))) | (refine And.intro (by first | omega | rfl | (simp; done) | (simp; omega)) ?_; conv => whnf) | (refine num_any ?_; conv => whnf) | (refine ⟨_, rfl, ?_⟩; conv => whnf) | fail)
    · rename_i hne
      refine Or.inl ?_; (conv => whnf)
      exact b_eq ⟨fun h => h.elim, fun h => hne ((SI.eqRow x y).2 (by have h4 := h.2.2.2.1; simp only [Config.b] at h4; rw [h4, hy] at hx; exact (Option.some.inj hx).symm))⟩
    · rename_i heq
      refine ⟨k + 1, by omega, ⟨by omega, take_step hx hy hf ((SI.eqRow x y).1 (Classical.not_not.1 heq))⟩, ?_⟩
      (conv => whnf); (first | rfl | simp [envCat, List.take_of_length_le, SI.row, Node.row, Pfx.row, Link.row, srow, Line.row, Rule.row, Box.row, Slc.row, Config.row, Ls.d])
  obtain rfl : k = a.fields.l.length := by omega
  rw [List.take_length, List.take_of_length_le (by omega)] at hf
  (try (conv => whnf)); repeat' (first | refine Ok.seq ?_ | (refine Ok.region tok ?_; conv => whnf) | (refine Ok.region_draw tok follows (by kernel_rfl) ?_; conv => whnf) | (refine Ok.cond ?_; conv => whnf) | refine Ok.block ?_ | (refine Ok.skip ?_; conv => whnf) | (refine Ok.exit ?_; conv => whnf) | (refine Ok.ret ?_; conv => whnf) | (refine num_in (by omega) (by omega) ?_; conv => whnf) | (refine ix _ (by assumption) ?_; conv => whnf) | (refine ixI (by omega) (by assumption) ?_; conv => whnf) | (refine ix_new _ (by omega) fun _ _ => ?_; conv => whnf) | (refine ixI_new (by omega) (by omega) fun _ _ => ?_; conv => whnf) | (refine rd rfl (by assumption) ?_; conv => whnf) | (refine ⟨_, .inl ⟨rfl, rfl⟩, ?_⟩; conv => whnf) | (refine ⟨_, _, rfl, rfl, ?_⟩; conv => whnf) | (refine ⟨fun _ => ?_, fun _ => ?_⟩ <;> (conv => whnf) <;> (try (exfalso; omega))) | (refine And.intro (by first | omega | rfl | (simp; done) | (simp; omega)) ?_; conv => whnf) | (refine num_any ?_; conv => whnf) | (refine ⟨_, rfl, ?_⟩; conv => whnf) | fail)
  refine Ok.loopU [2, 3, 4] [8] 0 2 (fun (k : Nat) => [.i .i64 (k : Nat)]) (fun _ b => b) (fun _ r => r) (fun (k : Nat) => k ≤ a.boxes.l.length ∧ (∀ (i : Nat) x y, i < k → (a.boxes.l.map Box.b)[i]? = some x → (b.boxes.l.map Box.b)[i]? = some y → eqBoxP p x y)) (fun (k : Nat) => a.boxes.l.length - k) (0) (⟨Nat.zero_le _, fun i x y h => by omega⟩) ?_; (conv => whnf); refine ⟨by ((conv => whnf); first | rfl | (simp [envCat, List.take_of_length_le, SI.row, Node.row, Pfx.row, Link.row, srow, Line.row, Rule.row, Box.row, Slc.row, Config.row, Ls.d]; done) | (simp [envCat, List.take_of_length_le, SI.row, Node.row, Pfx.row, Link.row, srow, Line.row, Rule.row, Box.row, Slc.row, Config.row, Ls.d]; rw [IntKind.wrap_i64]; omega)), ?_⟩
  rintro k ⟨hk2, hbx⟩
  by_cases hkb : k < a.boxes.l.length
  · obtain ⟨x, hx⟩ : ∃ x, a.boxes.l[k]? = some x := ⟨_, List.getElem?_eq_getElem hkb⟩
    obtain ⟨y, hy⟩ : ∃ x, b.boxes.l[k]? = some x := ⟨_, List.getElem?_eq_getElem (by omega)⟩
    have hxm : (a.boxes.l.map Box.b)[k]? = some x.b := by simp [hx]
    have hym : (b.boxes.l.map Box.b)[k]? = some y.b := by simp [hy]
    (try (conv => whnf)); repeat' (first | refine Ok.seq ?_ | (refine Ok.region tok ?_; conv => whnf) | (refine Ok.region_draw tok follows (by kernel_rfl) ?_; conv => whnf) | (refine Ok.cond ?_; conv => whnf) | refine Ok.block ?_ | (refine Ok.skip ?_; conv => whnf) | (refine Ok.exit ?_; conv => whnf) | (refine Ok.ret ?_; conv => whnf) | (refine num_in (by omega) (by omega) ?_; conv => whnf) | (refine ix _ (by assumption) ?_; conv => whnf) | (refine ixI (by omega) (by assumption) ?_; conv => whnf) | (refine ix_new _ (by omega) fun _ _ => ?_; conv => whnf) | (refine ixI_new (by omega) (by omega) fun _ _ => ?_; conv => whnf) | (refine Or.inl ?_; (conv => whnf); (repeat (refine And.intro (by first | omega | (simp; done) | (simp; omega)) ?_; (conv => whnf))); refine ⟨_, eqBox_at p x y, rfl, ?_⟩; conv => whnf) | (refine ⟨_, eqBox_at p x y, rfl, ?_⟩; conv => whnf) | (refine Or.inr (Or.inl ?_); (conv => whnf); (repeat (refine And.intro (by first | omega | (simp; done) | (simp; omega)) ?_; (conv => whnf))); refine ⟨_, eqBox_at p x y, ?_⟩; rintro _ _ ⟨rfl, rfl⟩; conv => whnf) | (refine rd rfl (by assumption) ?_; conv => whnf) | (refine ⟨_, .inl ⟨rfl, rfl⟩, ?_⟩; conv => whnf) | (refine ⟨_, _, rfl, rfl, ?_⟩; conv => whnf) | (refine ⟨fun _ => ?_, fun _ => ?_⟩ <;> (conv => whnf) <;> (try (exfalso; omega))) | (refine And.intro (by first | omega | rfl | (simp; done) | (simp; omega)) ?_; conv => whnf) | (refine num_any ?_; conv => whnf) | (refine ⟨_, rfl, ?_⟩; conv => whnf) | fail)
    · rename_i hne
      refine Or.inl ?_; (conv => whnf)
      exact b_eq ⟨fun h => h.elim, fun h => hne (h.2.2.2.2.1.2 k x.b y.b hxm hym)⟩
    · rename_i heq
      refine ⟨k + 1, by omega, ⟨by omega, fun i u v hi hu hv => ?_⟩, ?_⟩
      · by_cases hik : i = k
        · subst hik
          rw [hxm] at hu
          rw [hym] at hv
          cases hu
          cases hv
          exact Classical.not_not.1 heq
        · exact hbx i u v (by omega) hu hv
      · (conv => whnf); (first | rfl | simp [envCat, List.take_of_length_le, SI.row, Node.row, Pfx.row, Link.row, srow, Line.row, Rule.row, Box.row, Slc.row, Config.row, Ls.d])
  obtain rfl : k = a.boxes.l.length := by omega
  have hB : eqBoxesP p a.b.boxes b.b.boxes := ⟨by simp [Config.b]; omega, fun i x y hx hy => hbx i x y (by have := (List.getElem?_eq_some_iff.1 hx).1; simpa [Config.b] using this) hx hy⟩
  (try (conv => whnf)); repeat' (first | refine Ok.seq ?_ | (refine Ok.region tok ?_; conv => whnf) | (refine Ok.region_draw tok follows (by kernel_rfl) ?_; conv => whnf) | (refine Ok.cond ?_; conv => whnf) | refine Ok.block ?_ | (refine Ok.skip ?_; conv => whnf) | (refine Ok.exit ?_; conv => whnf) | (refine Ok.ret ?_; conv => whnf) | (refine num_in (by omega) (by omega) ?_; conv => whnf) | (refine ix _ (by assumption) ?_; conv => whnf) | (refine ixI (by omega) (by assumption) ?_; conv => whnf) | (refine ix_new _ (by omega) fun _ _ => ?_; conv => whnf) | (refine ixI_new (by omega) (by omega) fun _ _ => ?_; conv => whnf) | (refine Or.inl ?_; (conv => whnf); (repeat (refine And.intro (by first | omega | (simp; done) | (simp; omega)) ?_; (conv => whnf))); refine ⟨_, eqLinks_at p a.links.l b.links.l rfl rfl, rfl, ?_⟩; conv => whnf) | (refine Or.inl ?_; (conv => whnf); (repeat (refine And.intro (by first | omega | (simp; done) | (simp; omega)) ?_; (conv => whnf))); refine ⟨_, eqSlices_at p a.slices.l b.slices.l rfl rfl, rfl, ?_⟩; conv => whnf) | (refine ⟨_, eqLinks_at p a.links.l b.links.l rfl rfl, rfl, ?_⟩; conv => whnf) | (refine ⟨_, eqSlices_at p a.slices.l b.slices.l rfl rfl, rfl, ?_⟩; conv => whnf) | (refine Or.inr (Or.inl ?_); (conv => whnf); (repeat (refine And.intro (by first | omega | (simp; done) | (simp; omega)) ?_; (conv => whnf))); refine ⟨_, eqLinks_at p a.links.l b.links.l rfl rfl, ?_⟩; rintro _ _ ⟨rfl, rfl⟩; conv => whnf) | (refine Or.inr (Or.inl ?_); (conv => whnf); (repeat (refine And.intro (by first | omega | (simp; done) | (simp; omega)) ?_; (conv => whnf))); refine ⟨_, eqSlices_at p a.slices.l b.slices.l rfl rfl, ?_⟩; rintro _ _ ⟨rfl, rfl⟩; conv => whnf) | (refine rd rfl (by assumption) ?_; conv => whnf) | (refine ⟨_, .inl ⟨rfl, rfl⟩, ?_⟩; conv => whnf) | (refine ⟨_, _, rfl, rfl, ?_⟩; conv => whnf) | (refine ⟨fun _ => ?_, fun _ => ?_⟩ <;> (conv => whnf) <;> (try (exfalso; omega))) | (refine And.intro (by first | omega | rfl | (simp; done) | (simp; omega)) ?_; conv => whnf) | (refine num_any ?_; conv => whnf) | (refine ⟨_, rfl, ?_⟩; conv => whnf) | fail)
  · refine Or.inl ?_; (conv => whnf)
    exact b_eq ⟨fun h => ⟨q1, q2, q3, hf, hB, by assumption, h⟩, fun h => h.2.2.2.2.2.2⟩
  · refine Or.inl ?_; (conv => whnf)
    rename_i hne
    exact b_eq ⟨fun h => h.elim, fun h => hne h.2.2.2.2.2.1⟩
set_option maxRecDepth 100000 in
theorem Same_at (a b : Config) (hl : a.fields.l.length ≤ 1048576) (hl2 : a.boxes.l.length ≤ 1048576) : FSpec Try.prog T 8 [.agg a.row, .agg b.row] (fun d _ => d = .b (equalP True a.b b.b)) := by
  refine FSpec.of_ok tok Try.func8 rfl Try.call8 (by simp) ?_
  (try (conv => whnf)); repeat' (first | refine Ok.seq ?_ | (refine Ok.region tok ?_; conv => whnf) | (refine Ok.region_draw tok follows (by kernel_rfl) ?_; conv => whnf) | (refine Ok.cond ?_; conv => whnf) | refine Ok.block ?_ | (refine Ok.skip ?_; conv => whnf) | (refine Ok.exit ?_; conv => whnf) | (refine Ok.ret ?_; conv => whnf) | (refine num_in (by omega) (by omega) ?_; conv => whnf) | (refine ix _ (by assumption) ?_; conv => whnf) | (refine ixI (by omega) (by assumption) ?_; conv => whnf) | (refine ix_new _ (by omega) fun _ _ => ?_; conv => whnf) | (refine ixI_new (by omega) (by omega) fun _ _ => ?_; conv => whnf) | (refine Or.inl ?_; (conv => whnf); (repeat (refine And.intro (by first | omega | (simp; done) | (simp; omega)) ?_; (conv => whnf))); refine ⟨_, equal_at True a b hl hl2, rfl, ?_⟩; conv => whnf) | (refine ⟨_, equal_at True a b hl hl2, rfl, ?_⟩; conv => whnf) | (refine Or.inr (Or.inl ?_); (conv => whnf); (repeat (refine And.intro (by first | omega | (simp; done) | (simp; omega)) ?_; (conv => whnf))); refine ⟨_, equal_at True a b hl hl2, ?_⟩; rintro _ _ ⟨rfl, rfl⟩; conv => whnf) | (refine rd rfl (by assumption) ?_; conv => whnf) | (refine ⟨_, .inl ⟨rfl, rfl⟩, ?_⟩; conv => whnf) | (refine ⟨_, _, rfl, rfl, ?_⟩; conv => whnf) | (refine ⟨fun _ => ?_, fun _ => ?_⟩ <;> (conv => whnf) <;> (try (exfalso; omega))) | (refine And.intro (by first | omega | rfl | (simp; done) | (simp; omega)) ?_; conv => whnf) | (refine num_any ?_; conv => whnf) | (refine ⟨_, rfl, ?_⟩; conv => whnf) | fail)
  refine Or.inl ?_; (conv => whnf)
  rfl
set_option maxRecDepth 100000 in
theorem Equal_at (a b : Config) (hl : a.fields.l.length ≤ 1048576) (hl2 : a.boxes.l.length ≤ 1048576) : FSpec Try.prog T 10 [.agg a.row, .agg b.row] (fun d _ => d = .b (equalP False a.b b.b)) := by
  refine FSpec.of_ok tok Try.func10 rfl Try.call10 (by simp) ?_
  (try (conv => whnf)); repeat' (first | refine Ok.seq ?_ | (refine Ok.region tok ?_; conv => whnf) | (refine Ok.region_draw tok follows (by kernel_rfl) ?_; conv => whnf) | (refine Ok.cond ?_; conv => whnf) | refine Ok.block ?_ | (refine Ok.skip ?_; conv => whnf) | (refine Ok.exit ?_; conv => whnf) | (refine Ok.ret ?_; conv => whnf) | (refine num_in (by omega) (by omega) ?_; conv => whnf) | (refine ix _ (by assumption) ?_; conv => whnf) | (refine ixI (by omega) (by assumption) ?_; conv => whnf) | (refine ix_new _ (by omega) fun _ _ => ?_; conv => whnf) | (refine ixI_new (by omega) (by omega) fun _ _ => ?_; conv => whnf) | (refine Or.inl ?_; (conv => whnf); (repeat (refine And.intro (by first | omega | (simp; done) | (simp; omega)) ?_; (conv => whnf))); refine ⟨_, equal_at False a b hl hl2, rfl, ?_⟩; conv => whnf) | (refine ⟨_, equal_at False a b hl hl2, rfl, ?_⟩; conv => whnf) | (refine Or.inr (Or.inl ?_); (conv => whnf); (repeat (refine And.intro (by first | omega | (simp; done) | (simp; omega)) ?_; (conv => whnf))); refine ⟨_, equal_at False a b hl hl2, ?_⟩; rintro _ _ ⟨rfl, rfl⟩; conv => whnf) | (refine rd rfl (by assumption) ?_; conv => whnf) | (refine ⟨_, .inl ⟨rfl, rfl⟩, ?_⟩; conv => whnf) | (refine ⟨_, _, rfl, rfl, ?_⟩; conv => whnf) | (refine ⟨fun _ => ?_, fun _ => ?_⟩ <;> (conv => whnf) <;> (try (exfalso; omega))) | (refine And.intro (by first | omega | rfl | (simp; done) | (simp; omega)) ?_; conv => whnf) | (refine num_any ?_; conv => whnf) | (refine ⟨_, rfl, ?_⟩; conv => whnf) | fail)
  refine Or.inl ?_; (conv => whnf)
  rfl
theorem eqL_ff {α : Type} (R : α → α → Prop) (u v : List α) : eqL False R u v ↔ u = v := by simp [eqL]
theorem equal_refl (c : ConfigB) : equalP False c c := by
  refine ⟨rfl, rfl, Iff.rfl, rfl, ⟨rfl, fun i x y hx hy => ?_⟩, (eqL_ff _ _ _).2 rfl, (eqL_ff _ _ _).2 rfl⟩
  rw [hx] at hy
  cases hy
  exact ⟨rfl, rfl, rfl, rfl, (eqL_ff _ _ _).2 rfl, (eqL_ff _ _ _).2 rfl, (eqL_ff _ _ _).2 rfl⟩
end Go.Proofs.Ytkkmbgfhhcoehaa
