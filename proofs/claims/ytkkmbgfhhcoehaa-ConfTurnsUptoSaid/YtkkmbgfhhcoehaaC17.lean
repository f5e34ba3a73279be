/- ConfSames: Same says what the document says, and the networks are as they were. -/
import Derived.Test.YtkkmbgfhhcoehaaC16
import Derived.Test.YtkkmbgfhhcoehaaVy3
namespace Go.Proofs.Ytkkmbgfhhcoehaa
open Go Go.Vx
theorem lineR_b (x : Line) : (lineR x).b = x.b := rfl
theorem ruleR_b (x : Rule) : (ruleR x).b = x.b := rfl
theorem slcR_b (x : Slc) : (slcR x).b = x.b := rfl
theorem lineC_b (x : Line) : (lineC x).b = x.b := rfl
theorem ruleC_b (x : Rule) : (ruleC x).b = x.b := rfl
theorem slcC_b (x : Slc) : (slcC x).b = x.b := rfl
theorem boxR_b (x : Box) : (boxR x).b = x.b := by simp [boxR, Box.b, Function.comp_def, lineR_b, ruleR_b]
theorem boxK_b (x : Box) : (boxK x).b = x.b := by simp [boxK, Box.b, Function.comp_def, lineR_b, ruleR_b]
theorem boxC_b (x : Box) : (boxC x).b = x.b := by simp [boxC, Box.b, Function.comp_def, lineC_b, ruleC_b]
theorem configR_b (c : Config) : (configR c).b = c.b := by simp [configR, Config.b, Function.comp_def, boxR_b, slcR_b]
theorem configK_b (c : Config) : (configK c).b = c.b := by simp [configK, Config.b, Function.comp_def, boxK_b, slcR_b]
theorem configC_b (c : Config) : (configC c).b = c.b := by simp [configC, Config.b, Function.comp_def, boxC_b, slcC_b]
theorem eqRuleP_refl (r : RuleB) : eqRuleP True r r := ⟨rfl, ⟨fun _ => ⟨rfl, fun _ _ => rfl⟩, fun h => absurd trivial h⟩, rfl, rfl, rfl⟩
theorem asOf_refl {α : Type} (R : α → α → Prop) (u : List α) : asOf R u u := ⟨rfl, fun _ _ => rfl⟩
theorem eqL_refl {α : Type} (p : Prop) (R : α → α → Prop) (u : List α) : eqL p R u u := ⟨fun _ => asOf_refl R u, fun _ => rfl⟩
theorem equalP_refl (p : Prop) (c : ConfigB) : equalP p c c :=
  ⟨rfl, rfl, Iff.rfl, rfl, ⟨rfl, fun i x y hx hy => by
    rw [hx] at hy
    cases hy
    exact ⟨rfl, rfl, rfl, rfl, eqL_refl _ _ _, eqL_refl _ _ _, eqL_refl _ _ _⟩⟩, eqL_refl _ _ _, eqL_refl _ _ _⟩
theorem mark_ok (c : Config) (hc : c.Ok) : MarkOk (configR c) (configK c) where
  eq := by rw [configR_b, configK_b]; exact equalP_refl _ _
  cF := hc.fields
  cB := by simpa [configR] using hc.boxes
  cL := hc.links
  cS := by simpa [configR] using hc.slices
  box := by
    intro b hb
    obtain ⟨x, hx, rfl⟩ := List.mem_map.1 hb
    have h := hc.box x hx
    refine ⟨by simpa [boxK] using h.guards, by simpa [boxK] using h.rules, ?_, ?_, ?_, ?_, ?_, rfl, rfl, rfl, rfl⟩ <;>
    · intro y hy
      obtain ⟨z, hz, rfl⟩ := List.mem_map.1 hy
      rfl
  lists := by
    intro b hb
    obtain ⟨x, hx, rfl⟩ := List.mem_map.1 hb
    have h := hc.box x hx
    exact ⟨rfl, rfl, by simpa [boxR] using h.guards, by simpa [boxR] using h.rules⟩
  slc := by
    intro b hb
    obtain ⟨x, hx, rfl⟩ := List.mem_map.1 hb
    exact ⟨rfl, rfl⟩
  rb := rfl
  rl := rfl
  rs := rfl
  rf := rfl
theorem C_row (c : Config) : (configC c).row = [.s c.title, .lst 43 ((c.fields.l.map SI.row).take c.fields.l.length) ((c.fields.l.map SI.row).drop c.fields.l.length), .s c.routing, .b c.slim, .lst 40 ((c.boxes.l.map fun x => (boxC x).row).take c.boxes.l.length) ((c.boxes.l.map fun x => (boxC x).row).drop c.boxes.l.length), .lst 34 ((c.links.l.map Link.row).take c.links.l.length) ((c.links.l.map Link.row).drop c.links.l.length), .lst 47 ((c.slices.l.map fun x => (slcC x).row).take c.slices.l.length) ((c.slices.l.map fun x => (slcC x).row).drop c.slices.l.length)] := by
  rw [take_all, drop_all, take_all, drop_all, take_all, drop_all, take_all, drop_all]
  simp [configC, Config.row, Function.comp_def]
set_option maxRecDepth 100000 in
set_option maxHeartbeats 8000000 in
theorem samesLaw (a b : Config) (ha : a.Ok) (hb : b.Ok) : FSpec Try.prog T 3 [.agg a.row, .agg b.row] (fun d _ => d = .b True) := by
  have s1 := confSame_at (configR a) (configR b)
  have s2 := confSame_at (configR a) (configC a)
  have s3 := Same_at (configC a) (configC b) ha.fields (by simpa [configC] using ha.boxes)
  have s4 := Marked_at _ _ (mark_ok a ha)
  have s5 := Marked_at _ _ (mark_ok b hb)
  have s6 := Equal_at (configK a) (configC a) ha.fields (by simpa [configK] using ha.boxes)
  have s7 := Equal_at (configK b) (configC b) hb.fields (by simpa [configK] using hb.boxes)
  rw [configR_b, configR_b] at s1
  rw [configR_b, configC_b, eq_true (equalP_refl True a.b)] at s2
  rw [configC_b, configC_b] at s3
  rw [configK_b, configC_b, eq_true (equalP_refl False a.b)] at s6
  rw [configK_b, configC_b, eq_true (equalP_refl False b.b)] at s7
  rw [C_row] at s2 s6 s7
  rw [C_row, C_row] at s3
  refine FSpec.of_ok tok Try.func3 rfl Try.call3 (by simp) ?_
  (try (conv => whnf)); repeat' (first | refine Ok.seq ?_ | (refine Ok.region tok ?_; conv => whnf) | (refine Ok.region_draw tok follows (by kernel_rfl) ?_; conv => whnf) | (refine Ok.cond ?_; conv => whnf) | refine Ok.block ?_ | (refine Ok.skip ?_; conv => whnf) | (refine Ok.exit ?_; conv => whnf) | (refine Ok.ret ?_; conv => whnf) | (refine num_in (by omega) (by omega) ?_; conv => whnf) | (refine ix _ (by assumption) ?_; conv => whnf) | (refine ixI (by omega) (by assumption) ?_; conv => whnf) | (refine ix_new _ (by omega) fun _ _ => ?_; conv => whnf) | (refine ixI_new (by omega) (by omega) fun _ _ => ?_; conv => whnf) | (refine Or.inl ?_; (conv => whnf); (repeat (refine And.intro (by first | omega | (simp; done) | (simp; omega)) ?_; (conv => whnf))); refine ⟨_, Copy_at a ha, rfl, ?_⟩; conv => whnf) | (refine Or.inl ?_; (conv => whnf); (repeat (refine And.intro (by first | omega | (simp; done) | (simp; omega)) ?_; (conv => whnf))); refine ⟨_, Copy_at b hb, rfl, ?_⟩; conv => whnf) | (refine Or.inl ?_; (conv => whnf); (repeat (refine And.intro (by first | omega | (simp; done) | (simp; omega)) ?_; (conv => whnf))); refine ⟨_, Roomy_at a ha, rfl, ?_⟩; conv => whnf) | (refine Or.inl ?_; (conv => whnf); (repeat (refine And.intro (by first | omega | (simp; done) | (simp; omega)) ?_; (conv => whnf))); refine ⟨_, Roomy_at b hb, rfl, ?_⟩; conv => whnf) | (refine Or.inl ?_; (conv => whnf); (repeat (refine And.intro (by first | omega | (simp; done) | (simp; omega)) ?_; (conv => whnf))); refine ⟨_, s1, rfl, ?_⟩; conv => whnf) | (refine Or.inl ?_; (conv => whnf); (repeat (refine And.intro (by first | omega | (simp; done) | (simp; omega)) ?_; (conv => whnf))); refine ⟨_, s2, rfl, ?_⟩; conv => whnf) | (refine Or.inl ?_; (conv => whnf); (repeat (refine And.intro (by first | omega | (simp; done) | (simp; omega)) ?_; (conv => whnf))); refine ⟨_, s3, rfl, ?_⟩; conv => whnf) | (refine Or.inl ?_; (conv => whnf); (repeat (refine And.intro (by first | omega | (simp; done) | (simp; omega)) ?_; (conv => whnf))); refine ⟨_, s4, rfl, ?_⟩; conv => whnf) | (refine Or.inl ?_; (conv => whnf); (repeat (refine And.intro (by first | omega | (simp; done) | (simp; omega)) ?_; (conv => whnf))); refine ⟨_, s5, rfl, ?_⟩; conv => whnf) | (refine Or.inl ?_; (conv => whnf); (repeat (refine And.intro (by first | omega | (simp; done) | (simp; omega)) ?_; (conv => whnf))); refine ⟨_, s6, rfl, ?_⟩; conv => whnf) | (refine Or.inl ?_; (conv => whnf); (repeat (refine And.intro (by first | omega | (simp; done) | (simp; omega)) ?_; (conv => whnf))); refine ⟨_, s7, rfl, ?_⟩; conv => whnf) | (refine ⟨_, Copy_at a ha, rfl, ?_⟩; conv => whnf) | (refine ⟨_, Copy_at b hb, rfl, ?_⟩; conv => whnf) | (refine ⟨_, Roomy_at a ha, rfl, ?_⟩; conv => whnf) | (refine ⟨_, Roomy_at b hb, rfl, ?_⟩; conv => whnf) | (refine ⟨_, s1, rfl, ?_⟩; conv => whnf) | (refine ⟨_, s2, rfl, ?_⟩; conv => whnf) | (refine ⟨_, s3, rfl, ?_⟩; conv => whnf) | (refine ⟨_, s4, rfl, ?_⟩; conv => whnf) | (refine ⟨_, s5, rfl, ?_⟩; conv => whnf) | (refine ⟨_, s6, rfl, ?_⟩; conv => whnf) | (refine ⟨_, s7, rfl, ?_⟩; conv => whnf) | (refine Or.inr (Or.inl ?_); (conv => whnf); (repeat (refine And.intro (by first | omega | (simp; done) | (simp; omega)) ?_; (conv => whnf))); refine ⟨_, Copy_at a ha, ?_⟩; rintro _ _ ⟨rfl, rfl⟩; conv => whnf) | (refine Or.inr (Or.inl ?_); (conv => whnf); (repeat (refine And.intro (by first | omega | (simp; done) | (simp; omega)) ?_; (conv => whnf))); refine ⟨_, Copy_at b hb, ?_⟩; rintro _ _ ⟨rfl, rfl⟩; conv => whnf) | (refine Or.inr (Or.inl ?_); (conv => whnf); (repeat (refine And.intro (by first | omega | (simp; done) | (simp; omega)) ?_; (conv => whnf))); refine ⟨_, Roomy_at a ha, ?_⟩; rintro _ _ ⟨rfl, rfl⟩; conv => whnf) | (refine Or.inr (Or.inl ?_); (conv => whnf); (repeat (refine And.intro (by first | omega | (simp; done) | (simp; omega)) ?_; (conv => whnf))); refine ⟨_, Roomy_at b hb, ?_⟩; rintro _ _ ⟨rfl, rfl⟩; conv => whnf) | (refine Or.inr (Or.inl ?_); (conv => whnf); (repeat (refine And.intro (by first | omega | (simp; done) | (simp; omega)) ?_; (conv => whnf))); refine ⟨_, s1, ?_⟩; rintro _ _ ⟨rfl, rfl⟩; conv => whnf) | (refine Or.inr (Or.inl ?_); (conv => whnf); (repeat (refine And.intro (by first | omega | (simp; done) | (simp; omega)) ?_; (conv => whnf))); refine ⟨_, s2, ?_⟩; rintro _ _ ⟨rfl, rfl⟩; conv => whnf) | (refine Or.inr (Or.inl ?_); (conv => whnf); (repeat (refine And.intro (by first | omega | (simp; done) | (simp; omega)) ?_; (conv => whnf))); refine ⟨_, s3, ?_⟩; rintro _ _ ⟨rfl, rfl⟩; conv => whnf) | (refine Or.inr (Or.inl ?_); (conv => whnf); (repeat (refine And.intro (by first | omega | (simp; done) | (simp; omega)) ?_; (conv => whnf))); refine ⟨_, s4, ?_⟩; rintro _ _ ⟨rfl, rfl⟩; conv => whnf) | (refine Or.inr (Or.inl ?_); (conv => whnf); (repeat (refine And.intro (by first | omega | (simp; done) | (simp; omega)) ?_; (conv => whnf))); refine ⟨_, s5, ?_⟩; rintro _ _ ⟨rfl, rfl⟩; conv => whnf) | (refine Or.inr (Or.inl ?_); (conv => whnf); (repeat (refine And.intro (by first | omega | (simp; done) | (simp; omega)) ?_; (conv => whnf))); refine ⟨_, s6, ?_⟩; rintro _ _ ⟨rfl, rfl⟩; conv => whnf) | (refine Or.inr (Or.inl ?_); (conv => whnf); (repeat (refine And.intro (by first | omega | (simp; done) | (simp; omega)) ?_; (conv => whnf))); refine ⟨_, s7, ?_⟩; rintro _ _ ⟨rfl, rfl⟩; conv => whnf) | (refine rd rfl (by assumption) ?_; conv => whnf) | (refine ⟨_, .inl ⟨rfl, rfl⟩, ?_⟩; conv => whnf) | (refine ⟨_, _, rfl, rfl, ?_⟩; conv => whnf) | (refine ⟨fun _ => ?_, fun _ => ?_⟩ <;> (conv => whnf) <;> (try (exfalso; omega))) | (refine And.intro (by first | omega | rfl | (simp; done) | (simp; omega)) ?_; conv => whnf) | (refine num_any ?_; conv => whnf) | (refine ⟨_, rfl, ?_⟩; conv => whnf) | fail)
  all_goals first
    | (exfalso; rename_i hx; exact hx trivial)
    | (exfalso; rename_i hx; exact hx Iff.rfl)
    | (refine Or.inl ?_; (conv => whnf); exact D.b_tt trivial)
end Go.Proofs.Ytkkmbgfhhcoehaa
