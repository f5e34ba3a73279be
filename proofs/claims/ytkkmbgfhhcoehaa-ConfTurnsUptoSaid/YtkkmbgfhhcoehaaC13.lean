/- The program's comparison of networks: rules, boxes, networks. -/
import Derived.Test.YtkkmbgfhhcoehaaC12
namespace Go.Proofs.Ytkkmbgfhhcoehaa
open Go Go.Vx
open Classical in
theorem perm_of {α : Type} {u v : List α} (hl : u.length = v.length) (h : ∀ x ∈ u, cnt (fun y => y = x) u = cnt (fun y => y = x) v) : u.Perm v := by
  have hc : ∀ (x : α) (w : List α), cnt (fun y => y = x) w = w.count x := fun x w => by
    unfold cnt List.count
    congr 1
  have hp : u.Perm (v.filter fun x => decide (x ∈ u)) := by
    rw [List.perm_iff_count]
    intro x
    by_cases hx : x ∈ u
    · rw [List.count_filter (by simpa using hx), ← hc, ← hc, h x hx]
    · rw [List.count_eq_zero.2 hx, List.count_eq_zero.2 (by simp [hx])]
  have hf : (v.filter fun x => decide (x ∈ u)) = v := by
    have hlen := hp.length_eq
    have hall := List.length_filter_eq_length_iff.1 (show (v.filter fun x => decide (x ∈ u)).length = v.length by omega)
    exact List.filter_eq_self.2 hall
  rwa [hf] at hp
open Classical in
theorem cnt_perm {α : Type} {u v : List α} (h : u.Perm v) (P : α → Prop) : cnt P u = cnt P v := by
  unfold cnt; exact h.countP_eq _
theorem asOf_perm {α : Type} (u v : List α) : asOf Eq u v ↔ u.Perm v := by
  constructor
  · intro h
    exact perm_of h.1 h.2
  · intro h
    exact ⟨h.length_eq, fun x _ => cnt_perm h _⟩
theorem asOg_Eq {α : Type} (u v : List α) : asOg Eq u v ↔ asOf Eq u v := asOg_eq (fun _ _ => eq_comm) u v
theorem eqL_tt {α : Type} (R : α → α → Prop) (u v : List α) : eqL True R u v ↔ asOf R u v := by simp [eqL]
theorem eqRuleP_symm (r s : RuleB) : eqRuleP True r s ↔ eqRuleP True s r := by
  simp only [eqRuleP, asOf_perm]
  constructor <;> rintro ⟨a, ⟨b, _⟩, c, d, e⟩ <;> exact ⟨a.symm, ⟨fun _ => (b trivial).symm, fun h => absurd trivial h⟩, c.symm, d.symm, e.symm⟩
set_option maxRecDepth 100000 in
theorem sameRule_at (r s : Rule) : FSpec Try.prog T 45 [.agg r.row, .agg s.row] (fun d _ => d = .b (eqRuleP True r.b s.b)) := by
  have hq : eqRuleP True r.b s.b ↔ r.prio = s.prio ∧ asOg Eq r.frm.l s.frm.l ∧ r.mtch.l = s.mtch.l ∧ r.sets.l = s.sets.l ∧ r.to.l = s.to.l := by
    rw [asOg_Eq]
    simp [eqRuleP, Rule.b]
  refine FSpec.of_ok tok Try.func45 rfl Try.call45 (by simp) ?_
  (try (conv => whnf)); repeat' (first | refine Ok.seq ?_ | (refine Ok.region tok ?_; conv => whnf) | (refine Ok.region_draw tok follows (by kernel_rfl) ?_; conv => whnf) | (refine Ok.cond ?_; conv => whnf) | refine Ok.block ?_ | (refine Ok.skip ?_; conv => whnf) | (refine Ok.exit ?_; conv => whnf) | (refine Ok.ret ?_; conv => whnf) | (refine num_in (by omega) (by omega) ?_; conv => whnf) | (refine ix _ (by assumption) ?_; conv => whnf) | (refine ixI (by omega) (by assumption) ?_; conv => whnf) | (refine ix_new _ (by omega) fun _ _ => ?_; conv => whnf) | (refine ixI_new (by omega) (by omega) fun _ _ => ?_; conv => whnf) | (refine Or.inl ?_; (conv => whnf); (repeat (refine And.intro (by first | omega | (simp; done) | (simp; omega)) ?_; (conv => whnf))); refine ⟨_, strOften_at r.frm.l s.frm.l rfl rfl, rfl, ?_⟩; conv => whnf) | (refine Or.inl ?_; (conv => whnf); (repeat (refine And.intro (by first | omega | (simp; done) | (simp; omega)) ?_; (conv => whnf))); refine ⟨_, eqNodes_at r.mtch.l s.mtch.l rfl rfl, rfl, ?_⟩; conv => whnf) | (refine Or.inl ?_; (conv => whnf); (repeat (refine And.intro (by first | omega | (simp; done) | (simp; omega)) ?_; (conv => whnf))); refine ⟨_, eqSets_at r.sets.l s.sets.l rfl rfl, rfl, ?_⟩; conv => whnf) | (refine Or.inl ?_; (conv => whnf); (repeat (refine And.intro (by first | omega | (simp; done) | (simp; omega)) ?_; (conv => whnf))); refine ⟨_, eqStrs_at r.to.l s.to.l rfl rfl, rfl, ?_⟩; conv => whnf) | (refine ⟨_, strOften_at r.frm.l s.frm.l rfl rfl, rfl, ?_⟩; conv => whnf) | (refine ⟨_, eqNodes_at r.mtch.l s.mtch.l rfl rfl, rfl, ?_⟩; conv => whnf) | (refine ⟨_, eqSets_at r.sets.l s.sets.l rfl rfl, rfl, ?_⟩; conv => whnf) | (refine ⟨_, eqStrs_at r.to.l s.to.l rfl rfl, rfl, ?_⟩; conv => whnf) | (refine Or.inr (Or.inl ?_); (conv => whnf); (repeat (refine And.intro (by first | omega | (simp; done) | (simp; omega)) ?_; (conv => whnf))); refine ⟨_, strOften_at r.frm.l s.frm.l rfl rfl, ?_⟩; rintro _ _ ⟨rfl, rfl⟩; conv => whnf) | (refine Or.inr (Or.inl ?_); (conv => whnf); (repeat (refine And.intro (by first | omega | (simp; done) | (simp; omega)) ?_; (conv => whnf))); refine ⟨_, eqNodes_at r.mtch.l s.mtch.l rfl rfl, ?_⟩; rintro _ _ ⟨rfl, rfl⟩; conv => whnf) | (refine Or.inr (Or.inl ?_); (conv => whnf); (repeat (refine And.intro (by first | omega | (simp; done) | (simp; omega)) ?_; (conv => whnf))); refine ⟨_, eqSets_at r.sets.l s.sets.l rfl rfl, ?_⟩; rintro _ _ ⟨rfl, rfl⟩; conv => whnf) | (refine Or.inr (Or.inl ?_); (conv => whnf); (repeat (refine And.intro (by first | omega | (simp; done) | (simp; omega)) ?_; (conv => whnf))); refine ⟨_, eqStrs_at r.to.l s.to.l rfl rfl, ?_⟩; rintro _ _ ⟨rfl, rfl⟩; conv => whnf) | (refine rd rfl (by assumption) ?_; conv => whnf) | (refine ⟨_, .inl ⟨rfl, rfl⟩, ?_⟩; conv => whnf) | (refine ⟨_, _, rfl, rfl, ?_⟩; conv => whnf) | (refine ⟨fun _ => ?_, fun _ => ?_⟩ <;> (conv => whnf) <;> (try (exfalso; omega))) | (refine And.intro (by first | omega | rfl | (simp; done) | (simp; omega)) ?_; conv => whnf) | (refine num_any ?_; conv => whnf) | (refine ⟨_, rfl, ?_⟩; conv => whnf) | fail)
  all_goals
    refine Or.inl ?_; (conv => whnf)
  all_goals
    refine b_eq ?_
    rw [hq]
    clear hq
    simp [*]
set_option maxRecDepth 100000 in
theorem ruleCnt_at (l : List Rule) (x : Rule) {rl sl : List (List D)} (h : rl = l.map Rule.row) : FSpec Try.prog T 56 [.lst 58 rl sl, .agg x.row, .ep [.fn 45 [] []]] (fun d _ => d = .i .i64 (cnt ((eqRuleP True) x.b) (l.map Rule.b) : Nat)) := by
  subst h
  refine FSpec.of_len Try.call56 0 rfl fun hlen => ?_
  have hll : (l.map Rule.row).length = l.length := by simp
  refine FSpec.of_ok tok Try.func56 rfl Try.call56 (by simp) ?_
  (try (conv => whnf)); repeat' (first | refine Ok.seq ?_ | (refine Ok.region tok ?_; conv => whnf) | (refine Ok.region_draw tok follows (by kernel_rfl) ?_; conv => whnf) | (refine Ok.cond ?_; conv => whnf) | refine Ok.block ?_ | (refine Ok.skip ?_; conv => whnf) | (refine Ok.exit ?_; conv => whnf) | (refine Ok.ret ?_; conv => whnf) | (refine num_in (by omega) (by omega) ?_; conv => whnf) | (refine ix _ (by assumption) ?_; conv => whnf) | (refine ixI (by omega) (by assumption) ?_; conv => whnf) | (refine ix_new _ (by omega) fun _ _ => ?_; conv => whnf) | (refine ixI_new (by omega) (by omega) fun _ _ => ?_; conv => whnf) | (refine rd rfl (by assumption) ?_; conv => whnf) | (refine ⟨_, .inl ⟨rfl, rfl⟩, ?_⟩; conv => whnf) | (refine ⟨_, _, rfl, rfl, ?_⟩; conv => whnf) | (refine ⟨fun _ => ?_, fun _ => ?_⟩ <;> (conv => whnf) <;> (try (exfalso; omega))) | (refine And.intro (by first | omega | rfl | (simp; done) | (simp; omega)) ?_; conv => whnf) | (refine num_any ?_; conv => whnf) | (refine ⟨_, rfl, ?_⟩; conv => whnf) | fail)
  refine Ok.loopU [2, 4, 9, 10] [6, 11] 0 1 (fun (k : Nat) => [.i .i64 (cnt ((eqRuleP True) x.b) ((l.map Rule.b).take k) : Nat), .i .i64 (k : Nat)]) (fun _ b => b) (fun _ r => r) (fun (k : Nat) => k ≤ l.length) (fun (k : Nat) => l.length - k) (0) (Nat.zero_le _) ?_; (conv => whnf); refine ⟨by ((conv => whnf); first | rfl | (simp [envCat, List.take_of_length_le, SI.row, Node.row, Pfx.row, Link.row, srow, Line.row, Rule.row, Box.row, Slc.row, Config.row, Ls.d]; done) | (simp [envCat, List.take_of_length_le, SI.row, Node.row, Pfx.row, Link.row, srow, Line.row, Rule.row, Box.row, Slc.row, Config.row, Ls.d]; rw [IntKind.wrap_i64]; omega)), ?_⟩
  rintro k hk
  have hc := cnt_le ((eqRuleP True) x.b) (l.map Rule.b) k
  by_cases hkl : k < l.length
  · obtain ⟨y, hy⟩ : ∃ x, l[k]? = some x := ⟨_, List.getElem?_eq_getElem hkl⟩
    (try (conv => whnf)); repeat' (first | refine Ok.seq ?_ | (refine Ok.region tok ?_; conv => whnf) | (refine Ok.region_draw tok follows (by kernel_rfl) ?_; conv => whnf) | (refine Ok.cond ?_; conv => whnf) | refine Ok.block ?_ | (refine Ok.skip ?_; conv => whnf) | (refine Ok.exit ?_; conv => whnf) | (refine Ok.ret ?_; conv => whnf) | (refine num_in (by omega) (by omega) ?_; conv => whnf) | (refine ix _ (by assumption) ?_; conv => whnf) | (refine ixI (by omega) (by assumption) ?_; conv => whnf) | (refine ix_new _ (by omega) fun _ _ => ?_; conv => whnf) | (refine ixI_new (by omega) (by omega) fun _ _ => ?_; conv => whnf) | (refine Or.inl ?_; (conv => whnf); (repeat (refine And.intro (by first | omega | (simp; done) | (simp; omega)) ?_; (conv => whnf))); refine ⟨_, sameRule_at x y, rfl, ?_⟩; conv => whnf) | (refine ⟨_, sameRule_at x y, rfl, ?_⟩; conv => whnf) | (refine Or.inr (Or.inl ?_); (conv => whnf); (repeat (refine And.intro (by first | omega | (simp; done) | (simp; omega)) ?_; (conv => whnf))); refine ⟨_, sameRule_at x y, ?_⟩; rintro _ _ ⟨rfl, rfl⟩; conv => whnf) | (refine rd rfl (by assumption) ?_; conv => whnf) | (refine ⟨_, .inl ⟨rfl, rfl⟩, ?_⟩; conv => whnf) | (refine ⟨_, _, rfl, rfl, ?_⟩; conv => whnf) | (refine ⟨fun _ => ?_, fun _ => ?_⟩ <;> (conv => whnf) <;> (try (exfalso; omega))) | (refine And.intro (by first | omega | rfl | (simp; done) | (simp; omega)) ?_; conv => whnf) | (refine num_any ?_; conv => whnf) | (refine ⟨_, rfl, ?_⟩; conv => whnf) | fail)
    · refine ⟨k + 1, by omega, by omega, ?_⟩
      rw [cnt_pos (P := ((eqRuleP True) x.b)) (show (l.map Rule.b)[k]? = some y.b by simp [hy]) (by assumption)]
      (conv => whnf); simp [envCat]
    · refine ⟨k + 1, by omega, by omega, ?_⟩
      rw [cnt_neg (P := ((eqRuleP True) x.b)) (show (l.map Rule.b)[k]? = some y.b by simp [hy]) (by assumption)]
      (conv => whnf); simp [envCat]
  · obtain rfl : k = l.length := by omega
    have hml : (l.map Rule.b).take l.length = (l.map Rule.b) := List.take_of_length_le (by simp)
    rw [hml] at hc ⊢
    (conv => whnf)
    (try (conv => whnf)); repeat' (first | refine Ok.seq ?_ | (refine Ok.region tok ?_; conv => whnf) | (refine Ok.region_draw tok follows (by kernel_rfl) ?_; conv => whnf) | (refine Ok.cond ?_; conv => whnf) | refine Ok.block ?_ | (refine Ok.skip ?_; conv => whnf) | (refine Ok.exit ?_; conv => whnf) | (refine Ok.ret ?_; conv => whnf) | (refine num_in (by omega) (by omega) ?_; conv => whnf) | (refine ix _ (by assumption) ?_; conv => whnf) | (refine ixI (by omega) (by assumption) ?_; conv => whnf) | (refine ix_new _ (by omega) fun _ _ => ?_; conv => whnf) | (refine ixI_new (by omega) (by omega) fun _ _ => ?_; conv => whnf) | (refine rd rfl (by assumption) ?_; conv => whnf) | (refine ⟨_, .inl ⟨rfl, rfl⟩, ?_⟩; conv => whnf) | (refine ⟨_, _, rfl, rfl, ?_⟩; conv => whnf) | (refine ⟨fun _ => ?_, fun _ => ?_⟩ <;> (conv => whnf) <;> (try (exfalso; omega))) | (refine And.intro (by first | omega | rfl | (simp; done) | (simp; omega)) ?_; conv => whnf) | (refine num_any ?_; conv => whnf) | (refine ⟨_, rfl, ?_⟩; conv => whnf) | fail)
    refine Or.inl ?_; (conv => whnf)
    rfl
set_option maxRecDepth 100000 in
theorem ruleOften_at (a b : List Rule) {ra sa rb sb : List (List D)} (ha : ra = a.map Rule.row) (hb : rb = b.map Rule.row) : FSpec Try.prog T 44 [.lst 58 ra sa, .lst 58 rb sb, .fn 45 [] []] (fun d _ => d = .b (asOg (eqRuleP True) (a.map Rule.b) (b.map Rule.b))) := by
  subst ha hb
  refine FSpec.of_len Try.call44 0 rfl fun hlen => ?_
  have hal : (a.map Rule.row).length = a.length := by simp
  have hbl : (b.map Rule.row).length = b.length := by simp
  have hma : (a.map Rule.b).length = a.length := by simp
  have hmb : (b.map Rule.b).length = b.length := by simp
  refine FSpec.of_ok tok Try.func44 rfl Try.call44 (by simp) ?_
  (try (conv => whnf)); repeat' (first | refine Ok.seq ?_ | (refine Ok.region tok ?_; conv => whnf) | (refine Ok.region_draw tok follows (by kernel_rfl) ?_; conv => whnf) | (refine Ok.cond ?_; conv => whnf) | refine Ok.block ?_ | (refine Ok.skip ?_; conv => whnf) | (refine Ok.exit ?_; conv => whnf) | (refine Ok.ret ?_; conv => whnf) | (refine num_in (by omega) (by omega) ?_; conv => whnf) | (refine ix _ (by assumption) ?_; conv => whnf) | (refine ixI (by omega) (by assumption) ?_; conv => whnf) | (refine ix_new _ (by omega) fun _ _ => ?_; conv => whnf) | (refine ixI_new (by omega) (by omega) fun _ _ => ?_; conv => whnf) | (refine rd rfl (by assumption) ?_; conv => whnf) | (refine ⟨_, .inl ⟨rfl, rfl⟩, ?_⟩; conv => whnf) | (refine ⟨_, _, rfl, rfl, ?_⟩; conv => whnf) | (refine ⟨fun _ => ?_, fun _ => ?_⟩ <;> (conv => whnf) <;> (try (exfalso; omega))) | (refine And.intro (by first | omega | rfl | (simp; done) | (simp; omega)) ?_; conv => whnf) | (refine num_any ?_; conv => whnf) | (refine ⟨_, rfl, ?_⟩; conv => whnf) | fail)
  · rename_i h1
    refine Or.inl ?_; (conv => whnf)
    exact b_eq ⟨fun h => h.elim, fun h => by have := h.1; omega⟩
  right
  (conv => whnf)
  (try (conv => whnf)); repeat' (first | refine Ok.seq ?_ | (refine Ok.region tok ?_; conv => whnf) | (refine Ok.region_draw tok follows (by kernel_rfl) ?_; conv => whnf) | (refine Ok.cond ?_; conv => whnf) | refine Ok.block ?_ | (refine Ok.skip ?_; conv => whnf) | (refine Ok.exit ?_; conv => whnf) | (refine Ok.ret ?_; conv => whnf) | (refine num_in (by omega) (by omega) ?_; conv => whnf) | (refine ix _ (by assumption) ?_; conv => whnf) | (refine ixI (by omega) (by assumption) ?_; conv => whnf) | (refine ix_new _ (by omega) fun _ _ => ?_; conv => whnf) | (refine ixI_new (by omega) (by omega) fun _ _ => ?_; conv => whnf) | (refine rd rfl (by assumption) ?_; conv => whnf) | (refine ⟨_, .inl ⟨rfl, rfl⟩, ?_⟩; conv => whnf) | (refine ⟨_, _, rfl, rfl, ?_⟩; conv => whnf) | (refine ⟨fun _ => ?_, fun _ => ?_⟩ <;> (conv => whnf) <;> (try (exfalso; omega))) | (refine And.intro (by first | omega | rfl | (simp; done) | (simp; omega)) ?_; conv => whnf) | (refine num_any ?_; conv => whnf) | (refine ⟨_, rfl, ?_⟩; conv => whnf) | fail)
  refine Ok.loopU [0, 1, 7, 16, 17] [18] 0 1 (fun (k : Nat) => [.i .i64 (k : Nat)]) (fun _ b => b) (fun _ r => r) (fun (k : Nat) => k ≤ a.length ∧ (∀ x ∈ (a.map Rule.b).take k, cnt ((eqRuleP True) x) (a.map Rule.b) = cnt ((eqRuleP True) x) (b.map Rule.b))) (fun (k : Nat) => a.length - k) (0) (⟨Nat.zero_le _, by simp⟩) ?_; (conv => whnf); refine ⟨by ((conv => whnf); first | rfl | (simp [envCat, List.take_of_length_le, SI.row, Node.row, Pfx.row, Link.row, srow, Line.row, Rule.row, Box.row, Slc.row, Config.row, Ls.d]; done) | (simp [envCat, List.take_of_length_le, SI.row, Node.row, Pfx.row, Link.row, srow, Line.row, Rule.row, Box.row, Slc.row, Config.row, Ls.d]; rw [IntKind.wrap_i64]; omega)), ?_⟩
  rintro k ⟨hk, ht⟩
  by_cases hka : k < a.length
  · obtain ⟨x, hx⟩ : ∃ x, a[k]? = some x := ⟨_, List.getElem?_eq_getElem hka⟩
    have hxm : (a.map Rule.b)[k]? = some x.b := by simp [hx]
    have htk : (a.map Rule.b).take (k + 1) = (a.map Rule.b).take k ++ [x.b] := by rw [List.take_add_one, hxm]; rfl
    have hxx : x.b ∈ (a.map Rule.b) := List.mem_of_getElem? hxm
    (try (conv => whnf)); repeat' (first | refine Ok.seq ?_ | (refine Ok.region tok ?_; conv => whnf) | (refine Ok.region_draw tok follows (by kernel_rfl) ?_; conv => whnf) | (refine Ok.cond ?_; conv => whnf) | refine Ok.block ?_ | (refine Ok.skip ?_; conv => whnf) | (refine Ok.exit ?_; conv => whnf) | (refine Ok.ret ?_; conv => whnf) | (refine num_in (by omega) (by omega) ?_; conv => whnf) | (refine ix _ (by assumption) ?_; conv => whnf) | (refine ixI (by omega) (by assumption) ?_; conv => whnf) | (refine ix_new _ (by omega) fun _ _ => ?_; conv => whnf) | (refine ixI_new (by omega) (by omega) fun _ _ => ?_; conv => whnf) | (refine Or.inl ?_; (conv => whnf); (repeat (refine And.intro (by first | omega | (simp; done) | (simp; omega)) ?_; (conv => whnf))); refine ⟨_, ruleCnt_at a x rfl, rfl, ?_⟩; conv => whnf) | (refine Or.inl ?_; (conv => whnf); (repeat (refine And.intro (by first | omega | (simp; done) | (simp; omega)) ?_; (conv => whnf))); refine ⟨_, ruleCnt_at b x rfl, rfl, ?_⟩; conv => whnf) | (refine ⟨_, ruleCnt_at a x rfl, rfl, ?_⟩; conv => whnf) | (refine ⟨_, ruleCnt_at b x rfl, rfl, ?_⟩; conv => whnf) | (refine Or.inr (Or.inl ?_); (conv => whnf); (repeat (refine And.intro (by first | omega | (simp; done) | (simp; omega)) ?_; (conv => whnf))); refine ⟨_, ruleCnt_at a x rfl, ?_⟩; rintro _ _ ⟨rfl, rfl⟩; conv => whnf) | (refine Or.inr (Or.inl ?_); (conv => whnf); (repeat (refine And.intro (by first | omega | (simp; done) | (simp; omega)) ?_; (conv => whnf))); refine ⟨_, ruleCnt_at b x rfl, ?_⟩; rintro _ _ ⟨rfl, rfl⟩; conv => whnf) | (refine rd rfl (by assumption) ?_; conv => whnf) | (refine ⟨_, .inl ⟨rfl, rfl⟩, ?_⟩; conv => whnf) | (refine ⟨_, _, rfl, rfl, ?_⟩; conv => whnf) | (refine ⟨fun _ => ?_, fun _ => ?_⟩ <;> (conv => whnf) <;> (try (exfalso; omega))) | (refine And.intro (by first | omega | rfl | (simp; done) | (simp; omega)) ?_; conv => whnf) | (refine num_any ?_; conv => whnf) | (refine ⟨_, rfl, ?_⟩; conv => whnf) | fail)
    · rename_i hne
      refine Or.inl ?_; (conv => whnf)
      exact b_eq ⟨fun h => h.elim, fun h => hne (by rw [h.2 x.b hxx])⟩
    · rename_i heq
      refine ⟨k + 1, by omega, ⟨by omega, fun z hz => by
        rw [htk] at hz
        rcases List.mem_append.1 hz with hz | hz
        · exact ht z hz
        · simp at hz; subst hz; have := Classical.not_not.1 heq; omega⟩, ?_⟩
      (conv => whnf); (first | rfl | simp [envCat, List.take_of_length_le, SI.row, Node.row, Pfx.row, Link.row, srow, Line.row, Rule.row, Box.row, Slc.row, Config.row, Ls.d])
  · obtain rfl : k = a.length := by omega
    rw [List.take_of_length_le (by omega)] at ht
    (try (conv => whnf)); repeat' (first | refine Ok.seq ?_ | (refine Ok.region tok ?_; conv => whnf) | (refine Ok.region_draw tok follows (by kernel_rfl) ?_; conv => whnf) | (refine Ok.cond ?_; conv => whnf) | refine Ok.block ?_ | (refine Ok.skip ?_; conv => whnf) | (refine Ok.exit ?_; conv => whnf) | (refine Ok.ret ?_; conv => whnf) | (refine num_in (by omega) (by omega) ?_; conv => whnf) | (refine ix _ (by assumption) ?_; conv => whnf) | (refine ixI (by omega) (by assumption) ?_; conv => whnf) | (refine ix_new _ (by omega) fun _ _ => ?_; conv => whnf) | (refine ixI_new (by omega) (by omega) fun _ _ => ?_; conv => whnf) | (refine rd rfl (by assumption) ?_; conv => whnf) | (refine ⟨_, .inl ⟨rfl, rfl⟩, ?_⟩; conv => whnf) | (refine ⟨_, _, rfl, rfl, ?_⟩; conv => whnf) | (refine ⟨fun _ => ?_, fun _ => ?_⟩ <;> (conv => whnf) <;> (try (exfalso; omega))) | (refine And.intro (by first | omega | rfl | (simp; done) | (simp; omega)) ?_; conv => whnf) | (refine num_any ?_; conv => whnf) | (refine ⟨_, rfl, ?_⟩; conv => whnf) | fail)
    refine Or.inl ?_; (conv => whnf)
    exact b_eq ⟨fun _ => ⟨by omega, ht⟩, fun _ => trivial⟩
set_option maxRecDepth 100000 in
theorem linesEq_at (a b : List Line) {ra sa rb sb : List (List D)} (ha : ra = a.map Line.row) (hb : rb = b.map Line.row) : FSpec Try.prog T 42 [.lst 55 ra sa, .lst 55 rb sb, .fn 43 [] []] (fun d _ => d = .b (a.map Line.b = b.map Line.b)) := by
  subst ha hb
  refine FSpec.of_len Try.call42 0 rfl fun hlen => ?_
  have hal : (a.map Line.row).length = a.length := by simp
  have hbl : (b.map Line.row).length = b.length := by simp
  refine FSpec.of_ok tok Try.func42 rfl Try.call42 (by simp) ?_
  (try (conv => whnf)); repeat' (first | refine Ok.seq ?_ | (refine Ok.region tok ?_; conv => whnf) | (refine Ok.region_draw tok follows (by kernel_rfl) ?_; conv => whnf) | (refine Ok.cond ?_; conv => whnf) | refine Ok.block ?_ | (refine Ok.skip ?_; conv => whnf) | (refine Ok.exit ?_; conv => whnf) | (refine Ok.ret ?_; conv => whnf) | (refine num_in (by omega) (by omega) ?_; conv => whnf) | (refine ix _ (by assumption) ?_; conv => whnf) | (refine ixI (by omega) (by assumption) ?_; conv => whnf) | (refine ix_new _ (by omega) fun _ _ => ?_; conv => whnf) | (refine ixI_new (by omega) (by omega) fun _ _ => ?_; conv => whnf) | (refine rd rfl (by assumption) ?_; conv => whnf) | (refine ⟨_, .inl ⟨rfl, rfl⟩, ?_⟩; conv => whnf) | (refine ⟨_, _, rfl, rfl, ?_⟩; conv => whnf) | (refine ⟨fun _ => ?_, fun _ => ?_⟩ <;> (conv => whnf) <;> (try (exfalso; omega))) | (refine And.intro (by first | omega | rfl | (simp; done) | (simp; omega)) ?_; conv => whnf) | (refine num_any ?_; conv => whnf) | (refine ⟨_, rfl, ?_⟩; conv => whnf) | fail)
  · rename_i h1
    refine Or.inl ?_; (conv => whnf)
    exact b_eq ⟨fun h => h.elim, fun h => h1 (by rw [hal, hbl]; exact congrArg _ (by simpa using congrArg List.length h))⟩
  refine Ok.loopU [1, 2, 15, 16] [17] 0 0 (fun (k : Nat) => [.i .i64 (k : Nat)]) (fun _ b => b) (fun _ r => r) (fun (k : Nat) => k ≤ a.length ∧ (∀ (i : Nat) x y, i < k → a[i]? = some x → b[i]? = some y → x.b = y.b)) (fun (k : Nat) => a.length - k) (0) (⟨Nat.zero_le _, fun i x y h => by omega⟩) ?_; (conv => whnf); refine ⟨by ((conv => whnf); first | rfl | (simp [envCat, List.take_of_length_le, SI.row, Node.row, Pfx.row, Link.row, srow, Line.row, Rule.row, Box.row, Slc.row, Config.row, Ls.d]; done) | (simp [envCat, List.take_of_length_le, SI.row, Node.row, Pfx.row, Link.row, srow, Line.row, Rule.row, Box.row, Slc.row, Config.row, Ls.d]; rw [IntKind.wrap_i64]; omega)), ?_⟩
  rintro k ⟨hk, ht⟩
  by_cases hka : k < a.length
  · obtain ⟨x, hx⟩ : ∃ x, a[k]? = some x := ⟨_, List.getElem?_eq_getElem hka⟩
    obtain ⟨y, hy⟩ : ∃ x, b[k]? = some x := ⟨_, List.getElem?_eq_getElem (by omega)⟩
    (try (conv => whnf)); repeat' (first | refine Ok.seq ?_ | (refine Ok.region tok ?_; conv => whnf) | (refine Ok.region_draw tok follows (by kernel_rfl) ?_; conv => whnf) | (refine Ok.cond ?_; conv => whnf) | refine Ok.block ?_ | (refine Ok.skip ?_; conv => whnf) | (refine Ok.exit ?_; conv => whnf) | (refine Ok.ret ?_; conv => whnf) | (refine num_in (by omega) (by omega) ?_; conv => whnf) | (refine ix _ (by assumption) ?_; conv => whnf) | (refine ixI (by omega) (by assumption) ?_; conv => whnf) | (refine ix_new _ (by omega) fun _ _ => ?_; conv => whnf) | (refine ixI_new (by omega) (by omega) fun _ _ => ?_; conv => whnf) | (refine Or.inl ?_; (conv => whnf); (repeat (refine And.intro (by first | omega | (simp; done) | (simp; omega)) ?_; (conv => whnf))); refine ⟨_, sameLine_at x y, rfl, ?_⟩; conv => whnf) | (refine ⟨_, sameLine_at x y, rfl, ?_⟩; conv => whnf) | (refine Or.inr (Or.inl ?_); (conv => whnf); (repeat (refine And.intro (by first | omega | (simp; done) | (simp; omega)) ?_; (conv => whnf))); refine ⟨_, sameLine_at x y, ?_⟩; rintro _ _ ⟨rfl, rfl⟩; conv => whnf) | (refine rd rfl (by assumption) ?_; conv => whnf) | (refine ⟨_, .inl ⟨rfl, rfl⟩, ?_⟩; conv => whnf) | (refine ⟨_, _, rfl, rfl, ?_⟩; conv => whnf) | (refine ⟨fun _ => ?_, fun _ => ?_⟩ <;> (conv => whnf) <;> (try (exfalso; omega))) | (refine And.intro (by first | omega | rfl | (simp; done) | (simp; omega)) ?_; conv => whnf) | (refine num_any ?_; conv => whnf) | (refine ⟨_, rfl, ?_⟩; conv => whnf) | fail)
    · rename_i hne
      refine Or.inl ?_; (conv => whnf)
      exact b_eq ⟨fun h => h.elim, fun h => hne (by have h2 := congrArg (fun l => l[k]?) h; simpa [hx, hy] using h2)⟩
    · rename_i heq
      refine ⟨k + 1, by omega, ⟨by omega, fun i u v hi hu hv => ?_⟩, ?_⟩
      · by_cases hik : i = k
        · subst hik
          rw [hx] at hu
          rw [hy] at hv
          cases hu
          cases hv
          exact Classical.not_not.1 heq
        · exact ht i u v (by omega) hu hv
      · (conv => whnf); (first | rfl | simp [envCat, List.take_of_length_le, SI.row, Node.row, Pfx.row, Link.row, srow, Line.row, Rule.row, Box.row, Slc.row, Config.row, Ls.d])
  · obtain rfl : k = a.length := by omega
    have hl2 : a.length = b.length := by omega
    (try (conv => whnf)); repeat' (first | refine Ok.seq ?_ | (refine Ok.region tok ?_; conv => whnf) | (refine Ok.region_draw tok follows (by kernel_rfl) ?_; conv => whnf) | (refine Ok.cond ?_; conv => whnf) | refine Ok.block ?_ | (refine Ok.skip ?_; conv => whnf) | (refine Ok.exit ?_; conv => whnf) | (refine Ok.ret ?_; conv => whnf) | (refine num_in (by omega) (by omega) ?_; conv => whnf) | (refine ix _ (by assumption) ?_; conv => whnf) | (refine ixI (by omega) (by assumption) ?_; conv => whnf) | (refine ix_new _ (by omega) fun _ _ => ?_; conv => whnf) | (refine ixI_new (by omega) (by omega) fun _ _ => ?_; conv => whnf) | (refine rd rfl (by assumption) ?_; conv => whnf) | (refine ⟨_, .inl ⟨rfl, rfl⟩, ?_⟩; conv => whnf) | (refine ⟨_, _, rfl, rfl, ?_⟩; conv => whnf) | (refine ⟨fun _ => ?_, fun _ => ?_⟩ <;> (conv => whnf) <;> (try (exfalso; omega))) | (refine And.intro (by first | omega | rfl | (simp; done) | (simp; omega)) ?_; conv => whnf) | (refine num_any ?_; conv => whnf) | (refine ⟨_, rfl, ?_⟩; conv => whnf) | fail)
    refine Or.inl ?_; (conv => whnf)
    exact b_eq ⟨fun _ => List.ext_getElem? fun i => by
      by_cases hi : i < a.length
      · obtain ⟨x, hx⟩ : ∃ x, a[i]? = some x := ⟨_, List.getElem?_eq_getElem hi⟩
        obtain ⟨y, hy⟩ : ∃ x, b[i]? = some x := ⟨_, List.getElem?_eq_getElem (by omega)⟩
        simp [hx, hy, ht i x y hi hx hy]
      · rw [List.getElem?_eq_none (by simpa using hi), List.getElem?_eq_none (by simp; omega)], fun _ => trivial⟩
set_option maxRecDepth 100000 in
set_option maxHeartbeats 4000000 in
theorem sameBox_at (a b : Box) : FSpec Try.prog T 21 [.agg a.row, .agg b.row] (fun d _ => d = .b (eqBoxP True a.b b.b)) := by
  have h1 := asOg_eq eqRuleP_symm (a.rules.l.map Rule.b) (b.rules.l.map Rule.b)
  have h2 := asOg_Eq a.owns.l b.owns.l
  have h3 := asOg_Eq a.routes.l b.routes.l
  refine FSpec.of_ok tok Try.func21 rfl Try.call21 (by simp) ?_
  (try (conv => whnf)); repeat' (first | refine Ok.seq ?_ | (refine Ok.region tok ?_; conv => whnf) | (refine Ok.region_draw tok follows (by kernel_rfl) ?_; conv => whnf) | (refine Ok.cond ?_; conv => whnf) | refine Ok.block ?_ | (refine Ok.skip ?_; conv => whnf) | (refine Ok.exit ?_; conv => whnf) | (refine Ok.ret ?_; conv => whnf) | (refine num_in (by omega) (by omega) ?_; conv => whnf) | (refine ix _ (by assumption) ?_; conv => whnf) | (refine ixI (by omega) (by assumption) ?_; conv => whnf) | (refine ix_new _ (by omega) fun _ _ => ?_; conv => whnf) | (refine ixI_new (by omega) (by omega) fun _ _ => ?_; conv => whnf) | (refine Or.inl ?_; (conv => whnf); (repeat (refine And.intro (by first | omega | (simp; done) | (simp; omega)) ?_; (conv => whnf))); refine ⟨_, eqStrs_at a.ins.l b.ins.l rfl rfl, rfl, ?_⟩; conv => whnf) | (refine Or.inl ?_; (conv => whnf); (repeat (refine And.intro (by first | omega | (simp; done) | (simp; omega)) ?_; (conv => whnf))); refine ⟨_, eqStrs_at a.outs.l b.outs.l rfl rfl, rfl, ?_⟩; conv => whnf) | (refine Or.inl ?_; (conv => whnf); (repeat (refine And.intro (by first | omega | (simp; done) | (simp; omega)) ?_; (conv => whnf))); refine ⟨_, linesEq_at a.guards.l b.guards.l rfl rfl, rfl, ?_⟩; conv => whnf) | (refine Or.inl ?_; (conv => whnf); (repeat (refine And.intro (by first | omega | (simp; done) | (simp; omega)) ?_; (conv => whnf))); refine ⟨_, ruleOften_at a.rules.l b.rules.l rfl rfl, rfl, ?_⟩; conv => whnf) | (refine Or.inl ?_; (conv => whnf); (repeat (refine And.intro (by first | omega | (simp; done) | (simp; omega)) ?_; (conv => whnf))); refine ⟨_, pfxOften_at a.owns.l b.owns.l rfl rfl, rfl, ?_⟩; conv => whnf) | (refine Or.inl ?_; (conv => whnf); (repeat (refine And.intro (by first | omega | (simp; done) | (simp; omega)) ?_; (conv => whnf))); refine ⟨_, pfxOften_at a.routes.l b.routes.l rfl rfl, rfl, ?_⟩; conv => whnf) | (refine ⟨_, eqStrs_at a.ins.l b.ins.l rfl rfl, rfl, ?_⟩; conv => whnf) | (refine ⟨_, eqStrs_at a.outs.l b.outs.l rfl rfl, rfl, ?_⟩; conv => whnf) | (refine ⟨_, linesEq_at a.guards.l b.guards.l rfl rfl, rfl, ?_⟩; conv => whnf) | (refine ⟨_, ruleOften_at a.rules.l b.rules.l rfl rfl, rfl, ?_⟩; conv => whnf) | (refine ⟨_, pfxOften_at a.owns.l b.owns.l rfl rfl, rfl, ?_⟩; conv => whnf) | (refine ⟨_, pfxOften_at a.routes.l b.routes.l rfl rfl, rfl, ?_⟩; conv => whnf) | (refine Or.inr (Or.inl ?_); (conv => whnf); (repeat (refine And.intro (by first | omega | (simp; done) | (simp; omega)) ?_; (conv => whnf))); refine ⟨_, eqStrs_at a.ins.l b.ins.l rfl rfl, ?_⟩; rintro _ _ ⟨rfl, rfl⟩; conv => whnf) | (refine Or.inr (Or.inl ?_); (conv => whnf); (repeat (refine And.intro (by first | omega | (simp; done) | (simp; omega)) ?_; (conv => whnf))); refine ⟨_, eqStrs_at a.outs.l b.outs.l rfl rfl, ?_⟩; rintro _ _ ⟨rfl, rfl⟩; conv => whnf) | (refine Or.inr (Or.inl ?_); (conv => whnf); (repeat (refine And.intro (by first | omega | (simp; done) | (simp; omega)) ?_; (conv => whnf))); refine ⟨_, linesEq_at a.guards.l b.guards.l rfl rfl, ?_⟩; rintro _ _ ⟨rfl, rfl⟩; conv => whnf) | (refine Or.inr (Or.inl ?_); (conv => whnf); (repeat (refine And.intro (by first | omega | (simp; done) | (simp; omega)) ?_; (conv => whnf))); refine ⟨_, ruleOften_at a.rules.l b.rules.l rfl rfl, ?_⟩; rintro _ _ ⟨rfl, rfl⟩; conv => whnf) | (refine Or.inr (Or.inl ?_); (conv => whnf); (repeat (refine And.intro (by first | omega | (simp; done) | (simp; omega)) ?_; (conv => whnf))); refine ⟨_, pfxOften_at a.owns.l b.owns.l rfl rfl, ?_⟩; rintro _ _ ⟨rfl, rfl⟩; conv => whnf) | (refine Or.inr (Or.inl ?_); (conv => whnf); (repeat (refine And.intro (by first | omega | (simp; done) | (simp; omega)) ?_; (conv => whnf))); refine ⟨_, pfxOften_at a.routes.l b.routes.l rfl rfl, ?_⟩; rintro _ _ ⟨rfl, rfl⟩; conv => whnf) | (refine rd rfl (by assumption) ?_; conv => whnf) | (refine ⟨_, .inl ⟨rfl, rfl⟩, ?_⟩; conv => whnf) | (refine ⟨_, _, rfl, rfl, ?_⟩; conv => whnf) | (refine ⟨fun _ => ?_, fun _ => ?_⟩ <;> (conv => whnf) <;> (try (exfalso; omega))) | (refine And.intro (by first | omega | rfl | (simp; done) | (simp; omega)) ?_; conv => whnf) | (refine num_any ?_; conv => whnf) | (refine ⟨_, rfl, ?_⟩; conv => whnf) | fail)
  all_goals
    refine Or.inl ?_; (conv => whnf)
  all_goals
    refine b_eq ?_
    simp_all [eqBoxP, Box.b, eqL_tt]
set_option maxRecDepth 100000 in
theorem boxesEq_at (a b : List Box) {ra sa rb sb : List (List D)} (ha : ra = a.map Box.row) (hb : rb = b.map Box.row) : FSpec Try.prog T 20 [.lst 40 ra sa, .lst 40 rb sb, .fn 21 [] []] (fun d _ => d = .b (eqBoxesP True (a.map Box.b) (b.map Box.b))) := by
  subst ha hb
  refine FSpec.of_len Try.call20 0 rfl fun hlen => ?_
  have hal : (a.map Box.row).length = a.length := by simp
  have hbl : (b.map Box.row).length = b.length := by simp
  refine FSpec.of_ok tok Try.func20 rfl Try.call20 (by simp) ?_
  (try (conv => whnf)); repeat' (first | refine Ok.seq ?_ | (refine Ok.region tok ?_; conv => whnf) | (refine Ok.region_draw tok follows (by kernel_rfl) ?_; conv => whnf) | (refine Ok.cond ?_; conv => whnf) | refine Ok.block ?_ | (refine Ok.skip ?_; conv => whnf) | (refine Ok.exit ?_; conv => whnf) | (refine Ok.ret ?_; conv => whnf) | (refine num_in (by omega) (by omega) ?_; conv => whnf) | (refine ix _ (by assumption) ?_; conv => whnf) | (refine ixI (by omega) (by assumption) ?_; conv => whnf) | (refine ix_new _ (by omega) fun _ _ => ?_; conv => whnf) | (refine ixI_new (by omega) (by omega) fun _ _ => ?_; conv => whnf) | (refine rd rfl (by assumption) ?_; conv => whnf) | (refine ⟨_, .inl ⟨rfl, rfl⟩, ?_⟩; conv => whnf) | (refine ⟨_, _, rfl, rfl, ?_⟩; conv => whnf) | (refine ⟨fun _ => ?_, fun _ => ?_⟩ <;> (conv => whnf) <;> (try (exfalso; omega))) | (refine And.intro (by first | omega | rfl | (simp; done) | (simp; omega)) ?_; conv => whnf) | (refine num_any ?_; conv => whnf) | (refine ⟨_, rfl, ?_⟩; conv => whnf) | fail)
  · rename_i h1
    refine Or.inl ?_; (conv => whnf)
    exact b_eq ⟨fun h => h.elim, fun h => h1 (by rw [hal, hbl]; exact congrArg _ (by simpa using h.1))⟩
  refine Ok.loopU [1, 2, 15, 16] [17] 0 0 (fun (k : Nat) => [.i .i64 (k : Nat)]) (fun _ b => b) (fun _ r => r) (fun (k : Nat) => k ≤ a.length ∧ (∀ (i : Nat) x y, i < k → a[i]? = some x → b[i]? = some y → eqBoxP True x.b y.b)) (fun (k : Nat) => a.length - k) (0) (⟨Nat.zero_le _, fun i x y h => by omega⟩) ?_; (conv => whnf); refine ⟨by ((conv => whnf); first | rfl | (simp [envCat, List.take_of_length_le, SI.row, Node.row, Pfx.row, Link.row, srow, Line.row, Rule.row, Box.row, Slc.row, Config.row, Ls.d]; done) | (simp [envCat, List.take_of_length_le, SI.row, Node.row, Pfx.row, Link.row, srow, Line.row, Rule.row, Box.row, Slc.row, Config.row, Ls.d]; rw [IntKind.wrap_i64]; omega)), ?_⟩
  rintro k ⟨hk, ht⟩
  by_cases hka : k < a.length
  · obtain ⟨x, hx⟩ : ∃ x, a[k]? = some x := ⟨_, List.getElem?_eq_getElem hka⟩
    obtain ⟨y, hy⟩ : ∃ x, b[k]? = some x := ⟨_, List.getElem?_eq_getElem (by omega)⟩
    (try (conv => whnf)); repeat' (first | refine Ok.seq ?_ | (refine Ok.region tok ?_; conv => whnf) | (refine Ok.region_draw tok follows (by kernel_rfl) ?_; conv => whnf) | (refine Ok.cond ?_; conv => whnf) | refine Ok.block ?_ | (refine Ok.skip ?_; conv => whnf) | (refine Ok.exit ?_; conv => whnf) | (refine Ok.ret ?_; conv => whnf) | (refine num_in (by omega) (by omega) ?_; conv => whnf) | (refine ix _ (by assumption) ?_; conv => whnf) | (refine ixI (by omega) (by assumption) ?_; conv => whnf) | (refine ix_new _ (by omega) fun _ _ => ?_; conv => whnf) | (refine ixI_new (by omega) (by omega) fun _ _ => ?_; conv => whnf) | (refine Or.inl ?_; (conv => whnf); (repeat (refine And.intro (by first | omega | (simp; done) | (simp; omega)) ?_; (conv => whnf))); refine ⟨_, sameBox_at x y, rfl, ?_⟩; conv => whnf) | (refine ⟨_, sameBox_at x y, rfl, ?_⟩; conv => whnf) | (refine Or.inr (Or.inl ?_); (conv => whnf); (repeat (refine And.intro (by first | omega | (simp; done) | (simp; omega)) ?_; (conv => whnf))); refine ⟨_, sameBox_at x y, ?_⟩; rintro _ _ ⟨rfl, rfl⟩; conv => whnf) | (refine rd rfl (by assumption) ?_; conv => whnf) | (refine ⟨_, .inl ⟨rfl, rfl⟩, ?_⟩; conv => whnf) | (refine ⟨_, _, rfl, rfl, ?_⟩; conv => whnf) | (refine ⟨fun _ => ?_, fun _ => ?_⟩ <;> (conv => whnf) <;> (try (exfalso; omega))) | (refine And.intro (by first | omega | rfl | (simp; done) | (simp; omega)) ?_; conv => whnf) | (refine num_any ?_; conv => whnf) | (refine ⟨_, rfl, ?_⟩; conv => whnf) | fail)
    · rename_i hne
      refine Or.inl ?_; (conv => whnf)
      exact b_eq ⟨fun h => h.elim, fun h => hne (h.2 k x.b y.b (by simp [hx]) (by simp [hy]))⟩
    · rename_i heq
      refine ⟨k + 1, by omega, ⟨by omega, fun i u v hi hu hv => ?_⟩, ?_⟩
      · by_cases hik : i = k
        · subst hik
          rw [hx] at hu
          rw [hy] at hv
          cases hu
          cases hv
          exact Classical.not_not.1 heq
        · exact ht i u v (by omega) hu hv
      · (conv => whnf); (first | rfl | simp [envCat, List.take_of_length_le, SI.row, Node.row, Pfx.row, Link.row, srow, Line.row, Rule.row, Box.row, Slc.row, Config.row, Ls.d])
  · obtain rfl : k = a.length := by omega
    have hl2 : a.length = b.length := by omega
    (try (conv => whnf)); repeat' (first | refine Ok.seq ?_ | (refine Ok.region tok ?_; conv => whnf) | (refine Ok.region_draw tok follows (by kernel_rfl) ?_; conv => whnf) | (refine Ok.cond ?_; conv => whnf) | refine Ok.block ?_ | (refine Ok.skip ?_; conv => whnf) | (refine Ok.exit ?_; conv => whnf) | (refine Ok.ret ?_; conv => whnf) | (refine num_in (by omega) (by omega) ?_; conv => whnf) | (refine ix _ (by assumption) ?_; conv => whnf) | (refine ixI (by omega) (by assumption) ?_; conv => whnf) | (refine ix_new _ (by omega) fun _ _ => ?_; conv => whnf) | (refine ixI_new (by omega) (by omega) fun _ _ => ?_; conv => whnf) | (refine rd rfl (by assumption) ?_; conv => whnf) | (refine ⟨_, .inl ⟨rfl, rfl⟩, ?_⟩; conv => whnf) | (refine ⟨_, _, rfl, rfl, ?_⟩; conv => whnf) | (refine ⟨fun _ => ?_, fun _ => ?_⟩ <;> (conv => whnf) <;> (try (exfalso; omega))) | (refine And.intro (by first | omega | rfl | (simp; done) | (simp; omega)) ?_; conv => whnf) | (refine num_any ?_; conv => whnf) | (refine ⟨_, rfl, ?_⟩; conv => whnf) | fail)
    refine Or.inl ?_; (conv => whnf)
    exact b_eq ⟨fun _ => ⟨by simp [hl2], fun i x y hx hy => by
      simp only [List.getElem?_map, Option.map_eq_some_iff] at hx hy
      obtain ⟨x, hx, rfl⟩ := hx
      obtain ⟨y, hy, rfl⟩ := hy
      exact ht i x y (List.getElem?_eq_some_iff.1 hx).1 hx hy⟩, fun _ => trivial⟩
set_option maxRecDepth 100000 in
set_option maxHeartbeats 4000000 in
theorem confSame_at (a b : Config) : FSpec Try.prog T 7 [.agg a.row, .agg b.row] (fun d _ => d = .b (equalP True a.b b.b)) := by
  have h2 := asOg_Eq a.links.l b.links.l
  have h3 := asOg_Eq (a.slices.l.map Slc.b) (b.slices.l.map Slc.b)
  refine FSpec.of_ok tok Try.func7 rfl Try.call7 (by simp) ?_
  (try (conv => whnf)); repeat' (first | refine Ok.seq ?_ | (refine Ok.region tok ?_; conv => whnf) | (refine Ok.region_draw tok follows (by kernel_rfl) ?_; conv => whnf) | (refine Ok.cond ?_; conv => whnf) | refine Ok.block ?_ | (refine Ok.skip ?_; conv => whnf) | (refine Ok.exit ?_; conv => whnf) | (refine Ok.ret ?_; conv => whnf) | (refine num_in (by omega) (by omega) ?_; conv => whnf) | (refine ix _ (by assumption) ?_; conv => whnf) | (refine ixI (by omega) (by assumption) ?_; conv => whnf) | (refine ix_new _ (by omega) fun _ _ => ?_; conv => whnf) | (refine ixI_new (by omega) (by omega) fun _ _ => ?_; conv => whnf) | (refine Or.inl ?_; (conv => whnf); (repeat (refine And.intro (by first | omega | (simp; done) | (simp; omega)) ?_; (conv => whnf))); refine ⟨_, eqFields_at a.fields.l b.fields.l rfl rfl, rfl, ?_⟩; conv => whnf) | (refine Or.inl ?_; (conv => whnf); (repeat (refine And.intro (by first | omega | (simp; done) | (simp; omega)) ?_; (conv => whnf))); refine ⟨_, boxesEq_at a.boxes.l b.boxes.l rfl rfl, rfl, ?_⟩; conv => whnf) | (refine Or.inl ?_; (conv => whnf); (repeat (refine And.intro (by first | omega | (simp; done) | (simp; omega)) ?_; (conv => whnf))); refine ⟨_, linkOften_at a.links.l b.links.l rfl rfl, rfl, ?_⟩; conv => whnf) | (refine Or.inl ?_; (conv => whnf); (repeat (refine And.intro (by first | omega | (simp; done) | (simp; omega)) ?_; (conv => whnf))); refine ⟨_, slcOften_at a.slices.l b.slices.l rfl rfl, rfl, ?_⟩; conv => whnf) | (refine ⟨_, eqFields_at a.fields.l b.fields.l rfl rfl, rfl, ?_⟩; conv => whnf) | (refine ⟨_, boxesEq_at a.boxes.l b.boxes.l rfl rfl, rfl, ?_⟩; conv => whnf) | (refine ⟨_, linkOften_at a.links.l b.links.l rfl rfl, rfl, ?_⟩; conv => whnf) | (refine ⟨_, slcOften_at a.slices.l b.slices.l rfl rfl, rfl, ?_⟩; conv => whnf) | (refine Or.inr (Or.inl ?_); (conv => whnf); (repeat (refine And.intro (by first | omega | (simp; done) | (simp; omega)) ?_; (conv => whnf))); refine ⟨_, eqFields_at a.fields.l b.fields.l rfl rfl, ?_⟩; rintro _ _ ⟨rfl, rfl⟩; conv => whnf) | (refine Or.inr (Or.inl ?_); (conv => whnf); (repeat (refine And.intro (by first | omega | (simp; done) | (simp; omega)) ?_; (conv => whnf))); refine ⟨_, boxesEq_at a.boxes.l b.boxes.l rfl rfl, ?_⟩; rintro _ _ ⟨rfl, rfl⟩; conv => whnf) | (refine Or.inr (Or.inl ?_); (conv => whnf); (repeat (refine And.intro (by first | omega | (simp; done) | (simp; omega)) ?_; (conv => whnf))); refine ⟨_, linkOften_at a.links.l b.links.l rfl rfl, ?_⟩; rintro _ _ ⟨rfl, rfl⟩; conv => whnf) | (refine Or.inr (Or.inl ?_); (conv => whnf); (repeat (refine And.intro (by first | omega | (simp; done) | (simp; omega)) ?_; (conv => whnf))); refine ⟨_, slcOften_at a.slices.l b.slices.l rfl rfl, ?_⟩; rintro _ _ ⟨rfl, rfl⟩; conv => whnf) | (refine rd rfl (by assumption) ?_; conv => whnf) | (refine ⟨_, .inl ⟨rfl, rfl⟩, ?_⟩; conv => whnf) | (refine ⟨_, _, rfl, rfl, ?_⟩; conv => whnf) | (refine ⟨fun _ => ?_, fun _ => ?_⟩ <;> (conv => whnf) <;> (try (exfalso; omega))) | (refine And.intro (by first | omega | rfl | (simp; done) | (simp; omega)) ?_; conv => whnf) | (refine num_any ?_; conv => whnf) | (refine ⟨_, rfl, ?_⟩; conv => whnf) | fail)
  all_goals
    refine Or.inl ?_; (conv => whnf)
  all_goals
    refine b_eq ?_
    simp_all [equalP, Config.b, eqL_tt]
end Go.Proofs.Ytkkmbgfhhcoehaa
