/- Networks as plain data: nested; the document's comparison. -/
import Derived.Test.YtkkmbgfhhcoehaaC3
namespace Go.Proofs.Ytkkmbgfhhcoehaa
open Go Go.Vx
/-- A list, and what lies behind its end. -/
structure Ls (α : Type) where
  l : List α
  room : List (List D)
def Ls.d {α : Type} (e : TypeId) (f : α → List D) (x : Ls α) : D := .lst e (x.l.map f) x.room
structure Line where
  port : Str
  permit : Prop
  mtch : Ls Node
def Line.row (x : Line) : List D := [.s x.port, .b x.permit, .lst 79 (x.mtch.l.map Node.row) x.mtch.room]
structure Rule where
  prio : Int
  frm : Ls Str
  mtch : Ls Node
  sets : Ls SI
  to : Ls Str
def Rule.row (x : Rule) : List D := [.i .i64 x.prio, .lst 9 (x.frm.l.map srow) x.frm.room, .lst 79 (x.mtch.l.map Node.row) x.mtch.room, .lst 74 (x.sets.l.map SI.row) x.sets.room, .lst 9 (x.to.l.map srow) x.to.room]
structure Box where
  name : Str
  ins : Ls Str
  outs : Ls Str
  guards : Ls Line
  rules : Ls Rule
  owns : Ls Pfx
  routes : Ls Pfx
def Box.row (x : Box) : List D := [.s x.name, .lst 9 (x.ins.l.map srow) x.ins.room, .lst 9 (x.outs.l.map srow) x.outs.room, .lst 55 (x.guards.l.map Line.row) x.guards.room, .lst 58 (x.rules.l.map Rule.row) x.rules.room, .lst 83 (x.owns.l.map Pfx.row) x.owns.room, .lst 83 (x.routes.l.map Pfx.row) x.routes.room]
structure Slc where
  name : Str
  ports : Ls Str
  whr : Ls Node
def Slc.row (x : Slc) : List D := [.s x.name, .lst 9 (x.ports.l.map srow) x.ports.room, .lst 79 (x.whr.l.map Node.row) x.whr.room]
structure Config where
  title : Str
  fields : Ls SI
  routing : Str
  slim : Prop
  boxes : Ls Box
  links : Ls Link
  slices : Ls Slc
def Config.row (x : Config) : List D := [.s x.title, .lst 43 (x.fields.l.map SI.row) x.fields.room, .s x.routing, .b x.slim, .lst 40 (x.boxes.l.map Box.row) x.boxes.room, .lst 34 (x.links.l.map Link.row) x.links.room, .lst 47 (x.slices.l.map Slc.row) x.slices.room]
/-! what they say, the room behind let be -/
structure LineB where
  port : Str
  permit : Prop
  mtch : List Node
def Line.b (x : Line) : LineB := ⟨x.port, x.permit, x.mtch.l⟩
structure RuleB where
  prio : Int
  frm : List Str
  mtch : List Node
  sets : List SI
  to : List Str
def Rule.b (x : Rule) : RuleB := ⟨x.prio, x.frm.l, x.mtch.l, x.sets.l, x.to.l⟩
structure BoxB where
  name : Str
  ins : List Str
  outs : List Str
  guards : List LineB
  rules : List RuleB
  owns : List Pfx
  routes : List Pfx
def Box.b (x : Box) : BoxB := ⟨x.name, x.ins.l, x.outs.l, x.guards.l.map Line.b, x.rules.l.map Rule.b, x.owns.l, x.routes.l⟩
structure SlcB where
  name : Str
  ports : List Str
  whr : List Node
def Slc.b (x : Slc) : SlcB := ⟨x.name, x.ports.l, x.whr.l⟩
structure ConfigB where
  title : Str
  fields : List SI
  routing : Str
  slim : Prop
  boxes : List BoxB
  links : List Link
  slices : List SlcB
def Config.b (x : Config) : ConfigB := ⟨x.title, x.fields.l, x.routing, x.slim, x.boxes.l.map Box.b, x.links.l, x.slices.l.map Slc.b⟩

open Classical in
noncomputable def cnt {α : Type} (P : α → Prop) (l : List α) : Nat := l.countP fun x => decide (P x)
theorem cnt_pos {α : Type} {P : α → Prop} {l : List α} {k : Nat} {x : α} (hx : l[k]? = some x) (h : P x) : cnt P (l.take (k + 1)) = cnt P (l.take k) + 1 := by
  unfold cnt; rw [List.take_add_one, hx]; simp [h]
theorem cnt_neg {α : Type} {P : α → Prop} {l : List α} {k : Nat} {x : α} (hx : l[k]? = some x) (h : ¬ P x) : cnt P (l.take (k + 1)) = cnt P (l.take k) := by
  unfold cnt; rw [List.take_add_one, hx]; simp [h]
theorem cnt_le {α : Type} (P : α → Prop) (l : List α) (k : Nat) : cnt P (l.take k) ≤ k := by
  unfold cnt
  exact Nat.le_trans List.countP_le_length (by rw [List.length_take]; omega)
def asOf {α : Type} (R : α → α → Prop) (u v : List α) : Prop := u.length = v.length ∧ ∀ x ∈ u, cnt (fun y => R y x) u = cnt (fun y => R y x) v
def eqL {α : Type} (p : Prop) (R : α → α → Prop) (u v : List α) : Prop := (p → asOf R u v) ∧ (¬ p → u = v)
def eqRuleP (p : Prop) (r s : RuleB) : Prop := r.prio = s.prio ∧ ((p → asOf Eq r.frm s.frm) ∧ (¬ p → r.frm = s.frm)) ∧ r.mtch = s.mtch ∧ r.sets = s.sets ∧ r.to = s.to
theorem eqRuleP_ff (r s : RuleB) : eqRuleP False r s ↔ r = s := by
  obtain ⟨a, b, c, d, e⟩ := r
  obtain ⟨a', b', c', d', e'⟩ := s
  simp [eqRuleP]
set_option maxRecDepth 100000 in
theorem count_at (l : List Str) (s : Str) {rl sl : List (List D)} (h : rl = l.map srow) : FSpec Try.prog T 75 [.lst 9 rl sl, .s s] (fun d _ => d = .i .i64 (cnt (fun y => y = s) l : Nat)) := by
  subst h
  refine FSpec.of_len Try.call75 0 rfl fun hlen => ?_
  have hll : (l.map srow).length = l.length := by simp
  refine FSpec.of_ok tok Try.func75 rfl Try.call75 (by simp) ?_
  (try (conv => whnf)); repeat' (first | refine Ok.seq ?_ | (refine Ok.region tok ?_; conv => whnf) | (refine Ok.region_draw tok follows (by kernel_rfl) ?_; conv => whnf) | (refine Ok.cond ?_; conv => whnf) | refine Ok.block ?_ | (refine Ok.skip ?_; conv => whnf) | (refine Ok.exit ?_; conv => whnf) | (refine Ok.ret ?_; conv => whnf) | (refine num_in (by omega) (by omega) ?_; conv => whnf) | (refine ix _ (by assumption) ?_; conv => whnf) | (refine ixI (by omega) (by assumption) ?_; conv => whnf) | (refine ix_new _ (by omega) fun _ _ => ?_; conv => whnf) | (refine ixI_new (by omega) (by omega) fun _ _ => ?_; conv => whnf) | (refine rd rfl (by assumption) ?_; conv => whnf) | (refine ⟨_, .inl ⟨rfl, rfl⟩, ?_⟩; conv => whnf) | (refine ⟨_, _, rfl, rfl, ?_⟩; conv => whnf) | (refine ⟨fun _ => ?_, fun _ => ?_⟩ <;> (conv => whnf) <;> (try (exfalso; omega))) | (refine And.intro (by first | omega | rfl | (simp; done) | (simp; omega)) ?_; conv => whnf) | (refine num_any ?_; conv => whnf) | (refine ⟨_, rfl, ?_⟩; conv => whnf) | fail)
  refine Ok.loopU [0, 1] [5, 6] 0 0 (fun (k : Nat) => [.i .i64 (cnt (fun y => y = s) (l.take k) : Nat), .i .i64 (k : Nat)]) (fun _ b => b) (fun _ r => r) (fun (k : Nat) => k ≤ l.length) (fun (k : Nat) => l.length - k) (0) (Nat.zero_le _) ?_; (conv => whnf); refine ⟨by ((conv => whnf); first | rfl | (simp [envCat, List.take_of_length_le, SI.row, Node.row, Pfx.row, Link.row, srow, Line.row, Rule.row, Box.row, Slc.row, Ls.d]; done) | (simp [envCat, List.take_of_length_le, SI.row, Node.row, Pfx.row, Link.row, srow, Line.row, Rule.row, Box.row, Slc.row, Ls.d]; rw [IntKind.wrap_i64]; omega)), ?_⟩
  rintro k hk
  have hc := cnt_le (fun y => y = s) l k
  by_cases hkl : k < l.length
  · obtain ⟨x, hx⟩ : ∃ x, l[k]? = some x := ⟨_, List.getElem?_eq_getElem hkl⟩
    (try (conv => whnf)); repeat' (first | refine Ok.seq ?_ | (refine Ok.region tok ?_; conv => whnf) | (refine Ok.region_draw tok follows (by kernel_rfl) ?_; conv => whnf) | (refine Ok.cond ?_; conv => whnf) | refine Ok.block ?_ | (refine Ok.skip ?_; conv => whnf) | (refine Ok.exit ?_; conv => whnf) | (refine Ok.ret ?_; conv => whnf) | (refine num_in (by omega) (by omega) ?_; conv => whnf) | (refine ix _ (by assumption) ?_; conv => whnf) | (refine ixI (by omega) (by assumption) ?_; conv => whnf) | (refine ix_new _ (by omega) fun _ _ => ?_; conv => whnf) | (refine ixI_new (by omega) (by omega) fun _ _ => ?_; conv => whnf) | (refine rd rfl (by assumption) ?_; conv => whnf) | (refine ⟨_, .inl ⟨rfl, rfl⟩, ?_⟩; conv => whnf) | (refine ⟨_, _, rfl, rfl, ?_⟩; conv => whnf) | (refine ⟨fun _ => ?_, fun _ => ?_⟩ <;> (conv => whnf) <;> (try (exfalso; omega))) | (refine And.intro (by first | omega | rfl | (simp; done) | (simp; omega)) ?_; conv => whnf) | (refine num_any ?_; conv => whnf) | (refine ⟨_, rfl, ?_⟩; conv => whnf) | fail)
    · refine ⟨k + 1, by omega, by omega, ?_⟩
      rw [cnt_pos (P := (fun y => y = s)) hx (by assumption)]
      (conv => whnf); simp [envCat]
    · refine ⟨k + 1, by omega, by omega, ?_⟩
      rw [cnt_neg (P := (fun y => y = s)) hx (by assumption)]
      (conv => whnf); simp [envCat]
  · obtain rfl : k = l.length := by omega
    have hml : l.take l.length = l := List.take_of_length_le (by simp)
    rw [hml] at hc ⊢
    (conv => whnf)
    (try (conv => whnf)); repeat' (first | refine Ok.seq ?_ | (refine Ok.region tok ?_; conv => whnf) | (refine Ok.region_draw tok follows (by kernel_rfl) ?_; conv => whnf) | (refine Ok.cond ?_; conv => whnf) | refine Ok.block ?_ | (refine Ok.skip ?_; conv => whnf) | (refine Ok.exit ?_; conv => whnf) | (refine Ok.ret ?_; conv => whnf) | (refine num_in (by omega) (by omega) ?_; conv => whnf) | (refine ix _ (by assumption) ?_; conv => whnf) | (refine ixI (by omega) (by assumption) ?_; conv => whnf) | (refine ix_new _ (by omega) fun _ _ => ?_; conv => whnf) | (refine ixI_new (by omega) (by omega) fun _ _ => ?_; conv => whnf) | (refine rd rfl (by assumption) ?_; conv => whnf) | (refine ⟨_, .inl ⟨rfl, rfl⟩, ?_⟩; conv => whnf) | (refine ⟨_, _, rfl, rfl, ?_⟩; conv => whnf) | (refine ⟨fun _ => ?_, fun _ => ?_⟩ <;> (conv => whnf) <;> (try (exfalso; omega))) | (refine And.intro (by first | omega | rfl | (simp; done) | (simp; omega)) ?_; conv => whnf) | (refine num_any ?_; conv => whnf) | (refine ⟨_, rfl, ?_⟩; conv => whnf) | fail)
    refine Or.inl ?_; (conv => whnf)
    rfl
set_option maxRecDepth 100000 in
theorem prefixCount_at (l : List Pfx) (s : Pfx) {rl sl : List (List D)} (h : rl = l.map Pfx.row) : FSpec Try.prog T 72 [.lst 83 rl sl, .agg s.row] (fun d _ => d = .i .i64 (cnt (fun y => y = s) l : Nat)) := by
  subst h
  refine FSpec.of_len Try.call72 0 rfl fun hlen => ?_
  have hll : (l.map Pfx.row).length = l.length := by simp
  refine FSpec.of_ok tok Try.func72 rfl Try.call72 (by simp) ?_
  (try (conv => whnf)); repeat' (first | refine Ok.seq ?_ | (refine Ok.region tok ?_; conv => whnf) | (refine Ok.region_draw tok follows (by kernel_rfl) ?_; conv => whnf) | (refine Ok.cond ?_; conv => whnf) | refine Ok.block ?_ | (refine Ok.skip ?_; conv => whnf) | (refine Ok.exit ?_; conv => whnf) | (refine Ok.ret ?_; conv => whnf) | (refine num_in (by omega) (by omega) ?_; conv => whnf) | (refine ix _ (by assumption) ?_; conv => whnf) | (refine ixI (by omega) (by assumption) ?_; conv => whnf) | (refine ix_new _ (by omega) fun _ _ => ?_; conv => whnf) | (refine ixI_new (by omega) (by omega) fun _ _ => ?_; conv => whnf) | (refine rd rfl (by assumption) ?_; conv => whnf) | (refine ⟨_, .inl ⟨rfl, rfl⟩, ?_⟩; conv => whnf) | (refine ⟨_, _, rfl, rfl, ?_⟩; conv => whnf) | (refine ⟨fun _ => ?_, fun _ => ?_⟩ <;> (conv => whnf) <;> (try (exfalso; omega))) | (refine And.intro (by first | omega | rfl | (simp; done) | (simp; omega)) ?_; conv => whnf) | (refine num_any ?_; conv => whnf) | (refine ⟨_, rfl, ?_⟩; conv => whnf) | fail)
  refine Ok.loopU [0, 3] [5, 6] 0 1 (fun (k : Nat) => [.i .i64 (cnt (fun y => y = s) (l.take k) : Nat), .i .i64 (k : Nat)]) (fun _ b => b) (fun _ r => r) (fun (k : Nat) => k ≤ l.length) (fun (k : Nat) => l.length - k) (0) (Nat.zero_le _) ?_; (conv => whnf); refine ⟨by ((conv => whnf); first | rfl | (simp [envCat, List.take_of_length_le, SI.row, Node.row, Pfx.row, Link.row, srow, Line.row, Rule.row, Box.row, Slc.row, Ls.d]; done) | (simp [envCat, List.take_of_length_le, SI.row, Node.row, Pfx.row, Link.row, srow, Line.row, Rule.row, Box.row, Slc.row, Ls.d]; rw [IntKind.wrap_i64]; omega)), ?_⟩
  rintro k hk
  have hc := cnt_le (fun y => y = s) l k
  by_cases hkl : k < l.length
  · obtain ⟨x, hx⟩ : ∃ x, l[k]? = some x := ⟨_, List.getElem?_eq_getElem hkl⟩
    (try (conv => whnf)); repeat' (first | refine Ok.seq ?_ | (refine Ok.region tok ?_; conv => whnf) | (refine Ok.region_draw tok follows (by kernel_rfl) ?_; conv => whnf) | (refine Ok.cond ?_; conv => whnf) | refine Ok.block ?_ | (refine Ok.skip ?_; conv => whnf) | (refine Ok.exit ?_; conv => whnf) | (refine Ok.ret ?_; conv => whnf) | (refine num_in (by omega) (by omega) ?_; conv => whnf) | (refine ix _ (by assumption) ?_; conv => whnf) | (refine ixI (by omega) (by assumption) ?_; conv => whnf) | (refine ix_new _ (by omega) fun _ _ => ?_; conv => whnf) | (refine ixI_new (by omega) (by omega) fun _ _ => ?_; conv => whnf) | (refine rd rfl (by assumption) ?_; conv => whnf) | (refine ⟨_, .inl ⟨rfl, rfl⟩, ?_⟩; conv => whnf) | (refine ⟨_, _, rfl, rfl, ?_⟩; conv => whnf) | (refine ⟨fun _ => ?_, fun _ => ?_⟩ <;> (conv => whnf) <;> (try (exfalso; omega))) | (refine And.intro (by first | omega | rfl | (simp; done) | (simp; omega)) ?_; conv => whnf) | (refine num_any ?_; conv => whnf) | (refine ⟨_, rfl, ?_⟩; conv => whnf) | fail)
    refine ⟨_, eqPfx, by kernel_rfl, ?_⟩
    (conv => whnf)
    (try (conv => whnf)); repeat' (first | refine Ok.seq ?_ | (refine Ok.region tok ?_; conv => whnf) | (refine Ok.region_draw tok follows (by kernel_rfl) ?_; conv => whnf) | (refine Ok.cond ?_; conv => whnf) | refine Ok.block ?_ | (refine Ok.skip ?_; conv => whnf) | (refine Ok.exit ?_; conv => whnf) | (refine Ok.ret ?_; conv => whnf) | (refine num_in (by omega) (by omega) ?_; conv => whnf) | (refine ix _ (by assumption) ?_; conv => whnf) | (refine ixI (by omega) (by assumption) ?_; conv => whnf) | (refine ix_new _ (by omega) fun _ _ => ?_; conv => whnf) | (refine ixI_new (by omega) (by omega) fun _ _ => ?_; conv => whnf) | (refine rd rfl (by assumption) ?_; conv => whnf) | (refine ⟨_, .inl ⟨rfl, rfl⟩, ?_⟩; conv => whnf) | (refine ⟨_, _, rfl, rfl, ?_⟩; conv => whnf) | (refine ⟨fun _ => ?_, fun _ => ?_⟩ <;> (conv => whnf) <;> (try (exfalso; omega))) | (refine And.intro (by first | omega | rfl | (simp; done) | (simp; omega)) ?_; conv => whnf) | (refine num_any ?_; conv => whnf) | (refine ⟨_, rfl, ?_⟩; conv => whnf) | fail)
    · refine ⟨k + 1, by omega, by omega, ?_⟩
      rw [cnt_pos (P := (fun y => y = s)) hx ((Pfx.eqRow x s).1 (by assumption))]
      (conv => whnf); simp [envCat]
    · refine ⟨k + 1, by omega, by omega, ?_⟩
      rw [cnt_neg (P := (fun y => y = s)) hx (fun h => absurd ((Pfx.eqRow x s).2 h) (by assumption))]
      (conv => whnf); simp [envCat]
  · obtain rfl : k = l.length := by omega
    have hml : l.take l.length = l := List.take_of_length_le (by simp)
    rw [hml] at hc ⊢
    (conv => whnf)
    (try (conv => whnf)); repeat' (first | refine Ok.seq ?_ | (refine Ok.region tok ?_; conv => whnf) | (refine Ok.region_draw tok follows (by kernel_rfl) ?_; conv => whnf) | (refine Ok.cond ?_; conv => whnf) | refine Ok.block ?_ | (refine Ok.skip ?_; conv => whnf) | (refine Ok.exit ?_; conv => whnf) | (refine Ok.ret ?_; conv => whnf) | (refine num_in (by omega) (by omega) ?_; conv => whnf) | (refine ix _ (by assumption) ?_; conv => whnf) | (refine ixI (by omega) (by assumption) ?_; conv => whnf) | (refine ix_new _ (by omega) fun _ _ => ?_; conv => whnf) | (refine ixI_new (by omega) (by omega) fun _ _ => ?_; conv => whnf) | (refine rd rfl (by assumption) ?_; conv => whnf) | (refine ⟨_, .inl ⟨rfl, rfl⟩, ?_⟩; conv => whnf) | (refine ⟨_, _, rfl, rfl, ?_⟩; conv => whnf) | (refine ⟨fun _ => ?_, fun _ => ?_⟩ <;> (conv => whnf) <;> (try (exfalso; omega))) | (refine And.intro (by first | omega | rfl | (simp; done) | (simp; omega)) ?_; conv => whnf) | (refine num_any ?_; conv => whnf) | (refine ⟨_, rfl, ?_⟩; conv => whnf) | fail)
    refine Or.inl ?_; (conv => whnf)
    rfl
set_option maxRecDepth 100000 in
theorem linkCount_at (l : List Link) (s : Link) {rl sl : List (List D)} (h : rl = l.map Link.row) : FSpec Try.prog T 65 [.lst 34 rl sl, .agg s.row] (fun d _ => d = .i .i64 (cnt (fun y => y = s) l : Nat)) := by
  subst h
  refine FSpec.of_len Try.call65 0 rfl fun hlen => ?_
  have hll : (l.map Link.row).length = l.length := by simp
  refine FSpec.of_ok tok Try.func65 rfl Try.call65 (by simp) ?_
  (try (conv => whnf)); repeat' (first | refine Ok.seq ?_ | (refine Ok.region tok ?_; conv => whnf) | (refine Ok.region_draw tok follows (by kernel_rfl) ?_; conv => whnf) | (refine Ok.cond ?_; conv => whnf) | refine Ok.block ?_ | (refine Ok.skip ?_; conv => whnf) | (refine Ok.exit ?_; conv => whnf) | (refine Ok.ret ?_; conv => whnf) | (refine num_in (by omega) (by omega) ?_; conv => whnf) | (refine ix _ (by assumption) ?_; conv => whnf) | (refine ixI (by omega) (by assumption) ?_; conv => whnf) | (refine ix_new _ (by omega) fun _ _ => ?_; conv => whnf) | (refine ixI_new (by omega) (by omega) fun _ _ => ?_; conv => whnf) | (refine rd rfl (by assumption) ?_; conv => whnf) | (refine ⟨_, .inl ⟨rfl, rfl⟩, ?_⟩; conv => whnf) | (refine ⟨_, _, rfl, rfl, ?_⟩; conv => whnf) | (refine ⟨fun _ => ?_, fun _ => ?_⟩ <;> (conv => whnf) <;> (try (exfalso; omega))) | (refine And.intro (by first | omega | rfl | (simp; done) | (simp; omega)) ?_; conv => whnf) | (refine num_any ?_; conv => whnf) | (refine ⟨_, rfl, ?_⟩; conv => whnf) | fail)
  refine Ok.loopU [0, 3] [5, 6] 0 1 (fun (k : Nat) => [.i .i64 (cnt (fun y => y = s) (l.take k) : Nat), .i .i64 (k : Nat)]) (fun _ b => b) (fun _ r => r) (fun (k : Nat) => k ≤ l.length) (fun (k : Nat) => l.length - k) (0) (Nat.zero_le _) ?_; (conv => whnf); refine ⟨by ((conv => whnf); first | rfl | (simp [envCat, List.take_of_length_le, SI.row, Node.row, Pfx.row, Link.row, srow, Line.row, Rule.row, Box.row, Slc.row, Ls.d]; done) | (simp [envCat, List.take_of_length_le, SI.row, Node.row, Pfx.row, Link.row, srow, Line.row, Rule.row, Box.row, Slc.row, Ls.d]; rw [IntKind.wrap_i64]; omega)), ?_⟩
  rintro k hk
  have hc := cnt_le (fun y => y = s) l k
  by_cases hkl : k < l.length
  · obtain ⟨x, hx⟩ : ∃ x, l[k]? = some x := ⟨_, List.getElem?_eq_getElem hkl⟩
    (try (conv => whnf)); repeat' (first | refine Ok.seq ?_ | (refine Ok.region tok ?_; conv => whnf) | (refine Ok.region_draw tok follows (by kernel_rfl) ?_; conv => whnf) | (refine Ok.cond ?_; conv => whnf) | refine Ok.block ?_ | (refine Ok.skip ?_; conv => whnf) | (refine Ok.exit ?_; conv => whnf) | (refine Ok.ret ?_; conv => whnf) | (refine num_in (by omega) (by omega) ?_; conv => whnf) | (refine ix _ (by assumption) ?_; conv => whnf) | (refine ixI (by omega) (by assumption) ?_; conv => whnf) | (refine ix_new _ (by omega) fun _ _ => ?_; conv => whnf) | (refine ixI_new (by omega) (by omega) fun _ _ => ?_; conv => whnf) | (refine rd rfl (by assumption) ?_; conv => whnf) | (refine ⟨_, .inl ⟨rfl, rfl⟩, ?_⟩; conv => whnf) | (refine ⟨_, _, rfl, rfl, ?_⟩; conv => whnf) | (refine ⟨fun _ => ?_, fun _ => ?_⟩ <;> (conv => whnf) <;> (try (exfalso; omega))) | (refine And.intro (by first | omega | rfl | (simp; done) | (simp; omega)) ?_; conv => whnf) | (refine num_any ?_; conv => whnf) | (refine ⟨_, rfl, ?_⟩; conv => whnf) | fail)
    refine ⟨_, eqLink, by kernel_rfl, ?_⟩
    (conv => whnf)
    (try (conv => whnf)); repeat' (first | refine Ok.seq ?_ | (refine Ok.region tok ?_; conv => whnf) | (refine Ok.region_draw tok follows (by kernel_rfl) ?_; conv => whnf) | (refine Ok.cond ?_; conv => whnf) | refine Ok.block ?_ | (refine Ok.skip ?_; conv => whnf) | (refine Ok.exit ?_; conv => whnf) | (refine Ok.ret ?_; conv => whnf) | (refine num_in (by omega) (by omega) ?_; conv => whnf) | (refine ix _ (by assumption) ?_; conv => whnf) | (refine ixI (by omega) (by assumption) ?_; conv => whnf) | (refine ix_new _ (by omega) fun _ _ => ?_; conv => whnf) | (refine ixI_new (by omega) (by omega) fun _ _ => ?_; conv => whnf) | (refine rd rfl (by assumption) ?_; conv => whnf) | (refine ⟨_, .inl ⟨rfl, rfl⟩, ?_⟩; conv => whnf) | (refine ⟨_, _, rfl, rfl, ?_⟩; conv => whnf) | (refine ⟨fun _ => ?_, fun _ => ?_⟩ <;> (conv => whnf) <;> (try (exfalso; omega))) | (refine And.intro (by first | omega | rfl | (simp; done) | (simp; omega)) ?_; conv => whnf) | (refine num_any ?_; conv => whnf) | (refine ⟨_, rfl, ?_⟩; conv => whnf) | fail)
    · refine ⟨k + 1, by omega, by omega, ?_⟩
      rw [cnt_pos (P := (fun y => y = s)) hx ((Link.eqRow x s).1 (by assumption))]
      (conv => whnf); simp [envCat]
    · refine ⟨k + 1, by omega, by omega, ?_⟩
      rw [cnt_neg (P := (fun y => y = s)) hx (fun h => absurd ((Link.eqRow x s).2 h) (by assumption))]
      (conv => whnf); simp [envCat]
  · obtain rfl : k = l.length := by omega
    have hml : l.take l.length = l := List.take_of_length_le (by simp)
    rw [hml] at hc ⊢
    (conv => whnf)
    (try (conv => whnf)); repeat' (first | refine Ok.seq ?_ | (refine Ok.region tok ?_; conv => whnf) | (refine Ok.region_draw tok follows (by kernel_rfl) ?_; conv => whnf) | (refine Ok.cond ?_; conv => whnf) | refine Ok.block ?_ | (refine Ok.skip ?_; conv => whnf) | (refine Ok.exit ?_; conv => whnf) | (refine Ok.ret ?_; conv => whnf) | (refine num_in (by omega) (by omega) ?_; conv => whnf) | (refine ix _ (by assumption) ?_; conv => whnf) | (refine ixI (by omega) (by assumption) ?_; conv => whnf) | (refine ix_new _ (by omega) fun _ _ => ?_; conv => whnf) | (refine ixI_new (by omega) (by omega) fun _ _ => ?_; conv => whnf) | (refine rd rfl (by assumption) ?_; conv => whnf) | (refine ⟨_, .inl ⟨rfl, rfl⟩, ?_⟩; conv => whnf) | (refine ⟨_, _, rfl, rfl, ?_⟩; conv => whnf) | (refine ⟨fun _ => ?_, fun _ => ?_⟩ <;> (conv => whnf) <;> (try (exfalso; omega))) | (refine And.intro (by first | omega | rfl | (simp; done) | (simp; omega)) ?_; conv => whnf) | (refine num_any ?_; conv => whnf) | (refine ⟨_, rfl, ?_⟩; conv => whnf) | fail)
    refine Or.inl ?_; (conv => whnf)
    rfl
set_option maxRecDepth 100000 in
set_option maxHeartbeats 4000000 in
theorem eqPrefixes_at (p : Prop) (a b : List Pfx) {ra sa rb sb : List (List D)} (ha : ra = a.map Pfx.row) (hb : rb = b.map Pfx.row) : FSpec Try.prog T 64 [.lst 83 ra sa, .lst 83 rb sb, .b p] (fun d _ => d = .b (eqL p Eq a b)) := by
  subst ha hb
  refine FSpec.of_len Try.call64 0 rfl fun hlen => ?_
  have hal : (a.map Pfx.row).length = a.length := by simp
  have hbl : (b.map Pfx.row).length = b.length := by simp
  have hma : a.length = a.length := by simp
  have hmb : b.length = b.length := by simp
  refine FSpec.of_ok tok Try.func64 rfl Try.call64 (by simp) ?_
  (try (conv => whnf)); repeat' (first | refine Ok.seq ?_ | (refine Ok.region tok ?_; conv => whnf) | (refine Ok.region_draw tok follows (by kernel_rfl) ?_; conv => whnf) | (refine Ok.cond ?_; conv => whnf) | refine Ok.block ?_ | (refine Ok.skip ?_; conv => whnf) | (refine Ok.exit ?_; conv => whnf) | (refine Ok.ret ?_; conv => whnf) | (refine num_in (by omega) (by omega) ?_; conv => whnf) | (refine ix _ (by assumption) ?_; conv => whnf) | (refine ixI (by omega) (by assumption) ?_; conv => whnf) | (refine ix_new _ (by omega) fun _ _ => ?_; conv => whnf) | (refine ixI_new (by omega) (by omega) fun _ _ => ?_; conv => whnf) | (refine rd rfl (by assumption) ?_; conv => whnf) | (refine ⟨_, .inl ⟨rfl, rfl⟩, ?_⟩; conv => whnf) | (refine ⟨_, _, rfl, rfl, ?_⟩; conv => whnf) | (refine ⟨fun _ => ?_, fun _ => ?_⟩ <;> (conv => whnf) <;> (try (exfalso; omega))) | (refine And.intro (by first | omega | rfl | (simp; done) | (simp; omega)) ?_; conv => whnf) | (refine num_any ?_; conv => whnf) | (refine ⟨_, rfl, ?_⟩; conv => whnf) | fail)
  · rename_i h1
    refine Or.inl ?_; (conv => whnf)
    exact b_eq ⟨fun h => h.elim, fun h => by
      by_cases hp : p
      · have := (h.1 hp).1; omega
      · have := congrArg List.length (h.2 hp); omega⟩
  refine Ok.loopU [0, 1, 2] [7] 0 0 (fun (k : Nat) => [.i .i64 (k : Nat)]) (fun _ b => b) (fun _ r => r) (fun (k : Nat) => k ≤ a.length ∧ (p → ∀ x ∈ a.take k, cnt (fun y => Eq y x) a = cnt (fun y => Eq y x) b) ∧ (¬ p → a.take k = b.take k)) (fun (k : Nat) => a.length - k) (0) (⟨Nat.zero_le _, by simp, by simp⟩) ?_; (conv => whnf); refine ⟨by ((conv => whnf); first | rfl | (simp [envCat, List.take_of_length_le, SI.row, Node.row, Pfx.row, Link.row, srow, Line.row, Rule.row, Box.row, Slc.row, Ls.d]; done) | (simp [envCat, List.take_of_length_le, SI.row, Node.row, Pfx.row, Link.row, srow, Line.row, Rule.row, Box.row, Slc.row, Ls.d]; rw [IntKind.wrap_i64]; omega)), ?_⟩
  rintro k ⟨hk, ht, hf⟩
  by_cases hka : k < a.length
  · obtain ⟨x, hx⟩ : ∃ x, a[k]? = some x := ⟨_, List.getElem?_eq_getElem hka⟩
    obtain ⟨y, hy⟩ : ∃ x, b[k]? = some x := ⟨_, List.getElem?_eq_getElem (by omega)⟩
    have hxm : a[k]? = some x := by simp [hx]
    have hym : b[k]? = some y := by simp [hy]
    have htk : a.take (k + 1) = a.take k ++ [x] := by rw [List.take_add_one, hxm]; rfl
    have hxx : x ∈ a := List.mem_of_getElem? hxm
    by_cases hp : p
    · (try (conv => whnf)); repeat' (first | refine Ok.seq ?_ | (refine Ok.region tok ?_; conv => whnf) | (refine Ok.region_draw tok follows (by kernel_rfl) ?_; conv => whnf) | (refine Ok.cond ?_; conv => whnf) | refine Ok.block ?_ | (refine Ok.skip ?_; conv => whnf) | (refine Ok.exit ?_; conv => whnf) | (refine Ok.ret ?_; conv => whnf) | (refine num_in (by omega) (by omega) ?_; conv => whnf) | (refine ix _ (by assumption) ?_; conv => whnf) | (refine ixI (by omega) (by assumption) ?_; conv => whnf) | (refine ix_new _ (by omega) fun _ _ => ?_; conv => whnf) | (refine ixI_new (by omega) (by omega) fun _ _ => ?_; conv => whnf) | (refine Or.inl ?_; (conv => whnf); (repeat (refine And.intro (by first | omega | (simp; done) | (simp; omega)) ?_; (conv => whnf))); refine ⟨_, prefixCount_at _ _ rfl, rfl, ?_⟩; conv => whnf) | (refine ⟨_, prefixCount_at _ _ rfl, rfl, ?_⟩; conv => whnf) | (refine Or.inr (Or.inl ?_); (conv => whnf); (repeat (refine And.intro (by first | omega | (simp; done) | (simp; omega)) ?_; (conv => whnf))); refine ⟨_, prefixCount_at _ _ rfl, ?_⟩; rintro _ _ ⟨rfl, rfl⟩; conv => whnf) | (refine rd rfl (by assumption) ?_; conv => whnf) | (refine ⟨_, .inl ⟨rfl, rfl⟩, ?_⟩; conv => whnf) | (refine ⟨_, _, rfl, rfl, ?_⟩; conv => whnf) | (refine ⟨fun _ => ?_, fun _ => ?_⟩ <;> (conv => whnf) <;> (try (exfalso; omega))) | (refine And.intro (by first | omega | rfl | (simp; done) | (simp; omega)) ?_; conv => whnf) | (refine num_any ?_; conv => whnf) | (refine ⟨_, rfl, ?_⟩; conv => whnf) | fail)
      all_goals first
        | contradiction
        | (rename_i hne; refine Or.inl ?_; (conv => whnf); exact b_eq ⟨fun h => h.elim, fun h => hne (by rw [(h.1 hp).2 x hxx])⟩)
        | (rename_i heq; refine ⟨k + 1, by omega, ⟨by omega, fun _ z hz => by
            rw [htk] at hz
            rcases List.mem_append.1 hz with hz | hz
            · exact ht hp z hz
            · simp at hz; subst hz; have := Classical.not_not.1 heq; omega, fun h => absurd hp h⟩, ?_⟩; (conv => whnf); (first | rfl | simp [envCat, List.take_of_length_le, SI.row, Node.row, Pfx.row, Link.row, srow, Line.row, Rule.row, Box.row, Slc.row, Ls.d]))
    · (try (conv => whnf)); repeat' (first | refine Ok.seq ?_ | (refine Ok.region tok ?_; conv => whnf) | (refine Ok.region_draw tok follows (by kernel_rfl) ?_; conv => whnf) | (refine Ok.cond ?_; conv => whnf) | refine Ok.block ?_ | (refine Ok.skip ?_; conv => whnf) | (refine Ok.exit ?_; conv => whnf) | (refine Ok.ret ?_; conv => whnf) | (refine num_in (by omega) (by omega) ?_; conv => whnf) | (refine ix _ (by assumption) ?_; conv => whnf) | (refine ixI (by omega) (by assumption) ?_; conv => whnf) | (refine ix_new _ (by omega) fun _ _ => ?_; conv => whnf) | (refine ixI_new (by omega) (by omega) fun _ _ => ?_; conv => whnf) | (refine rd rfl (by assumption) ?_; conv => whnf) | (refine ⟨_, .inl ⟨rfl, rfl⟩, ?_⟩; conv => whnf) | (refine ⟨_, _, rfl, rfl, ?_⟩; conv => whnf) | (refine ⟨fun _ => ?_, fun _ => ?_⟩ <;> (conv => whnf) <;> (try (exfalso; omega))) | (refine And.intro (by first | omega | rfl | (simp; done) | (simp; omega)) ?_; conv => whnf) | (refine num_any ?_; conv => whnf) | (refine ⟨_, rfl, ?_⟩; conv => whnf) | fail)
      all_goals try contradiction
      refine ⟨_, eqPfx, by kernel_rfl, ?_⟩
      (conv => whnf)
      (try (conv => whnf)); repeat' (first | refine Ok.seq ?_ | (refine Ok.region tok ?_; conv => whnf) | (refine Ok.region_draw tok follows (by kernel_rfl) ?_; conv => whnf) | (refine Ok.cond ?_; conv => whnf) | refine Ok.block ?_ | (refine Ok.skip ?_; conv => whnf) | (refine Ok.exit ?_; conv => whnf) | (refine Ok.ret ?_; conv => whnf) | (refine num_in (by omega) (by omega) ?_; conv => whnf) | (refine ix _ (by assumption) ?_; conv => whnf) | (refine ixI (by omega) (by assumption) ?_; conv => whnf) | (refine ix_new _ (by omega) fun _ _ => ?_; conv => whnf) | (refine ixI_new (by omega) (by omega) fun _ _ => ?_; conv => whnf) | (refine rd rfl (by assumption) ?_; conv => whnf) | (refine ⟨_, .inl ⟨rfl, rfl⟩, ?_⟩; conv => whnf) | (refine ⟨_, _, rfl, rfl, ?_⟩; conv => whnf) | (refine ⟨fun _ => ?_, fun _ => ?_⟩ <;> (conv => whnf) <;> (try (exfalso; omega))) | (refine And.intro (by first | omega | rfl | (simp; done) | (simp; omega)) ?_; conv => whnf) | (refine num_any ?_; conv => whnf) | (refine ⟨_, rfl, ?_⟩; conv => whnf) | fail)
      all_goals first
        | contradiction
        | (rename_i hne; refine Or.inl ?_; (conv => whnf); exact b_eq ⟨fun h => h.elim, fun h => hne ((Pfx.eqRow x y).2 (by have h2 := h.2 hp; subst h2; rw [hx] at hy; cases hy; rfl))⟩)
        | (rename_i heq; refine ⟨k + 1, by omega, ⟨by omega, fun h => absurd h hp, fun h => take_step hxm hym (hf hp) ((Pfx.eqRow x y).1 (Classical.not_not.1 heq))⟩, ?_⟩; (conv => whnf); (first | rfl | simp [envCat, List.take_of_length_le, SI.row, Node.row, Pfx.row, Link.row, srow, Line.row, Rule.row, Box.row, Slc.row, Ls.d]))
  · obtain rfl : k = a.length := by omega
    (try (conv => whnf)); repeat' (first | refine Ok.seq ?_ | (refine Ok.region tok ?_; conv => whnf) | (refine Ok.region_draw tok follows (by kernel_rfl) ?_; conv => whnf) | (refine Ok.cond ?_; conv => whnf) | refine Ok.block ?_ | (refine Ok.skip ?_; conv => whnf) | (refine Ok.exit ?_; conv => whnf) | (refine Ok.ret ?_; conv => whnf) | (refine num_in (by omega) (by omega) ?_; conv => whnf) | (refine ix _ (by assumption) ?_; conv => whnf) | (refine ixI (by omega) (by assumption) ?_; conv => whnf) | (refine ix_new _ (by omega) fun _ _ => ?_; conv => whnf) | (refine ixI_new (by omega) (by omega) fun _ _ => ?_; conv => whnf) | (refine rd rfl (by assumption) ?_; conv => whnf) | (refine ⟨_, .inl ⟨rfl, rfl⟩, ?_⟩; conv => whnf) | (refine ⟨_, _, rfl, rfl, ?_⟩; conv => whnf) | (refine ⟨fun _ => ?_, fun _ => ?_⟩ <;> (conv => whnf) <;> (try (exfalso; omega))) | (refine And.intro (by first | omega | rfl | (simp; done) | (simp; omega)) ?_; conv => whnf) | (refine num_any ?_; conv => whnf) | (refine ⟨_, rfl, ?_⟩; conv => whnf) | fail)
    refine Or.inl ?_; (conv => whnf)
    exact b_eq ⟨fun _ => ⟨fun hp => ⟨by omega, fun x hx => ht hp x (by rw [List.take_of_length_le (by omega)]; exact hx)⟩, fun hp => by
      have := hf hp
      rw [List.take_of_length_le (by omega), List.take_of_length_le (by omega)] at this
      exact this⟩, fun _ => trivial⟩
set_option maxRecDepth 100000 in
set_option maxHeartbeats 4000000 in
theorem eqLinks_at (p : Prop) (a b : List Link) {ra sa rb sb : List (List D)} (ha : ra = a.map Link.row) (hb : rb = b.map Link.row) : FSpec Try.prog T 51 [.lst 34 ra sa, .lst 34 rb sb, .b p] (fun d _ => d = .b (eqL p Eq a b)) := by
  subst ha hb
  refine FSpec.of_len Try.call51 0 rfl fun hlen => ?_
  have hal : (a.map Link.row).length = a.length := by simp
  have hbl : (b.map Link.row).length = b.length := by simp
  have hma : a.length = a.length := by simp
  have hmb : b.length = b.length := by simp
  refine FSpec.of_ok tok Try.func51 rfl Try.call51 (by simp) ?_
  (try (conv => whnf)); repeat' (first | refine Ok.seq ?_ | (refine Ok.region tok ?_; conv => whnf) | (refine Ok.region_draw tok follows (by kernel_rfl) ?_; conv => whnf) | (refine Ok.cond ?_; conv => whnf) | refine Ok.block ?_ | (refine Ok.skip ?_; conv => whnf) | (refine Ok.exit ?_; conv => whnf) | (refine Ok.ret ?_; conv => whnf) | (refine num_in (by omega) (by omega) ?_; conv => whnf) | (refine ix _ (by assumption) ?_; conv => whnf) | (refine ixI (by omega) (by assumption) ?_; conv => whnf) | (refine ix_new _ (by omega) fun _ _ => ?_; conv => whnf) | (refine ixI_new (by omega) (by omega) fun _ _ => ?_; conv => whnf) | (refine rd rfl (by assumption) ?_; conv => whnf) | (refine ⟨_, .inl ⟨rfl, rfl⟩, ?_⟩; conv => whnf) | (refine ⟨_, _, rfl, rfl, ?_⟩; conv => whnf) | (refine ⟨fun _ => ?_, fun _ => ?_⟩ <;> (conv => whnf) <;> (try (exfalso; omega))) | (refine And.intro (by first | omega | rfl | (simp; done) | (simp; omega)) ?_; conv => whnf) | (refine num_any ?_; conv => whnf) | (refine ⟨_, rfl, ?_⟩; conv => whnf) | fail)
  · rename_i h1
    refine Or.inl ?_; (conv => whnf)
    exact b_eq ⟨fun h => h.elim, fun h => by
      by_cases hp : p
      · have := (h.1 hp).1; omega
      · have := congrArg List.length (h.2 hp); omega⟩
  refine Ok.loopU [0, 1, 2] [7] 0 0 (fun (k : Nat) => [.i .i64 (k : Nat)]) (fun _ b => b) (fun _ r => r) (fun (k : Nat) => k ≤ a.length ∧ (p → ∀ x ∈ a.take k, cnt (fun y => Eq y x) a = cnt (fun y => Eq y x) b) ∧ (¬ p → a.take k = b.take k)) (fun (k : Nat) => a.length - k) (0) (⟨Nat.zero_le _, by simp, by simp⟩) ?_; (conv => whnf); refine ⟨by ((conv => whnf); first | rfl | (simp [envCat, List.take_of_length_le, SI.row, Node.row, Pfx.row, Link.row, srow, Line.row, Rule.row, Box.row, Slc.row, Ls.d]; done) | (simp [envCat, List.take_of_length_le, SI.row, Node.row, Pfx.row, Link.row, srow, Line.row, Rule.row, Box.row, Slc.row, Ls.d]; rw [IntKind.wrap_i64]; omega)), ?_⟩
  rintro k ⟨hk, ht, hf⟩
  by_cases hka : k < a.length
  · obtain ⟨x, hx⟩ : ∃ x, a[k]? = some x := ⟨_, List.getElem?_eq_getElem hka⟩
    obtain ⟨y, hy⟩ : ∃ x, b[k]? = some x := ⟨_, List.getElem?_eq_getElem (by omega)⟩
    have hxm : a[k]? = some x := by simp [hx]
    have hym : b[k]? = some y := by simp [hy]
    have htk : a.take (k + 1) = a.take k ++ [x] := by rw [List.take_add_one, hxm]; rfl
    have hxx : x ∈ a := List.mem_of_getElem? hxm
    by_cases hp : p
    · (try (conv => whnf)); repeat' (first | refine Ok.seq ?_ | (refine Ok.region tok ?_; conv => whnf) | (refine Ok.region_draw tok follows (by kernel_rfl) ?_; conv => whnf) | (refine Ok.cond ?_; conv => whnf) | refine Ok.block ?_ | (refine Ok.skip ?_; conv => whnf) | (refine Ok.exit ?_; conv => whnf) | (refine Ok.ret ?_; conv => whnf) | (refine num_in (by omega) (by omega) ?_; conv => whnf) | (refine ix _ (by assumption) ?_; conv => whnf) | (refine ixI (by omega) (by assumption) ?_; conv => whnf) | (refine ix_new _ (by omega) fun _ _ => ?_; conv => whnf) | (refine ixI_new (by omega) (by omega) fun _ _ => ?_; conv => whnf) | (refine Or.inl ?_; (conv => whnf); (repeat (refine And.intro (by first | omega | (simp; done) | (simp; omega)) ?_; (conv => whnf))); refine ⟨_, linkCount_at _ _ rfl, rfl, ?_⟩; conv => whnf) | (refine ⟨_, linkCount_at _ _ rfl, rfl, ?_⟩; conv => whnf) | (refine Or.inr (Or.inl ?_); (conv => whnf); (repeat (refine And.intro (by first | omega | (simp; done) | (simp; omega)) ?_; (conv => whnf))); refine ⟨_, linkCount_at _ _ rfl, ?_⟩; rintro _ _ ⟨rfl, rfl⟩; conv => whnf) | (refine rd rfl (by assumption) ?_; conv => whnf) | (refine ⟨_, .inl ⟨rfl, rfl⟩, ?_⟩; conv => whnf) | (refine ⟨_, _, rfl, rfl, ?_⟩; conv => whnf) | (refine ⟨fun _ => ?_, fun _ => ?_⟩ <;> (conv => whnf) <;> (try (exfalso; omega))) | (refine And.intro (by first | omega | rfl | (simp; done) | (simp; omega)) ?_; conv => whnf) | (refine num_any ?_; conv => whnf) | (refine ⟨_, rfl, ?_⟩; conv => whnf) | fail)
      all_goals first
        | contradiction
        | (rename_i hne; refine Or.inl ?_; (conv => whnf); exact b_eq ⟨fun h => h.elim, fun h => hne (by rw [(h.1 hp).2 x hxx])⟩)
        | (rename_i heq; refine ⟨k + 1, by omega, ⟨by omega, fun _ z hz => by
            rw [htk] at hz
            rcases List.mem_append.1 hz with hz | hz
            · exact ht hp z hz
            · simp at hz; subst hz; have := Classical.not_not.1 heq; omega, fun h => absurd hp h⟩, ?_⟩; (conv => whnf); (first | rfl | simp [envCat, List.take_of_length_le, SI.row, Node.row, Pfx.row, Link.row, srow, Line.row, Rule.row, Box.row, Slc.row, Ls.d]))
    · (try (conv => whnf)); repeat' (first | refine Ok.seq ?_ | (refine Ok.region tok ?_; conv => whnf) | (refine Ok.region_draw tok follows (by kernel_rfl) ?_; conv => whnf) | (refine Ok.cond ?_; conv => whnf) | refine Ok.block ?_ | (refine Ok.skip ?_; conv => whnf) | (refine Ok.exit ?_; conv => whnf) | (refine Ok.ret ?_; conv => whnf) | (refine num_in (by omega) (by omega) ?_; conv => whnf) | (refine ix _ (by assumption) ?_; conv => whnf) | (refine ixI (by omega) (by assumption) ?_; conv => whnf) | (refine ix_new _ (by omega) fun _ _ => ?_; conv => whnf) | (refine ixI_new (by omega) (by omega) fun _ _ => ?_; conv => whnf) | (refine rd rfl (by assumption) ?_; conv => whnf) | (refine ⟨_, .inl ⟨rfl, rfl⟩, ?_⟩; conv => whnf) | (refine ⟨_, _, rfl, rfl, ?_⟩; conv => whnf) | (refine ⟨fun _ => ?_, fun _ => ?_⟩ <;> (conv => whnf) <;> (try (exfalso; omega))) | (refine And.intro (by first | omega | rfl | (simp; done) | (simp; omega)) ?_; conv => whnf) | (refine num_any ?_; conv => whnf) | (refine ⟨_, rfl, ?_⟩; conv => whnf) | fail)
      all_goals try contradiction
      refine ⟨_, eqLink, by kernel_rfl, ?_⟩
      (conv => whnf)
      (try (conv => whnf)); repeat' (first | refine Ok.seq ?_ | (refine Ok.region tok ?_; conv => whnf) | (refine Ok.region_draw tok follows (by kernel_rfl) ?_; conv => whnf) | (refine Ok.cond ?_; conv => whnf) | refine Ok.block ?_ | (refine Ok.skip ?_; conv => whnf) | (refine Ok.exit ?_; conv => whnf) | (refine Ok.ret ?_; conv => whnf) | (refine num_in (by omega) (by omega) ?_; conv => whnf) | (refine ix _ (by assumption) ?_; conv => whnf) | (refine ixI (by omega) (by assumption) ?_; conv => whnf) | (refine ix_new _ (by omega) fun _ _ => ?_; conv => whnf) | (refine ixI_new (by omega) (by omega) fun _ _ => ?_; conv => whnf) | (refine rd rfl (by assumption) ?_; conv => whnf) | (refine ⟨_, .inl ⟨rfl, rfl⟩, ?_⟩; conv => whnf) | (refine ⟨_, _, rfl, rfl, ?_⟩; conv => whnf) | (refine ⟨fun _ => ?_, fun _ => ?_⟩ <;> (conv => whnf) <;> (try (exfalso; omega))) | (refine And.intro (by first | omega | rfl | (simp; done) | (simp; omega)) ?_; conv => whnf) | (refine num_any ?_; conv => whnf) | (refine ⟨_, rfl, ?_⟩; conv => whnf) | fail)
      all_goals first
        | contradiction
        | (rename_i hne; refine Or.inl ?_; (conv => whnf); exact b_eq ⟨fun h => h.elim, fun h => hne ((Link.eqRow x y).2 (by have h2 := h.2 hp; subst h2; rw [hx] at hy; cases hy; rfl))⟩)
        | (rename_i heq; refine ⟨k + 1, by omega, ⟨by omega, fun h => absurd h hp, fun h => take_step hxm hym (hf hp) ((Link.eqRow x y).1 (Classical.not_not.1 heq))⟩, ?_⟩; (conv => whnf); (first | rfl | simp [envCat, List.take_of_length_le, SI.row, Node.row, Pfx.row, Link.row, srow, Line.row, Rule.row, Box.row, Slc.row, Ls.d]))
  · obtain rfl : k = a.length := by omega
    (try (conv => whnf)); repeat' (first | refine Ok.seq ?_ | (refine Ok.region tok ?_; conv => whnf) | (refine Ok.region_draw tok follows (by kernel_rfl) ?_; conv => whnf) | (refine Ok.cond ?_; conv => whnf) | refine Ok.block ?_ | (refine Ok.skip ?_; conv => whnf) | (refine Ok.exit ?_; conv => whnf) | (refine Ok.ret ?_; conv => whnf) | (refine num_in (by omega) (by omega) ?_; conv => whnf) | (refine ix _ (by assumption) ?_; conv => whnf) | (refine ixI (by omega) (by assumption) ?_; conv => whnf) | (refine ix_new _ (by omega) fun _ _ => ?_; conv => whnf) | (refine ixI_new (by omega) (by omega) fun _ _ => ?_; conv => whnf) | (refine rd rfl (by assumption) ?_; conv => whnf) | (refine ⟨_, .inl ⟨rfl, rfl⟩, ?_⟩; conv => whnf) | (refine ⟨_, _, rfl, rfl, ?_⟩; conv => whnf) | (refine ⟨fun _ => ?_, fun _ => ?_⟩ <;> (conv => whnf) <;> (try (exfalso; omega))) | (refine And.intro (by first | omega | rfl | (simp; done) | (simp; omega)) ?_; conv => whnf) | (refine num_any ?_; conv => whnf) | (refine ⟨_, rfl, ?_⟩; conv => whnf) | fail)
    refine Or.inl ?_; (conv => whnf)
    exact b_eq ⟨fun _ => ⟨fun hp => ⟨by omega, fun x hx => ht hp x (by rw [List.take_of_length_le (by omega)]; exact hx)⟩, fun hp => by
      have := hf hp
      rw [List.take_of_length_le (by omega), List.take_of_length_le (by omega)] at this
      exact this⟩, fun _ => trivial⟩
end Go.Proofs.Ytkkmbgfhhcoehaa
