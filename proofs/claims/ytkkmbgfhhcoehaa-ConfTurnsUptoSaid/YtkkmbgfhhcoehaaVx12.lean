/- The plain-data machine, part 12: regions that draw their order and write. Nothing here speaks of one program. -/
import Derived.Test.YtkkmbgfhhcoehaaVx11
import Derived.OrdersHeld
namespace Go.Vx
open Go.RowKit

/-! ### Orders: operations taken first though others may come ahead -/
/-- i has come up wherever j may. -/
inductive Bef (ops : Array Oper) (i : Nat) : Nat → Prop
  | one {j : Nat} {o : Oper} {e : Edge} (h : ops[j]? = some o) (he : e ∈ o.after) (hb : Region.binds .any e = true) (hi : e.on = i) : Bef ops i j
  | more {j : Nat} {o : Oper} {e : Edge} (h : ops[j]? = some o) (he : e ∈ o.after) (hb : Region.binds .any e = true) (h2 : Bef ops i e.on) : Bef ops i j
def Closed (ops : Array Oper) (L : Array Bool) : Prop := ∀ (j : Nat) o, ops[j]? = some o → L.getD j false = true → ∀ e ∈ o.after, Region.binds .any e = true → L.getD e.on false = true
theorem Bef.listed {ops : Array Oper} {L : Array Bool} (hc : Closed ops L) {i j : Nat} (hb : Bef ops i j) :
    (∀ o, ops[j]? = some o → ∀ e ∈ o.after, Region.binds .any e = true → L.getD e.on false = true) → L.getD i false = true := by
  induction hb with
  | one h he hb hi => intro hj; rw [← hi]; exact hj _ h _ he hb
  | more h he hb h2 ih => intro hj; exact ih fun o' ho' e' he' hb' => hc _ o' ho' (hj _ h _ he hb) e' he' hb'

abbrev Pends := List (Nat × (World → Prop))
section
variable {P : Program} {ops : Array Oper} {bef : Nat → Nat → Bool} {Q : Exit → Act → World → Prop}
/-- Whatever order is picked from here on; what was taken first is kept till it must have come up. -/
def wpAnyP (P : Program) (ops : Array Oper) (bef : Nat → Nat → Bool) (Q : Exit → Act → World → Prop) : Nat → Pends → Array Bool → Act → World → Prop
  | 0, _, listed, a, w => Region.ready .any ops listed = [] ∧ Q .normal a w
  | fuel + 1, ps, listed, a, w =>
    (Region.ready .any ops listed = [] → Q .normal a w) ∧
    ∀ j ∈ Region.ready .any ops listed, wpOp P ops Q j (fun a' w' => (∀ x ∈ ps, bef x.1 j = false → x.2 w') ∧ wpAnyP P ops bef Q fuel (ps.filter fun x => !bef x.1 j) (listed.setIfInBounds j true) a' w') a w
theorem wpAny_of_P : ∀ (fuel : Nat) (ps : Pends) (listed : Array Bool) (a : Act) (w : World), wpAnyP P ops bef Q fuel ps listed a w → wpAny P .any ops Q fuel listed a w
  | 0, _, _, _, _, h => h
  | fuel + 1, _, _, _, _, h => ⟨h.1, fun i hi => wpOp_mono (fun a' w' h' => wpAny_of_P fuel _ _ a' w' h'.2) (h.2 i hi)⟩
theorem wpAnyP_sub : ∀ (fuel : Nat) (ps ps' : Pends) (listed : Array Bool) (a : Act) (w : World), (∀ x ∈ ps', x ∈ ps) → wpAnyP P ops bef Q fuel ps listed a w → wpAnyP P ops bef Q fuel ps' listed a w
  | 0, _, _, _, _, _, _, h => h
  | fuel + 1, ps, ps', _, _, _, hs, h => ⟨h.1, fun i hi => wpOp_mono (fun a' w' h' => ⟨fun x hx => h'.1 x (hs x hx), wpAnyP_sub fuel _ _ _ a' w' (fun x hx => by
      rw [List.mem_filter] at hx ⊢
      exact ⟨hs x hx.1, hx.2⟩) h'.2⟩) (h.2 i hi)⟩

theorem Closed.set {L : Array Bool} (h : Closed ops L) {j : Nat} (hj : j ∈ Region.ready .any ops L) : Closed ops (L.setIfInBounds j true) := by
  obtain ⟨_, o, ho, hall⟩ := mem_ready.1 hj
  intro k ok hk hl e he hb
  by_cases hkj : k = j
  · subst hkj
    rw [ho] at hk
    cases hk
    exact getD_set_true (hall e he hb)
  · rw [getD_set_ne false (Ne.symm hkj)] at hl
    exact getD_set_true (h k ok hk hl e he hb)

theorem wpAnyP_first {i : Nat} {oi : Oper} {v : Value} {C : World → Prop} (hbef : ∀ i j, bef i j = true → Bef ops i j) (hi : ops[i]? = some oi) (hsel : ∀ (j : Nat) (o : Oper) cs b, ops[j]? = some o → o.op ≠ .select cs b)
    (hQ : ∀ c a w, Q (.panic c) (a.put oi.dst v) w → Q (.panic c) a w) :
    ∀ (fuel : Nat) (ps : Pends) (listed : Array Bool) (a : Act) (w : World), Closed ops listed →
      (∀ j oj, ops[j]? = some oj → j ≠ i → listed.getD j true = false → (∀ e ∈ oj.after, Region.binds .any e = true → e.on ≠ i) → oi.apart ops oj = true) →
      i ∈ Region.ready .any ops listed → YieldsIf P ops C oi v a → C w → (∀ x ∈ ps, x.2 w) →
      wpAnyP P ops bef Q fuel ((i, C) :: ps) (listed.setIfInBounds i true) (a.put oi.dst v) w → wpAnyP P ops bef Q (fuel + 1) ps listed a w := by
  intro fuel
  induction fuel with
  | zero =>
    intro ps listed a w _ _ hr hy hC hps H
    refine ⟨fun h => (by rw [h] at hr; cases hr), fun j hj => ?_⟩
    by_cases hji : j = i
    · subst hji; exact hy.wpOp hi hC ⟨fun x hx _ => hps x hx, H⟩
    · have := ready_mono hj hji
      rw [H.1] at this
      cases this
  | succ fuel ih =>
    intro ps listed a w hcl hfree hr hy hC hps H
    refine ⟨fun h => (by rw [h] at hr; cases hr), fun j hj => ?_⟩
    by_cases hji : j = i
    · subst hji
      exact hy.wpOp hi hC ⟨fun x hx _ => hps x hx, wpAnyP_sub _ _ _ _ _ _ (fun x hx => List.mem_cons_of_mem _ (List.mem_filter.1 hx).1) H⟩
    · have h1 := H.2 j (ready_mono hj hji)
      obtain ⟨hjun, oj, hoj, hall⟩ := mem_ready.1 hj
      have hiun : listed.getD i false ≠ true := by
        have h0 := (mem_ready.1 hr).1
        intro h1
        rcases Nat.lt_or_ge i listed.size with h' | h'
        · simp [h'] at h0 h1; rw [h0] at h1; cases h1
        · simp [Array.getElem?_eq_none h'] at h1
      have hnot : ∀ e ∈ oj.after, Region.binds .any e = true → e.on ≠ i := fun e he hb heq => hiun (by rw [← heq]; exact hall e he hb)
      have hbij : bef i j = false := by
        cases hb : bef i j with
        | false => rfl
        | true => exact absurd ((hbef i j hb).listed hcl fun o ho e he hb => by rw [hoj] at ho; cases ho; exact hall e he hb) hiun
      have h2 := wpOp_putIf hoj (hfree j oj hoj hji hjun hnot) (fun cs b => hsel i oi cs b hi) (fun cs b => hsel j oj cs b hoj) hQ hy h1
      have hfree' : ∀ k ok, ops[k]? = some ok → k ≠ i → (listed.setIfInBounds j true).getD k true = false →
          (∀ e ∈ ok.after, Region.binds .any e = true → e.on ≠ i) → oi.apart ops ok = true := fun k ok hk hki hun hno => by
        refine hfree k ok hk hki ?_ hno
        by_cases hjk : j = k
        · subst hjk; exact hjun
        · rw [getD_set_ne true hjk] at hun; exact hun
      refine wpOp_mono (fun a' w' h3 => ?_) h2
      obtain ⟨hy', hK1, hK2⟩ := h3
      refine ⟨fun x hx => hK1 x (List.mem_cons_of_mem _ hx), ih _ _ a' w' (hcl.set hj) hfree' (ready_mono hr (Ne.symm hji)) hy' (hK1 (i, C) (List.mem_cons_self ..) hbij) (fun x hx => ?_) ?_⟩
      · obtain ⟨hx1, hx2⟩ := List.mem_filter.1 hx
        exact hK1 x (List.mem_cons_of_mem _ hx1) (by simpa using hx2)
      · rw [Array.setIfInBounds_comm _ _ hji]
        rw [List.filter_cons_of_pos (by simp [hbij])] at hK2
        exact hK2
end

/-! ### A plan: which is taken first, and where one alone may come up -/
inductive Mv where | q (i : Nat) | l (i : Nat)
def isQ (o : Oper) : Bool := match o.op with
  | .call { callee := .builtin .len, args := _, argTypes := _ } => true
  | .move _ | .assign _ | .pick _ _ _ | .load _ _ | .nilCheck _ | .binOp _ _ _ _ _ | .unOp _ _ _ | .convert _ _ _ | .slice _ _ _ _ _ | .fieldAddr _ _ _ | .field _ _ _ | .indexAddr _ _ _ | .index _ _ _ | .extract _ _ | .build _ _ | .makeFunc _ _ _ => true
  | _ => false
def planB (ops : Array Oper) : List Mv → Array Bool → Bool
  | [], listed => (Region.ready .any ops listed).isEmpty
  | .q i :: r, listed => (Region.ready .any ops listed).contains i && Region.free .any ops listed i && ((ops[i]?).map isQ).getD false && planB ops r (listed.setIfInBounds i true)
  | .l i :: r, listed => (Region.ready .any ops listed) == [i] && planB ops r (listed.setIfInBounds i true)
/-- Ways by which one waits for another: (one, other, what lies between). -/
abbrev Waits := List (Nat × Nat × List Nat)
def edgeB (ops : Array Oper) (j i : Nat) : Bool := match ops[j]? with | some o => o.after.any fun e => Region.binds .any e && e.on == i | none => false
def pathB (ops : Array Oper) (i : Nat) : Nat → List Nat → Bool
  | j, [] => edgeB ops j i
  | j, k :: r => edgeB ops j k && pathB ops i k r
def waitsB (ops : Array Oper) (A : Waits) : Bool := A.all fun x => pathB ops x.1 x.2.1 x.2.2
def befW : Waits → Nat → Nat → Bool
  | [], _, _ => false
  | (a, b, _) :: r, i, j => match Nat.beq a i && Nat.beq b j with | true => true | false => befW r i j
def planOk (ops : Array Oper) (A : Waits) (mvs : List Mv) : Bool :=
  Region.noSelect ops && waitsB ops A && (mvs.length == ops.size) && planB ops mvs (Array.replicate ops.size false)

theorem edgeB_spec {ops : Array Oper} {i j : Nat} (h : edgeB ops j i = true) : ∃ o, ops[j]? = some o ∧ ∃ e ∈ o.after, Region.binds .any e = true ∧ e.on = i := by
  unfold edgeB at h
  split at h
  · rename_i o ho
    obtain ⟨e, he, hb⟩ := Array.any_eq_true'.1 h
    simp only [Bool.and_eq_true, beq_iff_eq] at hb
    exact ⟨o, ho, e, he, hb.1, hb.2⟩
  · cases h
theorem pathB_spec {ops : Array Oper} {i : Nat} : ∀ (l : List Nat) (j : Nat), pathB ops i j l = true → Bef ops i j
  | [], j, h => by
    obtain ⟨o, ho, e, he, hb, hi⟩ := edgeB_spec h
    exact .one ho he hb hi
  | k :: r, j, h => by
    simp only [pathB, Bool.and_eq_true] at h
    obtain ⟨o, ho, e, he, hb, hi⟩ := edgeB_spec h.1
    exact .more ho he hb (by rw [hi]; exact pathB_spec r k h.2)
theorem befW_spec {ops : Array Oper} : ∀ {A : Waits}, waitsB ops A = true → ∀ i j, befW A i j = true → Bef ops i j
  | [], _, i, j, h => by cases h
  | (a, b, l) :: r, hw, i, j, h => by
    simp only [waitsB, List.all_cons, Bool.and_eq_true] at hw
    simp only [befW] at h
    split at h
    · rename_i hb
      rw [Bool.and_eq_true] at hb
      have h1 := beq_nat_true hb.1
      have h2 := beq_nat_true hb.2
      subst h1 h2
      exact pathB_spec l _ hw.1
    · exact befW_spec (A := r) hw.2 i j h

/-! ### The walk by a plan -/
def ownK (row : Rows) (r : Nat) (p : Prop) : Prop := match row[r]? with | some (some _) => p | _ => False
def apartK (s : St) (E : Src) (x : Src) (p : Prop) : Prop :=
  match x with
  | .none => p
  | .box a => match E with | .box b => (match Nat.beq a b with | true => False | false => p) | _ => p
  | .row a => ownK s.row a <| match E with | .row b => (match Nat.beq a b with | true => False | false => p) | _ => p
def clearP (bef : Nat → Nat → Bool) (i : Nat) (s : St) (E : Src) : List (Nat × Src) → Prop → Prop
  | [], p => p
  | (k, x) :: r, p => match bef k i with | true => clearP bef i s E r p | false => apartK s E x (clearP bef i s E r p)
def clearK (bef : Nat → Nat → Bool) (i : Nat) (s : St) (E : Src) (ps : List (Nat × Src)) (p : Prop) : Prop :=
  match E with
  | .row b => ownK s.row b (clearP bef i s E ps p)
  | _ => clearP bef i s E ps p
def filterP (bef : Nat → Nat → Bool) (i : Nat) : List (Nat × Src) → List (Nat × Src)
  | [] => []
  | (k, x) :: r => match bef k i with | true => filterP bef i r | false => (k, x) :: filterP bef i r
/-- An operation in such a region. -/
def dop (P : Program) (T : Tab) (s : St) (o : Oper) (K : D → St → Prop) : Prop :=
  match o.op with
  | .call { callee := .value (.func f), args, argTypes } =>
    qop P T s o K ∨ (pubsK 8 s (s.gets args.toList) fun ds s => exposN T argTypes.toList ds fun ds => ∃ R, FSpec P T f ds R ∧ ∀ d rows, R d rows → (match s with
      | ⟨env, box, row, n⟩ => shiftD row.length d fun d => catK row rows fun row => K d ⟨env, box, row, n⟩)) ∨ exposeK P T s f argTypes.toList (s.gets args.toList) K
  | .call { callee := .value _, args := _, argTypes := _ } => qop P T s o K
  | _ => vop P T s o K
def dops (P : Program) (T : Tab) (ops : List Oper) (A : Waits) : List Mv → List (Nat × Src) → St → (St → Prop) → Prop
  | [], _, s, K => K s
  | .q i :: r, ps, s, K => match ops[i]? with
    | none => False
    | some o => wantK ops s o.guard
      (fun s => qop P T s o fun d s' => putK s' o.dst d fun s' => dops P T ops A r ((i, srcQ s o) :: ps) s' K)
      (fun s => putK s o.dst (.tup []) fun s => dops P T ops A r ((i, .none) :: ps) s K)
  | .l i :: r, ps, s, K => match ops[i]? with
    | none => False
    | some o => wantK ops s o.guard
      (fun s => clearK (befW A) i s (effOf s o) ps <| dop P T s o fun d s => putK s o.dst d fun s => dops P T ops A r (filterP (befW A) i ps) s K)
      (fun s => putK s o.dst (.tup []) fun s => dops P T ops A r (filterP (befW A) i ps) s K)

section
variable {w0 w w' : World} {V0 : Fr} {V : Vw} {μ : List Nat} {ω : List Value} {s : St} {a : Act} {P : Program} {T : Tab}

theorem quiet_value {o : Oper} {C : World → Prop} {v : Value} (hq : isQ o = true) (h : o.quietAt P a C w v) : (execOp a.eval o).run P w = .ok (.value v) w := by
  have key : ∀ n w', (execOp a.eval o).run P w = .ok n w' → ∃ u, n = .value u := by
    intro n w' he
    obtain ⟨dst, op, type, pos, after, guard⟩ := o
    have lift : ∀ x : Sem Value, (Sem.run P (do pure (.value (← x)) : Sem Next) w) = .ok n w' → ∃ u, n = .value u := by
      intro x hx
      simp only [Sem.run_bind, Sem.run_pure] at hx
      cases hr : x.run P w with
      | ok u w1 => rw [hr] at hx; simp only [Result.andThen_ok, Result.ok.injEq] at hx; exact ⟨u, hx.1.symm⟩
      | halt y w1 => rw [hr] at hx; simp at hx
    cases op <;> first | (cases hq; done) | exact lift _ he | skip
    case move x => simp only [execOp, Sem.run_pure, Result.ok.injEq] at he; exact ⟨_, he.1.symm⟩
    case assign x => simp only [execOp, Sem.run_pure, Result.ok.injEq] at he; exact ⟨_, he.1.symm⟩
    case pick c x y =>
      simp only [execOp, Sem.run_bind, Sem.run_pure] at he
      cases hr : (asBool (a.eval c)).run P w with
      | ok u w1 => rw [hr] at he; simp only [Result.andThen_ok, Result.ok.injEq] at he; exact ⟨_, he.1.symm⟩
      | halt y w1 => rw [hr] at he; simp at he
    case nilCheck x =>
      have pn : ∀ w1, (runtimePanic RuntimeError.nilDeref : Sem Next).run P w1 = .ok n w' → ∃ u, n = .value u := by
        intro w1 h1
        simp [runtimePanic, goPanic] at h1
      have bnd : ∀ {β : Type} (y : Sem β) (k : β → Sem Next) w1, (∀ u w2, (k u).run P w2 = .ok n w' → ∃ u, n = .value u) → (y >>= k).run P w1 = .ok n w' → ∃ u, n = .value u := by
        intro β y k w1 hk h1
        rw [Sem.run_bind] at h1
        cases hr : y.run P w1 with
        | ok u w2 => rw [hr] at h1; simp only [Result.andThen_ok] at h1; exact hk _ _ h1
        | halt y w2 => rw [hr] at h1; simp at h1
      have pv : ∀ (u : Value) w1, (pure (.value u) : Sem Next).run P w1 = .ok n w' → ∃ u, n = .value u := by
        intro u w1 h1
        simp only [Sem.run_pure, Result.ok.injEq] at h1
        exact ⟨_, h1.1.symm⟩
      simp only [execOp] at he
      split at he <;> first | exact pn _ he | exact pv _ _ he | skip
      split at he <;> first | exact pn _ he | exact pv _ _ he | skip
      refine bnd _ _ _ (fun u w2 h1 => ?_) he
      refine bnd _ _ _ (fun u w2 h1 => ?_) h1
      split at h1
      · exact bnd _ _ _ (fun u w2 h1 => pv _ _ h1) h1
      · exact pv _ _ h1
    case call c =>
      obtain ⟨callee, args, argTypes⟩ := c
      cases callee with
      | value f => cases hq
      | invoke f m => cases hq
      | builtin b =>
        cases b <;> first | (cases hq; done) | skip
        simp only [execOp, resolve, Sem.run_bind, Sem.run_pure, Result.andThen_ok, invoke, builtin] at he
        exact lift _ (by simpa only [Sem.run_bind, Sem.run_pure] using he)
  unfold Oper.quietAt at h
  cases hr : (execOp a.eval o).run P w with
  | ok n w' =>
    rw [hr] at h
    obtain ⟨u, rfl⟩ := key n w' hr
    obtain ⟨rfl, rfl⟩ := h
    rfl
  | halt x w' => rw [hr] at h; exact h.elim

/-- .. and what it leaves, calls too. -/
def VokS (P : Program) (T : Tab) (w0 : World) (V0 : Fr) (E : Src) (V : Vw) (μ : List Nat) (ω : List Value) (a : Act) (w : World) (o : Oper) (K : D → St → Prop) : Prop :=
  ∀ (next : Act → World → Prop) (Q : Exit → Act → World → Prop),
    (∀ d v s V' μ' ω' w', K d s → RS (szOf T) V' μ' ω' v d → Sim (szOf T) w0 V0 V' μ' ω' s a w' → Step E V μ ω w V' μ' ω' w' → next (a.put o.dst v) w') → o.wp P a w next Q

theorem VokS.of_qop {E : Src} (hT : TOk P T) (hS : Sim (szOf T) w0 V0 V μ ω s a w) {o : Oper} {K : D → St → Prop} (h : qop P T s o K) : VokS P T w0 V0 E V μ ω a w o K := by
  intro next Q hn
  obtain ⟨d, v, s', hk, hr, hS', _, _, _, hq⟩ := qop_sound hT hS h
  exact Oper.wp_of_quiet (C := Ext w) (K := fun a' => ∀ w', Ext w w' → next a' w') (Ext.refl w) (fun a' w' he h => h w' he) ⟨v, fun w' he => hq w' (QR.ext he), fun w' he => hn d v s' V μ ω w' hk hr (hS'.ext he) (.ext (fun _ _ h => h) (.refl _) (.refl _) he)⟩

theorem dop_sound (hT : TOk P T) (hS : Sim (szOf T) w0 V0 V μ ω s a w) {o : Oper} {K : D → St → Prop} (h : dop P T s o K) : VokS P T w0 V0 (effOf s o) V μ ω a w o K := by
  have plain : isCallV o = false → vop P T s o K → VokS P T w0 V0 (effOf s o) V μ ω a w o K := fun hc hv next Q hn =>
    vop_sound hT hS hv next Q fun d v s' V' μ' ω' w' hk hr hS' hst => hn d v s' V' μ' ω' w' hk hr hS' (hst hc)
  obtain ⟨dst, op, type, pos, after, guard⟩ := o
  cases op
  case call c =>
    obtain ⟨callee, args, argTypes⟩ := c
    cases callee with
    | invoke r m => exact plain rfl h
    | builtin b => exact plain rfl h
    | value f =>
      cases f <;> first | exact .of_qop hT hS h | skip
      rename_i f
      simp only [dop] at h
      rcases h with h | h | h
      · exact .of_qop hT hS h
      case inr.inr =>
        obtain ⟨hrun, h⟩ := exposeK_sound (dst := dst) (type := type) (pos := pos) (after := after) (guard := guard) hS h
        intro next Q hn
        unfold Oper.wp
        rw [hrun]
        show Calls P f (args.map a.eval) w _
        refine h.mono ?_
        rintro e w'' ⟨v, d, s', V', ω', rfl, hk, hr, hS', hle, hpre, hb⟩
        exact hn d v s' V' μ ω' w'' hk hr hS' (.ext hle (.refl _) hpre hb)
      obtain ⟨V1, ds1, s1, h, hv1, hS1, hle1⟩ := pubsK_sound 8 hS (hS.gets _) h
      obtain ⟨es, ⟨R, hf, h⟩, hes, hri⟩ := exposN_sound argTypes.toList ds1 _ _ hv1 h
      obtain ⟨env, box, row, n⟩ := s1
      intro next Q hn
      have hcalls := hf.run V1 w (args.map a.eval) hS1.mem.vok (by have := hv1.1; simp at this ⊢; omega) (fun j v d h1 h2 => hri j v d (by simpa using h1) h2)
      unfold Oper.wp
      have hrun : (execOp a.eval ⟨dst, .call ⟨.value (.func f), args, argTypes⟩, type, pos, after, guard⟩).run P w = .ok (.enter f (args.map a.eval)) w := by
        simp only [execOp, resolve, Act.eval, Deferred.ofValue, invoke, Sem.run_bind, Sem.run_pure, Result.andThen_ok]
        rw [show (#[] ++ args.map a.eval) ++ #[] = args.map a.eval by simp, hf.call]
      rw [hrun]
      show Calls P f (args.map a.eval) w _
      refine hcalls.mono ?_
      rintro e w'' ⟨V', ω0, row0, v, d, rfl, hR, hrs, hres⟩
      have hM := hS1.mem.call hres
      have hk := h d row0 hR
      have hl : row.length = ω.length := hS1.mem.rl.symm
      dsimp only at hk
      rw [hl] at hk
      obtain ⟨d', hk, hr⟩ := shiftD_sound (μ := μ) (V' := V') (ω' := ω ++ ω0) (VLe.refl V') (fun r u hu => by rw [List.getElem?_append_right (by omega), Nat.add_sub_cancel]; exact hu) hrs hk
      rw [catK_eq] at hk
      exact hn d' v _ V' μ (ω ++ ω0) w'' hk hr ⟨hS1.tmps, hS1.defers, fun t => (hS1.env t).mono hres.le (.refl μ) (.append _ _), hM⟩
        (.ext (fun p u hp => hres.le p u (hle1 p u hp)) (.refl _) (.append _ _) hres.below)
  all_goals exact plain rfl h

/-- What is kept of an operation that was taken first. -/
def PendOK (V : Vw) (μ : List Nat) (ω : List Value) (w : World) (x : Nat × (World → Prop)) (y : Nat × Src) : Prop :=
  x.1 = y.1 ∧ ∃ p n wi, x.2 = KeepN p n wi ∧ SrcP V μ ω y.2 p n ∧ KeepN p n wi w

theorem ownK_iff {row : Rows} {r : Nat} {p : Prop} (h : ownK row r p) : (∃ x, row[r]? = some (some x)) ∧ p := by
  unfold ownK at h
  split at h
  · rename_i x hx; exact ⟨⟨x, hx⟩, h⟩
  · exact h.elim

/-- Apart from what is written: it stays. -/
theorem PendOK.step (hM : Mem (szOf T) w0 V0 V μ ω s.box s.row w) {E : Src} (hE : ∀ b, E = .row b → ∃ x, s.row[b]? = some (some x)) {x : Nat × (World → Prop)} {y : Nat × Src} (h : PendOK V μ ω w x y) {q : Prop} (ha : apartK s E y.2 q)
    {V' : Vw} {μ' : List Nat} {ω' : List Value} {w' : World} (hst : Step E V μ ω w V' μ' ω' w') : PendOK V' μ' ω' w' x y ∧ q := by
  obtain ⟨he, p, n, wi, hx, hsrc, hk⟩ := h
  obtain ⟨k, src⟩ := y
  have own : ∀ g, Hit μ ω E g → ∃ l, Own μ ω s.row l g ∧ (match E with | .none => False | .box b => l = .inl b | .row b => l = .inr b) := by
    intro g hg
    cases E with
    | none => exact hg.elim
    | box b => exact ⟨.inl b, hg, rfl⟩
    | row b =>
      obtain ⟨v, h1, h2⟩ := hg
      obtain ⟨z, hz⟩ := hE b rfl
      exact ⟨.inr b, ⟨v, z, h1, hz, h2⟩, rfl⟩
  have keep : (∀ j, j < n → ¬ Hit μ ω E (p.add j).block) → KeepN p n wi w' := fun hn j v hj hc => hst.foot _ _ (hk j v hj hc) (hn j hj)
  cases src with
  | none =>
    refine ⟨⟨he, p, n, wi, hx, fun j hj => ?_, keep fun j hj hh => ?_⟩, ha⟩
    · obtain ⟨v, hv⟩ := hsrc j hj
      exact ⟨v, hst.vle _ _ hv⟩
    · obtain ⟨v, hv⟩ := hsrc j hj
      obtain ⟨l, hl, _⟩ := own _ hh
      exact hM.vmut _ v l hv hl
  | box b =>
    have hq : q ∧ ∀ c, E = .box c → b ≠ c := by
      simp only [apartK] at ha
      cases E with
      | none => exact ⟨ha, by simp⟩
      | row c => exact ⟨ha, by simp⟩
      | box c =>
        dsimp only at ha
        cases hb : Nat.beq b c with
        | true => rw [hb] at ha; exact ha.elim
        | false => rw [hb] at ha; exact ⟨ha, fun c' hc' => by cases hc'; rintro rfl; rw [Nat.beq_refl] at hb; cases hb⟩
    refine ⟨⟨he, p, n, wi, hx, hst.pre _ _ hsrc, keep fun j hj hh => ?_⟩, hq.1⟩
    obtain ⟨l, hl, hlE⟩ := own _ hh
    rw [add_block] at hl
    have := hM.uniq (.inl b) l _ hsrc hl
    cases E with
    | none => exact hlE
    | box c => subst hlE; simp at this; exact hq.2 c rfl this
    | row c => subst hlE; simp at this
  | row b =>
    have hq : (∃ z, s.row[b]? = some (some z)) ∧ q ∧ ∀ c, E = .row c → b ≠ c := by
      simp only [apartK] at ha
      obtain ⟨hz, ha⟩ := ownK_iff ha
      refine ⟨hz, ?_⟩
      cases E with
      | none => exact ⟨ha, by simp⟩
      | box c => exact ⟨ha, by simp⟩
      | row c =>
        dsimp only at ha
        cases hb : Nat.beq b c with
        | true => rw [hb] at ha; exact ha.elim
        | false => rw [hb] at ha; exact ⟨ha, fun c' hc' => by cases hc'; rintro rfl; rw [Nat.beq_refl] at hb; cases hb⟩
    obtain ⟨⟨z, hz⟩, hq1, hq2⟩ := hq
    obtain ⟨v, hv, hvb⟩ := hsrc
    refine ⟨⟨he, p, n, wi, hx, ⟨v, hst.row b v (fun e => hq2 b e rfl) hv, hvb⟩, keep fun j hj hh => ?_⟩, hq1⟩
    obtain ⟨l, hl, hlE⟩ := own _ hh
    rw [add_block] at hl
    have := hM.uniq (.inr b) l _ ⟨v, z, hv, hz, hvb⟩ hl
    cases E with
    | none => exact hlE
    | box c => subst hlE; simp at this
    | row c => subst hlE; simp at this; exact hq2 c rfl this

theorem PendOK.mono_ {x : Nat × (World → Prop)} {y : Nat × Src} (h : PendOK V μ ω w x y) : x.2 w := by
  obtain ⟨_, p, n, wi, hx, _, hk⟩ := h
  rw [hx]
  exact hk

inductive All2 {α β : Type} (R : α → β → Prop) : List α → List β → Prop
  | nil : All2 R [] []
  | cons {a b l m} (h : R a b) (t : All2 R l m) : All2 R (a :: l) (b :: m)
theorem All2.left {α β : Type} {R : α → β → Prop} {l : List α} {m : List β} (h : All2 R l m) : ∀ x ∈ l, ∃ y, R x y := by
  induction h with
  | nil => intro x hx; cases hx
  | cons h t ih =>
    intro x hx
    rcases List.mem_cons.1 hx with rfl | hx
    · exact ⟨_, h⟩
    · exact ih x hx

/-- All that may still come up stays. -/
theorem clearP_step (hM : Mem (szOf T) w0 V0 V μ ω s.box s.row w) {E : Src} (hE : ∀ b, E = .row b → ∃ x, s.row[b]? = some (some x)) {bef : Nat → Nat → Bool} {i : Nat} {ps : Pends} {sps : List (Nat × Src)} (h : All2 (PendOK V μ ω w) ps sps) :
    ∀ {q : Prop}, clearP bef i s E sps q → q ∧ ∀ V' μ' ω' w', Step E V μ ω w V' μ' ω' w' →
      (∀ x ∈ ps, bef x.1 i = false → x.2 w') ∧ All2 (PendOK V' μ' ω' w') (ps.filter fun x => !bef x.1 i) (filterP bef i sps) := by
  induction h with
  | nil => intro q h; exact ⟨h, fun V' μ' ω' w' _ => ⟨by simp, .nil⟩⟩
  | @cons x y ps sps hxy _ ih =>
    intro q h
    obtain ⟨k, src⟩ := y
    have hk : x.1 = k := hxy.1
    simp only [clearP] at h
    cases hb : bef k i with
    | true =>
      rw [hb] at h
      obtain ⟨hq, hs⟩ := ih h
      refine ⟨hq, fun V' μ' ω' w' hst => ?_⟩
      obtain ⟨h1, h2⟩ := hs V' μ' ω' w' hst
      refine ⟨fun z hz hzb => ?_, ?_⟩
      · rcases List.mem_cons.1 hz with rfl | hz
        · rw [hk, hb] at hzb; cases hzb
        · exact h1 z hz hzb
      · rw [List.filter_cons_of_neg (by simp [hk, hb])]
        simp only [filterP, hb]
        exact h2
    | false =>
      rw [hb] at h
      have hq0 : (clearP bef i s E sps q) := by
        simp only [apartK, ownK] at h
        cases src with
        | none => exact h
        | box b => cases E with
          | box c => dsimp only at h; split at h; exact h.elim; exact h
          | _ => exact h
        | row b =>
          dsimp only at h
          split at h
          case h_2 => exact h.elim
          cases E with
          | row c => dsimp only at h; split at h; exact h.elim; exact h
          | _ => exact h
      obtain ⟨hq, hs⟩ := ih hq0
      refine ⟨hq, fun V' μ' ω' w' hst => ?_⟩
      obtain ⟨h1, h2⟩ := hs V' μ' ω' w' hst
      have hp := (hxy.step hM hE h hst).1
      refine ⟨fun z hz hzb => ?_, ?_⟩
      · rcases List.mem_cons.1 hz with rfl | hz
        · exact hp.mono_
        · exact h1 z hz hzb
      · rw [List.filter_cons_of_pos (by simp [hk, hb])]
        simp only [filterP, hb]
        exact .cons hp h2

theorem clearK_step (hM : Mem (szOf T) w0 V0 V μ ω s.box s.row w) {E : Src} {bef : Nat → Nat → Bool} {i : Nat} {ps : Pends} {sps : List (Nat × Src)} (h : All2 (PendOK V μ ω w) ps sps)
    {q : Prop} (hc : clearK bef i s E sps q) : q ∧ ∀ V' μ' ω' w', Step E V μ ω w V' μ' ω' w' →
      (∀ x ∈ ps, bef x.1 i = false → x.2 w') ∧ All2 (PendOK V' μ' ω' w') (ps.filter fun x => !bef x.1 i) (filterP bef i sps) := by
  unfold clearK at hc
  cases E with
  | row b =>
    obtain ⟨hz, hc⟩ := ownK_iff hc
    exact clearP_step hM (fun c hc => by cases hc; exact hz) h hc
  | none => exact clearP_step hM (fun c hc => by cases hc) h hc
  | box b => exact clearP_step hM (fun c hc => by cases hc) h hc

theorem All2.filter {bef : Nat → Nat → Bool} {i : Nat} {R : Nat × (World → Prop) → Nat × Src → Prop} (hR : ∀ x y, R x y → x.1 = y.1) {ps : Pends} {sps : List (Nat × Src)} (h : All2 R ps sps) :
    All2 R (ps.filter fun x => !bef x.1 i) (filterP bef i sps) := by
  induction h with
  | nil => exact .nil
  | @cons x y ps sps hxy _ ih =>
    obtain ⟨k, src⟩ := y
    have hk : x.1 = k := hR _ _ hxy
    simp only [filterP]
    cases hb : bef k i with
    | true => rw [List.filter_cons_of_neg (by simp [hk, hb])]; exact ih
    | false => rw [List.filter_cons_of_pos (by simp [hk, hb])]; exact .cons hxy ih

theorem dops_sound (hT : TOk P T) {ops : List Oper} {A : Waits} (hns : Region.noSelect ops.toArray = true) (hA : waitsB ops.toArray A = true) {Q : Exit → Act → World → Prop} (hQ : ∀ c a w, ¬ Q (.panic c) a w) :
    ∀ (mvs : List Mv) (listed : Array Bool) (ps : Pends) (sps : List (Nat × Src)) (s : St) (V : Vw) (μ : List Nat) (ω : List Value) (a : Act) (w : World) (K : St → Prop),
      planB ops.toArray mvs listed = true → Closed ops.toArray listed → Sim (szOf T) w0 V0 V μ ω s a w → All2 (PendOK V μ ω w) ps sps → dops P T ops A mvs sps s K →
      (∀ s V μ ω a w, K s → Sim (szOf T) w0 V0 V μ ω s a w → Q .normal a w) → wpAnyP P ops.toArray (befW A) Q mvs.length ps listed a w
  | [], listed, ps, sps, s, V, μ, ω, a, w, K, hB, hcl, hS, hps, h, hq => ⟨by simpa [planB] using hB, hq _ _ _ _ _ _ h hS⟩
  | .q i :: r, listed, ps, sps, s, V, μ, ω, a, w, K, hB, hcl, hS, hps, h, hq => by
    simp only [planB, Bool.and_eq_true] at hB
    obtain ⟨⟨⟨hr, hf⟩, hq1⟩, hB⟩ := hB
    simp only [dops] at h
    cases ho : ops[i]? with
    | none => rw [ho] at h; exact h.elim
    | some o =>
      rw [ho] at h
      dsimp only at h
      have ho' : ops.toArray[i]? = some o := by simpa using ho
      rw [ho'] at hq1
      have hri : i ∈ Region.ready .any ops.toArray listed := by simpa using hr
      have hall : ∀ x ∈ ps, x.2 w := fun x hx => let ⟨y, hy⟩ := hps.left x hx; hy.mono_
      rcases wantK_sound (o := o) hS h with ⟨hw, s1, h, hS⟩ | ⟨hw, s1, h, hS⟩
      · obtain ⟨d, v, s2, h, hr2, hS2, p, n, hsrc, hq2⟩ := qop_sound hT hS h
        obtain ⟨s3, h, hS3⟩ := putK_sound hS2 hr2 h
        refine wpAnyP_first (C := KeepN p n w) (v := v) (fun i j => befW_spec hA i j) ho' (Region.noSelect_spec hns) (fun c a w hc => absurd hc (hQ _ _ _)) r.length ps listed a w hcl (Region.free_spec ho' hf) hri
          (.inl ⟨hw, fun w' hk => quiet_value (by simpa using hq1) (hq2 w' ?_)⟩) (fun _ _ _ h => h) hall ?_
        · unfold QR
          split
          · exact hk
          · rename_i heq; simp [isQ, heq] at hq1
          · trivial
        · exact dops_sound hT hns hA hQ r _ _ _ s3 V μ ω _ w K hB (hcl.set hri) hS3 (.cons ⟨rfl, p, n, w, rfl, hsrc, fun _ _ _ h => h⟩ hps) h hq
      · obtain ⟨s3, h, hS3⟩ := putK_sound hS (v := undef) (d := .tup []) (RS.tup [] #[] rfl (fun j v d h => by simp at h)) h
        refine wpAnyP_first (C := KeepN ⟨0, 0, none⟩ 0 w) (v := undef) (fun i j => befW_spec hA i j) ho' (Region.noSelect_spec hns) (fun c a w hc => absurd hc (hQ _ _ _)) r.length ps listed a w hcl (Region.free_spec ho' hf) hri
          (.inr ⟨hw, rfl⟩) (fun _ _ _ h => h) hall ?_
        exact dops_sound hT hns hA hQ r _ _ _ s3 V μ ω _ w K hB (hcl.set hri) hS3 (.cons ⟨rfl, ⟨0, 0, none⟩, 0, w, rfl, SrcP.zero _, fun _ _ _ h => h⟩ hps) h hq
  | .l i :: r, listed, ps, sps, s, V, μ, ω, a, w, K, hB, hcl, hS, hps, h, hq => by
    simp only [planB, Bool.and_eq_true, beq_iff_eq] at hB
    obtain ⟨hr, hB⟩ := hB
    simp only [dops] at h
    cases ho : ops[i]? with
    | none => rw [ho] at h; exact h.elim
    | some o =>
      rw [ho] at h
      dsimp only at h
      have ho' : ops.toArray[i]? = some o := by simpa using ho
      have hri : i ∈ Region.ready .any ops.toArray listed := by rw [hr]; simp
      refine ⟨fun h0 => (by rw [hr] at h0; cases h0), fun j hj => ?_⟩
      rw [hr] at hj
      have hji : j = i := by simpa using hj
      subst hji
      unfold wpOp
      rw [ho']
      dsimp only
      rcases wantK_sound (o := o) hS h with ⟨hw, s1, h, hS⟩ | ⟨hw, s1, h, hS⟩
      · rw [if_pos hw]
        obtain ⟨h, hst⟩ := clearK_step hS.mem hps h
        refine .inl (dop_sound hT hS h _ _ fun d v s2 V2 μ2 ω2 w2 hk hr2 hS2 hstep => ?_)
        obtain ⟨h1, h2⟩ := hst _ _ _ _ hstep
        obtain ⟨s3, h, hS3⟩ := putK_sound hS2 hr2 hk
        exact ⟨h1, dops_sound hT hns hA hQ r _ _ _ s3 _ _ _ _ w2 K hB (hcl.set hri) hS3 h2 h hq⟩
      · rw [if_neg (by rw [hw]; simp)]
        obtain ⟨s3, h, hS3⟩ := putK_sound hS (v := undef) (d := .tup []) (RS.tup [] #[] rfl (fun j v d h => by simp at h)) h
        exact ⟨fun x hx _ => let ⟨y, hy⟩ := hps.left x hx; hy.mono_, dops_sound hT hns hA hQ r _ _ _ s3 _ _ _ _ w K hB (hcl.set hri) hS3 (hps.filter fun _ _ h => h.1) h hq⟩

/-- A region that draws its order, walked by a plan. -/
theorem Ok.region_plan (hT : TOk P T) (hm : P.follows .mixedOrders = true) {s : St} {Q : Exit → St → Prop} {id : Nat} {l : List Oper} (A : Waits) (mvs : List Mv) (hB : planOk l.toArray A mvs = true) (h : dops P T l A mvs [] s (Q .normal)) :
    Ok P T (.region id l.toArray true) Q s := by
  refine ⟨fun w0 V0 V μ ω a w hS => ?_⟩
  simp only [planOk, Bool.and_eq_true, beq_iff_eq] at hB
  obtain ⟨⟨⟨hns, hA⟩, hlen⟩, hB⟩ := hB
  have hd : Ext w { w with drawn := w.drawn + 1 } := (Below.refl w.heap.size w).drew
  refine wp_mono (Q := fun e a' w' => e = .normal ∧ ∃ s' V' μ' ω', Q .normal s' ∧ Sim (szOf T) w0 V0 V' μ' ω' s' a' w') (wp_region_any hm ?_) ?_
  · refine wpAny_of_P (bef := befW A) _ [] _ _ _ ?_
    have hz : ∀ m j : Nat, (Array.replicate m false).getD j false = false := fun m j => by
      rcases Nat.lt_or_ge j m with h | h <;> simp [h]
    have hw := dops_sound hT hns hA (Q := fun e a' w' => e = .normal ∧ ∃ s' V' μ' ω', Q .normal s' ∧ Sim (szOf T) w0 V0 V' μ' ω' s' a' w') (fun c a w h => by cases h.1) mvs _ [] [] s V μ ω a _ _ hB
      (fun j o _ hl => by rw [hz] at hl; cases hl) (hS.ext hd) .nil h fun s' V' μ' ω' a' w' hk hS' => ⟨rfl, s', V', μ', ω', hk, hS'⟩
    rw [hlen] at hw
    exact hw
  · rintro e a' w' ⟨rfl, s', V', μ', ω', hk, hS'⟩
    exact ⟨s', V', μ', ω', hk, hS'⟩
end
end Go.Vx
