/- The walks and the plain laws that a law of spaces needs, part 3 of 5. -/
import Derived.Test.YtagmibogginaaaaGreatDoorPMB
import Derived.Test.YtagmibogginaaaaGreatDoorRows
import Derived.ProofKit
import Derived.Deep.Slices
import Derived.Test.YtagmibogginaaaaGreatDoorProg
import Derived.KernelRfl
import Derived.Shelf.Strings.Repeat
import Derived.Shelf.Strings.SlTrimAscii
import Derived.Ground.GgsProg
set_option linter.unusedVariables false
set_option linter.unusedSimpArgs false
namespace Go.Vx
open Go.RowKit
section
variable {P : Program} {T : Tab}
variable {G : FuncId → Prop} {Q : Exit → Act → World → Prop} {a : Act} {w : World}
theorem wpG_block {id : Nat} {c : Code} (h : wpG P G c (Exit.inBlock id Q) a w) : wpG P G (Code.block id c) Q a w := by
  intro b k cs hG
  obtain ⟨e, a₁, w₁, hq, harr⟩ := h b (.inBlock id :: k) cs hG
  cases e with
  | normal => exact ⟨.normal, a₁, w₁, hq, .head step_block (Steps.trans harr (.one step_inBlock))⟩
  | exit id' =>
    by_cases hid : id' = id
    · simp only [Exit.inBlock, hid, if_true] at hq
      exact ⟨.normal, a₁, w₁, hq, .head step_block (harr k (by simp [exitTo, hid]))⟩
    · simp only [Exit.inBlock, hid, if_false] at hq
      refine ⟨.exit id', a₁, w₁, hq, fun k' hk => .head step_block (harr k' ?_)⟩
      have : (id == id') = false := by simp; exact fun h => hid h.symm
      simp [exitTo, this, hk]
  | goto l => exact ⟨_, a₁, w₁, hq, fun k' hk => .head step_block (harr k' (by simp [gotoIn, hk]))⟩
  | ret => exact ⟨_, a₁, w₁, hq, .of_steps (.one step_block) harr⟩
  | panic ch => exact ⟨_, a₁, w₁, hq, .of_steps (.one step_block) harr⟩
  | outgrown => exact ⟨_, a₁, w₁, hq, .of_steps (b := b) (k := k) (cs := cs) (e := .outgrown) (.one step_block) harr⟩
end
end Go.Vx
namespace Go.Vx
open Go.RowKit
section
variable {P : Program} {T : Tab}
structure Yields (P : Program) (T : Tab) (l B : Nat) (xs : List (List D)) (J : Option Nat → Vw → World → Prop) (Jp : List PanicEntry → World → Prop) : Prop where
  vok : ∀ k V W, J k V W → VOk V W
  size : ∀ k V W, J k V W → B ≤ W.heap.size
  grow : ∀ k V V' W W', J k V W → Ext W W' → VLe V V' → VOk V' W' → (∀ p v, V' p = some v → V p = some v ∨ W.heap.size ≤ p.block) → J k V' W'
  shut : ∀ k V W D, J k V W → B ≤ D → W.heap[D]? = some (.deferred (some [])) → J k V (W.putObj D (.deferred none))
  shutp : ∀ c W D, Jp c W → B ≤ D → W.heap[D]? = some (.deferred (some [])) → Jp c (W.putObj D (.deferred none))
  round : ∀ (k : Nat) x V W (vs : List Value), xs[k]? = some x → J (some k) V W → vs.length = x.length → (∀ (j : Nat) v d, vs[j]? = some v → x[j]? = some d → RI (szOf T) V v d) →
    ∀ E : List (Nat × Obj), (∀ x ∈ E, B ≤ x.1 ∧ W.heap[x.1]? = some x.2 ∧ noC x.2) →
    ∃ fn tmps assign body, (Instr.yield l vs.toArray).run P W = .ok (.round l fn tmps assign body) W ∧
      RoundIn Fence.wide 0 P l fn tmps assign body W fun e W' => (∀ x ∈ E, W'.heap[x.1]? = some x.2) ∧
        ((∃ V', VLe V V' ∧ ((e = .returned (.bool true) ∧ J (some (k + 1)) V' W') ∨ (e = .returned (.bool false) ∧ J none V' W'))) ∨ ∃ c, e = .panicked c ∧ Jp c W')
variable {w0 w w' : World} {V V' : Vw} {μ : List Nat} {ω : List Value} {box : List (List D)} {row : Rows} {s : St} {a : Act} {sz : TypeId → Nat}
theorem Mem.grow {F : Fr} (h : Mem sz w0 F V μ ω box row w) (he : Ext w w') (hV : VLe V V') (hok : VOk V' w') (hn : ∀ p v, V' p = some v → V p = some v ∨ w.heap.size ≤ p.block) : Mem sz w0 F V' μ ω box row w' := by
  have h1 := h.ext he
  refine ⟨h1.below, hok, fun p v hp => hV p v (h.vle p v hp), fun p hp => ?_, h1.bl, fun i g cs a b => ?_, h1.rl, fun r v e xs a b => ?_, h1.uniq, h1.new, fun p u l hp ho => ?_⟩
  · rw [← h.vold p hp]
    cases hv : V' p with
    | none =>
      cases hv2 : V p with
      | none => rfl
      | some u => rw [hV p u hv2] at hv; cases hv
    | some u =>
      rcases hn p u hv with hq | hq
      · exact hq.symm
      · have := h.below.size; omega
  · obtain ⟨vs, t, c1, c2, c3, c4, c5⟩ := h1.hbox i g cs a b
    exact ⟨vs, t, c1, c2, c3, fun j v d e1 e2 => (c4 j v d e1 e2).mono hV (.refl _) (.refl _), c5⟩
  · obtain ⟨vals, c1, c2, c3, c4⟩ := h1.hrow r v e xs a b
    exact ⟨vals, c1, c2, c3, fun i rw j d e1 e2 => let ⟨u, x1, x2⟩ := c4 i rw j d e1 e2; ⟨u, x1, x2.mono hV⟩⟩
  · have hg := (h.new l p.block ho).2
    rcases hn p u hp with hq | hq
    · exact h.vmut p u l hq ho
    · omega
theorem Sim.grow {F : Fr} (h : Sim sz w0 F V μ ω s a w) (he : Ext w w') (hV : VLe V V') (hok : VOk V' w') (hn : ∀ p v, V' p = some v → V p = some v ∨ w.heap.size ≤ p.block) : Sim sz w0 F V' μ ω s a w' :=
  ⟨h.tmps, h.defers.ext he, fun t => (h.env t).mono hV (.refl _) (.refl _), h.mem.grow he hV hok hn⟩
end
end Go.Vx
namespace Go.Vx
open Go.RowKit
section
variable {P : Program} {T : Tab} {G : FuncId → Prop} {Q : Exit → St → Prop} {s : St}
structure OkG (P : Program) (T : Tab) (G : FuncId → Prop) (c : Code) (Q : Exit → St → Prop) (s : St) : Prop where
  run : ∀ (w0 : World) (V0 : Fr) (V : Vw) (μ : List Nat) (ω : List Value) (a : Act) (w : World), Sim (szOf T) w0 V0 V μ ω s a w →
    wpG P G c (fun e a' w' => ∃ s' V' μ' ω', Q e s' ∧ Sim (szOf T) w0 V0 V' μ' ω' s' a' w') a w
theorem OkG.of {c : Code} (h : Ok P T c Q s) : OkG P T G c Q s := ⟨fun w0 V0 V μ ω a w hS => wpG_of (h.run w0 V0 V μ ω a w hS)⟩
theorem OkG.seq {x y : Code} (h : OkG P T G x (thenQ (OkG P T G y Q) Q) s) : OkG P T G (.seq x y) Q s := by
  refine ⟨fun w0 V0 V μ ω a w hS => wpG_seq (wpG_mono (h.run w0 V0 V μ ω a w hS) ?_)⟩
  rintro e a' w' ⟨s', V', μ', ω', hk, hS'⟩
  cases e with
  | normal => exact OkG.run hk w0 V0 V' μ' ω' a' w' hS'
  | _ => exact ⟨s', V', μ', ω', hk, hS'⟩
theorem OkG.block {id : Nat} {c : Code} (h : OkG P T G c (blockQ id Q) s) : OkG P T G (.block id c) Q s := by
  refine ⟨fun w0 V0 V μ ω a w hS => wpG_block (wpG_mono (h.run w0 V0 V μ ω a w hS) ?_)⟩
  rintro e a' w' ⟨s', V', μ', ω', hk, hS'⟩
  cases e with
  | exit id' =>
    simp only [blockQ] at hk
    simp only [Exit.inBlock]
    split at hk
    · rename_i hb
      rw [if_pos (beq_nat_true hb)]
      exact ⟨s', V', μ', ω', hk, hS'⟩
    · rename_i hb
      rw [if_neg (by rintro rfl; rw [Nat.beq_refl] at hb; cases hb)]
      exact ⟨s', V', μ', ω', hk, hS'⟩
  | _ => exact ⟨s', V', μ', ω', hk, hS'⟩
end
end Go.Vx
namespace Go.Vx
open Go.RowKit
section
variable {P : Program} {T : Tab}
structure PureS (sz : TypeId → Nat) (B : Nat) (V : Vw) (env : List (Nat × D)) (n : Nat) (a : Act) (w : World) : Prop where
  tmps : a.tmps.size = n
  marks : ∃ ms : List Nat, a.defers = ms.map mkD ∧ ms.Nodup ∧ ∀ D ∈ ms, B ≤ D ∧ w.heap[D]? = some (.deferred (some []))
  size : B ≤ w.heap.size
  vok : VOk V w
  env : ∀ t, RS sz V [] [] (slotV ⟨V, fun _ => undef, [], []⟩ n a t) (look env t)
theorem PureS.sim {B : Nat} {V : Vw} {env : List (Nat × D)} {n : Nat} {a : Act} {w : World} (h : PureS (szOf T) B V env n a w) : Sim (szOf T) w ⟨V, fun _ => undef, a.defers, []⟩ V [] [] ⟨env, [], [], n⟩ a w :=
  ⟨h.tmps, .start, h.env, (Mem.start h.vok).fr rfl⟩
def purE : List (Nat × D) → (List (Nat × D) → Prop) → Prop
  | [], K => K []
  | (t, d) :: r, K => match immD d with | true => d.force fun d => purE r fun r => K ((t, d) :: r) | false => purE r fun r => K ((t, .u) :: r)
def purK (n : Nat) (s : St) (K : List (Nat × D) → Prop) : Prop := match s with | ⟨env, _, _, m⟩ => eqN m n <| purE env K
theorem purE_sound {sz : TypeId → Nat} {V : Vw} {μ : List Nat} {ω : List Value} : ∀ {env : List (Nat × D)} {K : List (Nat × D) → Prop}, purE env K → ∃ env', K env' ∧ ∀ t v, RS sz V μ ω v (look env t) → RI sz V v (look env' t)
  | [], K, h => ⟨[], h, fun t v _ => .u v⟩
  | (k, d) :: env, K, h => by
    simp only [purE] at h
    split at h
    · rename_i hd
      rw [D.force_eq] at h
      obtain ⟨env', h, he⟩ := purE_sound (sz := sz) (V := V) (μ := μ) (ω := ω) h
      refine ⟨_, h, fun t v hv => ?_⟩
      unfold look at hv ⊢
      cases hb : Nat.beq k t with
      | true => rw [hb] at hv; exact immD_ri hv hd
      | false => rw [hb] at hv; exact he t v hv
    · obtain ⟨env', h, he⟩ := purE_sound (sz := sz) (V := V) (μ := μ) (ω := ω) h
      refine ⟨_, h, fun t v hv => ?_⟩
      unfold look at hv ⊢
      cases hb : Nat.beq k t with
      | true => exact .u v
      | false => rw [hb] at hv; exact he t v hv
theorem PureS.after {B : Nat} {V V' : Vw} {env : List (Nat × D)} {n : Nat} {a a' : Act} {w w' : World} {μ' : List Nat} {ω' : List Value} {s' : St} {K : List (Nat × D) → Prop} (h : PureS (szOf T) B V env n a w)
    (hS : Sim (szOf T) w ⟨V, fun _ => undef, a.defers, []⟩ V' μ' ω' s' a' w') (hK : purK n s' K) : ∃ env', K env' ∧ PureS (szOf T) B V' env' n a' w' := by
  obtain ⟨env2, box, row, m⟩ := s'
  obtain ⟨hmn, hK2⟩ := eqN_iff hK
  subst hmn
  obtain ⟨env', hk, he⟩ := purE_sound (sz := szOf T) (V := V') (μ := μ') (ω := ω') hK2
  obtain ⟨ms, e1, e2, e3⟩ := h.marks
  obtain ⟨ms', f1, f2, f3⟩ := hS.defers.marks
  have hsz := h.size
  refine ⟨env', hk, hS.tmps, ⟨ms' ++ ms, ?_, ?_, fun D hD => ?_⟩, by have := hS.mem.below.size; omega, hS.mem.vok, fun t => .imm _ _ (he t _ (hS.env t))⟩
  · rw [f1, List.map_append]
    show ms'.map mkD ++ a.defers = _
    rw [e1]
  · refine List.nodup_append.2 ⟨f2, e2, fun x hx y hy e => ?_⟩
    have h1 := (f3 x hx).2.1
    have h2 := (Array.getElem?_eq_some_iff.1 (e3 y hy).2).1
    omega
  · rcases List.mem_append.1 hD with hD | hD
    · exact ⟨by have := (f3 D hD).2.1; omega, (f3 D hD).1⟩
    · exact ⟨(e3 D hD).1, by rw [hS.mem.below.block D (Array.getElem?_eq_some_iff.1 (e3 D hD).2).1]; exact (e3 D hD).2⟩
theorem fresh_of {F : Fr} {V V' : Vw} {μ : List Nat} {ω : List Value} {box : List (List D)} {row : Rows} {w w' : World} {sz : TypeId → Nat} (h : Mem sz w F V' μ ω box row w') (hF : F.V = V) : ∀ p v, V' p = some v → V p = some v ∨ w.heap.size ≤ p.block := by
  intro p v hp
  by_cases hb : p.block < w.heap.size
  · left
    rw [← hF, ← h.vold p hb]
    exact hp
  · right; omega
def yPost (P : Program) (T : Tab) (B : Nat) (J : Option Nat → Vw → World → Prop) (Jp : List PanicEntry → World → Prop) (n : Nat) (Q : Exit → Option Nat → List (Nat × D) → Prop) (e : Exit) (a' : Act) (w' : World) : Prop :=
  (∃ g' env' V', Q e g' env' ∧ J g' V' w' ∧ PureS (szOf T) B V' env' n a' w') ∨
    ∃ ch, e = .panic ch ∧ Jp ch w' ∧ ∃ ms : List Nat, a'.defers = ms.map mkD ∧ ms.Nodup ∧ ∀ D ∈ ms, B ≤ D ∧ w'.heap[D]? = some (.deferred (some []))
structure OkY (P : Program) (T : Tab) (l : Nat) (xs : List (List D)) (n : Nat) (c : Code) (Q : Exit → Option Nat → List (Nat × D) → Prop) (g : Option Nat) (env : List (Nat × D)) : Prop where
  run : ∀ (B : Nat) J Jp, Yields P T l B xs J Jp → ∀ (V : Vw) (a : Act) (w : World), J g V w → PureS (szOf T) B V env n a w → c.wp P (yPost P T B J Jp n Q) a w
variable {l : Nat} {xs : List (List D)} {n : Nat} {Q : Exit → Option Nat → List (Nat × D) → Prop} {g : Option Nat} {env : List (Nat × D)}
theorem OkY.mono {c : Code} {Q' : Exit → Option Nat → List (Nat × D) → Prop} (h : OkY P T l xs n c Q g env) (hq : ∀ e g env, Q e g env → Q' e g env) : OkY P T l xs n c Q' g env := by
  refine ⟨fun B J Jp hY V a w hJ hp => wp_mono (h.run B J Jp hY V a w hJ hp) ?_⟩
  rintro e a' w' (⟨g', env', V', hk, h1, h2⟩ | h)
  · exact .inl ⟨g', env', V', hq _ _ _ hk, h1, h2⟩
  · exact .inr h
def thenY (N : Option Nat → List (Nat × D) → Prop) (Q : Exit → Option Nat → List (Nat × D) → Prop) : Exit → Option Nat → List (Nat × D) → Prop
  | .normal, g, env => N g env
  | e, g, env => Q e g env
theorem OkY.seq {x y : Code} (h : OkY P T l xs n x (thenY (OkY P T l xs n y Q) Q) g env) : OkY P T l xs n (.seq x y) Q g env := by
  refine ⟨fun B J Jp hY V a w hJ hp => wp_seq (wp_mono (h.run B J Jp hY V a w hJ hp) ?_)⟩
  rintro e a' w' (⟨g', env', V', hk, h1, h2⟩ | ⟨ch, rfl, h⟩)
  · cases e with
    | normal => exact OkY.run hk B J Jp hY V' a' w' h1 h2
    | _ => exact .inl ⟨g', env', V', hk, h1, h2⟩
  · exact .inr ⟨ch, rfl, h⟩
theorem OkY.skip (h : Q .normal g env) : OkY P T l xs n .skip Q g env := ⟨fun _ _ _ _ V _ _ hJ hp => wp_skip (.inl ⟨g, env, V, h, hJ, hp⟩)⟩
theorem OkY.ret (h : Q .ret g env) : OkY P T l xs n .ret Q g env := ⟨fun _ _ _ _ V _ _ hJ hp => wp_ret (.inl ⟨g, env, V, h, hJ, hp⟩)⟩
theorem OkY.exit {id : Nat} (h : Q (.exit id) g env) : OkY P T l xs n (.exit id) Q g env := ⟨fun _ _ _ _ V _ _ hJ hp => wp_exit (.inl ⟨g, env, V, h, hJ, hp⟩)⟩
def blockY (id : Nat) (Q : Exit → Option Nat → List (Nat × D) → Prop) : Exit → Option Nat → List (Nat × D) → Prop
  | .exit id', g, env => match Nat.beq id' id with | true => Q .normal g env | false => Q (.exit id') g env
  | e, g, env => Q e g env
theorem OkY.block {id : Nat} {c : Code} (h : OkY P T l xs n c (blockY id Q) g env) : OkY P T l xs n (.block id c) Q g env := by
  refine ⟨fun B J Jp hY V a w hJ hp => wp_block (wp_mono (h.run B J Jp hY V a w hJ hp) ?_)⟩
  rintro e a' w' (⟨g', env', V', hk, h1, h2⟩ | ⟨ch, rfl, h⟩)
  · cases e with
    | exit id' =>
      simp only [blockY] at hk
      simp only [Exit.inBlock]
      split at hk
      · rename_i hb
        rw [if_pos (beq_nat_true hb)]
        exact .inl ⟨g', env', V', hk, h1, h2⟩
      · rename_i hb
        rw [if_neg (by rintro rfl; rw [Nat.beq_refl] at hb; cases hb)]
        exact .inl ⟨g', env', V', hk, h1, h2⟩
    | _ => exact .inl ⟨g', env', V', hk, h1, h2⟩
  · exact .inr ⟨ch, rfl, h⟩
def condY (env : List (Nat × D)) (n : Nat) (c : Operand) (X Y : List (Nat × D) → Prop) : Prop :=
  condK ⟨env, [], [], n⟩ c (fun s => X s.env) (fun s => Y s.env)
theorem PureS.know {B : Nat} {V : Vw} {a : Act} {w : World} (hp : PureS (szOf T) B V env n a w) (c : Operand) {d : D} (hd : RS (szOf T) V [] [] (a.eval c) d) : PureS (szOf T) B V ((⟨env, [], [], n⟩ : St).know c d).env n a w := by
  have h := hp.sim.know c hd
  have hn : ((⟨env, [], [], n⟩ : St).know c d).n = n := by
    unfold St.know
    split
    · split <;> rfl
    · rfl
  refine ⟨hp.tmps, hp.marks, hp.size, hp.vok, fun t => ?_⟩
  have := h.env t
  rw [hn] at this
  exact this
theorem OkY.cond {c : Operand} {x y : Code} (h : condY env n c (OkY P T l xs n x Q g) (OkY P T l xs n y Q g)) : OkY P T l xs n (.cond c x y) Q g env := by
  refine ⟨fun B J Jp hY V a w hJ hp => ?_⟩
  have hc := hp.sim.get c
  unfold condY condK at h
  split at h
  · rename_i hd; rw [hd] at hc; exact wp_cond_true hc.tt_ (h.run B J Jp hY V a w hJ hp)
  · rename_i hd; rw [hd] at hc; exact wp_cond_false hc.ff_ (h.run B J Jp hY V a w hJ hp)
  · rename_i p hd
    rw [hd] at hc
    obtain ⟨b, hb, hbp⟩ := hc.bool
    cases b with
    | true => exact wp_cond_true hb ((h.1 (hbp.1 rfl)).run B J Jp hY V a w hJ (hp.know c (by rw [hb]; exact .imm _ _ .tt)))
    | false => exact wp_cond_false hb ((h.2 (fun hp => by simpa using hbp.2 hp)).run B J Jp hY V a w hJ (hp.know c (by rw [hb]; exact .imm _ _ .ff)))
  · exact h.elim
def selE (env : List (Nat × D)) : List Nat → (List (Nat × D) → Prop) → Prop
  | [], K => K []
  | t :: L, K => (look env t).force fun d => selE env L fun r => K ((t, d) :: r)
theorem selE_sound {sz : TypeId → Nat} {V : Vw} {env : List (Nat × D)} : ∀ {L : List Nat} {K : List (Nat × D) → Prop}, selE env L K → ∃ env', K env' ∧ ∀ t v, RS sz V [] [] v (look env t) → RS sz V [] [] v (look env' t)
  | [], K, h => ⟨[], h, fun t v _ => .imm _ _ (.u v)⟩
  | x :: L, K, h => by
    simp only [selE, D.force_eq] at h
    obtain ⟨env', h, he⟩ := selE_sound (sz := sz) (V := V) h
    refine ⟨_, h, fun t v hv => ?_⟩
    show RS sz V [] [] v (match Nat.beq x t with | true => look env x | false => look env' t)
    cases hb : Nat.beq x t with
    | true => rw [← beq_nat_true hb] at hv; exact hv
    | false => exact he t v hv
theorem OkY.keep {c : Code} (L : List Nat) (h : selE env L fun env => OkY P T l xs n c Q g env) : OkY P T l xs n c Q g env := by
  refine ⟨fun B J Jp hY V a w hJ hp => ?_⟩
  obtain ⟨env', hk, he⟩ := selE_sound (sz := szOf T) (V := V) h
  exact hk.run B J Jp hY V a w hJ ⟨hp.tmps, hp.marks, hp.size, hp.vok, fun t => he t _ (hp.env t)⟩
theorem OkY.loop {c : Code} {ι : Type} (I : ι → Option Nat → List (Nat × D) → Prop) (m : ι → Nat) (x0 : ι) (h0 : I x0 g env)
    (round : ∀ x g env, I x g env → OkY P T l xs n c (thenY (fun g' env' => ∃ x', m x' < m x ∧ I x' g' env') Q) g env) : OkY P T l xs n (.loop c) Q g env := by
  refine ⟨fun B J Jp hY V a w hJ hp => ?_⟩
  refine wp_loop_at (fun k a w => ∃ x g env V, m x = k ∧ I x g env ∧ J g V w ∧ PureS (szOf T) B V env n a w) ?_ ⟨x0, g, env, V, rfl, h0, hJ, hp⟩
  rintro k a w ⟨x, g, env, V, rfl, hI, hJ, hp⟩
  refine wp_mono ((round x g env hI).run B J Jp hY V a w hJ hp) ?_
  rintro e a' w' (⟨g', env', V', hk, h1, h2⟩ | ⟨ch, rfl, h⟩)
  · cases e with
    | normal =>
      obtain ⟨x', hlt, hI'⟩ := hk
      exact ⟨m x', hlt, x', g', env', V', rfl, hI', h1, h2⟩
    | _ => exact .inl ⟨g', env', V', hk, h1, h2⟩
  · exact .inr ⟨ch, rfl, h⟩
structure OkZ (P : Program) (T : Tab) (l : Nat) (xs : List (List D)) (n : Nat) (c : Code) (Q : Exit → Option Nat → List (Nat × D) → Prop) (g : Option Nat) (s : St) : Prop where
  run : ∀ (B : Nat) J Jp, Yields P T l B xs J Jp → ∀ (V : Vw) (a0 : Act) (w0 : World) (env : List (Nat × D)), J g V w0 → PureS (szOf T) B V env n a0 w0 →
    ∀ (V' : Vw) (μ : List Nat) (ω : List Value) (a : Act) (w : World), Sim (szOf T) w0 ⟨V, fun _ => undef, a0.defers, []⟩ V' μ ω s a w → c.wp P (yPost P T B J Jp n Q) a w
theorem OkZ.seq {x y : Code} {s : St} (h : Ok P T x (thenQ (OkZ P T l xs n y Q g) (fun e s' => purK n s' fun env' => Q e g env')) s) : OkZ P T l xs n (.seq x y) Q g s := by
  refine ⟨fun B J Jp hY V a0 w0 env hJ hp V' μ ω a w hS => wp_seq (wp_mono (h.run w0 _ V' μ ω a w hS) ?_)⟩
  rintro e a' w' ⟨s', V2, μ', ω', hq, hS2⟩
  have pur : ∀ e, purK n s' (fun env' => Q e g env') → yPost P T B J Jp n Q e a' w' := fun e hq => by
    obtain ⟨env', hk, hp'⟩ := hp.after hS2 hq
    exact .inl ⟨g, env', V2, hk, hY.grow g V V2 w0 w' hJ hS2.mem.below hS2.mem.vle hS2.mem.vok (fresh_of hS2.mem rfl), hp'⟩
  cases e with
  | normal => exact OkZ.run hq B J Jp hY V a0 w0 env hJ hp V2 μ' ω' a' w' hS2
  | _ => exact pur _ hq
theorem effW.of {s : St} {f : FuncId} {ds : List D} {K : D → St → Prop} (h : effK P T s f ds K) : effW P T s f ds K :=
  ⟨h.call, fun w0 V0 V μ ω a w vs hS hl hR => (h.run w0 V0 V μ ω a w vs hS hl hR).mono fun _ _ ⟨v, d, s', V', μ', ω', h1, h2, h3, h4, _⟩ => ⟨v, d, s', V', μ', ω', h1, h2, h3, h4⟩⟩
end
end Go.Vx
namespace Go.Vx
open Go.RowKit
section
variable {P : Program} {T : Tab} {l : Nat} {x : List D} {n : Nat} {Q : Exit → List (Nat × D) → Prop} {s : St}
structure OkO (P : Program) (T : Tab) (l : Nat) (x : List D) (n : Nat) (c : Code) (Q : Exit → List (Nat × D) → Prop) (s : St) : Prop where
  run : ∀ (B : Nat) J Jp, Yields P T l B [x] J Jp → (∀ V W, ¬ J (some 1) V W) → ∀ (V : Vw) (a0 : Act) (w0 : World) (env : List (Nat × D)), J (some 0) V w0 → PureS (szOf T) B V env n a0 w0 →
    ∀ (V' : Vw) (μ : List Nat) (ω : List Value) (a : Act) (w : World), Sim (szOf T) w0 ⟨V, fun _ => undef, a0.defers, []⟩ V' μ ω s a w → c.wp P (yPost P T B J Jp n fun e g env => g = none ∧ Q e env) a w
theorem OkO.seq {c y : Code} (h : Ok P T c (thenQ (OkO P T l x n y Q) (fun _ _ => False)) s) : OkO P T l x n (.seq c y) Q s := by
  refine ⟨fun B J Jp hY h1 V a0 w0 env hJ hp V' μ ω a w hS => wp_seq (wp_mono (h.run w0 _ V' μ ω a w hS) ?_)⟩
  rintro e a' w' ⟨s', V2, μ', ω', hq, hS2⟩
  cases e with
  | normal => exact OkO.run hq B J Jp hY h1 V a0 w0 env hJ hp V2 μ' ω' a' w' hS2
  | _ => exact False.elim hq
def thenO (N : List (Nat × D) → Prop) (Q : Exit → List (Nat × D) → Prop) : Exit → List (Nat × D) → Prop
  | .normal, env => N env
  | e, env => Q e env
def blockO (id : Nat) (Q : Exit → List (Nat × D) → Prop) : Exit → List (Nat × D) → Prop
  | .exit id', env => match Nat.beq id' id with | true => Q .normal env | false => Q (.exit id') env
  | e, env => Q e env
theorem OkO.block {id : Nat} {c : Code} (h : OkO P T l x n c (blockO id Q) s) : OkO P T l x n (.block id c) Q s := by
  refine ⟨fun B J Jp hY h1 V a0 w0 env hJ hp V' μ ω a w hS => wp_block (wp_mono (h.run B J Jp hY h1 V a0 w0 env hJ hp V' μ ω a w hS) ?_)⟩
  rintro e a' w' (⟨g', env', V', ⟨rfl, hk⟩, h1, h2⟩ | ⟨ch, rfl, h⟩)
  · cases e with
    | exit id' =>
      simp only [blockO] at hk
      simp only [Exit.inBlock]
      split at hk
      · rename_i hb
        rw [if_pos (beq_nat_true hb)]
        exact .inl ⟨none, env', V', ⟨rfl, hk⟩, h1, h2⟩
      · rename_i hb
        rw [if_neg (by rintro rfl; rw [Nat.beq_refl] at hb; cases hb)]
        exact .inl ⟨none, env', V', ⟨rfl, hk⟩, h1, h2⟩
    | _ => exact .inl ⟨none, env', V', ⟨rfl, hk⟩, h1, h2⟩
  · exact .inr ⟨ch, rfl, h⟩
theorem OkO.loop {c : Code} (h : OkO P T l x n c (thenO (fun _ => False) Q) s) : OkO P T l x n (.loop c) Q s := by
  refine ⟨fun B J Jp hY h1 V a0 w0 env hJ hp V' μ ω a w hS => wp_loop_at (fun k a1 w1 => k = 0 ∧ a1 = a ∧ w1 = w) ?_ ⟨rfl, rfl, rfl⟩⟩
  rintro k a1 w1 ⟨rfl, rfl, rfl⟩
  refine wp_mono (h.run B J Jp hY h1 V a0 w0 env hJ hp V' μ ω _ _ hS) ?_
  rintro e a' w' (⟨g', env', V', ⟨rfl, hk⟩, h1, h2⟩ | ⟨ch, rfl, h⟩)
  · cases e with
    | normal => exact False.elim hk
    | _ => exact .inl ⟨none, env', V', ⟨rfl, hk⟩, h1, h2⟩
  · exact .inr ⟨ch, rfl, h⟩
end
end Go.Vx
namespace Go.Vx
open Go.RowKit
section
variable {P : Program} {T : Tab}
structure PureE (sz : TypeId → Nat) (B : Nat) (E : List (Nat × Obj)) (V : Vw) (env : List (Nat × D)) (n : Nat) (a : Act) (w : World) : Prop where
  tmps : a.tmps.size = n
  marks : ∃ ms : List Nat, a.defers = ms.map mkD ∧ ms.Nodup ∧ ∀ D ∈ ms, B ≤ D ∧ w.heap[D]? = some (.deferred (some [])) ∧ ∀ x ∈ E, x.1 ≠ D
  size : B ≤ w.heap.size
  vok : VOk V w
  env : ∀ t, RS sz V [] [] (slotV ⟨V, fun _ => undef, [], []⟩ n a t) (look env t)
  kept : ∀ x ∈ E, B ≤ x.1 ∧ w.heap[x.1]? = some x.2 ∧ noC x.2
theorem PureE.sim {B : Nat} {E : List (Nat × Obj)} {V : Vw} {env : List (Nat × D)} {n : Nat} {a : Act} {w : World} (h : PureE (szOf T) B E V env n a w) : Sim (szOf T) w ⟨V, fun _ => undef, a.defers, []⟩ V [] [] ⟨env, [], [], n⟩ a w :=
  ⟨h.tmps, .start, h.env, (Mem.start h.vok).fr rfl⟩
theorem PureE.after {B : Nat} {E : List (Nat × Obj)} {V V' : Vw} {env : List (Nat × D)} {n : Nat} {a a' : Act} {w w' : World} {μ' : List Nat} {ω' : List Value} {s' : St} {K : List (Nat × D) → Prop} (h : PureE (szOf T) B E V env n a w)
    (hS : Sim (szOf T) w ⟨V, fun _ => undef, a.defers, []⟩ V' μ' ω' s' a' w') (hK : purK n s' K) : ∃ env', K env' ∧ PureE (szOf T) B E V' env' n a' w' := by
  obtain ⟨env2, box, row, m⟩ := s'
  obtain ⟨hmn, hK2⟩ := eqN_iff hK
  subst hmn
  obtain ⟨env', hk, he⟩ := purE_sound (sz := szOf T) (V := V') (μ := μ') (ω := ω') hK2
  obtain ⟨ms, e1, e2, e3⟩ := h.marks
  obtain ⟨ms', f1, f2, f3⟩ := hS.defers.marks
  have hsz := h.size
  have hlt : ∀ x ∈ E, x.1 < w.heap.size := fun x hx => (Array.getElem?_eq_some_iff.1 (h.kept x hx).2.1).1
  refine ⟨env', hk, hS.tmps, ⟨ms' ++ ms, ?_, ?_, fun D hD => ?_⟩, by have := hS.mem.below.size; omega, hS.mem.vok, fun t => .imm _ _ (he t _ (hS.env t)), fun x hx => ?_⟩
  · rw [f1, List.map_append]
    show ms'.map mkD ++ a.defers = _
    rw [e1]
  · refine List.nodup_append.2 ⟨f2, e2, fun x hx y hy e => ?_⟩
    have h1 := (f3 x hx).2.1
    have h2 := (Array.getElem?_eq_some_iff.1 (e3 y hy).2.1).1
    omega
  · rcases List.mem_append.1 hD with hD | hD
    · exact ⟨by have := (f3 D hD).2.1; omega, (f3 D hD).1, fun x hx => by have := (f3 D hD).2.1; have := hlt x hx; omega⟩
    · exact ⟨(e3 D hD).1, by rw [hS.mem.below.block D (Array.getElem?_eq_some_iff.1 (e3 D hD).2.1).1]; exact (e3 D hD).2.1, (e3 D hD).2.2⟩
  · obtain ⟨k1, k2, k3⟩ := h.kept x hx
    exact ⟨k1, by rw [hS.mem.below.block x.1 (hlt x hx)]; exact k2, k3⟩
def yPostE (P : Program) (T : Tab) (B : Nat) (E : List (Nat × Obj)) (V0 : Vw) (J : Option Nat → Vw → World → Prop) (Jp : List PanicEntry → World → Prop) (n : Nat) (Q : Exit → Option Nat → List (Nat × D) → Prop) (e : Exit) (a' : Act) (w' : World) : Prop :=
  (∃ g' env' V', Q e g' env' ∧ J g' V' w' ∧ VLe V0 V' ∧ PureE (szOf T) B E V' env' n a' w') ∨
    ∃ ch, e = .panic ch ∧ Jp ch w' ∧ (∀ x ∈ E, w'.heap[x.1]? = some x.2) ∧ ∃ ms : List Nat, a'.defers = ms.map mkD ∧ ms.Nodup ∧ ∀ D ∈ ms, B ≤ D ∧ w'.heap[D]? = some (.deferred (some [])) ∧ ∀ x ∈ E, x.1 ≠ D
structure OkE (P : Program) (T : Tab) (l : Nat) (xs : List (List D)) (n : Nat) (c : Code) (Q : Exit → Option Nat → List (Nat × D) → Prop) (g : Option Nat) (env : List (Nat × D)) : Prop where
  run : ∀ (B : Nat) (E : List (Nat × Obj)) J Jp, Yields P T l B xs J Jp → ∀ (V : Vw) (a : Act) (w : World), J g V w → PureE (szOf T) B E V env n a w → c.wp P (yPostE P T B E V J Jp n Q) a w
variable {l : Nat} {xs : List (List D)} {n : Nat} {Q : Exit → Option Nat → List (Nat × D) → Prop} {g : Option Nat} {env : List (Nat × D)}
theorem yPostE.up {B : Nat} {E : List (Nat × Obj)} {V0 V1 : Vw} {J : Option Nat → Vw → World → Prop} {Jp : List PanicEntry → World → Prop} {e : Exit} {a : Act} {w : World} (h : yPostE P T B E V1 J Jp n Q e a w) (hV : VLe V0 V1) : yPostE P T B E V0 J Jp n Q e a w := by
  rcases h with ⟨g', env', V', h1, h2, h3, h4⟩ | h
  · exact .inl ⟨g', env', V', h1, h2, fun p v hp => h3 p v (hV p v hp), h4⟩
  · exact .inr h
theorem OkE.seq {x y : Code} (h : OkE P T l xs n x (thenY (OkE P T l xs n y Q) Q) g env) : OkE P T l xs n (.seq x y) Q g env := by
  refine ⟨fun B E J Jp hY V a w hJ hp => wp_seq (wp_mono (h.run B E J Jp hY V a w hJ hp) ?_)⟩
  rintro e a' w' (⟨g', env', V', hk, h1, hv, h2⟩ | ⟨ch, rfl, h⟩)
  · cases e with
    | normal => exact wp_mono (OkE.run hk B E J Jp hY V' a' w' h1 h2) fun _ _ _ h => h.up hv
    | _ => exact .inl ⟨g', env', V', hk, h1, hv, h2⟩
  · exact .inr ⟨ch, rfl, h⟩
theorem OkE.skip (h : Q .normal g env) : OkE P T l xs n .skip Q g env := ⟨fun _ _ _ _ _ V _ _ hJ hp => wp_skip (.inl ⟨g, env, V, h, hJ, fun _ _ h => h, hp⟩)⟩
theorem OkE.ret (h : Q .ret g env) : OkE P T l xs n .ret Q g env := ⟨fun _ _ _ _ _ V _ _ hJ hp => wp_ret (.inl ⟨g, env, V, h, hJ, fun _ _ h => h, hp⟩)⟩
theorem OkE.exit {id : Nat} (h : Q (.exit id) g env) : OkE P T l xs n (.exit id) Q g env := ⟨fun _ _ _ _ _ V _ _ hJ hp => wp_exit (.inl ⟨g, env, V, h, hJ, fun _ _ h => h, hp⟩)⟩
theorem OkE.block {id : Nat} {c : Code} (h : OkE P T l xs n c (blockY id Q) g env) : OkE P T l xs n (.block id c) Q g env := by
  refine ⟨fun B E J Jp hY V a w hJ hp => wp_block (wp_mono (h.run B E J Jp hY V a w hJ hp) ?_)⟩
  rintro e a' w' (⟨g', env', V', hk, h1, hv, h2⟩ | ⟨ch, rfl, h⟩)
  · cases e with
    | exit id' =>
      simp only [blockY] at hk
      simp only [Exit.inBlock]
      split at hk
      · rename_i hb
        rw [if_pos (beq_nat_true hb)]
        exact .inl ⟨g', env', V', hk, h1, hv, h2⟩
      · rename_i hb
        rw [if_neg (by rintro rfl; rw [Nat.beq_refl] at hb; cases hb)]
        exact .inl ⟨g', env', V', hk, h1, hv, h2⟩
    | _ => exact .inl ⟨g', env', V', hk, h1, hv, h2⟩
  · exact .inr ⟨ch, rfl, h⟩
theorem PureE.know {B : Nat} {E : List (Nat × Obj)} {V : Vw} {a : Act} {w : World} (hp : PureE (szOf T) B E V env n a w) (c : Operand) {d : D} (hd : RS (szOf T) V [] [] (a.eval c) d) : PureE (szOf T) B E V ((⟨env, [], [], n⟩ : St).know c d).env n a w := by
  have h := hp.sim.know c hd
  have hn : ((⟨env, [], [], n⟩ : St).know c d).n = n := by
    unfold St.know
    split
    · split <;> rfl
    · rfl
  refine ⟨hp.tmps, hp.marks, hp.size, hp.vok, fun t => ?_, hp.kept⟩
  have := h.env t
  rw [hn] at this
  exact this
theorem OkE.cond {c : Operand} {x y : Code} (h : condY env n c (OkE P T l xs n x Q g) (OkE P T l xs n y Q g)) : OkE P T l xs n (.cond c x y) Q g env := by
  refine ⟨fun B E J Jp hY V a w hJ hp => ?_⟩
  have hc := hp.sim.get c
  unfold condY condK at h
  split at h
  · rename_i hd; rw [hd] at hc; exact wp_cond_true hc.tt_ (h.run B E J Jp hY V a w hJ hp)
  · rename_i hd; rw [hd] at hc; exact wp_cond_false hc.ff_ (h.run B E J Jp hY V a w hJ hp)
  · rename_i p hd
    rw [hd] at hc
    obtain ⟨b, hb, hbp⟩ := hc.bool
    cases b with
    | true => exact wp_cond_true hb ((h.1 (hbp.1 rfl)).run B E J Jp hY V a w hJ (hp.know c (by rw [hb]; exact .imm _ _ .tt)))
    | false => exact wp_cond_false hb ((h.2 (fun hp => by simpa using hbp.2 hp)).run B E J Jp hY V a w hJ (hp.know c (by rw [hb]; exact .imm _ _ .ff)))
  · exact h.elim
theorem PureE.envs {B : Nat} {E : List (Nat × Obj)} {V : Vw} {a : Act} {w : World} {env' : List (Nat × D)} (hp : PureE (szOf T) B E V env n a w) (he : ∀ t v, RS (szOf T) V [] [] v (look env t) → RS (szOf T) V [] [] v (look env' t)) : PureE (szOf T) B E V env' n a w :=
  ⟨hp.tmps, hp.marks, hp.size, hp.vok, fun t => he t _ (hp.env t), hp.kept⟩
theorem OkE.keep {c : Code} (L : List Nat) (h : selE env L fun env => OkE P T l xs n c Q g env) : OkE P T l xs n c Q g env := by
  refine ⟨fun B E J Jp hY V a w hJ hp => ?_⟩
  obtain ⟨env', hk, he⟩ := selE_sound (sz := szOf T) (V := V) h
  exact hk.run B E J Jp hY V a w hJ (hp.envs he)
structure OkF (P : Program) (T : Tab) (l : Nat) (xs : List (List D)) (n : Nat) (c : Code) (Q : Exit → Option Nat → List (Nat × D) → Prop) (g : Option Nat) (s : St) : Prop where
  run : ∀ (B : Nat) (E : List (Nat × Obj)) J Jp, Yields P T l B xs J Jp → ∀ (V : Vw) (a0 : Act) (w0 : World) (env : List (Nat × D)), J g V w0 → PureE (szOf T) B E V env n a0 w0 →
    ∀ (V' : Vw) (μ : List Nat) (ω : List Value) (a : Act) (w : World), Sim (szOf T) w0 ⟨V, fun _ => undef, a0.defers, []⟩ V' μ ω s a w → c.wp P (yPostE P T B E V J Jp n Q) a w
theorem OkF.seq {x y : Code} {s : St} (h : Ok P T x (thenQ (OkF P T l xs n y Q g) (fun e s' => purK n s' fun env' => Q e g env')) s) : OkF P T l xs n (.seq x y) Q g s := by
  refine ⟨fun B E J Jp hY V a0 w0 env hJ hp V' μ ω a w hS => wp_seq (wp_mono (h.run w0 _ V' μ ω a w hS) ?_)⟩
  rintro e a' w' ⟨s', V2, μ', ω', hq, hS2⟩
  have pur : ∀ e, purK n s' (fun env' => Q e g env') → yPostE P T B E V J Jp n Q e a' w' := fun e hq => by
    obtain ⟨env', hk, hp'⟩ := hp.after hS2 hq
    exact .inl ⟨g, env', V2, hk, hY.grow g V V2 w0 w' hJ hS2.mem.below hS2.mem.vle hS2.mem.vok (fresh_of hS2.mem rfl), hS2.mem.vle, hp'⟩
  cases e with
  | normal => exact OkF.run hq B E J Jp hY V a0 w0 env hJ hp V2 μ' ω' a' w' hS2
  | _ => exact pur _ hq
theorem OkF.cond {c : Operand} {x y : Code} {s : St} (h : condK s c (OkF P T l xs n x Q g) (OkF P T l xs n y Q g)) : OkF P T l xs n (.cond c x y) Q g s := by
  refine ⟨fun B E J Jp hY V a0 w0 env hJ hp V' μ ω a w hS => ?_⟩
  have hc := hS.get c
  unfold condK at h
  split at h
  · rename_i hd; rw [hd] at hc; exact wp_cond_true hc.tt_ (h.run B E J Jp hY V a0 w0 env hJ hp V' μ ω a w hS)
  · rename_i hd; rw [hd] at hc; exact wp_cond_false hc.ff_ (h.run B E J Jp hY V a0 w0 env hJ hp V' μ ω a w hS)
  · rename_i p hd
    rw [hd] at hc
    obtain ⟨b, hb, hbp⟩ := hc.bool
    cases b with
    | true => exact wp_cond_true hb ((h.1 (hbp.1 rfl)).run B E J Jp hY V a0 w0 env hJ hp V' μ ω a w (hS.know c (by rw [hb]; exact .imm _ _ .tt)))
    | false => exact wp_cond_false hb ((h.2 (fun hp => by simpa using hbp.2 hp)).run B E J Jp hY V a0 w0 env hJ hp V' μ ω a w (hS.know c (by rw [hb]; exact .imm _ _ .ff)))
  · exact h.elim
end
end Go.Vx
namespace Go.Vx.Hp
section
variable {α : Type} {lt : α → α → Prop}
theorem set_perm {ys : List α} {i : Nat} {a b : α} (hi : ys[i]? = some a) : (b :: ys).Perm (a :: ys.set i b) := by
  induction ys generalizing i with
  | nil => simp at hi
  | cons y ys ih =>
    cases i with
    | zero => simp at hi; subst hi; simpa using List.Perm.swap _ _ _
    | succ i =>
      simp only [List.getElem?_cons_succ] at hi
      simp only [List.set_cons_succ]
      exact (List.Perm.swap _ _ _).trans (((ih hi).cons y).trans (List.Perm.swap _ _ _))
end
end Go.Vx.Hp
namespace Go.Vx
open Go.RowKit Go.ChangeShapes Go.WideShapes
open Go.Proofs.YtagmibogginaaaaGreatDoor (Rows.uptoBulk Rows.uptoBulkAll)
inductive Shp where
  | bool | int (k : IntKind) | str | slice (e : TypeId) (cells : List Shp)
def shpFs (F : TypeId → Option (List Shp)) : Nat → List (Nat × TypeId) → Option (List Shp)
  | _, [] => some []
  | k, (o, t) :: r => match Nat.beq o k, F t with
    | true, some l => (match shpFs F (k + l.length) r with | some m => some (l ++ m) | none => none)
    | _, _ => none
def lenIs (s : Nat) (o : Option (List Shp)) : Option (List Shp) := match o with | some l => (match Nat.beq s l.length with | true => some l | false => none) | none => none
def shpC (T : Tab) : Nat → TypeId → Option (List Shp)
  | 0, _ => none
  | f + 1, t => match T t with
    | some ⟨s, _, .bool, _⟩ => lenIs s (some [.bool])
    | some ⟨s, _, .int k, _⟩ => lenIs s (some [.int k])
    | some ⟨s, _, .str, _⟩ => lenIs s (some [.str])
    | some ⟨s, _, .slice e, _⟩ => lenIs s (match shpC T f e with | some l => some [.slice e l] | none => none)
    | some ⟨s, _, .struct fs, _⟩ => lenIs s (shpFs (shpC T f) 0 fs)
    | _ => none
mutual
/-- A cell of such a type; lists and texts of at most B. -/
def TyS (B : Nat) : Shp → D → Prop
  | .bool, d => ∃ p, d = .b p
  | .int k, d => ∃ n, d = .i k n ∧ (Lit.int k n).wf = true
  | .str, d => ∃ l, d = .s l ∧ l.length ≤ B
  | .slice e l, d => ∃ rows room, d = .lst e rows room ∧ rows.length + room.length ≤ B ∧ ∀ r, r ∈ rows ++ room → TySs B l r
/-- .. a row of cells. -/
def TySs (B : Nat) : List Shp → List D → Prop
  | [], [] => True
  | s :: ss, d :: ds => TyS B s d ∧ TySs B ss ds
  | [], _ :: _ => False
  | _ :: _, [] => False
end
def TyA (T : Tab) (B : Nat) (t : TypeId) (l : List Shp) (x : D) : Prop :=
  match T t with
  | some ⟨_, _, .struct _, _⟩ => ∃ row, x = .agg row ∧ TySs B l row
  | _ => TySs B l [x]
theorem TySs.append {B : Nat} : ∀ {ts us : List Shp} {ds es : List D}, TySs B ts ds → TySs B us es → TySs B (ts ++ us) (ds ++ es)
  | [], _, [], _, _, h => h
  | _ :: _, _, _ :: _, _, h, h' => by
    simp only [TySs, List.cons_append] at h ⊢
    exact ⟨h.1, TySs.append h.2 h'⟩
  | [], _, _ :: _, _, h, _ => by simp [TySs] at h
  | _ :: _, _, [], _, h, _ => by simp [TySs] at h
theorem lenIs_some {s : Nat} {o : Option (List Shp)} {l : List Shp} (h : lenIs s o = some l) : o = some l ∧ s = l.length := by
  unfold lenIs at h
  split at h
  · split at h
    · rename_i hb
      cases h
      exact ⟨rfl, Nat.eq_of_beq_eq_true hb⟩
    · cases h
  · cases h
theorem shpC_len {T : Tab} {f : Nat} {t : TypeId} {l : List Shp} (h : shpC T f t = some l) : szOf T t = l.length ∧ ∃ ti, T t = some ti := by
  cases f with
  | zero => simp [shpC] at h
  | succ f =>
    simp only [shpC] at h
    split at h
    all_goals first
      | (cases h)
      | (rename_i ht; have := lenIs_some h; rw [szOf_eq ht]; exact ⟨this.2, _, ht⟩)
section
variable {H : Type} {enc : TypeId × Value → H} {P : Program} {T : Tab} {w : World} {held : Bool}
theorem bulk_mem {d : DataW H} : ∀ {l : List (DataW H)}, d ∈ l → Rows.uptoBulk d ≤ Rows.uptoBulkAll l
  | [], h => by cases h
  | x :: r, h => by
    simp only [Rows.uptoBulkAll]
    rcases List.mem_cons.1 h with rfl | h
    · omega
    · have := bulk_mem h; omega
theorem bulk_one (d : DataW H) : 1 ≤ Rows.uptoBulk d := by
  cases d with
  | lit l => cases l <;> simp [Rows.uptoBulk]
  | _ => simp [Rows.uptoBulk]
theorem bulk_length : ∀ (l : List (DataW H)), l.length ≤ Rows.uptoBulkAll l
  | [] => by simp [Rows.uptoBulkAll]
  | x :: r => by have := bulk_one x; have := bulk_length r; simp only [Rows.uptoBulkAll, List.length_cons]; omega
def CellsR (T : Tab) (w : World) (cs : List Value) (row : List D) : Prop :=
  cs.length = row.length ∧ ∀ (j : Nat) v d, cs[j]? = some v → row[j]? = some d → RI (szOf T) (heapV w) v d ∧ v.oneCell' = true
theorem CellsR.append {cs cs' : List Value} {row row' : List D} (h : CellsR T w cs row) (h' : CellsR T w cs' row') : CellsR T w (cs ++ cs') (row ++ row') := by
  refine ⟨by simp [h.1, h'.1], fun j v d h1 h2 => ?_⟩
  by_cases hj : j < cs.length
  · rw [List.getElem?_append_left hj] at h1
    rw [List.getElem?_append_left (by rw [← h.1]; exact hj)] at h2
    exact h.2 j v d h1 h2
  · rw [List.getElem?_append_right (by omega)] at h1
    rw [List.getElem?_append_right (by rw [← h.1]; omega), ← h.1] at h2
    exact h'.2 _ v d h1 h2
theorem CellsR.one {v : Value} {d : D} (h : RI (szOf T) (heapV w) v d) (h1 : v.oneCell' = true) : CellsR T w [v] [d] := by
  refine ⟨rfl, fun j v' d' h2 h3 => ?_⟩
  cases j with
  | zero => simp at h2 h3; subst h2 h3; exact ⟨h, h1⟩
  | succ j => simp at h2
theorem cells_of (hT : TOk P T) {t : TypeId} (h : ∃ ti, T t = some ti) : szOf T t = P.cellsOf t := by
  obtain ⟨ti, ht⟩ := h
  obtain ⟨i, z, h1, h2, _⟩ := (hT t ti ht).info
  rw [szOf_eq ht]
  simp [Program.cellsOf, h1, h2]
theorem fields_ri {f B : Nat} {k : Nat} (ih : ∀ t cs x l, shpC T f t = some l → (B = maxLen ∨ Rows.uptoBulk x.1 ≤ B) → DataW.trod enc P w 0 (fun _ => true) held k t cs = some x → ∃ row, TySs B l row ∧ CellsR T w cs row)
    (hT : TOk P T) (cs : List Value) :
    ∀ (fs : List (Nat × TypeId)) (o : Nat) (xs : List (DataW H × List MemPlace)) (l : List Shp), shpFs (shpC T f) o fs = some l →
      (B = maxLen ∨ Rows.uptoBulkAll (xs.map (·.1)) ≤ B) → xs.length = fs.length →
      (∀ (i : Nat) p, fs[i]? = some p → DataW.trod enc P w 0 (fun _ => true) held k p.2 ((cs.drop p.1).take (P.cellsOf p.2)) = xs[i]?) →
      cs.length = o + l.length → ∃ row, TySs B l row ∧ CellsR T w (cs.drop o) row
  | [], o, xs, l, h1, _, _, _, hl => ⟨[], by simp [shpFs] at h1; subst h1; simp [TySs], by
      simp [shpFs] at h1
      subst h1
      have : cs.drop o = [] := List.drop_of_length_le (by rw [hl]; simp)
      rw [this]
      exact ⟨rfl, fun j v d h => by simp at h⟩⟩
  | (o', t) :: r, o, xs, l, h1, hB, hxl, hx, hl => by
    simp only [shpFs] at h1
    split at h1
    case h_2 => cases h1
    rename_i l0 hb ht
    split at h1
    case h_2 => cases h1
    rename_i m hm
    cases h1
    have ho : o' = o := Nat.eq_of_beq_eq_true hb
    obtain ⟨hs, hti⟩ := shpC_len ht
    subst ho
    cases xs with
    | nil => simp at hxl
    | cons x0 xs =>
      have h0 := hx 0 _ rfl
      simp only [List.getElem?_cons_zero] at h0
      have hb0 : B = maxLen ∨ Rows.uptoBulk x0.1 ≤ B := by
        rcases hB with hB | hB
        · exact .inl hB
        · right; simp only [List.map_cons, Rows.uptoBulkAll] at hB; omega
      have hb1 : B = maxLen ∨ Rows.uptoBulkAll (xs.map (·.1)) ≤ B := by
        rcases hB with hB | hB
        · exact .inl hB
        · right; simp only [List.map_cons, Rows.uptoBulkAll] at hB; omega
      simp only [List.length_append] at hl
      obtain ⟨row0, a0, r0⟩ := ih _ _ _ _ ht hb0 h0
      obtain ⟨row1, a1, r1⟩ := fields_ri ih hT cs r (o' + l0.length) xs m hm hb1 (by simpa using hxl) (fun i p hp => by
        have := hx (i + 1) p (by simpa using hp)
        simpa using this) (by omega)
      refine ⟨row0 ++ row1, a0.append a1, ?_⟩
      have hc : cs.drop o' = (cs.drop o').take (P.cellsOf t) ++ cs.drop (o' + l0.length) := by
        rw [← cells_of hT hti, hs, ← List.drop_drop, List.take_append_drop]
      rw [hc]
      exact r0.append r1
theorem trod_ri (hT : TOk P T) (B : Nat) (hBm : B ≤ maxLen) : ∀ (f k : Nat) (t : TypeId) (cs : List Value) (x : DataW H × List MemPlace) (l : List Shp), shpC T f t = some l → (B = maxLen ∨ Rows.uptoBulk x.1 ≤ B) →
    DataW.trod enc P w 0 (fun _ => true) held k t cs = some x → ∃ row, TySs B l row ∧ CellsR T w cs row
  | 0, _, _, _, _, _, h, _, _ => by simp [shpC] at h
  | f + 1, k, t, cs, x, l, hok, hB, h => by
    cases ht : T t with
    | none => simp [shpC, ht] at hok
    | some ti =>
      obtain ⟨s, b, kd, z⟩ := ti
      have hG := (hT t _ ht).kind
      cases kd with
      | bool =>
        obtain ⟨v, rfl, rfl⟩ := DataW.trod_bool hG h
        simp only [shpC, ht] at hok
        obtain ⟨hok, _⟩ := lenIs_some hok
        cases hok
        refine ⟨[.b (v = true)], ?_, .one (.b _ _ Iff.rfl) rfl⟩
        simp only [TySs, TyS, and_true]
        exact ⟨_, rfl⟩
      | int kk =>
        obtain ⟨n, rfl, rfl, hw⟩ := DataW.trod_int hG h
        simp only [shpC, ht] at hok
        obtain ⟨hok, _⟩ := lenIs_some hok
        cases hok
        refine ⟨[.i kk n], ?_, .one (.i _ _) rfl⟩
        simp [TySs, TyS, hw]
      | str =>
        obtain ⟨v, rfl, rfl, hl⟩ := DataW.trod_string hG h
        simp only [shpC, ht] at hok
        obtain ⟨hok, _⟩ := lenIs_some hok
        cases hok
        refine ⟨[.s v.data.toList], ?_, .one (by have := RI.s (sz := szOf T) (V := heapV w) v.data.toList; rwa [bstr_data] at this) rfl⟩
        simp only [TySs, TyS, and_true]
        refine ⟨_, rfl, ?_⟩
        have hl' : v.data.toList.length ≤ maxLen := by rw [Array.length_toList]; exact hl
        rcases hB with rfl | hB
        · exact hl'
        · simp only [Rows.uptoBulk] at hB; omega
      | slice e =>
        simp only [shpC, ht] at hok
        obtain ⟨hok, _⟩ := lenIs_some hok
        split at hok
        case h_2 => cases hok
        rename_i le hle
        cases hok
        obtain ⟨hse, hti⟩ := shpC_len hle
        have hce := cells_of hT hti
        rcases Go.Deep.open_slice hG h with ⟨rfl, rfl⟩ | ⟨a, len, cap, m, n, Df, Pl, rfl, _, hlc, hcm, hm, rfl, hx⟩
        · refine ⟨[.lst e [] []], ?_, .one (RI.lst e [] [] none ⟨0, 0, none⟩ 0 (fun _ _ => undef) (by simp) (by unfold maxLen; omega) (by simp) (by simp) (by simp) (by simp) (by simp)) rfl⟩
          simp only [TySs, TyS, and_true]
          exact ⟨[], [], rfl, Nat.zero_le _, fun r hr => by cases hr⟩
        · simp only [if_true] at hm
          subst hm
          have hbi : ∀ i, i < m → (B = maxLen ∨ Rows.uptoBulk (Df i) ≤ B) := by
            intro i hi
            rcases hB with hB | hB
            · exact .inl hB
            · right
              simp only [Rows.uptoBulk] at hB
              by_cases hil : i < len
              · have := bulk_mem (d := Df i) (l := (List.range len).map Df) (List.mem_map.2 ⟨i, by simpa using hil, rfl⟩)
                omega
              · have := bulk_mem (d := Df i) (l := (List.range (m - len)).map fun j => Df (len + j)) (List.mem_map.2 ⟨i - len, by simp; omega, by rw [show len + (i - len) = i by omega]⟩)
                omega
          have hmB : m ≤ B := by
            rcases hB with rfl | hB
            · exact hcm
            · simp only [Rows.uptoBulk] at hB
              have h1 := bulk_length ((List.range len).map Df)
              have h2 := bulk_length ((List.range (m - len)).map fun j => Df (len + j))
              simp at h1 h2
              omega
          have key : ∀ i, i < m → ∃ p : List Value × List D, w.cells? 0 (a.add (i * szOf T e)) (szOf T e) = some p.1 ∧ TySs B le p.2 ∧ CellsR T w p.1 p.2 := by
            intro i hi
            obtain ⟨cs', h1, h2⟩ := hx i hi
            obtain ⟨row, h3, h4⟩ := trod_ri hT B hBm f n e cs' _ le hle (hbi i hi) h2
            exact ⟨(cs', row), by rw [hce]; exact h1, h3, h4⟩
          obtain ⟨g, hg⟩ := Go.Deep.choose_lt key
          have hat : ∀ (i : Nat) row, (((List.range len).map fun i => (g i).2) ++ ((List.range (m - len)).map fun j => (g (len + j)).2))[i]? = some row → i < m ∧ row = (g i).2 := by
            intro i row hr
            by_cases hil : i < len
            · rw [List.getElem?_append_left (by simpa using hil)] at hr
              simp [hil] at hr
              exact ⟨by omega, hr.symm⟩
            · rw [List.getElem?_append_right (by simp; omega)] at hr
              simp only [List.length_map, List.length_range, List.getElem?_map, Option.map_eq_some_iff] at hr
              obtain ⟨j, hj, rfl⟩ := hr
              have hj2 := List.getElem?_eq_some_iff.1 hj
              obtain ⟨hj3, hj4⟩ := hj2
              simp at hj3 hj4
              refine ⟨by omega, by rw [← hj4, show len + (i - len) = i by omega]⟩
          have hcell : ∀ i, i < m → (g i).1.length = szOf T e ∧ ∀ j, j < szOf T e → w.cell? ((a.add (i * szOf T e)).add j) = (g i).1[j]? := by
            intro i hi
            obtain ⟨_, h2, h3⟩ := World.cells?_some (hg i hi).1
            exact ⟨h2, h3⟩
          refine ⟨[.lst e ((List.range len).map fun i => (g i).2) ((List.range (m - len)).map fun j => (g (len + j)).2)], ?_, .one ?_ rfl⟩
          · simp only [TySs, TyS, and_true]
            refine ⟨_, _, rfl, by simp; omega, fun r hr => ?_⟩
            obtain ⟨i, hi⟩ := List.getElem?_of_mem hr
            obtain ⟨h1, rfl⟩ := hat i r hi
            exact (hg i h1).2.1
          · have hres := RI.lst (sz := szOf T) (V := heapV w) e ((List.range len).map fun i => (g i).2) ((List.range (m - len)).map fun j => (g (len + j)).2) (some a) a m (fun i j => (g i).1.getD j undef)
              (by simp; omega) hcm (fun _ => rfl) (fun hno => by cases hno)
              (fun i row hr => by
                obtain ⟨h1, rfl⟩ := hat i row hr
                rw [← (hg i h1).2.2.1, (hcell i h1).1])
              (fun i row j d hr hd => by
                obtain ⟨h1, rfl⟩ := hat i row hr
                have hj : j < (g i).1.length := by rw [(hg i h1).2.2.1]; exact (List.getElem?_eq_some_iff.1 hd).1
                have h2 := (hcell i h1).2 j (by rw [← (hcell i h1).1]; exact hj)
                have hv : (g i).1[j]? = some ((g i).1.getD j undef) := by simp [List.getD, List.getElem?_eq_getElem hj]
                refine ⟨?_, ((hg i h1).2.2.2 j _ d hv hd).2⟩
                show w.cell? _ = _
                rw [← add_add, h2, hv])
              (fun i row j d hr hd => by
                obtain ⟨h1, rfl⟩ := hat i row hr
                have hj : j < (g i).1.length := by rw [(hg i h1).2.2.1]; exact (List.getElem?_eq_some_iff.1 hd).1
                have hv : (g i).1[j]? = some ((g i).1.getD j undef) := by simp [List.getD, List.getElem?_eq_getElem hj]
                exact ((hg i h1).2.2.2 j _ d hv hd).1)
            simpa using hres
      | struct fs =>
        simp only [shpC, ht] at hok
        obtain ⟨hok, hs⟩ := lenIs_some hok
        obtain ⟨fa, hu, hfa⟩ := hG
        obtain ⟨xs, n, _, rfl, hl, hxl, hx⟩ := DataW.trod_struct hu h
        have hc : P.cellsOf t = s := by
          obtain ⟨i, z', h1, h2, _⟩ := (hT t _ ht).info
          simp [Program.cellsOf, h1, h2]
        have hfl : fs.length = fa.size := by rw [← hfa]; simp
        obtain ⟨row, h1, h2⟩ := fields_ri (fun t cs x l a b c => trod_ri hT B hBm f n t cs x l a b c) hT cs fs 0 xs l hok (by
            rcases hB with hB | hB
            · exact .inl hB
            · right; simp only [Rows.uptoBulk] at hB; omega) (by rw [hxl, hfl]) (fun i p hp => by
            rw [← hfa] at hp
            simp only [List.getElem?_map, Option.map_eq_some_iff] at hp
            obtain ⟨fd, h3, rfl⟩ := hp
            exact hx i fd (by simpa using h3)) (by rw [hl, hc, hs, Nat.zero_add])
        exact ⟨row, h1, by simpa using h2⟩
      | array n e => simp [shpC, ht] at hok
      | ptr e => simp [shpC, ht] at hok
      | other => simp [shpC, ht] at hok
end
end Go.Vx
namespace Go.Vx
open Go.RowKit Go.ChangeShapes Go.WideShapes
open Go.Proofs.YtagmibogginaaaaGreatDoor (Rows.uptoBulk Rows.uptoBulkAll)
def shapes (T : Tab) (f : Nat) : List TypeId → Option (List (List Shp))
  | [] => some []
  | t :: ts => match shpC T f t, shapes T f ts with | some l, some r => some (l :: r) | _, _ => none
def TyAs (T : Tab) (B : Nat) : List TypeId → List (List Shp) → List D → Prop
  | [], [], [] => True
  | t :: ts, l :: ls, x :: xs => TyA T B t l x ∧ TyAs T B ts ls xs
  | _, _, _ => False
section
variable {H : Type} {enc : TypeId × Value → H} {P : Program} {T : Tab} {w : World}
theorem arg_ri (hT : TOk P T) {B : Nat} (hBm : B ≤ maxLen) {f base : Nat} {r : Reach} {t : TypeId} {v : Value} {d : DataW H} {ps : List MemPlace} {l : List Shp} (hs : shpC T f t = some l) (hB : B = maxLen ∨ Rows.uptoBulk d ≤ B)
    (hv : Value.okWide P w r base t v) (h : DataW.Trod enc P w 0 (fun _ => true) true t v d ps) : ∃ x, TyA T B t l x ∧ RI (szOf T) (heapV w) v x := by
  obtain ⟨k, hk⟩ := h
  obtain ⟨row, h1, h2⟩ := trod_ri hT B hBm f k t _ _ l hs hB hk
  obtain ⟨hz, ti, ht⟩ := shpC_len hs
  obtain ⟨s, b, kd, z⟩ := ti
  have hG := (hT t _ ht).kind
  have one : ∀ u, v = u → u.cells = #[u] → TyA T B t l = (fun x => TySs B l [x]) → ∃ x, TyA T B t l x ∧ RI (szOf T) (heapV w) v x := by
    rintro u rfl hu he
    rw [hu] at h2
    obtain ⟨h3, h4⟩ := h2
    match row, h3 with
    | [x], _ => exact ⟨x, by rw [he]; exact h1, (h4 0 v x rfl rfl).1⟩
  cases kd with
  | bool => obtain ⟨u, rfl⟩ := okWide_bool hG hv; exact one _ rfl rfl (by funext x; simp [TyA, ht])
  | int kk => obtain ⟨u, rfl⟩ := okWide_int hG hv; exact one _ rfl rfl (by funext x; simp [TyA, ht])
  | str => obtain ⟨u, rfl⟩ := okWide_string hG hv; exact one _ rfl rfl (by funext x; simp [TyA, ht])
  | slice e => obtain ⟨a, m, n, rfl⟩ := okWide_slice hG hv; exact one _ rfl rfl (by funext x; simp [TyA, ht])
  | struct fs =>
    obtain ⟨fa, hu, _⟩ := hG
    obtain ⟨cs, rfl, _⟩ := okWide_struct hu hv
    refine ⟨.agg row, by simp only [TyA, ht]; exact ⟨row, rfl, h1⟩, ?_⟩
    simp only [Value.cells] at h2
    refine RI.agg row cs (by simpa using h2.1) (fun u hu => ?_) (fun j u d a b => (h2.2 j u d (by simpa using a) b).1)
    obtain ⟨j, hj⟩ := List.getElem?_of_mem hu
    have hl : j < row.length := by rw [← h2.1]; exact (List.getElem?_eq_some_iff.1 hj).1
    exact (h2.2 j u _ hj (List.getElem?_eq_getElem hl)).2
  | array n e => cases f with | zero => simp [shpC] at hs | succ f => simp [shpC, ht] at hs
  | ptr e => cases f with | zero => simp [shpC] at hs | succ f => simp [shpC, ht] at hs
  | other => cases f with | zero => simp [shpC] at hs | succ f => simp [shpC, ht] at hs
theorem args_ri (hT : TOk P T) {B : Nat} (hBm : B ≤ maxLen) {f base : Nat} {r : Reach} : ∀ (ts : List TypeId) (ls : List (List Shp)) (vs : List Value) (ds : List (DataW H)) (ps : List MemPlace), shapes T f ts = some ls →
    (B = maxLen ∨ Rows.uptoBulkAll ds ≤ B) → (∀ (j : Nat) t v, ts[j]? = some t → vs[j]? = some v → Value.okWide P w r base t v) → DataW.TrodAll enc P w 0 (fun _ => true) true ts vs ds ps →
    ∃ xs, TyAs T B ts ls xs ∧ vs.length = xs.length ∧ ∀ (j : Nat) v x, vs[j]? = some v → xs[j]? = some x → RI (szOf T) (heapV w) v x
  | [], ls, vs, ds, ps, hs, _, _, h => by
    obtain ⟨rfl, rfl, rfl⟩ := trodAll_nil h
    cases hs
    exact ⟨[], trivial, rfl, fun j v x h => by simp at h⟩
  | t :: ts, ls, vs, ds, ps, hs, hB, hv, h => by
    obtain ⟨v, vs', d, ds', p, q, rfl, rfl, rfl, h1, h2⟩ := trodAll_cons h
    simp only [shapes] at hs
    split at hs
    case h_2 => cases hs
    rename_i l r h3 h4
    cases hs
    obtain ⟨x, hx1, hx2⟩ := arg_ri hT hBm h3 (by
      rcases hB with hB | hB
      · exact .inl hB
      · right; simp only [Rows.uptoBulkAll] at hB; omega) (hv 0 t v rfl rfl) h1
    obtain ⟨xs, hy1, hy2, hy3⟩ := args_ri hT hBm ts r vs' ds' q h4 (by
      rcases hB with hB | hB
      · exact .inl hB
      · right; simp only [Rows.uptoBulkAll] at hB; omega) (fun j t' v' a b => hv (j + 1) t' v' (by simpa using a) (by simpa using b)) h2
    refine ⟨x :: xs, ⟨hx1, hy1⟩, by simp [hy2], fun j v' x' a b => ?_⟩
    cases j with
    | zero => simp at a b; subst a b; exact hx2
    | succ j => exact hy3 j v' x' (by simpa using a) (by simpa using b)
theorem stays (hl : laidOutB P = true) {W W' : World} (hb : Below W.heap.size W W') {sp : Nat → Bool} : ∀ (ts : List TypeId) (vs : List Value) (ds : List (DataW H)) (ps : List MemPlace), (∀ t ∈ ts, P.readableRec t = true ∧ t < P.types.size) →
    (∀ p ∈ ps, p.block < W.heap.size) → (∀ p ∈ ps, sp p.block = true) → DataW.TrodAll enc P W 0 (fun _ => true) true ts vs ds ps → DataW.TrodAll enc P W' 0 sp true ts vs ds ps
  | [], vs, ds, ps, _, _, _, h => by
    obtain ⟨rfl, rfl, rfl⟩ := trodAll_nil h
    exact trodAll_mk0
  | t :: ts, vs, ds, ps, ht, h1, h2, h => by
    obtain ⟨v, vs', d, ds', p, q, rfl, rfl, rfl, h3, h4⟩ := trodAll_cons h
    refine ⟨p, q, WideElems.Trod_stays hl (ht t (by simp)).1 (ht t (by simp)).2 h3 (fun x hx => hb.same (h1 x (by simp [hx]))) (fun x hx => h2 x (by simp [hx])),
      stays hl hb ts vs' ds' q (fun t' hm => ht t' (by simp [hm])) (fun x hx => h1 x (by simp [hx])) (fun x hx => h2 x (by simp [hx])) h4, rfl⟩
theorem trod_len : ∀ {ts : List TypeId} {vs : List Value} {ds : List (DataW H)} {ps : List MemPlace}, DataW.TrodAll enc P w 0 (fun _ => true) true ts vs ds ps → ds.length = ts.length
  | [], _, _, _, h => by obtain ⟨rfl, rfl, rfl⟩ := trodAll_nil h; rfl
  | _ :: _, _, _, _, h => by
    obtain ⟨v, vs', d, ds', p, q, rfl, rfl, rfl, _, h4⟩ := trodAll_cons h
    simp [trod_len h4]
theorem law_calls (hT : TOk P T) {B : Nat} (hBm : B ≤ maxLen) {f : FuncId} {fn : Func} {s : ChangeSpec} {ls : List (List Shp)} {n : Nat} {tb : TypeId} {ts : List TypeId} (hp : fn.params.toList = ts) (hr : fn.resultTypes = #[tb]) (htb : P.underlying tb = some .bool)
    (hsv : s.vars = []) (hs : ∀ (ds : List (DataW H)), ds.length = ts.length → s.fn H ds = { results := [.lit (.bool true)], args := ds })
    (hl : laidOutB P = true) (hts : ∀ t ∈ ts, P.readableRec t = true ∧ t < P.types.size) (hsh : shapes T n ts = some ls)
    (hlaw : ∀ xs, TyAs T B ts ls xs → FSpec P T f xs (fun d _ => d = .b True))
    (W : World) (base : Nat) (args : Array Value) (ds gs : List (DataW H)) (before : List MemPlace)
    (hval : ∀ (j : Nat) t v, fn.params[j]? = some t → args[j]? = some v → Value.okWide P W .any base t v)
    (hW : DataW.Whole enc P fn.params.toList s.vars false W args.toList ds gs before) (hB : B = maxLen ∨ Rows.uptoBulkAll (ds ++ gs) ≤ B)
    (hgl : VLe glV (heapV W) := by intro p v hp; unfold glV glD at hp; split at hp <;> cases hp) :
    Calls P f args W fun e W' => ∃ v, e = .returned v ∧ s.post enc P fn false true false false W args v W' := by
  have hlt := hW.lt
  obtain ⟨p, q, hA, hV, rfl, hfz, hnd⟩ := id hW
  rw [hsv] at hV
  obtain ⟨rfl, rfl⟩ := trodVars_none hV
  simp only [List.append_nil] at hlt hB hfz
  rw [hp] at hA
  obtain ⟨xs, h1, h2, h3⟩ := args_ri hT hBm ts ls args.toList ds p hsh hB (fun j t v a b => hval j t v (by rw [← hp] at a; simpa using a) (by simpa using b)) hA
  have hdl : ds.length = ts.length := trod_len hA
  refine ((hlaw xs h1).run (heapV W) W args ⟨hgl, fun _ _ h => h⟩ (by simpa using h2) (fun j v d a b => h3 j v d (by simpa using a) b)).mono fun e W' hx => ?_
  obtain ⟨V', ω, row, v, d, rfl, hd, hRS, hres⟩ := hx
  subst hd
  obtain ⟨b, rfl, hbt⟩ := hRS.bool
  have hbt : b = true := hbt.2 trivial
  subst hbt
  refine ⟨_, rfl, ?_⟩
  have hb := hres.below
  have hargs : ∀ sp : Nat → Bool, (∀ x ∈ p, sp x.block = true) → DataW.TrodAll enc P W' 0 sp true fn.params.toList args.toList ds p := fun sp hsp => by
    rw [hp]; exact stays hl hb ts args.toList ds p hts hlt hsp hA
  have hrs : ∀ (b : Nat) (sp : Nat → Bool) (hd : Bool), DataW.TrodAll enc P W' b sp hd fn.resultTypes.toList ((Value.bool true).resultList fn.resultTypes.size) [.lit (.bool true)] [] := fun b sp hd => by
    rw [hr]
    exact trodAll_mk1 (shut_bool htb _)
  have hsf := hs ds hdl
  refine ⟨ds, [], p, [], p, [], by simpa using hW, ?_, ?_, ?_, ?_, ?_⟩
  · rw [List.append_nil, hsf]; exact hrs _ _ _
  · rw [List.append_nil, hsf]; exact hargs _ fun x hx => by simpa using hlt x hx
  · rw [hsv, List.append_nil, hsf]; exact rfl
  · exact World.keptBut_mono (fun x hx => ⟨hx, by simpa using hx⟩) (hb.frame (· ∈ p))
  · intro _
    refine ⟨?_, ?_⟩
    · exact ok_one hr rfl (okWide_bool_mk htb _)
    · refine ⟨_, [], ([] ++ p) ++ [], ⟨[] ++ p, [], trodAll_append (hargs _ (fun _ _ => rfl)) (hrs 0 _ _), ?_, rfl, ?_, fun h => by cases h⟩, fun x hx _ => by simpa using hx⟩
      · rw [hsv]; rfl
      · intro b off hx
        have hin : MemPlace.cell b off ∈ p := by simpa using hx
        rw [hb.frozen (hlt _ hin)]
        exact hfz b off hin
end
end Go.Vx
namespace Go.Vx
open Go.RowKit
theorem ss_cons {B : Nat} {s : Shp} {ss : List Shp} {r : List D} (h : TySs B (s :: ss) r) : ∃ d ds, r = d :: ds ∧ TySs B [s] [d] ∧ TySs B ss ds := by
  cases r with
  | nil => simp [TySs] at h
  | cons d ds => simp only [TySs] at h; exact ⟨d, ds, rfl, by simpa only [TySs, and_true] using h.1, h.2⟩
theorem ss_nil {B : Nat} {r : List D} (h : TySs B [] r) : r = [] := by
  cases r with
  | nil => rfl
  | cons d ds => simp [TySs] at h
theorem as_cons {T : Tab} {B : Nat} {t : TypeId} {ts : List TypeId} {l : List Shp} {ls : List (List Shp)} {xs : List D} (h : TyAs T B (t :: ts) (l :: ls) xs) : ∃ x r, xs = x :: r ∧ TyA T B t l x ∧ TyAs T B ts ls r := by
  cases xs with
  | nil => exact h.elim
  | cons x r => exact ⟨x, r, rfl, h.1, h.2⟩
theorem as_nil {T : Tab} {B : Nat} {xs : List D} (h : TyAs T B [] [] xs) : xs = [] := by
  cases xs with
  | nil => rfl
  | cons x r => exact h.elim
def isSt : Option TI → Bool | some ⟨_, _, .struct _, _⟩ => true | _ => false
theorem leaf {T : Tab} {B : Nat} {t : TypeId} {l : List Shp} {x : D} (h : TyA T B t l x) (ht : isSt (T t) = false) : TySs B l [x] := by
  unfold TyA at h
  split at h
  · rename_i h1; rw [h1] at ht; cases ht
  · exact h
theorem list_of {α : Type} {f : α → List D} {p : α → Prop} : ∀ {rows : List (List D)}, (∀ r ∈ rows, ∃ a, r = f a ∧ p a) → ∃ l : List α, rows = l.map f ∧ ∀ a ∈ l, p a
  | [], _ => ⟨[], rfl, by simp⟩
  | r :: rows, h => by
    obtain ⟨a, rfl, ha⟩ := h r (by simp)
    obtain ⟨l, rfl, hl⟩ := list_of (rows := rows) fun r hr => h r (by simp [hr])
    exact ⟨a :: l, rfl, by simpa using ⟨ha, hl⟩⟩
theorem lst_of {B : Nat} {α : Type} {f : α → List D} {p : α → Prop} {e : TypeId} {l : List Shp} {x : D} (h : TySs B [.slice e l] [x]) (hf : ∀ r, TySs B l r → ∃ a, r = f a ∧ p a) :
    ∃ (us : List α) (room : List α), x = .lst e (us.map f) (room.map f) ∧ us.length + room.length ≤ B ∧ (∀ a ∈ us, p a) ∧ ∀ a ∈ room, p a := by
  simp only [TySs, TyS, and_true] at h
  obtain ⟨rows, room, rfl, hl, hr⟩ := h
  obtain ⟨us, rfl, h1⟩ := list_of (f := f) (p := p) (rows := rows) fun r h => hf r (hr r (by simp [h]))
  obtain ⟨bs, rfl, h2⟩ := list_of (f := f) (p := p) (rows := room) fun r h => hf r (hr r (by simp [h]))
  exact ⟨us, bs, rfl, by simpa using hl, h1, h2⟩
theorem int_of {B : Nat} {k : IntKind} {x : D} (h : TySs B [.int k] [x]) : ∃ n, x = .i k n ∧ (Lit.int k n).wf = true := by
  simpa only [TySs, TyS, and_true] using h
theorem str_of {B : Nat} {x : D} (h : TySs B [.str] [x]) : ∃ l, x = .s l ∧ l.length ≤ B := by
  simpa only [TySs, TyS, and_true] using h
end Go.Vx
namespace Go.Proofs.YtagmibogginaaaaGreatDoor
open Go
abbrev Str := List UInt8
def meet1 (a b : UInt8) : Option UInt8 := if a = 120 then some b else if b = 120 ∨ b = a then some a else none
def meetL : Str → Str → Option Str
  | [], [] => some []
  | a :: c, b :: d => match meet1 a b, meetL c d with
    | some x, some r => some (x :: r)
    | _, _ => none
  | _, _ => none
def meetT (c d : Str) : Option Str := if c = [] then none else meetL c d
def inL : Str → Str → Prop
  | [], [] => True
  | a :: c, b :: d => (b = 120 ∨ b = a) ∧ inL c d
  | _, _ => False
theorem inL_len : ∀ {c d : Str}, inL c d → c.length = d.length
  | [], [], _ => rfl
  | [], _ :: _, h => h.elim
  | _ :: _, [], h => h.elim
  | _ :: _, _ :: _, h => by simp [inL_len h.2]
theorem meetL_len : ∀ {c d m : Str}, meetL c d = some m → c.length = m.length ∧ d.length = m.length
  | [], [], m, h => by cases h; exact ⟨rfl, rfl⟩
  | [], _ :: _, _, h => by cases h
  | _ :: _, [], _, h => by cases h
  | a :: c, b :: d, m, h => by
    unfold meetL at h
    cases h1 : meet1 a b with
    | none => rw [h1] at h; cases h
    | some x => cases h2 : meetL c d with
      | none => rw [h1, h2] at h; cases h
      | some r =>
        rw [h1, h2] at h
        cases h
        have := meetL_len h2
        simp [this.1, this.2]
open Classical in
noncomputable def addG {α : Type} (R : α → α → Prop) (k : List α) (x : α) : List α := if ∃ y ∈ k, R x y then k else k.filter (fun y => decide (¬ R y x)) ++ [x]
noncomputable def grG {α : Type} (R : α → α → Prop) (l : List α) : List α := l.foldl (addG R) []
structure Anti {α : Type} (R : α → α → Prop) (l k : List α) : Prop where
  sub : ∀ x ∈ k, x ∈ l
  anti : k.Pairwise fun x y => ¬ R x y ∧ ¬ R y x
  cov : ∀ x ∈ l, ∃ y ∈ k, R x y
theorem Anti.mem_iff {α : Type} {R : α → α → Prop} (ht : ∀ x y z, R x y → R y z → R x z) (ha : ∀ x y, R x y → R y x → x = y) {l k k' : List α} (h : Anti R l k) (h' : Anti R l k') (x : α) : x ∈ k → x ∈ k' := by
  intro hx
  obtain ⟨y, hy, hxy⟩ := h'.cov x (h.sub x hx)
  obtain ⟨z, hz, hyz⟩ := h.cov y (h'.sub y hy)
  have hxz : x = z := by
    apply Classical.byContradiction
    intro hne
    have hR := ht _ _ _ hxy hyz
    obtain ⟨i, hi, rfl⟩ := List.getElem_of_mem hx
    obtain ⟨j, hj, rfl⟩ := List.getElem_of_mem hz
    have hij : i ≠ j := fun e => hne (by subst e; rfl)
    rcases Nat.lt_or_gt_of_ne hij with hlt | hgt
    · exact (List.pairwise_iff_getElem.1 h.anti i j hi hj hlt).1 hR
    · exact (List.pairwise_iff_getElem.1 h.anti j i hj hi hgt).2 hR
  subst hxz
  rw [ha _ _ hxy hyz]
  exact hy
theorem Anti.nodup {α : Type} {R : α → α → Prop} (hr : ∀ x, R x x) {l k : List α} (h : Anti R l k) : k.Nodup :=
  h.anti.imp fun {a b} hab e => hab.1 (by rw [e]; exact hr b)
theorem Anti.perm {α : Type} {R : α → α → Prop} (hr : ∀ x, R x x) (ht : ∀ x y z, R x y → R y z → R x z) (ha : ∀ x y, R x y → R y x → x = y) {l k k' : List α} (h : Anti R l k) (h' : Anti R l k') : k.Perm k' :=
  (List.perm_ext_iff_of_nodup (h.nodup hr) (h'.nodup hr)).2 fun x => ⟨h.mem_iff ht ha h' x, h'.mem_iff ht ha h x⟩
open Classical in
noncomputable def insG {α : Type} (L : α → α → Prop) (c : α) : List α → List α
  | [] => [c]
  | x :: r => if L c x then c :: x :: r else x :: insG L c r
theorem bl_eq : ∀ (x y : Str), Op.bytesLess x y = true ↔ x < y
  | [], [] => by simp [Op.bytesLess]
  | _ :: _, [] => by simp [Op.bytesLess]
  | [], _ :: _ => by simp [Op.bytesLess]
  | a :: x, b :: y => by
    simp only [Op.bytesLess, Bool.or_eq_true, Bool.and_eq_true, decide_eq_true_eq, beq_iff_eq, bl_eq x y, List.cons_lt_cons_iff]
theorem bl_total {x y : Str} (h : x ≠ y) : Op.bytesLess x y = true ∨ Op.bytesLess y x = true := by
  rw [bl_eq, bl_eq]
  by_cases h1 : x < y
  · exact .inl h1
  · right
    rcases List.le_iff_lt_or_eq.1 (List.not_lt.1 h1) with h2 | h2
    · exact h2
    · exact absurd h2.symm h
def lexL : List Str → List Str → Prop
  | _, [] => False
  | [], _ :: _ => True
  | x :: a, y :: b => Op.bytesLess x y = true ∨ (x = y ∧ lexL a b)
structure Term where
  p : Str
  less : List Str
def Term.wide (n : Nat) (t : Term) : Prop := t.p.length = n ∧ ∀ m ∈ t.less, m.length = n
def aheadT (t u : Term) : Prop := lexL (t.p :: t.less) (u.p :: u.less)
theorem lexL_total : ∀ {a b : List Str}, a ≠ b → lexL a b ∨ lexL b a
  | [], [], h => absurd rfl h
  | [], _ :: _, _ => .inl trivial
  | _ :: _, [], _ => .inr trivial
  | x :: a, y :: b, h => by
    by_cases hxy : x = y
    · subst hxy
      rcases lexL_total (a := a) (b := b) (fun e => h (by rw [e])) with k | k
      · exact .inl (.inr ⟨rfl, k⟩)
      · exact .inr (.inr ⟨rfl, k⟩)
    · rcases bl_total hxy with k | k
      · exact .inl (.inl k)
      · exact .inr (.inl k)
theorem ahead_total {t u : Term} (h : t ≠ u) : aheadT t u ∨ aheadT u t := lexL_total fun e => h (by
  obtain ⟨p, l⟩ := t
  obtain ⟨q, m⟩ := u
  simp at e
  rw [e.1, e.2])
structure Term.Ok (n : Nat) (t : Term) : Prop where
  pos : 0 < n
  p : t.p.length = n
  less : ∀ m ∈ t.less, inL m t.p
theorem Term.Ok.wide {n : Nat} {t : Term} (h : t.Ok n) : t.wide n := ⟨h.p, fun m hm => by rw [inL_len (h.less m hm), h.p]⟩
end Go.Proofs.YtagmibogginaaaaGreatDoor
namespace Go.Proofs.YtagmibogginaaaaGreatDoor
open Go Go.Vx
def wof (f : Nat → Bool) (k : Nat) : BitVec 64 := (BitVec.ofBoolListLE ((List.range 64).map fun i => f (64 * k + i))).setWidth 64
theorem wof_get (f : Nat → Bool) (k i : Nat) (h : i < 64) : (wof f k).getLsbD i = f (64 * k + i) := by
  unfold wof
  rw [BitVec.getLsbD_setWidth, BitVec.getLsbD_ofBoolListLE]
  simp [h, List.getD]
theorem wof_ext {f g : Nat → Bool} {k : Nat} (h : ∀ i, i < 64 → f (64 * k + i) = g (64 * k + i)) : wof f k = wof g k :=
  BitVec.eq_of_getLsbD_eq fun i hi => by rw [wof_get _ _ _ hi, wof_get _ _ _ hi]; exact h i hi
theorem bv_id (x : BitVec 64) : BitVec.ofInt IntKind.u64.bits (x.toNat : Int) = x := by
  show BitVec.ofInt 64 (x.toNat : Int) = x
  simp
theorem wrap_id (x : BitVec 64) : IntKind.u64.wrap (x.toNat : Int) = (x.toNat : Int) := by
  have := x.isLt
  simp [IntKind.wrap, IntKind.bits, IntKind.signed]
  omega
section
variable {p : Int → Prop} {x y : BitVec 64}
theorem nAnd (h : p ((x &&& y).toNat : Int)) : ∃ n, n = IntKind.u64.wrap ((BitVec.ofInt IntKind.u64.bits (x.toNat : Int) &&& BitVec.ofInt IntKind.u64.bits (y.toNat : Int)).toNat : Int) ∧ p n := ⟨_, rfl, by
  have key : ∀ (a b : BitVec 64), a = x → b = y → IntKind.u64.wrap ((a &&& b).toNat : Int) = (((x &&& y) : BitVec 64).toNat : Int) := by
    rintro _ _ rfl rfl
    exact wrap_id _
  exact (congrArg p (key _ _ (bv_id x) (bv_id y))).mpr h⟩
theorem nOr (h : p ((x ||| y).toNat : Int)) : ∃ n, n = IntKind.u64.wrap ((BitVec.ofInt IntKind.u64.bits (x.toNat : Int) ||| BitVec.ofInt IntKind.u64.bits (y.toNat : Int)).toNat : Int) ∧ p n := ⟨_, rfl, by
  have key : ∀ (a b : BitVec 64), a = x → b = y → IntKind.u64.wrap ((a ||| b).toNat : Int) = (((x ||| y) : BitVec 64).toNat : Int) := by
    rintro _ _ rfl rfl
    exact wrap_id _
  exact (congrArg p (key _ _ (bv_id x) (bv_id y))).mpr h⟩
theorem nXor (h : p ((x ^^^ y).toNat : Int)) : ∃ n, n = IntKind.u64.wrap ((BitVec.ofInt IntKind.u64.bits (x.toNat : Int) ^^^ BitVec.ofInt IntKind.u64.bits (y.toNat : Int)).toNat : Int) ∧ p n := ⟨_, rfl, by
  have key : ∀ (a b : BitVec 64), a = x → b = y → IntKind.u64.wrap ((a ^^^ b).toNat : Int) = (((x ^^^ y) : BitVec 64).toNat : Int) := by
    rintro _ _ rfl rfl
    exact wrap_id _
  exact (congrArg p (key _ _ (bv_id x) (bv_id y))).mpr h⟩
theorem nAnd1 (h : p ((x &&& 1#64).toNat : Int)) : ∃ n, n = IntKind.u64.wrap ((BitVec.ofInt IntKind.u64.bits (x.toNat : Int) &&& BitVec.ofInt IntKind.u64.bits 1).toNat : Int) ∧ p n := by
  have : ((1#64 : BitVec 64).toNat : Int) = 1 := rfl
  have h2 := nAnd (p := p) (x := x) (y := 1#64) h
  rwa [this] at h2
theorem nShr {r : Int} {k : Nat} (hr : r = (k : Int) ∧ k < 64) (h : p ((x >>> k).toNat : Int)) : ∃ n, n = (x.toNat : Int).fdiv (2 ^ (min r.toNat IntKind.u64.bits)) ∧ p n := by
  refine ⟨_, rfl, ?_⟩
  obtain ⟨rfl, hk⟩ := hr
  have e1 : min ((k : Int).toNat) IntKind.u64.bits = k := by
    show min k 64 = k
    omega
  rw [e1]
  have e2 : ((x.toNat : Int).fdiv (2 ^ k)) = ((x >>> k).toNat : Int) := by
    rw [BitVec.toNat_ushiftRight, Nat.shiftRight_eq_div_pow, Int.fdiv_eq_ediv_of_nonneg _ (Int.pow_nonneg (by omega))]
    push_cast
    rfl
  rw [e2]
  exact h
theorem nShl1 {r : Int} {k : Nat} (hr : r = (k : Int) ∧ k < 64) (h : p ((1#64 <<< k).toNat : Int)) : ∃ n, n = IntKind.u64.wrap (1 * 2 ^ (min r.toNat IntKind.u64.bits)) ∧ p n := by
  refine ⟨_, rfl, ?_⟩
  obtain ⟨rfl, hk⟩ := hr
  have e1 : min ((k : Int).toNat) IntKind.u64.bits = k := by
    show min k 64 = k
    omega
  rw [e1]
  have hlt : 2 ^ k < 2 ^ 64 := Nat.pow_lt_pow_right (by omega) hk
  have e2 : (1 * 2 ^ k : Int) = ((1#64 <<< k).toNat : Int) := by
    rw [BitVec.toNat_shiftLeft, Nat.shiftLeft_eq]
    simp only [BitVec.toNat_ofNat]
    rw [show (1 % 2 ^ 64 * 2 ^ k) % 2 ^ 64 = 2 ^ k by rw [Nat.mod_eq_of_lt (a := 1) (by decide), Nat.one_mul, Nat.mod_eq_of_lt hlt]]
    push_cast
    omega
  rw [e2, wrap_id]
  exact h
end
theorem nAnd1' {p : Int → Prop} {x : BitVec 64} {c : Int} (hc : c = 1) (h : p ((x &&& 1#64).toNat : Int)) : ∃ n, n = IntKind.u64.wrap ((BitVec.ofInt IntKind.u64.bits (x.toNat : Int) &&& BitVec.ofInt IntKind.u64.bits c).toNat : Int) ∧ p n := by
  subst hc; exact nAnd1 h
theorem nShl1' {p : Int → Prop} {r c : Int} {k : Nat} (hc : c = 1) (hr : r = (k : Int) ∧ k < 64) (h : p ((1#64 <<< k).toNat : Int)) : ∃ n, n = IntKind.u64.wrap (c * 2 ^ (min r.toNat IntKind.u64.bits)) ∧ p n := by
  subst hc; exact nShl1 hr h
theorem bit_at (x : BitVec 64) (k : Nat) : (((x >>> k) &&& 1#64).toNat : Int) = 1 ↔ x.getLsbD k = true := by
  have h1 : ((x >>> k) &&& 1#64).toNat = (x.getLsbD k).toNat := by
    rw [BitVec.toNat_and, BitVec.toNat_ushiftRight]
    simp only [BitVec.toNat_ofNat]
    rw [show 1 % 2 ^ 64 = 1 from rfl, Nat.and_one_is_mod, BitVec.getLsbD, Nat.testBit]
    simp
    have := Nat.mod_two_eq_zero_or_one (x.toNat >>> k)
    rcases this with h | h <;> simp [h]
  rw [h1]
  cases x.getLsbD k <;> simp
theorem quo64 {i q r : Nat} (h : i = 64 * q + r) (hr : r < 64) (hi : i < 1000) : (q : Int) = IntKind.i64.wrap ((i : Int).tdiv 64) := by
  subst h
  have e : ((64 * q + r : Nat) : Int).tdiv 64 = (q : Int) := by
    rw [Int.tdiv_eq_ediv_of_nonneg (by omega)]
    omega
  rw [e, IntKind.wrap_i64]
  omega
theorem rem64 {i q r : Nat} (h : i = 64 * q + r) (hr : r < 64) : (r : Int) = ((i : Int).tmod 64) := by
  subst h
  rw [Int.tmod_eq_emod_of_nonneg (by omega)]
  omega
theorem word_nz {x : BitVec 64} : ((x.toNat : Int) ≠ 0) ↔ ∃ i, i < 64 ∧ x.getLsbD i = true := by
  constructor
  · intro h
    apply Classical.byContradiction
    intro hn
    apply h
    have : x = 0#64 := BitVec.eq_of_getLsbD_eq fun i hi => by
      cases hx : x.getLsbD i
      · simp
      · exact absurd ⟨i, hi, hx⟩ hn
    rw [this]
    rfl
  · rintro ⟨i, hi, h⟩ h0
    have : x = 0#64 := BitVec.eq_of_toNat_eq (by simpa using h0)
    rw [this] at h
    simp at h
def dig (b : UInt8) : Bool := b == 48 || b == 49
def car (t : Str) (i : Nat) : Bool := match t[i]? with | some b => dig b | none => false
def one (t : Str) (i : Nat) : Bool := match t[i]? with | some b => b == 49 | none => false
@[reducible] def cells9 (n : Nat) (c o : Nat → Bool) : List D := [.i .i64 (n : Int), .i .u64 ((wof c 0).toNat : Int), .i .u64 ((wof c 1).toNat : Int), .i .u64 ((wof c 2).toNat : Int), .i .u64 ((wof c 3).toNat : Int), .i .u64 ((wof o 0).toNat : Int), .i .u64 ((wof o 1).toNat : Int), .i .u64 ((wof o 2).toNat : Int), .i .u64 ((wof o 3).toNat : Int)]
@[reducible] def crow (t : Str) : List D := cells9 t.length (car t) (one t)
structure CT (t : Str) : Prop where
  len : t.length ≤ 256
  cub : ∀ b ∈ t, b = 48 ∨ b = 49 ∨ b = 120
theorem CT.nil : CT [] := ⟨by simp, by simp⟩
theorem crow_nil : crow [] = [.i .i64 0, .i .u64 0, .i .u64 0, .i .u64 0, .i .u64 0, .i .u64 0, .i .u64 0, .i .u64 0, .i .u64 0] := by
  have h : ∀ k, wof (car []) k = 0#64 := fun k => BitVec.eq_of_getLsbD_eq fun i hi => by rw [wof_get _ _ _ hi]; simp [car]
  have h2 : ∀ k, wof (one []) k = 0#64 := fun k => BitVec.eq_of_getLsbD_eq fun i hi => by rw [wof_get _ _ _ hi]; simp [one]
  simp [h, h2]
theorem car_lt {t : Str} {i : Nat} (h : car t i = true) : i < t.length := by
  unfold car at h
  split at h
  · rename_i b hb; exact (List.getElem?_eq_some_iff.1 hb).1
  · cases h
theorem put_word {f g : Nat → Bool} {i q r : Nat} (hi : i = 64 * q + r) (hr : r < 64) (hg : ∀ j, g j = (f j || decide (j = i))) (k : Nat) : wof g k = if k = q then wof f k ||| 1#64 <<< r else wof f k := by
  refine BitVec.eq_of_getLsbD_eq fun j hj => ?_
  rw [wof_get _ _ _ hj, hg]
  split
  · rename_i hk
    subst hk
    rw [BitVec.getLsbD_or, wof_get _ _ _ hj, BitVec.getLsbD_shiftLeft, BitVec.getLsbD_one]
    congr 1
    by_cases hjr : j = r
    · subst hjr; simp [hi, hj]
    · have h1 : ¬ 64 * k + j = i := by omega
      have h2 : ¬ (j - r = 0 ∧ ¬ j < r) := by omega
      simp [h1, hj]
      omega
  · rename_i hk
    rw [wof_get _ _ _ hj]
    have h1 : ¬ 64 * k + j = i := by omega
    simp [h1]
theorem take_get {t : Str} {i : Nat} {b : UInt8} (h : t[i]? = some b) (j : Nat) : (t.take (i + 1))[j]? = if j = i then some b else (t.take i)[j]? := by
  rw [List.getElem?_take, List.getElem?_take]
  by_cases hj : j = i
  · subst hj; simp [h]
  · by_cases h2 : j < i
    · simp [hj, h2, show j < i + 1 by omega]
    · simp [hj, h2, show ¬ j < i + 1 by omega]
theorem car_at_end (t : Str) (i : Nat) : car (t.take i) i = false := by
  unfold car
  rw [List.getElem?_take]
  simp
theorem one_at_end (t : Str) (i : Nat) : one (t.take i) i = false := by
  unfold one
  rw [List.getElem?_take]
  simp
theorem car_put {t : Str} {i : Nat} {b : UInt8} (h : t[i]? = some b) (hd : dig b = true) (j : Nat) : car (t.take (i + 1)) j = (car (t.take i) j || decide (j = i)) := by
  by_cases hj : j = i
  · subst hj
    rw [car_at_end]
    unfold car
    rw [take_get h]
    simp [hd]
  · unfold car
    rw [take_get h]
    simp [hj]
theorem one_put {t : Str} {i : Nat} (h : t[i]? = some 49) (j : Nat) : one (t.take (i + 1)) j = (one (t.take i) j || decide (j = i)) := by
  by_cases hj : j = i
  · subst hj
    rw [one_at_end]
    unfold one
    rw [take_get h]
    simp
  · unfold one
    rw [take_get h]
    simp [hj]
theorem car_same {t : Str} {i : Nat} {b : UInt8} (h : t[i]? = some b) (hd : dig b = false) (k : Nat) : wof (car (t.take (i + 1))) k = wof (car (t.take i)) k := by
  refine wof_ext fun j _ => ?_
  generalize 64 * k + j = m
  by_cases hj : m = i
  · subst hj
    rw [car_at_end]
    unfold car
    rw [take_get h]
    simp [hd]
  · unfold car
    rw [take_get h]
    simp [hj]
theorem one_same {t : Str} {i : Nat} {b : UInt8} (h : t[i]? = some b) (hd : b ≠ 49) (k : Nat) : wof (one (t.take (i + 1))) k = wof (one (t.take i)) k := by
  refine wof_ext fun j _ => ?_
  generalize 64 * k + j = m
  by_cases hj : m = i
  · subst hj
    rw [one_at_end]
    unfold one
    rw [take_get h]
    simp [hd]
  · unfold one
    rw [take_get h]
    simp [hj]
theorem at_word {f : Nat → Bool} {i q r : Nat} (hi : i = 64 * q + r) (hr : r < 64) : ((((wof f q) >>> r) &&& 1#64).toNat : Int) = 1 ↔ f i = true := by
  rw [bit_at, wof_get _ _ _ hr, hi]
theorem split64 (i : Nat) (h : i < 256) : ∃ q r, i = 64 * q + r ∧ r < 64 ∧ (q = 0 ∨ q = 1 ∨ q = 2 ∨ q = 3) := ⟨i / 64, i % 64, by omega, by omega, by omega⟩
end Go.Proofs.YtagmibogginaaaaGreatDoor
namespace Go.Proofs.YtagmibogginaaaaGreatDoor
open Go Go.Vx
theorem meetL_get : ∀ {c d m : Str}, meetL c d = some m → ∀ (i : Nat) a b, c[i]? = some a → d[i]? = some b → ∃ x, m[i]? = some x ∧ meet1 a b = some x
  | [], [], _, _, i, a, b, ha, _ => by simp at ha
  | [], _ :: _, _, h, _, _, _, _, _ => by cases h
  | _ :: _, [], _, h, _, _, _, _, _ => by cases h
  | a0 :: c, b0 :: d, m, h, i, a, b, ha, hb => by
    unfold meetL at h
    cases h1 : meet1 a0 b0 with
    | none => rw [h1] at h; cases h
    | some x => cases h2 : meetL c d with
      | none => rw [h1, h2] at h; cases h
      | some r =>
        rw [h1, h2] at h
        cases h
        cases i with
        | zero => simp at ha hb; subst ha hb; exact ⟨x, rfl, h1⟩
        | succ i => exact meetL_get h2 i a b (by simpa using ha) (by simpa using hb)
theorem meetL_ex : ∀ {c d : Str}, c.length = d.length → (∀ (i : Nat) a b, c[i]? = some a → d[i]? = some b → meet1 a b ≠ none) → ∃ m, meetL c d = some m
  | [], [], _, _ => ⟨[], rfl⟩
  | [], _ :: _, h, _ => by simp at h
  | _ :: _, [], h, _ => by simp at h
  | a :: c, b :: d, h, hh => by
    obtain ⟨m, hm⟩ := meetL_ex (c := c) (d := d) (by simpa using h) fun i a b ha hb => hh (i + 1) a b (by simpa using ha) (by simpa using hb)
    have := hh 0 a b rfl rfl
    cases h1 : meet1 a b with
    | none => exact absurd h1 this
    | some x => exact ⟨x :: m, by unfold meetL; rw [h1, hm]⟩
theorem meetL_ct : ∀ {c d m : Str}, meetL c d = some m → (∀ b ∈ c, b = 48 ∨ b = 49 ∨ b = 120) → (∀ b ∈ d, b = 48 ∨ b = 49 ∨ b = 120) → ∀ b ∈ m, b = 48 ∨ b = 49 ∨ b = 120
  | [], [], m, h, _, _ => by cases h; simp
  | [], _ :: _, _, h, _, _ => by cases h
  | _ :: _, [], _, h, _, _ => by cases h
  | a0 :: c, b0 :: d, m, h, hc, hd => by
    unfold meetL at h
    cases h1 : meet1 a0 b0 with
    | none => rw [h1] at h; cases h
    | some x => cases h2 : meetL c d with
      | none => rw [h1, h2] at h; cases h
      | some r =>
        rw [h1, h2] at h
        cases h
        intro b hb
        rcases List.mem_cons.1 hb with rfl | hb
        · unfold meet1 at h1
          split at h1
          · cases h1; exact hd _ (by simp)
          · split at h1
            · cases h1; exact hc _ (by simp)
            · cases h1
        · exact meetL_ct h2 (fun b hb => hc b (by simp [hb])) (fun b hb => hd b (by simp [hb])) b hb
theorem meetT_ct {c d m : Str} (h : meetT c d = some m) (hc : CT c) (hd : CT d) : CT m ∧ m.length = c.length ∧ c ≠ [] := by
  unfold meetT at h
  split at h
  · cases h
  · rename_i hne
    have hl := meetL_len h
    exact ⟨⟨by rw [← hl.1]; exact hc.len, meetL_ct h hc.cub hd.cub⟩, hl.1.symm, hne⟩
theorem meetT_eq {c d : Str} (h : c ≠ []) : meetT c d = meetL c d := by unfold meetT; rw [if_neg h]
def cfl (c d : Str) (i : Nat) : Bool := (xor (one c i) (one d i) && car c i) && car d i
theorem word_cfl (c d : Str) (k : Nat) : (((wof (one c) k ^^^ wof (one d) k) &&& wof (car c) k) &&& wof (car d) k) = wof (cfl c d) k := by
  refine BitVec.eq_of_getLsbD_eq fun i hi => ?_
  rw [BitVec.getLsbD_and, BitVec.getLsbD_and, BitVec.getLsbD_xor, wof_get _ _ _ hi, wof_get _ _ _ hi, wof_get _ _ _ hi, wof_get _ _ _ hi, wof_get _ _ _ hi]
  rfl
theorem at_b {t : Str} {i : Nat} {b : UInt8} (h : t[i]? = some b) : car t i = dig b ∧ one t i = (b == 49) := by
  unfold car one
  rw [h]
  exact ⟨rfl, rfl⟩
theorem at_out {t : Str} {i : Nat} (h : t.length ≤ i) : car t i = false ∧ one t i = false := by
  unfold car one
  rw [List.getElem?_eq_none h]
  exact ⟨rfl, rfl⟩
theorem meet1_cfl {a b : UInt8} (ha : a = 48 ∨ a = 49 ∨ a = 120) (hb : b = 48 ∨ b = 49 ∨ b = 120) : meet1 a b = none ↔ ((xor (a == 49) (b == 49) && dig a) && dig b) = true := by
  rcases ha with rfl | rfl | rfl <;> rcases hb with rfl | rfl | rfl <;> simp [meet1, dig]
theorem meet1_bits {a b x : UInt8} (ha : a = 48 ∨ a = 49 ∨ a = 120) (hb : b = 48 ∨ b = 49 ∨ b = 120) (h : meet1 a b = some x) : dig x = (dig a || dig b) ∧ (x == 49) = ((a == 49) || (b == 49)) := by
  rcases ha with rfl | rfl | rfl <;> rcases hb with rfl | rfl | rfl <;> simp [meet1] at h <;> subst h <;> simp [dig]
theorem cfl_none {c d : Str} (hc : CT c) (hd : CT d) {i : Nat} (h : cfl c d i = true) : meetT c d = none := by
  unfold meetT
  split
  · rfl
  · cases hm : meetL c d with
    | none => rfl
    | some m =>
      exfalso
      unfold cfl at h
      simp only [Bool.and_eq_true] at h
      have h1 := car_lt h.1.2
      have h2 := car_lt h.2
      have e1 := List.getElem?_eq_getElem h1
      have e2 := List.getElem?_eq_getElem h2
      obtain ⟨x, _, hx⟩ := meetL_get hm i _ _ e1 e2
      have := (meet1_cfl (hc.cub _ (List.getElem_mem h1)) (hd.cub _ (List.getElem_mem h2))).2 (by
        rw [(at_b e1).2, (at_b e2).2, (at_b e1).1, (at_b e2).1] at h
        simp [h.1.1, h.1.2, h.2])
      rw [this] at hx
      cases hx
theorem cfl_some {c d : Str} (hc : CT c) (hd : CT d) (hl : c.length = d.length) (hne : c ≠ []) (h : ∀ i, cfl c d i = false) : ∃ m, meetT c d = some m ∧ (∀ i, car m i = (car c i || car d i)) ∧ ∀ i, one m i = (one c i || one d i) := by
  obtain ⟨m, hm⟩ := meetL_ex hl fun i a b ha hb hn => by
    have h1 := (meet1_cfl (hc.cub _ (List.mem_of_getElem? ha)) (hd.cub _ (List.mem_of_getElem? hb))).1 hn
    have h2 := h i
    unfold cfl at h2
    rw [(at_b ha).2, (at_b hb).2, (at_b ha).1, (at_b hb).1, h1] at h2
    cases h2
  have key : ∀ i, car m i = (car c i || car d i) ∧ one m i = (one c i || one d i) := fun i => by
    have hlm := meetL_len hm
    by_cases hi : i < c.length
    · have e1 := List.getElem?_eq_getElem hi
      have e2 := List.getElem?_eq_getElem (show i < d.length by omega)
      obtain ⟨x, hx, hxx⟩ := meetL_get hm i _ _ e1 e2
      have := meet1_bits (hc.cub _ (List.getElem_mem hi)) (hd.cub _ (List.getElem_mem (show i < d.length by omega))) hxx
      rw [(at_b e1).1, (at_b e2).1, (at_b e1).2, (at_b e2).2, (at_b hx).1, (at_b hx).2]
      exact this
    · have h1 := at_out (t := c) (i := i) (by omega)
      have h2 := at_out (t := d) (i := i) (by omega)
      have h3 := at_out (t := m) (i := i) (by omega)
      rw [h1.1, h1.2, h2.1, h2.2, h3.1, h3.2]
      exact ⟨rfl, rfl⟩
  exact ⟨m, by rw [meetT_eq hne, hm], fun i => (key i).1, fun i => (key i).2⟩
theorem wof_or {f g h : Nat → Bool} (e : ∀ i, h i = (f i || g i)) (k : Nat) : wof h k = wof f k ||| wof g k := by
  refine BitVec.eq_of_getLsbD_eq fun i hi => ?_
  rw [BitVec.getLsbD_or, wof_get _ _ _ hi, wof_get _ _ _ hi, wof_get _ _ _ hi, e]
theorem wof_zero {f : Nat → Bool} {k : Nat} (h : ((wof f k).toNat : Int) = 0) (i : Nat) (hi : i < 64) : f (64 * k + i) = false := by
  rw [← wof_get f k i hi]
  cases hb : (wof f k).getLsbD i
  · rfl
  · exact absurd h (word_nz.2 ⟨i, hi, hb⟩)
theorem wof_nz {f : Nat → Bool} {k : Nat} (h : ¬ ((wof f k).toNat : Int) = 0) : ∃ i, f i = true := by
  obtain ⟨i, hi, hb⟩ := word_nz.1 h
  exact ⟨_, by rw [wof_get _ _ _ hi] at hb; exact hb⟩
theorem no_cfl {c d : Str} (hc : CT c) (h : ∀ k, k < 4 → ((wof (cfl c d) k).toNat : Int) = 0) (i : Nat) : cfl c d i = false := by
  by_cases hi : i < 256
  · obtain ⟨q, r, rfl, hr, hq⟩ := split64 i hi
    exact wof_zero (h q (by omega)) r hr
  · unfold cfl
    have := (at_out (t := c) (i := i) (by have := hc.len; omega)).1
    rw [this]
    simp
def mw (w : Nat) (f g : Nat → Bool) (k : Nat) : BitVec 64 := if k < w then wof f k ||| wof g k else wof f k
@[reducible] def mcells (n w : Nat) (c d : Str) : List D := [.i .i64 (n : Int), .i .u64 ((mw w (car c) (car d) 0).toNat : Int), .i .u64 ((mw w (car c) (car d) 1).toNat : Int), .i .u64 ((mw w (car c) (car d) 2).toNat : Int), .i .u64 ((mw w (car c) (car d) 3).toNat : Int), .i .u64 ((mw w (one c) (one d) 0).toNat : Int), .i .u64 ((mw w (one c) (one d) 1).toNat : Int), .i .u64 ((mw w (one c) (one d) 2).toNat : Int), .i .u64 ((mw w (one c) (one d) 3).toNat : Int)]
theorem mcells_end {c d m : Str} (hl : m.length = c.length) (h1 : ∀ i, car m i = (car c i || car d i)) (h2 : ∀ i, one m i = (one c i || one d i)) : mcells c.length 4 c d = crow m := by
  simp only [mcells, crow, cells9, mw, wof_or h1, wof_or h2, hl]
  rfl
end Go.Proofs.YtagmibogginaaaaGreatDoor
namespace Go.Proofs.YtagmibogginaaaaGreatDoor
open Go Go.Vx
section
variable {α : Type} {R : α → α → Prop}
theorem grG_take {l : List α} {i : Nat} {x : α} (h : l[i]? = some x) : grG R (l.take (i + 1)) = addG R (grG R (l.take i)) x := by
  unfold grG
  rw [List.take_add_one, h]
  simp
theorem addG_in {k : List α} {x : α} (h : ∃ y ∈ k, R x y) : addG R k x = k := by
  unfold addG
  rw [if_pos h]
open Classical in
theorem addG_out {k : List α} {x : α} (h : ∀ y ∈ k, ¬ R x y) : addG R k x = k.filter (fun y => decide (¬ R y x)) ++ [x] := by
  unfold addG
  rw [if_neg fun ⟨y, hy, hxy⟩ => h y hy hxy]
theorem filter_take {p : α → Bool} {k : List α} {j : Nat} {y : α} (h : k[j]? = some y) : (k.take (j + 1)).filter p = (k.take j).filter p ++ (if p y then [y] else []) := by
  rw [List.take_add_one, h, List.filter_append]
  congr 1
  cases hp : p y <;> simp [hp]
structure Kept (R : α → α → Prop) (l : List α) (i : Nat) (W : List α) : Prop where
  le : i ≤ l.length
  tk : W.take (grG R (l.take i)).length = grG R (l.take i)
  n : (grG R (l.take i)).length ≤ W.length
  w : W.length ≤ i
theorem Kept.zero {l : List α} : Kept R l 0 [] := ⟨Nat.zero_le _, by simp [grG], by simp [grG], by simp⟩
theorem Kept.get {l : List α} {i : Nat} {W : List α} (h : Kept R l i W) {j : Nat} (hj : j < (grG R (l.take i)).length) : W[j]? = (grG R (l.take i))[j]? := by
  have := congrArg (fun z : List α => z[j]?) h.tk
  simp only [List.getElem?_take, if_pos hj] at this
  exact this
theorem Kept.skip {l : List α} {i : Nat} {W : List α} (h : Kept R l i W) {x : α} (hx : l[i]? = some x) (hy : ∃ y ∈ grG R (l.take i), R x y) : Kept R l (i + 1) W ∧ grG R (l.take (i + 1)) = grG R (l.take i) := by
  have e : grG R (l.take (i + 1)) = grG R (l.take i) := by rw [grG_take hx, addG_in hy]
  have := (List.getElem?_eq_some_iff.1 hx).1
  exact ⟨⟨by omega, by rw [e]; exact h.tk, by rw [e]; exact h.n, by have := h.w; omega⟩, e⟩
open Classical in
/-- Those of the first j that are not below x. -/
noncomputable def leftOf (R : α → α → Prop) (k : List α) (x : α) (j : Nat) : List α := (k.take j).filter (fun y => decide (¬ R y x))
theorem leftOf_step_keep {k : List α} {x y : α} {j : Nat} (h : k[j]? = some y) (hy : ¬ R y x) : leftOf R k x (j + 1) = leftOf R k x j ++ [y] := by
  unfold leftOf
  rw [filter_take h]
  simp [hy]
theorem leftOf_step_drop {k : List α} {x y : α} {j : Nat} (h : k[j]? = some y) (hy : R y x) : leftOf R k x (j + 1) = leftOf R k x j := by
  unfold leftOf
  rw [filter_take h]
  simp [hy]
theorem leftOf_le (k : List α) (x : α) (j : Nat) : (leftOf R k x j).length ≤ j := by
  unfold leftOf
  refine Nat.le_trans (List.length_filter_le _ _) ?_
  simp
  omega
structure Mid (R : α → α → Prop) (k : List α) (x : α) (W0 : List α) (j : Nat) (W : List α) : Prop where
  le : j ≤ k.length
  len : W.length = W0.length
  tk : W.take (leftOf R k x j).length = leftOf R k x j
  beh : ∀ i, j ≤ i → W[i]? = W0[i]?
theorem Mid.zero {k W0 : List α} {x : α} : Mid R k x W0 0 W0 := ⟨Nat.zero_le _, rfl, by simp [leftOf], fun _ _ => rfl⟩
theorem Mid.drop {k W0 W : List α} {x y : α} {j : Nat} (h : Mid R k x W0 j W) (hy : k[j]? = some y) (hR : R y x) : Mid R k x W0 (j + 1) W ∧ leftOf R k x (j + 1) = leftOf R k x j := by
  have e := leftOf_step_drop hy hR
  have := (List.getElem?_eq_some_iff.1 hy).1
  exact ⟨⟨by omega, h.len, by rw [e]; exact h.tk, fun i hi => h.beh i (by omega)⟩, e⟩
theorem take_set_end {W : List α} {m : Nat} {F : List α} {y : α} (hm : F.length = m) (h : W.take m = F) (hl : m < W.length) : (W.set m y).take (m + 1) = F ++ [y] := by
  rw [List.take_add_one, List.getElem?_set_self hl, List.take_set]
  rw [h, List.set_eq_of_length_le (by omega)]
  rfl
theorem Mid.keep {k W0 W : List α} {x y : α} {j : Nat} (h : Mid R k x W0 j W) (hkw : k.length ≤ W0.length) (hy : k[j]? = some y) (hR : ¬ R y x) :
    Mid R k x W0 (j + 1) (W.set (leftOf R k x j).length y) ∧ leftOf R k x (j + 1) = leftOf R k x j ++ [y] ∧ (leftOf R k x j).length < W.length := by
  have e := leftOf_step_keep hy hR
  have hj := (List.getElem?_eq_some_iff.1 hy).1
  have hle := leftOf_le (R := R) k x j
  have hlt : (leftOf R k x j).length < W.length := by rw [h.len]; omega
  refine ⟨⟨by omega, by simp [h.len], ?_, fun i hi => ?_⟩, e, hlt⟩
  · rw [e, List.length_append]
    exact take_set_end rfl h.tk hlt
  · rw [List.getElem?_set_ne (by omega)]
    exact h.beh i (by omega)
theorem Mid.get {k W0 W : List α} {x : α} {j : Nat} (h : Mid R k x W0 j W) (h0 : W0.take k.length = k) (hj : j < k.length) : W[j]? = k[j]? := by
  rw [h.beh j (Nat.le_refl _)]
  have := congrArg (fun z : List α => z[j]?) h0
  simp only [List.getElem?_take, if_pos hj] at this
  exact this
theorem leftOf_all (k : List α) (x : α) (h : ∀ y ∈ k, ¬ R x y) : leftOf R k x k.length ++ [x] = addG R k x := by
  rw [addG_out h]
  unfold leftOf
  rw [List.take_length]
theorem Kept.step {l : List α} {i : Nat} {W W' : List α} {x : α} (h : Kept R l i W) (hx : l[i]? = some x) (hno : ∀ y ∈ grG R (l.take i), ¬ R x y) (hW : Mid R (grG R (l.take i)) x W (grG R (l.take i)).length W') :
    grG R (l.take (i + 1)) = leftOf R (grG R (l.take i)) x (grG R (l.take i)).length ++ [x] ∧
    ((leftOf R (grG R (l.take i)) x (grG R (l.take i)).length).length < W'.length → Kept R l (i + 1) (W'.set (leftOf R (grG R (l.take i)) x (grG R (l.take i)).length).length x)) ∧
    ((leftOf R (grG R (l.take i)) x (grG R (l.take i)).length).length = W'.length → Kept R l (i + 1) (W' ++ [x])) := by
  have e : grG R (l.take (i + 1)) = leftOf R (grG R (l.take i)) x (grG R (l.take i)).length ++ [x] := by rw [grG_take hx, leftOf_all _ _ hno]
  have hi := (List.getElem?_eq_some_iff.1 hx).1
  have hw := h.w
  have hlw := hW.len
  refine ⟨e, fun hlt => ⟨by omega, ?_, ?_, by simp; omega⟩, fun heq => ⟨by omega, ?_, ?_, by simp; omega⟩⟩
  · rw [e, List.length_append]
    exact take_set_end rfl hW.tk hlt
  · rw [e, List.length_append]
    simp
    omega
  · rw [e, List.length_append]
    have := hW.tk
    rw [heq, List.take_length] at this
    rw [heq, ← this]
    exact List.take_of_length_le (by simp)
  · rw [e, List.length_append]
    simp
    omega
end
end Go.Proofs.YtagmibogginaaaaGreatDoor
namespace Go.Proofs.YtagmibogginaaaaGreatDoor
open Go Go.Vx
theorem take_snoc {α : Type} {l : List α} {i : Nat} {x : α} (h : l[i]? = some x) : l.take (i + 1) = l.take i ++ [x] := by
  rw [List.take_add_one, h]; rfl
end Go.Proofs.YtagmibogginaaaaGreatDoor
namespace Go.Proofs.YtagmibogginaaaaGreatDoor
open Go Go.Vx
open Classical in
noncomputable def nb {α : Type} (R : α → α → Prop) (c : α) (l : List α) : List α := l.filter fun x => decide (¬ R x c)
structure PutSt {α : Type} (R L : α → α → Prop) (k : List α) (c : α) (i : Nat) (m : List α) (done : Prop) : Prop where
  yes : done → m = insG L c (nb R c (k.take i)) ∧ ∃ x ∈ nb R c (k.take i), L c x
  no : ¬ done → m = nb R c (k.take i) ∧ ∀ x ∈ nb R c (k.take i), ¬ L c x
open Classical in
theorem insG_at {α : Type} {L : α → α → Prop} {c x : α} {l : List α} (h : ∀ y ∈ l, ¬ L c y) (hx : L c x) : insG L c (l ++ [x]) = l ++ [c, x] := by
  induction l with
  | nil => simp [insG, hx]
  | cons y l ih =>
    show insG L c (y :: (l ++ [x])) = _
    unfold insG
    rw [if_neg (h y (by simp)), ih fun z hz => h z (by simp [hz])]
    rfl
section
variable {α : Type} {R L : α → α → Prop} {k : List α} {c : α} {i : Nat} {m : List α} {done : Prop}
open Classical in
theorem nb_in {x : α} (h : k[i]? = some x) (hR : R x c) : nb R c (k.take (i + 1)) = nb R c (k.take i) := by
  unfold nb
  rw [take_snoc h, List.filter_append]
  simp [hR]
open Classical in
theorem nb_out {x : α} (h : k[i]? = some x) (hR : ¬ R x c) : nb R c (k.take (i + 1)) = nb R c (k.take i) ++ [x] := by
  unfold nb
  rw [take_snoc h, List.filter_append]
  simp [hR]
theorem PutSt.zero : PutSt R L k c 0 [] False := ⟨fun h => h.elim, fun _ => ⟨by simp [nb], by simp [nb]⟩⟩
theorem PutSt.skip {x : α} (h : PutSt R L k c i m done) (hx : k[i]? = some x) (hR : R x c) : PutSt R L k c (i + 1) m done := by
  have e := nb_in hx hR
  exact ⟨fun hd => by rw [e]; exact h.yes hd, fun hd => by rw [e]; exact h.no hd⟩
theorem PutSt.new {x : α} (h : PutSt R L k c i m done) (hx : k[i]? = some x) (hR : ¬ R x c) (hn : ¬ done) (hl : L c x) : PutSt R L k c (i + 1) (m ++ [c] ++ [x]) True := by
  have e := nb_out hx hR
  obtain ⟨h1, h2⟩ := h.no hn
  refine ⟨fun _ => ?_, fun h => absurd trivial h⟩
  rw [e, insG_at h2 hl, h1]
  exact ⟨by simp, x, by simp, hl⟩
end
end Go.Proofs.YtagmibogginaaaaGreatDoor
namespace Go.Proofs.YtagmibogginaaaaGreatDoor
open Go Go.Vx
theorem set_perm {α : Type} : ∀ {l : List α} {j : Nat} {x y : α}, l[j]? = some y → (y :: l.set j x).Perm (x :: l)
  | [], _, _, _, h => by simp at h
  | a :: l, 0, x, y, h => by simp at h; subst h; exact .swap x a l
  | a :: l, j + 1, x, y, h => by
    have ih := set_perm (l := l) (j := j) (x := x) (y := y) (by simpa using h)
    exact (List.Perm.swap a y _).trans ((ih.cons a).trans (.swap x a l))
theorem swapdel {α : Type} {l : List α} {j : Nat} {y z : α} (hy : l[j]? = some y) (hz : l[l.length - 1]? = some z) : (y :: (l.set j z).take (l.length - 1)).Perm l := by
  have hj := (List.getElem?_eq_some_iff.1 hy).1
  have hsplit : l = l.take (l.length - 1) ++ [z] := by
    have := take_snoc hz
    rw [show l.length - 1 + 1 = l.length by omega, List.take_length] at this
    exact this
  generalize hI : l.take (l.length - 1) = I at hsplit
  have hIl : I.length = l.length - 1 := by rw [← hI]; simp
  by_cases hjl : j = l.length - 1
  · subst hjl
    rw [hy] at hz
    cases hz
    have : (l.set (l.length - 1) y).take (l.length - 1) = I := by rw [List.take_set, hI, List.set_eq_of_length_le (by omega)]
    rw [this]
    conv => rhs; rw [hsplit]
    exact (List.perm_append_singleton y I).symm
  · have h1 : (l.set j z).take (l.length - 1) = I.set j z := by rw [List.take_set, hI]
    rw [h1]
    have h2 : I[j]? = some y := by
      rw [← hI, List.getElem?_take, if_pos (by omega)]
      exact hy
    refine (set_perm h2).trans ?_
    conv => rhs; rw [hsplit]
    exact (List.perm_append_singleton z I).symm
section
variable {α : Type} {f : α → Term}
structure Sel (f : α → Term) (K S W : List α) (m : Nat) : Prop where
  le : m ≤ W.length
  perm : (S ++ W.take m).Perm K
  sort : S.Pairwise fun a b => aheadT (f a) (f b)
  low : ∀ s ∈ S, ∀ y ∈ W.take m, aheadT (f s) (f y)
theorem Sel.zero {K : List α} : Sel f K [] K K.length := ⟨Nat.le_refl _, by simp, by simp, by simp⟩
theorem Sel.step {K S W : List α} {m j : Nat} {y z : α} (h : Sel f K S W m) (hnd : K.Pairwise fun a b => f a ≠ f b) (hy : W[j]? = some y) (hj : j < m) (hz : W[m - 1]? = some z) (hmin : ∀ i, i < m → ∀ x, W[i]? = some x → ¬ aheadT (f x) (f y)) :
    Sel f K (S ++ [y]) (W.set j z) (m - 1) := by
  have hle := h.le
  generalize hl : W.take m = l at *
  have hll : l.length = m := by rw [← hl]; simp; omega
  have hly : l[j]? = some y := by rw [← hl, List.getElem?_take, if_pos hj]; exact hy
  have hlz : l[l.length - 1]? = some z := by rw [hll, ← hl, List.getElem?_take, if_pos (by omega)]; exact hz
  have hp := swapdel hly hlz
  have e : (W.set j z).take (m - 1) = (l.set j z).take (l.length - 1) := by
    rw [hll, ← hl, ← List.take_set, List.take_take, Nat.min_eq_left (by omega)]
  have hperm := h.perm
  rw [hl] at hperm
  have hndl : (y :: (l.set j z).take (l.length - 1)).Pairwise fun a b => f a ≠ f b := by
    have h1 : (S ++ l).Pairwise fun a b => f a ≠ f b := (hperm.pairwise_iff fun {a b} hab => Ne.symm hab).2 hnd
    exact (hp.pairwise_iff fun {a b} hab => Ne.symm hab).2 (List.pairwise_append.1 h1).2.1
  have hlow := h.low
  rw [hl] at hlow
  have hyl : y ∈ l := List.mem_of_getElem? hly
  refine ⟨by simp; omega, ?_, ?_, ?_⟩
  · rw [e, List.append_assoc]
    exact (hp.append_left S).trans hperm
  · rw [List.pairwise_append]
    refine ⟨h.sort, by simp, fun a ha b hb => ?_⟩
    simp at hb
    subst hb
    exact hlow a ha b hyl
  · rw [e]
    intro s hs x hx
    have hxl : x ∈ l := hp.mem_iff.1 (List.mem_cons_of_mem _ hx)
    rcases List.mem_append.1 hs with hs | hs
    · exact hlow s hs x hxl
    · simp at hs
      subst hs
      have hne := (List.pairwise_cons.1 hndl).1 x hx
      obtain ⟨i, hi, hix⟩ := List.getElem_of_mem hxl
      have h2 : W[i]? = some x := by
        have : l[i]? = some x := by rw [List.getElem?_eq_getElem hi, hix]
        rw [← hl, List.getElem?_take, if_pos (by omega)] at this
        exact this
      rcases ahead_total hne with k | k
      · exact k
      · exact absurd k (hmin i (by omega) x h2)
end
end Go.Proofs.YtagmibogginaaaaGreatDoor
namespace Go.Proofs.YtagmibogginaaaaGreatDoor
open Go Go.Vx
def tTail (l : List Str) : Str := (l.map fun m => (45 : UInt8) :: m).flatten
def ttxt (t : Term) : Str := t.p ++ tTail t.less
def sepT (l : List Term) : Str := ((l.map fun t => (43 : UInt8) :: ttxt t).flatten).drop 1
def preT (l : List Term) (i : Nat) : Str := if i = 0 then [] else sepT (l.take i) ++ [43]
def szS (l : List Term) : Nat := (l.map fun t => 1 + t.less.length).sum
theorem tTail_len {l : List Str} (h : ∀ m ∈ l, m.length ≤ 256) : (tTail l).length ≤ 257 * l.length := by
  induction l with
  | nil => simp [tTail]
  | cons m l ih =>
    have h1 := ih fun x hx => h x (by simp [hx])
    have h2 := h m (by simp)
    unfold tTail at h1 ⊢
    rw [List.map_cons, List.flatten_cons, List.length_append, List.length_cons, List.length_cons]
    omega
theorem ttxt_len {t : Term} (hp : t.p.length ≤ 256) (h : ∀ m ∈ t.less, m.length ≤ 256) : (ttxt t).length ≤ 257 * (1 + t.less.length) - 1 := by
  have := tTail_len h
  unfold ttxt
  rw [List.length_append]
  omega
theorem sepT_len {l : List Term} (h : ∀ t ∈ l, t.p.length ≤ 256 ∧ ∀ m ∈ t.less, m.length ≤ 256) : (sepT l).length ≤ 257 * szS l := by
  have key : ((l.map fun t => (43 : UInt8) :: ttxt t).flatten).length ≤ 257 * szS l := by
    induction l with
    | nil => simp
    | cons t l ih =>
      have h1 := ih fun x hx => h x (by simp [hx])
      have h2 := ttxt_len (h t (by simp)).1 (h t (by simp)).2
      simp only [szS, List.map_cons, List.flatten_cons, List.length_append, List.length_cons, List.sum_cons] at h1 ⊢
      rw [Nat.mul_add]
      omega
  unfold sepT
  rw [List.length_drop]
  omega
theorem szS_take (l : List Term) (i : Nat) : szS (l.take i) ≤ szS l := by
  unfold szS
  conv => rhs; rw [← List.take_append_drop i l]
  rw [List.map_append, List.sum_append]
  omega
theorem szS_mem {l : List Term} {t : Term} (h : t ∈ l) : 1 + t.less.length ≤ szS l := by
  unfold szS
  induction l with
  | nil => simp at h
  | cons a l ih =>
    simp only [List.map_cons, List.sum_cons]
    rcases List.mem_cons.1 h with rfl | h
    · omega
    · have := ih h; omega
theorem szS_len (l : List Term) : l.length ≤ szS l := by
  unfold szS
  induction l with
  | nil => simp
  | cons a l ih => simp only [List.map_cons, List.sum_cons, List.length_cons]; omega
end Go.Proofs.YtagmibogginaaaaGreatDoor
namespace Go.Proofs.YtagmibogginaaaaGreatDoor
open Go Go.Vx
def T : Tab := fun t => match t with
  | 3 => some ⟨1, 8, .int .i64, [.i .i64 0]⟩
  | 4 => some ⟨1, 1, .bool, [.ff]⟩
  | 5 => some ⟨1, 1, .int .u8, [.i .u8 0]⟩
  | 9 => some ⟨1, 16, .str, [.s []]⟩
  | 20 => some ⟨1, 16, .other, [.nilI]⟩
  | 22 => some ⟨1, 24, .slice 34, [.nilS]⟩
  | 23 => some ⟨1, 24, .slice 56, [.nilS]⟩
  | 26 => some ⟨1, 8, .int .i64, [.i .i64 0]⟩
  | 34 => some ⟨2, 24, .struct [(0, 9), (1, 3)], [.s [], .i .i64 0]⟩
  | 36 => some ⟨1, 24, .slice 9, [.nilS]⟩
  | 42 => some ⟨1, 24, .slice 130, [.nilS]⟩
  | 44 => some ⟨2, 32, .struct [(0, 3), (1, 42)], [.i .i64 0, .nilS]⟩
  | 47 => some ⟨1, 24, .slice 109, [.nilS]⟩
  | 49 => some ⟨2, 32, .struct [(0, 3), (1, 47)], [.i .i64 0, .nilS]⟩
  | 54 => some ⟨7, 72, .struct [(0, 9), (1, 3), (2, 3), (3, 3), (4, 3), (5, 3), (6, 9)], [.s [], .i .i64 0, .i .i64 0, .i .i64 0, .i .i64 0, .i .i64 0, .s []]⟩
  | 56 => some ⟨8, 80, .struct [(0, 3), (1, 54)], [.i .i64 0, .s [], .i .i64 0, .i .i64 0, .i .i64 0, .i .i64 0, .i .i64 0, .s []]⟩
  | 58 => some ⟨1, 16, .other, [.nilI]⟩
  | 64 => some ⟨3, 32, .struct [(0, 9), (1, 3), (2, 3)], [.s [], .i .i64 0, .i .i64 0]⟩
  | 69 => some ⟨1, 24, .slice 3, [.nilS]⟩
  | 74 => some ⟨2, 48, .struct [(0, 22), (1, 69)], [.nilS, .nilS]⟩
  | 77 => some ⟨1, 24, .slice 4, [.nilS]⟩
  | 80 => some ⟨1, 24, .slice 49, [.nilS]⟩
  | 94 => some ⟨1, 24, .slice 64, [.nilS]⟩
  | 109 => some ⟨2, 40, .struct [(0, 9), (1, 36)], [.s [], .nilS]⟩
  | 110 => some ⟨1, 24, .slice 5, [.nilS]⟩
  | 120 => some ⟨1, 8, .ptr 122, [.nilP]⟩
  | 122 => some ⟨2, 32, .struct [(0, 120), (1, 110)], [.nilP, .nilS]⟩
  | 123 => some ⟨1, 8, .int .u64, [.i .u64 0]⟩
  | 125 => some ⟨4, 32, .array 4 123, [.i .u64 0, .i .u64 0, .i .u64 0, .i .u64 0]⟩
  | 127 => some ⟨9, 72, .struct [(0, 3), (1, 125), (5, 125)], [.i .i64 0, .i .u64 0, .i .u64 0, .i .u64 0, .i .u64 0, .i .u64 0, .i .u64 0, .i .u64 0, .i .u64 0]⟩
  | 128 => some ⟨1, 24, .slice 127, [.nilS]⟩
  | 130 => some ⟨11, 112, .struct [(0, 127), (9, 128), (10, 9)], [.i .i64 0, .i .u64 0, .i .u64 0, .i .u64 0, .i .u64 0, .i .u64 0, .i .u64 0, .i .u64 0, .i .u64 0, .nilS, .s []]⟩
  | 137 => some ⟨1, 24, .slice 58, [.nilS]⟩
  | 139 => some ⟨1, 1, .struct [(0, 4)], [.ff]⟩
  | 141 => some ⟨7, 72, .struct [(0, 54)], [.s [], .i .i64 0, .i .i64 0, .i .i64 0, .i .i64 0, .i .i64 0, .s []]⟩
  | 143 => some ⟨1, 16, .struct [(0, 58)], [.nilI]⟩
  | 145 => some ⟨2, 32, .struct [(0, 58), (1, 58)], [.nilI, .nilI]⟩
  | 147 => some ⟨2, 32, .struct [(0, 145)], [.nilI, .nilI]⟩
  | 148 => some ⟨2, 32, .struct [(0, 145)], [.nilI, .nilI]⟩
  | 170 => some ⟨4, 4, .struct [(0, 4), (1, 4), (2, 4), (3, 4)], [.ff, .ff, .ff, .ff]⟩
  | 171 => some ⟨20, 20, .array 5 170, [.ff, .ff, .ff, .ff, .ff, .ff, .ff, .ff, .ff, .ff, .ff, .ff, .ff, .ff, .ff, .ff, .ff, .ff, .ff, .ff]⟩
  | 209 => some ⟨1, 8, .ptr 125, [.nilP]⟩
  | 231 => some ⟨0, 0, .struct [], []⟩
  | 233 => some ⟨1, 24, .slice 128, [.nilS]⟩
  | 235 => some ⟨1, 8, .other, [.nilF]⟩
  | 236 => some ⟨1, 24, .slice 238, [.nilS]⟩
  | 238 => some ⟨10, 88, .struct [(0, 127), (9, 9)], [.i .i64 0, .i .u64 0, .i .u64 0, .i .u64 0, .i .u64 0, .i .u64 0, .i .u64 0, .i .u64 0, .i .u64 0, .s []]⟩
  | 240 => some ⟨1, 8, .other, [.nilF]⟩
  | 242 => some ⟨1, 8, .other, [.nilF]⟩
  | _ => none
theorem good3 : Vx.Good Tryz.prog 3 ⟨1, 8, .int .i64, [.i .i64 0]⟩ :=
  ⟨⟨Tryz.t3, .int .i64 0, by kernel_rfl, rfl, rfl, rfl, rfl, rfl, by simp [Value.cells, Value.oneCell']⟩, Tryz.underlying3, fun w => Tryz.isAgg3 w, by decide⟩
theorem good4 : Vx.Good Tryz.prog 4 ⟨1, 1, .bool, [.ff]⟩ :=
  ⟨⟨Tryz.t4, .bool false, by kernel_rfl, rfl, rfl, rfl, rfl, rfl, by simp [Value.cells, Value.oneCell']⟩, Tryz.underlying4, fun w => Tryz.isAgg4 w, by decide⟩
theorem good5 : Vx.Good Tryz.prog 5 ⟨1, 1, .int .u8, [.i .u8 0]⟩ :=
  ⟨⟨Tryz.t5, .int .u8 0, by kernel_rfl, rfl, rfl, rfl, rfl, rfl, by simp [Value.cells, Value.oneCell']⟩, Tryz.underlying5, fun w => Tryz.isAgg5 w, by decide⟩
theorem good9 : Vx.Good Tryz.prog 9 ⟨1, 16, .str, [.s []]⟩ :=
  ⟨⟨Tryz.t9, .string ⟨#[]⟩, by kernel_rfl, rfl, rfl, rfl, rfl, rfl, by simp [Value.cells, Value.oneCell']⟩, Tryz.underlying9, fun w => Tryz.isAgg9 w, by decide⟩
theorem good20 : Vx.Good Tryz.prog 20 ⟨1, 16, .other, [.nilI]⟩ :=
  ⟨⟨Tryz.t20, .nilIface, by kernel_rfl, rfl, rfl, rfl, rfl, rfl, by simp [Value.cells, Value.oneCell']⟩, trivial, fun w => Tryz.isAgg20 w, by decide⟩
theorem good22 : Vx.Good Tryz.prog 22 ⟨1, 24, .slice 34, [.nilS]⟩ :=
  ⟨⟨Tryz.t22, .slice none 0 0, by kernel_rfl, rfl, rfl, rfl, rfl, rfl, by simp [Value.cells, Value.oneCell']⟩, Tryz.underlying22, fun w => Tryz.isAgg22 w, by decide⟩
theorem good23 : Vx.Good Tryz.prog 23 ⟨1, 24, .slice 56, [.nilS]⟩ :=
  ⟨⟨Tryz.t23, .slice none 0 0, by kernel_rfl, rfl, rfl, rfl, rfl, rfl, by simp [Value.cells, Value.oneCell']⟩, Tryz.underlying23, fun w => Tryz.isAgg23 w, by decide⟩
theorem good26 : Vx.Good Tryz.prog 26 ⟨1, 8, .int .i64, [.i .i64 0]⟩ :=
  ⟨⟨Tryz.t26, .int .i64 0, by kernel_rfl, rfl, rfl, rfl, rfl, rfl, by simp [Value.cells, Value.oneCell']⟩, Tryz.underlying26, fun w => Tryz.isAgg26 w, by decide⟩
theorem good34 : Vx.Good Tryz.prog 34 ⟨2, 24, .struct [(0, 9), (1, 3)], [.s [], .i .i64 0]⟩ :=
  ⟨⟨Tryz.t34, .agg #[.string ⟨#[]⟩, .int .i64 0], by kernel_rfl, rfl, rfl, rfl, rfl, rfl, by simp [Value.cells, Value.oneCell']⟩, ⟨_, Tryz.underlying34, rfl⟩, fun w => Tryz.isAgg34 w, by decide⟩
theorem good36 : Vx.Good Tryz.prog 36 ⟨1, 24, .slice 9, [.nilS]⟩ :=
  ⟨⟨Tryz.t36, .slice none 0 0, by kernel_rfl, rfl, rfl, rfl, rfl, rfl, by simp [Value.cells, Value.oneCell']⟩, Tryz.underlying36, fun w => Tryz.isAgg36 w, by decide⟩
theorem good42 : Vx.Good Tryz.prog 42 ⟨1, 24, .slice 130, [.nilS]⟩ :=
  ⟨⟨Tryz.t42, .slice none 0 0, by kernel_rfl, rfl, rfl, rfl, rfl, rfl, by simp [Value.cells, Value.oneCell']⟩, Tryz.underlying42, fun w => Tryz.isAgg42 w, by decide⟩
theorem good44 : Vx.Good Tryz.prog 44 ⟨2, 32, .struct [(0, 3), (1, 42)], [.i .i64 0, .nilS]⟩ :=
  ⟨⟨Tryz.t44, .agg #[.int .i64 0, .slice none 0 0], by kernel_rfl, rfl, rfl, rfl, rfl, rfl, by simp [Value.cells, Value.oneCell']⟩, ⟨_, Tryz.underlying44, rfl⟩, fun w => Tryz.isAgg44 w, by decide⟩
theorem good47 : Vx.Good Tryz.prog 47 ⟨1, 24, .slice 109, [.nilS]⟩ :=
  ⟨⟨Tryz.t47, .slice none 0 0, by kernel_rfl, rfl, rfl, rfl, rfl, rfl, by simp [Value.cells, Value.oneCell']⟩, Tryz.underlying47, fun w => Tryz.isAgg47 w, by decide⟩
theorem good49 : Vx.Good Tryz.prog 49 ⟨2, 32, .struct [(0, 3), (1, 47)], [.i .i64 0, .nilS]⟩ :=
  ⟨⟨Tryz.t49, .agg #[.int .i64 0, .slice none 0 0], by kernel_rfl, rfl, rfl, rfl, rfl, rfl, by simp [Value.cells, Value.oneCell']⟩, ⟨_, Tryz.underlying49, rfl⟩, fun w => Tryz.isAgg49 w, by decide⟩
theorem good54 : Vx.Good Tryz.prog 54 ⟨7, 72, .struct [(0, 9), (1, 3), (2, 3), (3, 3), (4, 3), (5, 3), (6, 9)], [.s [], .i .i64 0, .i .i64 0, .i .i64 0, .i .i64 0, .i .i64 0, .s []]⟩ :=
  ⟨⟨Tryz.t54, .agg #[.string ⟨#[]⟩, .int .i64 0, .int .i64 0, .int .i64 0, .int .i64 0, .int .i64 0, .string ⟨#[]⟩], by kernel_rfl, rfl, rfl, rfl, rfl, rfl, by simp [Value.cells, Value.oneCell']⟩, ⟨_, Tryz.underlying54, rfl⟩, fun w => Tryz.isAgg54 w, by decide⟩
theorem good56 : Vx.Good Tryz.prog 56 ⟨8, 80, .struct [(0, 3), (1, 54)], [.i .i64 0, .s [], .i .i64 0, .i .i64 0, .i .i64 0, .i .i64 0, .i .i64 0, .s []]⟩ :=
  ⟨⟨Tryz.t56, .agg #[.int .i64 0, .string ⟨#[]⟩, .int .i64 0, .int .i64 0, .int .i64 0, .int .i64 0, .int .i64 0, .string ⟨#[]⟩], by kernel_rfl, rfl, rfl, rfl, rfl, rfl, by simp [Value.cells, Value.oneCell']⟩, ⟨_, Tryz.underlying56, rfl⟩, fun w => Tryz.isAgg56 w, by decide⟩
theorem good58 : Vx.Good Tryz.prog 58 ⟨1, 16, .other, [.nilI]⟩ :=
  ⟨⟨Tryz.t58, .nilIface, by kernel_rfl, rfl, rfl, rfl, rfl, rfl, by simp [Value.cells, Value.oneCell']⟩, trivial, fun w => Tryz.isAgg58 w, by decide⟩
theorem good64 : Vx.Good Tryz.prog 64 ⟨3, 32, .struct [(0, 9), (1, 3), (2, 3)], [.s [], .i .i64 0, .i .i64 0]⟩ :=
  ⟨⟨Tryz.t64, .agg #[.string ⟨#[]⟩, .int .i64 0, .int .i64 0], by kernel_rfl, rfl, rfl, rfl, rfl, rfl, by simp [Value.cells, Value.oneCell']⟩, ⟨_, Tryz.underlying64, rfl⟩, fun w => Tryz.isAgg64 w, by decide⟩
theorem good69 : Vx.Good Tryz.prog 69 ⟨1, 24, .slice 3, [.nilS]⟩ :=
  ⟨⟨Tryz.t69, .slice none 0 0, by kernel_rfl, rfl, rfl, rfl, rfl, rfl, by simp [Value.cells, Value.oneCell']⟩, Tryz.underlying69, fun w => Tryz.isAgg69 w, by decide⟩
theorem good74 : Vx.Good Tryz.prog 74 ⟨2, 48, .struct [(0, 22), (1, 69)], [.nilS, .nilS]⟩ :=
  ⟨⟨Tryz.t74, .agg #[.slice none 0 0, .slice none 0 0], by kernel_rfl, rfl, rfl, rfl, rfl, rfl, by simp [Value.cells, Value.oneCell']⟩, ⟨_, Tryz.underlying74, rfl⟩, fun w => Tryz.isAgg74 w, by decide⟩
theorem good77 : Vx.Good Tryz.prog 77 ⟨1, 24, .slice 4, [.nilS]⟩ :=
  ⟨⟨Tryz.t77, .slice none 0 0, by kernel_rfl, rfl, rfl, rfl, rfl, rfl, by simp [Value.cells, Value.oneCell']⟩, Tryz.underlying77, fun w => Tryz.isAgg77 w, by decide⟩
theorem good80 : Vx.Good Tryz.prog 80 ⟨1, 24, .slice 49, [.nilS]⟩ :=
  ⟨⟨Tryz.t80, .slice none 0 0, by kernel_rfl, rfl, rfl, rfl, rfl, rfl, by simp [Value.cells, Value.oneCell']⟩, Tryz.underlying80, fun w => Tryz.isAgg80 w, by decide⟩
theorem good94 : Vx.Good Tryz.prog 94 ⟨1, 24, .slice 64, [.nilS]⟩ :=
  ⟨⟨Tryz.t94, .slice none 0 0, by kernel_rfl, rfl, rfl, rfl, rfl, rfl, by simp [Value.cells, Value.oneCell']⟩, Tryz.underlying94, fun w => Tryz.isAgg94 w, by decide⟩
theorem good109 : Vx.Good Tryz.prog 109 ⟨2, 40, .struct [(0, 9), (1, 36)], [.s [], .nilS]⟩ :=
  ⟨⟨Tryz.t109, .agg #[.string ⟨#[]⟩, .slice none 0 0], by kernel_rfl, rfl, rfl, rfl, rfl, rfl, by simp [Value.cells, Value.oneCell']⟩, ⟨_, Tryz.underlying109, rfl⟩, fun w => Tryz.isAgg109 w, by decide⟩
theorem good110 : Vx.Good Tryz.prog 110 ⟨1, 24, .slice 5, [.nilS]⟩ :=
  ⟨⟨Tryz.t110, .slice none 0 0, by kernel_rfl, rfl, rfl, rfl, rfl, rfl, by simp [Value.cells, Value.oneCell']⟩, Tryz.underlying110, fun w => Tryz.isAgg110 w, by decide⟩
theorem good120 : Vx.Good Tryz.prog 120 ⟨1, 8, .ptr 122, [.nilP]⟩ :=
  ⟨⟨Tryz.t120, .pointer none, by kernel_rfl, rfl, rfl, rfl, rfl, rfl, by simp [Value.cells, Value.oneCell']⟩, Tryz.underlying120, fun w => Tryz.isAgg120 w, by decide⟩
theorem good122 : Vx.Good Tryz.prog 122 ⟨2, 32, .struct [(0, 120), (1, 110)], [.nilP, .nilS]⟩ :=
  ⟨⟨Tryz.t122, .agg #[.pointer none, .slice none 0 0], by kernel_rfl, rfl, rfl, rfl, rfl, rfl, by simp [Value.cells, Value.oneCell']⟩, ⟨_, Tryz.underlying122, rfl⟩, fun w => Tryz.isAgg122 w, by decide⟩
theorem good123 : Vx.Good Tryz.prog 123 ⟨1, 8, .int .u64, [.i .u64 0]⟩ :=
  ⟨⟨Tryz.t123, .int .u64 0, by kernel_rfl, rfl, rfl, rfl, rfl, rfl, by simp [Value.cells, Value.oneCell']⟩, Tryz.underlying123, fun w => Tryz.isAgg123 w, by decide⟩
theorem good125 : Vx.Good Tryz.prog 125 ⟨4, 32, .array 4 123, [.i .u64 0, .i .u64 0, .i .u64 0, .i .u64 0]⟩ :=
  ⟨⟨Tryz.t125, .agg #[.int .u64 0, .int .u64 0, .int .u64 0, .int .u64 0], by kernel_rfl, rfl, rfl, rfl, rfl, rfl, by simp [Value.cells, Value.oneCell']⟩, Tryz.underlying125, fun w => Tryz.isAgg125 w, by decide⟩
theorem good127 : Vx.Good Tryz.prog 127 ⟨9, 72, .struct [(0, 3), (1, 125), (5, 125)], [.i .i64 0, .i .u64 0, .i .u64 0, .i .u64 0, .i .u64 0, .i .u64 0, .i .u64 0, .i .u64 0, .i .u64 0]⟩ :=
  ⟨⟨Tryz.t127, .agg #[.int .i64 0, .int .u64 0, .int .u64 0, .int .u64 0, .int .u64 0, .int .u64 0, .int .u64 0, .int .u64 0, .int .u64 0], by kernel_rfl, rfl, rfl, rfl, rfl, rfl, by simp [Value.cells, Value.oneCell']⟩, ⟨_, Tryz.underlying127, rfl⟩, fun w => Tryz.isAgg127 w, by decide⟩
theorem good128 : Vx.Good Tryz.prog 128 ⟨1, 24, .slice 127, [.nilS]⟩ :=
  ⟨⟨Tryz.t128, .slice none 0 0, by kernel_rfl, rfl, rfl, rfl, rfl, rfl, by simp [Value.cells, Value.oneCell']⟩, Tryz.underlying128, fun w => Tryz.isAgg128 w, by decide⟩
theorem good130 : Vx.Good Tryz.prog 130 ⟨11, 112, .struct [(0, 127), (9, 128), (10, 9)], [.i .i64 0, .i .u64 0, .i .u64 0, .i .u64 0, .i .u64 0, .i .u64 0, .i .u64 0, .i .u64 0, .i .u64 0, .nilS, .s []]⟩ :=
  ⟨⟨Tryz.t130, .agg #[.int .i64 0, .int .u64 0, .int .u64 0, .int .u64 0, .int .u64 0, .int .u64 0, .int .u64 0, .int .u64 0, .int .u64 0, .slice none 0 0, .string ⟨#[]⟩], by kernel_rfl, rfl, rfl, rfl, rfl, rfl, by simp [Value.cells, Value.oneCell']⟩, ⟨_, Tryz.underlying130, rfl⟩, fun w => Tryz.isAgg130 w, by decide⟩
theorem good137 : Vx.Good Tryz.prog 137 ⟨1, 24, .slice 58, [.nilS]⟩ :=
  ⟨⟨Tryz.t137, .slice none 0 0, by kernel_rfl, rfl, rfl, rfl, rfl, rfl, by simp [Value.cells, Value.oneCell']⟩, Tryz.underlying137, fun w => Tryz.isAgg137 w, by decide⟩
theorem good139 : Vx.Good Tryz.prog 139 ⟨1, 1, .struct [(0, 4)], [.ff]⟩ :=
  ⟨⟨Tryz.t139, .agg #[.bool false], by kernel_rfl, rfl, rfl, rfl, rfl, rfl, by simp [Value.cells, Value.oneCell']⟩, ⟨_, Tryz.underlying139, rfl⟩, fun w => Tryz.isAgg139 w, by decide⟩
theorem good141 : Vx.Good Tryz.prog 141 ⟨7, 72, .struct [(0, 54)], [.s [], .i .i64 0, .i .i64 0, .i .i64 0, .i .i64 0, .i .i64 0, .s []]⟩ :=
  ⟨⟨Tryz.t141, .agg #[.string ⟨#[]⟩, .int .i64 0, .int .i64 0, .int .i64 0, .int .i64 0, .int .i64 0, .string ⟨#[]⟩], by kernel_rfl, rfl, rfl, rfl, rfl, rfl, by simp [Value.cells, Value.oneCell']⟩, ⟨_, Tryz.underlying141, rfl⟩, fun w => Tryz.isAgg141 w, by decide⟩
theorem good143 : Vx.Good Tryz.prog 143 ⟨1, 16, .struct [(0, 58)], [.nilI]⟩ :=
  ⟨⟨Tryz.t143, .agg #[.nilIface], by kernel_rfl, rfl, rfl, rfl, rfl, rfl, by simp [Value.cells, Value.oneCell']⟩, ⟨_, Tryz.underlying143, rfl⟩, fun w => Tryz.isAgg143 w, by decide⟩
theorem good145 : Vx.Good Tryz.prog 145 ⟨2, 32, .struct [(0, 58), (1, 58)], [.nilI, .nilI]⟩ :=
  ⟨⟨Tryz.t145, .agg #[.nilIface, .nilIface], by kernel_rfl, rfl, rfl, rfl, rfl, rfl, by simp [Value.cells, Value.oneCell']⟩, ⟨_, Tryz.underlying145, rfl⟩, fun w => Tryz.isAgg145 w, by decide⟩
theorem good147 : Vx.Good Tryz.prog 147 ⟨2, 32, .struct [(0, 145)], [.nilI, .nilI]⟩ :=
  ⟨⟨Tryz.t147, .agg #[.nilIface, .nilIface], by kernel_rfl, rfl, rfl, rfl, rfl, rfl, by simp [Value.cells, Value.oneCell']⟩, ⟨_, Tryz.underlying147, rfl⟩, fun w => Tryz.isAgg147 w, by decide⟩
theorem good148 : Vx.Good Tryz.prog 148 ⟨2, 32, .struct [(0, 145)], [.nilI, .nilI]⟩ :=
  ⟨⟨Tryz.t148, .agg #[.nilIface, .nilIface], by kernel_rfl, rfl, rfl, rfl, rfl, rfl, by simp [Value.cells, Value.oneCell']⟩, ⟨_, Tryz.underlying148, rfl⟩, fun w => Tryz.isAgg148 w, by decide⟩
theorem good170 : Vx.Good Tryz.prog 170 ⟨4, 4, .struct [(0, 4), (1, 4), (2, 4), (3, 4)], [.ff, .ff, .ff, .ff]⟩ :=
  ⟨⟨Tryz.t170, .agg #[.bool false, .bool false, .bool false, .bool false], by kernel_rfl, rfl, rfl, rfl, rfl, rfl, by simp [Value.cells, Value.oneCell']⟩, ⟨_, Tryz.underlying170, rfl⟩, fun w => Tryz.isAgg170 w, by decide⟩
theorem good171 : Vx.Good Tryz.prog 171 ⟨20, 20, .array 5 170, [.ff, .ff, .ff, .ff, .ff, .ff, .ff, .ff, .ff, .ff, .ff, .ff, .ff, .ff, .ff, .ff, .ff, .ff, .ff, .ff]⟩ :=
  ⟨⟨Tryz.t171, .agg #[.bool false, .bool false, .bool false, .bool false, .bool false, .bool false, .bool false, .bool false, .bool false, .bool false, .bool false, .bool false, .bool false, .bool false, .bool false, .bool false, .bool false, .bool false, .bool false, .bool false], by kernel_rfl, rfl, rfl, rfl, rfl, rfl, by simp [Value.cells, Value.oneCell']⟩, Tryz.underlying171, fun w => Tryz.isAgg171 w, by decide⟩
theorem good209 : Vx.Good Tryz.prog 209 ⟨1, 8, .ptr 125, [.nilP]⟩ :=
  ⟨⟨Tryz.t209, .pointer none, by kernel_rfl, rfl, rfl, rfl, rfl, rfl, by simp [Value.cells, Value.oneCell']⟩, Tryz.underlying209, fun w => Tryz.isAgg209 w, by decide⟩
theorem good231 : Vx.Good Tryz.prog 231 ⟨0, 0, .struct [], []⟩ :=
  ⟨⟨Tryz.t231, .agg #[], by kernel_rfl, rfl, rfl, rfl, rfl, rfl, by simp [Value.cells, Value.oneCell']⟩, ⟨_, Tryz.underlying231, rfl⟩, fun w => Tryz.isAgg231 w, by decide⟩
theorem good233 : Vx.Good Tryz.prog 233 ⟨1, 24, .slice 128, [.nilS]⟩ :=
  ⟨⟨Tryz.t233, .slice none 0 0, by kernel_rfl, rfl, rfl, rfl, rfl, rfl, by simp [Value.cells, Value.oneCell']⟩, Tryz.underlying233, fun w => Tryz.isAgg233 w, by decide⟩
theorem good235 : Vx.Good Tryz.prog 235 ⟨1, 8, .other, [.nilF]⟩ :=
  ⟨⟨Tryz.t235, .nilFunc, by kernel_rfl, rfl, rfl, rfl, rfl, rfl, by simp [Value.cells, Value.oneCell']⟩, trivial, fun w => Tryz.isAgg235 w, by decide⟩
theorem good236 : Vx.Good Tryz.prog 236 ⟨1, 24, .slice 238, [.nilS]⟩ :=
  ⟨⟨Tryz.t236, .slice none 0 0, by kernel_rfl, rfl, rfl, rfl, rfl, rfl, by simp [Value.cells, Value.oneCell']⟩, Tryz.underlying236, fun w => Tryz.isAgg236 w, by decide⟩
theorem good238 : Vx.Good Tryz.prog 238 ⟨10, 88, .struct [(0, 127), (9, 9)], [.i .i64 0, .i .u64 0, .i .u64 0, .i .u64 0, .i .u64 0, .i .u64 0, .i .u64 0, .i .u64 0, .i .u64 0, .s []]⟩ :=
  ⟨⟨Tryz.t238, .agg #[.int .i64 0, .int .u64 0, .int .u64 0, .int .u64 0, .int .u64 0, .int .u64 0, .int .u64 0, .int .u64 0, .int .u64 0, .string ⟨#[]⟩], by kernel_rfl, rfl, rfl, rfl, rfl, rfl, by simp [Value.cells, Value.oneCell']⟩, ⟨_, Tryz.underlying238, rfl⟩, fun w => Tryz.isAgg238 w, by decide⟩
theorem good240 : Vx.Good Tryz.prog 240 ⟨1, 8, .other, [.nilF]⟩ :=
  ⟨⟨Tryz.t240, .nilFunc, by kernel_rfl, rfl, rfl, rfl, rfl, rfl, by simp [Value.cells, Value.oneCell']⟩, trivial, fun w => Tryz.isAgg240 w, by decide⟩
theorem good242 : Vx.Good Tryz.prog 242 ⟨1, 8, .other, [.nilF]⟩ :=
  ⟨⟨Tryz.t242, .nilFunc, by kernel_rfl, rfl, rfl, rfl, rfl, rfl, by simp [Value.cells, Value.oneCell']⟩, trivial, fun w => Tryz.isAgg242 w, by decide⟩
set_option maxRecDepth 10000 in
theorem tok : TOk Tryz.prog T := by
  intro t ti h
  unfold T at h
  split at h
  · cases h; exact good3
  · cases h; exact good4
  · cases h; exact good5
  · cases h; exact good9
  · cases h; exact good20
  · cases h; exact good22
  · cases h; exact good23
  · cases h; exact good26
  · cases h; exact good34
  · cases h; exact good36
  · cases h; exact good42
  · cases h; exact good44
  · cases h; exact good47
  · cases h; exact good49
  · cases h; exact good54
  · cases h; exact good56
  · cases h; exact good58
  · cases h; exact good64
  · cases h; exact good69
  · cases h; exact good74
  · cases h; exact good77
  · cases h; exact good80
  · cases h; exact good94
  · cases h; exact good109
  · cases h; exact good110
  · cases h; exact good120
  · cases h; exact good122
  · cases h; exact good123
  · cases h; exact good125
  · cases h; exact good127
  · cases h; exact good128
  · cases h; exact good130
  · cases h; exact good137
  · cases h; exact good139
  · cases h; exact good141
  · cases h; exact good143
  · cases h; exact good145
  · cases h; exact good147
  · cases h; exact good148
  · cases h; exact good170
  · cases h; exact good171
  · cases h; exact good209
  · cases h; exact good231
  · cases h; exact good233
  · cases h; exact good235
  · cases h; exact good236
  · cases h; exact good238
  · cases h; exact good240
  · cases h; exact good242
  · cases h
theorem follows : Tryz.prog.follows .mixedOrders = true := by kernel_rfl
end Go.Proofs.YtagmibogginaaaaGreatDoor
namespace Go.Proofs
open Go.Shelf
def Tryz.vxRep_ren : Go.Shelf.Ren := ⟨fun | 105 => 71 | 212 => 93 | 99 => 94 | 165 => 95 | 166 => 66 | 170 => 96 | 169 => 67 | 263 => 109 | 264 => 110 | 206 => 111 | 240 => 91 | 241 => 112 | 276 => 108 | 277 => 123 | n => n, fun | 9 => 9 | 3 => 3 | 4 => 4 | 20 => 20 | 0 => 0 | 46 => 172 | 109 => 173 | 5 => 5 | 72 => 122 | 76 => 134 | 51 => 185 | 146 => 186 | 53 => 123 | 148 => 188 | 70 => 120 | 37 => 110 | 75 => 132 | 127 => 168 | 164 => 183 | 80 => 85 | n => n, fun | n => n⟩
theorem Tryz.vxRep : Go.Proofs.Lays.n105 Tryz.prog Tryz.vxRep_ren := {
  mixed := by kernel_rfl
  f99 := Tryz.func94.trans (congrArg some (by kernel_rfl))
  f105 := Tryz.func71.trans (congrArg some (by kernel_rfl))
  f165 := Tryz.func95.trans (congrArg some (by kernel_rfl))
  f166 := Tryz.func66.trans (congrArg some (by kernel_rfl))
  f169 := Tryz.func67.trans (congrArg some (by kernel_rfl))
  f170 := Tryz.func96.trans (congrArg some (by kernel_rfl))
  f206 := Tryz.func111.trans (congrArg some (by kernel_rfl))
  f212 := Tryz.func93.trans (congrArg some (by kernel_rfl))
  f240 := Tryz.func91.trans (congrArg some (by kernel_rfl))
  f241 := Tryz.func112.trans (congrArg some (by kernel_rfl))
  f263 := Tryz.func109.trans (congrArg some (by kernel_rfl))
  f264 := Tryz.func110.trans (congrArg some (by kernel_rfl))
  f276 := Tryz.func108.trans (congrArg some (by kernel_rfl))
  f277 := Tryz.func123.trans (congrArg some (by kernel_rfl))
  t0 := Tryz.underlying0
  a0 := Tryz.isAgg0
  z0 := Tryz.sizeOf0
  v0 := Tryz.zeroValue0
  t3 := Tryz.underlying3
  a3 := Tryz.isAgg3
  z3 := Tryz.sizeOf3
  v3 := Tryz.zeroValue3
  t4 := Tryz.underlying4
  a4 := Tryz.isAgg4
  z4 := Tryz.sizeOf4
  v4 := Tryz.zeroValue4
  t5 := Tryz.underlying5
  a5 := Tryz.isAgg5
  z5 := Tryz.sizeOf5
  v5 := Tryz.zeroValue5
  t9 := Tryz.underlying9
  a9 := Tryz.isAgg9
  z9 := Tryz.sizeOf9
  v9 := Tryz.zeroValue9
  t20 := Tryz.underlying20
  a20 := Tryz.isAgg20
  z20 := Tryz.sizeOf20
  v20 := Tryz.zeroValue20
  t37 := Tryz.underlying110
  a37 := Tryz.isAgg110
  z37 := Tryz.sizeOf110
  v37 := Tryz.zeroValue110
  t46 := Tryz.underlying172
  a46 := Tryz.isAgg172
  z46 := Tryz.sizeOf172
  v46 := Tryz.zeroValue172
  t51 := Tryz.underlying185
  a51 := Tryz.isAgg185
  z51 := Tryz.sizeOf185
  v51 := Tryz.zeroValue185
  t53 := Tryz.underlying123
  a53 := Tryz.isAgg123
  z53 := Tryz.sizeOf123
  v53 := Tryz.zeroValue123
  t70 := Tryz.underlying120
  a70 := Tryz.isAgg120
  z70 := Tryz.sizeOf120
  v70 := Tryz.zeroValue120
  t72 := Tryz.underlying122
  a72 := Tryz.isAgg122
  z72 := Tryz.sizeOf122
  v72 := Tryz.zeroValue122
  t75 := Tryz.underlying132
  a75 := Tryz.isAgg132
  z75 := Tryz.sizeOf132
  v75 := Tryz.zeroValue132
  t76 := Tryz.underlying134
  a76 := Tryz.isAgg134
  z76 := Tryz.sizeOf134
  v76 := Tryz.zeroValue134
  t109 := Tryz.underlying173
  a109 := Tryz.isAgg173
  z109 := Tryz.sizeOf173
  v109 := Tryz.zeroValue173
  t127 := Tryz.underlying168
  a127 := Tryz.isAgg168
  z127 := Tryz.sizeOf168
  v127 := Tryz.zeroValue168
  t146 := Tryz.underlying186
  a146 := Tryz.isAgg186
  z146 := Tryz.sizeOf186
  v146 := Tryz.zeroValue186
  t148 := Tryz.underlying188
  a148 := Tryz.isAgg188
  z148 := Tryz.sizeOf188
  v148 := Tryz.zeroValue188
  t164 := Tryz.underlying183
  a164 := Tryz.isAgg183
  z164 := Tryz.sizeOf183
  v164 := Tryz.zeroValue183 }
def Tryz.vxTrim_ren : Go.Shelf.Ren := ⟨fun | 160 => 50 | 232 => 80 | 231 => 79 | 227 => 81 | 234 => 83 | 233 => 82 | 236 => 85 | 235 => 84 | 228 => 103 | 271 => 106 | 151 => 105 | 197 => 104 | 120 => 122 | 152 => 121 | 260 => 120 | 137 => 129 | 119 => 130 | 224 => 131 | 225 => 132 | 217 => 134 | 266 => 135 | n => n, fun | 9 => 9 | 4 => 4 | 3 => 3 | 5 => 5 | 117 => 160 | 116 => 159 | 0 => 0 | 124 => 163 | 21 => 21 | 105 => 180 | 46 => 172 | 119 => 202 | 139 => 205 | 138 => 204 | n => n, fun | 3 => 1 | 4 => 2 | n => n⟩
theorem Tryz.vxTrim : Go.Proofs.Lays.n160 Tryz.prog Tryz.vxTrim_ren := {
  mixed := by kernel_rfl
  f119 := Tryz.func130.trans (congrArg some (by kernel_rfl))
  f120 := Tryz.func122.trans (congrArg some (by kernel_rfl))
  f137 := Tryz.func129.trans (congrArg some (by kernel_rfl))
  f151 := Tryz.func105.trans (congrArg some (by kernel_rfl))
  f152 := Tryz.func121.trans (congrArg some (by kernel_rfl))
  f160 := Tryz.func50.trans (congrArg some (by kernel_rfl))
  f197 := Tryz.func104.trans (congrArg some (by kernel_rfl))
  f217 := Tryz.func134.trans (congrArg some (by kernel_rfl))
  f224 := Tryz.func131.trans (congrArg some (by kernel_rfl))
  f225 := Tryz.func132.trans (congrArg some (by kernel_rfl))
  f227 := Tryz.func81.trans (congrArg some (by kernel_rfl))
  f228 := Tryz.func103.trans (congrArg some (by kernel_rfl))
  f231 := Tryz.func79.trans (congrArg some (by kernel_rfl))
  f232 := Tryz.func80.trans (congrArg some (by kernel_rfl))
  f233 := Tryz.func82.trans (congrArg some (by kernel_rfl))
  f234 := Tryz.func83.trans (congrArg some (by kernel_rfl))
  f235 := Tryz.func84.trans (congrArg some (by kernel_rfl))
  f236 := Tryz.func85.trans (congrArg some (by kernel_rfl))
  f260 := Tryz.func120.trans (congrArg some (by kernel_rfl))
  f266 := Tryz.func135.trans (congrArg some (by kernel_rfl))
  f271 := Tryz.func106.trans (congrArg some (by kernel_rfl))
  t0 := Tryz.underlying0
  a0 := Tryz.isAgg0
  z0 := Tryz.sizeOf0
  v0 := Tryz.zeroValue0
  t3 := Tryz.underlying3
  a3 := Tryz.isAgg3
  z3 := Tryz.sizeOf3
  v3 := Tryz.zeroValue3
  t4 := Tryz.underlying4
  a4 := Tryz.isAgg4
  z4 := Tryz.sizeOf4
  v4 := Tryz.zeroValue4
  t5 := Tryz.underlying5
  a5 := Tryz.isAgg5
  z5 := Tryz.sizeOf5
  v5 := Tryz.zeroValue5
  t9 := Tryz.underlying9
  a9 := Tryz.isAgg9
  z9 := Tryz.sizeOf9
  v9 := Tryz.zeroValue9
  t21 := Tryz.underlying21
  a21 := Tryz.isAgg21
  z21 := Tryz.sizeOf21
  v21 := Tryz.zeroValue21
  t46 := Tryz.underlying172
  a46 := Tryz.isAgg172
  z46 := Tryz.sizeOf172
  v46 := Tryz.zeroValue172
  t105 := Tryz.underlying180
  a105 := Tryz.isAgg180
  z105 := Tryz.sizeOf180
  v105 := Tryz.zeroValue180
  t116 := Tryz.underlying159
  a116 := Tryz.isAgg159
  z116 := Tryz.sizeOf159
  t117 := Tryz.underlying160
  a117 := Tryz.isAgg160
  z117 := Tryz.sizeOf160
  v117 := Tryz.zeroValue160
  t119 := Tryz.underlying202
  a119 := Tryz.isAgg202
  z119 := Tryz.sizeOf202
  t124 := Tryz.underlying163
  a124 := Tryz.isAgg163
  z124 := Tryz.sizeOf163
  v124 := Tryz.zeroValue163
  t138 := Tryz.underlying204
  a138 := Tryz.isAgg204
  z138 := Tryz.sizeOf204
  v138 := Tryz.zeroValue204
  t139 := Tryz.underlying205
  a139 := Tryz.isAgg205
  z139 := Tryz.sizeOf205
  v139 := Tryz.zeroValue205
  g3 := by kernel_rfl
  g4 := by kernel_rfl }
end Go.Proofs
namespace Go.Vx
open Go.RowKit Go.Shelf Go.Proofs
theorem FSpec.of_text {P : Program} {T : Tab} {f : FuncId} {ds : List D} {l : List UInt8} (hcall : ∀ args w, (callFunc f args).run P w = .ok (.enter f args) w)
    (h : ∀ (V : Vw) (w : World) (args : Array Value), args.size = ds.length → (∀ (j : Nat) v d, args[j]? = some v → ds[j]? = some d → RI (szOf T) V v d) → Calls P f args w fun q w' =>
      q = .returned (.string ⟨l.toArray⟩) ∧ Below w.heap.size w w') :
    FSpec P T f ds fun d _ => d = .s l := by
  refine ⟨hcall, fun V w args hV hl hR => (h V w args hl hR).mono ?_⟩
  rintro q w' ⟨rfl, hb⟩
  exact ⟨V, [], [], _, _, rfl, rfl, .imm _ _ (.s l), hb, fun _ _ h => h, hV.ext hb, fun _ _ => rfl, rfl, by simp, by simp, by simp⟩
theorem str_arg {sz : TypeId → Nat} {V : Vw} {v : Value} {l : List UInt8} (h : RI sz V v (.s l)) : v = .string ⟨l.toArray⟩ := by cases h; rfl
theorem int_arg {sz : TypeId → Nat} {V : Vw} {v : Value} {k : IntKind} {n : Int} (h : RI sz V v (.i k n)) : v = .int k n := by cases h; rfl
theorem args2 {args : Array Value} {x y : Value} (h : args.size = 2) (h0 : args[0]? = some x) (h1 : args[1]? = some y) : args = #[x, y] := by
  apply Array.ext' 
  apply List.ext_getElem?
  intro i
  match i with
  | 0 => simpa using h0
  | 1 => simpa using h1
  | i + 2 => simp; omega
theorem args_two {sz : TypeId → Nat} {V : Vw} {args : Array Value} {a b : D} (hl : args.size = 2) (hR : ∀ (j : Nat) v d, args[j]? = some v → [a, b][j]? = some d → RI sz V v d) : ∃ x y, args = #[x, y] ∧ RI sz V x a ∧ RI sz V y b := by
  have h0 : args[0]? = some args[0] := Array.getElem?_eq_getElem (by omega)
  have h1 : args[1]? = some args[1] := Array.getElem?_eq_getElem (by omega)
  exact ⟨_, _, args2 hl h0 h1, hR 0 _ _ h0 rfl, hR 1 _ _ h1 rfl⟩
theorem repeat_at {P : Program} {T : Tab} {ρ : Ren} (L : Lays.n105 P ρ) (X : Builder.Extra P ρ) (hc : ∀ args w, (callFunc (ρ.f 105) args).run P w = .ok (.enter (ρ.f 105) args) w) (s : List UInt8) (c : Nat) (h : s.length * c ≤ 140737488355328) (hcc : c ≤ 9223372036854775807) :
    FSpec P T (ρ.f 105) [.s s, .i .i64 (c : Nat)] fun d _ => d = .s (Lib.repeatL s c) := by
  refine .of_text hc fun V w args hl hR => ?_
  obtain ⟨x, y, rfl, hx, hy⟩ := args_two hl hR
  rw [str_arg hx, int_arg hy]
  exact Any.strings_Repeat L X ⟨s.toArray⟩ c w hcc (by simpa [ByteArray.size] using h)
theorem trim_at {P : Program} {T : Tab} {ρ : Ren} (L : Lays.n160 P ρ) (h116 : (P.info? (ρ.t 116)).map (fun i => (i.zero, i.size)) = some (some (.agg (Array.replicate 256 (.bool false))), 256)) (hc : ∀ args w, (callFunc (ρ.f 160) args).run P w = .ok (.enter (ρ.f 160) args) w) (s cs : List UInt8)
    (hs : s.length ≤ 9223372036854775807) (hcs : cs.length < 4294967281) (ha : cs.all (fun b => decide (b.toNat < 128)) = true) : FSpec P T (ρ.f 160) [.s s, .s cs] fun d _ => d = .s (Lib.trimS s cs) := by
  refine .of_text hc fun V w args hl hR => ?_
  obtain ⟨x, y, rfl, hx, hy⟩ := args_two hl hR
  rw [str_arg hx, str_arg hy]
  exact Any.strings_Trim_laid L h116 ⟨s.toArray⟩ ⟨cs.toArray⟩ w (by simpa [ByteArray.size] using hs) (by simpa [ByteArray.size] using hcs) (ascii_of_all ha)
end Go.Vx
namespace Go.Vx
open Go.RowKit Go.Instr
def structB (T : Tab) (t : TypeId) : Bool := match T t with | some ⟨_, _, .struct _, _⟩ => true | _ => false
def methB (P : Program) (t : TypeId) (m : String) (f : FuncId) : Bool := match P.info? t with
  | some i => (match i.methods.find? (fun x => x.name == m) with
    | some mm => mm.path.isEmpty && (match mm.func with | some (g, false) => Nat.beq g f | _ => false)
    | none => false)
  | none => false
theorem MethC.of {P : Program} {T : Tab} (hT : TOk P T) {t : TypeId} {f : FuncId} {m : String} (hs : structB T t = true) (hm : methB P t m f = true) (hc : ∀ args w, (callFunc f args).run P w = .ok (.enter f args) w) : MethC P m t f := by
  unfold structB at hs
  split at hs
  case h_2 => cases hs
  rename_i fs z hti
  obtain ⟨fa, hu, -⟩ := (hT _ _ hti).kind
  unfold methB at hm
  split at hm
  case h_2 => cases hm
  rename_i i hi
  split at hm
  case h_2 => cases hm
  rename_i mm hfind
  simp only [Bool.and_eq_true] at hm
  obtain ⟨hp, hm⟩ := hm
  split at hm
  case h_2 => cases hm
  rename_i g hg
  have hgf : g = f := Nat.eq_of_beq_eq_true hm
  subst hgf
  have hpath : mm.path = #[] := by simpa using hp
  refine ⟨fun x args w => ?_⟩
  have hr : ∀ w, (method (P.types.size + Made.depth) t x m).run P w = .ok (g, x) w := by
    intro w
    obtain ⟨n, hn⟩ : ∃ n, P.types.size + Made.depth = n + 1 := ⟨P.types.size + 99, rfl⟩
    rw [hn]
    simp [method, typeInfo, hi, hfind, hpath, hg, follow, receiverAt, run_under hu, Place.get]
  have hprog : (program : Sem Program).run P w = .ok P w := by simp
  simp only [callMethod, Sem.run_bind, hprog, Result.andThen_ok, hr, hc]
end Go.Vx
namespace Go.Proofs.YtagmibogginaaaaGreatDoor
open Go Go.Vx
def okC (t : Str) : Prop := CT t ∧ t ≠ []
open Classical in
noncomputable def zer (t : Str) : Str := if okC t then t else []
open Classical in
noncomputable def perr (t : Str) : Int := if 256 < t.length then 2 else if okC t then 0 else 10
theorem zer_of {t : Str} (h : okC t) : zer t = t := by unfold zer; rw [if_pos h]
theorem zer_not {t : Str} (h : ¬ okC t) : zer t = [] := by unfold zer; rw [if_neg h]
@[simp] theorem wof_car_nil (k : Nat) : wof (car []) k = 0#64 := BitVec.eq_of_getLsbD_eq fun i hi => by rw [wof_get _ _ _ hi]; simp [car]
@[simp] theorem wof_one_nil (k : Nat) : wof (one []) k = 0#64 := BitVec.eq_of_getLsbD_eq fun i hi => by rw [wof_get _ _ _ hi]; simp [one]
def cubOk (t : Str) : Prop := ∀ b ∈ t, b = 48 ∨ b = 49 ∨ b = 120
theorem cubOk_step {t : Str} {i : Nat} {b : UInt8} (h : cubOk (t.take i)) (hb : t[i]? = some b) (hd : b = 48 ∨ b = 49 ∨ b = 120) : cubOk (t.take (i + 1)) := by
  intro x hx
  rw [List.take_add_one, hb] at hx
  rcases List.mem_append.1 hx with hx | hx
  · exact h x hx
  · simp at hx; rw [hx]; exact hd
theorem u8_ne {b c : UInt8} (h : b ≠ c) : ¬ ((b.toNat : Nat) : Int) = ((c.toNat : Nat) : Int) := fun e => h (UInt8.toNat_inj.1 (by omega))
set_option maxHeartbeats 4000000 in
theorem parse_at (t : Str) : FSpec Tryz.prog T 114 [.s t] (fun d rows => d = .tup [.agg (crow (zer t)), .i .i64 (perr t)] ∧ rows = []) := by
  refine FSpec.of_ok tok Tryz.func114 rfl Tryz.call114 (by simp) ?_
  (try (conv => whnf)); repeat' (first | refine Ok.seq ?_ | ((first | refine Ok.region tok ?_ | refine Ok.cond ?_); conv => whnf) | refine Ok.block ?_ | ((first | refine Ok.skip ?_ | refine Ok.ret ?_); conv => whnf) | (refine ⟨fun _ => ?_, fun _ => ?_⟩ <;> (conv => whnf) <;> (try (exfalso; omega))) | fail)
  · rename_i h
    refine Or.inl ?_; (conv => whnf)
    refine ⟨?_, rfl⟩
    rw [zer_not (fun h2 => by have := h2.1.len; omega), crow_nil]
    unfold perr
    rw [if_pos (by omega)]
    rfl
  · rename_i h0 h
    refine Or.inl ?_; (conv => whnf)
    refine ⟨?_, rfl⟩
    rw [zer_not (fun h2 => h2.2 h), crow_nil]
    unfold perr
    rw [if_neg (by omega), if_neg (fun h2 => h2.2 h)]
    rfl
  · rename_i h0 h1
    have hlen : t.length ≤ 256 := by omega
    have hne : t ≠ [] := h1
    refine Ok.loopU [0, 2, 4, 17] [18] 0 2 (fun (i : Nat) => [.i .i64 (i : Nat)]) (fun (i : Nat) (_ : List (List D)) => [[.i .i64 0, .i .u64 0, .i .u64 0, .i .u64 0, .i .u64 0, .i .u64 0, .i .u64 0, .i .u64 0, .i .u64 0], cells9 t.length (car (t.take i)) (one (t.take i))]) (fun _ r => r) (fun (i : Nat) => i ≤ t.length ∧ cubOk (t.take i)) (fun (i : Nat) => t.length - i) (0) (⟨Nat.zero_le _, by simp [cubOk]⟩) ?_; (conv => whnf); refine ⟨by ((conv => whnf); first | rfl | (simp [envCat, List.take_of_length_le, cells9]; done) | (simp [envCat, List.take_of_length_le, cells9]; rw [IntKind.wrap_i64]; omega)), ?_⟩
    rintro i ⟨hi, hok⟩
    (conv => whnf)
    by_cases hit : i < t.length
    · obtain ⟨b, hb⟩ : ∃ b, t[i]? = some b := ⟨_, List.getElem?_eq_getElem hit⟩
      have hbI : t[((i : Nat) : Int).toNat]? = some b := hb
      obtain ⟨q, r, hqr, hr, hq⟩ := split64 i (by omega)
      have hrem := rem64 hqr hr
      have hquo := quo64 hqr hr (by omega)
      have hrr : ((r : Nat) : Int) = ((r : Nat) : Int) ∧ r < 64 := ⟨rfl, hr⟩
      by_cases h49 : b = 49
      · subst h49
        have hn : (((49 : UInt8).toNat : Nat) : Int) = 49 := rfl
        rcases hq with rfl | rfl | rfl | rfl
        all_goals
          (try (conv => whnf)); repeat' (first | refine Ok.seq ?_ | ((first | refine Ok.region tok ?_ | refine Ok.cond ?_); conv => whnf) | refine Ok.block ?_ | ((first | refine Ok.skip ?_ | refine ⟨_, by assumption, ?_⟩); conv => whnf) | (refine ⟨fun _ => ?_, fun _ => ?_⟩ <;> (conv => whnf) <;> (try (exfalso; omega))) | (refine aJ ?_; conv => whnf) | fail)
          refine Or.inr (Or.inr (Or.inl ?_)); (conv => whnf); refine ⟨_, _, Tryz.func124, rfl, Tryz.call124, ?_⟩; (conv => whnf)
          (try (conv => whnf)); repeat' (first | ((first | (with_reducible_and_instances (first | refine nShl1' rfl (by assumption) ?_ | refine nOr ?_)) | refine Ok.region tok ?_ | refine Ok.region_plan (id := 0) tok follows [(5, 12, [])] [.q 0, .q 1, .q 2, .q 3, .q 4, .q 5, .q 6, .q 7, .q 8, .q 9, .q 10, .q 11, .l 12] (by kernel_rfl) ?_ | refine ⟨_, (hquo.symm).symm, ?_⟩ | refine ⟨_, (hrem.symm).symm, ?_⟩ | refine aJ ?_ | refine ⟨_, rfl, ?_⟩); conv => whnf) | fail)
          refine Or.inr (Or.inr (Or.inl ?_)); (conv => whnf); refine ⟨_, _, Tryz.func124, rfl, Tryz.call124, ?_⟩; (conv => whnf)
          (try (conv => whnf)); repeat' (first | ((first | (with_reducible_and_instances (first | refine nShl1' rfl (by assumption) ?_ | refine nOr ?_)) | refine Ok.region tok ?_ | refine Ok.region_plan (id := 0) tok follows [(5, 12, [])] [.q 0, .q 1, .q 2, .q 3, .q 4, .q 5, .q 6, .q 7, .q 8, .q 9, .q 10, .q 11, .l 12] (by kernel_rfl) ?_ | refine ⟨_, (hquo.symm).symm, ?_⟩ | refine ⟨_, (hrem.symm).symm, ?_⟩ | refine nI ?_ | refine aJ ?_ | refine ⟨_, rfl, ?_⟩); conv => whnf) | fail)
          refine ⟨i + 1, by omega, ⟨by omega, cubOk_step hok hb (by simp)⟩, ?_⟩
          have c0 := (put_word (f := car (t.take i)) (g := car (t.take (i + 1))) hqr hr (car_put hb rfl) 0).trans (by first | exact if_pos rfl | exact if_neg (by decide))
          have c1 := (put_word (f := car (t.take i)) (g := car (t.take (i + 1))) hqr hr (car_put hb rfl) 1).trans (by first | exact if_pos rfl | exact if_neg (by decide))
          have c2 := (put_word (f := car (t.take i)) (g := car (t.take (i + 1))) hqr hr (car_put hb rfl) 2).trans (by first | exact if_pos rfl | exact if_neg (by decide))
          have c3 := (put_word (f := car (t.take i)) (g := car (t.take (i + 1))) hqr hr (car_put hb rfl) 3).trans (by first | exact if_pos rfl | exact if_neg (by decide))
          have o0 := (put_word (f := one (t.take i)) (g := one (t.take (i + 1))) hqr hr (one_put hb) 0).trans (by first | exact if_pos rfl | exact if_neg (by decide))
          have o1 := (put_word (f := one (t.take i)) (g := one (t.take (i + 1))) hqr hr (one_put hb) 1).trans (by first | exact if_pos rfl | exact if_neg (by decide))
          have o2 := (put_word (f := one (t.take i)) (g := one (t.take (i + 1))) hqr hr (one_put hb) 2).trans (by first | exact if_pos rfl | exact if_neg (by decide))
          have o3 := (put_word (f := one (t.take i)) (g := one (t.take (i + 1))) hqr hr (one_put hb) 3).trans (by first | exact if_pos rfl | exact if_neg (by decide))
          (conv => whnf)
          simp only [envCat, cells9, c0, c1, c2, c3, o0, o1, o2, o3]
          rfl
      by_cases h48 : b = 48
      · subst h48
        have hn : (((48 : UInt8).toNat : Nat) : Int) = 48 := rfl
        rcases hq with rfl | rfl | rfl | rfl
        all_goals
          (try (conv => whnf)); repeat' (first | refine Ok.seq ?_ | ((first | refine Ok.region tok ?_ | refine Ok.cond ?_); conv => whnf) | refine Ok.block ?_ | ((first | refine Ok.skip ?_ | refine ⟨_, by assumption, ?_⟩); conv => whnf) | (refine ⟨fun _ => ?_, fun _ => ?_⟩ <;> (conv => whnf) <;> (try (exfalso; omega))) | (refine aJ ?_; conv => whnf) | fail)
          refine Or.inr (Or.inr (Or.inl ?_)); (conv => whnf); refine ⟨_, _, Tryz.func124, rfl, Tryz.call124, ?_⟩; (conv => whnf)
          (try (conv => whnf)); repeat' (first | ((first | (with_reducible_and_instances (first | refine nShl1' rfl (by assumption) ?_ | refine nOr ?_)) | refine Ok.region tok ?_ | refine Ok.region_plan (id := 0) tok follows [(5, 12, [])] [.q 0, .q 1, .q 2, .q 3, .q 4, .q 5, .q 6, .q 7, .q 8, .q 9, .q 10, .q 11, .l 12] (by kernel_rfl) ?_ | refine ⟨_, (hquo.symm).symm, ?_⟩ | refine ⟨_, (hrem.symm).symm, ?_⟩ | refine nI ?_ | refine aJ ?_ | refine ⟨_, rfl, ?_⟩); conv => whnf) | fail)
          refine ⟨i + 1, by omega, ⟨by omega, cubOk_step hok hb (by simp)⟩, ?_⟩
          have c0 := (put_word (f := car (t.take i)) (g := car (t.take (i + 1))) hqr hr (car_put hb rfl) 0).trans (by first | exact if_pos rfl | exact if_neg (by decide))
          have c1 := (put_word (f := car (t.take i)) (g := car (t.take (i + 1))) hqr hr (car_put hb rfl) 1).trans (by first | exact if_pos rfl | exact if_neg (by decide))
          have c2 := (put_word (f := car (t.take i)) (g := car (t.take (i + 1))) hqr hr (car_put hb rfl) 2).trans (by first | exact if_pos rfl | exact if_neg (by decide))
          have c3 := (put_word (f := car (t.take i)) (g := car (t.take (i + 1))) hqr hr (car_put hb rfl) 3).trans (by first | exact if_pos rfl | exact if_neg (by decide))
          have o0 := one_same hb (by decide) 0
          have o1 := one_same hb (by decide) 1
          have o2 := one_same hb (by decide) 2
          have o3 := one_same hb (by decide) 3
          (conv => whnf)
          simp only [envCat, cells9, c0, c1, c2, c3, o0, o1, o2, o3]
          rfl
      have hn49 := u8_ne h49
      have hn48 := u8_ne h48
      have e49 : (((49 : UInt8).toNat : Nat) : Int) = 49 := rfl
      have e48 : (((48 : UInt8).toNat : Nat) : Int) = 48 := rfl
      rw [e49] at hn49
      rw [e48] at hn48
      by_cases h120 : b = 120
      · subst h120
        have hn : (((120 : UInt8).toNat : Nat) : Int) = 120 := rfl
        (try (conv => whnf)); repeat' (first | refine Ok.seq ?_ | ((first | refine Ok.region tok ?_ | refine Ok.cond ?_); conv => whnf) | refine Ok.block ?_ | ((first | refine Ok.skip ?_ | refine nI ?_ | refine ⟨_, by assumption, ?_⟩); conv => whnf) | (refine ⟨fun _ => ?_, fun _ => ?_⟩ <;> (conv => whnf) <;> (try (exfalso; omega))) | (refine aJ ?_; conv => whnf) | fail)
        refine ⟨i + 1, by omega, ⟨by omega, cubOk_step hok hb (by simp)⟩, ?_⟩
        have c0 := car_same hb rfl 0
        have c1 := car_same hb rfl 1
        have c2 := car_same hb rfl 2
        have c3 := car_same hb rfl 3
        have o0 := one_same hb (by decide) 0
        have o1 := one_same hb (by decide) 1
        have o2 := one_same hb (by decide) 2
        have o3 := one_same hb (by decide) 3
        (conv => whnf)
        simp only [envCat, cells9, c0, c1, c2, c3, o0, o1, o2, o3]
        rfl
      · have hn120 := u8_ne h120
        have e120 : (((120 : UInt8).toNat : Nat) : Int) = 120 := rfl
        rw [e120] at hn120
        (try (conv => whnf)); repeat' (first | refine Ok.seq ?_ | ((first | refine Ok.region tok ?_ | refine Ok.cond ?_); conv => whnf) | refine Ok.block ?_ | ((first | refine Ok.skip ?_ | refine Ok.ret ?_ | refine ⟨_, by assumption, ?_⟩); conv => whnf) | (refine ⟨fun _ => ?_, fun _ => ?_⟩ <;> (conv => whnf) <;> (try (exfalso; omega))) | ((first | refine aJ ?_ | refine num_any ?_); conv => whnf) | fail)
        refine Or.inl ?_; (conv => whnf)
        refine ⟨?_, rfl⟩
        have hno : ¬ okC t := fun h2 => by
          rcases h2.1.cub b (List.mem_of_getElem? hb) with e | e | e
          · exact h48 e
          · exact h49 e
          · exact h120 e
        rw [zer_not hno, crow_nil]
        unfold perr
        rw [if_neg (by omega), if_neg hno]
        rfl
    · have he : i = t.length := by omega
      subst he
      rw [List.take_length] at *
      (try (conv => whnf)); repeat' (first | refine Ok.seq ?_ | ((first | refine Ok.region tok ?_ | refine Ok.cond ?_ | refine Ok.exit ?_ | refine Ok.ret ?_); conv => whnf) | (refine ⟨fun _ => ?_, fun _ => ?_⟩ <;> (conv => whnf) <;> (try (exfalso; omega))) | fail)
      refine Or.inl ?_; (conv => whnf)
      refine ⟨?_, rfl⟩
      have hyes : okC t := ⟨⟨hlen, hok⟩, hne⟩
      rw [zer_of hyes]
      unfold perr
      rw [if_neg (by omega), if_pos hyes]
      rfl
end Go.Proofs.YtagmibogginaaaaGreatDoor
namespace Go.Proofs.YtagmibogginaaaaGreatDoor
open Go Go.Vx
theorem fits_at (c d : Str) : FSpec Tryz.prog T 133 [.agg (crow c), .agg (crow d)] (fun r _ => r = .b (c.length = d.length ∧ 0 < c.length)) := by
  refine FSpec.of_ok tok Tryz.func133 rfl Tryz.call133 (by simp) ?_
  (try (conv => whnf)); repeat' (first | refine Ok.seq ?_ | ((first | refine Ok.region tok ?_ | refine Ok.ret ?_); conv => whnf) | (refine ⟨fun _ => ?_, fun _ => ?_⟩ <;> (conv => whnf) <;> (try (exfalso; omega))) | fail)
  all_goals
    refine Or.inl ?_; (conv => whnf)
    simp [oneD]
    omega
theorem mt_none {c d : Str} (h : meetT c d = none) : (D.tup [.agg [.i .i64 0, .i .u64 0, .i .u64 0, .i .u64 0, .i .u64 0, .i .u64 0, .i .u64 0, .i .u64 0, .i .u64 0], .b False]) = .tup [.agg (crow ((meetT c d).getD [])), .b ((meetT c d).isSome = true)] := by
  rw [h]
  simp [crow_nil]
set_option maxHeartbeats 4000000 in
theorem meet_at (c d : Str) (hc : CT c) (hd : CT d) : FSpec Tryz.prog T 125 [.agg (crow c), .agg (crow d)] (fun r rows => r = .tup [.agg (crow ((meetT c d).getD [])), .b ((meetT c d).isSome = true)] ∧ rows = []) := by
  refine FSpec.of_ok tok Tryz.func125 rfl Tryz.call125 (by simp) ?_
  (try (conv => whnf)); repeat' (first | refine Ok.seq ?_ | ((first | refine Ok.region tok ?_ | refine Ok.cond ?_); conv => whnf) | refine Ok.block ?_ | ((first | refine Ok.skip ?_ | refine Ok.ret ?_); conv => whnf) | (refine Or.inl ?_; (conv => whnf); (repeat (refine aI ?_; conv => whnf)); refine ⟨_, fits_at c d, rfl, ?_⟩; conv => whnf) | (refine ⟨fun _ => ?_, fun _ => ?_⟩ <;> (conv => whnf) <;> (try (exfalso; omega))) | fail)
  · rename_i h
    refine Or.inl ?_; (conv => whnf)
    refine ⟨mt_none ?_, rfl⟩
    unfold meetT
    split
    · rfl
    · rename_i hne
      cases hm : meetL c d with
      | none => rfl
      | some m => exact absurd ⟨by have := meetL_len hm; omega, List.length_pos_iff.2 hne⟩ h
  · rename_i h
    have hfit : c.length = d.length ∧ 0 < c.length := Classical.not_not.1 h
    have hne : c ≠ [] := List.length_pos_iff.1 hfit.2
    refine Ok.loopU [2, 3, 4] [12] 0 3 (fun (w : Nat) => [.i .i64 (w : Nat)]) (fun (w : Nat) (_ : List (List D)) => [mcells c.length w c d, crow d, [.i .i64 0, .i .u64 0, .i .u64 0, .i .u64 0, .i .u64 0, .i .u64 0, .i .u64 0, .i .u64 0, .i .u64 0]]) (fun _ r => r) (fun (w : Nat) => w ≤ 4 ∧ ∀ k, k < w → ((wof (cfl c d) k).toNat : Int) = 0) (fun (w : Nat) => 4 - w) (0) (⟨by omega, fun k hk => absurd hk (by omega)⟩) ?_; (conv => whnf); refine ⟨by ((conv => whnf); first | rfl | (simp [envCat, List.take_of_length_le, cells9, mcells]; done) | (simp [envCat, List.take_of_length_le, cells9, mcells]; rw [IntKind.wrap_i64]; omega)), ?_⟩
    rintro w ⟨hw, hz⟩
    (conv => whnf)
    by_cases hw4 : w = 4
    · subst hw4
      obtain ⟨m, hm, m1, m2⟩ := cfl_some hc hd hfit.1 hne (no_cfl hc hz)
      have hml := (meetT_ct hm hc hd).2.1
      (try (conv => whnf)); repeat' (first | refine Ok.seq ?_ | ((first | refine Ok.region tok ?_ | refine Ok.cond ?_ | refine Ok.exit ?_ | refine Ok.ret ?_); conv => whnf) | (refine ⟨fun _ => ?_, fun _ => ?_⟩ <;> (conv => whnf) <;> (try (exfalso; omega))) | fail)
      refine Or.inl ?_; (conv => whnf)
      refine ⟨?_, rfl⟩
      have hme := mcells_end hml m1 m2
      rw [hm]
      show D.tup [.agg (mcells c.length 4 c d), .b True] = _
      rw [hme]
      simp
    · rcases (by omega : w = 0 ∨ w = 1 ∨ w = 2 ∨ w = 3) with rfl | rfl | rfl | rfl
      · (try (conv => whnf)); repeat' (first | ((with_reducible_and_instances (first | refine nAnd ?_ | refine nOr ?_ | refine nXor ?_)); conv => whnf) | refine Ok.seq ?_ | ((first | refine Ok.region tok ?_ | refine Ok.region_plan (id := 8) tok follows [(3, 11, []), (7, 11, [])] [.q 0, .q 1, .q 2, .q 3, .q 4, .q 5, .q 6, .q 7, .q 8, .q 9, .q 10, .l 11] (by kernel_rfl) ?_ | refine Ok.region_plan (id := 9) tok follows [(3, 11, []), (7, 11, [])] [.q 0, .q 1, .q 2, .q 3, .q 4, .q 5, .q 6, .q 7, .q 8, .q 9, .q 10, .l 11] (by kernel_rfl) ?_ | refine Ok.region_draw tok follows (by kernel_rfl) ?_ | refine Ok.cond ?_); conv => whnf) | refine Ok.block ?_ | ((first | refine Ok.skip ?_ | refine Ok.ret ?_ | refine nI ?_); conv => whnf) | (refine ⟨fun _ => ?_, fun _ => ?_⟩ <;> (conv => whnf) <;> (try (exfalso; omega))) | ((first | refine aJ ?_ | refine ⟨_, rfl, ?_⟩); conv => whnf) | fail)
        · rename_i hx
          refine Or.inl ?_; (conv => whnf)
          have hx2 : ¬ ((wof (cfl c d) 0).toNat : Int) = 0 := by
            rw [← word_cfl]
            exact hx
          obtain ⟨i, hi⟩ := wof_nz hx2
          exact ⟨mt_none (cfl_none hc hd hi), rfl⟩
        · rename_i hx
          have hx2 : ((wof (cfl c d) 0).toNat : Int) = 0 := by
            rw [← word_cfl]
            exact Classical.not_not.1 hx
          refine ⟨1, by omega, ⟨by omega, fun k hk => ?_⟩, ?_⟩
          · by_cases hk2 : k = 0
            · rw [hk2]; exact hx2
            · exact hz k (by omega)
          · (conv => whnf)
            rfl
      · (try (conv => whnf)); repeat' (first | ((with_reducible_and_instances (first | refine nAnd ?_ | refine nOr ?_ | refine nXor ?_)); conv => whnf) | refine Ok.seq ?_ | ((first | refine Ok.region tok ?_ | refine Ok.region_plan (id := 8) tok follows [(3, 11, []), (7, 11, [])] [.q 0, .q 1, .q 2, .q 3, .q 4, .q 5, .q 6, .q 7, .q 8, .q 9, .q 10, .l 11] (by kernel_rfl) ?_ | refine Ok.region_plan (id := 9) tok follows [(3, 11, []), (7, 11, [])] [.q 0, .q 1, .q 2, .q 3, .q 4, .q 5, .q 6, .q 7, .q 8, .q 9, .q 10, .l 11] (by kernel_rfl) ?_ | refine Ok.region_draw tok follows (by kernel_rfl) ?_ | refine Ok.cond ?_); conv => whnf) | refine Ok.block ?_ | ((first | refine Ok.skip ?_ | refine Ok.ret ?_ | refine nI ?_); conv => whnf) | (refine ⟨fun _ => ?_, fun _ => ?_⟩ <;> (conv => whnf) <;> (try (exfalso; omega))) | ((first | refine aJ ?_ | refine ⟨_, rfl, ?_⟩); conv => whnf) | fail)
        · rename_i hx
          refine Or.inl ?_; (conv => whnf)
          have hx2 : ¬ ((wof (cfl c d) 1).toNat : Int) = 0 := by
            rw [← word_cfl]
            exact hx
          obtain ⟨i, hi⟩ := wof_nz hx2
          exact ⟨mt_none (cfl_none hc hd hi), rfl⟩
        · rename_i hx
          have hx2 : ((wof (cfl c d) 1).toNat : Int) = 0 := by
            rw [← word_cfl]
            exact Classical.not_not.1 hx
          refine ⟨2, by omega, ⟨by omega, fun k hk => ?_⟩, ?_⟩
          · by_cases hk2 : k = 1
            · rw [hk2]; exact hx2
            · exact hz k (by omega)
          · (conv => whnf)
            rfl
      · (try (conv => whnf)); repeat' (first | ((with_reducible_and_instances (first | refine nAnd ?_ | refine nOr ?_ | refine nXor ?_)); conv => whnf) | refine Ok.seq ?_ | ((first | refine Ok.region tok ?_ | refine Ok.region_plan (id := 8) tok follows [(3, 11, []), (7, 11, [])] [.q 0, .q 1, .q 2, .q 3, .q 4, .q 5, .q 6, .q 7, .q 8, .q 9, .q 10, .l 11] (by kernel_rfl) ?_ | refine Ok.region_plan (id := 9) tok follows [(3, 11, []), (7, 11, [])] [.q 0, .q 1, .q 2, .q 3, .q 4, .q 5, .q 6, .q 7, .q 8, .q 9, .q 10, .l 11] (by kernel_rfl) ?_ | refine Ok.region_draw tok follows (by kernel_rfl) ?_ | refine Ok.cond ?_); conv => whnf) | refine Ok.block ?_ | ((first | refine Ok.skip ?_ | refine Ok.ret ?_ | refine nI ?_); conv => whnf) | (refine ⟨fun _ => ?_, fun _ => ?_⟩ <;> (conv => whnf) <;> (try (exfalso; omega))) | ((first | refine aJ ?_ | refine ⟨_, rfl, ?_⟩); conv => whnf) | fail)
        · rename_i hx
          refine Or.inl ?_; (conv => whnf)
          have hx2 : ¬ ((wof (cfl c d) 2).toNat : Int) = 0 := by
            rw [← word_cfl]
            exact hx
          obtain ⟨i, hi⟩ := wof_nz hx2
          exact ⟨mt_none (cfl_none hc hd hi), rfl⟩
        · rename_i hx
          have hx2 : ((wof (cfl c d) 2).toNat : Int) = 0 := by
            rw [← word_cfl]
            exact Classical.not_not.1 hx
          refine ⟨3, by omega, ⟨by omega, fun k hk => ?_⟩, ?_⟩
          · by_cases hk2 : k = 2
            · rw [hk2]; exact hx2
            · exact hz k (by omega)
          · (conv => whnf)
            rfl
      · (try (conv => whnf)); repeat' (first | ((with_reducible_and_instances (first | refine nAnd ?_ | refine nOr ?_ | refine nXor ?_)); conv => whnf) | refine Ok.seq ?_ | ((first | refine Ok.region tok ?_ | refine Ok.region_plan (id := 8) tok follows [(3, 11, []), (7, 11, [])] [.q 0, .q 1, .q 2, .q 3, .q 4, .q 5, .q 6, .q 7, .q 8, .q 9, .q 10, .l 11] (by kernel_rfl) ?_ | refine Ok.region_plan (id := 9) tok follows [(3, 11, []), (7, 11, [])] [.q 0, .q 1, .q 2, .q 3, .q 4, .q 5, .q 6, .q 7, .q 8, .q 9, .q 10, .l 11] (by kernel_rfl) ?_ | refine Ok.region_draw tok follows (by kernel_rfl) ?_ | refine Ok.cond ?_); conv => whnf) | refine Ok.block ?_ | ((first | refine Ok.skip ?_ | refine Ok.ret ?_ | refine nI ?_); conv => whnf) | (refine ⟨fun _ => ?_, fun _ => ?_⟩ <;> (conv => whnf) <;> (try (exfalso; omega))) | ((first | refine aJ ?_ | refine ⟨_, rfl, ?_⟩); conv => whnf) | fail)
        · rename_i hx
          refine Or.inl ?_; (conv => whnf)
          have hx2 : ¬ ((wof (cfl c d) 3).toNat : Int) = 0 := by
            rw [← word_cfl]
            exact hx
          obtain ⟨i, hi⟩ := wof_nz hx2
          exact ⟨mt_none (cfl_none hc hd hi), rfl⟩
        · rename_i hx
          have hx2 : ((wof (cfl c d) 3).toNat : Int) = 0 := by
            rw [← word_cfl]
            exact Classical.not_not.1 hx
          refine ⟨4, by omega, ⟨by omega, fun k hk => ?_⟩, ?_⟩
          · by_cases hk2 : k = 3
            · rw [hk2]; exact hx2
            · exact hz k (by omega)
          · (conv => whnf)
            rfl
end Go.Proofs.YtagmibogginaaaaGreatDoor
namespace Go.Proofs.YtagmibogginaaaaGreatDoor
open Go Go.Vx
theorem fill_at {t : Str} {i : Nat} (hi : i < t.length) : (t.take i ++ List.replicate (t.length - i) (0 : UInt8))[i]? = some 0 := by
  rw [List.getElem?_append_right (by simp; omega)]
  simp [List.getElem?_replicate]
  omega
theorem fill_set {t : Str} {i : Nat} {b : UInt8} (h : t[i]? = some b) : (t.take i ++ List.replicate (t.length - i) (0 : UInt8)).set i b = t.take (i + 1) ++ List.replicate (t.length - (i + 1)) 0 := by
  have hi : i < t.length := (List.getElem?_eq_some_iff.1 h).1
  rw [List.set_append, if_neg (by simp; omega)]
  rw [show t.length - i = (t.length - (i + 1)) + 1 by omega, List.replicate_succ]
  rw [show i - (t.take i).length = 0 by simp; omega]
  rw [List.set_cons_zero, List.take_add_one, h]
  simp
set_option maxHeartbeats 4000000 in
theorem text_at (t : Str) (ht : CT t) : FSpec Tryz.prog T 117 [.agg (crow t)] (fun r _ => r = .s t) := by
  have hlen := ht.len
  refine FSpec.of_ok tok Tryz.func117 rfl Tryz.call117 (by simp) ?_
  (try (conv => whnf)); repeat' (first | refine Ok.seq ?_ | (refine Ok.region tok ?_; conv => whnf) | refine Ok.block ?_ | ((first | refine ⟨_, _, rfl, rfl, ?_⟩ | refine aJ ?_ | refine ⟨_, rfl, ?_⟩); conv => whnf) | fail)
  refine Ok.loopU [1, 3, 9] [10] 1 1 (fun (i : Nat) => [.i .i64 (i : Nat)]) (fun (i : Nat) (_ : List (List D)) => [crow t]) (fun (i : Nat) (_ : Vx.Rows) => [some (5, (t.take i ++ List.replicate (t.length - i) 0).map bcell)]) (fun (i : Nat) => i ≤ t.length) (fun (i : Nat) => t.length - i) (0) (Nat.zero_le _) ?_; (conv => whnf); refine ⟨by ((conv => whnf); first | rfl | (simp [envCat, List.take_of_length_le, cells9, bcell]; done) | (simp [envCat, List.take_of_length_le, cells9, bcell]; rw [IntKind.wrap_i64]; omega)), ?_⟩
  rintro i hi
  have hll : (t.take i ++ List.replicate (t.length - i) (0 : UInt8)).length = t.length := by simp; omega
  have hlm : ((t.take i ++ List.replicate (t.length - i) (0 : UInt8)).map bcell).length = t.length := by rw [List.length_map, hll]
  (conv => whnf)
  by_cases hit : i < t.length
  · obtain ⟨b, hb⟩ : ∃ b, t[i]? = some b := ⟨_, List.getElem?_eq_getElem hit⟩
    obtain ⟨q, r, hqr, hr, hq⟩ := split64 i (by omega)
    have hrem := rem64 hqr hr
    have hquo := quo64 hqr hr (by omega)
    have hrr : ((r : Nat) : Int) = ((r : Nat) : Int) ∧ r < 64 := ⟨rfl, hr⟩
    have hca := at_word (f := car t) hqr hr
    have hoa := at_word (f := one t) hqr hr
    rw [(at_b hb).1] at hca
    rw [(at_b hb).2] at hoa
    have hfa := fill_at hit
    have hfs := fill_set hb
    rcases ht.cub b (List.mem_of_getElem? hb) with rfl | rfl | rfl
    · have hc := hca.2 rfl
      have ho : ¬ _ := fun e => absurd (hoa.1 e) (by decide)
      clear hca hoa
      rcases hq with rfl | rfl | rfl | rfl
      all_goals
        (try (conv => whnf)); repeat' (first | refine Ok.seq ?_ | ((first | refine Ok.region tok ?_ | refine Ok.cond ?_); conv => whnf) | refine Ok.block ?_ | (refine Ok.skip ?_; conv => whnf) | (refine ⟨fun _ => ?_, fun _ => ?_⟩ <;> (conv => whnf) <;> (try (exfalso; omega))) | fail)
        refine Or.inr (Or.inr (Or.inl ?_)); (conv => whnf); refine ⟨_, _, Tryz.func126, rfl, Tryz.call126, ?_⟩; (conv => whnf)
        (try (conv => whnf)); repeat' (first | ((with_reducible_and_instances (first | refine nShr (by assumption) ?_ | refine nAnd1' rfl ?_)); conv => whnf) | refine Ok.seq ?_ | ((first | refine Ok.region tok ?_ | refine ⟨_, (hquo.symm).symm, ?_⟩ | refine ⟨_, (hrem.symm).symm, ?_⟩ | refine Ok.cond ?_ | refine Ok.ret ?_); conv => whnf) | (refine ⟨fun _ => ?_, fun _ => ?_⟩ <;> (conv => whnf) <;> (try (exfalso; omega))) | ((first | refine aJ ?_ | refine ⟨_, rfl, ?_⟩); conv => whnf) | fail)
        refine Or.inr (Or.inr (Or.inl ?_)); (conv => whnf); refine ⟨_, _, Tryz.func126, rfl, Tryz.call126, ?_⟩; (conv => whnf)
        (try (conv => whnf)); repeat' (first | ((with_reducible_and_instances (first | refine nShr (by assumption) ?_ | refine nAnd1' rfl ?_)); conv => whnf) | refine Ok.seq ?_ | ((first | refine Ok.region tok ?_ | refine ⟨_, (hquo.symm).symm, ?_⟩ | refine ⟨_, (hrem.symm).symm, ?_⟩ | refine Ok.cond ?_ | refine Ok.ret ?_); conv => whnf) | (refine ⟨fun _ => ?_, fun _ => ?_⟩ <;> (conv => whnf) <;> (try (exfalso; omega))) | ((first | refine aJ ?_ | refine ⟨_, rfl, ?_⟩); conv => whnf) | fail)
        refine st 48 hfa (by simp [bcell]) (by simp [setCells, bcell]) ?_
        (try (conv => whnf)); repeat' (first | ((first | refine Ok.region tok ?_ | refine nI ?_); conv => whnf) | fail)
        refine ⟨i + 1, by omega, by omega, ?_⟩
        (conv => whnf)
        simp only [toNat_cast, hfs, envCat]
        rfl
    · have hc := hca.2 rfl
      have ho := hoa.2 rfl
      clear hca hoa
      rcases hq with rfl | rfl | rfl | rfl
      all_goals
        (try (conv => whnf)); repeat' (first | refine Ok.seq ?_ | ((first | refine Ok.region tok ?_ | refine Ok.cond ?_); conv => whnf) | refine Ok.block ?_ | (refine Ok.skip ?_; conv => whnf) | (refine ⟨fun _ => ?_, fun _ => ?_⟩ <;> (conv => whnf) <;> (try (exfalso; omega))) | fail)
        refine Or.inr (Or.inr (Or.inl ?_)); (conv => whnf); refine ⟨_, _, Tryz.func126, rfl, Tryz.call126, ?_⟩; (conv => whnf)
        (try (conv => whnf)); repeat' (first | ((with_reducible_and_instances (first | refine nShr (by assumption) ?_ | refine nAnd1' rfl ?_)); conv => whnf) | refine Ok.seq ?_ | ((first | refine Ok.region tok ?_ | refine ⟨_, (hquo.symm).symm, ?_⟩ | refine ⟨_, (hrem.symm).symm, ?_⟩ | refine Ok.cond ?_ | refine Ok.ret ?_); conv => whnf) | (refine ⟨fun _ => ?_, fun _ => ?_⟩ <;> (conv => whnf) <;> (try (exfalso; omega))) | ((first | refine aJ ?_ | refine ⟨_, rfl, ?_⟩); conv => whnf) | fail)
        refine Or.inr (Or.inr (Or.inl ?_)); (conv => whnf); refine ⟨_, _, Tryz.func126, rfl, Tryz.call126, ?_⟩; (conv => whnf)
        (try (conv => whnf)); repeat' (first | ((with_reducible_and_instances (first | refine nShr (by assumption) ?_ | refine nAnd1' rfl ?_)); conv => whnf) | refine Ok.seq ?_ | ((first | refine Ok.region tok ?_ | refine ⟨_, (hquo.symm).symm, ?_⟩ | refine ⟨_, (hrem.symm).symm, ?_⟩ | refine Ok.cond ?_ | refine Ok.ret ?_); conv => whnf) | (refine ⟨fun _ => ?_, fun _ => ?_⟩ <;> (conv => whnf) <;> (try (exfalso; omega))) | ((first | refine aJ ?_ | refine ⟨_, rfl, ?_⟩); conv => whnf) | fail)
        refine st 49 hfa (by simp [bcell]) (by simp [setCells, bcell]) ?_
        (try (conv => whnf)); repeat' (first | ((first | refine Ok.region tok ?_ | refine nI ?_); conv => whnf) | fail)
        refine ⟨i + 1, by omega, by omega, ?_⟩
        (conv => whnf)
        simp only [toNat_cast, hfs, envCat]
        rfl
    · have hc : ¬ _ := fun e => absurd (hca.1 e) (by decide)
      clear hca hoa
      rcases hq with rfl | rfl | rfl | rfl
      all_goals
        (try (conv => whnf)); repeat' (first | refine Ok.seq ?_ | ((first | refine Ok.region tok ?_ | refine Ok.cond ?_); conv => whnf) | refine Ok.block ?_ | (refine Ok.skip ?_; conv => whnf) | (refine ⟨fun _ => ?_, fun _ => ?_⟩ <;> (conv => whnf) <;> (try (exfalso; omega))) | fail)
        refine Or.inr (Or.inr (Or.inl ?_)); (conv => whnf); refine ⟨_, _, Tryz.func126, rfl, Tryz.call126, ?_⟩; (conv => whnf)
        (try (conv => whnf)); repeat' (first | ((with_reducible_and_instances (first | refine nShr (by assumption) ?_ | refine nAnd1' rfl ?_)); conv => whnf) | refine Ok.seq ?_ | ((first | refine Ok.region tok ?_ | refine ⟨_, (hquo.symm).symm, ?_⟩ | refine ⟨_, (hrem.symm).symm, ?_⟩ | refine Ok.cond ?_ | refine Ok.ret ?_); conv => whnf) | (refine ⟨fun _ => ?_, fun _ => ?_⟩ <;> (conv => whnf) <;> (try (exfalso; omega))) | ((first | refine aJ ?_ | refine ⟨_, rfl, ?_⟩); conv => whnf) | fail)
        refine st 120 hfa (by simp [bcell]) (by simp [setCells, bcell]) ?_
        (try (conv => whnf)); repeat' (first | ((first | refine Ok.region tok ?_ | refine nI ?_); conv => whnf) | fail)
        refine ⟨i + 1, by omega, by omega, ?_⟩
        (conv => whnf)
        simp only [toNat_cast, hfs, envCat]
        rfl
  · have he : i = t.length := by omega
    subst he
    rw [List.take_length, Nat.sub_self, List.replicate_zero, List.append_nil] at *
    (try (conv => whnf)); repeat' (first | refine Ok.seq ?_ | ((first | refine Ok.region tok ?_ | refine Ok.cond ?_ | refine Ok.exit ?_); conv => whnf) | (refine ⟨fun _ => ?_, fun _ => ?_⟩ <;> (conv => whnf) <;> (try (exfalso; omega))) | (refine aJ ?_; conv => whnf) | fail)
    refine ⟨t, take_all bcell t, ?_⟩
    (try (conv => whnf)); repeat' (first | (refine Ok.ret ?_; conv => whnf) | fail)
    refine Or.inl ?_; (conv => whnf)
    rfl
end Go.Proofs.YtagmibogginaaaaGreatDoor
namespace Go.Proofs.YtagmibogginaaaaGreatDoor
open Go Go.Vx
def CN (c : Str) : Prop := CT c ∧ c ≠ []
structure TR where
  t : Term
  room : List (List D)
end Go.Proofs.YtagmibogginaaaaGreatDoor
namespace Go.Proofs.YtagmibogginaaaaGreatDoor
open Go Go.Vx
@[reducible] def srow (s : Str) : List D := [.s s]
end Go.Proofs.YtagmibogginaaaaGreatDoor
namespace Go.Proofs.YtagmibogginaaaaGreatDoor
open Go Go.Vx
structure SpOk (n : Nat) (l : List TR) : Prop where
  n256 : n ≤ 256
  size : szS (l.map TR.t) ≤ 1048576
  wide : ∀ x ∈ l, x.t.wide n
  pos : l ≠ [] → 0 < n
theorem SpOk.nil {n : Nat} (h : n ≤ 256) : SpOk n [] := ⟨h, by simp [szS], by simp, fun h => absurd rfl h⟩
theorem SpOk.len {n : Nat} {l : List TR} (h : SpOk n l) : l.length ≤ 1048576 := by
  have h1 := szS_len (l.map TR.t)
  have h2 := h.size
  rw [List.length_map] at h1
  omega
theorem SpOk.less {n : Nat} {l : List TR} (h : SpOk n l) {x : TR} (hx : x ∈ l) : x.t.less.length ≤ 1048576 := by
  have h1 := szS_mem (List.mem_map_of_mem (f := TR.t) hx)
  have h2 := h.size
  omega
theorem SpOk.w256 {n : Nat} {l : List TR} (h : SpOk n l) : ∀ t ∈ l.map TR.t, t.p.length ≤ 256 ∧ ∀ m ∈ t.less, m.length ≤ 256 := by
  intro t ht
  obtain ⟨x, hx, rfl⟩ := List.mem_map.1 ht
  have h1 := h.wide x hx
  have h2 := h.n256
  exact ⟨by rw [h1.1]; exact h2, fun m hm => by rw [h1.2 m hm]; exact h2⟩
theorem SpOk.sep {n : Nat} {l : List TR} (h : SpOk n l) (i : Nat) : (sepT ((l.map TR.t).take i)).length ≤ 257 * 1048576 := by
  have h1 := sepT_len (l := (l.map TR.t).take i) fun t ht => h.w256 t (List.mem_of_mem_take ht)
  have h2 := szS_take (l.map TR.t) i
  have h3 := h.size
  omega
theorem SpOk.pre {n : Nat} {l : List TR} (h : SpOk n l) (i : Nat) : (preT (l.map TR.t) i).length ≤ 257 * 1048576 + 1 := by
  unfold preT
  split
  · simp
  · have := h.sep i
    rw [List.length_append, List.length_singleton]
    omega
end Go.Proofs.YtagmibogginaaaaGreatDoor
namespace Go.Proofs.YtagmibogginaaaaGreatDoor
open Go Go.Vx
def ov1 (a b : UInt8) : UInt8 := if a = 120 then b else a
def curL (c d : Str) (i : Nat) : Str := List.zipWith ov1 (c.take i) (d.take i) ++ c.drop i
def pcT (c d : Str) (j : Nat) : Option Str :=
  match c[j]?, d[j]? with
  | some a, some b => if a = 120 ∧ b ≠ 120 then some ((curL c d j).set j (97 - b)) else none
  | _, _ => none
def pcsT (c d : Str) (i : Nat) : List Str := (List.range i).filterMap (pcT c d)
def splitT (c d : Str) : List Str := if (meetT c d).isSome then pcsT c d c.length else [c]
theorem pcsT_some {c d : Str} {i : Nat} {x : Str} (h : pcT c d i = some x) : pcsT c d (i + 1) = pcsT c d i ++ [x] := by
  unfold pcsT; rw [List.range_succ, List.filterMap_append]; simp [h]
theorem pcsT_none {c d : Str} {i : Nat} (h : pcT c d i = none) : pcsT c d (i + 1) = pcsT c d i := by
  unfold pcsT; rw [List.range_succ, List.filterMap_append]; simp [h]
theorem pcT_at {c d : Str} {j : Nat} {a b : UInt8} (ha : c[j]? = some a) (hb : d[j]? = some b) : pcT c d j = if a = 120 ∧ b ≠ 120 then some ((curL c d j).set j (97 - b)) else none := by
  unfold pcT; rw [ha, hb]
theorem curL_len {c d : Str} (hl : d.length = c.length) (i : Nat) : (curL c d i).length = c.length := by simp [curL]; omega
theorem curL_at {c d : Str} {i : Nat} {a : UInt8} (ha : c[i]? = some a) (hd : i < d.length) : (curL c d i)[i]? = some a := by
  have hi : i < c.length := (List.getElem?_eq_some_iff.1 ha).1
  have hl : (List.zipWith ov1 (c.take i) (d.take i)).length = i := by simp; omega
  unfold curL
  rw [List.getElem?_append_right (by omega), hl, Nat.sub_self, List.getElem?_drop]
  exact ha
theorem curL_succ {c d : Str} {i : Nat} {a b : UInt8} (ha : c[i]? = some a) (hb : d[i]? = some b) : curL c d (i + 1) = (curL c d i).set i (ov1 a b) := by
  have hi : i < c.length := (List.getElem?_eq_some_iff.1 ha).1
  have hi2 : i < d.length := (List.getElem?_eq_some_iff.1 hb).1
  have hl : (List.zipWith ov1 (c.take i) (d.take i)).length = i := by simp; omega
  unfold curL
  rw [List.set_append, if_neg (by omega), hl, Nat.sub_self, List.drop_eq_getElem_cons hi, List.set_cons_zero, take_snoc ha, take_snoc hb]
  rw [List.zipWith_append (by simp; omega)]
  simp
theorem curL_zero (c d : Str) : curL c d 0 = c := by simp [curL]
theorem set_self {l : Str} {i : Nat} {a : UInt8} (h : l[i]? = some a) : l.set i a = l := by
  have hi := (List.getElem?_eq_some_iff.1 h).1
  apply List.ext_getElem?
  intro k
  by_cases hk : k = i
  · subst hk; rw [List.getElem?_set_self hi, h]
  · rw [List.getElem?_set_ne (Ne.symm hk)]
theorem curL_same {c d : Str} {i : Nat} {a b : UInt8} (ha : c[i]? = some a) (hb : d[i]? = some b) (h : ¬ (a = 120 ∧ b ≠ 120)) : curL c d (i + 1) = curL c d i := by
  rw [curL_succ ha hb, show ov1 a b = a by
    unfold ov1
    split
    · rename_i he
      by_cases hb2 : b = 120
      · rw [hb2, he]
      · exact absurd ⟨he, hb2⟩ h
    · rfl]
  exact set_self (curL_at ha (List.getElem?_eq_some_iff.1 hb).1)
theorem ct_set {l : Str} {i : Nat} {b : UInt8} (h : CT l) (hb : b = 48 ∨ b = 49 ∨ b = 120) : CT (l.set i b) := by
  refine ⟨by rw [List.length_set]; exact h.len, fun x hx => ?_⟩
  rcases List.mem_or_eq_of_mem_set hx with hx | rfl
  · exact h.cub x hx
  · exact hb
theorem ov1_cub {a b : UInt8} (ha : a = 48 ∨ a = 49 ∨ a = 120) (hb : b = 48 ∨ b = 49 ∨ b = 120) : ov1 a b = 48 ∨ ov1 a b = 49 ∨ ov1 a b = 120 := by
  unfold ov1; split
  · exact hb
  · exact ha
theorem curL_ct {c d : Str} (hc : CT c) (hd : CT d) (hl : d.length = c.length) (i : Nat) : CT (curL c d i) := by
  induction i with
  | zero => rw [curL_zero]; exact hc
  | succ i ih =>
    by_cases hi : i < c.length
    · have ha := List.getElem?_eq_getElem hi
      have hb := List.getElem?_eq_getElem (show i < d.length by omega)
      rw [curL_succ ha hb]
      exact ct_set ih (ov1_cub (hc.cub _ (List.mem_of_getElem? ha)) (hd.cub _ (List.mem_of_getElem? hb)))
    · rw [show curL c d (i + 1) = curL c d i by
        unfold curL
        rw [List.take_of_length_le (show c.length ≤ i + 1 by omega), List.take_of_length_le (show d.length ≤ i + 1 by omega), List.take_of_length_le (show c.length ≤ i by omega), List.take_of_length_le (show d.length ≤ i by omega), List.drop_of_length_le (show c.length ≤ i + 1 by omega), List.drop_of_length_le (show c.length ≤ i by omega)]]
      exact ih
theorem opp_cub {b : UInt8} (hb : b = 48 ∨ b = 49 ∨ b = 120) (h : b ≠ 120) : 97 - b = 48 ∨ 97 - b = 49 ∨ 97 - b = 120 := by
  rcases hb with rfl | rfl | rfl
  · right; left; rfl
  · left; rfl
  · exact absurd rfl h
theorem pcsT_cn {c d : Str} (hc : CN c) (hd : CT d) (hl : d.length = c.length) (i : Nat) : ∀ x ∈ pcsT c d i, CN x ∧ x.length = c.length := by
  intro x hx
  obtain ⟨j, _, hj⟩ := List.mem_filterMap.1 hx
  unfold pcT at hj
  split at hj
  · rename_i a b ha hb
    split at hj
    · rename_i hab
      cases hj
      have h1 := curL_len hl j
      refine ⟨⟨ct_set (curL_ct hc.1 hd hl j) (opp_cub (hd.cub _ (List.mem_of_getElem? hb)) hab.2), fun e => hc.2 ?_⟩, by rw [List.length_set]; exact h1⟩
      have := congrArg List.length e
      rw [List.length_set, h1] at this
      exact List.eq_nil_of_length_eq_zero (by simpa using this)
    · cases hj
  · cases hj
theorem splitT_cn {c d : Str} (hc : CN c) (hd : CT d) : ∀ x ∈ splitT c d, CN x ∧ x.length = c.length := by
  intro x hx
  unfold splitT at hx
  split at hx
  · rename_i h
    obtain ⟨m, hm⟩ := Option.isSome_iff_exists.1 h
    rw [meetT_eq hc.2] at hm
    have := meetL_len hm
    exact pcsT_cn hc hd (by omega) _ x hx
  · simp at hx; subst hx; exact ⟨hc, rfl⟩
theorem pcsT_len (c d : Str) (i : Nat) : (pcsT c d i).length ≤ i := by
  have := List.length_filterMap_le (pcT c d) (List.range i)
  simpa [pcsT] using this
theorem splitT_len {c d : Str} (hc : c.length ≤ 256) : (splitT c d).length ≤ 256 := by
  unfold splitT
  split
  · exact Nat.le_trans (pcsT_len _ _ _) hc
  · simp
end Go.Proofs.YtagmibogginaaaaGreatDoor
namespace Go.Proofs.YtagmibogginaaaaGreatDoor
open Go Go.Vx
@[reducible] def w4 (f : Nat → Bool) : List D := [.i .u64 ((wof f 0).toNat : Int), .i .u64 ((wof f 1).toNat : Int), .i .u64 ((wof f 2).toNat : Int), .i .u64 ((wof f 3).toNat : Int)]
set_option maxHeartbeats 4000000 in
theorem at_one (f : Nat → Bool) (i : Nat) (hi : i < 256) : FSpec Tryz.prog T 126 [.ep (w4 f), .i .i64 (i : Int)] (fun d rows => d = .b (f i = true) ∧ rows = []) := by
  refine FSpec.of_ok tok Tryz.func126 rfl Tryz.call126 (by simp) ?_
  obtain ⟨q, r, hqr, hr, hq⟩ := split64 i (by omega)
  have hrem := rem64 hqr hr
  have hquo := quo64 hqr hr (by omega)
  have hrr : ((r : Nat) : Int) = ((r : Nat) : Int) ∧ r < 64 := ⟨rfl, hr⟩
  have hca := at_word (f := f) hqr hr
  rcases hq with rfl | rfl | rfl | rfl
  all_goals
    (try (conv => whnf)); repeat' (first | ((with_reducible_and_instances (first | refine nShr (by assumption) ?_ | refine nAnd1' rfl ?_)); conv => whnf) | refine Ok.seq ?_ | ((first | refine Ok.region tok ?_ | refine ⟨_, (hquo.symm).symm, ?_⟩ | refine ⟨_, (hrem.symm).symm, ?_⟩ | refine Ok.ret ?_ | refine aJ ?_ | refine ⟨_, rfl, ?_⟩); conv => whnf) | fail)
    refine Or.inl ?_; (conv => whnf)
    exact ⟨congrArg D.b (propext hca), rfl⟩
set_option maxHeartbeats 4000000 in
theorem at_two (f g : Nat → Bool) (i : Nat) (hi : i < 256) : FSpec Tryz.prog T 126 [.ep (w4 f ++ w4 g), .i .i64 (i : Int)] (fun d rows => d = .b (f i = true) ∧ rows = []) := by
  refine FSpec.of_ok tok Tryz.func126 rfl Tryz.call126 (by simp) ?_
  obtain ⟨q, r, hqr, hr, hq⟩ := split64 i (by omega)
  have hrem := rem64 hqr hr
  have hquo := quo64 hqr hr (by omega)
  have hrr : ((r : Nat) : Int) = ((r : Nat) : Int) ∧ r < 64 := ⟨rfl, hr⟩
  have hca := at_word (f := f) hqr hr
  rcases hq with rfl | rfl | rfl | rfl
  all_goals
    (try (conv => whnf)); repeat' (first | ((with_reducible_and_instances (first | refine nShr (by assumption) ?_ | refine nAnd1' rfl ?_)); conv => whnf) | refine Ok.seq ?_ | ((first | refine Ok.region tok ?_ | refine ⟨_, (hquo.symm).symm, ?_⟩ | refine ⟨_, (hrem.symm).symm, ?_⟩ | refine Ok.ret ?_ | refine aJ ?_ | refine ⟨_, rfl, ?_⟩); conv => whnf) | fail)
    refine Or.inl ?_; (conv => whnf)
    exact ⟨congrArg D.b (propext hca), rfl⟩
theorem ints_crow (c : Str) : ∀ d ∈ crow c, ∃ k n, d = .i k n := by
  intro d hd
  simp only [List.mem_cons, List.not_mem_nil, or_false] at hd
  rcases hd with rfl | rfl | rfl | rfl | rfl | rfl | rfl | rfl | rfl <;> exact ⟨_, _, rfl⟩
theorem pk2 {box : List (List D)} {a b x y : D} (h1 : Pk box a x) (h2 : Pk box b y) : ∀ (j : Nat) d e, [a, b][j]? = some d → [x, y][j]? = some e → Pk box d e := by
  intro j d e hd he
  match j, hd, he with
  | 0, hd, he => cases hd; cases he; exact h1
  | 1, hd, he => cases hd; cases he; exact h2
  | j + 2, hd, _ => simp at hd
end Go.Proofs.YtagmibogginaaaaGreatDoor
namespace Go.Proofs.YtagmibogginaaaaGreatDoor
open Go Go.Vx
theorem car_set {l : Str} {i : Nat} {b : UInt8} (h : l[i]? = some 120) (hb : dig b = true) (j : Nat) : car (l.set i b) j = (car l j || decide (j = i)) := by
  have hi := (List.getElem?_eq_some_iff.1 h).1
  by_cases hj : j = i
  · subst hj
    have h2 : (l.set j b)[j]? = some b := List.getElem?_set_self hi
    rw [(at_b h2).1, hb]
    simp
  · have : (l.set i b)[j]? = l[j]? := List.getElem?_set_ne (Ne.symm hj)
    simp only [car, this, hj, decide_false, Bool.or_false]
theorem one_set {l : Str} {i : Nat} (h : l[i]? = some 120) (j : Nat) : one (l.set i 49) j = (one l j || decide (j = i)) := by
  have hi := (List.getElem?_eq_some_iff.1 h).1
  by_cases hj : j = i
  · subst hj
    have h2 : (l.set j 49)[j]? = some 49 := List.getElem?_set_self hi
    rw [(at_b h2).2]
    simp
  · have : (l.set i 49)[j]? = l[j]? := List.getElem?_set_ne (Ne.symm hj)
    simp only [one, this, hj, decide_false, Bool.or_false]
theorem one_set0 {l : Str} {i : Nat} (h : l[i]? = some 120) (j : Nat) : one (l.set i 48) j = one l j := by
  have hi := (List.getElem?_eq_some_iff.1 h).1
  by_cases hj : j = i
  · subst hj
    have h2 : (l.set j 48)[j]? = some 48 := List.getElem?_set_self hi
    rw [(at_b h2).2, (at_b h).2]
    rfl
  · have : (l.set i 48)[j]? = l[j]? := List.getElem?_set_ne (Ne.symm hj)
    simp only [one, this]
set_option maxHeartbeats 8000000 in
theorem split_at (c d : Str) (hc : CN c) (hd : CT d) : FSpec Tryz.prog T 116 [.agg (crow c), .agg (crow d)] (fun r rows => ∃ rm, r = .lst 127 ((splitT c d).map crow) rm ∧ rows = []) := by
  have hcl := hc.1.len
  have hm := meet_at c d hc.1 hd
  refine FSpec.of_ok tok Tryz.func116 rfl Tryz.call116 (by simp) ?_
  by_cases hs : (meetT c d).isSome = true
  · have hl : d.length = c.length := by
      obtain ⟨m, hm⟩ := Option.isSome_iff_exists.1 hs
      rw [meetT_eq hc.2] at hm
      have := meetL_len hm
      omega
    (try (conv => whnf)); repeat' (first | refine Ok.seq ?_ | ((first | refine Ok.region tok ?_ | refine Ok.cond ?_); conv => whnf) | refine Ok.block ?_ | ((first | refine Ok.skip ?_ | refine Ok.ret ?_); conv => whnf) | (refine Or.inr (Or.inl ?_); (conv => whnf); (repeat (refine aI ?_; conv => whnf)); refine ⟨_, hm, ?_⟩; rintro _ _ ⟨rfl, rfl⟩ <;> (conv => whnf)) | (refine ⟨fun _ => ?_, fun _ => ?_⟩ <;> (conv => whnf) <;> (try (exfalso; omega))) | fail)
    · exact absurd hs (by assumption)
    refine Ok.ghost 7 127 rfl ?_
    (conv => whnf)
    have e0 : crow c = crow (curL c d 0) := by rw [curL_zero]
    have hll : ((List.length c : Nat) : Int) = ((List.length (curL c d 0) : Nat) : Int) := by rw [curL_zero]
    refine Ok.loopU [2, 3, 21] [7, 22] 1 3 (fun (i : Nat) => [.own 0 (pcsT c d i).length, .i .i64 (i : Nat)]) (fun (i : Nat) (_ : List (List D)) => [crow (curL c d i), crow d, crow ((meetT c d).getD [])]) (fun (i : Nat) (_ : Vx.Rows) => [some (127, (pcsT c d i).map crow)]) (fun (i : Nat) => i ≤ c.length) (fun (i : Nat) => c.length - i) (0) (Nat.zero_le _) ?_; (conv => whnf); refine ⟨by ((conv => whnf); first | rfl | (simp [envCat, List.take_of_length_le, cells9, crow]; done) | (simp [envCat, List.take_of_length_le, cells9, crow]; rw [IntKind.wrap_i64]; omega)), ?_⟩
    rintro i hi
    have hcu := curL_len hl i
    have hct := curL_ct hc.1 hd hl i
    have hpl := pcsT_len c d i
    have hpm : ((pcsT c d i).map crow).length = (pcsT c d i).length := by simp
    (conv => whnf)
    by_cases hil : i < c.length
    · obtain ⟨a, ha⟩ : ∃ a, c[i]? = some a := ⟨_, List.getElem?_eq_getElem hil⟩
      obtain ⟨b, hb⟩ : ∃ b, d[i]? = some b := ⟨_, List.getElem?_eq_getElem (by omega)⟩
      have hz := curL_at ha (show i < d.length by omega)
      have hac := hc.1.cub a (List.mem_of_getElem? ha)
      have hbc := hd.cub b (List.mem_of_getElem? hb)
      have hpc := pcT_at ha hb
      have hsu := curL_succ ha hb
      have hsm := fun h => curL_same ha hb h
      generalize hL : curL c d i = L at *
      generalize hQ : pcsT c d i = Q at *
      have s1 := at_two (car L) (one L) i (by omega)
      have s2 := at_two (car d) (one d) i (by omega)
      have s3 := at_one (one d) i (by omega)
      rw [(at_b hz).1] at s1
      rw [(at_b hb).1] at s2
      rw [(at_b hb).2] at s3
      obtain ⟨q, r, hqr, hr, hq⟩ := split64 i (by omega)
      have hrem := rem64 hqr hr
      have hquo := quo64 hqr hr (by omega)
      have hrr : ((r : Nat) : Int) = ((r : Nat) : Int) ∧ r < 64 := ⟨rfl, hr⟩
      by_cases hab : a = 120 ∧ b ≠ 120
      · obtain ⟨rfl, hb2⟩ := hab
        rw [if_pos ⟨rfl, hb2⟩] at hpc
        have hsn := pcsT_some hpc
        rw [hQ] at hsn
        rw [show ov1 120 b = b from rfl] at hsu
        rcases hbc with rfl | rfl | rfl
        · rw [show (97 : UInt8) - 48 = 49 from rfl] at hsn
          have k := put_word (f := car L) (g := car (L.set i 48)) hqr hr (car_set hz rfl)
          have k' := put_word (f := car L) (g := car (L.set i 49)) hqr hr (car_set hz rfl)
          have o := fun k => wof_ext (f := one (L.set i 48)) (g := one L) (k := k) fun j _ => one_set0 hz _
          have o' := put_word (f := one L) (g := one (L.set i 49)) hqr hr (one_set hz)
          rcases hq with rfl | rfl | rfl | rfl
          all_goals
            (try (conv => whnf)); repeat' (first | refine Ok.seq ?_ | ((first | refine Ok.region tok ?_ | refine Ok.cond ?_); conv => whnf) | refine Ok.block ?_ | ((first | refine Ok.skip ?_ | refine Ok.exit ?_ | refine nI ?_); conv => whnf) | (refine Or.inr (Or.inr (Or.inr (Or.inr ?_))); (conv => whnf); refine effW.of (effK.peek (by rfl) (pk2 (.bp _ _ ( crow L) rfl (fun d hd => ints_crow _ d (List.mem_of_mem_drop hd))) (.i _ _)) (s1 ) ?_); rintro _ _ ⟨rfl, rfl⟩; (refine And.intro (by simp [gRowsP, grounds, D.ground]) ?_; conv => whnf)) | (refine Or.inr (Or.inr (Or.inr (Or.inr ?_))); (conv => whnf); refine effW.of (effK.peek (by rfl) (pk2 (.bp _ _ ( crow d) rfl (fun d hd => ints_crow _ d (List.mem_of_mem_drop hd))) (.i _ _)) (s2 ) ?_); rintro _ _ ⟨rfl, rfl⟩; (refine And.intro (by simp [gRowsP, grounds, D.ground]) ?_; conv => whnf)) | (refine ⟨fun _ => ?_, fun _ => ?_⟩ <;> (conv => whnf) <;> (try (exfalso; omega))) | fail)
            all_goals first
              | contradiction
              | skip
            refine Or.inr (Or.inr (Or.inl ?_)); (conv => whnf); refine ⟨_, _, Tryz.func124, rfl, Tryz.call124, ?_⟩; (conv => whnf)
            (try (conv => whnf)); repeat' (first | ((with_reducible_and_instances (first | refine nShl1' rfl (by assumption) ?_ | refine nOr ?_)); conv => whnf) | refine Ok.seq ?_ | ((first | refine Ok.region tok ?_ | refine Ok.region_plan (id := 0) tok follows [(5, 12, [])] [.q 0, .q 1, .q 2, .q 3, .q 4, .q 5, .q 6, .q 7, .q 8, .q 9, .q 10, .q 11, .l 12] (by kernel_rfl) ?_ | refine ⟨_, (hquo.symm).symm, ?_⟩ | refine ⟨_, (hrem.symm).symm, ?_⟩ | refine Ok.cond ?_); conv => whnf) | (refine Or.inr (Or.inr (Or.inr (Or.inr ?_))); (conv => whnf); refine effW.of (effK.peek (by rfl) (pk2 (.bp _ _ ( crow d) rfl (fun d hd => ints_crow _ d (List.mem_of_mem_drop hd))) (.i _ _)) (s3 ) ?_); rintro _ _ ⟨rfl, rfl⟩; (refine And.intro (by simp [gRowsP, grounds, D.ground]) ?_; conv => whnf)) | (refine ⟨fun _ => ?_, fun _ => ?_⟩ <;> (conv => whnf) <;> (try (exfalso; omega))) | ((first | refine aJ ?_ | refine ⟨_, rfl, ?_⟩); conv => whnf) | fail)
            all_goals first
              | contradiction
              | skip
            refine Or.inr (Or.inr (Or.inl ?_)); (conv => whnf); refine ⟨_, _, Tryz.func124, rfl, Tryz.call124, ?_⟩; (conv => whnf)
            (try (conv => whnf)); repeat' (first | ((first | (with_reducible_and_instances (first | refine nShl1' rfl (by assumption) ?_ | refine nOr ?_)) | refine Ok.region tok ?_ | refine Ok.region_plan (id := 0) tok follows [(5, 12, [])] [.q 0, .q 1, .q 2, .q 3, .q 4, .q 5, .q 6, .q 7, .q 8, .q 9, .q 10, .q 11, .l 12] (by kernel_rfl) ?_ | refine ⟨_, (hquo.symm).symm, ?_⟩ | refine ⟨_, (hrem.symm).symm, ?_⟩ | refine nI ?_ | refine Alt2.l (aI ?_) | refine ⟨_, .inl ⟨rfl, rfl⟩, ?_⟩ | refine ⟨_, _, rfl, rfl, ?_⟩ | refine aJ ?_ | refine ⟨_, rfl, ?_⟩); conv => whnf) | fail)
            refine ⟨i + 1, by omega, by omega, ?_⟩
            rw [hsu, hsn]
            have a0 := (k 0).trans (by first | exact if_pos rfl | exact if_neg (by decide))
            have a1 := (k 1).trans (by first | exact if_pos rfl | exact if_neg (by decide))
            have a2 := (k 2).trans (by first | exact if_pos rfl | exact if_neg (by decide))
            have a3 := (k 3).trans (by first | exact if_pos rfl | exact if_neg (by decide))
            have b0 := o 0
            have b1 := o 1
            have b2 := o 2
            have b3 := o 3
            have e0 := (k' 0).trans (by first | exact if_pos rfl | exact if_neg (by decide))
            have e1 := (k' 1).trans (by first | exact if_pos rfl | exact if_neg (by decide))
            have e2 := (k' 2).trans (by first | exact if_pos rfl | exact if_neg (by decide))
            have e3 := (k' 3).trans (by first | exact if_pos rfl | exact if_neg (by decide))
            have f0 := (o' 0).trans (by first | exact if_pos rfl | exact if_neg (by decide))
            have f1 := (o' 1).trans (by first | exact if_pos rfl | exact if_neg (by decide))
            have f2 := (o' 2).trans (by first | exact if_pos rfl | exact if_neg (by decide))
            have f3 := (o' 3).trans (by first | exact if_pos rfl | exact if_neg (by decide))
            (conv => whnf)
            simp only [envCat, crow, cells9, List.length_set, List.map_append, List.map_cons, List.map_nil, List.length_append, List.length_map, List.length_cons, List.length_nil, a0, a1, a2, a3, b0, b1, b2, b3, e0, e1, e2, e3, f0, f1, f2, f3]
            rfl
        · rw [show (97 : UInt8) - 49 = 48 from rfl] at hsn
          have k := put_word (f := car L) (g := car (L.set i 49)) hqr hr (car_set hz rfl)
          have k' := put_word (f := car L) (g := car (L.set i 48)) hqr hr (car_set hz rfl)
          have o := put_word (f := one L) (g := one (L.set i 49)) hqr hr (one_set hz)
          have o' := fun k => wof_ext (f := one (L.set i 48)) (g := one L) (k := k) fun j _ => one_set0 hz _
          rcases hq with rfl | rfl | rfl | rfl
          all_goals
            (try (conv => whnf)); repeat' (first | refine Ok.seq ?_ | ((first | refine Ok.region tok ?_ | refine Ok.cond ?_); conv => whnf) | refine Ok.block ?_ | ((first | refine Ok.skip ?_ | refine Ok.exit ?_ | refine nI ?_); conv => whnf) | (refine Or.inr (Or.inr (Or.inr (Or.inr ?_))); (conv => whnf); refine effW.of (effK.peek (by rfl) (pk2 (.bp _ _ ( crow L) rfl (fun d hd => ints_crow _ d (List.mem_of_mem_drop hd))) (.i _ _)) (s1 ) ?_); rintro _ _ ⟨rfl, rfl⟩; (refine And.intro (by simp [gRowsP, grounds, D.ground]) ?_; conv => whnf)) | (refine Or.inr (Or.inr (Or.inr (Or.inr ?_))); (conv => whnf); refine effW.of (effK.peek (by rfl) (pk2 (.bp _ _ ( crow d) rfl (fun d hd => ints_crow _ d (List.mem_of_mem_drop hd))) (.i _ _)) (s2 ) ?_); rintro _ _ ⟨rfl, rfl⟩; (refine And.intro (by simp [gRowsP, grounds, D.ground]) ?_; conv => whnf)) | (refine ⟨fun _ => ?_, fun _ => ?_⟩ <;> (conv => whnf) <;> (try (exfalso; omega))) | fail)
            all_goals first
              | contradiction
              | skip
            refine Or.inr (Or.inr (Or.inl ?_)); (conv => whnf); refine ⟨_, _, Tryz.func124, rfl, Tryz.call124, ?_⟩; (conv => whnf)
            (try (conv => whnf)); repeat' (first | ((with_reducible_and_instances (first | refine nShl1' rfl (by assumption) ?_ | refine nOr ?_)); conv => whnf) | refine Ok.seq ?_ | ((first | refine Ok.region tok ?_ | refine Ok.region_plan (id := 0) tok follows [(5, 12, [])] [.q 0, .q 1, .q 2, .q 3, .q 4, .q 5, .q 6, .q 7, .q 8, .q 9, .q 10, .q 11, .l 12] (by kernel_rfl) ?_ | refine ⟨_, (hquo.symm).symm, ?_⟩ | refine ⟨_, (hrem.symm).symm, ?_⟩ | refine Ok.cond ?_); conv => whnf) | (refine Or.inr (Or.inr (Or.inr (Or.inr ?_))); (conv => whnf); refine effW.of (effK.peek (by rfl) (pk2 (.bp _ _ ( crow d) rfl (fun d hd => ints_crow _ d (List.mem_of_mem_drop hd))) (.i _ _)) (s3 ) ?_); rintro _ _ ⟨rfl, rfl⟩; (refine And.intro (by simp [gRowsP, grounds, D.ground]) ?_; conv => whnf)) | (refine ⟨fun _ => ?_, fun _ => ?_⟩ <;> (conv => whnf) <;> (try (exfalso; omega))) | ((first | refine aJ ?_ | refine ⟨_, rfl, ?_⟩); conv => whnf) | fail)
            all_goals first
              | contradiction
              | skip
            refine Or.inr (Or.inr (Or.inl ?_)); (conv => whnf); refine ⟨_, _, Tryz.func124, rfl, Tryz.call124, ?_⟩; (conv => whnf)
            (try (conv => whnf)); repeat' (first | ((first | (with_reducible_and_instances (first | refine nShl1' rfl (by assumption) ?_ | refine nOr ?_)) | refine Ok.region tok ?_ | refine Ok.region_plan (id := 0) tok follows [(5, 12, [])] [.q 0, .q 1, .q 2, .q 3, .q 4, .q 5, .q 6, .q 7, .q 8, .q 9, .q 10, .q 11, .l 12] (by kernel_rfl) ?_ | refine ⟨_, (hquo.symm).symm, ?_⟩ | refine ⟨_, (hrem.symm).symm, ?_⟩ | refine nI ?_ | refine Alt2.l (aI ?_) | refine ⟨_, .inl ⟨rfl, rfl⟩, ?_⟩ | refine ⟨_, _, rfl, rfl, ?_⟩ | refine aJ ?_ | refine ⟨_, rfl, ?_⟩); conv => whnf) | fail)
            refine ⟨i + 1, by omega, by omega, ?_⟩
            rw [hsu, hsn]
            have a0 := (k 0).trans (by first | exact if_pos rfl | exact if_neg (by decide))
            have a1 := (k 1).trans (by first | exact if_pos rfl | exact if_neg (by decide))
            have a2 := (k 2).trans (by first | exact if_pos rfl | exact if_neg (by decide))
            have a3 := (k 3).trans (by first | exact if_pos rfl | exact if_neg (by decide))
            have b0 := (o 0).trans (by first | exact if_pos rfl | exact if_neg (by decide))
            have b1 := (o 1).trans (by first | exact if_pos rfl | exact if_neg (by decide))
            have b2 := (o 2).trans (by first | exact if_pos rfl | exact if_neg (by decide))
            have b3 := (o 3).trans (by first | exact if_pos rfl | exact if_neg (by decide))
            have e0 := (k' 0).trans (by first | exact if_pos rfl | exact if_neg (by decide))
            have e1 := (k' 1).trans (by first | exact if_pos rfl | exact if_neg (by decide))
            have e2 := (k' 2).trans (by first | exact if_pos rfl | exact if_neg (by decide))
            have e3 := (k' 3).trans (by first | exact if_pos rfl | exact if_neg (by decide))
            have f0 := o' 0
            have f1 := o' 1
            have f2 := o' 2
            have f3 := o' 3
            (conv => whnf)
            simp only [envCat, crow, cells9, List.length_set, List.map_append, List.map_cons, List.map_nil, List.length_append, List.length_map, List.length_cons, List.length_nil, a0, a1, a2, a3, b0, b1, b2, b3, e0, e1, e2, e3, f0, f1, f2, f3]
            rfl
        · exact absurd rfl hb2
      · rw [if_neg hab] at hpc
        have hsn := pcsT_none hpc
        rw [hQ] at hsn
        have hsm := hsm hab
        have hcases : (dig a = true) ∨ (dig a = false ∧ dig b = false) := by
          rcases hac with rfl | rfl | rfl
          · left; rfl
          · left; rfl
          · right
            rcases hbc with rfl | rfl | rfl
            · exact absurd ⟨rfl, by decide⟩ hab
            · exact absurd ⟨rfl, by decide⟩ hab
            · exact ⟨rfl, rfl⟩
        rcases hcases with hda | ⟨hda, hdb⟩
        · rw [hda] at s1
          (try (conv => whnf)); repeat' (first | refine Ok.seq ?_ | ((first | refine Ok.region tok ?_ | refine Ok.cond ?_); conv => whnf) | refine Ok.block ?_ | ((first | refine Ok.skip ?_ | refine Ok.exit ?_ | refine nI ?_); conv => whnf) | (refine Or.inr (Or.inr (Or.inr (Or.inr ?_))); (conv => whnf); refine effW.of (effK.peek (by rfl) (pk2 (.bp _ _ ( crow L) rfl (fun d hd => ints_crow _ d (List.mem_of_mem_drop hd))) (.i _ _)) (s1 ) ?_); rintro _ _ ⟨rfl, rfl⟩; (refine And.intro (by simp [gRowsP, grounds, D.ground]) ?_; conv => whnf)) | (refine Or.inr (Or.inr (Or.inr (Or.inr ?_))); (conv => whnf); refine effW.of (effK.peek (by rfl) (pk2 (.bp _ _ ( crow d) rfl (fun d hd => ints_crow _ d (List.mem_of_mem_drop hd))) (.i _ _)) (s2 ) ?_); rintro _ _ ⟨rfl, rfl⟩; (refine And.intro (by simp [gRowsP, grounds, D.ground]) ?_; conv => whnf)) | (refine ⟨fun _ => ?_, fun _ => ?_⟩ <;> (conv => whnf) <;> (try (exfalso; omega))) | fail)
          all_goals first
            | contradiction
            | (refine ⟨i + 1, by omega, by omega, ?_⟩
               rw [hsm, hsn]
               (conv => whnf)
               rfl)
            | (rename_i h; exact absurd rfl h)
        · rw [hda] at s1
          rw [hdb] at s2
          (try (conv => whnf)); repeat' (first | refine Ok.seq ?_ | ((first | refine Ok.region tok ?_ | refine Ok.cond ?_); conv => whnf) | refine Ok.block ?_ | ((first | refine Ok.skip ?_ | refine Ok.exit ?_ | refine nI ?_); conv => whnf) | (refine Or.inr (Or.inr (Or.inr (Or.inr ?_))); (conv => whnf); refine effW.of (effK.peek (by rfl) (pk2 (.bp _ _ ( crow L) rfl (fun d hd => ints_crow _ d (List.mem_of_mem_drop hd))) (.i _ _)) (s1 ) ?_); rintro _ _ ⟨rfl, rfl⟩; (refine And.intro (by simp [gRowsP, grounds, D.ground]) ?_; conv => whnf)) | (refine Or.inr (Or.inr (Or.inr (Or.inr ?_))); (conv => whnf); refine effW.of (effK.peek (by rfl) (pk2 (.bp _ _ ( crow d) rfl (fun d hd => ints_crow _ d (List.mem_of_mem_drop hd))) (.i _ _)) (s2 ) ?_); rintro _ _ ⟨rfl, rfl⟩; (refine And.intro (by simp [gRowsP, grounds, D.ground]) ?_; conv => whnf)) | (refine ⟨fun _ => ?_, fun _ => ?_⟩ <;> (conv => whnf) <;> (try (exfalso; omega))) | fail)
          all_goals first
            | contradiction
            | (refine ⟨i + 1, by omega, by omega, ?_⟩
               rw [hsm, hsn]
               (conv => whnf)
               rfl)
            | (rename_i h; exact absurd (fun q => by cases q) h)
    · have hie : i = c.length := by omega
      subst hie
      have hsp : splitT c d = pcsT c d c.length := if_pos hs
      rw [hsp]
      (try (conv => whnf)); repeat' (first | refine Ok.seq ?_ | ((first | refine Ok.region tok ?_ | refine Ok.cond ?_ | refine Ok.exit ?_ | refine Ok.ret ?_); conv => whnf) | (refine ⟨fun _ => ?_, fun _ => ?_⟩ <;> (conv => whnf) <;> (try (exfalso; omega))) | fail)
      refine Or.inl ?_; (conv => whnf)
      refine ⟨[], ?_, rfl⟩
      rw [List.take_of_length_le (by simp), List.drop_of_length_le (by simp)]
      rfl
  · have hn : splitT c d = [c] := by unfold splitT; rw [if_neg hs]
    rw [hn]
    (try (conv => whnf)); repeat' (first | refine Ok.seq ?_ | ((first | refine Ok.region tok ?_ | refine Ok.cond ?_); conv => whnf) | refine Ok.block ?_ | ((first | refine Ok.skip ?_ | refine Ok.ret ?_); conv => whnf) | (refine Or.inr (Or.inl ?_); (conv => whnf); (repeat (refine aI ?_; conv => whnf)); refine ⟨_, hm, ?_⟩; rintro _ _ ⟨rfl, rfl⟩ <;> (conv => whnf)) | (refine ⟨fun _ => ?_, fun _ => ?_⟩ <;> (conv => whnf) <;> (try (exfalso; omega))) | fail)
    · refine Or.inl ?_; (conv => whnf)
      exact ⟨_, rfl, rfl⟩
    · rename_i h
      exact absurd (Classical.not_not.1 h) hs
end Go.Proofs.YtagmibogginaaaaGreatDoor
namespace Go.Proofs.YtagmibogginaaaaGreatDoor
open Go Go.Vx
structure Tst where
  f : Str
  op : Int
  form : Int
  lo : Int
  hi : Int
  len : Int
  pat : Str
structure Nd where
  kind : Int
  t : Tst
structure Fd where
  name : Str
  bits : Int
@[reducible] def tcells (t : Tst) : List D := [.s t.f, .i .i64 t.op, .i .i64 t.form, .i .i64 t.lo, .i .i64 t.hi, .i .i64 t.len, .s t.pat]
@[reducible] def nrow (x : Nd) : List D := .i .i64 x.kind :: tcells x.t
@[reducible] def frow (x : Fd) : List D := [.s x.name, .i .i64 x.bits]
theorem eqNode : EqT Tryz.prog 56 [.i .i64, .s, .i .i64, .i .i64, .i .i64, .i .i64, .i .i64, .s] := EqT.of_b tok (ti := _) rfl rfl (by kernel_rfl)
theorem eqTest : EqT Tryz.prog 54 [.s, .i .i64, .i .i64, .i .i64, .i .i64, .i .i64, .s] := EqT.of_b tok (ti := _) rfl rfl (by kernel_rfl)
theorem eqField : EqT Tryz.prog 34 [.s, .i .i64] := EqT.of_b tok (ti := _) rfl rfl (by kernel_rfl)
set_option maxHeartbeats 4000000 in
theorem alike_at (l : List Nd) (r1 r2 : List (List D)) (hl : l.length ≤ 2000000) : FSpec Tryz.prog T 24 [.lst 56 (l.map nrow) r1, .lst 56 (l.map nrow) r2] (fun d _ => d = .b True) := by
  have h1 : (l.map nrow).length = l.length := by simp
  refine FSpec.of_ok tok Tryz.func24 rfl Tryz.call24 (by simp) ?_
  (try (conv => whnf)); repeat' (first | refine Ok.seq ?_ | ((first | refine Ok.region tok ?_ | refine Ok.cond ?_); conv => whnf) | refine Ok.block ?_ | (refine Ok.skip ?_; conv => whnf) | (refine ⟨fun _ => ?_, fun _ => ?_⟩ <;> (conv => whnf) <;> (try (exfalso; omega))) | fail)
  all_goals first
    | (exfalso; omega)
    | skip
  refine Ok.loopU [0, 1] [5] 0 0 (fun (i : Nat) => [.i .i64 (i : Nat)]) (fun _ b => b) (fun _ r => r) (fun (i : Nat) => i ≤ l.length) (fun (i : Nat) => l.length - i) (0) (Nat.zero_le _) ?_; (conv => whnf); refine ⟨by ((conv => whnf); first | rfl | (simp [envCat, List.take_of_length_le, nrow, frow]; done) | (simp [envCat, List.take_of_length_le, nrow, frow]; rw [IntKind.wrap_i64]; omega)), ?_⟩
  intro i hi
  (conv => whnf)
  by_cases hil : i < l.length
  · obtain ⟨c, hc⟩ : ∃ c, l[i]? = some c := ⟨_, List.getElem?_eq_getElem hil⟩
    have hcI : l[((i : Nat) : Int).toNat]? = some c := hc
    (try (conv => whnf)); repeat' (first | (refine ⟨_, eqNode, by kernel_rfl, ?_⟩; (conv => whnf)) | refine Ok.seq ?_ | ((first | refine Ok.region tok ?_ | refine Ok.region_draw tok follows (by kernel_rfl) ?_ | refine Ok.cond ?_); conv => whnf) | refine Ok.block ?_ | ((first | refine Ok.skip ?_ | refine Ok.ret ?_ | refine nI ?_ | refine ix _ (by assumption) ?_); conv => whnf) | (refine ⟨fun _ => ?_, fun _ => ?_⟩ <;> (conv => whnf) <;> (try (exfalso; omega))) | fail)
    all_goals first
      | (rename_i h; exfalso; simp [eqDs, eqD] at h; done)
      | (refine ⟨i + 1, by omega, by omega, ?_⟩
         (conv => whnf)
         rfl)
      | trace_state
  · have hie : i = l.length := by omega
    subst hie
    (try (conv => whnf)); repeat' (first | refine Ok.seq ?_ | ((first | refine Ok.region tok ?_ | refine Ok.cond ?_ | refine Ok.exit ?_ | refine Ok.ret ?_); conv => whnf) | (refine ⟨fun _ => ?_, fun _ => ?_⟩ <;> (conv => whnf) <;> (try (exfalso; omega))) | fail)
    refine Or.inl ?_; (conv => whnf)
    rfl
end Go.Proofs.YtagmibogginaaaaGreatDoor
namespace Go.Proofs.YtagmibogginaaaaGreatDoor
open Go Go.Vx
def tst0 : Tst := ⟨[], 0, 0, 0, 0, 0, []⟩
def mk91 : Nd := ⟨91, tst0⟩
def mk92 : Nd := ⟨92, tst0⟩
def mkF : Fd := ⟨[63], 91⟩
set_option maxHeartbeats 4000000 in
theorem nodes_at (l : List Nd) (r1 : List (List D)) (hl : l.length ≤ 1000) : FSpec Tryz.prog T 7 [.lst 56 (l.map nrow) r1] (fun d rows => d = .own 0 l.length ∧ rows = [some (56, (l ++ [mk91, mk92]).map nrow)]) := by
  have h1 : (l.map nrow).length = l.length := by simp
  refine FSpec.of_ok tok Tryz.func7 rfl Tryz.call7 (by simp) ?_
  (try (conv => whnf)); repeat' (first | refine Ok.seq ?_ | ((first | refine Ok.region tok ?_ | refine Alt2.l (aI ?_) | refine ⟨_, .inl ⟨rfl, rfl⟩, ?_⟩ | refine ⟨_, _, rfl, rfl, ?_⟩ | refine aJ ?_); conv => whnf) | fail)
  refine ⟨l.length, rfl, (by (conv => whnf); omega), by simp, ?_⟩
  (conv => whnf)
  (try (conv => whnf)); repeat' (first | (refine Ok.ret ?_; conv => whnf) | fail)
  refine Or.inr (Or.inl ?_); (conv => whnf)
  refine ⟨rfl, ?_⟩
  simp [mk91, mk92, tst0]
set_option maxHeartbeats 4000000 in
theorem layout1_at (l : List Fd) (r1 : List (List D)) (hl : l.length ≤ 16) : FSpec Tryz.prog T 6 [.lst 34 (l.map frow) r1] (fun d rows => d = .own 0 l.length ∧ rows = [some (34, (l ++ [mkF]).map frow)]) := by
  have h1 : (l.map frow).length = l.length := by simp
  refine FSpec.of_ok tok Tryz.func6 rfl Tryz.call6 (by simp) ?_
  (try (conv => whnf)); repeat' (first | refine Ok.seq ?_ | ((first | refine Ok.region tok ?_ | refine Alt2.l (aI ?_) | refine ⟨_, .inl ⟨rfl, rfl⟩, ?_⟩ | refine ⟨_, _, rfl, rfl, ?_⟩ | refine aJ ?_); conv => whnf) | fail)
  refine ⟨l.length, rfl, (by (conv => whnf); omega), by simp, ?_⟩
  (conv => whnf)
  (try (conv => whnf)); repeat' (first | (refine Ok.ret ?_; conv => whnf) | fail)
  refine Or.inr (Or.inl ?_); (conv => whnf)
  refine ⟨rfl, ?_⟩
  simp [mkF]
set_option maxHeartbeats 4000000 in
theorem turned_at (l : List Nd) (r1 : List (List D)) (hl : l.length ≤ 1000) : FSpec Tryz.prog T 13 [.lst 56 (l.map nrow) r1] (fun d rows => rows = [] ∧ ∃ rm, d = .lst 56 (l.reverse.map nrow) rm) := by
  have h1 : (l.map nrow).length = l.length := by simp
  refine FSpec.of_ok tok Tryz.func13 rfl Tryz.call13 (by simp) ?_
  (try (conv => whnf)); repeat' (first | refine Ok.seq ?_ | (refine Ok.region tok ?_; conv => whnf) | refine Ok.block ?_ | (refine nI ?_; conv => whnf) | fail)
  refine Ok.ghost 3 56 rfl ?_
  (conv => whnf)
  refine Ok.loopU [0] [3, 4] 1 0 (fun (x : Int × Nat) => [.own 0 x.2, .i .i64 x.1]) (fun _ b => b) (fun (x : Int × Nat) (_ : Vx.Rows) => [some (56, (l.reverse.take x.2).map nrow)]) (fun (x : Int × Nat) => x.2 ≤ l.length ∧ x.1 = (l.length : Int) - 1 - (x.2 : Nat)) (fun (x : Int × Nat) => l.length - x.2) ((((l.map nrow).length : Int) - 1, 0)) (⟨Nat.zero_le _, by simp [h1]⟩) ?_; (conv => whnf); refine ⟨by ((conv => whnf); first | rfl | (simp [envCat, List.take_of_length_le, nrow, frow]; done) | (simp [envCat, List.take_of_length_le, nrow, frow]; rw [IntKind.wrap_i64]; omega)), ?_⟩
  rintro ⟨v, i⟩ ⟨hi, hv⟩
  dsimp only at hi hv ⊢
  have htl : ((l.reverse.take i).map nrow).length = i := by simp; omega
  (conv => whnf)
  by_cases hil : i < l.length
  · obtain ⟨c, hc⟩ : ∃ c, l[l.length - 1 - i]? = some c := ⟨_, List.getElem?_eq_getElem (by omega)⟩
    have hcI : l[v.toNat]? = some c := by rw [hv, ← hc]; congr 1; omega
    have hsn : (l.reverse.take (i + 1)).map nrow = (l.reverse.take i).map nrow ++ [nrow c] := by
      rw [take_snoc (by rw [List.getElem?_reverse hil, ← hc]), List.map_append]; rfl
    (try (conv => whnf)); repeat' (first | refine Ok.seq ?_ | ((first | refine Ok.region tok ?_ | refine Ok.cond ?_); conv => whnf) | refine Ok.block ?_ | ((first | refine Ok.skip ?_ | refine nI ?_ | refine ixI (by omega) (by assumption) ?_ | refine Alt2.l (aI ?_) | refine ⟨_, .inl ⟨rfl, rfl⟩, ?_⟩ | refine ⟨_, _, rfl, rfl, ?_⟩); conv => whnf) | (refine ⟨fun _ => ?_, fun _ => ?_⟩ <;> (conv => whnf) <;> (try (exfalso; omega))) | (refine aJ ?_; conv => whnf) | fail)
    all_goals first
      | (exfalso; omega)
      | skip
    refine ⟨(v - 1, i + 1), by dsimp only; omega, ⟨by dsimp only; omega, by dsimp only; omega⟩, ?_⟩
    rw [hsn]
    (conv => whnf)
    simp [envCat]
    omega
  · have hie : i = l.length := by omega
    subst hie
    (try (conv => whnf)); repeat' (first | refine Ok.seq ?_ | ((first | refine Ok.region tok ?_ | refine Ok.cond ?_ | refine Ok.exit ?_ | refine Ok.ret ?_); conv => whnf) | (refine ⟨fun _ => ?_, fun _ => ?_⟩ <;> (conv => whnf) <;> (try (exfalso; omega))) | fail)
    all_goals first
      | (exfalso; omega)
      | skip
    refine Or.inl ?_; (conv => whnf)
    refine ⟨rfl, [], ?_⟩
    rw [List.take_of_length_le (by simp), List.take_of_length_le (by simp), List.drop_of_length_le (by simp)]
    rfl
set_option maxHeartbeats 4000000 in
theorem untouched_at (l : List Nd) (r2 : List (List D)) (hl : l.length ≤ 1000) : FSpec Tryz.prog T 11 [.lst 56 (l.map nrow) ([mk91, mk92].map nrow), .lst 56 (l.map nrow) r2] (fun d _ => d = .b True) := by
  have h1 : (l.map nrow).length = l.length := by simp
  refine FSpec.of_ok tok Tryz.func11 rfl Tryz.call11 (by simp) ?_
  have hap : l.map nrow ++ [mk91, mk92].map nrow = (l ++ [mk91, mk92]).map nrow := by simp
  have h9 : (l ++ [mk91, mk92])[(((l.map nrow).length : Nat) : Int).toNat]? = some mk91 := by simp
  have h8 : (l ++ [mk91, mk92])[((((l.map nrow).length : Nat) : Int) + 1).toNat]? = some mk92 := by
    rw [show ((((l.map nrow).length : Nat) : Int) + 1).toNat = l.length + 1 by omega]
    simp
  have al := fun a b => alike_at l a b (by omega)
  (try (conv => whnf)); repeat' (first | (refine ⟨(l ++ [mk91, mk92]).map nrow, [], (by simp [List.take_of_length_le]), (by simp), ?_⟩; (conv => whnf)) | (refine ⟨_, eqNode, by kernel_rfl, ?_⟩; (conv => whnf)) | refine Ok.seq ?_ | ((first | refine Ok.region tok ?_ | refine Ok.ret ?_ | refine nI ?_ | refine ix _ (by assumption) ?_); conv => whnf) | (refine Or.inl ?_; (conv => whnf); (repeat (refine aI ?_; conv => whnf)); refine ⟨_, al _ _, rfl, ?_⟩; conv => whnf) | (refine ⟨_, _, rfl, rfl, ?_⟩; conv => whnf) | (refine ⟨fun _ => ?_, fun _ => ?_⟩ <;> (conv => whnf) <;> (try (exfalso; omega))) | (refine aJ ?_; conv => whnf) | fail)
  all_goals first
    | exact absurd trivial (by assumption)
    | (rename_i h; exact absurd ⟨rfl, rfl, rfl, rfl, rfl, rfl, rfl, rfl⟩ h)
    | (refine Or.inl ?_; (conv => whnf)
       show D.b _ = D.b True
       congr 1
       exact propext ⟨fun _ => trivial, fun _ => ⟨rfl, rfl, rfl, rfl, rfl, rfl, rfl, rfl⟩⟩)
set_option maxHeartbeats 4000000 in
theorem kept1_at (l : List Fd) (r2 : List (List D)) (hl : l.length ≤ 16) : FSpec Tryz.prog T 12 [.lst 34 (l.map frow) ([mkF].map frow), .lst 34 (l.map frow) r2] (fun d _ => d = .b True) := by
  have h1 : (l.map frow).length = l.length := by simp
  refine FSpec.of_ok tok Tryz.func12 rfl Tryz.call12 (by simp) ?_
  (try (conv => whnf)); repeat' (first | refine Ok.seq ?_ | (refine Ok.region tok ?_; conv => whnf) | refine Ok.block ?_ | fail)
  refine Ok.loopU [0, 1] [5] 0 0 (fun (i : Nat) => [.i .i64 (i : Nat)]) (fun _ b => b) (fun _ r => r) (fun (i : Nat) => i ≤ l.length) (fun (i : Nat) => l.length - i) (0) (Nat.zero_le _) ?_; (conv => whnf); refine ⟨by ((conv => whnf); first | rfl | (simp [envCat, List.take_of_length_le, nrow, frow]; done) | (simp [envCat, List.take_of_length_le, nrow, frow]; rw [IntKind.wrap_i64]; omega)), ?_⟩
  intro i hi
  (conv => whnf)
  by_cases hil : i < l.length
  · obtain ⟨c, hc⟩ : ∃ c, l[i]? = some c := ⟨_, List.getElem?_eq_getElem hil⟩
    have hcI : l[((i : Nat) : Int).toNat]? = some c := hc
    (try (conv => whnf)); repeat' (first | (refine ⟨_, eqField, by kernel_rfl, ?_⟩; (conv => whnf)) | refine Ok.seq ?_ | ((first | refine Ok.region tok ?_ | refine Ok.region_draw tok follows (by kernel_rfl) ?_ | refine Ok.cond ?_); conv => whnf) | refine Ok.block ?_ | ((first | refine Ok.skip ?_ | refine Ok.ret ?_ | refine nI ?_ | refine ix _ (by assumption) ?_); conv => whnf) | (refine ⟨fun _ => ?_, fun _ => ?_⟩ <;> (conv => whnf) <;> (try (exfalso; omega))) | fail)
    all_goals first
      | (rename_i h; exfalso; simp [eqDs, eqD] at h; done)
      | (exfalso; omega)
      | (refine ⟨i + 1, by omega, by omega, ?_⟩
         (conv => whnf)
         rfl)
  · have hie : i = l.length := by omega
    subst hie
    have h9 : (l ++ [mkF])[(((l.map frow).length : Nat) : Int).toNat]? = some mkF := by simp
    (try (conv => whnf)); repeat' (first | (refine ⟨(l ++ [mkF]).map frow, [], (by simp [List.take_of_length_le]), (by simp), ?_⟩; (conv => whnf)) | (refine ⟨_, eqField, by kernel_rfl, ?_⟩; (conv => whnf)) | refine Ok.seq ?_ | ((first | refine Ok.region tok ?_ | refine Ok.cond ?_ | refine Ok.exit ?_ | refine Ok.ret ?_ | refine nI ?_ | refine ix _ (by assumption) ?_ | refine ⟨_, _, rfl, rfl, ?_⟩); conv => whnf) | (refine ⟨fun _ => ?_, fun _ => ?_⟩ <;> (conv => whnf) <;> (try (exfalso; omega))) | (refine aJ ?_; conv => whnf) | fail)
    all_goals first
      | (exfalso; omega)
      | (refine Or.inl ?_; (conv => whnf)
         show D.b _ = D.b True
         congr 1
         exact propext ⟨fun _ => trivial, fun _ => ⟨rfl, rfl⟩⟩)
end Go.Proofs.YtagmibogginaaaaGreatDoor
namespace Go.Proofs.YtagmibogginaaaaGreatDoor
open Go Go.Vx
def Ltr (b : UInt8) : Prop := b.toNat = 95 ∨ (97 ≤ b.toNat ∧ b.toNat ≤ 122) ∨ (65 ≤ b.toNat ∧ b.toNat ≤ 90)
def Dgt (b : UInt8) : Prop := 48 ≤ b.toNat ∧ b.toNat ≤ 57
def nameAt (i : Nat) (b : UInt8) : Prop := Ltr b ∨ (i ≠ 0 ∧ Dgt b)
def NameP (s : Str) : Prop := s ≠ [] ∧ s.length ≤ 24 ∧ ∀ (i : Nat) b, s[i]? = some b → nameAt i b
theorem b_ff {p : Prop} (h : ¬ p) : D.b False = D.b p := by congr 1; exact propext ⟨False.elim, h⟩
theorem b_tt {p : Prop} (h : p) : D.b True = D.b p := by congr 1; exact propext ⟨fun _ => h, fun _ => trivial⟩
theorem name_step {s : Str} {i : Nat} {b : UInt8} (h : ∀ (j : Nat) c, j < i → s[j]? = some c → nameAt j c) (hb : s[i]? = some b) (hn : nameAt i b) : ∀ (j : Nat) c, j < i + 1 → s[j]? = some c → nameAt j c := by
  intro j c hj hc
  by_cases hji : j = i
  · subst hji; rw [hb] at hc; cases hc; exact hn
  · exact h j c (by omega) hc
set_option maxHeartbeats 4000000 in
theorem name_at (s : Str) : FSpec Tryz.prog T 68 [.s s] (fun d _ => d = .b (NameP s)) := by
  refine FSpec.of_ok tok Tryz.func68 rfl Tryz.call68 (by simp) ?_
  (try (conv => whnf)); repeat' (first | refine Ok.seq ?_ | ((first | refine Ok.region tok ?_ | refine Ok.cond ?_); conv => whnf) | refine Ok.block ?_ | ((first | refine Ok.skip ?_ | refine Ok.ret ?_); conv => whnf) | (refine ⟨fun _ => ?_, fun _ => ?_⟩ <;> (conv => whnf) <;> (try (exfalso; omega))) | fail)
  all_goals first
    | (rename_i h
       refine Or.inl ?_; (conv => whnf)
       exact b_ff fun hn => hn.1 (by simpa using h))
    | (rename_i h
       refine Or.inl ?_; (conv => whnf)
       exact b_ff fun hn => absurd hn.2.1 (by omega))
    | skip
  rename_i h0 h1
  have hne : s ≠ [] := fun e => h0 (by simpa using e)
  have hle : s.length ≤ 24 := by omega
  refine Ok.loopU [0, 14] [15] 0 0 (fun (i : Nat) => [.i .i64 (i : Nat)]) (fun _ b => b) (fun _ r => r) (fun (i : Nat) => i ≤ s.length ∧ ∀ (j : Nat) c, j < i → s[j]? = some c → nameAt j c) (fun (i : Nat) => s.length - i) (0) (⟨Nat.zero_le _, fun j c hj => absurd hj (by omega)⟩) ?_; (conv => whnf); refine ⟨by ((conv => whnf); first | rfl | (simp [envCat, List.take_of_length_le, nrow, frow]; done) | (simp [envCat, List.take_of_length_le, nrow, frow]; rw [IntKind.wrap_i64]; omega)), ?_⟩
  rintro i ⟨hi, hall⟩
  (conv => whnf)
  by_cases hil : i < s.length
  · obtain ⟨b, hb⟩ : ∃ b, s[i]? = some b := ⟨_, List.getElem?_eq_getElem hil⟩
    have hbI : s[((i : Nat) : Int).toNat]? = some b := hb
    have hb255 := b.toNat_lt
    (try (conv => whnf)); repeat' (first | refine Ok.seq ?_ | ((first | refine Ok.region tok ?_ | refine Ok.cond ?_); conv => whnf) | refine Ok.block ?_ | ((first | refine Ok.skip ?_ | refine Ok.ret ?_ | refine nI ?_ | refine ⟨_, by assumption, ?_⟩); conv => whnf) | (refine ⟨fun _ => ?_, fun _ => ?_⟩ <;> (conv => whnf) <;> (try (exfalso; omega))) | ((first | refine aJ ?_ | refine num_any ?_); conv => whnf) | fail)
    all_goals first
      | (exfalso; omega)
      | (refine Or.inl ?_; (conv => whnf)
         refine b_ff fun hn => ?_
         have := hn.2.2 i b hb
         unfold nameAt Ltr Dgt at this
         omega)
      | (refine ⟨i + 1, by omega, ⟨by omega, name_step hall hb ?_⟩, ?_⟩
         · unfold nameAt Ltr Dgt
           omega
         · (conv => whnf)
           rfl)
      | trace_state
  · have hie : i = s.length := by omega
    subst hie
    (try (conv => whnf)); repeat' (first | refine Ok.seq ?_ | ((first | refine Ok.region tok ?_ | refine Ok.cond ?_ | refine Ok.exit ?_ | refine Ok.ret ?_); conv => whnf) | (refine ⟨fun _ => ?_, fun _ => ?_⟩ <;> (conv => whnf) <;> (try (exfalso; omega))) | fail)
    all_goals first
      | (exfalso; omega)
      | (refine Or.inl ?_; (conv => whnf)
         exact b_tt ⟨hne, hle, fun j c hc => hall j c (List.getElem?_eq_some_iff.1 hc).1 hc⟩)
      | trace_state
set_option maxHeartbeats 4000000 in
theorem rname_at (s : Str) : FSpec Tryz.prog T 40 [.s s] (fun d _ => d = .b (NameP s)) := by
  refine FSpec.of_ok tok Tryz.func40 rfl Tryz.call40 (by simp) ?_
  (try (conv => whnf)); repeat' (first | refine Ok.seq ?_ | ((first | refine Ok.region tok ?_ | refine Ok.cond ?_); conv => whnf) | refine Ok.block ?_ | ((first | refine Ok.skip ?_ | refine Ok.ret ?_); conv => whnf) | (refine ⟨fun _ => ?_, fun _ => ?_⟩ <;> (conv => whnf) <;> (try (exfalso; omega))) | fail)
  all_goals first
    | (rename_i h
       refine Or.inl ?_; (conv => whnf)
       exact b_ff fun hn => hn.1 (by simpa using h))
    | (rename_i h
       refine Or.inl ?_; (conv => whnf)
       exact b_ff fun hn => absurd hn.2.1 (by omega))
    | skip
  rename_i h0 h1
  have hne : s ≠ [] := fun e => h0 (by simpa using e)
  have hle : s.length ≤ 24 := by omega
  refine Ok.loopU [0] [3] 0 0 (fun (i : Nat) => [.i .i64 (i : Nat)]) (fun _ b => b) (fun _ r => r) (fun (i : Nat) => i ≤ s.length ∧ ∀ (j : Nat) c, j < i → s[j]? = some c → nameAt j c) (fun (i : Nat) => s.length - i) (0) (⟨Nat.zero_le _, fun j c hj => absurd hj (by omega)⟩) ?_; (conv => whnf); refine ⟨by ((conv => whnf); first | rfl | (simp [envCat, List.take_of_length_le, nrow, frow]; done) | (simp [envCat, List.take_of_length_le, nrow, frow]; rw [IntKind.wrap_i64]; omega)), ?_⟩
  rintro i ⟨hi, hall⟩
  (conv => whnf)
  by_cases hil : i < s.length
  · obtain ⟨b, hb⟩ : ∃ b, s[i]? = some b := ⟨_, List.getElem?_eq_getElem hil⟩
    have hbI : s[((i : Nat) : Int).toNat]? = some b := hb
    have hb255 := b.toNat_lt
    (try (conv => whnf)); repeat' (first | refine Ok.seq ?_ | ((first | refine Ok.region tok ?_ | refine Ok.cond ?_); conv => whnf) | refine Ok.block ?_ | ((first | refine Ok.skip ?_ | refine Ok.ret ?_ | refine nI ?_ | refine ⟨_, by assumption, ?_⟩); conv => whnf) | (refine ⟨fun _ => ?_, fun _ => ?_⟩ <;> (conv => whnf) <;> (try (exfalso; omega))) | ((first | refine aJ ?_ | refine num_any ?_); conv => whnf) | fail)
    all_goals first
      | (exfalso; omega)
      | (refine Or.inl ?_; (conv => whnf)
         refine b_ff fun hn => ?_
         have := hn.2.2 i b hb
         unfold nameAt Ltr Dgt at this
         omega)
      | (refine ⟨i + 1, by omega, ⟨by omega, name_step hall hb ?_⟩, ?_⟩
         · unfold nameAt Ltr Dgt
           omega
         · (conv => whnf)
           rfl)
      | trace_state
  · have hie : i = s.length := by omega
    subst hie
    (try (conv => whnf)); repeat' (first | refine Ok.seq ?_ | ((first | refine Ok.region tok ?_ | refine Ok.cond ?_ | refine Ok.exit ?_ | refine Ok.ret ?_); conv => whnf) | (refine ⟨fun _ => ?_, fun _ => ?_⟩ <;> (conv => whnf) <;> (try (exfalso; omega))) | fail)
    all_goals first
      | (exfalso; omega)
      | (refine Or.inl ?_; (conv => whnf)
         exact b_tt ⟨hne, hle, fun j c hc => hall j c (List.getElem?_eq_some_iff.1 hc).1 hc⟩)
      | trace_state
end Go.Proofs.YtagmibogginaaaaGreatDoor
namespace Go.Proofs.YtagmibogginaaaaGreatDoor
open Go Go.Vx
theorem fdrop_at {α : Type} {l : List α} {i : Nat} {x : α} (h : l[i]? = some x) : l.drop i = x :: l.drop (i + 1) := by
  obtain ⟨h1, rfl⟩ := List.getElem?_eq_some_iff.1 h
  exact List.drop_eq_getElem_cons h1
def findI (nm : Str) : List Fd → Nat → Int
  | [], _ => -1
  | f :: l, k => if f.name = nm then (k : Int) else findI nm l (k + 1)
theorem findI_ge (nm : Str) : ∀ (l : List Fd) (k : Nat), (0 ≤ findI nm l k ↔ ∃ f ∈ l, f.name = nm) ∧ -1 ≤ findI nm l k ∧ findI nm l k < (k + l.length : Nat)
  | [], k => by simp [findI]; omega
  | f :: l, k => by
    unfold findI
    split
    · rename_i h
      refine ⟨⟨fun _ => ⟨f, by simp, h⟩, fun _ => by omega⟩, by omega, by simp; omega⟩
    · rename_i h
      obtain ⟨h1, h2, h3⟩ := findI_ge nm l (k + 1)
      refine ⟨h1.trans ⟨fun ⟨g, hg, e⟩ => ⟨g, by simp [hg], e⟩, fun ⟨g, hg, e⟩ => ?_⟩, h2, by simp at h3 ⊢; omega⟩
      rcases List.mem_cons.1 hg with rfl | hg
      · exact absurd e h
      · exact ⟨g, hg, e⟩
set_option maxHeartbeats 4000000 in
theorem find_at (l : List Fd) (r : List (List D)) (nm : Str) (hl : l.length ≤ 1000) : FSpec Tryz.prog T 69 [.lst 34 (l.map frow) r, .s nm] (fun d _ => d = .i .i64 (findI nm l 0)) := by
  have h1 : (l.map frow).length = l.length := by simp
  refine FSpec.of_ok tok Tryz.func69 rfl Tryz.call69 (by simp) ?_
  (try (conv => whnf)); repeat' (first | refine Ok.seq ?_ | (refine Ok.region tok ?_; conv => whnf) | refine Ok.block ?_ | fail)
  refine Ok.loopU [1, 7, 8] [9] 0 0 (fun (i : Nat) => [.i .i64 (i : Nat)]) (fun _ b => b) (fun _ r => r) (fun (i : Nat) => i ≤ l.length ∧ findI nm l 0 = findI nm (l.drop i) i) (fun (i : Nat) => l.length - i) (0) (⟨Nat.zero_le _, rfl⟩) ?_; (conv => whnf); refine ⟨by ((conv => whnf); first | rfl | (simp [envCat, List.take_of_length_le, nrow, frow]; done) | (simp [envCat, List.take_of_length_le, nrow, frow]; rw [IntKind.wrap_i64]; omega)), ?_⟩
  rintro i ⟨hi, hf⟩
  (conv => whnf)
  by_cases hil : i < l.length
  · obtain ⟨c, hc⟩ : ∃ c, l[i]? = some c := ⟨_, List.getElem?_eq_getElem hil⟩
    have hcI : l[((i : Nat) : Int).toNat]? = some c := hc
    rw [fdrop_at hc] at hf
    (try (conv => whnf)); repeat' (first | refine Ok.seq ?_ | ((first | refine Ok.region tok ?_ | refine Ok.cond ?_); conv => whnf) | refine Ok.block ?_ | ((first | refine Ok.skip ?_ | refine Ok.ret ?_ | refine nI ?_ | refine ix _ (by assumption) ?_); conv => whnf) | (refine ⟨fun _ => ?_, fun _ => ?_⟩ <;> (conv => whnf) <;> (try (exfalso; omega))) | fail)
    all_goals first
      | (exfalso; omega)
      | (rename_i h
         refine Or.inl ?_; (conv => whnf)
         rw [hf]
         unfold findI
         rw [if_pos h]
         rfl)
      | (rename_i h
         refine ⟨i + 1, by omega, ⟨by omega, ?_⟩, ?_⟩
         · rw [hf]
           conv => lhs; unfold findI
           rw [if_neg h]
         · (conv => whnf)
           rfl)
      | trace_state
  · have hie : i = l.length := by omega
    subst hie
    rw [List.drop_length] at hf
    (try (conv => whnf)); repeat' (first | refine Ok.seq ?_ | ((first | refine Ok.region tok ?_ | refine Ok.cond ?_ | refine Ok.exit ?_ | refine Ok.ret ?_); conv => whnf) | (refine ⟨fun _ => ?_, fun _ => ?_⟩ <;> (conv => whnf) <;> (try (exfalso; omega))) | fail)
    all_goals first
      | (exfalso; omega)
      | (refine Or.inl ?_; (conv => whnf)
         rw [hf]
         rfl)
      | trace_state
def badF (pre : List Fd) (f : Fd) (sum : Int) : Prop :=
  ¬ NameP f.name ∨ f.name = [97, 110, 121] ∨ f.name = [110, 111, 110, 101] ∨ (∃ g ∈ pre, g.name = f.name) ∨ f.bits < 1 ∨ 32 < f.bits ∨ 256 < sum + f.bits
open Classical in
noncomputable def chkFrom (all : List Fd) : List Fd → Nat → Int → Int × Int
  | [], _, _ => (0, 0)
  | f :: r, i, sum => if badF (all.take i) f sum then (40, (i : Int)) else chkFrom all r (i + 1) (sum + f.bits)
noncomputable def chkO (l : List Fd) : Int × Int := if 12 < l.length then (2, 0) else if l = [] then (40, 0) else chkFrom l l 0 0
theorem chkFrom_bad {all : List Fd} {f : Fd} {r : List Fd} {i : Nat} {sum : Int} (h : badF (all.take i) f sum) : chkFrom all (f :: r) i sum = (40, (i : Int)) := by unfold chkFrom; rw [if_pos h]
theorem chkFrom_ok {all : List Fd} {f : Fd} {r : List Fd} {i : Nat} {sum : Int} (h : ¬ badF (all.take i) f sum) : chkFrom all (f :: r) i sum = chkFrom all r (i + 1) (sum + f.bits) := by conv => lhs; unfold chkFrom; rw [if_neg h]
theorem chkO_long {l : List Fd} (h : 12 < l.length) : chkO l = (2, 0) := by unfold chkO; rw [if_pos h]
theorem chkO_nil {l : List Fd} (h : l.length = 0) : chkO l = (40, 0) := by unfold chkO; rw [if_neg (by omega), if_pos (List.eq_nil_of_length_eq_zero h)]
theorem chkO_of {l : List Fd} (h : ¬ 12 < l.length) (h2 : l.length ≠ 0) : chkO l = chkFrom l l 0 0 := by unfold chkO; rw [if_neg h, if_neg (fun e => h2 (by rw [e]; rfl))]
set_option maxHeartbeats 8000000 in
theorem check_at (l : List Fd) (r : List (List D)) (hl : l.length ≤ 1000) : FSpec Tryz.prog T 37 [.lst 34 (l.map frow) r] (fun d _ => d = .tup [.i .i64 (chkO l).1, .i .i64 (chkO l).2]) := by
  have h1 : (l.map frow).length = l.length := by simp
  refine FSpec.of_ok tok Tryz.func37 rfl Tryz.call37 (by simp) ?_
  (try (conv => whnf)); repeat' (first | refine Ok.seq ?_ | ((first | refine Ok.region tok ?_ | refine Ok.cond ?_); conv => whnf) | refine Ok.block ?_ | ((first | refine Ok.skip ?_ | refine Ok.ret ?_); conv => whnf) | (refine ⟨fun _ => ?_, fun _ => ?_⟩ <;> (conv => whnf) <;> (try (exfalso; omega))) | fail)
  all_goals first
    | (rename_i h
       refine Or.inl ?_; (conv => whnf)
       rw [chkO_long (by omega)]
       rfl)
    | (rename_i h
       refine Or.inl ?_; (conv => whnf)
       rw [chkO_nil (by omega)]
       rfl)
    | skip
  rename_i h2 h3
  rw [chkO_of (by omega) (by omega)]
  refine Ok.loopU [0, 13, 14] [4, 15] 0 0 (fun (x : Nat × Int) => [.i .i64 x.2, .i .i64 (x.1 : Nat)]) (fun _ b => b) (fun _ r => r) (fun (x : Nat × Int) => x.1 ≤ l.length ∧ 0 ≤ x.2 ∧ x.2 ≤ 256 ∧ chkFrom l l 0 0 = chkFrom l (l.drop x.1) x.1 x.2) (fun (x : Nat × Int) => l.length - x.1) ((0, 0)) (⟨Nat.zero_le _, by omega, by omega, rfl⟩) ?_; (conv => whnf); refine ⟨by ((conv => whnf); first | rfl | (simp [envCat, List.take_of_length_le, nrow, frow]; done) | (simp [envCat, List.take_of_length_le, nrow, frow]; rw [IntKind.wrap_i64]; omega)), ?_⟩
  rintro ⟨i, sum⟩ ⟨hi, hs0, hs1, hf⟩
  dsimp only at hi hs0 hs1 hf ⊢
  (conv => whnf)
  by_cases hil : i < l.length
  · obtain ⟨c, hc⟩ : ∃ c, l[i]? = some c := ⟨_, List.getElem?_eq_getElem hil⟩
    have hcI : l[((i : Nat) : Int).toNat]? = some c := hc
    rw [fdrop_at hc] at hf
    have hfg := findI_ge c.name (l.take i) 0
    have hfa := fun r => find_at (l.take i) r c.name (by simp; omega)
    have hmt : (l.take i).map frow = ((l.map frow ++ r).take i).drop 0 := by rw [List.drop_zero, List.take_append_of_le_length (by omega), List.map_take]
    (try (conv => whnf)); repeat' (first | (refine ⟨(l.take i).map frow, _, hmt, rfl, ?_⟩; (conv => whnf)) | refine Ok.seq ?_ | ((first | refine Ok.region tok ?_ | refine Ok.region_draw tok follows (by kernel_rfl) ?_ | refine Ok.cond ?_); conv => whnf) | refine Ok.block ?_ | ((first | refine Ok.skip ?_ | refine Ok.ret ?_ | refine nI ?_ | refine ix _ (by assumption) ?_ | refine ⟨_, name_at c.name, rfl, ?_⟩ | refine ⟨_, hfa _, rfl, ?_⟩ | refine ⟨_, _, rfl, rfl, ?_⟩); conv => whnf) | (refine ⟨fun _ => ?_, fun _ => ?_⟩ <;> (conv => whnf) <;> (try (exfalso; omega))) | (refine aJ ?_; conv => whnf) | fail)
    all_goals first
      | (exfalso; omega)
      | (refine Or.inl ?_; (conv => whnf)
         rw [hf, chkFrom_bad (show badF (l.take i) c sum from by
           unfold badF
           first
             | exact .inl (by assumption)
             | exact .inr (.inl (by assumption))
             | exact .inr (.inr (.inl (by assumption)))
             | exact .inr (.inr (.inr (.inl (hfg.1.1 (by assumption)))))
             | exact .inr (.inr (.inr (.inr (by omega)))))]
         rfl)
      | skip
    all_goals
      refine ⟨(i + 1, sum + c.bits), by dsimp only; omega, ⟨by dsimp only; omega, by dsimp only; omega, by dsimp only; omega, ?_⟩, ?_⟩
    · rw [hf]
      refine chkFrom_ok fun hb => ?_
      rcases hb with h | h | h | h | h
      · exact absurd h (by assumption)
      · exact absurd h (by assumption)
      · exact absurd h (by assumption)
      · exact absurd (hfg.1.2 h) (by assumption)
      · omega
    · (conv => whnf)
      rfl
  · have hie : i = l.length := by omega
    subst hie
    rw [List.drop_length] at hf
    (try (conv => whnf)); repeat' (first | refine Ok.seq ?_ | ((first | refine Ok.region tok ?_ | refine Ok.cond ?_ | refine Ok.exit ?_ | refine Ok.ret ?_); conv => whnf) | (refine ⟨fun _ => ?_, fun _ => ?_⟩ <;> (conv => whnf) <;> (try (exfalso; omega))) | fail)
    all_goals first
      | (exfalso; omega)
      | (refine Or.inl ?_; (conv => whnf)
         rw [hf]
         rfl)
      | trace_state
end Go.Proofs.YtagmibogginaaaaGreatDoor
