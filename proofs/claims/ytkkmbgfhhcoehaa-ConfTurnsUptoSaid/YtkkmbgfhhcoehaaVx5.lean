/- The plain-data machine, part 5: regions, statements, loops. Nothing here speaks of one program. -/
import Derived.Test.YtkkmbgfhhcoehaaVx4
namespace Go.Vx
open Go.RowKit

section
variable {w0 w w' : World} {V0 : Fr} {V : Vw} {μ : List Nat} {ω : List Value} {s : St} {a : Act} {P : Program} {T : Tab}

theorem tmp_bool {a : Act} {t : Nat} {b : Bool} (h : a.tmps.getD t undef = .bool b) : a.tmps[t]? = some (.bool b) := by
  by_cases ht : t < a.tmps.size
  · rw [Array.getElem?_eq_getElem ht]; simpa [Array.getD, ht] using h
  · simp [Array.getD, ht, undef] at h

theorem wantK_sound (hS : Sim (szOf T) w0 V0 V μ ω s a w) {ops : List Oper} {o : Oper} {yes no : St → Prop} (h : wantK ops s o.guard yes no) :
    (Region.wanted o (yielded ops.toArray a.tmps) = true ∧ ∃ s', yes s' ∧ Sim (szOf T) w0 V0 V μ ω s' a w) ∨ (Region.wanted o (yielded ops.toArray a.tmps) = false ∧ ∃ s', no s' ∧ Sim (szOf T) w0 V0 V μ ω s' a w) := by
  unfold wantK at h
  split at h
  · rename_i hg
    exact .inl ⟨by simp [Region.wanted, hg], s, h, hS⟩
  · rename_i j c hg
    split at h
    · exact h.elim
    rename_i t ht
    have hy : ∀ b, a.tmps.getD t undef = .bool b → yielded ops.toArray a.tmps j = some b := by
      intro b hb
      simp [yielded, ht, tmp_bool hb]
    have hw : ∀ b, a.tmps.getD t undef = .bool b → Region.wanted o (yielded ops.toArray a.tmps) = (b == c) := by
      intro b hb
      simp [Region.wanted, hg, hy b hb]
    cases hb : Nat.blt t s.n with
    | false => rw [hb] at h; exact h.elim
    | true => 
    rw [hb] at h
    dsimp only at h
    have htn := blt_true hb
    have hl := hS.slot htn
    split at h
    · rename_i hd; rw [hd] at hl; exact .inl ⟨by rw [hw _ hl.tt_]; rfl, s, h, hS⟩
    · rename_i hd; rw [hd] at hl; exact .inr ⟨by rw [hw _ hl.tt_]; rfl, s, h, hS⟩
    · rename_i hd; rw [hd] at hl; exact .inr ⟨by rw [hw _ hl.ff_]; rfl, s, h, hS⟩
    · rename_i hd; rw [hd] at hl; exact .inl ⟨by rw [hw _ hl.ff_]; rfl, s, h, hS⟩
    · rename_i p hd
      rw [hd] at hl
      obtain ⟨b, hb, hbp⟩ := hl.bool
      cases b with
      | true => exact .inl ⟨by rw [hw _ hb]; rfl, _, h.1 (hbp.1 rfl), hS.set htn (by rw [hb]; exact .imm _ _ .tt)⟩
      | false => exact .inr ⟨by rw [hw _ hb]; rfl, _, h.2 (fun hp => by simpa using hbp.2 hp), hS.set htn (by rw [hb]; exact .imm _ _ .ff)⟩
    · rename_i p hd
      rw [hd] at hl
      obtain ⟨b, hb, hbp⟩ := hl.bool
      cases b with
      | true => exact .inr ⟨by rw [hw _ hb]; rfl, _, h.1 (hbp.1 rfl), hS.set htn (by rw [hb]; exact .imm _ _ .tt)⟩
      | false => exact .inl ⟨by rw [hw _ hb]; rfl, _, h.2 (fun hp => by simpa using hbp.2 hp), hS.set htn (by rw [hb]; exact .imm _ _ .ff)⟩
    · rename_i hd
      rw [hd] at hl
      obtain ⟨vs, hv, hvs, _⟩ := hl.tup_
      obtain rfl : vs = #[] := Array.eq_empty_of_size_eq_zero (by simpa using hvs)
      have hn : yielded ops.toArray a.tmps j = none := by
        have hlt : t < a.tmps.size := by rw [hS.tmps]; exact htn
        have : a.tmps[t]? = some (.tuple #[]) := by
          rw [Array.getElem?_eq_getElem hlt]
          simp only [Array.getD, hlt, dite_true] at hv
          exact congrArg some hv
        simp [yielded, ht, this]
      exact .inr ⟨by simp [Region.wanted, hg, hn], s, h, hS⟩
    · exact h.elim

theorem putK_sound (hS : Sim (szOf T) w0 V0 V μ ω s a w) {dst : Option Nat} {d : D} {v : Value} {K : St → Prop} (hv : RS (szOf T) V μ ω v d) (h : putK s dst d K) :
    ∃ s', K s' ∧ Sim (szOf T) w0 V0 V μ ω s' (a.put dst v) w := by
  unfold putK at h
  cases dst with
  | none => exact ⟨s, h, hS⟩
  | some t =>
    obtain ⟨env, box, row, n⟩ := s
    dsimp only at h
    cases hb : Nat.ble (t + 1) n with
    | false => rw [hb] at h; exact h.elim
    | true =>
      rw [hb] at h
      exact ⟨_, h, hS.put (by rw [Nat.ble_eq] at hb; exact hb) hv⟩

/-- A region of operations that leave memory alone, walked in the order of the text. -/
theorem qops_sound (hT : TOk P T) {ops : List Oper} : ∀ (rest : List Oper) (s : St) (a : Act) (K : St → Prop), Sim (szOf T) w0 V0 V μ ω s a w → qops P T ops rest s K →
    wpQuiet P ops.toArray (Ext w) (fun a' => ∃ s', K s' ∧ Sim (szOf T) w0 V0 V μ ω s' a' w) rest a
  | [], s, a, K, hS, h => ⟨s, h, hS⟩
  | o :: rest, s, a, K, hS, h => by
    simp only [qops] at h
    rcases wantK_sound hS h with ⟨hw, s1, h, hS⟩ | ⟨hw, s1, h, hS⟩
    · refine wpQuiet_step fun K' hK' => ?_
      rw [if_pos hw]
      obtain ⟨d, v, s2, h, hr, hS, _, _, _, hq⟩ := qop_sound hT hS h
      refine ⟨v, fun w' he => hq w' (QR.ext he), hK' _ ?_⟩
      obtain ⟨s3, h, hS⟩ := putK_sound hS hr h
      exact qops_sound hT rest s3 _ K hS h
    · refine wpQuiet_step fun K' hK' => ?_
      rw [if_neg (by rw [hw]; simp)]
      refine hK' _ ?_
      obtain ⟨s3, h, hS⟩ := putK_sound hS (v := undef) (d := .tup []) (RS.tup [] #[] rfl (fun j v d h => by simp at h)) h
      exact qops_sound hT rest s3 _ K hS h
end

theorem wpQuiet_mono' {P : Program} {ops : Array Oper} {C : World → Prop} {Q Q' : Act → Prop} (hq : ∀ a, Q a → Q' a) : ∀ (l : List Oper) (a : Act), wpQuiet P ops C Q l a → wpQuiet P ops C Q' l a
  | [], a, h => hq a h
  | o :: l, a, h => by
    unfold wpQuiet at h ⊢
    split
    · rename_i hw
      rw [if_pos hw] at h
      exact Oper.quiet_mono (fun a' h' => wpQuiet_mono' hq l a' h') h
    · rename_i hw
      rw [if_neg hw] at h
      exact wpQuiet_mono' hq l _ h

/-- A loop whose measure stands beside its states. -/
theorem wp_loop_at {P : Program} {Q : Exit → Act → World → Prop} {c : Code} (J : Nat → Act → World → Prop)
    (round : ∀ n a w, J n a w → c.wp P (Exit.then (fun a' w' => ∃ n', n' < n ∧ J n' a' w') Q) a w) {n : Nat} {a : Act} {w : World} (h0 : J n a w) : (Code.loop c).wp P Q a w := by
  intro b k cs
  have key : ∀ n a w, J n a w → ∃ e a' w', Q e a' w' ∧ Arrives P (lone (b.at a (.code c :: .inLoop c :: k)) cs w) b k cs e a' w' := by
    intro n
    induction n using Nat.strongRecOn with
    | _ n ih =>
      intro a w hJ
      obtain ⟨e, a₁, w₁, hq, harr⟩ := round n a w hJ b (.inLoop c :: k) cs
      cases e with
      | normal =>
        obtain ⟨n', hlt, hJ'⟩ := hq
        obtain ⟨e₂, a₂, w₂, hq₂, harr₂⟩ := ih n' hlt a₁ w₁ hJ'
        exact ⟨e₂, a₂, w₂, hq₂, .of_steps (Steps.trans harr (.one step_inLoop)) harr₂⟩
      | exit id => exact ⟨_, a₁, w₁, hq, .pass (x := .inLoop c) rfl (fun _ _ => .inl (by simp)) harr⟩
      | goto l => exact ⟨_, a₁, w₁, hq, .pass (x := .inLoop c) rfl (fun _ _ => .inl (by simp)) harr⟩
      | ret => exact ⟨_, a₁, w₁, hq, .pass (x := .inLoop c) rfl (fun _ _ => .inl (by simp)) harr⟩
      | panic ch => exact ⟨_, a₁, w₁, hq, .pass (x := .inLoop c) rfl (fun _ _ => .inl (by simp)) harr⟩
      | outgrown => exact ⟨_, a₁, w₁, hq, .pass (x := .inLoop c) rfl (fun _ _ => .inl (by simp)) harr⟩
  obtain ⟨e, a', w', hq, harr⟩ := key n a w h0
  exact ⟨e, a', w', hq, .of_steps (.one step_loop) harr⟩

/-! ### Statements -/
/-- From every memory in which s stands: the code comes to an end for which Q holds. -/
structure Ok (P : Program) (T : Tab) (c : Code) (Q : Exit → St → Prop) (s : St) : Prop where
  run : ∀ (w0 : World) (V0 : Fr) (V : Vw) (μ : List Nat) (ω : List Value) (a : Act) (w : World), Sim (szOf T) w0 V0 V μ ω s a w →
    c.wp P (fun e a' w' => ∃ s' V' μ' ω', Q e s' ∧ Sim (szOf T) w0 V0 V' μ' ω' s' a' w') a w

section
variable {P : Program} {T : Tab} {s : St} {Q : Exit → St → Prop}

theorem Ok.region_draw (hT : TOk P T) (hm : P.follows .mixedOrders = true) {id : Nat} {l : List Oper} (hB : Region.lexB .any l.toArray = true) (h : qops P T l l s (Q .normal)) :
    Ok P T (.region id l.toArray true) Q s := by
  refine ⟨fun w0 V0 V μ ω a w hS => ?_⟩
  have hd : Ext w { w with drawn := w.drawn + 1 } := (Below.refl w.heap.size w).drew
  refine wp_region_quiet (C := Ext w) hm hB hd ?_
  have hq := qops_sound hT l s a _ hS h
  refine wpQuiet_mono' ?_ _ _ hq
  rintro a' ⟨s', hk, hS'⟩ w' he
  exact ⟨s', V, μ, ω, hk, hS'.ext he⟩

theorem Ok.mono {c : Code} {Q' : Exit → St → Prop} (h : Ok P T c Q s) (hq : ∀ e s, Q e s → Q' e s) : Ok P T c Q' s := by
  refine ⟨fun w0 V0 V μ ω a w hS => ?_⟩
  refine wp_mono (h.run w0 V0 V μ ω a w hS) ?_
  rintro e a' w' ⟨s', V', μ', ω', hk, hS'⟩
  exact ⟨s', V', μ', ω', hq _ _ hk, hS'⟩

def thenQ (N : St → Prop) (Q : Exit → St → Prop) : Exit → St → Prop
  | .normal, s => N s
  | e, s => Q e s

theorem Ok.seq {x y : Code} (h : Ok P T x (thenQ (Ok P T y Q) Q) s) : Ok P T (.seq x y) Q s := by
  refine ⟨fun w0 V0 V μ ω a w hS => ?_⟩
  refine wp_seq (wp_mono (h.run w0 V0 V μ ω a w hS) ?_)
  rintro e a' w' ⟨s', V', μ', ω', hk, hS'⟩
  cases e with
  | normal => exact Ok.run hk w0 V0 V' μ' ω' a' w' hS'
  | _ => exact ⟨s', V', μ', ω', hk, hS'⟩
theorem Ok.skip (h : Q .normal s) : Ok P T .skip Q s := ⟨fun _ _ V μ ω _ _ hS => wp_skip ⟨s, V, μ, ω, h, hS⟩⟩
theorem Ok.ret (h : Q .ret s) : Ok P T .ret Q s := ⟨fun _ _ V μ ω _ _ hS => wp_ret ⟨s, V, μ, ω, h, hS⟩⟩
theorem Ok.exit {id : Nat} (h : Q (.exit id) s) : Ok P T (.exit id) Q s := ⟨fun _ _ V μ ω _ _ hS => wp_exit ⟨s, V, μ, ω, h, hS⟩⟩
def blockQ (id : Nat) (Q : Exit → St → Prop) : Exit → St → Prop
  | .exit id', s => match Nat.beq id' id with | true => Q .normal s | false => Q (.exit id') s
  | e, s => Q e s
theorem Ok.block {id : Nat} {c : Code} (h : Ok P T c (blockQ id Q) s) : Ok P T (.block id c) Q s := by
  refine ⟨fun w0 V0 V μ ω a w hS => ?_⟩
  refine wp_block (wp_mono (h.run w0 V0 V μ ω a w hS) ?_)
  rintro e a' w' ⟨s', V', μ', ω', hk, hS'⟩
  cases e with
  | exit id' =>
    simp only [blockQ] at hk
    simp only [Exit.inBlock]
    split at hk
    · rename_i hb
      rw [if_pos (beq_nat_true hb)]
      exact ⟨s', V', μ', ω', hk, hS'⟩
    · rename_i hb
      rw [if_neg (by rintro rfl; rw [Nat.beq_refl] at hb; cases hb)]
      exact ⟨s', V', μ', ω', hk, hS'⟩
  | _ => exact ⟨s', V', μ', ω', hk, hS'⟩
/-- A test. -/
def condK (s : St) (c : Operand) (X Y : St → Prop) : Prop :=
  match s.get c with
  | .tt => X s
  | .ff => Y s
  | .b p => (p → X (s.know c .tt)) ∧ (¬p → Y (s.know c .ff))
  | _ => False
theorem Ok.cond {c : Operand} {x y : Code} (h : condK s c (Ok P T x Q) (Ok P T y Q)) : Ok P T (.cond c x y) Q s := by
  refine ⟨fun w0 V0 V μ ω a w hS => ?_⟩
  have hc := hS.get c
  unfold condK at h
  split at h
  · rename_i hd; rw [hd] at hc; exact wp_cond_true hc.tt_ (h.run w0 V0 V μ ω a w hS)
  · rename_i hd; rw [hd] at hc; exact wp_cond_false hc.ff_ (h.run w0 V0 V μ ω a w hS)
  · rename_i p hd
    rw [hd] at hc
    obtain ⟨b, hb, hbp⟩ := hc.bool
    cases b with
    | true => exact wp_cond_true hb ((h.1 (hbp.1 rfl)).run w0 V0 V μ ω a w (hS.know c (by rw [hb]; exact .imm _ _ .tt)))
    | false => exact wp_cond_false hb ((h.2 (fun hp => by simpa using hbp.2 hp)).run w0 V0 V μ ω a w (hS.know c (by rw [hb]; exact .imm _ _ .ff)))
  · exact h.elim

/-- A loop: states told by x; a measure on x. -/
theorem Ok.loop {c : Code} {ι : Type} (I : ι → St → Prop) (m : ι → Nat) (x0 : ι) (h0 : I x0 s)
    (round : ∀ x s, I x s → Ok P T c (thenQ (fun s' => ∃ x', m x' < m x ∧ I x' s') Q) s) : Ok P T (.loop c) Q s := by
  refine ⟨fun w0 V0 V μ ω a w hS => ?_⟩
  refine wp_loop_at (fun n a w => ∃ x s V μ ω, m x = n ∧ I x s ∧ Sim (szOf T) w0 V0 V μ ω s a w) ?_ ⟨x0, s, V, μ, ω, rfl, h0, hS⟩
  rintro n a w ⟨x, s, V, μ, ω, rfl, hI, hS⟩
  refine wp_mono ((round x s hI).run w0 V0 V μ ω a w hS) ?_
  rintro e a' w' ⟨s', V', μ', ω', hk, hS'⟩
  cases e with
  | normal =>
    obtain ⟨x', hlt, hI'⟩ := hk
    exact ⟨m x', hlt, x', s', V', μ', ω', rfl, hI', hS'⟩
  | _ => exact ⟨s', V', μ', ω', hk, hS'⟩
end
end Go.Vx
