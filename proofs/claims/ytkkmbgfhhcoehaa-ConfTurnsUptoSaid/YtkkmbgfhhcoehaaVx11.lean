/- The plain-data machine, part 11: what a proof over it uses: loops, cuts, states made smaller. Nothing here speaks of one program. -/
import Derived.Test.YtkkmbgfhhcoehaaVx10
namespace Go.Vx
open Go.RowKit

/-! ### A state made smaller -/
def fit0 (k kb : Nat) : D → Bool
  | .own r _ => Nat.blt r k
  | .op r _ _ _ => Nat.blt r k
  | .bp i _ => Nat.blt i kb
  | .agg _ => false
  | .tup _ => false
  | .fnh .. => false
  | _ => true
def fitL0 (k kb : Nat) : List D → Bool
  | [] => true
  | d :: r => match fit0 k kb d with | true => fitL0 k kb r | false => false
def fit1 (k kb : Nat) : D → Bool
  | .fnh _ x y => fitL0 k kb x && fitL0 k kb y
  | d => fit0 k kb d
def fitL (k kb : Nat) : List D → Bool
  | [] => true
  | d :: r => match fit1 k kb d with | true => fitL k kb r | false => false
def fitD (k kb : Nat) : D → Bool
  | .agg cs => fitL k kb cs
  | .tup cs => fitL k kb cs
  | d => fit1 k kb d
def keepE (k kb : Nat) (env : List (Nat × D)) : List Nat → (List (Nat × D) → Prop) → Prop
  | [], K => K []
  | t :: ts, K => (look env t).force fun d => boolP (fitD k kb d) <| keepE k kb env ts fun r => K ((t, d) :: r)
def fitB (k kb : Nat) : List (List D) → Bool
  | [] => true
  | c :: r => match fitL k kb c with | true => fitB k kb r | false => false
def takeK {α : Type} : Nat → List α → (List α → Prop) → Prop
  | 0, _, K => K []
  | k + 1, x :: l, K => takeK k l fun r => K (x :: r)
  | _ + 1, [], _ => False
theorem takeK_iff {α : Type} : ∀ {k : Nat} {l : List α} {K : List α → Prop}, takeK k l K → K (l.take k) ∧ k ≤ l.length
  | 0, l, K, h => ⟨by simpa [takeK] using h, Nat.zero_le _⟩
  | k + 1, [], K, h => h.elim
  | k + 1, x :: l, K, h => by
    obtain ⟨h1, h2⟩ := takeK_iff (k := k) (l := l) h
    exact ⟨h1, Nat.succ_le_succ h2⟩
/-- Only the slots L, the first k rows, the first kb boxes. -/
def keepK (L : List Nat) (k kb : Nat) (s : St) (K : St → Prop) : Prop :=
  match s with
  | ⟨env, box, row, n⟩ => keepE k kb env L fun env => takeK kb box fun box => boolP (fitB k kb box) <| takeK k row fun row => K ⟨env, box, row, n⟩

section
variable {w0 w w' : World} {V0 : Fr} {V : Vw} {μ : List Nat} {ω : List Value} {box : List (List D)} {row : Rows} {s : St} {a : Act} {P : Program} {T : Tab} {sz : TypeId → Nat}

theorem blt_lt {a b : Nat} (h : Nat.blt a b = true) : a < b := by
  unfold Nat.blt at h
  rw [Nat.ble_eq] at h
  exact h
theorem RS.fit0 {k kb : Nat} {v : Value} {d : D} (h : RS sz V μ ω v d) (hf : fit0 k kb d = true) : RS sz V (μ.take kb) (ω.take k) v d := by
  cases h with
  | imm _ _ hi => exact .imm _ _ hi
  | own r n A N c hq hn => exact .own r n A N c (by rw [List.getElem?_take_of_lt (blt_lt hf)]; exact hq) hn
  | op r e j off g N c hq => exact .op r e j off g N c (by rw [List.getElem?_take_of_lt (blt_lt hf)]; exact hq)
  | bp i off g hg => exact .bp i off g (by rw [List.getElem?_take_of_lt (blt_lt hf)]; exact hg)
  | agg cs => simp [Vx.fit0] at hf
  | tup cs => simp [Vx.fit0] at hf
  | fnh => simp [Vx.fit0] at hf
theorem fitL0_at {k kb : Nat} : ∀ {l : List D}, fitL0 k kb l = true → ∀ (j : Nat) d, l[j]? = some d → fit0 k kb d = true
  | [], _, j, d, h => by simp at h
  | c :: l, hf, j, d, h => by
    simp only [fitL0] at hf
    split at hf
    case h_2 => cases hf
    rename_i hc
    cases j with
    | zero => simp at h; subst h; exact hc
    | succ j => exact fitL0_at hf j d (by simpa using h)
theorem RS.fit1 {k kb : Nat} {v : Value} {d : D} (h : RS sz V μ ω v d) (hf : fit1 k kb d = true) : RS sz V (μ.take kb) (ω.take k) v d := by
  by_cases hd : ∃ f x y, d = .fnh f x y
  · obtain ⟨f, x, y, rfl⟩ := hd
    cases h with
    | imm _ _ hi => cases hi
    | fnh _ _ _ vs us h1 h2 hR1 hR2 =>
      simp only [Vx.fit1, Bool.and_eq_true] at hf
      exact .fnh f x y vs us h1 h2 (fun j v d a b => (hR1 j v d a b).fit0 (fitL0_at hf.1 j d b)) (fun j v d a b => (hR2 j v d a b).fit0 (fitL0_at hf.2 j d b))
  · refine h.fit0 ?_
    cases d <;> first | exact hf | exact absurd ⟨_, _, _, rfl⟩ hd
theorem fitL_at {k kb : Nat} : ∀ {l : List D}, fitL k kb l = true → ∀ (j : Nat) d, l[j]? = some d → fit1 k kb d = true
  | [], _, j, d, h => by simp at h
  | c :: l, hf, j, d, h => by
    simp only [fitL] at hf
    split at hf
    · rename_i hc
      cases j with
      | zero => simp at h; subst h; exact hc
      | succ j => exact fitL_at hf j d (by simpa using h)
    · cases hf
theorem RS.fit {k kb : Nat} {v : Value} {d : D} (h : RS sz V μ ω v d) (hf : fitD k kb d = true) : RS sz V (μ.take kb) (ω.take k) v d := by
  cases d with
  | agg cs =>
    obtain ⟨vs, rfl, hs, ho, hR⟩ := h.agg_
    exact .agg _ vs hs ho fun j v d h1 h2 => (hR j v d h1 h2).fit1 (fitL_at hf j d h2)
  | tup cs =>
    obtain ⟨vs, rfl, hs, hR⟩ := h.tup_
    exact .tup _ vs hs fun j v d h1 h2 => (hR j v d h1 h2).fit1 (fitL_at hf j d h2)
  | _ => exact h.fit1 hf
theorem fitB_at {k kb : Nat} : ∀ {l : List (List D)}, fitB k kb l = true → ∀ (j : Nat) c, l[j]? = some c → fitL k kb c = true
  | [], _, j, d, h => by simp at h
  | c :: l, hf, j, d, h => by
    simp only [fitB] at hf
    split at hf
    · rename_i hc
      cases j with
      | zero => simp at h; subst h; exact hc
      | succ j => exact fitB_at hf j d (by simpa using h)
    · cases hf

theorem take_get {α : Type} {l : List α} {k i : Nat} {x : α} (h : (l.take k)[i]? = some x) : l[i]? = some x := by
  rw [List.getElem?_take] at h
  split at h
  · exact h
  · cases h
theorem Mem.take (h : Mem sz w0 V0 V μ ω box row w) {k kb : Nat} (hf : fitB k kb (box.take kb) = true) : Mem sz w0 V0 V (μ.take kb) (ω.take k) (box.take kb) (row.take k) w := by
  have own : ∀ l g, Own (μ.take kb) (ω.take k) (row.take k) l g → Own μ ω row l g := by
    intro l g hl
    cases l with
    | inl i => exact take_get hl
    | inr r =>
      obtain ⟨v, x, h1, h2, h3⟩ := hl
      exact ⟨v, x, take_get h1, take_get h2, h3⟩
  refine ⟨h.below, h.vok, h.vle, h.vold, by simp [h.bl], ?_, by simp [h.rl], ?_, fun l l' g h1 h2 => h.uniq l l' g (own l g h1) (own l' g h2), fun l g h1 => h.new l g (own l g h1), fun p u l hp h1 => h.vmut p u l hp (own l _ h1)⟩
  · intro i g cs h1 h2
    obtain ⟨us, t', a, b, c', d⟩ := h.hbox i g cs (take_get h1) (take_get h2)
    exact ⟨us, t', a, b, c', fun j v d' e1 e2 => (d j v d' e1 e2).fit1 (fitL_at (fitB_at hf i cs h2) j d' e2)⟩
  · intro r v e xs h1 h2
    exact h.hrow r v e xs (take_get h1) (take_get h2)

theorem keepE_sound {k kb : Nat} (hE : ∀ t, RS sz V μ ω (slotV V0 s.n a t) (look s.env t)) : ∀ (L : List Nat) (K : List (Nat × D) → Prop), keepE k kb s.env L K →
    ∃ env, K env ∧ ∀ t, RS sz V (μ.take kb) (ω.take k) (slotV V0 s.n a t) (look env t)
  | [], K, h => ⟨[], h, fun _ => .imm _ _ (.u _)⟩
  | t :: ts, K, h => by
    simp only [keepE, D.force_eq, boolP_iff] at h
    obtain ⟨hf, h⟩ := h
    obtain ⟨env, hk, hR⟩ := keepE_sound hE ts _ h
    refine ⟨_, hk, fun x => ?_⟩
    unfold look
    split
    · rename_i hb
      rw [← beq_nat_true hb]
      exact (hE t).fit hf
    · exact hR x
theorem keepK_sound {L : List Nat} {k kb : Nat} {K : St → Prop} (hS : Sim sz w0 V0 V μ ω s a w) (h : keepK L k kb s K) : ∃ s' μ' ω', K s' ∧ Sim sz w0 V0 V μ' ω' s' a w := by
  obtain ⟨env, box, row, n⟩ := s
  simp only [keepK] at h
  obtain ⟨env', h, hR⟩ := keepE_sound (s := ⟨env, box, row, n⟩) hS.env L _ h
  obtain ⟨h, _⟩ := takeK_iff h
  rw [boolP_iff] at h
  obtain ⟨hf, h⟩ := h
  obtain ⟨h, _⟩ := takeK_iff h
  exact ⟨_, _, _, h, ⟨hS.tmps, hS.defers, hR, hS.mem.take hf⟩⟩

theorem Ok.keep {c : Code} {Q : Exit → St → Prop} (L : List Nat) (k kb : Nat) (h : keepK L k kb s (Ok P T c Q)) : Ok P T c Q s := by
  refine ⟨fun w0 V0 V μ ω a w hS => ?_⟩
  obtain ⟨s', μ', ω', hk, hS'⟩ := keepK_sound hS h
  exact hk.run w0 V0 V μ' ω' a w hS'

/-- A loop over states that are told by x. -/
theorem Ok.loopK {c : Code} {Q : Exit → St → Prop} {ι : Type} (L : List Nat) (k kb : Nat) (mk : ι → St) (I : ι → Prop) (m : ι → Nat) (x0 : ι) (h0 : I x0) (hs : keepK L k kb s (· = mk x0))
    (round : ∀ x, I x → Ok P T c (thenQ (fun s' => ∃ x', m x' < m x ∧ I x' ∧ keepK L k kb s' (· = mk x')) Q) (mk x)) : Ok P T (.loop c) Q s := by
  refine ⟨fun w0 V0 V μ ω a w hS => ?_⟩
  obtain ⟨s', μ', ω', rfl, hS'⟩ := keepK_sound hS hs
  refine wp_loop_at (fun n a w => ∃ x V μ ω, m x = n ∧ I x ∧ Sim (szOf T) w0 V0 V μ ω (mk x) a w) ?_ ⟨x0, V, μ', ω', rfl, h0, hS'⟩
  rintro n a w ⟨x, V, μ, ω, rfl, hI, hS⟩
  refine wp_mono ((round x hI).run w0 V0 V μ ω a w hS) ?_
  rintro e a' w' ⟨s', V', μ', ω', hk, hS'⟩
  cases e with
  | normal =>
    obtain ⟨x', hlt, hI', hk⟩ := hk
    obtain ⟨s2, μ2, ω2, rfl, hS2⟩ := keepK_sound hS' hk
    exact ⟨m x', hlt, x', V', μ2, ω2, rfl, hI', hS2⟩
  | _ => exact ⟨s', V', μ', ω', hk, hS'⟩

/-- Ends that are told by x. -/
theorem Ok.joinK {c : Code} {Q : Exit → St → Prop} {ι : Type} (L : List Nat) (k kb : Nat) (mk : ι → St) (I : Exit → ι → Prop)
    (h1 : Ok P T c (fun e s' => ∃ x, I e x ∧ keepK L k kb s' (· = mk x)) s) (h2 : ∀ e x, I e x → Q e (mk x)) : Ok P T c Q s := by
  refine ⟨fun w0 V0 V μ ω a w hS => wp_mono (h1.run w0 V0 V μ ω a w hS) ?_⟩
  rintro e a' w' ⟨s', V', μ', ω', ⟨x, hI, hk⟩, hS'⟩
  obtain ⟨s2, μ2, ω2, rfl, hS2⟩ := keepK_sound hS' hk
  exact ⟨_, V', μ2, ω2, h2 e x hI, hS2⟩

/-- Two statements with states between them that are told by x. -/
theorem Ok.seqK {c1 c2 : Code} {Q : Exit → St → Prop} {ι : Type} (L : List Nat) (k kb : Nat) (mk : ι → St) (I : ι → Prop)
    (h1 : Ok P T c1 (thenQ (fun s' => ∃ x, I x ∧ keepK L k kb s' (· = mk x)) Q) s) (h2 : ∀ x, I x → Ok P T c2 Q (mk x)) : Ok P T (.seq c1 c2) Q s := by
  refine Ok.seq (h1.mono ?_)
  intro e s' h
  cases e with
  | normal =>
    obtain ⟨x, hI, hk⟩ := h
    refine Ok.keep L k kb ?_
    have : ∀ s'', s'' = mk x → Ok P T c2 Q s'' := fun s'' e => by rw [e]; exact h2 x hI
    revert hk
    clear h1 h2
    obtain ⟨env, box, row, n⟩ := s'
    simp only [keepK]
    intro hk
    revert hk
    generalize hK1 : (fun env => takeK kb box fun box => boolP (fitB k kb box) <| takeK k row fun row => (⟨env, box, row, n⟩ : St) = mk x) = K1
    generalize hK2 : (fun env => takeK kb box fun box => boolP (fitB k kb box) <| takeK k row fun row => Ok P T c2 Q ⟨env, box, row, n⟩) = K2
    have hmono : ∀ e, K1 e → K2 e := by
      subst hK1 hK2
      intro e h
      obtain ⟨h, hb⟩ := takeK_iff h
      rw [boolP_iff] at h
      obtain ⟨hf, h⟩ := h
      obtain ⟨h, hr⟩ := takeK_iff h
      have t2 : takeK k row fun row => Ok P T c2 Q ⟨e, box.take kb, row, n⟩ := by
        have back : ∀ (k : Nat) (l : Rows) (K : Rows → Prop), k ≤ l.length → K (l.take k) → takeK k l K := by
          intro k
          induction k with
          | zero => intro l K _ h; simpa [takeK] using h
          | succ k ih =>
            intro l K hl h
            cases l with
            | nil => simp at hl
            | cons y l => exact ih l _ (by simpa using hl) h
        exact back k row _ hr (this _ h)
      have back : ∀ (k : Nat) (l : List (List D)) (K : List (List D) → Prop), k ≤ l.length → K (l.take k) → takeK k l K := by
        intro k
        induction k with
        | zero => intro l K _ h; simpa [takeK] using h
        | succ k ih =>
          intro l K hl h
          cases l with
          | nil => simp at hl
          | cons y l => exact ih l _ (by simpa using hl) h
      exact back kb box _ hb (boolP_iff.2 ⟨hf, t2⟩)
    clear hK1 hK2 this
    have key : ∀ (L : List Nat) (K1 K2 : List (Nat × D) → Prop), (∀ e, K1 e → K2 e) → keepE k kb env L K1 → keepE k kb env L K2 := by
      intro L
      induction L with
      | nil => intro K1 K2 h hk; exact h _ hk
      | cons t ts ih =>
        intro K1 K2 h hk
        simp only [keepE, D.force_eq, boolP_iff] at hk ⊢
        exact ⟨hk.1, ih _ _ (fun e he => h _ he) hk.2⟩
    exact key L K1 K2 hmono
  | _ => exact h

/-- A nil slice, seen as an empty row of the call's own. -/
theorem Ok.ghost {c : Code} {Q : Exit → St → Prop} (t : Nat) (e : TypeId) {env : List (Nat × D)} {box : List (List D)} {row : Rows} {n : Nat} (ht : look env t = .nilS)
    (h : snocK row (some (e, [])) fun row' => natLit row.length fun r => Ok P T c Q ⟨(t, .own r 0) :: env, box, row', n⟩) : Ok P T c Q ⟨env, box, row, n⟩ := by
  refine ⟨fun w0 V0 V μ ω a w hS => ?_⟩
  simp only [snocK_eq, natLit_eq] at h
  have hM := hS.mem.newRow (w' := w) (Ext.refl w) (v := .slice none 0 0) (e := e) (xs := []) (vals := []) ⟨by simp, .inl ⟨rfl, rfl⟩⟩ ⟨by simp, by simp, by simp⟩ (by simp [Value.ownBlock])
  have hv := hS.env t
  dsimp only at hv
  rw [ht] at hv
  refine h.run w0 V0 V μ (ω ++ [.slice none 0 0]) a w ⟨hS.tmps, hS.defers, fun x => ?_, hM⟩
  show RS _ _ _ _ _ (look ((t, .own row.length 0) :: env) x)
  unfold look
  split
  · rename_i hb
    rw [← beq_nat_true hb, hv.nilS_]
    have hl : row.length = ω.length := hS.mem.rl.symm
    refine .own _ 0 none 0 0 ?_ (Nat.le_refl _)
    rw [hl, List.getElem?_append_right (Nat.le_refl _)]
    simp
  · exact (hS.env x).mono (.refl V) (.refl μ) (.append _ _)

/-- .. in a cell of a box. -/
theorem Ok.ghostB {c : Code} {Q : Exit → St → Prop} (i j : Nat) (e : TypeId) {env : List (Nat × D)} {box : List (List D)} {cs : List D} {row : Rows} {n : Nat} (hi : box[i]? = some cs) (hj : cs[j]? = some .nilS)
    (h : snocK row (some (e, [])) fun row' => natLit row.length fun r => setK cs j (.own r 0) fun cs' => setK box i cs' fun box' => Ok P T c Q ⟨env, box', row', n⟩) : Ok P T c Q ⟨env, box, row, n⟩ := by
  refine ⟨fun w0 V0 V μ ω a w hS => ?_⟩
  simp only [snocK_eq, natLit_eq] at h
  obtain ⟨hjl, h⟩ := setK_iff _ _ _ _ h
  obtain ⟨hil, h⟩ := setK_iff _ _ _ _ h
  have hM := hS.mem.newRow (w' := w) (Ext.refl w) (v := .slice none 0 0) (e := e) (xs := []) (vals := []) ⟨by simp, .inl ⟨rfl, rfl⟩⟩ ⟨by simp, by simp, by simp⟩ (by simp [Value.ownBlock])
  have hl : row.length = ω.length := hS.mem.rl.symm
  have hown : RS (szOf T) V μ (ω ++ [.slice none 0 0]) (.slice none 0 0) (.own row.length 0) := by
    refine .own _ 0 none 0 0 ?_ (Nat.le_refl _)
    rw [hl, List.getElem?_append_right (Nat.le_refl _)]
    simp
  refine h.run w0 V0 V μ (ω ++ [.slice none 0 0]) a w ⟨hS.tmps, hS.defers, fun x => (hS.env x).mono (.refl V) (.refl μ) (.append _ _), ?_⟩
  refine ⟨hM.below, hM.vok, hM.vle, hM.vold, by simpa using hM.bl, ?_, hM.rl, hM.hrow, hM.uniq, hM.new, hM.vmut⟩
  intro q g cs2 h1 h2
  by_cases hq : q = i
  · subst hq
    rw [List.getElem?_set_self hil] at h2
    cases h2
    obtain ⟨us, t', a1, b, c', d⟩ := hM.hbox q g cs h1 hi
    refine ⟨us, t', a1, by simpa using b, c', fun k v d' e1 e2 => ?_⟩
    by_cases hk : k = j
    · subst hk
      rw [List.getElem?_set_self hjl] at e2
      cases e2
      have := d k v _ e1 hj
      rw [this.nilS_]
      exact hown
    · rw [List.getElem?_set_ne (Ne.symm hk)] at e2
      exact d k v d' e1 e2
  · rw [List.getElem?_set_ne (Ne.symm hq)] at h2
    exact hM.hbox q g cs2 h1 h2

def setInK (box : List (List D)) (i j : Nat) (d : D) (K : List (List D) → Prop) : Prop := match box[i]? with | some cs => setK cs j d fun cs => setK box i cs K | none => False
/-- A row of which only the beginning is held: what lies behind is let go. -/
theorem Ok.trunc {c : Code} {Q : Exit → St → Prop} (i j r : Nat) {m : Nat} {e : TypeId} {xs : List (List D)} {env : List (Nat × D)} {box : List (List D)} {cs : List D} {row : Rows} {n : Nat} (hi : box[i]? = some cs) (hj : cs[j]? = some (.own r m))
    (hr : row[r]? = some (some (e, xs))) (ys : List (List D)) (hy : ys = xs.take m)
    (h : subE r (fun _ => .u) env fun env => subB r (fun _ => .u) box fun box => setInK box i j (.own r m) fun box => setK row r (some (e, ys)) fun row => Ok P T c Q ⟨env, box, row, n⟩) : Ok P T c Q ⟨env, box, row, n⟩ := by
  refine ⟨fun w0 V0 V μ ω a w hS => ?_⟩
  subst hy
  simp only [subE_eq, subB_eq, setInK] at h
  split at h
  case h_2 => exact h.elim
  rename_i cs1 hcs1
  simp only [List.getElem?_map, Option.map_eq_some_iff] at hcs1
  obtain ⟨cs0, hcs0, rfl⟩ := hcs1
  rw [hi] at hcs0
  cases hcs0
  obtain ⟨hjl, h⟩ := setK_iff _ _ _ _ h
  obtain ⟨hil, h⟩ := setK_iff _ _ _ _ h
  obtain ⟨hrl, h⟩ := setK_iff _ _ _ _ h
  have hM0 := hS.mem
  have hil0 : i < box.length := (List.getElem?_eq_some_iff.1 hi).1
  obtain ⟨g0, hg0⟩ : ∃ g, μ[i]? = some g := ⟨_, List.getElem?_eq_getElem (by have := hM0.bl; dsimp only at this; omega)⟩
  obtain ⟨us, t', _, hus, _, hrel⟩ := hM0.hbox i g0 cs hg0 hi
  have hjl0 : j < us.size := by rw [hus]; exact (List.getElem?_eq_some_iff.1 hj).1
  have hcell := hrel j _ _ (Array.getElem?_eq_getElem hjl0) hj
  obtain ⟨A, N, cap, hω, hmN, _⟩ := hcell.own_
  obtain ⟨A2, c2, vals, e1, hc, hmx, hA, hA2, hown, hR⟩ := hM0.rowShape hω hr
  cases e1
  have hset : ∀ q v, q ≠ r → ω[q]? = some v → (ω.set r (.slice A m cap))[q]? = some v := fun q v hq h => by rw [List.getElem?_set_ne (Ne.symm hq)]; exact h
  have hdead : ∀ m' v, RS (szOf T) V μ ω v (.own r m') → RS (szOf T) V μ (ω.set r (.slice A m cap)) v .u := fun _ v _ => .imm _ _ (.u v)
  have hrω : r < ω.length := (List.getElem?_eq_some_iff.1 hω).1
  have htl : (xs.take m).length = m := by rw [List.length_take]; omega
  have hvl : vals.length = xs.length * szOf T e := hown.1
  have hms : m * szOf T e ≤ xs.length * szOf T e := Nat.mul_le_mul_right _ hmN
  have hM := hM0.setRow_ (w' := w) (v' := .slice A m cap) (e := e) (ys := xs.take m) (vals := vals.take (m * szOf T e)) hω hr ⟨rfl, rfl, rfl, Nat.le_refl _, fun _ _ _ => rfl⟩
    (by
      refine ⟨by rw [List.length_take, htl, hvl]; omega, ?_⟩
      rcases hown.2 with ⟨hv, h0⟩ | ⟨g, cp, cur, hv, hb, hg, h5, h6, h7, h8⟩
      · injection hv with hv1 hv2 hv3
        subst hv1 hv3
        exact .inl ⟨by congr 1; omega, by rw [htl]; omega⟩
      · injection hv with hv1 hv2 hv3
        subst hv1 hv3
        refine .inr ⟨g, cap, cur, by rw [htl], hb, hg, by rw [htl]; omega, h6, h7, ?_⟩
        rw [htl, ← h8, List.take_take, Nat.min_eq_left hms])
    (by
      refine ⟨fun u hu => hR.one u (List.mem_of_mem_take hu), fun k rw_ hk => ?_, fun k rw_ q d h1 h2 => ?_⟩
      · rw [List.getElem?_take] at hk
        split at hk
        · exact hR.len k rw_ hk
        · cases hk
      · rw [List.getElem?_take] at h1
        split at h1
        case isFalse => cases h1
        rename_i hk
        obtain ⟨u, hu, hrs⟩ := hR.rel k rw_ q d h1 h2
        refine ⟨u, ?_, hrs⟩
        have hq : q < szOf T e := by rw [← hR.len k rw_ h1]; exact (List.getElem?_eq_some_iff.1 h2).1
        rw [List.getElem?_take, if_pos]
        · exact hu
        · have : (k + 1) * szOf T e ≤ m * szOf T e := Nat.mul_le_mul_right _ hk
          rw [Nat.add_mul] at this
          omega)
    (.inl (by cases A <;> rfl)) (box' := (box.map fun c => c.map (sub1F r fun _ => .u)).set i ((cs.map (sub1F r fun _ => .u)).set j (.own r m))) (by simp) (by
      intro q cs1 cs2 h1 h2
      have gen : ∀ (k : Nat) u d d', cs1[k]? = some d → (cs1.map (sub1F r fun _ => .u))[k]? = some d' → RS (szOf T) V μ ω u d → RS (szOf T) V μ (ω.set r (.slice A m cap)) u d' := by
        intro k u d d' e1 e2 hrs
        simp only [List.getElem?_map, Option.map_eq_some_iff] at e2
        obtain ⟨d0, hd0, rfl⟩ := e2
        rw [e1] at hd0
        cases hd0
        exact hrs.sub1 (.refl V) hset hdead
      by_cases hq : q = i
      · subst hq
        rw [List.getElem?_set_self hil] at h2
        dsimp only at h1
        rw [hi] at h1
        cases h1
        cases h2
        refine ⟨by simp, fun k u d d' e1 e2 hrs => ?_⟩
        by_cases hk : k = j
        · subst hk
          rw [List.getElem?_set_self hjl] at e2
          cases e2
          rw [hj] at e1
          cases e1
          obtain ⟨A', N', c', ho, _, rfl⟩ := hrs.own_
          rw [hω] at ho
          cases ho
          exact .own r m A m cap (List.getElem?_set_self hrω) (Nat.le_refl _)
        · rw [List.getElem?_set_ne (Ne.symm hk)] at e2
          exact gen k u d d' e1 e2 hrs
      · rw [List.getElem?_set_ne (Ne.symm hq)] at h2
        simp only [List.getElem?_map, Option.map_eq_some_iff] at h2
        obtain ⟨c0, hc0, rfl⟩ := h2
        dsimp only at h1
        rw [h1] at hc0
        cases hc0
        exact ⟨by simp, gen⟩)
  refine h.run w0 V0 V μ (ω.set r (.slice A m cap)) a w ⟨hS.tmps, hS.defers, fun t => ?_, hM⟩
  show RS _ _ _ _ _ (look (env.map fun x => (x.1, subDF r (fun _ => .u) x.2)) t)
  rw [look_sub]
  exact (hS.env t).sub (.refl V) hset hdead

/-! ### Small helps -/
theorem num_in {x : Int} {p : Int → Prop} (h1 : -9223372036854775808 ≤ x) (h2 : x ≤ 9223372036854775807) (h : p x) : ∃ n, n = IntKind.i64.wrap x ∧ p n :=
  ⟨x, by rw [IntKind.wrap_i64]; omega, h⟩
theorem num_any {x : Int} {p : Int → Prop} (h : p x) : ∃ n, n = x ∧ p n := ⟨x, rfl, h⟩
theorem b_eq {p q : Prop} (h : p ↔ q) : D.b p = D.b q := congrArg D.b (propext h)
end
end Go.Vx
