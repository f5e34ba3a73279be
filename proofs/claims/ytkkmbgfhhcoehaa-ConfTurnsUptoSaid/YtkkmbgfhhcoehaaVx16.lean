/- The plain-data machine, part 19: rows in another order. Nothing here speaks of one program. -/
import Derived.Test.YtkkmbgfhhcoehaaVx15
namespace Go.Vx
open Go.RowKit

/-- Row r goes to the end. -/
def moveK (r : Nat) (s : St) (K : St → Prop) : Prop :=
  match s with
  | ⟨env, box, row, n⟩ => match row[r]? with
    | some (some x) => natLit row.length fun q => subE r (fun m => .own q m) env fun env => subB r (fun m => .own q m) box fun box => setK row r none fun row => snocK row (some x) fun row => K ⟨env, box, row, n⟩
    | _ => False
def movesK : List Nat → St → (St → Prop) → Prop
  | [], s, K => K s
  | r :: rs, s, K => moveK r s fun s => movesK rs s K

section
variable {w0 w w' : World} {V0 : Fr} {V : Vw} {μ : List Nat} {ω : List Value} {box : List (List D)} {row : Rows} {s : St} {a : Act} {P : Program} {T : Tab} {sz : TypeId → Nat}

theorem moveK_sound (hS : Sim sz w0 V0 V μ ω s a w) {r : Nat} {K : St → Prop} (h : moveK r s K) : ∃ s' ω', K s' ∧ Sim sz w0 V0 V μ ω' s' a w := by
  obtain ⟨env, box, row, n⟩ := s
  simp only [moveK] at h
  split at h
  case h_2 => exact h.elim
  rename_i x hr
  simp only [natLit_eq, subE_eq, subB_eq] at h
  obtain ⟨hrr, h⟩ := setK_iff _ _ _ _ h
  simp only [snocK_eq] at h
  have hM := hS.mem
  have hl : ω.length = row.length := hM.rl
  have hrω : r < ω.length := by rw [hl]; exact hrr
  obtain ⟨v, hv⟩ : ∃ v, ω[r]? = some v := ⟨_, List.getElem?_eq_getElem hrω⟩
  have hω : ∀ q u, q ≠ r → ω[q]? = some u → (ω ++ [v])[q]? = some u := fun q u _ hq => by
    rw [List.getElem?_append_left (List.getElem?_eq_some_iff.1 hq).1]; exact hq
  have hlast : (ω ++ [v])[row.length]? = some v := by rw [← hl, List.getElem?_append_right (Nat.le_refl _)]; simp
  have hconv : ∀ m u, RS sz V μ ω u (.own r m) → RS sz V μ (ω ++ [v]) u (.own row.length m) := by
    intro m u hu
    obtain ⟨A, N, c, h1, h2, rfl⟩ := hu.own_
    rw [hv] at h1
    cases h1
    exact .own _ m A N c hlast h2
  have own : ∀ l g, Own μ (ω ++ [v]) (row.set r none ++ [some x]) l g → ∃ l', Own μ ω row l' g ∧ ((l = .inr row.length ∧ l' = .inr r) ∨ (l = l' ∧ l ≠ .inr r ∧ l ≠ .inr row.length)) := by
    intro l g hl2
    cases l with
    | inl i => exact ⟨.inl i, hl2, .inr ⟨rfl, by simp, by simp⟩⟩
    | inr q =>
      obtain ⟨u, y, h1, h2, h3⟩ := hl2
      rcases Nat.lt_or_ge q row.length with hq | hq
      · rw [List.getElem?_append_left (by simpa using hq)] at h2
        rw [List.getElem?_append_left (by rw [hl]; exact hq)] at h1
        by_cases hqr : q = r
        · subst hqr
          rw [List.getElem?_set_self hrr] at h2
          cases h2
        · rw [List.getElem?_set_ne (Ne.symm hqr)] at h2
          exact ⟨.inr q, ⟨u, y, h1, h2, h3⟩, .inr ⟨rfl, by simpa using hqr, by simp; omega⟩⟩
      · rw [List.getElem?_append_right (by simpa using hq)] at h2
        have hq2 : q = row.length := by
          have := (List.getElem?_eq_some_iff.1 h2).1
          simp at this; omega
        subst hq2
        rw [hlast] at h1
        cases h1
        refine ⟨.inr r, ⟨v, x, hv, hr, h3⟩, .inl ⟨rfl, rfl⟩⟩
  refine ⟨_, ω ++ [v], h, ⟨hS.tmps, hS.defers, fun t => ?_, ?_⟩⟩
  · show RS _ _ _ _ _ (look (env.map fun x => (x.1, subDF r (fun m => .own row.length m) x.2)) t)
    rw [look_sub]
    exact (hS.env t).sub (fun _ _ h => h) hω hconv
  · refine ⟨hM.below, hM.vok, hM.vle, hM.vold, by simp [hM.bl], ?_, by simp [hl], ?_, ?_, ?_, ?_⟩
    · intro i g c' h1 h2
      simp only [List.getElem?_map, Option.map_eq_some_iff] at h2
      obtain ⟨cs, hcs, rfl⟩ := h2
      obtain ⟨us, t', a1, b, c'', d⟩ := hM.hbox i g cs h1 hcs
      refine ⟨us, t', a1, by simpa using b, c'', fun j v d' e1 e2 => ?_⟩
      simp only [List.getElem?_map, Option.map_eq_some_iff] at e2
      obtain ⟨d0, hd0, rfl⟩ := e2
      exact (d j v d0 e1 hd0).sub1 (fun _ _ h => h) hω hconv
    · intro q u e' ys h1 h2
      rcases Nat.lt_or_ge q row.length with hq | hq
      · rw [List.getElem?_append_left (by simpa using hq)] at h2
        rw [List.getElem?_append_left (by rw [hl]; exact hq)] at h1
        by_cases hqr : q = r
        · subst hqr
          rw [List.getElem?_set_self hrr] at h2
          cases h2
        · rw [List.getElem?_set_ne (Ne.symm hqr)] at h2
          exact hM.hrow q u e' ys h1 h2
      · rw [List.getElem?_append_right (by simpa using hq)] at h2
        have hq2 : q = row.length := by
          have := (List.getElem?_eq_some_iff.1 h2).1
          simp at this; omega
        subst hq2
        rw [hlast] at h1
        cases h1
        simp at h2
        subst h2
        exact hM.hrow r v e' ys hv hr
    · intro l l' g h1 h2
      obtain ⟨m, o1, c1⟩ := own l g h1
      obtain ⟨m', o2, c2⟩ := own l' g h2
      have := hM.uniq m m' g o1 o2
      rcases c1 with ⟨e1, e2⟩ | ⟨e1, e2, e3⟩ <;> rcases c2 with ⟨f1, f2⟩ | ⟨f1, f2, f3⟩
      · rw [e1, f1]
      · exact absurd (by rw [f1, ← this, e2]) f2
      · exact absurd (by rw [e1, this, f2]) e2
      · rw [e1, f1, this]
    · intro l g h1
      obtain ⟨m, o1, _⟩ := own l g h1
      exact hM.new m g o1
    · intro p u l hp h1
      obtain ⟨m, o1, _⟩ := own l _ h1
      exact hM.vmut p u m hp o1
theorem movesK_sound : ∀ (mv : List Nat) {s : St} {ω : List Value} {K : St → Prop}, Sim sz w0 V0 V μ ω s a w → movesK mv s K → ∃ s' ω', K s' ∧ Sim sz w0 V0 V μ ω' s' a w
  | [], _, _, _, hS, h => ⟨_, _, h, hS⟩
  | r :: rs, _, _, _, hS, h => by
    obtain ⟨s1, ω1, h1, hS1⟩ := moveK_sound hS h
    exact movesK_sound rs hS1 h1
theorem Ok.moves {c : Code} {Q : Exit → St → Prop} (mv : List Nat) (h : movesK mv s (Ok P T c Q)) : Ok P T c Q s := by
  refine ⟨fun w0 V0 V μ ω a w hS => ?_⟩
  obtain ⟨s', ω', hk, hS'⟩ := movesK_sound mv hS h
  exact hk.run w0 V0 V μ ω' a w hS'
/-- A statement ahead of others; what it changes is told by x; the rows may be laid in another order first. -/
theorem Ok.seqM {c1 c2 : Code} {Q : Exit → St → Prop} {ι : Type} (L Cs : List Nat) (k kb : Nat) (C : ι → List D) (B : ι → List (List D)) (R : ι → Rows) (I : ι → Prop)
    (h : keepK L 0 0 s fun s0 => match s0 with
      | ⟨env, _, _, n⟩ => (Ok P T c1 (thenQ (fun s' => ∃ x, I x ∧ ∃ mv, movesK mv s' fun s' => keepK (catL Cs L) k kb s' fun s1 => s1 = ⟨envCat Cs (C x) env, B x, R x, n⟩) Q) s) ∧
        ∀ x, I x → envCatK Cs (C x) env fun env' => Ok P T c2 Q ⟨env', B x, R x, n⟩) : Ok P T (.seq c1 c2) Q s := by
  obtain ⟨⟨env, box, row, n⟩, h1, h2⟩ := keepK_some h
  refine Ok.seq (h1.mono ?_)
  intro e s' h
  cases e with
  | normal =>
    obtain ⟨x, hI, mv, hk⟩ := h
    refine ⟨fun w0 V0 V μ ω a w hS => ?_⟩
    obtain ⟨s1, ω1, hk, hS1⟩ := movesK_sound mv hS hk
    obtain ⟨s2, μ2, ω2, rfl, hS2⟩ := keepK_sound hS1 hk
    have := h2 x hI
    rw [envCatK_eq] at this
    exact this.run w0 V0 V μ2 ω2 a w hS2
  | _ => exact h
theorem Ok.joinM {c : Code} {Q : Exit → St → Prop} {ι : Type} (L Cs : List Nat) (k kb : Nat) (C : ι → List D) (B : ι → List (List D)) (R : ι → Rows) (I : Exit → ι → Prop)
    (h : keepK L 0 0 s fun s0 => match s0 with
      | ⟨env, _, _, n⟩ => (Ok P T c (fun e s' => ∃ x, I e x ∧ ∃ mv, movesK mv s' fun s' => keepK (catL Cs L) k kb s' fun s1 => s1 = ⟨envCat Cs (C x) env, B x, R x, n⟩) s) ∧
        ∀ e x, I e x → envCatK Cs (C x) env fun env' => Q e ⟨env', B x, R x, n⟩) : Ok P T c Q s := by
  obtain ⟨⟨env, box, row, n⟩, h1, h2⟩ := keepK_some h
  refine ⟨fun w0 V0 V μ ω a w hS => wp_mono (h1.run w0 V0 V μ ω a w hS) ?_⟩
  rintro e a' w' ⟨s', V', μ', ω', ⟨x, hI, mv, hk⟩, hS'⟩
  obtain ⟨s1, ω1, hk, hS1⟩ := movesK_sound mv hS' hk
  obtain ⟨s2, μ2, ω2, rfl, hS2⟩ := keepK_sound hS1 hk
  have := h2 e x hI
  rw [envCatK_eq] at this
  exact ⟨_, V', μ2, ω2, this, hS2⟩
/-- Ends with more boxes and rows than there were. -/
theorem Ok.joinV {c : Code} {Q : Exit → St → Prop} {ι : Type} (L Cs : List Nat) (k0 kb0 k kb : Nat) (C : ι → List D) (B : ι → List (List D)) (R : ι → Rows) (I : Exit → ι → Prop)
    (h : keepK L k0 kb0 s fun s0 => match s0 with
      | ⟨env, _, _, n⟩ => (Ok P T c (fun e s' => ∃ x, I e x ∧ keepK (catL Cs L) k kb s' fun s1 => s1 = ⟨envCat Cs (C x) env, B x, R x, n⟩) s) ∧
        ∀ e x, I e x → envCatK Cs (C x) env fun env' => Q e ⟨env', B x, R x, n⟩) : Ok P T c Q s := by
  obtain ⟨⟨env, box, row, n⟩, h1, h2⟩ := keepK_some h
  exact Ok.joinK (catL Cs L) k kb (fun x => ⟨envCat Cs (C x) env, B x, R x, n⟩) I h1 fun e x hx => by
    have := h2 e x hx
    rwa [envCatK_eq] at this
end
end Go.Vx
