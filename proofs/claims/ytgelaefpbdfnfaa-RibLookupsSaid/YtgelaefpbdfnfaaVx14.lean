/- The plain-data machine, part 16: loops and joins of which only what changes is told. Nothing here speaks of one program. -/
import Derived.Test.YtgelaefpbdfnfaaVx13
namespace Go.Vx
open Go.RowKit

def envCat : List Nat → List D → List (Nat × D) → List (Nat × D)
  | t :: ts, d :: ds, e => (t, d) :: envCat ts ds e
  | _, _, e => e
def envCatK : List Nat → List D → List (Nat × D) → (List (Nat × D) → Prop) → Prop
  | t :: ts, d :: ds, e, K => envCatK ts ds e fun e => K ((t, d) :: e)
  | _, _, e, K => K e
theorem envCatK_eq : ∀ (ts : List Nat) (ds : List D) (e : List (Nat × D)) (K : List (Nat × D) → Prop), envCatK ts ds e K = K (envCat ts ds e)
  | [], _, _, _ => by simp [envCatK, envCat]
  | _ :: _, [], _, _ => by simp [envCatK, envCat]
  | t :: ts, d :: ds, e, K => by simp only [envCatK, envCat]; exact envCatK_eq ts ds e _
def catL : List Nat → List Nat → List Nat
  | [], m => m
  | t :: l, m => t :: catL l m

section
variable {P : Program} {T : Tab} {s : St}
theorem keepE_some {k kb : Nat} {env : List (Nat × D)} : ∀ (L : List Nat) (K : List (Nat × D) → Prop), keepE k kb env L K → ∃ e, K e
  | [], K, h => ⟨_, h⟩
  | t :: ts, K, h => by
    simp only [keepE, D.force_eq, boolP_iff] at h
    exact let ⟨e, he⟩ := keepE_some ts _ h.2; ⟨_, he⟩
theorem keepK_some {L : List Nat} {k kb : Nat} {K : St → Prop} (h : keepK L k kb s K) : ∃ s', K s' := by
  obtain ⟨env, box, row, n⟩ := s
  simp only [keepK] at h
  obtain ⟨e, h⟩ := keepE_some _ _ h
  obtain ⟨h, _⟩ := takeK_iff h
  rw [boolP_iff] at h
  obtain ⟨h, _⟩ := takeK_iff h.2
  exact ⟨_, h⟩

/-- A loop; what changes in it is told by x, the rest is as it was. -/
theorem Ok.loopU {c : Code} {Q : Exit → St → Prop} {ι : Type} (L Cs : List Nat) (k kb : Nat) (C : ι → List D) (B : ι → List (List D) → List (List D)) (R : ι → Rows → Rows) (I : ι → Prop) (m : ι → Nat) (x0 : ι) (h0 : I x0)
    (h : keepK L k kb s fun s0 => match s0 with
      | ⟨env, box, row, n⟩ => (keepK (catL Cs L) k kb s fun s1 => s1 = ⟨envCat Cs (C x0) env, B x0 box, R x0 row, n⟩) ∧
        ∀ x, I x → envCatK Cs (C x) env fun env' => Ok P T c (thenQ (fun s' => ∃ x', m x' < m x ∧ I x' ∧ keepK (catL Cs L) k kb s' fun s1 => s1 = ⟨envCat Cs (C x') env, B x' box, R x' row, n⟩) Q) ⟨env', B x box, R x row, n⟩) : Ok P T (.loop c) Q s := by
  obtain ⟨⟨env, box, row, n⟩, h1, h2⟩ := keepK_some h
  exact Ok.loopK (catL Cs L) k kb (fun x => ⟨envCat Cs (C x) env, B x box, R x row, n⟩) I m x0 h0 h1 fun x hx => by
    have := h2 x hx
    rwa [envCatK_eq] at this

/-- Ends of which only what has changed is told. -/
theorem Ok.joinU {c : Code} {Q : Exit → St → Prop} {ι : Type} (L Cs : List Nat) (k kb : Nat) (C : ι → List D) (B : ι → List (List D) → List (List D)) (R : ι → Rows → Rows) (I : Exit → ι → Prop)
    (h : keepK L k kb s fun s0 => match s0 with
      | ⟨env, box, row, n⟩ => (Ok P T c (fun e s' => ∃ x, I e x ∧ keepK (catL Cs L) k kb s' fun s1 => s1 = ⟨envCat Cs (C x) env, B x box, R x row, n⟩) s) ∧
        ∀ e x, I e x → envCatK Cs (C x) env fun env' => Q e ⟨env', B x box, R x row, n⟩) : Ok P T c Q s := by
  obtain ⟨⟨env, box, row, n⟩, h1, h2⟩ := keepK_some h
  exact Ok.joinK (catL Cs L) k kb (fun x => ⟨envCat Cs (C x) env, B x box, R x row, n⟩) I h1 fun e x hx => by
    have := h2 e x hx
    rwa [envCatK_eq] at this

/-- A statement ahead of others; what it changes is told by x. -/
theorem Ok.seqU {c1 c2 : Code} {Q : Exit → St → Prop} {ι : Type} (L Cs : List Nat) (k kb : Nat) (C : ι → List D) (B : ι → List (List D) → List (List D)) (R : ι → Rows → Rows) (I : ι → Prop)
    (h : keepK L k kb s fun s0 => match s0 with
      | ⟨env, box, row, n⟩ => (Ok P T c1 (thenQ (fun s' => ∃ x, I x ∧ keepK (catL Cs L) k kb s' fun s1 => s1 = ⟨envCat Cs (C x) env, B x box, R x row, n⟩) Q) s) ∧
        ∀ x, I x → envCatK Cs (C x) env fun env' => Ok P T c2 Q ⟨env', B x box, R x row, n⟩) : Ok P T (.seq c1 c2) Q s := by
  obtain ⟨⟨env, box, row, n⟩, h1, h2⟩ := keepK_some h
  exact Ok.seqK (catL Cs L) k kb (fun x => ⟨envCat Cs (C x) env, B x box, R x row, n⟩) I h1 fun x hx => by
    have := h2 x hx
    rwa [envCatK_eq] at this
end

/-! ### Rows by their index -/
theorem ix {α : Type} {l : List α} {f : α → List D} {K : List D → Prop} (n : Nat) {a : α} (ha : l[n]? = some a) (h : K (f a)) : 0 ≤ (n : Int) ∧ ∃ row, (l.map f)[((n : Nat) : Int).toNat]? = some row ∧ K row :=
  ⟨by omega, _, by simp [ha], h⟩
theorem ixI {α : Type} {l : List α} {f : α → List D} {K : List D → Prop} {n : Int} (h0 : 0 ≤ n) {a : α} (ha : l[n.toNat]? = some a) (h : K (f a)) : 0 ≤ n ∧ ∃ row, (l.map f)[n.toNat]? = some row ∧ K row :=
  ⟨h0, _, by simp [ha], h⟩
theorem ix_new {α : Type} {l : List α} {f : α → List D} {K : List D → Prop} (n : Nat) (hn : n < l.length) (h : ∀ a, l[n]? = some a → K (f a)) : 0 ≤ (n : Int) ∧ ∃ row, (l.map f)[((n : Nat) : Int).toNat]? = some row ∧ K row :=
  ix n (List.getElem?_eq_getElem hn) (h _ (List.getElem?_eq_getElem hn))
theorem ixI_new {α : Type} {l : List α} {f : α → List D} {K : List D → Prop} {n : Int} (h0 : 0 ≤ n) (hn : n.toNat < l.length) (h : ∀ a, l[n.toNat]? = some a → K (f a)) : 0 ≤ n ∧ ∃ row, (l.map f)[n.toNat]? = some row ∧ K row :=
  ixI h0 (List.getElem?_eq_getElem hn) (h _ (List.getElem?_eq_getElem hn))
/-- A row of the call's own, read. -/
theorem rd {α : Type} {l : List α} {f : α → List D} {K : List D → Prop} {e e' : Nat} {n : Nat} {a : α} (he : e = e') (ha : l[n]? = some a) (h : K (f a)) : e = e' ∧ ∃ row, (l.map f)[n]? = some row ∧ K row :=
  ⟨he, _, by simp [ha], h⟩
end Go.Vx
