/- The plain-data machine, part 16: loops and joins of which only what changes is told. Nothing here speaks of one program. -/
import Derived.Test.YtkkmbgfhhcoehaaVx13
namespace Go.Vx
open Go.RowKit

def envCat : List Nat → List D → List (Nat × D) → List (Nat × D)
  | t :: ts, d :: ds, e => (t, d) :: envCat ts ds e
  | _, _, e => e
def envCatK : List Nat → List D → List (Nat × D) → (List (Nat × D) → Prop) → Prop
  | t :: ts, d :: ds, e, K => envCatK ts ds e fun e => K ((t, d) :: e)
  | _, _, e, K => K e
theorem envCatK_eq : ∀ (ts : List Nat) (ds : List D) (e : List (Nat × D)) (K : List (Nat × D) → Prop), envCatK ts ds e K = K (envCat ts ds e)
  | [], _, _, _ => by simp [envCatK, envCat]
  | _ :: _, [], _, _ => by simp [envCatK, envCat]
  | t :: ts, d :: ds, e, K => by simp only [envCatK, envCat]; exact envCatK_eq ts ds e _
def catL : List Nat → List Nat → List Nat
  | [], m => m
  | t :: l, m => t :: catL l m

section
variable {P : Program} {T : Tab} {s : St}
theorem keepE_some {k kb : Nat} {env : List (Nat × D)} : ∀ (L : List Nat) (K : List (Nat × D) → Prop), keepE k kb env L K → ∃ e, K e
  | [], K, h => ⟨_, h⟩
  | t :: ts, K, h => by
    simp only [keepE, D.force_eq, boolP_iff] at h
    exact let ⟨e, he⟩ := keepE_some ts _ h.2; ⟨_, he⟩
theorem keepK_some {L : List Nat} {k kb : Nat} {K : St → Prop} (h : keepK L k kb s K) : ∃ s', K s' := by
  obtain ⟨env, box, row, n⟩ := s
  simp only [keepK] at h
  obtain ⟨e, h⟩ := keepE_some _ _ h
  obtain ⟨h, _⟩ := takeK_iff h
  rw [boolP_iff] at h
  obtain ⟨h, _⟩ := takeK_iff h.2
  exact ⟨_, h⟩

/-- A loop; what changes in it is told by x, the rest is as it was. -/
theorem Ok.loopU {c : Code} {Q : Exit → St → Prop} {ι : Type} (L Cs : List Nat) (k kb : Nat) (C : ι → List D) (B : ι → List (List D) → List (List D)) (R : ι → Rows → Rows) (I : ι → Prop) (m : ι → Nat) (x0 : ι) (h0 : I x0)
    (h : keepK L k kb s fun s0 => match s0 with
      | ⟨env, box, row, n⟩ => (keepK (catL Cs L) k kb s fun s1 => s1 = ⟨envCat Cs (C x0) env, B x0 box, R x0 row, n⟩) ∧
        ∀ x, I x → envCatK Cs (C x) env fun env' => Ok P T c (thenQ (fun s' => ∃ x', m x' < m x ∧ I x' ∧ keepK (catL Cs L) k kb s' fun s1 => s1 = ⟨envCat Cs (C x') env, B x' box, R x' row, n⟩) Q) ⟨env', B x box, R x row, n⟩) : Ok P T (.loop c) Q s := by
  obtain ⟨⟨env, box, row, n⟩, h1, h2⟩ := keepK_some h
  exact Ok.loopK (catL Cs L) k kb (fun x => ⟨envCat Cs (C x) env, B x box, R x row, n⟩) I m x0 h0 h1 fun x hx => by
    have := h2 x hx
    rwa [envCatK_eq] at this

/-- Ends of which only what has changed is told. -/
theorem Ok.joinU {c : Code} {Q : Exit → St → Prop} {ι : Type} (L Cs : List Nat) (k kb : Nat) (C : ι → List D) (B : ι → List (List D) → List (List D)) (R : ι → Rows → Rows) (I : Exit → ι → Prop)
    (h : keepK L k kb s fun s0 => match s0 with
      | ⟨env, box, row, n⟩ => (Ok P T c (fun e s' => ∃ x, I e x ∧ keepK (catL Cs L) k kb s' fun s1 => s1 = ⟨envCat Cs (C x) env, B x box, R x row, n⟩) s) ∧
        ∀ e x, I e x → envCatK Cs (C x) env fun env' => Q e ⟨env', B x box, R x row, n⟩) : Ok P T c Q s := by
  obtain ⟨⟨env, box, row, n⟩, h1, h2⟩ := keepK_some h
  exact Ok.joinK (catL Cs L) k kb (fun x => ⟨envCat Cs (C x) env, B x box, R x row, n⟩) I h1 fun e x hx => by
    have := h2 e x hx
    rwa [envCatK_eq] at this

/-- A statement ahead of others; what it changes is told by x. -/
theorem Ok.seqU {c1 c2 : Code} {Q : Exit → St → Prop} {ι : Type} (L Cs : List Nat) (k kb : Nat) (C : ι → List D) (B : ι → List (List D) → List (List D)) (R : ι → Rows → Rows) (I : ι → Prop)
    (h : keepK L k kb s fun s0 => match s0 with
      | ⟨env, box, row, n⟩ => (Ok P T c1 (thenQ (fun s' => ∃ x, I x ∧ keepK (catL Cs L) k kb s' fun s1 => s1 = ⟨envCat Cs (C x) env, B x box, R x row, n⟩) Q) s) ∧
        ∀ x, I x → envCatK Cs (C x) env fun env' => Ok P T c2 Q ⟨env', B x box, R x row, n⟩) : Ok P T (.seq c1 c2) Q s := by
  obtain ⟨⟨env, box, row, n⟩, h1, h2⟩ := keepK_some h
  exact Ok.seqK (catL Cs L) k kb (fun x => ⟨envCat Cs (C x) env, B x box, R x row, n⟩) I h1 fun x hx => by
    have := h2 x hx
    rwa [envCatK_eq] at this
end

/-- Row r is handed on for good: nobody writes into it any more. -/
theorem Ok.pub {P : Program} {T : Tab} {s : St} {c : Code} {Q : Exit → St → Prop} (r : Nat) (h : pubK r s [] fun _ s' => Ok P T c Q s') : Ok P T c Q s := by
  refine ⟨fun w0 V0 V μ ω a w hS => ?_⟩
  obtain ⟨V', ds', s', hk, _, hS', _⟩ := pubK_sound (vs := []) hS ⟨rfl, fun j v d h => by simp at h⟩ h
  exact hk.run w0 V0 V' μ ω a w hS'

/-- A bool in a slot, as a proposition. -/
theorem Ok.asB {P : Program} {T : Tab} {c : Code} {Q : Exit → St → Prop} (t : Nat) {env : List (Nat × D)} {box : List (List D)} {row : Rows} {n : Nat} (ht : look env t = .ff)
    (h : Ok P T c Q ⟨(t, .b False) :: env, box, row, n⟩) : Ok P T c Q ⟨env, box, row, n⟩ := by
  refine ⟨fun w0 V0 V μ ω a w hS => ?_⟩
  refine h.run w0 V0 V μ ω a w ⟨hS.tmps, hS.defers, fun x => ?_, hS.mem⟩
  have hv := hS.env t
  dsimp only at hv
  rw [ht] at hv
  show RS _ _ _ _ _ (look ((t, .b False) :: env) x)
  unfold look
  split
  · rename_i hb
    rw [← beq_nat_true hb, hv.ff_]
    exact .imm _ _ (.b _ _ (by simp))
  · exact hS.env x
theorem Ok.asB' {P : Program} {T : Tab} {c : Code} {Q : Exit → St → Prop} (t : Nat) {env : List (Nat × D)} {box : List (List D)} {row : Rows} {n : Nat} (ht : look env t = .tt)
    (h : Ok P T c Q ⟨(t, .b True) :: env, box, row, n⟩) : Ok P T c Q ⟨env, box, row, n⟩ := by
  refine ⟨fun w0 V0 V μ ω a w hS => ?_⟩
  refine h.run w0 V0 V μ ω a w ⟨hS.tmps, hS.defers, fun x => ?_, hS.mem⟩
  have hv := hS.env t
  dsimp only at hv
  rw [ht] at hv
  show RS _ _ _ _ _ (look ((t, .b True) :: env) x)
  unfold look
  split
  · rename_i hb
    rw [← beq_nat_true hb, hv.tt_]
    exact .imm _ _ (.b _ _ (by simp))
  · exact hS.env x
def bD : Bool → D | true => .tt | false => .ff

/-- A bool that is known. -/
theorem FSpec.tt {P : Program} {T : Tab} {f : FuncId} {ds : List D} {p : Prop} (h : FSpec P T f ds (fun d _ => d = .b p)) (hp : p) : FSpec P T f ds (fun d _ => d = .tt) := by
  refine ⟨h.call, fun V w args hV hl hR => (h.run V w args hV hl hR).mono ?_⟩
  rintro e w' ⟨V', ω, row, v, d, rfl, rfl, hRS, hres⟩
  obtain ⟨x, rfl, hx⟩ := hRS.bool
  obtain rfl : x = true := hx.2 hp
  exact ⟨V', ω, row, _, _, rfl, rfl, .imm _ _ .tt, hres⟩
theorem FSpec.ff {P : Program} {T : Tab} {f : FuncId} {ds : List D} {p : Prop} (h : FSpec P T f ds (fun d _ => d = .b p)) (hp : ¬ p) : FSpec P T f ds (fun d _ => d = .ff) := by
  refine ⟨h.call, fun V w args hV hl hR => (h.run V w args hV hl hR).mono ?_⟩
  rintro e w' ⟨V', ω, row, v, d, rfl, rfl, hRS, hres⟩
  obtain ⟨x, rfl, hx⟩ := hRS.bool
  obtain rfl : x = false := by cases x with | false => rfl | true => exact absurd (hx.1 rfl) hp
  exact ⟨V', ω, row, _, _, rfl, rfl, .imm _ _ .ff, hres⟩
/-- .. the other way round. -/
theorem FSpec.ofTt {P : Program} {T : Tab} {f : FuncId} {ds : List D} (h : FSpec P T f ds (fun d _ => d = .tt ∨ d = .b True)) : FSpec P T f ds (fun d _ => d = .b True) := by
  refine ⟨h.call, fun V w args hV hl hR => (h.run V w args hV hl hR).mono ?_⟩
  rintro e w' ⟨V', ω, row, v, d, rfl, hd, hRS, hres⟩
  rcases hd with rfl | rfl
  · rw [hRS.tt_]
    exact ⟨V', ω, row, _, _, rfl, rfl, .imm _ _ (.b _ _ (by simp)), hres⟩
  · exact ⟨V', ω, row, _, _, rfl, rfl, hRS, hres⟩

/-! ### Rows by their index -/
theorem ix {α : Type} {l : List α} {f : α → List D} {K : List D → Prop} (n : Nat) {a : α} (ha : l[n]? = some a) (h : K (f a)) : 0 ≤ (n : Int) ∧ ∃ row, (l.map f)[((n : Nat) : Int).toNat]? = some row ∧ K row :=
  ⟨by omega, _, by simp [ha], h⟩
theorem ixI {α : Type} {l : List α} {f : α → List D} {K : List D → Prop} {n : Int} (h0 : 0 ≤ n) {a : α} (ha : l[n.toNat]? = some a) (h : K (f a)) : 0 ≤ n ∧ ∃ row, (l.map f)[n.toNat]? = some row ∧ K row :=
  ⟨h0, _, by simp [ha], h⟩
theorem ix_new {α : Type} {l : List α} {f : α → List D} {K : List D → Prop} (n : Nat) (hn : n < l.length) (h : ∀ a, l[n]? = some a → K (f a)) : 0 ≤ (n : Int) ∧ ∃ row, (l.map f)[((n : Nat) : Int).toNat]? = some row ∧ K row :=
  ix n (List.getElem?_eq_getElem hn) (h _ (List.getElem?_eq_getElem hn))
theorem ixI_new {α : Type} {l : List α} {f : α → List D} {K : List D → Prop} {n : Int} (h0 : 0 ≤ n) (hn : n.toNat < l.length) (h : ∀ a, l[n.toNat]? = some a → K (f a)) : 0 ≤ n ∧ ∃ row, (l.map f)[n.toNat]? = some row ∧ K row :=
  ixI h0 (List.getElem?_eq_getElem hn) (h _ (List.getElem?_eq_getElem hn))
/-- A row of the call's own, read. -/
theorem rd {α : Type} {l : List α} {f : α → List D} {K : List D → Prop} {e e' : Nat} {n : Nat} {a : α} (he : e = e') (ha : l[n]? = some a) (h : K (f a)) : e = e' ∧ ∃ row, (l.map f)[n]? = some row ∧ K row :=
  ⟨he, _, by simp [ha], h⟩
/-- .. written. -/
theorem st {α : Type} {l : List α} {f : α → List D} {n off : Nat} {ds : List D} {K : List (List D) → Prop} {a : α} (a' : α) (ha : l[n]? = some a) (hl : off + ds.length ≤ (f a).length) (he : setCells (f a) off ds = f a')
    (h : K ((l.set n a').map f)) : ∃ rw, (l.map f)[n]? = some rw ∧ off + ds.length ≤ rw.length ∧ ∃ xs', xs' = (l.map f).set n (setCells rw off ds) ∧ K xs' :=
  ⟨f a, by simp [ha], hl, _, rfl, by rw [he, ← List.map_set]; exact h⟩
theorem take_all {α : Type} (f : α → List D) (l : List α) : (l.map f).take l.length = l.map f := List.take_of_length_le (by simp)
theorem drop_all {α : Type} (f : α → List D) (l : List α) : (l.map f).drop l.length = [] := List.drop_of_length_le (by simp)
theorem toNat_cast (n : Nat) : ((n : Nat) : Int).toNat = n := rfl
end Go.Vx
