/- Shortest ways, in plain lists: what they are is told by a certificate; the two programs' steps keep it. -/
import Derived.Test.YtgelaefpbdfnfaaRS1
import Derived.Test.YtgelaefpbdfnfaaVy3
import Derived.Test.YtgelaefpbdfnfaaVx16
import Derived.Test.YtgelaefpbdfnfaaT
namespace Go.Proofs.Ytgelaefpbdfnfaa
open Go Go.Vx
structure Edge where
  frm : Int
  to : Int
  cost : Int
  out : Int
def Edge.row (e : Edge) : List D := [.i .i64 e.frm, .i .i64 e.to, .i .i64 e.cost, .i .i64 e.out]
structure Rch where
  node : Int
  far : Int
def Rch.row (r : Rch) : List D := [.i .i64 r.node, .i .i64 r.far]
def irow (x : Int) : List D := [.i .i64 x]
def nearP (a b : Rch) : Prop := a.far < b.far
theorem near_swo : Hp.Swo nearP := ⟨fun a => by unfold nearP; omega, fun a b c h1 h2 => by unfold nearP at *; omega, fun a b h => by unfold nearP at *; omega⟩

def okE (n : Int) (e : Edge) : Prop := 0 ≤ e.frm ∧ e.frm < n ∧ 0 ≤ e.to ∧ e.to < n ∧ 1 ≤ e.cost ∧ e.cost ≤ 9999 ∧ 0 ≤ e.out ∧ e.out < 48
instance (n : Int) (e : Edge) : Decidable (okE n e) := by unfold okE; infer_instance
def okD (n : Int) (d : Int) : Prop := 0 ≤ d ∧ d < n
instance (n : Int) (d : Int) : Decidable (okD n d) := by unfold okD; infer_instance
def graphE (n : Int) (es : List Edge) (ds : List Int) : Int :=
  if 48 < es.length ∨ 16 < ds.length then 2 else if n < 1 ∨ 16 < n then 1 else if ∀ e ∈ es, okE n e then (if ∀ d ∈ ds, okD n d then 0 else 1) else 81
theorem graphE_ok {n : Int} {es : List Edge} {ds : List Int} (h : graphE n es ds = 0) : es.length ≤ 48 ∧ ds.length ≤ 16 ∧ 1 ≤ n ∧ n ≤ 16 ∧ (∀ e ∈ es, okE n e) ∧ ∀ d ∈ ds, okD n d := by
  unfold graphE at h
  split at h
  · omega
  split at h
  · omega
  split at h
  · split at h
    · rename_i h1 h2 h3 h4
      exact ⟨by omega, by omega, by omega, by omega, h3, h4⟩
    · omega
  · omega

structure IsDist (n : Nat) (es : List Edge) (ds : List Int) (far : List Int) : Prop where
  len : far.length = n
  low : ∀ (v : Nat) x, far[v]? = some x → x = -1 ∨ 0 ≤ x
  dest : ∀ d ∈ ds, far[d.toNat]? = some 0
  edge : ∀ e ∈ es, ∀ y, far[e.to.toNat]? = some y → 0 ≤ y → ∃ x, far[e.frm.toNat]? = some x ∧ 0 ≤ x ∧ x ≤ y + e.cost
  tight : ∀ (v : Nat) x, far[v]? = some x → 0 ≤ x → (x = 0 ∧ (v : Int) ∈ ds) ∨ ∃ e ∈ es, e.frm = (v : Int) ∧ ∃ y, far[e.to.toNat]? = some y ∧ 0 ≤ y ∧ x = y + e.cost
theorem IsDist.le {n : Nat} {es : List Edge} {ds : List Int} {f g : List Int} (hc : ∀ e ∈ es, 1 ≤ e.cost) (hf : IsDist n es ds f) (hg : IsDist n es ds g) : ∀ (k : Nat) (v : Nat) x, x.toNat ≤ k → f[v]? = some x → 0 ≤ x → ∃ y, g[v]? = some y ∧ 0 ≤ y ∧ y ≤ x := by
  intro k
  induction k with
  | zero =>
    intro v x hx hv h0
    rcases hf.tight v x hv h0 with ⟨rfl, hd⟩ | ⟨e, he, hfr, y, hy, hy0, hxy⟩
    · exact ⟨0, by have := hg.dest _ hd; simpa using this, by omega, by omega⟩
    · have := hc e he; omega
  | succ k ih =>
    intro v x hx hv h0
    rcases hf.tight v x hv h0 with ⟨rfl, hd⟩ | ⟨e, he, hfr, y, hy, hy0, hxy⟩
    · exact ⟨0, by have := hg.dest _ hd; simpa using this, by omega, by omega⟩
    · have hce := hc e he
      obtain ⟨z, hz, hz0, hzy⟩ := ih e.to.toNat y (by omega) hy hy0
      obtain ⟨w, hw, hw0, hwz⟩ := hg.edge e he z hz hz0
      refine ⟨w, ?_, hw0, by omega⟩
      rw [hfr] at hw
      simpa using hw
theorem IsDist.uniq {n : Nat} {es : List Edge} {ds : List Int} {f g : List Int} (hc : ∀ e ∈ es, 1 ≤ e.cost) (hf : IsDist n es ds f) (hg : IsDist n es ds g) : f = g := by
  apply List.ext_getElem?
  intro v
  by_cases hv : v < n
  · obtain ⟨x, hx⟩ : ∃ x, f[v]? = some x := ⟨_, List.getElem?_eq_getElem (by rw [hf.len]; exact hv)⟩
    obtain ⟨y, hy⟩ : ∃ y, g[v]? = some y := ⟨_, List.getElem?_eq_getElem (by rw [hg.len]; exact hv)⟩
    rw [hx, hy]
    congr 1
    rcases hf.low v x hx with h1 | h1 <;> rcases hg.low v y hy with h2 | h2
    · omega
    · obtain ⟨z, hz, hz0, _⟩ := hg.le hc hf _ v y (Nat.le_refl _) hy h2
      rw [hx] at hz; cases hz; omega
    · obtain ⟨z, hz, hz0, _⟩ := hf.le hc hg _ v x (Nat.le_refl _) hx h1
      rw [hy] at hz; cases hz; omega
    · obtain ⟨z, hz, hz0, hzz⟩ := hg.le hc hf _ v y (Nat.le_refl _) hy h2
      rw [hx] at hz; cases hz
      obtain ⟨z, hz, hz0, hzz⟩ := hf.le hc hg _ v x (Nat.le_refl _) hx h1
      rw [hy] at hz; cases hz
      omega
  · rw [List.getElem?_eq_none (by rw [hf.len]; omega), List.getElem?_eq_none (by rw [hg.len]; omega)]

/-- The i-th edge begins at v and is tight. -/
def Ti (es : List Edge) (far : List Int) (i v : Nat) : Prop := ∃ e x y, es[i]? = some e ∧ e.frm.toNat = v ∧ far[e.to.toNat]? = some y ∧ 0 ≤ y ∧ far[v]? = some x ∧ x = y + e.cost
def FirstOf (es : List Edge) (far : List Int) (lo hi : Nat) (v : Nat) (p : Int) : Prop :=
  (p = -1 ∧ ∀ i, lo ≤ i → i < hi → ¬ Ti es far i v) ∨ ∃ i : Nat, p = (i : Int) ∧ lo ≤ i ∧ i < hi ∧ Ti es far i v ∧ ∀ j, lo ≤ j → j < i → ¬ Ti es far j v
theorem FirstOf.uniq {es : List Edge} {far : List Int} {lo hi v : Nat} {p p' : Int} (h : FirstOf es far lo hi v p) (h' : FirstOf es far lo hi v p') : p = p' := by
  rcases h with ⟨rfl, h⟩ | ⟨i, rfl, h1, h2, h3, h4⟩ <;> rcases h' with ⟨rfl, h'⟩ | ⟨j, rfl, g1, g2, g3, g4⟩
  · rfl
  · exact absurd g3 (h j g1 g2)
  · exact absurd h3 (h' i h1 h2)
  · rcases Nat.lt_trichotomy i j with hh | hh | hh
    · exact absurd h3 (g4 i h1 hh)
    · rw [hh]
    · exact absurd g3 (h4 j g1 hh)
def IsFirst (n : Nat) (es : List Edge) (far fst : List Int) (lo hi : Nat) : Prop := fst.length = n ∧ ∀ (v : Nat) p, fst[v]? = some p → FirstOf es far lo hi v p
theorem IsFirst.uniq {n : Nat} {es : List Edge} {far f g : List Int} {lo hi : Nat} (hf : IsFirst n es far f lo hi) (hg : IsFirst n es far g lo hi) : f = g := by
  apply List.ext_getElem?
  intro v
  by_cases hv : v < n
  · obtain ⟨x, hx⟩ : ∃ x, f[v]? = some x := ⟨_, List.getElem?_eq_getElem (by rw [hf.1]; exact hv)⟩
    obtain ⟨y, hy⟩ : ∃ y, g[v]? = some y := ⟨_, List.getElem?_eq_getElem (by rw [hg.1]; exact hv)⟩
    rw [hx, hy, (hf.2 v x hx).uniq (hg.2 v y hy)]
  · rw [List.getElem?_eq_none (by rw [hf.1]; omega), List.getElem?_eq_none (by rw [hg.1]; omega)]
theorem FirstOf.skipR {es : List Edge} {far : List Int} {lo hi v : Nat} {p : Int} (h : FirstOf es far lo hi v p) (hn : ¬ Ti es far hi v ∨ 0 ≤ p) : FirstOf es far lo (hi + 1) v p := by
  rcases h with ⟨rfl, h⟩ | ⟨i, rfl, h1, h2, h3, h4⟩
  · refine .inl ⟨rfl, fun i h1 h2 => ?_⟩
    by_cases hi' : i = hi
    · subst hi'; exact hn.resolve_right (by omega)
    · exact h i h1 (by omega)
  · exact .inr ⟨i, rfl, h1, by omega, h3, h4⟩
theorem FirstOf.takeR {es : List Edge} {far : List Int} {lo hi v : Nat} {p : Int} (h : FirstOf es far lo hi v p) (hp : p < 0) (hl : lo ≤ hi) (ht : Ti es far hi v) : FirstOf es far lo (hi + 1) v (hi : Int) := by
  rcases h with ⟨rfl, h⟩ | ⟨i, rfl, h1, h2, h3, h4⟩
  · exact .inr ⟨hi, rfl, hl, by omega, ht, fun j h1 h2 => h j h1 h2⟩
  · omega
theorem FirstOf.skipL {es : List Edge} {far : List Int} {lo hi v : Nat} {p : Int} (h : FirstOf es far (lo + 1) hi v p) (hn : ¬ Ti es far lo v) : FirstOf es far lo hi v p := by
  rcases h with ⟨rfl, h⟩ | ⟨i, rfl, h1, h2, h3, h4⟩
  · refine .inl ⟨rfl, fun i h1 h2 => ?_⟩
    by_cases hi' : i = lo
    · subst hi'; exact hn
    · exact h i (by omega) h2
  · refine .inr ⟨i, rfl, by omega, h2, h3, fun j g1 g2 => ?_⟩
    by_cases hj : j = lo
    · subst hj; exact hn
    · exact h4 j (by omega) g2
theorem FirstOf.takeL {es : List Edge} {far : List Int} {lo hi v : Nat} (hl : lo < hi) (ht : Ti es far lo v) : FirstOf es far lo hi v (lo : Int) :=
  .inr ⟨lo, rfl, Nat.le_refl _, hl, ht, fun j h1 h2 => by omega⟩

/-! ### The program's way: the nearest one first -/
structure Dij (n : Nat) (es : List Edge) (ds : List Int) (far : List Int) (hs : List Rch) (P : Nat → Edge → Prop) : Prop where
  len : far.length = n
  low : ∀ (v : Nat) x, far[v]? = some x → x = -1 ∨ 0 ≤ x
  hin : ∀ r ∈ hs, 0 ≤ r.node ∧ r.node < n ∧ 0 ≤ r.far
  src : ∀ r ∈ hs, (r.far = 0 ∧ r.node ∈ ds) ∨ ∃ e ∈ es, e.frm = r.node ∧ ∃ y, far[e.to.toNat]? = some y ∧ 0 ≤ y ∧ r.far = y + e.cost
  tight : ∀ (v : Nat) x, far[v]? = some x → 0 ≤ x → (x = 0 ∧ (v : Int) ∈ ds) ∨ ∃ e ∈ es, e.frm = (v : Int) ∧ ∃ y, far[e.to.toNat]? = some y ∧ 0 ≤ y ∧ x = y + e.cost
  mono : ∀ (v : Nat) x, far[v]? = some x → 0 ≤ x → ∀ r ∈ hs, x ≤ r.far
  dest : ∀ d ∈ ds, far[d.toNat]? = some 0 ∨ (far[d.toNat]? = some (-1) ∧ ⟨d, 0⟩ ∈ hs)
  edge : ∀ (i : Nat) e, es[i]? = some e → P i e → ∀ y, far[e.to.toNat]? = some y → 0 ≤ y → (∃ x, far[e.frm.toNat]? = some x ∧ 0 ≤ x ∧ x ≤ y + e.cost) ∨ (far[e.frm.toNat]? = some (-1) ∧ ⟨e.frm, y + e.cost⟩ ∈ hs)
theorem Dij.dist {n : Nat} {es : List Edge} {ds far : List Int} (h : Dij n es ds far [] (fun _ _ => True)) : IsDist n es ds far :=
  ⟨h.len, h.low, fun d hd => (h.dest d hd).resolve_right (by simp), fun e he y hy h0 => by
    obtain ⟨i, hi⟩ := List.getElem?_of_mem he
    exact (h.edge i e hi trivial y hy h0).resolve_right (by simp), h.tight⟩
theorem Dij.skip {n : Nat} {es : List Edge} {ds far : List Int} {hs hs' : List Rch} {r : Rch} {x : Int} (h : Dij n es ds far hs (fun _ _ => True)) (hp : hs.Perm (r :: hs')) (hx : far[r.node.toNat]? = some x) (h0 : 0 ≤ x) : Dij n es ds far hs' (fun _ _ => True) := by
  have hsub : ∀ s ∈ hs', s ∈ hs := fun s hs => hp.symm.subset (by simp [hs])
  have hne : ∀ s ∈ hs, far[s.node.toNat]? = some (-1) → s ∈ hs' := fun s hs hn => by
    rcases List.mem_cons.1 (hp.subset hs) with rfl | h
    · rw [hx] at hn; cases hn; omega
    · exact h
  refine ⟨h.len, h.low, fun s hs => h.hin s (hsub s hs), fun s hs => h.src s (hsub s hs), h.tight, fun v x hv h0 s hs => h.mono v x hv h0 s (hsub s hs), fun d hd => ?_, fun i e hi hP y hy hy0 => ?_⟩
  · rcases h.dest d hd with h1 | ⟨h1, h2⟩
    · exact .inl h1
    · exact .inr ⟨h1, hne _ h2 h1⟩
  · rcases h.edge i e hi hP y hy hy0 with h1 | ⟨h1, h2⟩
    · exact .inl h1
    · exact .inr ⟨h1, hne _ h2 h1⟩
theorem Dij.take {n : Nat} {es : List Edge} {ds far : List Int} {hs hs' : List Rch} {r : Rch} (hok : ∀ e ∈ es, 0 ≤ e.frm ∧ 0 ≤ e.to) (hokd : ∀ d ∈ ds, 0 ≤ d) (h : Dij n es ds far hs (fun _ _ => True)) (hp : hs.Perm (r :: hs')) (hmin : ∀ s ∈ hs, r.far ≤ s.far) (hx : far[r.node.toNat]? = some (-1)) :
    Dij n es ds (far.set r.node.toNat r.far) hs' (fun _ e => e.to ≠ r.node) ∧ ∀ (v : Nat) x, (far.set r.node.toNat r.far)[v]? = some x → 0 ≤ x → x ≤ r.far := by
  have hsub : ∀ s ∈ hs', s ∈ hs := fun s hs => hp.symm.subset (by simp [hs])
  have hr : r ∈ hs := hp.symm.subset (by simp)
  obtain ⟨hn0, hn1, hf0⟩ := h.hin r hr
  have hlt : r.node.toNat < far.length := (List.getElem?_eq_some_iff.1 hx).1
  have hset : ∀ v : Nat, (far.set r.node.toNat r.far)[v]? = if v = r.node.toNat then some r.far else far[v]? := fun v => by
    by_cases hv : v = r.node.toNat
    · rw [if_pos hv, hv, List.getElem?_set_self hlt]
    · rw [if_neg hv, List.getElem?_set_ne (Ne.symm hv)]
  have hother : ∀ s ∈ hs, s.node ≠ r.node → s ∈ hs' := fun s hs hn => by
    rcases List.mem_cons.1 (hp.subset hs) with rfl | h
    · exact absurd rfl hn
    · exact h
  have hkeep : ∀ (v : Nat) y, far[v]? = some y → 0 ≤ y → (far.set r.node.toNat r.far)[v]? = some y := fun v y hy h0 => by
    rw [hset, if_neg (fun e => by subst e; rw [hx] at hy; cases hy; omega)]; exact hy
  have hsrc : ∀ s ∈ hs, (s.far = 0 ∧ s.node ∈ ds) ∨ ∃ e ∈ es, e.frm = s.node ∧ ∃ y, (far.set r.node.toNat r.far)[e.to.toNat]? = some y ∧ 0 ≤ y ∧ s.far = y + e.cost := fun s hs => by
    rcases h.src s hs with h1 | ⟨e, he, h1, y, hy, hy0, h2⟩
    · exact .inl h1
    · exact .inr ⟨e, he, h1, y, hkeep _ _ hy hy0, hy0, h2⟩
  refine ⟨⟨by simp [h.len], fun v x hv => ?_, fun s hs => h.hin s (hsub s hs), fun s hs => hsrc s (hsub s hs), fun v x hv h0 => ?_, fun v x hv h0 s hs => ?_, fun d hd => ?_, fun i e hi hP y hy hy0 => ?_⟩, fun v x hv h0 => ?_⟩
  · rw [hset] at hv
    split at hv
    · cases hv; exact .inr hf0
    · exact h.low v x hv
  · rw [hset] at hv
    split at hv
    · rename_i hvr
      cases hv
      have hvn : (v : Int) = r.node := by omega
      rcases hsrc r hr with ⟨h1, h2⟩ | ⟨e, he, h1, h2⟩
      · exact .inl ⟨h1, by rw [hvn]; exact h2⟩
      · exact .inr ⟨e, he, by rw [hvn]; exact h1, h2⟩
    · rcases h.tight v x hv h0 with h1 | ⟨e, he, h1, y, hy, hy0, h2⟩
      · exact .inl h1
      · exact .inr ⟨e, he, h1, y, hkeep _ _ hy hy0, hy0, h2⟩
  · rw [hset] at hv
    split at hv
    · cases hv; exact hmin s (hsub s hs)
    · exact h.mono v x hv h0 s (hsub s hs)
  · rw [hset]
    split
    · rename_i hdr
      have hd0 := hokd d hd
      have hdn : d = r.node := by omega
      rcases h.dest d hd with h1 | ⟨h1, h2⟩
      · rw [hdn, hx] at h1; cases h1
      · have := hmin _ h2
        simp only at this
        left
        congr 1
        omega
    · rename_i hdr
      rcases h.dest d hd with h1 | ⟨h1, h2⟩
      · exact .inl h1
      · exact .inr ⟨h1, hother _ h2 (fun e => hdr (by rw [← e]))⟩
  · have hto := (hok e (List.mem_of_getElem? hi)).2
    have hfr := (hok e (List.mem_of_getElem? hi)).1
    rw [hset, if_neg (fun hh => hP (by omega))] at hy
    rw [hset]
    rcases h.edge i e hi trivial y hy hy0 with ⟨x, h1, h2, h3⟩ | ⟨h1, h2⟩
    · left
      rw [if_neg (fun hh => by rw [hh, hx] at h1; cases h1; omega)]
      exact ⟨x, h1, h2, h3⟩
    · by_cases hh : e.frm.toNat = r.node.toNat
      · left
        rw [if_pos hh]
        exact ⟨_, rfl, hf0, hmin _ h2⟩
      · rw [if_neg hh]
        exact .inr ⟨h1, hother _ h2 (fun e' => hh (by rw [← e']))⟩
  · rw [hset] at hv
    split at hv
    · cases hv; omega
    · exact h.mono v x hv h0 r hr
/-- One edge more of those that lead to r. -/
theorem Dij.push {n : Nat} {es : List Edge} {ds far : List Int} {hs hs' : List Rch} {r : Rch} {k : Nat} {e : Edge} (h : Dij n es ds far hs (fun i e => e.to = r.node → i < k)) (htop : ∀ (v : Nat) x, far[v]? = some x → 0 ≤ x → x ≤ r.far) (hr : far[r.node.toNat]? = some r.far) (hr0 : 0 ≤ r.far)
    (hk : es[k]? = some e) (hc : 1 ≤ e.cost) (hf0 : 0 ≤ e.frm) (hf1 : e.frm < n) (hto : e.to = r.node) (hneg : far[e.frm.toNat]? = some (-1)) (hp : hs'.Perm (⟨e.frm, r.far + e.cost⟩ :: hs)) : Dij n es ds far hs' (fun i e => e.to = r.node → i < k + 1) := by
  have hsub : ∀ s ∈ hs, s ∈ hs' := fun s hs => hp.symm.subset (by simp [hs])
  have hall : ∀ s ∈ hs', s = ⟨e.frm, r.far + e.cost⟩ ∨ s ∈ hs := fun s hs => List.mem_cons.1 (hp.subset hs)
  refine ⟨h.len, h.low, fun s hs => ?_, fun s hs => ?_, h.tight, fun v x hv h0 s hs => ?_, fun d hd => ?_, fun i e' hi hP y hy hy0 => ?_⟩
  · rcases hall s hs with rfl | hs
    · exact ⟨hf0, hf1, by dsimp only; omega⟩
    · exact h.hin s hs
  · rcases hall s hs with rfl | hs
    · exact .inr ⟨e, List.mem_of_getElem? hk, rfl, r.far, by rw [hto]; exact hr, hr0, rfl⟩
    · exact h.src s hs
  · rcases hall s hs with rfl | hs
    · have := htop v x hv h0; dsimp only; omega
    · exact h.mono v x hv h0 s hs
  · rcases h.dest d hd with h1 | ⟨h1, h2⟩
    · exact .inl h1
    · exact .inr ⟨h1, hsub _ h2⟩
  · by_cases hik : i = k
    · subst hik
      rw [hk] at hi
      cases hi
      rw [hto, hr] at hy
      cases hy
      exact .inr ⟨hneg, hp.symm.subset (by simp)⟩
    · rcases h.edge i e' hi (fun ht => by have := hP ht; omega) y hy hy0 with h1 | ⟨h1, h2⟩
      · exact .inl h1
      · exact .inr ⟨h1, hsub _ h2⟩
theorem Dij.pass {n : Nat} {es : List Edge} {ds far : List Int} {hs : List Rch} {r : Rch} {k : Nat} {e : Edge} (h : Dij n es ds far hs (fun i e => e.to = r.node → i < k)) (htop : ∀ (v : Nat) x, far[v]? = some x → 0 ≤ x → x ≤ r.far) (hr : far[r.node.toNat]? = some r.far)
    (hk : es[k]? = some e) (hc : 1 ≤ e.cost) (hno : e.to = r.node → ∃ x, far[e.frm.toNat]? = some x ∧ 0 ≤ x) : Dij n es ds far hs (fun i e => e.to = r.node → i < k + 1) := by
  refine ⟨h.len, h.low, h.hin, h.src, h.tight, h.mono, h.dest, fun i e' hi hP y hy hy0 => ?_⟩
  by_cases hik : i = k
  · subst hik
    rw [hk] at hi
    cases hi
    by_cases hto : e.to = r.node
    · obtain ⟨x, hx, hx0⟩ := hno hto
      rw [hto, hr] at hy
      cases hy
      exact .inl ⟨x, hx, hx0, by have := htop _ x hx hx0; omega⟩
    · exact h.edge i e hk (fun ht => absurd ht hto) y hy hy0
  · exact h.edge i e' hi (fun ht => by have := hP ht; omega) y hy hy0
theorem Dij.weaken {n : Nat} {es : List Edge} {ds far : List Int} {hs : List Rch} {P P' : Nat → Edge → Prop} (h : Dij n es ds far hs P) (hP : ∀ i e, es[i]? = some e → P' i e → P i e) : Dij n es ds far hs P' :=
  ⟨h.len, h.low, h.hin, h.src, h.tight, h.mono, h.dest, fun i e hi hp => h.edge i e hi (hP i e hi hp)⟩
theorem Dij.start {n : Nat} {es : List Edge} {ds : List Int} {hs : List Rch} (hok : ∀ d ∈ ds, 0 ≤ d ∧ d < n) (hp : hs.Perm (ds.map fun d => ⟨d, 0⟩)) : Dij n es ds (List.replicate n (-1)) hs (fun _ _ => True) := by
  have hm : ∀ (v : Nat) x, (List.replicate n (-1 : Int))[v]? = some x → x = -1 := fun v x h => by
    rw [List.getElem?_replicate] at h
    split at h
    · cases h; rfl
    · cases h
  have hs2 : ∀ s ∈ hs, s.far = 0 ∧ s.node ∈ ds := fun s h => by
    obtain ⟨d, hd, rfl⟩ := List.mem_map.1 (hp.subset h)
    exact ⟨rfl, hd⟩
  refine ⟨by simp, fun v x h => .inl (hm v x h), fun s h => ?_, fun s h => .inl (hs2 s h), fun v x h h0 => ?_, fun v x h h0 => ?_, fun d hd => .inr ⟨?_, hp.symm.subset (List.mem_map.2 ⟨d, hd, rfl⟩)⟩, fun i e hi _ y hy h0 => ?_⟩
  · obtain ⟨h1, h2⟩ := hs2 s h
    have := hok _ h2
    exact ⟨this.1, this.2, by omega⟩
  · have := hm v x h; omega
  · have := hm v x h; omega
  · rw [List.getElem?_replicate, if_pos (by have := hok d hd; omega)]
  · have := hm _ y hy; omega
end Go.Proofs.Ytgelaefpbdfnfaa
