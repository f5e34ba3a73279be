/- The document's way to shortest ways: rounds over all edges come to the same lengths. -/
import Derived.Test.YtgelaefpbdfnfaaW3
namespace Go.Proofs.Ytgelaefpbdfnfaa
open Go Go.Vx
theorem least_far : ∀ (hs : List Rch), hs ≠ [] → ∃ r ∈ hs, ∀ s ∈ hs, r.far ≤ s.far
  | [], h => absurd rfl h
  | [a], _ => ⟨a, by simp, by simp⟩
  | a :: b :: hs, _ => by
    obtain ⟨r, hr, hm⟩ := least_far (b :: hs) (by simp)
    by_cases h : a.far ≤ r.far
    · refine ⟨a, by simp, fun s hs' => ?_⟩
      rcases List.mem_cons.1 hs' with rfl | hs'
      · omega
      · have := hm s hs'; omega
    · refine ⟨r, List.mem_cons_of_mem _ hr, fun s hs' => ?_⟩
      rcases List.mem_cons.1 hs' with rfl | hs'
      · omega
      · exact hm s hs'
theorem push_all {n : Nat} {es : List Edge} {ds far : List Int} {r : Rch} (hE : ∀ e ∈ es, okE n e) (htop : ∀ (v : Nat) x, far[v]? = some x → 0 ≤ x → x ≤ r.far) (hr : far[r.node.toNat]? = some r.far) (hr0 : 0 ≤ r.far) (hlen : far.length = n) (hlow : ∀ (v : Nat) x, far[v]? = some x → x = -1 ∨ 0 ≤ x) :
    ∀ (j k : Nat) (hs : List Rch), k + j = es.length → Dij n es ds far hs (fun i e => e.to = r.node → i < k) → ∃ hs', hs'.length ≤ hs.length + j ∧ Dij n es ds far hs' (fun _ _ => True)
  | 0, k, hs, hk, h => ⟨hs, Nat.le_refl _, h.weaken fun i e hi _ _ => by have := (List.getElem?_eq_some_iff.1 hi).1; omega⟩
  | j + 1, k, hs, hk, h => by
    obtain ⟨e, he⟩ : ∃ e, es[k]? = some e := ⟨_, List.getElem?_eq_getElem (by omega)⟩
    obtain ⟨e1, e2, e3, e4, e5, e6, _, _⟩ := hE e (List.mem_of_getElem? he)
    obtain ⟨y, hy⟩ : ∃ y, far[e.frm.toNat]? = some y := ⟨_, List.getElem?_eq_getElem (by omega)⟩
    by_cases hc : e.to = r.node ∧ y = -1
    · obtain ⟨hc, rfl⟩ := hc
      obtain ⟨hs', h1, h2⟩ := push_all hE htop hr hr0 hlen hlow j (k + 1) _ (by omega) (h.push htop hr hr0 he e5 e1 e2 hc hy (.refl _))
      exact ⟨hs', by simp at h1; omega, h2⟩
    · obtain ⟨hs', h1, h2⟩ := push_all hE htop hr hr0 hlen hlow j (k + 1) hs (by omega) (h.pass htop hr he e5 fun ht => ⟨y, hy, by rcases hlow _ y hy with h | h; exact absurd ⟨ht, h⟩ hc; exact h⟩)
      exact ⟨hs', by omega, h2⟩
theorem dij_run {n : Nat} {es : List Edge} {ds : List Int} (hE : ∀ e ∈ es, okE n e) (hD : ∀ d ∈ ds, okD n d) : ∀ (m : Nat) (far : List Int) (hs : List Rch), hs.length + unf far * (es.length + 1) ≤ m → Dij n es ds far hs (fun _ _ => True) → ∃ f, IsDist n es ds f
  | m, far, [], _, h => ⟨far, h.dist⟩
  | 0, far, a :: hs, hm, h => by simp at hm
  | m + 1, far, a :: hs, hm, h => by
    obtain ⟨r, hr, hmin⟩ := least_far (a :: hs) (by simp)
    obtain ⟨us, ws, hus⟩ := List.append_of_mem hr
    have hp : (a :: hs).Perm (r :: (us ++ ws)) := by rw [hus]; exact List.perm_middle
    have hl := hp.length_eq
    simp only [List.length_cons] at hl
    obtain ⟨hn0, hn1, hf0⟩ := h.hin r hr
    obtain ⟨x, hx⟩ : ∃ x, far[r.node.toNat]? = some x := ⟨_, List.getElem?_eq_getElem (by rw [h.len]; omega)⟩
    rcases h.low _ _ hx with rfl | hx0
    · obtain ⟨hd2, htop⟩ := Dij.take (fun e he => ⟨(hE e he).1, (hE e he).2.2.1⟩) (fun d h => (hD d h).1) h hp hmin hx
      have hunf := unf_set far r.node.toNat r.far hx hf0
      have hmul : unf far * (es.length + 1) = unf (far.set r.node.toNat r.far) * (es.length + 1) + (es.length + 1) := by rw [← hunf, Nat.add_mul, Nat.one_mul]
      obtain ⟨hs', h1, h2⟩ := push_all hE htop (List.getElem?_set_self (by rw [h.len]; omega)) hf0 hd2.len hd2.low es.length 0 _ (by omega) (hd2.weaken fun i e _ hh ht => absurd (hh ht) (Nat.not_lt_zero _))
      exact dij_run hE hD m _ hs' (by simp at hm; omega) h2
    · exact dij_run hE hD m far (us ++ ws) (by simp at hm ⊢; simp at hl; omega) (h.skip hp hx hx0)
theorem dist_ex {n : Nat} {es : List Edge} {ds : List Int} (hE : ∀ e ∈ es, okE n e) (hD : ∀ d ∈ ds, okD n d) : ∃ f, IsDist n es ds f :=
  dij_run hE hD _ _ _ (Nat.le_refl _) (Dij.start (hs := ds.map fun d => ⟨d, 0⟩) (fun d hd => hD d hd) (.refl _))

/-! ### Rounds -/
def relax (far : List Int) (e : Edge) : List Int :=
  match far[e.to.toNat]?, far[e.frm.toNat]? with
  | some y, some x => if 0 ≤ y ∧ (x < 0 ∨ y + e.cost < x) then far.set e.frm.toNat (y + e.cost) else far
  | _, _ => far
/-- How many nodes are nearer. -/
def rank (g : List Int) (y : Int) : Nat := g.countP fun z => decide (0 ≤ z ∧ z < y)
theorem rank_lt {g : List Int} {v : Nat} {z y : Int} (hz : g[v]? = some z) (h0 : 0 ≤ z) (h : z < y) : rank g z < rank g y := by
  unfold rank
  rw [count_lt (fun x _ hx => by simp only [decide_eq_true_eq] at hx ⊢; omega)]
  exact ⟨z, List.mem_of_getElem? hz, by simp only [decide_eq_true_eq]; omega, by simp⟩
theorem rank_le (g : List Int) (v : Nat) (y : Int) (hv : g[v]? = some y) : rank g y < g.length := by
  unfold rank
  have h := (count_lt (p := fun z => decide (0 ≤ z ∧ z < y)) (s := fun _ => true) (l := g) (fun _ _ _ => rfl)).2 ⟨y, List.mem_of_getElem? hv, rfl, by simp⟩
  simpa using h
structure Rnd (n : Nat) (es : List Edge) (ds g far : List Int) (j k : Nat) : Prop where
  len : far.length = n
  low : ∀ (v : Nat) x, far[v]? = some x → x = -1 ∨ ∃ y, g[v]? = some y ∧ 0 ≤ y ∧ y ≤ x
  dest : ∀ d ∈ ds, far[d.toNat]? = some 0
  fin : ∀ (v : Nat) y, g[v]? = some y → 0 ≤ y → rank g y < j → far[v]? = some y
  now : ∀ (v : Nat) y i e z, g[v]? = some y → 0 ≤ y → rank g y ≤ j → i < k → es[i]? = some e → e.frm = (v : Int) → g[e.to.toNat]? = some z → 0 ≤ z → y = z + e.cost → far[v]? = some y
theorem Rnd.next {n : Nat} {es : List Edge} {ds g far : List Int} {j : Nat} (hg : IsDist n es ds g) (hD : ∀ d ∈ ds, 0 ≤ d) (h : Rnd n es ds g far j es.length) : Rnd n es ds g far (j + 1) 0 :=
  ⟨h.len, h.low, h.dest, fun v y hv h0 hr => by
    rcases hg.tight v y hv h0 with ⟨rfl, hd⟩ | ⟨e, he, h1, z, hz, hz0, hy⟩
    · have := h.dest _ hd; simpa using this
    · obtain ⟨i, hi⟩ := List.getElem?_of_mem he
      exact h.now v y i e z hv h0 (by omega) (List.getElem?_eq_some_iff.1 hi).1 hi h1 hz hz0 hy, fun _ _ _ _ _ _ _ _ h => by omega⟩
theorem Rnd.step {n : Nat} {es : List Edge} {ds g far : List Int} {j k : Nat} {e : Edge} (hg : IsDist n es ds g) (hc : 1 ≤ e.cost) (hf0 : 0 ≤ e.frm) (hf1 : e.frm < n) (ht0 : 0 ≤ e.to) (ht1 : e.to < n) (hk : es[k]? = some e) (h : Rnd n es ds g far j k) : Rnd n es ds g (relax far e) j (k + 1) := by
  have hem := List.mem_of_getElem? hk
  obtain ⟨y, hy⟩ : ∃ y, far[e.to.toNat]? = some y := ⟨_, List.getElem?_eq_getElem (by rw [h.len]; omega)⟩
  obtain ⟨x, hx⟩ : ∃ x, far[e.frm.toNat]? = some x := ⟨_, List.getElem?_eq_getElem (by rw [h.len]; omega)⟩
  have hre : relax far e = if 0 ≤ y ∧ (x < 0 ∨ y + e.cost < x) then far.set e.frm.toNat (y + e.cost) else far := by unfold relax; rw [hy, hx]
  have hnow : ∀ (v : Nat) w z, g[v]? = some w → 0 ≤ w → rank g w ≤ j → e.frm = (v : Int) → g[e.to.toNat]? = some z → 0 ≤ z → w = z + e.cost → y = z := by
    intro v w z hv h0 hr hfr hz hz0 hw
    have hlt := rank_lt (y := w) hz hz0 (by omega)
    have := h.fin _ _ hz hz0 (by omega)
    rw [hy] at this
    cases this
    rfl
  rw [hre]
  split
  · rename_i hcnd
    obtain ⟨hy0, hcnd⟩ := hcnd
    obtain ⟨y', hgy, hy'0, hyy⟩ : ∃ y', g[e.to.toNat]? = some y' ∧ 0 ≤ y' ∧ y' ≤ y := by
      rcases h.low _ y hy with rfl | h
      · omega
      · exact h
    obtain ⟨x', hgx, hx'0, hxx⟩ := hg.edge e hem y' hgy hy'0
    have hset : ∀ v : Nat, (far.set e.frm.toNat (y + e.cost))[v]? = if v = e.frm.toNat then some (y + e.cost) else far[v]? := fun v => by
      by_cases hv : v = e.frm.toNat
      · rw [if_pos hv, hv, List.getElem?_set_self (by rw [h.len]; omega)]
      · rw [if_neg hv, List.getElem?_set_ne (Ne.symm hv)]
    have hold : ∀ (v : Nat) w, g[v]? = some w → 0 ≤ w → far[v]? = some w → (far.set e.frm.toNat (y + e.cost))[v]? = some w := fun v w hgv hw0 hfv => by
      rw [hset]
      split
      · rename_i hv
        subst hv
        rw [hx] at hfv
        cases hfv
        rw [hgx] at hgv
        cases hgv
        congr 1
        omega
      · exact hfv
    refine ⟨by simp [h.len], fun v w hv => ?_, fun d hd => ?_, fun v w hv h0 hr => hold v w hv h0 (h.fin v w hv h0 hr), fun v w i e' z hv h0 hr hi he' hfr hz hz0 hw => ?_⟩
    · rw [hset] at hv
      split at hv
      · rename_i hvv
        cases hv
        exact .inr ⟨x', by rw [hvv]; exact hgx, hx'0, by omega⟩
      · exact h.low v w hv
    · exact hold _ 0 (hg.dest d hd) (by omega) (h.dest d hd)
    · by_cases hik : i = k
      · subst hik
        rw [hk] at he'
        cases he'
        have := hnow v w z hv h0 hr hfr hz hz0 hw
        subst this
        rw [hset, if_pos (by omega), hw]
      · exact hold v w hv h0 (h.now v w i e' z hv h0 hr (by omega) he' hfr hz hz0 hw)
  · rename_i hcnd
    refine ⟨h.len, h.low, h.dest, h.fin, fun v w i e' z hv h0 hr hi he' hfr hz hz0 hw => ?_⟩
    by_cases hik : i = k
    · subst hik
      rw [hk] at he'
      cases he'
      have := hnow v w z hv h0 hr hfr hz hz0 hw
      subst this
      have hvv : v = e.frm.toNat := by omega
      subst hvv
      rw [hx]
      rcases h.low _ x hx with rfl | ⟨x', hgx, hx0, hxx⟩
      · exact absurd ⟨hz0, .inl (by omega)⟩ hcnd
      · rw [hv] at hgx
        cases hgx
        congr 1
        have : ¬ (y + e.cost < x) := fun h => hcnd ⟨hz0, .inr h⟩
        omega
    · exact h.now v w i e' z hv h0 hr (by omega) he' hfr hz hz0 hw
theorem Rnd.done {n : Nat} {es : List Edge} {ds g far : List Int} (hg : IsDist n es ds g) (h : Rnd n es ds g far n 0) : far = g := by
  apply List.ext_getElem?
  intro v
  by_cases hv : v < n
  · obtain ⟨x, hx⟩ : ∃ x, far[v]? = some x := ⟨_, List.getElem?_eq_getElem (by rw [h.len]; exact hv)⟩
    obtain ⟨y, hy⟩ : ∃ y, g[v]? = some y := ⟨_, List.getElem?_eq_getElem (by rw [hg.len]; exact hv)⟩
    rcases hg.low v y hy with rfl | h0
    · rcases h.low v x hx with rfl | ⟨z, hz, hz0, _⟩
      · rw [hx, hy]
      · rw [hy] at hz; cases hz; omega
    · rw [h.fin v y hy h0 (by have := rank_le g v y hy; rw [hg.len] at this; exact this), hy]
  · rw [List.getElem?_eq_none (by rw [h.len]; omega), List.getElem?_eq_none (by rw [hg.len]; omega)]
end Go.Proofs.Ytgelaefpbdfnfaa
