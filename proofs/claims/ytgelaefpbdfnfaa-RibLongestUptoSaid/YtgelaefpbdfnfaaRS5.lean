/- The parent of a route in a list in order: the program's and the document's. -/
import Derived.Test.YtgelaefpbdfnfaaRS4
namespace Go.Proofs.Ytgelaefpbdfnfaa
open Go Go.Vx

/-- The longest other one of the first n that covers it. -/
def IsPar (bits : Int) (l : List Route) (k : Nat) (rk : Route) (n : Nat) (p : Int) : Prop :=
  (p = -1 ∧ ∀ (i : Nat) r, i < n → i ≠ k → l[i]? = some r → ¬ covR bits r rk) ∨
  ∃ (pp : Nat) (rp : Route), p = (pp : Int) ∧ pp < n ∧ pp ≠ k ∧ l[pp]? = some rp ∧ covR bits rp rk ∧ ∀ (i : Nat) r, i < n → i ≠ k → l[i]? = some r → covR bits r rk → r.len ≤ rp.len
theorem pre_at {l : List Route} (hs : l.Pairwise preR) {i j : Nat} {a b : Route} (ha : l[i]? = some a) (hb : l[j]? = some b) (hij : i < j) : preR a b := by
  obtain ⟨h1, rfl⟩ := List.getElem?_eq_some_iff.1 ha
  obtain ⟨h2, rfl⟩ := List.getElem?_eq_some_iff.1 hb
  exact List.pairwise_iff_getElem.1 hs i j h1 h2 hij
theorem at_len {l : List Route} (hs : l.Pairwise preR) {i j : Nat} {a b : Route} (ha : l[i]? = some a) (hb : l[j]? = some b) (h1 : a.len = b.len) (h2 : a.value = b.value) : i = j := by
  rcases Nat.lt_trichotomy i j with h | h | h
  · have := pre_at hs ha hb h; unfold preR at this; omega
  · exact h
  · have := pre_at hs hb ha h; unfold preR at this; omega
theorem IsPar.uniq {bits : Int} {l : List Route} {k : Nat} {rk : Route} {p p' : Int} (hok : ∀ r ∈ l, okR bits r) (hs : l.Pairwise preR) (h : IsPar bits l k rk l.length p) (h' : IsPar bits l k rk l.length p') : p = p' := by
  rcases h with ⟨rfl, h⟩ | ⟨i, a, rfl, hi, hik, ha, hca, hma⟩ <;> rcases h' with ⟨rfl, h'⟩ | ⟨j, b, rfl, hj, hjk, hb, hcb, hmb⟩
  · rfl
  · exact absurd hcb (h j b hj hjk hb)
  · exact absurd hca (h' i a hi hik ha)
  · have hl : a.len = b.len := by
      have := hma j b hj hjk hb hcb
      have := hmb i a hi hik ha hca
      omega
    have hv := same_of (hok a (List.mem_of_getElem? ha)) (hok b (List.mem_of_getElem? hb)) hl (hasR_up hca.2 hcb.2 (by omega))
    rw [at_len hs ha hb hl hv]
open Classical in
noncomputable def parF (bits : Int) (l : List Route) (k : Nat) (rk : Route) : Int := if h : ∃ p, IsPar bits l k rk l.length p then h.choose else 0
theorem parF_eq {bits : Int} {l : List Route} {k : Nat} {rk : Route} {p : Int} (hok : ∀ r ∈ l, okR bits r) (hs : l.Pairwise preR) (h : IsPar bits l k rk l.length p) : parF bits l k rk = p := by
  unfold parF
  rw [dif_pos ⟨p, h⟩]
  exact IsPar.uniq hok hs (Exists.choose_spec (⟨p, h⟩ : ∃ p, IsPar bits l k rk l.length p)) h
theorem behind {bits : Int} {l : List Route} {i k : Nat} {r rk : Route} (hok : ∀ r ∈ l, okR bits r) (hs : l.Pairwise preR) (hr : l[i]? = some r) (hk : l[k]? = some rk) (hik : i ≠ k) (hc : covR bits r rk) : k < i ∧ r.len < rk.len := by
  have hne : ¬ (r.len = rk.len) := fun hl => hik (at_len hs hr hk hl (same_of (hok r (List.mem_of_getElem? hr)) (hok rk (List.mem_of_getElem? hk)) hl hc.2))
  have hlt : r.len < rk.len := by have := hc.1; omega
  refine ⟨?_, hlt⟩
  rcases Nat.lt_or_gt_of_ne hik with h | h
  · have := pre_at hs hr hk h; unfold preR at this; omega
  · exact h

set_option maxRecDepth 100000 in
theorem parent_at {bits : Int} {l : List Route} {k : Nat} {rk : Route} (hb2 : bits ≤ 32) (hl : l.length ≤ 256) (hok : ∀ r ∈ l, okR bits r) (hs : l.Pairwise preR) (hk : l[k]? = some rk) {rows room : List (List D)} (he : rows = l.map Route.row) :
    FSpec Try.prog T 48 [.i .i64 bits, .lst 68 rows room, .i .i64 (k : Nat)] (fun d _ => d = .i .i64 (parF bits l k rk)) := by
  subst he
  have hll : (l.map Route.row).length = l.length := by simp
  have hkl : k < l.length := (List.getElem?_eq_some_iff.1 hk).1
  refine FSpec.of_ok tok Try.func48 rfl Try.call48 (by simp) ?_
  (try (conv => whnf)); repeat' (first | refine Ok.seq ?_ | (refine Ok.region tok ?_; conv => whnf) | (refine Ok.region_draw tok follows (by kernel_rfl) ?_; conv => whnf) | (refine Ok.cond ?_; conv => whnf) | refine Ok.block ?_ | (refine Ok.skip ?_; conv => whnf) | (refine Ok.exit ?_; conv => whnf) | (refine Ok.ret ?_; conv => whnf) | (refine num_in (by omega) (by omega) ?_; conv => whnf) | (refine ix _ (by assumption) ?_; conv => whnf) | (refine ixI (by omega) (by assumption) ?_; conv => whnf) | (refine ix_new _ (by omega) fun _ _ => ?_; conv => whnf) | (refine ixI_new (by omega) (by omega) fun _ _ => ?_; conv => whnf) | (refine rd rfl (by assumption) ?_; conv => whnf) | (refine ⟨_, .inl ⟨rfl, rfl⟩, ?_⟩; conv => whnf) | (refine ⟨_, _, rfl, rfl, ?_⟩; conv => whnf) | (refine ⟨fun _ => ?_, fun _ => ?_⟩ <;> (conv => whnf) <;> (try (exfalso; omega))) | (refine And.intro (by first | omega | rfl | (simp; done) | (simp; omega)) ?_; conv => whnf) | (refine num_any ?_; conv => whnf) | fail)
  refine Ok.loopU [0, 1, 2] [7] 0 0 (fun (u : Nat) => [.i .i64 (u : Nat)]) (fun _ b => b) (fun _ r => r) (fun (u : Nat) => k < u ∧ u ≤ l.length ∧ ∀ (i : Nat) r, k < i → i < u → l[i]? = some r → ¬ hasR bits r rk.value) (fun (u : Nat) => l.length - u) (k + 1) (⟨by omega, by omega, fun i r h1 h2 => by omega⟩) ?_; (conv => whnf); refine ⟨by ((conv => whnf); first | rfl | simp [envCat, List.take_of_length_le]), ?_⟩
  rintro u ⟨hku, hul, hno⟩
  by_cases hlt : u < l.length
  · obtain ⟨ru, hru⟩ : ∃ r, l[u]? = some r := ⟨_, List.getElem?_eq_getElem hlt⟩
    have hoku := hok ru (List.mem_of_getElem? hru)
    have hu1 := hoku.2.2.1
    have hu2 := hoku.2.2.2.1
    (try (conv => whnf)); repeat' (first | refine Ok.seq ?_ | (refine Ok.region tok ?_; conv => whnf) | (refine Ok.region_draw tok follows (by kernel_rfl) ?_; conv => whnf) | (refine Ok.cond ?_; conv => whnf) | refine Ok.block ?_ | (refine Ok.skip ?_; conv => whnf) | (refine Ok.exit ?_; conv => whnf) | (refine Ok.ret ?_; conv => whnf) | (refine num_in (by omega) (by omega) ?_; conv => whnf) | (refine ix _ (by assumption) ?_; conv => whnf) | (refine ixI (by omega) (by assumption) ?_; conv => whnf) | (refine ix_new _ (by omega) fun _ _ => ?_; conv => whnf) | (refine ixI_new (by omega) (by omega) fun _ _ => ?_; conv => whnf) | (refine Or.inl ?_; (conv => whnf); (repeat (refine And.intro (by first | omega | (simp; done) | (simp; omega)) ?_; (conv => whnf))); refine ⟨_, has_spec bits ru rk.value hb2 hu1 hu2, rfl, ?_⟩; conv => whnf) | (refine ⟨_, has_spec bits ru rk.value hb2 hu1 hu2, rfl, ?_⟩; conv => whnf) | (refine Or.inr (Or.inl ?_); (conv => whnf); (repeat (refine And.intro (by first | omega | (simp; done) | (simp; omega)) ?_; (conv => whnf))); refine ⟨_, has_spec bits ru rk.value hb2 hu1 hu2, ?_⟩; rintro _ _ ⟨rfl, rfl⟩; conv => whnf) | (refine rd rfl (by assumption) ?_; conv => whnf) | (refine ⟨_, .inl ⟨rfl, rfl⟩, ?_⟩; conv => whnf) | (refine ⟨_, _, rfl, rfl, ?_⟩; conv => whnf) | (refine ⟨fun _ => ?_, fun _ => ?_⟩ <;> (conv => whnf) <;> (try (exfalso; omega))) | (refine And.intro (by first | omega | rfl | (simp; done) | (simp; omega)) ?_; conv => whnf) | (refine num_any ?_; conv => whnf) | fail)
    · rename_i hh
      have hpre := pre_at hs hk hru hku
      have hp : IsPar bits l k rk l.length (u : Int) := .inr ⟨u, ru, rfl, hlt, by omega, hru, ⟨by unfold preR at hpre; omega, hh⟩, fun i r hi hik hr hc => by
        have hb := (behind hok hs hr hk hik hc).1
        rcases Nat.lt_trichotomy i u with h | h | h
        · exact absurd hc.2 (hno i r hb h hr)
        · subst h; rw [hru] at hr; cases hr; omega
        · have := pre_at hs hru hr h; unfold preR at this; omega⟩
      refine Or.inl ?_; (conv => whnf)
      rw [parF_eq hok hs hp]
      rfl
    · rename_i hh
      refine ⟨u + 1, by omega, ⟨by omega, by omega, fun i r h1 h2 hr => ?_⟩, ?_⟩
      · by_cases hiu : i = u
        · subst hiu; rw [hru] at hr; cases hr; exact hh
        · exact hno i r h1 (by omega) hr
      · (conv => whnf); (first | rfl | simp [envCat, List.take_of_length_le])
  · have huu : u = l.length := by omega
    subst huu
    have hp : IsPar bits l k rk l.length (-1) := .inl ⟨rfl, fun i r hi hik hr hc => hno i r (behind hok hs hr hk hik hc).1 hi hr hc.2⟩
    (try (conv => whnf)); repeat' (first | refine Ok.seq ?_ | (refine Ok.region tok ?_; conv => whnf) | (refine Ok.region_draw tok follows (by kernel_rfl) ?_; conv => whnf) | (refine Ok.cond ?_; conv => whnf) | refine Ok.block ?_ | (refine Ok.skip ?_; conv => whnf) | (refine Ok.exit ?_; conv => whnf) | (refine Ok.ret ?_; conv => whnf) | (refine num_in (by omega) (by omega) ?_; conv => whnf) | (refine ix _ (by assumption) ?_; conv => whnf) | (refine ixI (by omega) (by assumption) ?_; conv => whnf) | (refine ix_new _ (by omega) fun _ _ => ?_; conv => whnf) | (refine ixI_new (by omega) (by omega) fun _ _ => ?_; conv => whnf) | (refine rd rfl (by assumption) ?_; conv => whnf) | (refine ⟨_, .inl ⟨rfl, rfl⟩, ?_⟩; conv => whnf) | (refine ⟨_, _, rfl, rfl, ?_⟩; conv => whnf) | (refine ⟨fun _ => ?_, fun _ => ?_⟩ <;> (conv => whnf) <;> (try (exfalso; omega))) | (refine And.intro (by first | omega | rfl | (simp; done) | (simp; omega)) ?_; conv => whnf) | (refine num_any ?_; conv => whnf) | fail)
    refine Or.inl ?_; (conv => whnf)
    rw [parF_eq hok hs hp]
    rfl

set_option maxRecDepth 100000 in
theorem refParent_at {bits : Int} {l : List Route} {k : Nat} {rk : Route} (hb2 : bits ≤ 32) (hl : l.length ≤ 256) (hok : ∀ r ∈ l, okR bits r) (hs : l.Pairwise preR) (hk : l[k]? = some rk) {rows room : List (List D)} (he : rows = l.map Route.row) :
    FSpec Try.prog T 58 [.i .i64 bits, .lst 68 rows room, .i .i64 (k : Nat)] (fun d _ => d = .i .i64 (parF bits l k rk)) := by
  subst he
  have hll : (l.map Route.row).length = l.length := by simp
  have hkl : k < l.length := (List.getElem?_eq_some_iff.1 hk).1
  refine FSpec.of_ok tok Try.func58 rfl Try.call58 (by simp) ?_
  (try (conv => whnf)); repeat' (first | refine Ok.seq ?_ | (refine Ok.region tok ?_; conv => whnf) | (refine Ok.region_draw tok follows (by kernel_rfl) ?_; conv => whnf) | (refine Ok.cond ?_; conv => whnf) | refine Ok.block ?_ | (refine Ok.skip ?_; conv => whnf) | (refine Ok.exit ?_; conv => whnf) | (refine Ok.ret ?_; conv => whnf) | (refine num_in (by omega) (by omega) ?_; conv => whnf) | (refine ix _ (by assumption) ?_; conv => whnf) | (refine ixI (by omega) (by assumption) ?_; conv => whnf) | (refine ix_new _ (by omega) fun _ _ => ?_; conv => whnf) | (refine ixI_new (by omega) (by omega) fun _ _ => ?_; conv => whnf) | (refine rd rfl (by assumption) ?_; conv => whnf) | (refine ⟨_, .inl ⟨rfl, rfl⟩, ?_⟩; conv => whnf) | (refine ⟨_, _, rfl, rfl, ?_⟩; conv => whnf) | (refine ⟨fun _ => ?_, fun _ => ?_⟩ <;> (conv => whnf) <;> (try (exfalso; omega))) | (refine And.intro (by first | omega | rfl | (simp; done) | (simp; omega)) ?_; conv => whnf) | (refine num_any ?_; conv => whnf) | fail)
  refine Ok.loopU [0, 1, 2] [7, 8] 0 0 (fun (x : Int × Nat) => [.i .i64 x.1, .i .i64 (x.2 : Nat)]) (fun _ b => b) (fun _ r => r) (fun (x : Int × Nat) => x.2 ≤ l.length ∧ IsPar bits l k rk x.2 x.1) (fun (x : Int × Nat) => l.length - x.2) ((-1, 0)) (⟨Nat.zero_le _, .inl ⟨rfl, fun i r h => by dsimp only at h; omega⟩⟩) ?_; (conv => whnf); refine ⟨by ((conv => whnf); first | rfl | simp [envCat, List.take_of_length_le]), ?_⟩
  rintro ⟨p, i⟩ ⟨hi, hp⟩
  dsimp only at hi hp ⊢
  by_cases hlt : i < l.length
  · obtain ⟨ri, hri⟩ : ∃ r, l[i]? = some r := ⟨_, List.getElem?_eq_getElem hlt⟩
    have hoki := hok ri (List.mem_of_getElem? hri)
    have hi1 := hoki.2.2.1
    have hi2 := hoki.2.2.2.1
    have hskip : (i = k ∨ ¬ covR bits ri rk) → IsPar bits l k rk (i + 1) p := by
      intro hc
      have hmore : ∀ (j : Nat) r, j < i + 1 → j ≠ k → l[j]? = some r → covR bits r rk → j < i := fun j r h1 h2 h3 h4 => by
        by_cases hji : j = i
        · subst hji; rw [hri] at h3; cases h3; rcases hc with hc | hc
          · exact absurd hc h2
          · exact absurd h4 hc
        · omega
      rcases hp with ⟨rfl, h⟩ | ⟨pp, rp, rfl, h1, h2, h3, h4, h5⟩
      · exact .inl ⟨rfl, fun j r a b c d => h j r (hmore j r a b c d) b c d⟩
      · exact .inr ⟨pp, rp, rfl, by omega, h2, h3, h4, fun j r a b c d => h5 j r (hmore j r a b c d) b c d⟩
    have htake : i ≠ k → covR bits ri rk → (∀ (pp : Nat) rp, p = (pp : Int) → l[pp]? = some rp → rp.len < ri.len) → IsPar bits l k rk (i + 1) (i : Int) := by
      intro hik hc hlen
      refine .inr ⟨i, ri, rfl, by omega, hik, hri, hc, fun j r a b c d => ?_⟩
      by_cases hji : j = i
      · subst hji; rw [hri] at c; cases c; omega
      · rcases hp with ⟨rfl, h⟩ | ⟨pp, rp, rfl, h1, h2, h3, h4, h5⟩
        · exact absurd d (h j r (by omega) b c)
        · have := h5 j r (by omega) b c d
          have := hlen pp rp rfl h3
          omega
    have hskip2 : (∃ (pp : Nat) (rp : Route), p = (pp : Int) ∧ l[pp]? = some rp ∧ ¬ rp.len < ri.len) → IsPar bits l k rk (i + 1) p := by
      rintro ⟨pp', rp', hpp, hrp, hle⟩
      rcases hp with ⟨rfl, h⟩ | ⟨pp, rp, rfl, h1, h2, h3, h4, h5⟩
      · omega
      · have : pp = pp' := by omega
        subst this
        rw [h3] at hrp
        cases hrp
        refine .inr ⟨pp, _, rfl, by omega, h2, h3, h4, fun j r a b c d => ?_⟩
        by_cases hji : j = i
        · subst hji; rw [hri] at c; cases c; omega
        · exact h5 j r (by omega) b c d
    by_cases hpn : p < 0
    · have hpe : p = -1 := by rcases hp with ⟨h, _⟩ | ⟨pp, rp, h, _⟩ <;> omega
      subst hpe
      (try (conv => whnf)); repeat' (first | refine Ok.seq ?_ | (refine Ok.region tok ?_; conv => whnf) | (refine Ok.region_draw tok follows (by kernel_rfl) ?_; conv => whnf) | (refine Ok.cond ?_; conv => whnf) | refine Ok.block ?_ | (refine Ok.skip ?_; conv => whnf) | (refine Ok.exit ?_; conv => whnf) | (refine Ok.ret ?_; conv => whnf) | (refine num_in (by omega) (by omega) ?_; conv => whnf) | (refine ix _ (by assumption) ?_; conv => whnf) | (refine ixI (by omega) (by assumption) ?_; conv => whnf) | (refine ix_new _ (by omega) fun _ _ => ?_; conv => whnf) | (refine ixI_new (by omega) (by omega) fun _ _ => ?_; conv => whnf) | (refine Or.inl ?_; (conv => whnf); (repeat (refine And.intro (by first | omega | (simp; done) | (simp; omega)) ?_; (conv => whnf))); refine ⟨_, covers_spec hb2 hi1 hi2, rfl, ?_⟩; conv => whnf) | (refine ⟨_, covers_spec hb2 hi1 hi2, rfl, ?_⟩; conv => whnf) | (refine Or.inr (Or.inl ?_); (conv => whnf); (repeat (refine And.intro (by first | omega | (simp; done) | (simp; omega)) ?_; (conv => whnf))); refine ⟨_, covers_spec hb2 hi1 hi2, ?_⟩; rintro _ _ ⟨rfl, rfl⟩; conv => whnf) | (refine rd rfl (by assumption) ?_; conv => whnf) | (refine ⟨_, .inl ⟨rfl, rfl⟩, ?_⟩; conv => whnf) | (refine ⟨_, _, rfl, rfl, ?_⟩; conv => whnf) | (refine ⟨fun _ => ?_, fun _ => ?_⟩ <;> (conv => whnf) <;> (try (exfalso; omega))) | (refine And.intro (by first | omega | rfl | (simp; done) | (simp; omega)) ?_; conv => whnf) | (refine num_any ?_; conv => whnf) | fail)
      · rename_i a b
        refine ⟨((i : Nat), i + 1), by dsimp only; omega, ⟨by dsimp only; omega, htake (by omega) ‹covR bits ri rk› fun pp rp h => by omega⟩, ?_⟩
        (conv => whnf); (first | rfl | simp [envCat, List.take_of_length_le])
      · rename_i a b
        refine ⟨(-1, i + 1), by dsimp only; omega, ⟨by dsimp only; omega, hskip (.inr ‹¬ covR bits ri rk›)⟩, ?_⟩
        (conv => whnf); (first | rfl | simp [envCat, List.take_of_length_le])
      · rename_i a
        refine ⟨(-1, i + 1), by dsimp only; omega, ⟨by dsimp only; omega, hskip (.inl (by omega))⟩, ?_⟩
        (conv => whnf); (first | rfl | simp [envCat, List.take_of_length_le])
    · obtain ⟨pp, rp, rfl, hpi, hrp⟩ : ∃ (pp : Nat) (rp : Route), p = (pp : Int) ∧ pp < l.length ∧ l[pp]? = some rp := by
        rcases hp with ⟨rfl, _⟩ | ⟨pp, rp, rfl, h1, _, h3, _⟩
        · omega
        · exact ⟨pp, rp, rfl, by omega, h3⟩
      (try (conv => whnf)); repeat' (first | refine Ok.seq ?_ | (refine Ok.region tok ?_; conv => whnf) | (refine Ok.region_draw tok follows (by kernel_rfl) ?_; conv => whnf) | (refine Ok.cond ?_; conv => whnf) | refine Ok.block ?_ | (refine Ok.skip ?_; conv => whnf) | (refine Ok.exit ?_; conv => whnf) | (refine Ok.ret ?_; conv => whnf) | (refine num_in (by omega) (by omega) ?_; conv => whnf) | (refine ix _ (by assumption) ?_; conv => whnf) | (refine ixI (by omega) (by assumption) ?_; conv => whnf) | (refine ix_new _ (by omega) fun _ _ => ?_; conv => whnf) | (refine ixI_new (by omega) (by omega) fun _ _ => ?_; conv => whnf) | (refine Or.inl ?_; (conv => whnf); (repeat (refine And.intro (by first | omega | (simp; done) | (simp; omega)) ?_; (conv => whnf))); refine ⟨_, covers_spec hb2 hi1 hi2, rfl, ?_⟩; conv => whnf) | (refine ⟨_, covers_spec hb2 hi1 hi2, rfl, ?_⟩; conv => whnf) | (refine Or.inr (Or.inl ?_); (conv => whnf); (repeat (refine And.intro (by first | omega | (simp; done) | (simp; omega)) ?_; (conv => whnf))); refine ⟨_, covers_spec hb2 hi1 hi2, ?_⟩; rintro _ _ ⟨rfl, rfl⟩; conv => whnf) | (refine rd rfl (by assumption) ?_; conv => whnf) | (refine ⟨_, .inl ⟨rfl, rfl⟩, ?_⟩; conv => whnf) | (refine ⟨_, _, rfl, rfl, ?_⟩; conv => whnf) | (refine ⟨fun _ => ?_, fun _ => ?_⟩ <;> (conv => whnf) <;> (try (exfalso; omega))) | (refine And.intro (by first | omega | rfl | (simp; done) | (simp; omega)) ?_; conv => whnf) | (refine num_any ?_; conv => whnf) | fail)
      · rename_i a b c
        refine ⟨((i : Nat), i + 1), by dsimp only; omega, ⟨by dsimp only; omega, htake (by omega) ‹covR bits ri rk› fun pp' rp' h h2 => by have : pp' = pp := (by omega); subst this; rw [hrp] at h2; cases h2; exact c⟩, ?_⟩
        (conv => whnf); (first | rfl | simp [envCat, List.take_of_length_le])
      · rename_i a b c
        refine ⟨((pp : Nat), i + 1), by dsimp only; omega, ⟨by dsimp only; omega, hskip2 ⟨pp, rp, rfl, hrp, c⟩⟩, ?_⟩
        (conv => whnf); (first | rfl | simp [envCat, List.take_of_length_le])
      · rename_i a b
        refine ⟨((pp : Nat), i + 1), by dsimp only; omega, ⟨by dsimp only; omega, hskip (.inr ‹¬ covR bits ri rk›)⟩, ?_⟩
        (conv => whnf); (first | rfl | simp [envCat, List.take_of_length_le])
      · rename_i a
        refine ⟨((pp : Nat), i + 1), by dsimp only; omega, ⟨by dsimp only; omega, hskip (.inl (by omega))⟩, ?_⟩
        (conv => whnf); (first | rfl | simp [envCat, List.take_of_length_le])
  · have hii : i = l.length := by omega
    subst hii
    (try (conv => whnf)); repeat' (first | refine Ok.seq ?_ | (refine Ok.region tok ?_; conv => whnf) | (refine Ok.region_draw tok follows (by kernel_rfl) ?_; conv => whnf) | (refine Ok.cond ?_; conv => whnf) | refine Ok.block ?_ | (refine Ok.skip ?_; conv => whnf) | (refine Ok.exit ?_; conv => whnf) | (refine Ok.ret ?_; conv => whnf) | (refine num_in (by omega) (by omega) ?_; conv => whnf) | (refine ix _ (by assumption) ?_; conv => whnf) | (refine ixI (by omega) (by assumption) ?_; conv => whnf) | (refine ix_new _ (by omega) fun _ _ => ?_; conv => whnf) | (refine ixI_new (by omega) (by omega) fun _ _ => ?_; conv => whnf) | (refine rd rfl (by assumption) ?_; conv => whnf) | (refine ⟨_, .inl ⟨rfl, rfl⟩, ?_⟩; conv => whnf) | (refine ⟨_, _, rfl, rfl, ?_⟩; conv => whnf) | (refine ⟨fun _ => ?_, fun _ => ?_⟩ <;> (conv => whnf) <;> (try (exfalso; omega))) | (refine And.intro (by first | omega | rfl | (simp; done) | (simp; omega)) ?_; conv => whnf) | (refine num_any ?_; conv => whnf) | fail)
    refine Or.inl ?_; (conv => whnf)
    rw [parF_eq hok hs hp]
    rfl
end Go.Proofs.Ytgelaefpbdfnfaa
