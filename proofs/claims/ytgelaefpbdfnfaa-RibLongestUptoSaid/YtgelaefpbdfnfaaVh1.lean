/- Heaps in lists: sifting up, sifting down, the least at the top. Plain Lean, no program in sight. -/
import Derived.Test.YtgelaefpbdfnfaaVx12
namespace Go.Vx.Hp

/-- A strict weak order. -/
structure Swo {α : Type} (lt : α → α → Prop) : Prop where
  irrefl : ∀ a, ¬ lt a a
  trans : ∀ a b c, ¬ lt b a → ¬ lt c b → ¬ lt c a
  asymm : ∀ a b, lt a b → ¬ lt b a

section
variable {α : Type} {lt : α → α → Prop}
def Heap (lt : α → α → Prop) (ys : List α) : Prop := ∀ j, 0 < j → ∀ a b, ys[j]? = some a → ys[(j - 1) / 2]? = some b → ¬ lt a b
/-- .. but for place i against the one above it. -/
def HeapX (lt : α → α → Prop) (ys : List α) (i : Nat) : Prop :=
  (∀ j, 0 < j → j ≠ i → ∀ a b, ys[j]? = some a → ys[(j - 1) / 2]? = some b → ¬ lt a b) ∧
  ∀ j, 0 < j → (j - 1) / 2 = i → 0 < i → ∀ a b, ys[j]? = some a → ys[(i - 1) / 2]? = some b → ¬ lt a b
/-- .. but for place i against those below it. -/
def HeapD (lt : α → α → Prop) (ys : List α) (i : Nat) : Prop :=
  (∀ j, 0 < j → (j - 1) / 2 ≠ i → ∀ a b, ys[j]? = some a → ys[(j - 1) / 2]? = some b → ¬ lt a b) ∧
  ∀ j, 0 < j → (j - 1) / 2 = i → 0 < i → ∀ a b, ys[j]? = some a → ys[(i - 1) / 2]? = some b → ¬ lt a b
def swp (ys : List α) (i j : Nat) (a b : α) : List α := (ys.set i b).set j a

theorem swp_get {ys : List α} {i j : Nat} {a b : α} (hi : ys[i]? = some a) (hj : ys[j]? = some b) (hne : i ≠ j) (k : Nat) : (swp ys i j a b)[k]? = if k = j then some a else if k = i then some b else ys[k]? := by
  have hil := (List.getElem?_eq_some_iff.1 hi).1
  have hjl := (List.getElem?_eq_some_iff.1 hj).1
  unfold swp
  by_cases h1 : k = j
  · subst h1; rw [if_pos rfl, List.getElem?_set_self (by simpa using hjl)]
  · rw [if_neg h1, List.getElem?_set_ne (Ne.symm h1)]
    by_cases h2 : k = i
    · subst h2; rw [if_pos rfl, List.getElem?_set_self hil]
    · rw [if_neg h2, List.getElem?_set_ne (Ne.symm h2)]
theorem swp_length (ys : List α) (i j : Nat) (a b : α) : (swp ys i j a b).length = ys.length := by simp [swp]

theorem set_perm {ys : List α} {i : Nat} {a b : α} (hi : ys[i]? = some a) : (b :: ys).Perm (a :: ys.set i b) := by
  induction ys generalizing i with
  | nil => simp at hi
  | cons y ys ih =>
    cases i with
    | zero => simp at hi; subst hi; simpa using List.Perm.swap _ _ _
    | succ i =>
      simp only [List.getElem?_cons_succ] at hi
      simp only [List.set_cons_succ]
      exact (List.Perm.swap _ _ _).trans (((ih hi).cons y).trans (List.Perm.swap _ _ _))
theorem swp_perm {ys : List α} {i j : Nat} {a b : α} (hi : ys[i]? = some a) (hj : ys[j]? = some b) (hne : i ≠ j) : (swp ys i j a b).Perm ys := by
  have h1 := set_perm (b := b) hi
  have hj' : (ys.set i b)[j]? = some b := by rw [List.getElem?_set_ne hne]; exact hj
  have h2 := set_perm (b := a) hj'
  -- b :: ys ~ a :: ys.set i b ~ b :: swp
  exact (List.perm_cons b).1 (h1.trans h2).symm

theorem heapX_snoc {ys : List α} (h : Heap lt ys) (x : α) : HeapX lt (ys ++ [x]) ys.length := by
  have hg : ∀ j a, j ≠ ys.length → (ys ++ [x])[j]? = some a → ys[j]? = some a := by
    intro j a hj ha
    rcases Nat.lt_or_ge j ys.length with hl | hl
    · rwa [List.getElem?_append_left hl] at ha
    · have := (List.getElem?_eq_some_iff.1 ha).1
      simp at this; omega
  refine ⟨fun j hj hne a b ha hb => ?_, fun j hj hp hi a b ha hb => ?_⟩
  · have hl := (List.getElem?_eq_some_iff.1 ha).1
    simp at hl
    exact h j hj a b (hg _ _ hne ha) (hg _ _ (by omega) hb)
  · have hl := (List.getElem?_eq_some_iff.1 ha).1
    simp at hl; omega
theorem heapX_zero {ys : List α} (h : HeapX lt ys 0) : Heap lt ys := fun j hj a b ha hb => h.1 j hj (by omega) a b ha hb
theorem heapX_stop {ys : List α} {i : Nat} {a b : α} (h : HeapX lt ys i) (hi : ys[i]? = some a) (hu : ys[(i - 1) / 2]? = some b) (hn : ¬ lt a b) : Heap lt ys := by
  intro j hj c d hc hd
  by_cases hji : j = i
  · subst hji
    rw [hi] at hc; rw [hu] at hd
    cases hc; cases hd
    exact hn
  · exact h.1 j hj hji c d hc hd
theorem heapX_up (ho : Swo lt) {ys : List α} {i : Nat} {a b : α} (h : HeapX lt ys i) (h0 : 0 < i) (hi : ys[i]? = some a) (hu : ys[(i - 1) / 2]? = some b) (hl : lt a b) : HeapX lt (swp ys i ((i - 1) / 2) a b) ((i - 1) / 2) := by
  have hne : i ≠ (i - 1) / 2 := by omega
  have hg := swp_get hi hu hne
  refine ⟨fun j hj hju c d hc hd => ?_, fun j hj hp hu0 c d hc hd => ?_⟩
  · rw [hg] at hc hd
    rw [if_neg hju] at hc
    by_cases hji : j = i
    · subst hji
      rw [if_pos rfl] at hc; rw [if_pos rfl] at hd
      cases hc; cases hd
      exact ho.asymm _ _ hl
    · rw [if_neg hji] at hc
      by_cases hpu : (j - 1) / 2 = (i - 1) / 2
      · rw [if_pos hpu] at hd
        cases hd
        have h1 : ¬ lt c b := h.1 j hj hji c b hc (by rw [hpu]; exact hu)
        -- c not below b, a below b
        exact ho.trans _ _ _ (ho.asymm _ _ hl) h1
      · rw [if_neg hpu] at hd
        by_cases hpi : (j - 1) / 2 = i
        · rw [if_pos hpi] at hd
          cases hd
          exact h.2 j hj hpi h0 c b hc hu
        · rw [if_neg hpi] at hd
          exact h.1 j hj hji c d hc hd
  · rw [hg] at hc hd
    rw [if_neg (by omega), if_neg (by omega)] at hd
    have hju : j ≠ (i - 1) / 2 := by omega
    rw [if_neg hju] at hc
    have hub : ¬ lt b d := h.1 ((i - 1) / 2) hu0 (by omega) b d hu hd
    by_cases hji : j = i
    · subst hji
      rw [if_pos rfl] at hc
      cases hc
      exact hub
    · rw [if_neg hji] at hc
      have h1 : ¬ lt c b := h.1 j hj hji c b hc (by rw [hp]; exact hu)
      exact ho.trans _ _ _ hub h1

theorem heap_min (ho : Swo lt) {ys : List α} (h : Heap lt ys) {a : α} (h0 : ys[0]? = some a) : ∀ (j : Nat) b, ys[j]? = some b → ¬ lt b a := by
  intro j
  induction j using Nat.strongRecOn with
  | _ j ih =>
    intro b hb
    by_cases hj : j = 0
    · subst hj; rw [h0] at hb; cases hb; exact ho.irrefl _
    · have hl := (List.getElem?_eq_some_iff.1 hb).1
      have hpl : (j - 1) / 2 < ys.length := by omega
      have hp := List.getElem?_eq_getElem hpl
      exact ho.trans _ _ _ (ih ((j - 1) / 2) (by omega) _ hp) (h j (by omega) b _ hb hp)

/-- The first is taken out, the last put there. -/
theorem heapD_top {ys : List α} (h : Heap lt ys) {l : Nat} (b : α) : HeapD lt ((ys.set 0 b).take l) 0 := by
  refine ⟨fun j hj hne c d hc hd => ?_, fun j hj hp h0 => absurd h0 (by omega)⟩
  have hjl : j < l := by have := (List.getElem?_eq_some_iff.1 hc).1; rw [List.length_take] at this; omega
  rw [List.getElem?_take_of_lt hjl, List.getElem?_set_ne (by omega)] at hc
  rw [List.getElem?_take_of_lt (by omega), List.getElem?_set_ne (by omega)] at hd
  exact h j hj c d hc hd
theorem top_perm {ys : List α} {a b : α} (h0 : ys[0]? = some a) (hb : ys[ys.length - 1]? = some b) : (a :: (ys.set 0 b).take (ys.length - 1)).Perm ys := by
  cases ys with
  | nil => simp at h0
  | cons y ys =>
    simp at h0
    subst h0
    simp only [List.length_cons, Nat.add_sub_cancel] at hb ⊢
    cases hn : ys.length with
    | zero => have := List.eq_nil_of_length_eq_zero hn; subst this; simp
    | succ n =>
      rw [hn] at hb
      simp only [List.getElem?_cons_succ] at hb
      simp only [List.set_cons_zero, List.take_succ_cons]
      have hy : ys = ys.take n ++ [b] := by
        apply List.ext_getElem?
        intro k
        rcases Nat.lt_trichotomy k n with hk | hk | hk
        · rw [List.getElem?_append_left (by rw [List.length_take]; omega), List.getElem?_take_of_lt hk]
        · subst hk
          rw [List.getElem?_append_right (by rw [List.length_take]; omega), hb]
          simp [List.length_take, hn]
        · rw [List.getElem?_eq_none (by omega), List.getElem?_eq_none (by simp [List.length_take]; omega)]
      have h1 : (y :: b :: ys.take n).Perm (y :: (ys.take n ++ [b])) := List.Perm.cons _ (List.perm_append_singleton b _).symm
      rw [← hy] at h1
      exact h1

theorem heapD_stop {ys : List α} {i : Nat} {a : α} (h : HeapD lt ys i) (hi : ys[i]? = some a) (hn : ∀ (j : Nat) b, 2 * i + 1 ≤ j → j ≤ 2 * i + 2 → ys[j]? = some b → ¬ lt b a) : Heap lt ys := by
  intro j hj c d hc hd
  by_cases hp : (j - 1) / 2 = i
  · rw [hp, hi] at hd
    cases hd
    exact hn j c (by omega) (by omega) hc
  · exact h.1 j hj hp c d hc hd
theorem heapD_down (ho : Swo lt) {ys : List α} {i k : Nat} {a b : α} (h : HeapD lt ys i) (hi : ys[i]? = some a) (hk : ys[k]? = some b) (h1 : 2 * i + 1 ≤ k) (h2 : k ≤ 2 * i + 2) (hl : lt b a)
    (hn : ∀ (j : Nat) c, 2 * i + 1 ≤ j → j ≤ 2 * i + 2 → ys[j]? = some c → ¬ lt c b) : HeapD lt (swp ys i k a b) k := by
  have hg := swp_get hi hk (by omega)
  refine ⟨fun j hj hpk c d hc hd => ?_, fun j hj hpk hk0 c d hc hd => ?_⟩
  · rw [hg] at hc hd
    rw [if_neg hpk] at hd
    by_cases hpi : (j - 1) / 2 = i
    · rw [if_pos hpi] at hd
      cases hd
      by_cases hjk : j = k
      · rw [if_pos hjk] at hc; cases hc; exact ho.asymm _ _ hl
      · rw [if_neg hjk, if_neg (by omega)] at hc
        exact hn j c (by omega) (by omega) hc
    · rw [if_neg hpi] at hd
      have hjk : j ≠ k := by omega
      rw [if_neg hjk] at hc
      by_cases hji : j = i
      · rw [if_pos hji] at hc
        cases hc
        -- the old child b stands at i; its upper one is d
        subst hji
        exact h.2 k (by omega) (by omega) hj b d hk hd
      · rw [if_neg hji] at hc
        exact h.1 j hj hpi c d hc hd
  · rw [hg] at hc hd
    have hpi : (k - 1) / 2 = i := by omega
    rw [hpi, if_neg (by omega), if_pos rfl] at hd
    cases hd
    rw [if_neg (by omega), if_neg (by omega)] at hc
    exact h.1 j hj (by omega) c b hc (by rw [hpk]; exact hk)
end
end Go.Vx.Hp
