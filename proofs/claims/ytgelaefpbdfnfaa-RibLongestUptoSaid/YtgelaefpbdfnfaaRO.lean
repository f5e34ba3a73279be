/- The order of routes, in plain lists: what both programs' order comes to is told by one word. -/
import Derived.Test.YtgelaefpbdfnfaaR6
namespace Go.Proofs.Ytgelaefpbdfnfaa
open Go Go.Vx

def samePre (a b : Num) : Prop := a.r.len = b.r.len ∧ a.r.value = b.r.value
def preLt (a b : Num) : Prop := b.r.len < a.r.len ∨ (a.r.len = b.r.len ∧ a.r.value < b.r.value)
theorem preLt_first {a b : Num} (h : preLt a b) : firstP a b := by
  unfold preLt at h
  unfold firstP
  rcases h with h | ⟨h1, h2⟩
  · rw [if_pos (by omega)]; exact h
  · rw [if_neg (by omega), if_pos (by omega)]; exact h2
theorem pre_cases {a b : Num} (h : ¬ firstP b a) : preLt a b ∨ samePre a b := by
  unfold firstP at h
  unfold preLt samePre
  split at h
  · omega
  split at h <;> omega
theorem preLt_same {a b c : Num} (h : preLt a c) (hs : samePre a b) : preLt b c := by unfold preLt samePre at *; omega
theorem preLt_same' {a b c : Num} (h : preLt a b) (hs : samePre b c) : preLt a c := by unfold preLt samePre at *; omega
theorem preLt_irrefl {a b : Num} (h : preLt a b) (hs : samePre a b) : False := by unfold preLt samePre at *; omega
theorem preLt_asymm {a b : Num} (h : preLt a b) (h' : preLt b a) : False := by unfold preLt at *; omega
theorem same_symm {a b : Num} (h : samePre a b) : samePre b a := ⟨h.1.symm, h.2.symm⟩
theorem same_trans {a b c : Num} (h : samePre a b) (h' : samePre b c) : samePre a c := ⟨h.1.trans h'.1, h.2.trans h'.2⟩

structure IsOrd (l : List Route) (os : List Num) : Prop where
  sorted : os.Pairwise preLt
  best : ∀ x ∈ os, x ∈ numb l ∧ ∀ y ∈ numb l, samePre y x → ¬ firstP y x
  all : ∀ y ∈ numb l, ∃ x ∈ os, samePre y x

theorem numb_inj {l : List Route} {x y : Num} (hx : x ∈ numb l) (hy : y ∈ numb l) (h : x.at_ = y.at_) : x = y := by
  obtain ⟨i, hi, rfl⟩ := numb_mem hx
  obtain ⟨j, hj, rfl⟩ := numb_mem hy
  have : i = j := by simp only at h; omega
  subst this
  rfl
theorem sorted_ext {α : Type} {lt : α → α → Prop} (ha : ∀ a b, lt a b → ¬ lt b a) : ∀ {l m : List α}, l.Pairwise lt → m.Pairwise lt → (∀ x, x ∈ l ↔ x ∈ m) → l = m
  | [], [], _, _, _ => rfl
  | [], b :: m, _, _, h => by have := (h b).2 (by simp); cases this
  | a :: l, [], _, _, h => by have := (h a).1 (by simp); cases this
  | a :: l, b :: m, h1, h2, h => by
    rw [List.pairwise_cons] at h1 h2
    have hab : a = b := by
      have m1 := (h a).1 (by simp)
      have m2 := (h b).2 (by simp)
      rcases List.mem_cons.1 m1 with e | m1
      · exact e
      · rcases List.mem_cons.1 m2 with e | m2
        · exact e.symm
        · exact absurd (h1.1 b m2) (ha _ _ (h2.1 a m1))
    subst hab
    congr 1
    refine sorted_ext ha h1.2 h2.2 fun x => ?_
    have irr : ∀ x, ¬ lt x x := fun x h => ha x x h h
    constructor
    · intro hx
      rcases List.mem_cons.1 ((h x).1 (by simp [hx])) with e | e
      · subst e; exact absurd (h1.1 _ hx) (irr _)
      · exact e
    · intro hx
      rcases List.mem_cons.1 ((h x).2 (by simp [hx])) with e | e
      · subst e; exact absurd (h2.1 _ hx) (irr _)
      · exact e
theorem IsOrd.sub {l : List Route} {os os' : List Num} (h : IsOrd l os) (h' : IsOrd l os') : ∀ x, x ∈ os → x ∈ os' := by
  intro x hx
  obtain ⟨hxl, hxb⟩ := h.best x hx
  obtain ⟨y, hy, hxy⟩ := h'.all x hxl
  obtain ⟨hyl, hyb⟩ := h'.best y hy
  have := numb_inj hxl hyl (first_tie (hyb x hxl hxy) (hxb y hyl (same_symm hxy)))
  rw [this]; exact hy
theorem IsOrd.uniq {l : List Route} {os os' : List Num} (h : IsOrd l os) (h' : IsOrd l os') : os = os' :=
  sorted_ext (fun _ _ => preLt_asymm) h.sorted h'.sorted fun x => ⟨h.sub h' x, h'.sub h x⟩
open Classical in
noncomputable def ordF (l : List Route) : List Route := if h : ∃ os, IsOrd l os then h.choose.map (·.r) else []
theorem ordF_eq {l : List Route} {os : List Num} (h : IsOrd l os) : ordF l = os.map (·.r) := by
  unfold ordF
  rw [dif_pos ⟨os, h⟩, (Exists.choose_spec (⟨os, h⟩ : ∃ os, IsOrd l os)).uniq h]

/-- What the first one of each prefix of a sorted list comes to. -/
structure DdInv (qs o : List Num) : Prop where
  sorted : o.Pairwise preLt
  best : ∀ x ∈ o, x ∈ qs ∧ ∀ y ∈ qs, samePre y x → ¬ firstP y x
  all : ∀ y ∈ qs, ∃ x ∈ o, samePre y x
theorem dd_step {qs o : List Num} {b : Num} (h : DdInv qs o) (hb : ∀ a ∈ qs, ¬ firstP b a) : DdInv (qs ++ [b]) (ddF o b) := by
  have hin : ∀ x ∈ o, x ∈ qs := fun x hx => (h.best x hx).1
  by_cases hex : ∃ x ∈ o, samePre b x
  · have hddo : ddF o b = o := by
      obtain ⟨x, hx, hbx⟩ := hex
      unfold ddF
      cases hl : o.getLast? with
      | none => rw [List.getLast?_eq_none_iff] at hl; subst hl; cases hx
      | some q =>
        have hq := List.mem_of_getLast? hl
        have hqb : samePre q b := by
          obtain ⟨r, hr⟩ := List.getLast?_eq_some_iff.1 hl
          subst hr
          rcases List.mem_append.1 hx with hx1 | hx1
          · have h1 := (List.pairwise_append.1 h.sorted).2.2 x hx1 q (by simp)
            exact absurd (preLt_first (preLt_same h1 (same_symm hbx))) (hb q (hin q hq))
          · simp at hx1
            subst hx1
            exact same_symm hbx
        simp only
        rw [if_pos ⟨hqb.1, hqb.2⟩]
    rw [hddo]
    refine ⟨h.sorted, fun x hx => ⟨List.mem_append_left _ (hin x hx), fun y hy hyx => ?_⟩, fun y hy => ?_⟩
    · rcases List.mem_append.1 hy with hy | hy
      · exact (h.best x hx).2 y hy hyx
      · simp at hy; rw [hy]; exact hb x (hin x hx)
    · rcases List.mem_append.1 hy with hy | hy
      · exact h.all y hy
      · simp at hy; subst hy; exact hex
  · have hno : ∀ x ∈ o, ¬ samePre b x := fun x hx hs => hex ⟨x, hx, hs⟩
    have hddo : ddF o b = o ++ [b] := by
      unfold ddF
      cases hl : o.getLast? with
      | none => rfl
      | some q =>
        simp only
        exact if_neg (fun hh => hno q (List.mem_of_getLast? hl) (same_symm hh))
    rw [hddo]
    have hlt : ∀ x ∈ o, preLt x b := fun x hx => (pre_cases (hb x (hin x hx))).resolve_right fun hs => hno x hx (same_symm hs)
    refine ⟨List.pairwise_append.2 ⟨h.sorted, by simp, fun x hx y hy => by simp at hy; subst hy; exact hlt x hx⟩, fun x hx => ?_, fun y hy => ?_⟩
    · rcases List.mem_append.1 hx with hx | hx
      · refine ⟨List.mem_append_left _ (hin x hx), fun y hy hyx => ?_⟩
        rcases List.mem_append.1 hy with hy | hy
        · exact (h.best x hx).2 y hy hyx
        · simp at hy; rw [hy]; exact hb x (hin x hx)
      · simp at hx
        subst hx
        refine ⟨by simp, fun y hy hyx => ?_⟩
        rcases List.mem_append.1 hy with hy | hy
        · obtain ⟨z, hz, hyz⟩ := h.all y hy
          exact absurd (same_trans (same_symm hyx) hyz) (hno z hz)
        · simp at hy; subst hy; exact first_swo.irrefl _
    · rcases List.mem_append.1 hy with hy | hy
      · obtain ⟨z, hz, hyz⟩ := h.all y hy
        exact ⟨z, List.mem_append_left _ hz, hyz⟩
      · simp at hy; subst hy; exact ⟨_, by simp, rfl, rfl⟩
theorem dd_inv : ∀ (n : Nat) (ps : List Num), ps.length = n → ps.Pairwise (fun a b => ¬ firstP b a) → DdInv ps (ps.foldl ddF [])
  | 0, ps, h, _ => by
    have := List.eq_nil_of_length_eq_zero h
    subst this
    exact ⟨by simp, by simp, by simp⟩
  | n + 1, ps, h, hs => by
    obtain ⟨qs, b, rfl⟩ : ∃ qs b, ps = qs ++ [b] := ⟨ps.dropLast, ps.getLast (by intro e; subst e; simp at h), (List.dropLast_concat_getLast _).symm⟩
    rw [List.pairwise_append] at hs
    rw [List.foldl_append]
    exact dd_step (dd_inv n qs (by simpa using h) hs.1) fun a ha => hs.2.2 a ha b (by simp)
theorem dd_ord {l : List Route} {ps : List Num} (hp : ps.Perm (numb l)) (hs : ps.Pairwise (fun a b => ¬ firstP b a)) : IsOrd l (ps.foldl ddF []) := by
  have h := dd_inv _ ps rfl hs
  exact ⟨h.sorted, fun x hx => ⟨hp.subset (h.best x hx).1, fun y hy => (h.best x hx).2 y (hp.symm.subset hy)⟩, fun y hy => h.all y (hp.symm.subset hy)⟩

/-! ### The document's way: the first of what is left, again and again -/
structure Sel (l : List Route) (rest out : List Num) : Prop where
  sorted : out.Pairwise preLt
  best : ∀ x ∈ out, x ∈ numb l ∧ ∀ y ∈ numb l, samePre y x → ¬ firstP y x
  left : ∀ y ∈ rest, y ∈ numb l ∧ ∀ x ∈ out, preLt x y
  all : ∀ y ∈ numb l, y ∈ rest ∨ ∃ x ∈ out, samePre y x
  at_ : rest.Pairwise fun a b => a.at_ < b.at_
theorem Sel.start (l : List Route) : Sel l (numb l) [] := by
  refine ⟨by simp, by simp, fun y hy => ⟨hy, by simp⟩, fun y hy => .inl hy, ?_⟩
  rw [List.pairwise_iff_getElem]
  intro i j hi hj hij
  simp only [numb, List.getElem_map, List.getElem_zipIdx]
  omega
theorem Sel.ord {l : List Route} {out : List Num} (h : Sel l [] out) : IsOrd l out := ⟨h.sorted, h.best, fun y hy => (h.all y hy).resolve_left (by simp)⟩
theorem Sel.step {l : List Route} {rest out : List Num} {r : Num} (h : Sel l rest out) (hr : r ∈ rest) (hmin : ∀ y ∈ rest, ¬ firstP y r) :
    Sel l (rest.filter fun y => decide (y.r.len ≠ r.r.len ∨ y.r.value ≠ r.r.value)) (out ++ [r]) := by
  obtain ⟨hrl, hro⟩ := h.left r hr
  refine ⟨List.pairwise_append.2 ⟨h.sorted, by simp, fun x hx y hy => by simp at hy; subst hy; exact hro x hx⟩, fun x hx => ?_, fun y hy => ?_, fun y hy => ?_, h.at_.filter _⟩
  · rcases List.mem_append.1 hx with hx | hx
    · exact h.best x hx
    · simp at hx
      subst hx
      refine ⟨hrl, fun y hy hyx => ?_⟩
      rcases h.all y hy with hy | ⟨z, hz, hyz⟩
      · exact hmin y hy
      · exact absurd (same_trans (same_symm hyz) hyx) (fun hs => preLt_irrefl (hro z hz) hs)
  · obtain ⟨hy1, hy2⟩ := List.mem_filter.1 hy
    obtain ⟨hyl, hyo⟩ := h.left y hy1
    refine ⟨hyl, fun x hx => ?_⟩
    rcases List.mem_append.1 hx with hx | hx
    · exact hyo x hx
    · simp at hx
      subst hx
      refine (pre_cases (hmin y hy1)).resolve_right fun hs => ?_
      simp at hy2
      obtain ⟨h1, h2⟩ := hs
      omega
  · rcases h.all y hy with hy' | ⟨z, hz, hyz⟩
    · by_cases hs : samePre y r
      · exact .inr ⟨r, by simp, hs⟩
      · refine .inl (List.mem_filter.2 ⟨hy', ?_⟩)
        simp only [decide_eq_true_eq]
        unfold samePre at hs
        omega
    · exact .inr ⟨z, by simp [hz], hyz⟩
end Go.Proofs.Ytgelaefpbdfnfaa
