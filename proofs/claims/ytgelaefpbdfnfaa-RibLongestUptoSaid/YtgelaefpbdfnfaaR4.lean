/- Lookup, the program's and the document's. -/
import Derived.Test.YtgelaefpbdfnfaaR3
namespace Go.Proofs.Ytgelaefpbdfnfaa
open Go Go.Vx

def IsPick (bits : Int) (l : List Route) (v k : Int) : Prop := (k = -1 ∧ ∀ x ∈ numb l, ¬ hasR bits x.r v) ∨ (∃ x ∈ numb l, x.at_ = k ∧ hasR bits x.r v ∧ ∀ y ∈ numb l, hasR bits y.r v → ¬ firstP y x)
theorem first_tie {x y : Num} (h1 : ¬ firstP x y) (h2 : ¬ firstP y x) : x.at_ = y.at_ := by
  unfold firstP at *
  split at h1 <;> split at h2 <;> (try split at h1) <;> (try split at h2) <;> (try split at h1) <;> (try split at h2) <;> omega
theorem IsPick.uniq {bits : Int} {l : List Route} {v k k' : Int} (h : IsPick bits l v k) (h' : IsPick bits l v k') : k = k' := by
  rcases h with ⟨rfl, h⟩ | ⟨x, hx, rfl, hh, hm⟩ <;> rcases h' with ⟨rfl, h'⟩ | ⟨y, hy, rfl, hh', hm'⟩
  · rfl
  · exact absurd hh' (h y hy)
  · exact absurd hh (h' x hx)
  · exact first_tie (hm' x hx hh) (hm y hy hh')
open Classical in
noncomputable def pick (bits : Int) (l : List Route) (v : Int) : Int := if h : ∃ k, IsPick bits l v k then h.choose else 0
theorem pick_eq {bits : Int} {l : List Route} {v k : Int} (h : IsPick bits l v k) : pick bits l v = k := by
  unfold pick
  rw [dif_pos ⟨k, h⟩]
  exact (Exists.choose_spec (⟨k, h⟩ : ∃ k, IsPick bits l v k)).uniq h
def lookE (bits : Int) (l : List Route) (v : Int) : Int := if checkE bits l ≠ 0 then checkE bits l else if v < 0 ∨ 2 ^ bits.toNat ≤ v then 1 else 0
noncomputable def lookK (bits : Int) (l : List Route) (v : Int) : Int := if lookE bits l v ≠ 0 then 0 else pick bits l v

theorem checkE_ok {bits : Int} {l : List Route} (h : checkE bits l = 0) : l.length ≤ 256 ∧ 1 ≤ bits ∧ bits ≤ 32 ∧ ∀ r ∈ l, okR bits r := by
  unfold checkE at h
  split at h
  · omega
  split at h
  · omega
  split at h
  · rename_i h1 h2 h3
    exact ⟨by omega, by omega, by omega, h3⟩
  · omega
theorem dd_find (p : Num → Bool) (hp : ∀ a b : Num, a.r.len = b.r.len → a.r.value = b.r.value → p a = p b) : ∀ (n : Nat) (ps : List Num), ps.length = n → (ps.foldl ddF []).find? p = ps.find? p := by
  intro n
  induction n with
  | zero => intro ps h; have := List.eq_nil_of_length_eq_zero h; subst this; rfl
  | succ n ih =>
    intro ps h
    obtain ⟨qs, b, rfl⟩ : ∃ qs b, ps = qs ++ [b] := ⟨ps.dropLast, ps.getLast (by intro e; subst e; simp at h), (List.dropLast_concat_getLast _).symm⟩
    have hq := ih qs (by simpa using h)
    rw [List.foldl_append, List.foldl_cons, List.foldl_nil]
    generalize qs.foldl ddF [] = o at hq ⊢
    have key : (o ++ [b]).find? p = (qs ++ [b]).find? p := by rw [List.find?_append, List.find?_append, hq]
    unfold ddF
    split
    · rename_i q hl
      split
      · rename_i hqb
        rw [← key, List.find?_append]
        cases ho : o.find? p with
        | some z => rfl
        | none =>
          have hqm : q ∈ o := List.mem_of_getLast? hl
          have h1 := List.find?_eq_none.1 ho q hqm
          have h2 : p b = false := by rw [← hp q b hqb.1 hqb.2]; simpa using h1
          simp [h2]
      · exact key
    · exact key
theorem numb_at (l : List Route) (k : Nat) (h : k < l.length) : (⟨l[k], k⟩ : Num) ∈ numb l := by
  have : (numb l)[k]? = some ⟨l[k], k⟩ := by simp [numb, h]
  exact List.mem_of_getElem? this
theorem numb_mem {l : List Route} {x : Num} (h : x ∈ numb l) : ∃ k, ∃ hk : k < l.length, x = ⟨l[k], k⟩ := by
  obtain ⟨k, hk⟩ := List.getElem?_of_mem h
  have hl : k < l.length := by have := (List.getElem?_eq_some_iff.1 hk).1; simpa [numb] using this
  refine ⟨k, hl, ?_⟩
  simp [numb, hl] at hk
  exact hk.symm

/-- The best of the first i. -/
def Best (bits : Int) (l : List Route) (v : Int) (i : Nat) (k : Int) : Prop := (k = -1 ∧ ∀ (j : Nat) r, j < i → l[j]? = some r → ¬ hasR bits r v) ∨
  ∃ (kk : Nat) (rk : Route), k = (kk : Int) ∧ kk < i ∧ l[kk]? = some rk ∧ hasR bits rk v ∧ ∀ (j : Nat) r, j < i → l[j]? = some r → hasR bits r v → ¬ firstP ⟨r, j⟩ ⟨rk, kk⟩
theorem first_ahead {r s : Route} {i j : Nat} (h : j < i) : firstP ⟨r, i⟩ ⟨s, j⟩ ↔ aheadP r s := by
  unfold firstP aheadP
  split
  · rfl
  split
  · rfl
  split
  · rfl
  · constructor <;> intro h' <;> simp only at * <;> omega
theorem Best.take {bits v : Int} {l : List Route} {i : Nat} {k : Int} {r : Route} (h : Best bits l v i k) (hr : l[i]? = some r) (hh : hasR bits r v)
    (hc : k < 0 ∨ ∃ (kk : Nat) (rk : Route), k = (kk : Int) ∧ l[kk]? = some rk ∧ aheadP r rk) : Best bits l v (i + 1) (i : Nat) := by
  refine .inr ⟨i, r, rfl, by omega, hr, hh, fun j s hj hs hhs => ?_⟩
  by_cases hji : j = i
  · subst hji
    rw [hr] at hs
    cases hs
    exact first_swo.irrefl _
  rcases h with ⟨rfl, h⟩ | ⟨kk, rk, rfl, hkk, hrk, hhk, hmin⟩
  · exact absurd hhs (h j s (by omega) hs)
  · have hah : aheadP r rk := by
      rcases hc with hc | ⟨k2, r2, e, h2, h3⟩
      · omega
      · have : k2 = kk := by omega
        subst this
        rw [hrk] at h2
        cases h2
        exact h3
    have h1 := (first_ahead (i := i) hkk).2 hah
    exact first_swo.trans _ _ _ (first_swo.asymm _ _ h1) (hmin j s (by omega) hs hhs)
theorem Best.skip {bits v : Int} {l : List Route} {i : Nat} {k : Int} {r : Route} (h : Best bits l v i k) (hr : l[i]? = some r)
    (hc : ¬ hasR bits r v ∨ ∃ (kk : Nat) (rk : Route), k = (kk : Int) ∧ l[kk]? = some rk ∧ ¬ aheadP r rk) : Best bits l v (i + 1) k := by
  rcases h with ⟨rfl, h⟩ | ⟨kk, rk, rfl, hkk, hrk, hhk, hmin⟩
  · refine .inl ⟨rfl, fun j s hj hs => ?_⟩
    by_cases hji : j = i
    · subst hji
      rw [hr] at hs
      cases hs
      rcases hc with hc | ⟨k2, r2, e, _⟩
      · exact hc
      · omega
    · exact h j s (by omega) hs
  · refine .inr ⟨kk, rk, rfl, by omega, hrk, hhk, fun j s hj hs hhs => ?_⟩
    by_cases hji : j = i
    · subst hji
      rw [hr] at hs
      cases hs
      rcases hc with hc | ⟨k2, r2, e, h2, h3⟩
      · exact absurd hhs hc
      · have : k2 = kk := by omega
        subst this
        rw [hrk] at h2
        cases h2
        exact fun h => h3 ((first_ahead hkk).1 h)
    · exact hmin j s (by omega) hs hhs
theorem Best.pick {bits v : Int} {l : List Route} {k : Int} (h : Best bits l v l.length k) : IsPick bits l v k := by
  rcases h with ⟨rfl, h⟩ | ⟨kk, rk, rfl, hkk, hrk, hhk, hmin⟩
  · refine .inl ⟨rfl, fun x hx => ?_⟩
    obtain ⟨j, hj, rfl⟩ := numb_mem hx
    exact h j _ hj (List.getElem?_eq_getElem hj)
  · refine .inr ⟨⟨rk, kk⟩, ?_, rfl, hhk, fun y hy hhy => ?_⟩
    · have := (List.getElem?_eq_some_iff.1 hrk).2
      rw [← this]
      exact numb_at l kk hkk
    · obtain ⟨j, hj, rfl⟩ := numb_mem hy
      exact hmin j _ hj (List.getElem?_eq_getElem hj) hhy

set_option maxRecDepth 100000 in
theorem refLookup_spec (bits v : Int) (l : List Route) (room : List (List D)) : FSpec Try.prog T 25 [.i .i64 bits, .lst 68 (l.map Route.row) room, .i .i64 v] (fun d _ => d = .tup [.i .i64 (lookK bits l v), .i .i64 (lookE bits l v)]) := by
  refine FSpec.of_ok tok Try.func25 rfl Try.call25 (by simp) ?_
  repeat' (first | refine Ok.seq ?_ | (refine Ok.region tok ?_; conv => whnf) | (refine Ok.region_draw tok follows (by kernel_rfl) ?_; conv => whnf) | (refine Ok.cond ?_; conv => whnf) | refine Ok.block ?_ | (refine Ok.skip ?_; conv => whnf) | (refine Ok.exit ?_; conv => whnf) | (refine Ok.ret ?_; conv => whnf) | (refine num_in (by omega) (by omega) ?_; conv => whnf) | fail)
  left
  (conv => whnf)
  refine ⟨_, fit_spec bits l room, rfl, ?_⟩
  (conv => whnf)
  repeat' (first | refine Ok.seq ?_ | (refine Ok.region tok ?_; conv => whnf) | (refine Ok.region_draw tok follows (by kernel_rfl) ?_; conv => whnf) | (refine Ok.cond ?_; conv => whnf) | refine Ok.block ?_ | (refine Ok.skip ?_; conv => whnf) | (refine Ok.exit ?_; conv => whnf) | (refine Ok.ret ?_; conv => whnf) | (refine num_in (by omega) (by omega) ?_; conv => whnf) | fail)
  refine ⟨fun h1 => ?_, fun h1 => ?_⟩
  · repeat' (first | refine Ok.seq ?_ | (refine Ok.region tok ?_; conv => whnf) | (refine Ok.region_draw tok follows (by kernel_rfl) ?_; conv => whnf) | (refine Ok.cond ?_; conv => whnf) | refine Ok.block ?_ | (refine Ok.skip ?_; conv => whnf) | (refine Ok.exit ?_; conv => whnf) | (refine Ok.ret ?_; conv => whnf) | (refine num_in (by omega) (by omega) ?_; conv => whnf) | fail)
    left
    (conv => whnf)
    simp [oneD, lookK, lookE, h1]
  have h1 : checkE bits l = 0 := Classical.not_not.1 h1
  obtain ⟨hl, hb1, hb2, hok⟩ := checkE_ok h1
  have hm : min bits.toNat IntKind.i64.bits = bits.toNat := by show min bits.toNat 64 = _; omega
  have hb : (0 : Int) < 2 ^ min bits.toNat IntKind.i64.bits ∧ (2 : Int) ^ min bits.toNat IntKind.i64.bits ≤ 4294967296 := by rw [hm]; exact pow_bd _ (by omega)
  repeat' (first | refine Ok.seq ?_ | (refine Ok.region tok ?_; conv => whnf) | (refine Ok.region_draw tok follows (by kernel_rfl) ?_; conv => whnf) | (refine Ok.cond ?_; conv => whnf) | refine Ok.block ?_ | (refine Ok.skip ?_; conv => whnf) | (refine Ok.exit ?_; conv => whnf) | (refine Ok.ret ?_; conv => whnf) | (refine num_in (by omega) (by omega) ?_; conv => whnf) | fail)
  refine ⟨fun h2 => ?_, fun h2 => ?_⟩
  · repeat' (first | refine Ok.seq ?_ | (refine Ok.region tok ?_; conv => whnf) | (refine Ok.region_draw tok follows (by kernel_rfl) ?_; conv => whnf) | (refine Ok.cond ?_; conv => whnf) | refine Ok.block ?_ | (refine Ok.skip ?_; conv => whnf) | (refine Ok.exit ?_; conv => whnf) | (refine Ok.ret ?_; conv => whnf) | (refine num_in (by omega) (by omega) ?_; conv => whnf) | fail)
    left
    (conv => whnf)
    simp [oneD, lookK, lookE, h1, h2]
  repeat' (first | refine Ok.seq ?_ | (refine Ok.region tok ?_; conv => whnf) | (refine Ok.region_draw tok follows (by kernel_rfl) ?_; conv => whnf) | (refine Ok.cond ?_; conv => whnf) | refine Ok.block ?_ | (refine Ok.skip ?_; conv => whnf) | (refine Ok.exit ?_; conv => whnf) | (refine Ok.ret ?_; conv => whnf) | (refine num_in (by omega) (by omega) ?_; conv => whnf) | (refine ⟨fun _ => ?_, fun _ => ?_⟩) | (refine And.intro (by first | omega | rfl | (simp; done) | (simp; omega)) ?_; conv => whnf) | (refine num_any ?_; conv => whnf) | fail)
  · rename_i h3
    rw [hm, Int.one_mul] at h3
    left
    (conv => whnf)
    simp [oneD, lookK, lookE, h1, h3]
  rename_i h3
  rw [hm, Int.one_mul] at h3
  have hE : lookE bits l v = 0 := by unfold lookE; rw [if_neg (by omega), if_neg (by omega)]
  refine Ok.loopK [0, 1, 2, 9, 10] 0 0 (fun x : Int × Nat => ⟨[(0, .i .i64 bits), (1, .lst 68 (l.map Route.row) room), (2, .i .i64 v), (9, .i .i64 x.1), (10, .i .i64 (x.2 : Nat))], [], [], 55⟩)
    (fun x => x.2 ≤ l.length ∧ Best bits l v x.2 x.1) (fun x => l.length - x.2) (-1, 0) ⟨Nat.zero_le _, .inl ⟨rfl, fun j r h => by simp at h⟩⟩ ?_ ?_
  · (conv => whnf); all_goals (first | rfl | simp)
  rintro ⟨k, i⟩ ⟨hi, hbest⟩
  dsimp only at hi hbest ⊢
  repeat' (first | refine Ok.seq ?_ | (refine Ok.region tok ?_; conv => whnf) | (refine Ok.region_draw tok follows (by kernel_rfl) ?_; conv => whnf) | (refine Ok.cond ?_; conv => whnf) | refine Ok.block ?_ | (refine Ok.skip ?_; conv => whnf) | (refine Ok.exit ?_; conv => whnf) | (refine Ok.ret ?_; conv => whnf) | (refine num_in (by omega) (by omega) ?_; conv => whnf) | fail)
  refine ⟨fun h4 => ?_, fun h4 => ?_⟩
  · have h4' : i < l.length := by simpa using h4
    obtain ⟨r, hr⟩ : ∃ r, l[i]? = some r := ⟨_, List.getElem?_eq_getElem h4'⟩
    have hrm : r ∈ l := List.mem_of_getElem? hr
    have hokr := hok r hrm
    have hlen := hokr.2.2.1
    have hlen2 := hokr.2.2.2.1
    repeat' (first | refine Ok.seq ?_ | (refine Ok.region tok ?_; conv => whnf) | (refine Ok.region_draw tok follows (by kernel_rfl) ?_; conv => whnf) | (refine Ok.cond ?_; conv => whnf) | refine Ok.block ?_ | (refine Ok.skip ?_; conv => whnf) | (refine Ok.exit ?_; conv => whnf) | (refine Ok.ret ?_; conv => whnf) | (refine num_in (by omega) (by omega) ?_; conv => whnf) | fail)
    refine ⟨by omega, _, map_at hr, ?_⟩
    (conv => whnf)
    refine ⟨_, Has_spec bits r v hb2 hlen hlen2, rfl, ?_⟩
    (conv => whnf)
    refine ⟨fun h5 => ?_, fun h5 => ?_⟩
    · repeat' (first | refine Ok.seq ?_ | (refine Ok.region tok ?_; conv => whnf) | (refine Ok.region_draw tok follows (by kernel_rfl) ?_; conv => whnf) | (refine Ok.cond ?_; conv => whnf) | refine Ok.block ?_ | (refine Ok.skip ?_; conv => whnf) | (refine Ok.exit ?_; conv => whnf) | (refine Ok.ret ?_; conv => whnf) | (refine num_in (by omega) (by omega) ?_; conv => whnf) | fail)
      refine ⟨fun h6 => ?_, fun h6 => ?_⟩
      · repeat' (first | refine Ok.seq ?_ | (refine Ok.region tok ?_; conv => whnf) | (refine Ok.region_draw tok follows (by kernel_rfl) ?_; conv => whnf) | (refine Ok.cond ?_; conv => whnf) | refine Ok.block ?_ | (refine Ok.skip ?_; conv => whnf) | (refine Ok.exit ?_; conv => whnf) | (refine Ok.ret ?_; conv => whnf) | (refine num_in (by omega) (by omega) ?_; conv => whnf) | fail)
        refine ⟨((i : Nat), i + 1), by dsimp only; omega, ⟨by dsimp only; omega, hbest.take hr h5 (.inl h6)⟩, ?_⟩
        (conv => whnf); all_goals (first | rfl | simp)
      · obtain ⟨kk, rk, rfl, hkk, hrk, hhk, hmin⟩ := hbest.resolve_left (fun h => h6 (by rw [h.1]; decide))
        have hkl : kk < l.length := by omega
        repeat' (first | refine Ok.seq ?_ | (refine Ok.region tok ?_; conv => whnf) | (refine Ok.region_draw tok follows (by kernel_rfl) ?_; conv => whnf) | (refine Ok.cond ?_; conv => whnf) | refine Ok.block ?_ | (refine Ok.skip ?_; conv => whnf) | (refine Ok.exit ?_; conv => whnf) | (refine Ok.ret ?_; conv => whnf) | (refine num_in (by omega) (by omega) ?_; conv => whnf) | fail)
        refine ⟨by omega, _, map_at hr, ?_⟩
        (conv => whnf)
        refine ⟨by omega, _, map_at hrk, ?_⟩
        (conv => whnf)
        refine ⟨_, ahead_spec r rk, rfl, ?_⟩
        (conv => whnf)
        repeat' (first | refine Ok.seq ?_ | (refine Ok.region tok ?_; conv => whnf) | (refine Ok.region_draw tok follows (by kernel_rfl) ?_; conv => whnf) | (refine Ok.cond ?_; conv => whnf) | refine Ok.block ?_ | (refine Ok.skip ?_; conv => whnf) | (refine Ok.exit ?_; conv => whnf) | (refine Ok.ret ?_; conv => whnf) | (refine num_in (by omega) (by omega) ?_; conv => whnf) | fail)
        refine ⟨fun h7 => ?_, fun h7 => ?_⟩
        · repeat' (first | refine Ok.seq ?_ | (refine Ok.region tok ?_; conv => whnf) | (refine Ok.region_draw tok follows (by kernel_rfl) ?_; conv => whnf) | (refine Ok.cond ?_; conv => whnf) | refine Ok.block ?_ | (refine Ok.skip ?_; conv => whnf) | (refine Ok.exit ?_; conv => whnf) | (refine Ok.ret ?_; conv => whnf) | (refine num_in (by omega) (by omega) ?_; conv => whnf) | fail)
          refine ⟨((i : Nat), i + 1), by dsimp only; omega, ⟨by dsimp only; omega, hbest.take hr h5 (.inr ⟨kk, rk, rfl, hrk, h7⟩)⟩, ?_⟩
          (conv => whnf); all_goals (first | rfl | simp)
        · repeat' (first | refine Ok.seq ?_ | (refine Ok.region tok ?_; conv => whnf) | (refine Ok.region_draw tok follows (by kernel_rfl) ?_; conv => whnf) | (refine Ok.cond ?_; conv => whnf) | refine Ok.block ?_ | (refine Ok.skip ?_; conv => whnf) | (refine Ok.exit ?_; conv => whnf) | (refine Ok.ret ?_; conv => whnf) | (refine num_in (by omega) (by omega) ?_; conv => whnf) | fail)
          refine ⟨((kk : Nat), i + 1), by dsimp only; omega, ⟨by dsimp only; omega, hbest.skip hr (.inr ⟨kk, rk, rfl, hrk, h7⟩)⟩, ?_⟩
          (conv => whnf); all_goals (first | rfl | simp)
    · (try (conv => whnf)); repeat' (first | refine Ok.seq ?_ | (refine Ok.region tok ?_; conv => whnf) | (refine Ok.region_draw tok follows (by kernel_rfl) ?_; conv => whnf) | (refine Ok.cond ?_; conv => whnf) | refine Ok.block ?_ | (refine Ok.skip ?_; conv => whnf) | (refine Ok.exit ?_; conv => whnf) | (refine Ok.ret ?_; conv => whnf) | (refine num_in (by omega) (by omega) ?_; conv => whnf) | (refine ix _ (by assumption) ?_; conv => whnf) | (refine ixI (by omega) (by assumption) ?_; conv => whnf) | (refine ix_new _ (by omega) fun _ _ => ?_; conv => whnf) | (refine ixI_new (by omega) (by omega) fun _ _ => ?_; conv => whnf) | (refine rd rfl (by assumption) ?_; conv => whnf) | (refine ⟨_, .inl ⟨rfl, rfl⟩, ?_⟩; conv => whnf) | (refine ⟨_, _, rfl, rfl, ?_⟩; conv => whnf) | (refine ⟨fun _ => ?_, fun _ => ?_⟩ <;> (conv => whnf) <;> (try (exfalso; omega))) | (refine And.intro (by first | omega | rfl | (simp; done) | (simp; omega)) ?_; conv => whnf) | (refine num_any ?_; conv => whnf) | fail)
      refine ⟨(k, i + 1), by dsimp only; omega, ⟨by dsimp only; omega, hbest.skip hr (.inl h5)⟩, ?_⟩
      (conv => whnf); all_goals (first | rfl | simp)
  · have hkk : i = l.length := by simp at h4; omega
    subst hkk
    repeat' (first | refine Ok.seq ?_ | (refine Ok.region tok ?_; conv => whnf) | (refine Ok.region_draw tok follows (by kernel_rfl) ?_; conv => whnf) | (refine Ok.cond ?_; conv => whnf) | refine Ok.block ?_ | (refine Ok.skip ?_; conv => whnf) | (refine Ok.exit ?_; conv => whnf) | (refine Ok.ret ?_; conv => whnf) | (refine num_in (by omega) (by omega) ?_; conv => whnf) | fail)
    left
    (conv => whnf)
    simp [oneD, lookK, hE, pick_eq hbest.pick]
end Go.Proofs.Ytgelaefpbdfnfaa
