/- None of Slim's routes can be left out: plain. -/
import Derived.Test.YtgelaefpbdfnfaaX5
namespace Go.Proofs.Ytgelaefpbdfnfaa
open Go Go.Vx

theorem has_iff {bits : Int} {r : Route} (hok : okR bits r) (v : Int) : hasR bits r v ↔ r.value ≤ v ∧ v < r.value + 2 ^ (bits - r.len).toNat := by
  have e1 := hok.2.2.2.2.2.2.2.2
  unfold hasR
  generalize hP : (2 : Int) ^ (bits - r.len).toNat = P at *
  have hp : 0 < P := by rw [← hP]; exact Int.pow_pos (by omega)
  rw [Int.fdiv_eq_ediv_of_nonneg _ (by omega), Int.fdiv_eq_ediv_of_nonneg _ (by omega)]
  have k1 := Int.mul_ediv_add_emod r.value P
  have k2 := Int.mul_ediv_add_emod v P
  have k3 := Int.emod_nonneg v (b := P) (by omega)
  have k4 := Int.emod_lt_of_pos v hp
  rw [e1] at k1
  constructor
  · intro h
    rw [h] at k2
    omega
  · rintro ⟨h1, h2⟩
    have g1 : r.value / P ≤ v / P := Int.ediv_le_ediv hp h1
    have g2 : v / P < r.value / P + 1 := by
      rw [Int.ediv_lt_iff_lt_mul hp, Int.add_mul, Int.one_mul, Int.mul_comm]
      omega
    omega
theorem pt_mem {bits : Int} {l : List Route} {r : Route} (hr : r ∈ l) {v : Int} (h : v ∈ ptF bits r) : v ∈ ptsF bits l := by
  unfold ptsF
  exact List.mem_cons_of_mem _ (List.mem_flatMap.2 ⟨r, hr, h⟩)
theorem hole {bits : Int} {l o : List Route} {x : Route} (hx : x ∈ o) (hsub : ∀ r ∈ o, r ∈ l) (hok : ∀ r ∈ o, okR bits r) (hn : ¬ Hal o bits x.value x.len) :
    ∃ v ∈ ptsF bits l, 0 ≤ v ∧ v < 2 ^ bits.toNat ∧ hasR bits x v ∧ ∀ w ∈ o, hasR bits w v → w.len ≤ x.len := by
  have key : ∀ (n : Nat) (v : Int), (v - x.value).toNat ≤ n → 0 ≤ v → v < 2 ^ bits.toNat → hasR bits x v → ¬ cov o bits (x.len + 1) v →
      ∃ v ∈ ptsF bits l, 0 ≤ v ∧ v < 2 ^ bits.toNat ∧ hasR bits x v ∧ ∀ w ∈ o, hasR bits w v → w.len ≤ x.len := by
    intro n
    induction n with
    | zero =>
      intro v hnv h0 h1 h2 h3
      obtain ⟨g1, g2⟩ := (has_iff (hok x hx) v).1 h2
      have hv : v = x.value := by omega
      refine ⟨v, pt_mem (hsub x hx) (by unfold ptF; split <;> simp [hv]), h0, h1, h2, fun w hw hwv => ?_⟩
      apply Classical.byContradiction
      intro hlt
      exact h3 ⟨w, hw, by omega, hwv⟩
    | succ n ih =>
      intro v hnv h0 h1 h2 h3
      obtain ⟨g1, g2⟩ := (has_iff (hok x hx) v).1 h2
      have hmax : ∀ w ∈ o, hasR bits w v → w.len ≤ x.len := fun w hw hwv => by
        apply Classical.byContradiction
        intro hlt
        exact h3 ⟨w, hw, by omega, hwv⟩
      by_cases hv : v = x.value
      · exact ⟨v, pt_mem (hsub x hx) (by unfold ptF; split <;> simp [hv]), h0, h1, h2, hmax⟩
      · by_cases hc : cov o bits (x.len + 1) (v - 1)
        · obtain ⟨r, hr, hl, hh⟩ := hc
          obtain ⟨a1, a2⟩ := (has_iff (hok r hr) _).1 hh
          have hnr : ¬ hasR bits r v := fun h => by have := hmax r hr h; omega
          rw [has_iff (hok r hr)] at hnr
          refine ⟨v, pt_mem (hsub r hr) ?_, h0, h1, h2, hmax⟩
          have hvr : v = r.value + 2 ^ (bits - r.len).toNat := by omega
          unfold ptF
          rw [if_pos (by rw [← hvr]; exact h1)]
          simp [hvr]
        · have hx0 := (hok x hx).2.2.2.2.2.2.1
          exact ih (v - 1) (by omega) (by omega) (by omega) ((has_iff (hok x hx) _).2 ⟨by omega, by omega⟩) hc
  apply Classical.byContradiction
  intro hno
  apply hn
  intro v h0 h1 h2
  apply Classical.byContradiction
  intro h3
  exact hno (key _ v (Nat.le_refl _) h0 h1 h2 h3)

theorem least_plain {bits : Int} {l o : List Route} (hok : ∀ r ∈ o, okR bits r) (hs : o.Pairwise preR) (hsub : ∀ r ∈ o, r ∈ l) {k : Nat} {x : Route} (hk : (slimF bits o)[k]? = some x) :
    ∃ v ∈ ptsF bits l, ∀ d d', OutIs bits (slimF bits o) v d → OutIs bits ((slimF bits o).eraseIdx k) v d' → d ≠ d' := by
  obtain ⟨hMok, hMs, _⟩ := metF_ok hok hs
  have hxs : x ∈ slimF bits o := List.mem_of_getElem? hk
  have hSs : (slimF bits o).Pairwise preR := keep_pre hMs
  have hSok : ∀ r ∈ slimF bits o, okR bits r := fun r hr => hMok r (keep_sub hr)
  have hxm : x ∈ metF bits o := keep_sub hxs
  obtain ⟨hxo, hxH⟩ := met_mem.1 hxm
  obtain ⟨v, hv, h0, h1, hxv, hmax⟩ := hole hxo hsub hok hxH
  refine ⟨v, hv, fun d d' hd hd' => ?_⟩
  have hdx : d = x.out := OutIs.uniq hSok hSs hd (.inr ⟨x, hxs, hxv, rfl, fun s hss hsv => hmax s (met_sub (keep_sub hss)) hsv⟩)
  have her : ∀ w, w ∈ (slimF bits o).eraseIdx k ↔ w ∈ slimF bits o ∧ w ≠ x := fun w => by
    rw [List.mem_eraseIdx_iff_getElem?]
    constructor
    · rintro ⟨i, hik, hi⟩
      refine ⟨List.mem_of_getElem? hi, ?_⟩
      rintro rfl
      exact hik (pre_uniq hSs hi hk rfl rfl)
    · rintro ⟨h, hne⟩
      obtain ⟨i, hi⟩ := List.getElem?_of_mem h
      refine ⟨i, ?_, hi⟩
      rintro rfl
      rw [hk] at hi
      cases hi
      exact hne rfl
  have hEs : ((slimF bits o).eraseIdx k).Pairwise preR := hSs.sublist (List.eraseIdx_sublist _ _)
  have hEok : ∀ r ∈ (slimF bits o).eraseIdx k, okR bits r := fun r hr => hSok r ((her r).1 hr).1
  obtain ⟨i, hi, hki⟩ := mem_keepF.1 hxs
  have hother : ∀ w ∈ (slimF bits o).eraseIdx k, hasR bits w v → ∃ j, j ≠ i ∧ (metF bits o)[j]? = some w ∧ covR bits w x := fun w hw hwv => by
    obtain ⟨hw1, hw2⟩ := (her w).1 hw
    obtain ⟨j, hj, _⟩ := mem_keepF.1 hw1
    refine ⟨j, ?_, hj, has_cov (hmax w (met_sub (keep_sub hw1)) hwv) hwv hxv⟩
    rintro rfl
    rw [hi] at hj
    cases hj
    exact hw2 rfl
  have hx0 := (hMok x hxm).2.2.2.2.1
  rcases parF_is hMok hMs hi with ⟨hp, hnone⟩ | ⟨pp, rp, hp, hpl, hpk, hrp, hcov, hbest⟩
  · have : d' = -1 := OutIs.uniq hEok hEs hd' (.inl ⟨rfl, fun w hw hwv => by
      obtain ⟨j, h1, h2, h3⟩ := hother w hw hwv
      exact hnone j w (List.getElem?_eq_some_iff.1 h2).1 h1 h2 h3⟩)
    omega
  · have hpv := cov_has hcov hxv
    have hlt := (behind hMok hMs hrp hi hpk hcov).2
    obtain ⟨z, hz1, hz2, hz3, hz4, hz5⟩ := climb (v := v) hMok hMs (fun w => w = x) _ rp (List.mem_of_getElem? hrp) (Nat.le_refl _) hpv (fun w hw hwx hwv => by
      obtain ⟨j, h1, h2, h3⟩ := hother w ((her w).2 ⟨hw, hwx⟩) hwv
      exact hbest j w (List.getElem?_eq_some_iff.1 h2).1 h1 h2 h3) (fun w hw => by subst hw; exact hlt)
    have hd2 : d' = z.out := OutIs.uniq hEok hEs hd' (.inr ⟨z, (her z).2 ⟨hz1, hz2⟩, hz3, rfl, fun w hw hwv => hz5 w ((her w).1 hw).1 ((her w).1 hw).2 hwv⟩)
    unfold keepR at hki
    rw [hp] at hki
    have hne : rp.out ≠ x.out := by
      rcases hki with h | h
      · omega
      · exact h rp hrp
    omega
end Go.Proofs.Ytgelaefpbdfnfaa
