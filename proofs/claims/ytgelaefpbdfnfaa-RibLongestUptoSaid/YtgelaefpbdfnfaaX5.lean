/- Where a value goes by a list of routes: plain. -/
import Derived.Test.YtgelaefpbdfnfaaX4
namespace Go.Proofs.Ytgelaefpbdfnfaa
open Go Go.Vx

theorem cov_has {bits v : Int} {p x : Route} (h : covR bits p x) (hv : hasR bits x v) : hasR bits p v := by
  rw [hasR_q] at hv ⊢
  rw [q_up hv (i := (bits - p.len).toNat) (by have := h.1; omega)]
  exact hasR_q.1 h.2
theorem has_cov {bits v : Int} {p x : Route} (hl : p.len ≤ x.len) (hp : hasR bits p v) (hx : hasR bits x v) : covR bits p x := by
  refine ⟨hl, ?_⟩
  rw [hasR_q] at hp hx ⊢
  rw [← q_up hx (i := (bits - p.len).toNat) (by omega)]
  exact hp
theorem pre_uniq {m : List Route} (hs : m.Pairwise preR) {r s : Route} {i j : Nat} (hi : m[i]? = some r) (hj : m[j]? = some s) (h1 : r.len = s.len) (h2 : r.value = s.value) : i = j := by
  rcases Nat.lt_trichotomy i j with h | h | h
  · have := pre_at hs hi hj h; unfold preR at this; omega
  · exact h
  · have := pre_at hs hj hi h; unfold preR at this; omega
theorem pre_eq {m : List Route} (hs : m.Pairwise preR) {r s : Route} (hr : r ∈ m) (hss : s ∈ m) (h1 : r.len = s.len) (h2 : r.value = s.value) : r = s := by
  obtain ⟨i, hi⟩ := List.getElem?_of_mem hr
  obtain ⟨j, hj⟩ := List.getElem?_of_mem hss
  have := pre_uniq hs hi hj h1 h2
  subst this
  rw [hi] at hj
  cases hj
  rfl
theorem mem_keepF {bits : Int} {m : List Route} {w : Route} : w ∈ keepF bits m m.length ↔ ∃ k, m[k]? = some w ∧ keepR bits m k w := by
  unfold keepF
  constructor
  · intro h
    obtain ⟨x, hx, rfl⟩ := List.mem_map.1 h
    rw [List.mem_filter] at hx
    have := List.mem_of_mem_take hx.1
    rw [List.mem_zipIdx_iff_getElem?] at this
    exact ⟨x.2, this, by simpa using hx.2⟩
  · rintro ⟨k, hk, h⟩
    refine List.mem_map.2 ⟨(w, k), List.mem_filter.2 ⟨?_, by simpa using h⟩, rfl⟩
    rw [List.take_of_length_le (by simp), List.mem_zipIdx_iff_getElem?]
    exact hk
theorem parF_is {bits : Int} {m : List Route} {k : Nat} {rk : Route} (hok : ∀ r ∈ m, okR bits r) (hs : m.Pairwise preR) (hk : m[k]? = some rk) : IsPar bits m k rk m.length (parF bits m k rk) := by
  have hex : ∃ p, IsPar bits m k rk m.length p := by
    by_cases hc : ∃ (i : Nat) (r : Route), k < i ∧ m[i]? = some r ∧ covR bits r rk
    · have key : ∀ n, (∃ (i : Nat) (r : Route), k < i ∧ i < n ∧ m[i]? = some r ∧ covR bits r rk) → ∃ (i : Nat) (r : Route), k < i ∧ m[i]? = some r ∧ covR bits r rk ∧ ∀ (j : Nat) s, k < j → j < i → m[j]? = some s → ¬ covR bits s rk := by
        intro n
        induction n with
        | zero => rintro ⟨i, r, _, h, _⟩; omega
        | succ n ih =>
          rintro ⟨i, r, h1, h2, h3, h4⟩
          by_cases hex : ∃ (i : Nat) (r : Route), k < i ∧ i < n ∧ m[i]? = some r ∧ covR bits r rk
          · exact ih hex
          · exact ⟨i, r, h1, h3, h4, fun j s a b c d => hex ⟨j, s, a, by omega, c, d⟩⟩
      obtain ⟨i0, r0, a0, b0, c0⟩ := hc
      obtain ⟨i, r, h1, h2, h3, h4⟩ := key (i0 + 1) ⟨i0, r0, a0, by omega, b0, c0⟩
      refine ⟨(i : Int), .inr ⟨i, r, rfl, (List.getElem?_eq_some_iff.1 h2).1, by omega, h2, h3, fun j s a b c d => ?_⟩⟩
      have hb := (behind hok hs c hk b d).1
      rcases Nat.lt_trichotomy j i with h | h | h
      · exact absurd d (h4 j s hb h c)
      · subst h; rw [h2] at c; cases c; omega
      · have := pre_at hs h2 c h; unfold preR at this; omega
    · exact ⟨-1, .inl ⟨rfl, fun i r a b c d => hc ⟨i, r, (behind hok hs c hk b d).1, c, d⟩⟩⟩
  obtain ⟨p, hp⟩ := hex
  rw [parF_eq hok hs hp]
  exact hp

/-- Where a value goes by a list without two routes of one prefix. -/
def OutIs (bits : Int) (m : List Route) (v d : Int) : Prop := (d = -1 ∧ ∀ r ∈ m, ¬ hasR bits r v) ∨ ∃ r ∈ m, hasR bits r v ∧ d = r.out ∧ ∀ s ∈ m, hasR bits s v → s.len ≤ r.len
theorem OutIs.uniq {bits v d d' : Int} {m : List Route} (hok : ∀ r ∈ m, okR bits r) (hs : m.Pairwise preR) (h : OutIs bits m v d) (h' : OutIs bits m v d') : d = d' := by
  rcases h with ⟨rfl, h⟩ | ⟨r, hr, hh, rfl, hm⟩ <;> rcases h' with ⟨rfl, h'⟩ | ⟨s, hss, hh', rfl, hm'⟩
  · rfl
  · exact absurd hh' (h s hss)
  · exact absurd hh (h' r hr)
  · have h1 := hm s hss hh'
    have h2 := hm' r hr hh
    rw [pre_eq hs hr hss (by omega) (has_same (hok r hr) (hok s hss) (by omega) hh hh')]

/-- Up from a route that is left out to one that is kept and sends to the same port. -/
theorem climb {bits v : Int} {m : List Route} (hok : ∀ r ∈ m, okR bits r) (hs : m.Pairwise preR) (E : Route → Prop) : ∀ (n : Nat) (y : Route), y ∈ m → y.len.toNat ≤ n → hasR bits y v →
    (∀ w ∈ keepF bits m m.length, ¬ E w → hasR bits w v → w.len ≤ y.len) → (∀ w, E w → y.len < w.len) →
    ∃ z ∈ keepF bits m m.length, ¬ E z ∧ hasR bits z v ∧ z.out = y.out ∧ ∀ w ∈ keepF bits m m.length, ¬ E w → hasR bits w v → w.len ≤ z.len := by
  intro n
  induction n with
  | zero =>
    intro y hy hn hv hmax hE
    obtain ⟨k, hk⟩ := List.getElem?_of_mem hy
    by_cases hkp : keepR bits m k y
    · exact ⟨y, mem_keepF.2 ⟨k, hk, hkp⟩, fun h => by have := hE y h; omega, hv, rfl, hmax⟩
    · exfalso
      have hp := parF_is hok hs hk
      unfold keepR at hkp
      rcases hp with ⟨hp, _⟩ | ⟨pp, rp, hp, hpl, hpk, hrp, hcov, hbest⟩
      · exact hkp (.inl (by omega))
      · have h1 := hok rp (List.mem_of_getElem? hrp)
        have h2 := hok y hy
        have hl := hcov.1
        have hlen : rp.len = y.len := by have := h1.2.2.1; omega
        exact hpk (pre_uniq hs hrp hk hlen (has_same h1 h2 hlen (cov_has hcov hv) hv))
  | succ n ih =>
    intro y hy hn hv hmax hE
    obtain ⟨k, hk⟩ := List.getElem?_of_mem hy
    by_cases hkp : keepR bits m k y
    · exact ⟨y, mem_keepF.2 ⟨k, hk, hkp⟩, fun h => by have := hE y h; omega, hv, rfl, hmax⟩
    · have hp := parF_is hok hs hk
      rcases hp with ⟨hp, _⟩ | ⟨pp, rp, hp, hpl, hpk, hrp, hcov, hbest⟩
      · exact absurd (.inl (by omega)) hkp
      · have h1 := hok rp (List.mem_of_getElem? hrp)
        have h2 := hok y hy
        have hl := hcov.1
        have hpv := cov_has hcov hv
        have hlen : rp.len ≠ y.len := fun hlen => hpk (pre_uniq hs hrp hk hlen (has_same h1 h2 hlen hpv hv))
        have hout : rp.out = y.out := by
          apply Classical.byContradiction
          intro hne
          refine hkp (.inr fun rq hq => ?_)
          rw [hp, Int.toNat_natCast, hrp] at hq
          cases hq
          exact hne
        obtain ⟨z, hz1, hz2, hz3, hz4, hz5⟩ := ih rp (List.mem_of_getElem? hrp) (by have := h1.2.2.1; omega) hpv (fun w hw hEw hwv => by
          obtain ⟨i, hi, hki⟩ := mem_keepF.1 hw
          by_cases hik : i = k
          · subst hik
            rw [hk] at hi
            cases hi
            exact absurd hki hkp
          · exact hbest i w (List.getElem?_eq_some_iff.1 hi).1 hik hi (has_cov (hmax w hw hEw hwv) hwv hv)) (fun w hw => by have := hE w hw; omega)
        exact ⟨z, hz1, hz2, hz3, hz4.trans hout, hz5⟩

theorem met_sub {bits : Int} {o : List Route} {r : Route} (h : r ∈ metF bits o) : r ∈ o := (List.mem_filter.1 h).1
theorem met_mem {bits : Int} {o : List Route} {r : Route} : r ∈ metF bits o ↔ r ∈ o ∧ ¬ Hal o bits r.value r.len := by
  unfold metF metG
  rw [List.mem_filter]
  simp
theorem keep_sub {bits : Int} {m : List Route} {r : Route} (h : r ∈ keepF bits m m.length) : r ∈ m := by
  obtain ⟨k, hk, _⟩ := mem_keepF.1 h
  exact List.mem_of_getElem? hk
theorem keep_pre {bits : Int} {m : List Route} (hs : m.Pairwise preR) : (keepF bits m m.length).Pairwise preR := by
  unfold keepF
  rw [List.pairwise_map]
  refine List.Pairwise.filter _ ?_
  rw [List.take_of_length_le (by simp)]
  have : (m.zipIdx.map (·.1)).Pairwise preR := by rw [List.zipIdx_map_fst]; exact hs
  exact List.pairwise_map.1 this
theorem slim_out {bits v d : Int} {o : List Route} (hok : ∀ r ∈ o, okR bits r) (hs : o.Pairwise preR) (h0 : 0 ≤ v) (h1 : v < 2 ^ bits.toNat) (h : OutIs bits o v d) : OutIs bits (slimF bits o) v d := by
  obtain ⟨hMok, hMs, _⟩ := metF_ok hok hs
  unfold slimF
  rcases h with ⟨rfl, h⟩ | ⟨r, hr, hh, rfl, hm⟩
  · exact .inl ⟨rfl, fun s hs => h s (met_sub (keep_sub hs))⟩
  · have hrm : r ∈ metF bits o := met_mem.2 ⟨hr, fun hH => by
      obtain ⟨s, hs1, hs2, hs3⟩ := hH v h0 h1 (hasR_q.1 hh)
      have := hm s hs1 hs3
      omega⟩
    obtain ⟨z, hz1, _, hz3, hz4, hz5⟩ := climb (v := v) hMok hMs (fun _ => False) _ r hrm (Nat.le_refl _) hh (fun w hw _ hwv => hm w (met_sub (keep_sub hw)) hwv) (fun _ h => h.elim)
    exact .inr ⟨z, hz1, hz3, hz4.symm, fun s hs hsv => hz5 s hs id hsv⟩

/-- By the whole list: what Order keeps. -/
def outK (l : List Route) (k : Int) : Int := if k < 0 then -1 else match l[k.toNat]? with | some r => r.out | none => -1
theorem pick_out {bits v k : Int} {l : List Route} {os : List Num} (hok : ∀ r ∈ l, okR bits r) (ho : IsOrd l os) (h : IsPick bits l v k) : OutIs bits (os.map (·.r)) v (outK l k) := by
  have hin : ∀ r ∈ os.map (·.r), r ∈ l := fun r hr => by
    obtain ⟨x, hx, rfl⟩ := List.mem_map.1 hr
    obtain ⟨j, hj, hjx⟩ := numb_mem (ho.best x hx).1
    rw [hjx]
    exact List.getElem_mem hj
  rcases h with ⟨rfl, h⟩ | ⟨x, hx, rfl, hh, hm⟩
  · refine .inl ⟨rfl, fun r hr => ?_⟩
    obtain ⟨i, hi⟩ := List.getElem?_of_mem (hin r hr)
    obtain ⟨hil, hi⟩ := List.getElem?_eq_some_iff.1 hi
    have := h _ (numb_at l i hil)
    rw [hi] at this
    exact this
  · obtain ⟨j, hj, rfl⟩ := numb_mem hx
    dsimp only at hh hm ⊢
    have hjo : outK l (j : Int) = l[j].out := by unfold outK; rw [if_neg (by omega), Int.toNat_natCast, List.getElem?_eq_getElem hj]
    obtain ⟨z, hz, hsp⟩ := ho.all _ hx
    obtain ⟨hzn, hzb⟩ := ho.best z hz
    obtain ⟨i, hi, rfl⟩ := numb_mem hzn
    obtain ⟨hsl, hsv⟩ := hsp
    dsimp only at hsl hsv
    have hzv : hasR bits l[i] v := by unfold hasR at hh ⊢; rw [← hsl, ← hsv]; exact hh
    have hij := first_tie (hzb _ hx ⟨hsl, hsv⟩) (hm _ hzn hzv)
    dsimp only at hij
    obtain rfl : i = j := by omega
    refine .inr ⟨l[i], List.mem_map.2 ⟨_, hz, rfl⟩, hh, hjo, fun s hss hsh => ?_⟩
    obtain ⟨p, hp⟩ := List.getElem?_of_mem (hin s hss)
    obtain ⟨hpl, hp⟩ := List.getElem?_eq_some_iff.1 hp
    have := hm _ (numb_at l p hpl) (by rw [hp]; exact hsh)
    rw [hp] at this
    unfold firstP at this
    dsimp only at this
    apply Classical.byContradiction
    intro hlt
    exact this (by rw [if_pos (by omega)]; omega)
/-- .. by a list without two routes of one prefix. -/
theorem pick_out1 {bits v k : Int} {m : List Route} (h : IsPick bits m v k) : OutIs bits m v (outK m k) := by
  rcases h with ⟨rfl, h⟩ | ⟨x, hx, rfl, hh, hm⟩
  · refine .inl ⟨rfl, fun r hr => ?_⟩
    obtain ⟨i, hi⟩ := List.getElem?_of_mem hr
    obtain ⟨hil, hi⟩ := List.getElem?_eq_some_iff.1 hi
    have := h _ (numb_at m i hil)
    rw [hi] at this
    exact this
  · obtain ⟨j, hj, rfl⟩ := numb_mem hx
    dsimp only at hh hm ⊢
    have hjo : outK m (j : Int) = m[j].out := by unfold outK; rw [if_neg (by omega), Int.toNat_natCast, List.getElem?_eq_getElem hj]
    refine .inr ⟨m[j], List.getElem_mem hj, hh, hjo, fun s hss hsh => ?_⟩
    obtain ⟨p, hp⟩ := List.getElem?_of_mem hss
    obtain ⟨hpl, hp⟩ := List.getElem?_eq_some_iff.1 hp
    have := hm _ (numb_at m p hpl) (by rw [hp]; exact hsh)
    rw [hp] at this
    unfold firstP at this
    dsimp only at this
    apply Classical.byContradiction
    intro hlt
    exact this (by rw [if_pos (by omega)]; omega)
end Go.Proofs.Ytgelaefpbdfnfaa
