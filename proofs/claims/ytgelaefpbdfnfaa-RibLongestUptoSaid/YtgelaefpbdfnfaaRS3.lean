/- The document's sum: the greatest ones below a prefix lie beside one another. -/
import Derived.Test.YtgelaefpbdfnfaaRS2
namespace Go.Proofs.Ytgelaefpbdfnfaa
open Go Go.Vx

def covR (bits : Int) (r s : Route) : Prop := r.len ≤ s.len ∧ hasR bits r s.value
instance (bits : Int) (r s : Route) : Decidable (covR bits r s) := by unfold covR hasR; infer_instance
instance (bits : Int) (r : Route) (v : Int) : Decidable (hasR bits r v) := by unfold hasR; infer_instance
def Gr (bits : Int) (l : List Route) (k r : Route) : Prop := k.len < r.len ∧ covR bits k r ∧ ∀ s ∈ l, ¬ (k.len < s.len ∧ s.len < r.len ∧ covR bits s r)
instance (bits : Int) (l : List Route) (k r : Route) : Decidable (Gr bits l k r) := by unfold Gr; infer_instance
def sz (bits : Int) (r : Route) : Int := 2 ^ (bits - r.len).toNat
def sumG (bits : Int) (l : List Route) (k : Route) (m : List Route) : Int := m.foldr (fun r a => (if Gr bits l k r then sz bits r else 0) + a) 0
theorem sumG_snoc (bits : Int) (l : List Route) (k : Route) (m : List Route) (r : Route) : sumG bits l k (m ++ [r]) = sumG bits l k m + if Gr bits l k r then sz bits r else 0 := by
  unfold sumG
  induction m with
  | nil => simp
  | cons x m ih => simp only [List.cons_append, List.foldr_cons, ih]; omega
/-- Strictly in order, so one a prefix. -/
def preR (a b : Route) : Prop := b.len < a.len ∨ (a.len = b.len ∧ a.value < b.value)
def inB (bits : Int) (r : Route) (x : Nat) : Bool := decide (hasR bits r (x : Int))
theorem hasR_up {bits : Int} {r s : Route} {x : Int} (h1 : hasR bits r x) (h2 : hasR bits s x) (hl : r.len ≤ s.len) : hasR bits r s.value := by
  rw [hasR_q] at *
  rw [← h1]
  exact (q_up h2 (by omega)).symm
theorem hasR_trans {bits : Int} {r s : Route} {x : Int} (h1 : hasR bits r s.value) (h2 : hasR bits s x) (hl : r.len ≤ s.len) : hasR bits r x := by
  rw [hasR_q] at *
  rw [← h1]
  exact q_up h2 (by omega)
theorem same_of {bits : Int} {r s : Route} (hr : okR bits r) (hs : okR bits s) (hl : r.len = s.len) (h : hasR bits r s.value) : r.value = s.value := by
  rw [hasR_q, q_ediv, q_ediv] at h
  have h1 := hr.2.2.2.2.2.2.2.2
  have h2 := hs.2.2.2.2.2.2.2.2
  rw [hl] at h1 h
  have e1 := Int.mul_ediv_add_emod r.value (2 ^ (bits - s.len).toNat)
  have e2 := Int.mul_ediv_add_emod s.value (2 ^ (bits - s.len).toNat)
  rw [h1] at e1
  rw [h2] at e2
  rw [← e1, ← e2, h]
theorem has_self {bits : Int} (r : Route) : hasR bits r r.value := rfl
theorem count_blk {bits : Int} {r : Route} (hr : okR bits r) (hb2 : bits ≤ 32) : (((List.range (2 ^ bits.toNat)).countP (inB bits r) : Nat) : Int) = sz bits r := by
  obtain ⟨_, _, h1, h2, _, _, h3, h4, h5⟩ := hr
  have hp := p2 (bits - r.len).toNat
  obtain ⟨a, ha⟩ := Int.eq_ofNat_of_zero_le h3
  have hd := Int.mul_ediv_add_emod r.value (2 ^ (bits - r.len).toNat)
  rw [h5, Int.add_zero] at hd
  have e2 : ((2 : Int) ^ (bits - r.len).toNat) = ((2 ^ (bits - r.len).toNat : Nat) : Int) := by simp
  have e3 : ((2 : Int) ^ bits.toNat) = ((2 ^ bits.toNat : Nat) : Int) := by simp
  have hle : r.value + 2 ^ (bits - r.len).toNat ≤ 2 ^ bits.toNat := by
    have hb : (2 : Int) ^ bits.toNat = 2 ^ r.len.toNat * 2 ^ (bits - r.len).toNat := by rw [← Int.pow_add]; congr 1; omega
    generalize (2 : Int) ^ r.len.toNat = M at hb
    generalize hc : r.value / 2 ^ (bits - r.len).toNat = c at hd
    have hcM : c < M := by
      apply Classical.byContradiction
      intro hn
      have : M * 2 ^ (bits - r.len).toNat ≤ c * 2 ^ (bits - r.len).toNat := Int.mul_le_mul_of_nonneg_right (by omega) (by omega)
      rw [Int.mul_comm] at hd
      omega
    have h1 : (c + 1) * 2 ^ (bits - r.len).toNat ≤ M * 2 ^ (bits - r.len).toNat := Int.mul_le_mul_of_nonneg_right (by omega) (by omega)
    rw [Int.add_mul, Int.one_mul] at h1
    rw [Int.mul_comm] at hd
    omega
  have key : (List.range (2 ^ bits.toNat)).countP (inB bits r) = (List.range (2 ^ bits.toNat)).countP (fun x => decide (a ≤ x ∧ x < a + 2 ^ (bits - r.len).toNat)) := by
    refine List.countP_congr fun x _ => ?_
    unfold inB
    simp only [decide_eq_true_eq]
    rw [hasR_q, q_ediv, q_ediv]
    generalize hc : r.value / 2 ^ (bits - r.len).toNat = c at hd
    have hx := Int.mul_ediv_add_emod (x : Int) (2 ^ (bits - r.len).toNat)
    have hm1 := Int.emod_nonneg (x : Int) (b := 2 ^ (bits - r.len).toNat) (by omega)
    have hm2 := Int.emod_lt_of_pos (x : Int) hp
    constructor
    · intro h
      rw [h, hd] at hx
      omega
    · rintro ⟨g1, g2⟩
      have : (x : Int) = 2 ^ (bits - r.len).toNat * c + ((x : Int) - r.value) := by omega
      rw [this, Int.add_comm, Int.add_mul_ediv_left _ _ (by omega), Int.ediv_eq_zero_of_lt (by omega) (by omega)]
      omega
  rw [key, count_interval _ _ (by omega) _ (by omega)]
  unfold sz
  omega

theorem sum_count {bits : Int} {l : List Route} {k : Route} (hb2 : bits ≤ 32) (hok : ∀ r ∈ l, okR bits r) : ∀ (m : List Route), (∀ r ∈ m, r ∈ l) → m.Pairwise preR →
    sumG bits l k m = (((List.range (2 ^ bits.toNat)).countP (fun x => m.any fun r => decide (Gr bits l k r) && inB bits r x) : Nat) : Int)
  | [], _, _ => by simp [sumG]
  | r :: m, hm, hs => by
    rw [List.pairwise_cons] at hs
    have ih := sum_count (k := k) hb2 hok m (fun s h => hm s (by simp [h])) hs.2
    have hrl := hm r (by simp)
    have e : sumG bits l k (r :: m) = (if Gr bits l k r then sz bits r else 0) + sumG bits l k m := rfl
    rw [e, ih]
    by_cases hg : Gr bits l k r
    · rw [if_pos hg, ← count_blk (hok r hrl) hb2]
      have h2 := count_or (inB bits r) (fun x => m.any fun r => decide (Gr bits l k r) && inB bits r x) (List.range (2 ^ bits.toNat)) (fun x => by
        rintro ⟨h1, h2⟩
        simp only [List.any_eq_true, Bool.and_eq_true, decide_eq_true_eq, inB] at h1 h2
        obtain ⟨s, hsm, hgs, hsx⟩ := h2
        rcases hs.1 s hsm with hlt | ⟨he, hv⟩
        · exact hg.2.2 s (hm s (by simp [hsm])) ⟨hgs.1, hlt, by omega, hasR_up hsx h1 (by omega)⟩
        · have := same_of (hok r hrl) (hok s (hm s (by simp [hsm]))) he (hasR_up h1 hsx (by omega))
          omega)
      have h3 : (fun x => inB bits r x || m.any fun r => decide (Gr bits l k r) && inB bits r x) = fun x => (r :: m).any fun r => decide (Gr bits l k r) && inB bits r x := by
        funext x; simp [hg]
      rw [h3] at h2
      rw [h2]
      omega
    · rw [if_neg hg]
      have h3 : (fun x => (r :: m).any fun r => decide (Gr bits l k r) && inB bits r x) = fun x => m.any fun r => decide (Gr bits l k r) && inB bits r x := by
        funext x; simp [hg]
      rw [h3]
      omega
theorem least_len {p : Route → Prop} {l : List Route} (h : ∃ r ∈ l, p r) : ∃ r ∈ l, p r ∧ ∀ s ∈ l, p s → r.len ≤ s.len := by
  induction l with
  | nil => obtain ⟨r, hr, _⟩ := h; cases hr
  | cons a l ih =>
    by_cases hex : ∃ r ∈ l, p r
    · obtain ⟨r, hr, hp, hm⟩ := ih hex
      by_cases ha : p a ∧ a.len < r.len
      · refine ⟨a, by simp, ha.1, fun s hs hps => ?_⟩
        rcases List.mem_cons.1 hs with rfl | hs
        · omega
        · have := hm s hs hps; omega
      · refine ⟨r, by simp [hr], hp, fun s hs hps => ?_⟩
        rcases List.mem_cons.1 hs with rfl | hs
        · have : ¬ s.len < r.len := fun h => ha ⟨hps, h⟩
          omega
        · exact hm s hs hps
    · obtain ⟨r, hr, hp⟩ := h
      rcases List.mem_cons.1 hr with rfl | hr
      · refine ⟨r, by simp, hp, fun s hs hps => ?_⟩
        rcases List.mem_cons.1 hs with rfl | hs
        · omega
        · exact absurd ⟨s, hs, hps⟩ hex
      · exact absurd ⟨r, hr, hp⟩ hex
theorem sum_met {bits : Int} {l : List Route} {k : Route} (hb2 : bits ≤ 32) (hok : ∀ r ∈ l, okR bits r) (hs : l.Pairwise preR) (hk : okR bits k) : sumG bits l k l < sz bits k ↔ ¬ Hal l bits k.value k.len := by
  rw [sum_count hb2 hok l (fun _ h => h) hs, ← count_blk hk hb2]
  have h1 := count_lt (p := fun x => l.any fun r => decide (Gr bits l k r) && inB bits r x) (s := inB bits k) (l := List.range (2 ^ bits.toNat)) (fun x _ h => by
    simp only [List.any_eq_true, Bool.and_eq_true, decide_eq_true_eq, inB] at h ⊢
    obtain ⟨r, hr, hg, hx⟩ := h
    exact hasR_trans hg.2.1.2 hx hg.2.1.1)
  have e : ((((List.range (2 ^ bits.toNat)).countP fun x => l.any fun r => decide (Gr bits l k r) && inB bits r x : Nat) : Int) < (((List.range (2 ^ bits.toNat)).countP (inB bits k) : Nat) : Int)) ↔ _ := Int.ofNat_lt.trans h1
  rw [e]
  have e3 : ((2 : Int) ^ bits.toNat) = ((2 ^ bits.toNat : Nat) : Int) := by simp
  constructor
  · rintro ⟨x, hxr, hxk, hxn⟩ hH
    simp only [List.mem_range] at hxr
    simp only [inB, decide_eq_true_eq] at hxk
    obtain ⟨r0, hr0, hl0, hx0⟩ := hH x (by omega) (by omega) (hasR_q.1 hxk)
    obtain ⟨r, hr, ⟨hl, hx⟩, hmin⟩ := least_len (p := fun r => k.len < r.len ∧ hasR bits r x) (l := l) ⟨r0, hr0, by omega, hx0⟩
    have hg : Gr bits l k r := ⟨hl, ⟨by omega, hasR_up hxk hx (by omega)⟩, fun s hs ⟨g1, g2, g3⟩ => by
      have := hmin s hs ⟨g1, hasR_trans g3.2 hx g3.1⟩
      omega⟩
    have : (l.any fun r => decide (Gr bits l k r) && inB bits r x) = true := by
      simp only [List.any_eq_true, Bool.and_eq_true, decide_eq_true_eq, inB]
      exact ⟨r, hr, hg, hx⟩
    rw [this] at hxn
    cases hxn
  · intro hH
    apply Classical.byContradiction
    intro hno
    apply hH
    intro x h0 h1 hx
    obtain ⟨n, rfl⟩ := Int.eq_ofNat_of_zero_le h0
    have hxk : hasR bits k (n : Int) := hasR_q.2 hx
    have : ¬ (l.any fun r => decide (Gr bits l k r) && inB bits r n) = false := fun hf => hno ⟨n, by simp only [List.mem_range]; omega, by simp only [inB, decide_eq_true_eq]; exact hxk, hf⟩
    simp only [Bool.not_eq_false, List.any_eq_true, Bool.and_eq_true, decide_eq_true_eq, inB] at this
    obtain ⟨r, hr, hg, hrx⟩ := this
    exact ⟨r, hr, by have := hg.1; omega, hrx⟩
theorem sumG_bd {bits : Int} {l : List Route} {k : Route} (hb1 : 1 ≤ bits) (hb2 : bits ≤ 32) : ∀ (m : List Route), (∀ r ∈ m, okR bits r) → 0 ≤ sumG bits l k m ∧ sumG bits l k m ≤ m.length * 4294967296
  | [], _ => by simp [sumG]
  | r :: m, h => by
    have ih := sumG_bd (l := l) (k := k) hb1 hb2 m fun s hs => h s (by simp [hs])
    have e : sumG bits l k (r :: m) = (if Gr bits l k r then sz bits r else 0) + sumG bits l k m := rfl
    have hr := h r (by simp)
    have hp := pow_bd (bits - r.len).toNat (by have := hr.2.2.1; omega)
    rw [e]
    unfold sz
    simp only [List.length_cons]
    split <;> omega
end Go.Proofs.Ytgelaefpbdfnfaa
