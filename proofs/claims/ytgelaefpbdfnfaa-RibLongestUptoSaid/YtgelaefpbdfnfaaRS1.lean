/- Which values prefixes fill, in plain numbers. -/
import Derived.Test.YtgelaefpbdfnfaaRO2
namespace Go.Proofs.Ytgelaefpbdfnfaa
open Go Go.Vx

def q (k : Nat) (x : Int) : Int := x.fdiv (2 ^ k)
theorem p2 (k : Nat) : (0 : Int) < 2 ^ k := Int.pow_pos (by omega)
theorem q_ediv (k : Nat) (x : Int) : q k x = x / 2 ^ k := by unfold q; exact Int.fdiv_eq_ediv_of_nonneg _ (Int.le_of_lt (p2 k))
theorem q_up {i j : Nat} {a b : Int} (h : q j a = q j b) (hij : j ≤ i) : q i a = q i b := by
  have e : ∀ x : Int, q i x = q j x / 2 ^ (i - j) := fun x => by
    rw [q_ediv, q_ediv, Int.ediv_ediv_of_nonneg (Int.le_of_lt (p2 j)), ← Int.pow_add]
    congr 2
    omega
  rw [e, e, h]
theorem hasR_q {bits v : Int} {r : Route} : hasR bits r v ↔ q (bits - r.len).toNat v = q (bits - r.len).toNat r.value := Iff.rfl

def cov (l : List Route) (bits len x : Int) : Prop := ∃ r ∈ l, len ≤ r.len ∧ hasR bits r x
/-- Is every value of a prefix had by one that is at least as long? -/
def Fil (l : List Route) (bits v len : Int) : Prop := ∀ x, 0 ≤ x → x < 2 ^ bits.toNat → q (bits - len).toNat x = q (bits - len).toNat v → cov l bits len x
/-- .. by a longer one? -/
def Hal (l : List Route) (bits v len : Int) : Prop := ∀ x, 0 ≤ x → x < 2 ^ bits.toNat → q (bits - len).toNat x = q (bits - len).toNat v → cov l bits (len + 1) x

theorem fil_one {l : List Route} {bits v len : Int} {r : Route} (hr : r ∈ l) (h : r.len = len) (hq : q (bits - len).toNat r.value = q (bits - len).toNat v) : Fil l bits v len :=
  fun x _ _ hx => ⟨r, hr, by omega, by rw [hasR_q, h, hx, hq]⟩
theorem fil_none {l : List Route} {bits v len : Int} (h0 : 0 ≤ v) (h1 : v < 2 ^ bits.toNat) (h : ∀ r ∈ l, ¬ (len ≤ r.len ∧ q (bits - len).toNat r.value = q (bits - len).toNat v)) : ¬ Fil l bits v len := by
  intro hf
  obtain ⟨r, hr, hl, hh⟩ := hf v h0 h1 rfl
  exact h r hr ⟨hl, (q_up (hasR_q.1 hh) (by omega)).symm⟩
theorem fil_hal {l : List Route} {bits v len : Int} (h : ∀ r ∈ l, ¬ (r.len = len ∧ q (bits - len).toNat r.value = q (bits - len).toNat v)) : Fil l bits v len ↔ Hal l bits v len := by
  constructor
  · intro hf x h0 h1 hx
    obtain ⟨r, hr, hl, hh⟩ := hf x h0 h1 hx
    refine ⟨r, hr, ?_, hh⟩
    apply Classical.byContradiction
    intro hn
    have : r.len = len := by omega
    refine h r hr ⟨this, ?_⟩
    rw [hasR_q, this] at hh
    rw [← hh, hx]
  · intro hf x h0 h1 hx
    obtain ⟨r, hr, hl, hh⟩ := hf x h0 h1 hx
    exact ⟨r, hr, by omega, hh⟩
theorem hal_end {l : List Route} {bits v : Int} (h0 : 0 ≤ v) (h1 : v < 2 ^ bits.toNat) (hok : ∀ r ∈ l, okR bits r) : ¬ Hal l bits v bits := by
  intro hf
  obtain ⟨r, hr, hl, _⟩ := hf v h0 h1 rfl
  have := (hok r hr).2.2.2.1
  omega
theorem half_vals {k : Nat} {v : Int} (hv : v % 2 ^ (k + 1) = 0) : q k v = 2 * q (k + 1) v ∧ q k (v + 2 ^ k) = 2 * q (k + 1) v + 1 := by
  have hp := p2 k
  rw [q_ediv, q_ediv, q_ediv]
  have e : (2 : Int) ^ (k + 1) = 2 * 2 ^ k := by rw [Int.pow_succ, Int.mul_comm]
  rw [e] at hv ⊢
  have hd := Int.mul_ediv_add_emod v (2 * 2 ^ k)
  rw [hv, Int.add_zero] at hd
  generalize v / (2 * 2 ^ k) = c at hd ⊢
  have hv2 : v = (2 * c) * 2 ^ k := by rw [← hd, Int.mul_comm (2 * 2 ^ k) c, Int.mul_comm 2 c, Int.mul_assoc]
  refine ⟨by rw [hv2, Int.mul_ediv_cancel _ (by omega)], ?_⟩
  have : v + 2 ^ k = (2 * c + 1) * 2 ^ k := by rw [hv2, Int.add_mul, Int.one_mul]
  rw [this, Int.mul_ediv_cancel _ (by omega)]
theorem half_of {k : Nat} {x : Int} : q k x = 2 * q (k + 1) x ∨ q k x = 2 * q (k + 1) x + 1 := by
  have e : q (k + 1) x = q k x / 2 := by
    rw [q_ediv, q_ediv, Int.ediv_ediv_of_nonneg (Int.le_of_lt (p2 k)), ← Int.pow_succ]
  omega
theorem hal_split {l : List Route} {bits v len : Int} (h1 : len < bits) (hv : v % 2 ^ (bits - len).toNat = 0) :
    Hal l bits v len ↔ Fil l bits v (len + 1) ∧ Fil l bits (v + 2 ^ (bits - len - 1).toNat) (len + 1) := by
  obtain ⟨k, hk⟩ : ∃ k : Nat, (bits - len).toNat = k + 1 := ⟨(bits - len).toNat - 1, by omega⟩
  have hk1 : (bits - (len + 1)).toNat = k := by omega
  have hk2 : (bits - len - 1).toNat = k := by omega
  rw [hk] at hv
  obtain ⟨a1, a2⟩ := half_vals hv
  unfold Hal Fil
  rw [hk, hk1, hk2]
  constructor
  · intro h
    refine ⟨fun x h0 h1 hx => h x h0 h1 (q_up hx (by omega)), fun x h0 h1 hx => h x h0 h1 ?_⟩
    have := half_of (k := k) (x := x)
    omega
  · rintro ⟨f1, f2⟩ x h0 h1 hx
    rcases half_of (k := k) (x := x) with hh | hh
    · exact f1 x h0 h1 (by omega)
    · exact f2 x h0 h1 (by omega)
theorem or_half {v : Int} {k : Nat} (hk : k < 32) (h0 : 0 ≤ v) (h1 : v < 4294967296) (hv : v % 2 ^ (k + 1) = 0) :
    IntKind.i64.wrap ((BitVec.ofInt IntKind.i64.bits v ||| BitVec.ofInt IntKind.i64.bits (2 ^ k)).toNat : Int) = v + 2 ^ k := by
  obtain ⟨n, rfl⟩ := Int.eq_ofNat_of_zero_le h0
  have hk2 : (2 : Nat) ^ k ≤ 2 ^ 31 := Nat.pow_le_pow_right (by omega) (by omega)
  have e1 : ((2 : Int) ^ k) = ((2 ^ k : Nat) : Int) := by simp
  have hv2 : n % 2 ^ (k + 1) = 0 := by
    have e2 : ((2 : Int) ^ (k + 1)) = ((2 ^ (k + 1) : Nat) : Int) := by simp
    rw [e2] at hv
    exact_mod_cast hv
  have hd := Nat.div_add_mod n (2 ^ (k + 1))
  rw [hv2, Nat.add_zero] at hd
  have hlt : (2 : Nat) ^ k < 2 ^ (k + 1) := by rw [Nat.pow_succ]; have := Nat.two_pow_pos k; omega
  have hor : n ||| 2 ^ k = n + 2 ^ k := by
    rw [← hd]
    exact (Nat.two_pow_add_eq_or_of_lt hlt _).symm
  show IntKind.i64.wrap ((BitVec.ofInt 64 (n : Int) ||| BitVec.ofInt 64 (2 ^ k)).toNat : Int) = _
  rw [e1, BitVec.ofInt_natCast, BitVec.ofInt_natCast, BitVec.toNat_or, BitVec.toNat_ofNat, BitVec.toNat_ofNat, Nat.mod_eq_of_lt (by omega), Nat.mod_eq_of_lt (by omega), hor, IntKind.wrap_i64]
  omega

theorem shl_one {k : Nat} (hk : k < 32) : IntKind.i64.wrap (1 * 2 ^ min k IntKind.i64.bits) = 2 ^ k := by
  have hm : min k IntKind.i64.bits = k := by show min k 64 = k; omega
  have := pow_bd k (by omega)
  rw [hm, Int.one_mul, IntKind.wrap_i64]
  omega
/-! ### Counting -/
theorem count_interval (a b : Nat) (hab : a ≤ b) : ∀ N, b ≤ N → (List.range N).countP (fun x => decide (a ≤ x ∧ x < b)) = b - a := by
  have key : ∀ N, (List.range N).countP (fun x => decide (a ≤ x ∧ x < b)) = min N b - min N a := by
    intro N
    induction N with
    | zero => simp
    | succ N ih =>
      rw [List.range_succ, List.countP_append, ih, List.countP_singleton]
      split
      · rename_i h; simp at h; omega
      · rename_i h; simp at h; omega
  intro N h
  rw [key]
  omega
theorem count_or {α : Type} (p s : α → Bool) (l : List α) (h : ∀ x, ¬ (p x = true ∧ s x = true)) : l.countP (fun x => p x || s x) = l.countP p + l.countP s := by
  induction l with
  | nil => simp
  | cons x l ih =>
    rw [List.countP_cons, List.countP_cons, List.countP_cons, ih]
    have := h x
    cases hp : p x <;> cases hs : s x
    · simp
    · simp; omega
    · simp; omega
    · exact absurd ⟨hp, hs⟩ this
theorem count_lt {α : Type} {p s : α → Bool} {l : List α} (h : ∀ x ∈ l, p x = true → s x = true) : l.countP p < l.countP s ↔ ∃ x ∈ l, s x = true ∧ p x = false := by
  induction l with
  | nil => simp
  | cons x l ih =>
    have hle : l.countP p ≤ l.countP s := List.countP_mono_left fun y hy => h y (by simp [hy])
    have ih := ih fun y hy => h y (by simp [hy])
    rw [List.countP_cons, List.countP_cons]
    have hx := h x (by simp)
    constructor
    · intro hlt
      by_cases hp : s x = true ∧ p x = false
      · exact ⟨x, by simp, hp⟩
      · have : l.countP p < l.countP s := by
          cases h1 : p x <;> cases h2 : s x <;> simp_all
        obtain ⟨y, hy, hh⟩ := ih.1 this
        exact ⟨y, by simp [hy], hh⟩
    · rintro ⟨y, hy, h1, h2⟩
      rcases List.mem_cons.1 hy with rfl | hy
      · simp [h1, h2]; omega
      · have := ih.2 ⟨y, hy, h1, h2⟩
        cases h3 : p x <;> cases h4 : s x <;> simp_all <;> omega
end Go.Proofs.Ytgelaefpbdfnfaa
