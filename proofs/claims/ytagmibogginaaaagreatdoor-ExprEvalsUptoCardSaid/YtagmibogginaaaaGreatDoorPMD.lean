/- The walks and the plain laws that a law of spaces needs, part 4 of 5. -/
import Derived.Test.YtagmibogginaaaaGreatDoorPMC
set_option linter.unusedVariables false
set_option linter.unusedSimpArgs false
namespace Go.Proofs.YtagmibogginaaaaGreatDoor
open Go Go.Vx
set_option maxHeartbeats 8000000 in
theorem rcheck_at (l : List Fd) (r : List (List D)) (hl : l.length ≤ 1000) : FSpec Tryz.prog T 21 [.lst 34 (l.map frow) r] (fun d _ => d = .tup [.i .i64 (chkO l).1, .i .i64 (chkO l).2]) := by
  have h1 : (l.map frow).length = l.length := by simp
  refine FSpec.of_ok tok Tryz.func21 rfl Tryz.call21 (by simp) ?_
  (try (conv => whnf)); repeat' (first | refine Ok.seq ?_ | ((first | refine Ok.region tok ?_ | refine Ok.cond ?_); conv => whnf) | refine Ok.block ?_ | ((first | refine Ok.skip ?_ | refine Ok.ret ?_); conv => whnf) | (refine ⟨fun _ => ?_, fun _ => ?_⟩ <;> (conv => whnf) <;> (try (exfalso; omega))) | fail)
  all_goals first
    | (rename_i h
       refine Or.inl ?_; (conv => whnf)
       rw [chkO_long (by omega)]
       rfl)
    | (rename_i h
       refine Or.inl ?_; (conv => whnf)
       rw [chkO_nil (by omega)]
       rfl)
    | skip
  rename_i h2 h3
  rw [chkO_of (by omega) (by omega)]
  refine Ok.loopU [0] [4, 5] 0 0 (fun (x : Nat × Int) => [.i .i64 x.2, .i .i64 (x.1 : Nat)]) (fun _ b => b) (fun _ r => r) (fun (x : Nat × Int) => x.1 ≤ l.length ∧ 0 ≤ x.2 ∧ x.2 ≤ 256 ∧ chkFrom l l 0 0 = chkFrom l (l.drop x.1) x.1 x.2) (fun (x : Nat × Int) => l.length - x.1) ((0, 0)) (⟨Nat.zero_le _, by omega, by omega, rfl⟩) ?_; (conv => whnf); refine ⟨by ((conv => whnf); first | rfl | (simp [envCat, List.take_of_length_le, nrow, frow]; done) | (simp [envCat, List.take_of_length_le, nrow, frow]; rw [IntKind.wrap_i64]; omega)), ?_⟩
  rintro ⟨i, sum⟩ ⟨hi, hs0, hs1, hf⟩
  dsimp only at hi hs0 hs1 hf ⊢
  (conv => whnf)
  by_cases hil : i < l.length
  · obtain ⟨c, hc⟩ : ∃ c, l[i]? = some c := ⟨_, List.getElem?_eq_getElem hil⟩
    have hcI : l[((i : Nat) : Int).toNat]? = some c := hc
    rw [fdrop_at hc] at hf
    (try (conv => whnf)); repeat' (first | refine Ok.seq ?_ | ((first | refine Ok.region tok ?_ | refine Ok.cond ?_); conv => whnf) | refine Ok.block ?_ | ((first | refine Ok.skip ?_ | refine Ok.ret ?_ | refine ix _ (by assumption) ?_); conv => whnf) | (refine Or.inl ?_; (conv => whnf); (repeat (refine aI ?_; conv => whnf)); refine ⟨_, rname_at c.name, rfl, ?_⟩; conv => whnf) | (refine ⟨fun _ => ?_, fun _ => ?_⟩ <;> (conv => whnf) <;> (try (exfalso; omega))) | fail)
    all_goals first
      | (exfalso; omega)
      | (refine Or.inl ?_; (conv => whnf)
         rw [hf, chkFrom_bad (show badF (l.take i) c sum from by
           unfold badF
           first
             | exact .inl (by assumption)
             | exact .inr (.inl (by assumption))
             | exact .inr (.inr (.inl (by assumption)))
             | exact .inr (.inr (.inr (.inr (by omega)))))]
         rfl)
      | skip
    rename_i hn1 hn2 hn3 hn4 hn5
    refine Ok.loopU [0, 4, 5, 6] [8] 0 1 (fun (k : Nat) => [.i .i64 (k : Nat)]) (fun (k : Nat) (_ : List (List D)) => [frow c]) (fun _ r => r) (fun (k : Nat) => k ≤ i ∧ ∀ (j : Nat) g, j < k → l[j]? = some g → g.name ≠ c.name) (fun (k : Nat) => i - k) (0) (⟨Nat.zero_le _, fun j g hj => absurd hj (by omega)⟩) ?_; (conv => whnf); refine ⟨by ((conv => whnf); first | rfl | (simp [envCat, List.take_of_length_le, nrow, frow]; done) | (simp [envCat, List.take_of_length_le, nrow, frow]; rw [IntKind.wrap_i64]; omega)), ?_⟩
    rintro k ⟨hk, hall⟩
    (conv => whnf)
    by_cases hki : k < i
    · obtain ⟨g, hg⟩ : ∃ g, l[k]? = some g := ⟨_, List.getElem?_eq_getElem (by omega)⟩
      have hgI : l[((k : Nat) : Int).toNat]? = some g := hg
      (try (conv => whnf)); repeat' (first | refine Ok.seq ?_ | ((first | refine Ok.region tok ?_ | refine Ok.region_draw tok follows (by kernel_rfl) ?_ | refine Ok.cond ?_); conv => whnf) | refine Ok.block ?_ | ((first | refine Ok.skip ?_ | refine Ok.ret ?_ | refine nI ?_ | refine ix _ (by assumption) ?_); conv => whnf) | (refine ⟨fun _ => ?_, fun _ => ?_⟩ <;> (conv => whnf) <;> (try (exfalso; omega))) | fail)
      all_goals first
        | (exfalso; omega)
        | (rename_i h
           refine Or.inl ?_; (conv => whnf)
           rw [hf, chkFrom_bad (.inr (.inr (.inr (.inl ⟨g, List.mem_of_getElem? (i := k) (by rw [List.getElem?_take_of_lt hki]; exact hg), h⟩))))]
           rfl)
        | (rename_i h
           refine ⟨k + 1, by omega, ⟨by omega, fun j g2 hj hg2 => ?_⟩, ?_⟩
           · by_cases hjk : j = k
             · subst hjk; rw [hg] at hg2; cases hg2; exact h
             · exact hall j g2 (by omega) hg2
           · (conv => whnf)
             rfl)
    · have hke : k = i := by omega
      subst hke
      have hno : ¬ ∃ g ∈ l.take k, g.name = c.name := by
        rintro ⟨g, hg, e⟩
        obtain ⟨j, hj⟩ := List.getElem?_of_mem hg
        have hjk : j < k := by have := (List.getElem?_eq_some_iff.1 hj).1; simp at this; omega
        rw [List.getElem?_take_of_lt hjk] at hj
        exact hall j g hjk hj e
      (try (conv => whnf)); repeat' (first | refine Ok.seq ?_ | ((first | refine Ok.region tok ?_ | refine Ok.cond ?_ | refine Ok.skip ?_ | refine Ok.exit ?_ | refine Ok.ret ?_ | refine nI ?_); conv => whnf) | (refine ⟨fun _ => ?_, fun _ => ?_⟩ <;> (conv => whnf) <;> (try (exfalso; omega))) | fail)
      all_goals first
        | (exfalso; omega)
        | (refine Or.inl ?_; (conv => whnf)
           rw [hf, chkFrom_bad (.inr (.inr (.inr (.inr (by omega)))))]
           rfl)
        | skip
      refine ⟨(k + 1, sum + c.bits), by dsimp only; omega, ⟨by dsimp only; omega, by dsimp only; omega, by dsimp only; omega, ?_⟩, ?_⟩
      · rw [hf]
        refine chkFrom_ok fun hb => ?_
        rcases hb with h | h | h | h | h
        · exact absurd h (by assumption)
        · exact absurd h (by assumption)
        · exact absurd h (by assumption)
        · exact hno h
        · omega
      · (conv => whnf)
        rfl
  · have hie : i = l.length := by omega
    subst hie
    rw [List.drop_length] at hf
    (try (conv => whnf)); repeat' (first | refine Ok.seq ?_ | ((first | refine Ok.region tok ?_ | refine Ok.cond ?_ | refine Ok.exit ?_ | refine Ok.ret ?_); conv => whnf) | (refine ⟨fun _ => ?_, fun _ => ?_⟩ <;> (conv => whnf) <;> (try (exfalso; omega))) | fail)
    all_goals first
      | (exfalso; omega)
      | (refine Or.inl ?_; (conv => whnf)
         rw [hf]
         rfl)
      | trace_state
end Go.Proofs.YtagmibogginaaaaGreatDoor
namespace Go.Proofs.YtagmibogginaaaaGreatDoor
open Go Go.Vx
def bitC (v k : Nat) : UInt8 := if v / 2 ^ k % 2 = 1 then 49 else 48
def binT (v bits n : Nat) : Str := (List.range n).map fun i => bitC v (bits - 1 - i)
def xsT (n : Nat) : Str := List.replicate n 120
def pfxT (v bits n : Nat) : Str := binT v bits n ++ xsT (bits - n)
theorem binT_len (v bits n : Nat) : (binT v bits n).length = n := by simp [binT]
theorem xsT_len (n : Nat) : (xsT n).length = n := by simp [xsT]
theorem pfxT_len {v bits n : Nat} (h : n ≤ bits) : (pfxT v bits n).length = bits := by rw [pfxT, List.length_append, binT_len, xsT_len]; omega
def freeF (bits lo H : Nat) : Nat → Nat → Nat
  | 0, f => f
  | k + 1, f => if f < bits ∧ lo % 2 ^ (f + 1) = 0 ∧ lo + 2 ^ (f + 1) ≤ H then freeF bits lo H k (f + 1) else f
def coverF (bits H : Nat) : Nat → Nat → List Str
  | 0, _ => []
  | k + 1, lo => if lo < H then pfxT lo bits (bits - freeF bits lo H bits 0) :: coverF bits H k (lo + 2 ^ freeF bits lo H bits 0) else []
def halvesF (bits lo H : Nat) : Nat → Nat → List Str
  | 0, base => if lo ≤ base ∧ base + 1 ≤ H then [pfxT base bits bits] else []
  | d + 1, base => if lo ≤ base ∧ base + 2 ^ (d + 1) ≤ H then [pfxT base bits (bits - (d + 1))] else if H ≤ base ∨ base + 2 ^ (d + 1) ≤ lo then [] else halvesF bits lo H d base ++ halvesF bits lo H d (base + 2 ^ d)
theorem freeF_eq {bits lo H d : Nat} (hd : d ≤ bits) (h1 : ∀ g, g < d → lo % 2 ^ (g + 1) = 0 ∧ lo + 2 ^ (g + 1) ≤ H) (h2 : ¬ (d < bits ∧ lo % 2 ^ (d + 1) = 0 ∧ lo + 2 ^ (d + 1) ≤ H)) :
    ∀ (k f : Nat), f ≤ d → d - f ≤ k → freeF bits lo H k f = d
  | 0, f, hf, hk => by unfold freeF; omega
  | k + 1, f, hf, hk => by
    unfold freeF
    by_cases hfd : f = d
    · subst hfd; rw [if_neg h2]
    · rw [if_pos ⟨by omega, h1 f (by omega)⟩]
      exact freeF_eq hd h1 h2 k (f + 1) (by omega) (by omega)
theorem coverF_fuel (bits H : Nat) : ∀ (k lo : Nat), H - lo ≤ k → coverF bits H k lo = coverF bits H (H - lo) lo
  | 0, lo, h => by rw [show H - lo = 0 by omega]
  | k + 1, lo, h => by
    by_cases hlt : lo < H
    · obtain ⟨m, hm⟩ : ∃ m, H - lo = m + 1 := ⟨H - lo - 1, by omega⟩
      rw [hm]
      unfold coverF
      rw [if_pos hlt, if_pos hlt]
      have hp : 0 < 2 ^ freeF bits lo H bits 0 := Nat.two_pow_pos _
      rw [coverF_fuel bits H k _ (by omega), ← coverF_fuel bits H m _ (by omega)]
    · rw [show H - lo = 0 by omega]
      unfold coverF
      rw [if_neg hlt]
def coverC (bits H lo : Nat) : List Str := coverF bits H (H - lo) lo
theorem coverC_step {bits H lo : Nat} (h : lo < H) : coverC bits H lo = pfxT lo bits (bits - freeF bits lo H bits 0) :: coverC bits H (lo + 2 ^ freeF bits lo H bits 0) := by
  unfold coverC
  obtain ⟨m, hm⟩ : ∃ m, H - lo = m + 1 := ⟨H - lo - 1, by omega⟩
  rw [hm]
  conv => lhs; unfold coverF
  rw [if_pos h]
  have hp : 0 < 2 ^ freeF bits lo H bits 0 := Nat.two_pow_pos _
  rw [coverF_fuel bits H m _ (by omega)]
theorem coverC_end {bits H lo : Nat} (h : H ≤ lo) : coverC bits H lo = [] := by
  unfold coverC
  rw [show H - lo = 0 by omega]
  rfl
theorem mod_pow_le {x g d : Nat} (h : x % 2 ^ d = 0) (hg : g ≤ d) : x % 2 ^ g = 0 :=
  Nat.mod_eq_zero_of_dvd (Nat.dvd_trans (Nat.pow_dvd_pow 2 hg) (Nat.dvd_of_mod_eq_zero h))
theorem cover_halves {bits lo H : Nat} (hH : H ≤ 2 ^ bits) : ∀ (d base : Nat), d ≤ bits → base % 2 ^ d = 0 →
    (d = bits ∨ ∃ par, (par = base ∨ par + 2 ^ d = base) ∧ par % 2 ^ (d + 1) = 0 ∧ ¬ (lo ≤ par ∧ par + 2 ^ (d + 1) ≤ H)) →
    coverC bits H (max lo base) = halvesF bits lo H d base ++ coverC bits H (max lo (base + 2 ^ d)) := by
  have cov : ∀ (d base : Nat), d ≤ bits → base % 2 ^ d = 0 → (d = bits ∨ ∃ par, (par = base ∨ par + 2 ^ d = base) ∧ par % 2 ^ (d + 1) = 0 ∧ ¬ (lo ≤ par ∧ par + 2 ^ (d + 1) ≤ H)) →
      lo ≤ base → base + 2 ^ d ≤ H → coverC bits H (max lo base) = pfxT base bits (bits - d) :: coverC bits H (max lo (base + 2 ^ d)) := by
    intro d base hd hb hp h1 h2
    have hpos : 0 < 2 ^ d := Nat.two_pow_pos _
    have hfree : freeF bits base H bits 0 = d := by
      refine freeF_eq hd (fun g hg => ⟨mod_pow_le hb (by omega), ?_⟩) ?_ bits 0 (by omega) (by omega)
      · have := Nat.pow_le_pow_right (show 0 < 2 by decide) (show g + 1 ≤ d by omega)
        omega
      · rintro ⟨k1, k2, k3⟩
        rcases hp with rfl | ⟨par, rfl | hpar, hm, hn⟩
        · omega
        · exact hn ⟨h1, k3⟩
        · have e1 : 2 ^ (d + 1) = 2 ^ d + 2 ^ d := by rw [Nat.pow_succ]; omega
          obtain ⟨q, hq⟩ := Nat.dvd_of_mod_eq_zero hm
          rw [← hpar, hq, Nat.mul_add_mod, Nat.mod_eq_of_lt (by omega)] at k2
          omega
    rw [Nat.max_eq_right h1, Nat.max_eq_right (by omega), coverC_step (by omega), hfree]
  intro d
  induction d with
  | zero =>
    intro base hd hb hp
    unfold halvesF
    split
    · rename_i h
      rw [cov 0 base hd hb hp h.1 (by simpa using h.2)]
      simp
    · rename_i h
      by_cases h1 : H ≤ base
      · rw [coverC_end (show H ≤ max lo base by omega), coverC_end (show H ≤ max lo (base + 2 ^ 0) by omega)]
        rfl
      · have : max lo base = max lo (base + 2 ^ 0) := by simp; omega
        rw [this]
        rfl
  | succ d ih =>
    intro base hd hb hp
    have e1 : 2 ^ (d + 1) = 2 ^ d + 2 ^ d := by rw [Nat.pow_succ]; omega
    unfold halvesF
    split
    · rename_i h
      rw [cov (d + 1) base hd hb hp h.1 h.2]
      rfl
    · rename_i h
      split
      · rename_i h1
        rcases h1 with h1 | h1
        · rw [coverC_end (show H ≤ max lo base by omega), coverC_end (show H ≤ max lo (base + 2 ^ (d + 1)) by omega)]
          rfl
        · rw [show max lo base = max lo (base + 2 ^ (d + 1)) by omega]
          rfl
      · rename_i h1
        rw [ih base (by omega) (mod_pow_le hb (by omega)) (.inr ⟨base, .inl rfl, hb, h⟩)]
        have hb2 : (base + 2 ^ d) % 2 ^ d = 0 := by rw [Nat.add_mod_right]; exact mod_pow_le hb (by omega)
        rw [ih (base + 2 ^ d) (by omega) hb2 (.inr ⟨base, .inr rfl, hb, h⟩), ← List.append_assoc]
        rw [show base + 2 ^ d + 2 ^ d = base + 2 ^ (d + 1) by omega]
theorem cover_is_halves {bits lo H : Nat} (hH : H ≤ 2 ^ bits) : coverC bits H lo = halvesF bits lo H bits 0 := by
  have := cover_halves (lo := lo) hH bits 0 (Nat.le_refl _) (by simp) (.inl rfl)
  rw [coverC_end (show H ≤ max lo (0 + 2 ^ bits) by omega), List.append_nil, Nat.max_eq_left (Nat.zero_le _)] at this
  exact this
theorem halves_none {bits lo H : Nat} : ∀ (d base : Nat), H ≤ base ∨ base + 2 ^ d ≤ lo → halvesF bits lo H d base = []
  | 0, base, h => by unfold halvesF; rw [if_neg (by simp at h; omega)]
  | d + 1, base, h => by
    unfold halvesF
    have hp : 0 < 2 ^ (d + 1) := Nat.two_pow_pos _
    rw [if_neg (by omega), if_pos h]
theorem halves_full {bits lo H : Nat} : ∀ (d base : Nat), lo ≤ base → base + 2 ^ d ≤ H → (halvesF bits lo H d base).length = 1
  | 0, base, h1, h2 => by unfold halvesF; rw [if_pos ⟨h1, by simpa using h2⟩]; rfl
  | d + 1, base, h1, h2 => by unfold halvesF; rw [if_pos ⟨h1, h2⟩]; rfl
theorem halves_side {bits lo H : Nat} : ∀ (d base : Nat), lo ≤ base ∨ base + 2 ^ d ≤ H → (halvesF bits lo H d base).length ≤ d + 1
  | 0, base, h => by unfold halvesF; split <;> simp
  | d + 1, base, h => by
    have e1 : 2 ^ (d + 1) = 2 ^ d + 2 ^ d := by rw [Nat.pow_succ]; omega
    unfold halvesF
    split
    · simp
    · rename_i hc
      split
      · simp
      · rename_i hn
        rw [List.length_append]
        rcases h with h | h
        · by_cases hb : base + 2 ^ d ≤ H
          · have := halves_full (bits := bits) d base h hb
            have := halves_side (bits := bits) (lo := lo) (H := H) d (base + 2 ^ d) (.inl (by omega))
            omega
          · rw [halves_none d (base + 2 ^ d) (.inl (by omega))]
            have := halves_side (bits := bits) (lo := lo) (H := H) d base (.inl h)
            simp; omega
        · by_cases hb : lo ≤ base + 2 ^ d
          · have := halves_full (bits := bits) (H := H) d (base + 2 ^ d) hb (by omega)
            have := halves_side (bits := bits) (lo := lo) (H := H) d base (.inr (by omega))
            omega
          · rw [halves_none d base (.inr (by omega))]
            have := halves_side (bits := bits) (lo := lo) (H := H) d (base + 2 ^ d) (.inr (by omega))
            simp; omega
theorem halves_len {bits lo H : Nat} : ∀ (d base : Nat), (halvesF bits lo H d base).length ≤ 2 * d + 2
  | 0, base => by unfold halvesF; split <;> simp
  | d + 1, base => by
    have e1 : 2 ^ (d + 1) = 2 ^ d + 2 ^ d := by rw [Nat.pow_succ]; omega
    unfold halvesF
    split
    · simp
    · rename_i hc
      split
      · simp
      · rename_i hn
        rw [List.length_append]
        by_cases h1 : base + 2 ^ d ≤ H
        · by_cases h2 : lo ≤ base + 2 ^ d
          · have := halves_side (bits := bits) (lo := lo) (H := H) d base (.inr h1)
            have := halves_side (bits := bits) (lo := lo) (H := H) d (base + 2 ^ d) (.inl h2)
            omega
          · rw [halves_none d base (.inr (by omega))]
            have := halves_len (bits := bits) (lo := lo) (H := H) d (base + 2 ^ d)
            simp; omega
        · rw [halves_none d (base + 2 ^ d) (.inl (by omega))]
          have := halves_len (bits := bits) (lo := lo) (H := H) d base
          simp; omega
theorem coverC_len {bits lo H : Nat} (hH : H ≤ 2 ^ bits) : (coverC bits H lo).length ≤ 2 * bits + 2 := by
  rw [cover_is_halves hH]; exact halves_len _ _
end Go.Proofs.YtagmibogginaaaaGreatDoor
namespace Go.Proofs.YtagmibogginaaaaGreatDoor
open Go Go.Vx
def tw (b : Nat) : Nat := 2 ^ b
theorem tw_pos (b : Nat) : 0 < tw b := Nat.two_pow_pos b
theorem tw62 {k : Nat} (h : k ≤ 62) : tw k ≤ 4611686018427387904 := Nat.pow_le_pow_right (show 0 < 2 by decide) h
theorem tw_mono {j k : Nat} (h : j ≤ k) : tw j ≤ tw k := Nat.pow_le_pow_right (show 0 < 2 by decide) h
theorem tw_succ (k : Nat) : tw (k + 1) = tw k + tw k := by unfold tw; rw [Nat.pow_succ]; omega
theorem wrap_nat {x : Nat} (h : x < 9223372036854775808) : IntKind.i64.wrap (x : Int) = (x : Int) := by rw [IntKind.wrap_i64]; omega
theorem shl_i {p : Int → Prop} {b : Int} {k : Nat} (hb : b = (k : Int) ∧ k ≤ 62) (h : p (tw k : Int)) : ∃ n, n = IntKind.i64.wrap (1 * 2 ^ (min b.toNat IntKind.i64.bits)) ∧ p n := by
  obtain ⟨rfl, hk⟩ := hb
  refine ⟨_, ?_, h⟩
  have e1 : min ((k : Int).toNat) IntKind.i64.bits = k := by show min k 64 = k; omega
  have e2 : (1 * 2 ^ k : Int) = (tw k : Int) := by unfold tw; simp
  rw [e1, e2, wrap_nat (by have := tw62 hk; omega)]
theorem shr_i {p : Int → Prop} {a b : Int} {v k : Nat} (ha : a = (v : Int)) (hb : b = (k : Int) ∧ k ≤ 62) (h : p ((v / tw k : Nat) : Int)) : ∃ n, n = a.fdiv (2 ^ (min b.toNat IntKind.i64.bits)) ∧ p n := by
  obtain ⟨rfl, hk⟩ := hb
  subst ha
  refine ⟨_, ?_, h⟩
  have e1 : min ((k : Int).toNat) IntKind.i64.bits = k := by show min k 64 = k; omega
  rw [e1, Int.fdiv_eq_ediv_of_nonneg _ (by exact Int.pow_nonneg (by decide))]
  unfold tw
  simp
theorem and_i {p : Int → Prop} {a c : Int} {v k : Nat} (ha : a = (v : Int) ∧ v < 9223372036854775808) (hc : c = (tw k : Int) - 1 ∧ k ≤ 62) (h : p ((v % tw k : Nat) : Int)) : ∃ n, n = IntKind.i64.wrap ((BitVec.ofInt IntKind.i64.bits a &&& BitVec.ofInt IntKind.i64.bits c).toNat : Int) ∧ p n := by
  obtain ⟨rfl, hv⟩ := ha
  obtain ⟨rfl, hk⟩ := hc
  refine ⟨_, ?_, h⟩
  have h2 := tw62 hk
  have hp := tw_pos k
  have e1 : BitVec.ofInt IntKind.i64.bits (v : Int) = BitVec.ofNat 64 v := BitVec.ofInt_natCast ..
  have e2 : BitVec.ofInt IntKind.i64.bits ((tw k : Int) - 1) = BitVec.ofNat 64 (tw k - 1) := by
    rw [show (tw k : Int) - 1 = ((tw k - 1 : Nat) : Int) by omega]
    exact BitVec.ofInt_natCast ..
  have e3 : (BitVec.ofNat 64 v &&& BitVec.ofNat 64 (tw k - 1)).toNat = v % tw k := by
    rw [BitVec.toNat_and, BitVec.toNat_ofNat, BitVec.toNat_ofNat, Nat.mod_eq_of_lt (show v < 2 ^ 64 by omega), Nat.mod_eq_of_lt (show tw k - 1 < 2 ^ 64 by omega)]
    exact Nat.and_two_pow_sub_one_eq_mod v k
  rw [e1, e2]
  have key : ∀ x : Nat, x = v % tw k → ((v % tw k : Nat) : Int) = IntKind.i64.wrap (x : Int) := by
    rintro x rfl
    rw [wrap_nat (by have := Nat.mod_lt v hp; omega)]
  exact key _ e3
theorem and_1 {p : Int → Prop} {a : Int} {v : Nat} (ha : a = (v : Int) ∧ v < 9223372036854775808) (h : p ((v % 2 : Nat) : Int)) : ∃ n, n = IntKind.i64.wrap ((BitVec.ofInt IntKind.i64.bits a &&& BitVec.ofInt IntKind.i64.bits 1).toNat : Int) ∧ p n :=
  and_i (k := 1) ha ⟨rfl, by decide⟩ h
theorem and_1' {p : Int → Prop} {a c : Int} {v : Nat} (ha : a = (v : Int) ∧ v < 9223372036854775808) (hc : c = 1) (h : p ((v % 2 : Nat) : Int)) : ∃ n, n = IntKind.i64.wrap ((BitVec.ofInt IntKind.i64.bits a &&& BitVec.ofInt IntKind.i64.bits c).toNat : Int) ∧ p n := by
  subst hc; exact and_1 ha h
theorem num_u8 {x : Int} {p : Int → Prop} (h1 : 0 ≤ x) (h2 : x ≤ 255) (h : p x) : ∃ n, n = IntKind.u8.wrap x ∧ p n := ⟨x, by rw [IntKind.wrap_u8]; omega, h⟩
theorem bitC_nat (v k : Nat) : ((bitC v k).toNat : Int) = 48 + ((v / 2 ^ k % 2 : Nat) : Int) := by
  unfold bitC
  split
  · rename_i h; rw [h]; rfl
  · rename_i h
    have : v / 2 ^ k % 2 = 0 := by omega
    rw [this]; rfl
set_option maxHeartbeats 4000000 in
theorem top_at (b : Nat) (hb : b ≤ 62) : FSpec Tryz.prog T 92 [.i .i64 (b : Nat)] (fun d _ => d = .i .i64 ((tw b : Int) - 1)) := by
  have h2 := tw62 hb
  have hk : ((b : Nat) : Int) = (b : Int) ∧ b ≤ 62 := ⟨rfl, hb⟩
  refine FSpec.of_ok tok Tryz.func92 rfl Tryz.call92 (by simp) ?_
  (try (conv => whnf)); repeat' (first | ((with_reducible_and_instances refine shl_i (by assumption) ?_); (conv => whnf)) | refine Ok.seq ?_ | ((first | refine Ok.region tok ?_ | refine Ok.ret ?_ | refine nI ?_ | refine aJ ?_); conv => whnf) | fail)
  refine Or.inl ?_; (conv => whnf)
  rfl
set_option maxHeartbeats 4000000 in
theorem rtop_at (b : Nat) (hb : b ≤ 62) : FSpec Tryz.prog T 75 [.i .i64 (b : Nat)] (fun d _ => d = .i .i64 ((tw b : Int) - 1)) := by
  have h2 := tw62 hb
  have hk : ((b : Nat) : Int) = (b : Int) ∧ b ≤ 62 := ⟨rfl, hb⟩
  refine FSpec.of_ok tok Tryz.func75 rfl Tryz.call75 (by simp) ?_
  (try (conv => whnf)); repeat' (first | ((with_reducible_and_instances refine shl_i (by assumption) ?_); (conv => whnf)) | refine Ok.seq ?_ | ((first | refine Ok.region tok ?_ | refine Ok.ret ?_ | refine nI ?_ | refine aJ ?_); conv => whnf) | fail)
  refine Or.inl ?_; (conv => whnf)
  rfl
end Go.Proofs.YtagmibogginaaaaGreatDoor
namespace Go.Proofs.YtagmibogginaaaaGreatDoor
open Go Go.Vx
def LayF (l : List Fd) : Prop := ∀ f ∈ l, 1 ≤ f.bits ∧ f.bits ≤ 32
def wid (l : List Fd) : Nat := (l.map fun f => f.bits.toNat).sum
theorem wid_snoc {l : List Fd} {i : Nat} {c : Fd} (h : l[i]? = some c) : wid (l.take (i + 1)) = wid (l.take i) + c.bits.toNat := by
  unfold wid; rw [take_snoc h, List.map_append, List.sum_append]; simp
theorem wid_le {l : List Fd} (h : LayF l) : wid l ≤ 32 * l.length := by
  induction l with
  | nil => simp [wid]
  | cons f l ih =>
    have h1 := ih fun x hx => h x (by simp [hx])
    have h2 := h f (by simp)
    simp only [wid, List.map_cons, List.sum_cons, List.length_cons] at h1 ⊢
    omega
set_option maxHeartbeats 4000000 in
theorem width_at (l : List Fd) (r : List (List D)) (hl : l.length ≤ 1000) (hf : LayF l) : FSpec Tryz.prog T 49 [.lst 34 (l.map frow) r] (fun d _ => d = .i .i64 (wid l : Nat)) := by
  have h1 : (l.map frow).length = l.length := by simp
  have hw := wid_le hf
  refine FSpec.of_ok tok Tryz.func49 rfl Tryz.call49 (by simp) ?_
  (try (conv => whnf)); repeat' (first | refine Ok.seq ?_ | (refine Ok.region tok ?_; conv => whnf) | refine Ok.block ?_ | fail)
  refine Ok.loopU [6, 7] [3, 8] 0 0 (fun (i : Nat) => [.i .i64 (wid (l.take i) : Nat), .i .i64 (i : Nat)]) (fun _ b => b) (fun _ r => r) (fun (i : Nat) => i ≤ l.length) (fun (i : Nat) => l.length - i) (0) (Nat.zero_le _) ?_; (conv => whnf); refine ⟨by ((conv => whnf); first | rfl | (simp [envCat, List.take_of_length_le, nrow, frow, bcell]; done) | (simp [envCat, List.take_of_length_le, nrow, frow, bcell]; rw [IntKind.wrap_i64]; omega)), ?_⟩
  intro i hi
  (conv => whnf)
  by_cases hil : i < l.length
  · obtain ⟨c, hc⟩ : ∃ c, l[i]? = some c := ⟨_, List.getElem?_eq_getElem hil⟩
    have hcI : l[((i : Nat) : Int).toNat]? = some c := hc
    have hcb := hf c (List.mem_of_getElem? hc)
    have hsn := wid_snoc hc
    have hwt := wid_le (l := l.take i) fun x hx => hf x (List.mem_of_mem_take hx)
    have hti : (l.take i).length = i := by simp; omega
    (try (conv => whnf)); repeat' (first | refine Ok.seq ?_ | ((first | refine Ok.region tok ?_ | refine Ok.cond ?_); conv => whnf) | refine Ok.block ?_ | ((first | refine Ok.skip ?_ | refine nI ?_ | refine ix _ (by assumption) ?_); conv => whnf) | (refine ⟨fun _ => ?_, fun _ => ?_⟩ <;> (conv => whnf) <;> (try (exfalso; omega))) | fail)
    all_goals first
      | (exfalso; omega)
      | skip
    refine ⟨i + 1, by omega, by omega, ?_⟩
    rw [hsn, show ((wid (l.take i) + c.bits.toNat : Nat) : Int) = (wid (l.take i) : Int) + c.bits by omega]
    (conv => whnf)
    rfl
  · have hie : i = l.length := by omega
    subst hie
    rw [List.take_length]
    (try (conv => whnf)); repeat' (first | refine Ok.seq ?_ | ((first | refine Ok.region tok ?_ | refine Ok.cond ?_ | refine Ok.exit ?_ | refine Ok.ret ?_); conv => whnf) | (refine ⟨fun _ => ?_, fun _ => ?_⟩ <;> (conv => whnf) <;> (try (exfalso; omega))) | fail)
    all_goals first
      | (exfalso; omega)
      | (refine Or.inl ?_; (conv => whnf)
         rfl)
set_option maxHeartbeats 4000000 in
theorem rwidth_at (l : List Fd) (r : List (List D)) (hl : l.length ≤ 1000) (hf : LayF l) : FSpec Tryz.prog T 46 [.lst 34 (l.map frow) r] (fun d _ => d = .i .i64 (wid l : Nat)) := by
  have h1 : (l.map frow).length = l.length := by simp
  have hw := wid_le hf
  refine FSpec.of_ok tok Tryz.func46 rfl Tryz.call46 (by simp) ?_
  (try (conv => whnf)); repeat' (first | refine Ok.seq ?_ | (refine Ok.region tok ?_; conv => whnf) | refine Ok.block ?_ | fail)
  refine Ok.loopU [0] [3, 4] 0 0 (fun (i : Nat) => [.i .i64 (wid (l.take i) : Nat), .i .i64 (i : Nat)]) (fun _ b => b) (fun _ r => r) (fun (i : Nat) => i ≤ l.length) (fun (i : Nat) => l.length - i) (0) (Nat.zero_le _) ?_; (conv => whnf); refine ⟨by ((conv => whnf); first | rfl | (simp [envCat, List.take_of_length_le, nrow, frow, bcell]; done) | (simp [envCat, List.take_of_length_le, nrow, frow, bcell]; rw [IntKind.wrap_i64]; omega)), ?_⟩
  intro i hi
  (conv => whnf)
  by_cases hil : i < l.length
  · obtain ⟨c, hc⟩ : ∃ c, l[i]? = some c := ⟨_, List.getElem?_eq_getElem hil⟩
    have hcI : l[((i : Nat) : Int).toNat]? = some c := hc
    have hcb := hf c (List.mem_of_getElem? hc)
    have hsn := wid_snoc hc
    have hwt := wid_le (l := l.take i) fun x hx => hf x (List.mem_of_mem_take hx)
    have hti : (l.take i).length = i := by simp; omega
    (try (conv => whnf)); repeat' (first | refine Ok.seq ?_ | ((first | refine Ok.region tok ?_ | refine Ok.cond ?_); conv => whnf) | refine Ok.block ?_ | ((first | refine Ok.skip ?_ | refine nI ?_ | refine ix _ (by assumption) ?_); conv => whnf) | (refine ⟨fun _ => ?_, fun _ => ?_⟩ <;> (conv => whnf) <;> (try (exfalso; omega))) | fail)
    all_goals first
      | (exfalso; omega)
      | skip
    refine ⟨i + 1, by omega, by omega, ?_⟩
    rw [hsn, show ((wid (l.take i) + c.bits.toNat : Nat) : Int) = (wid (l.take i) : Int) + c.bits by omega]
    (conv => whnf)
    rfl
  · have hie : i = l.length := by omega
    subst hie
    rw [List.take_length]
    (try (conv => whnf)); repeat' (first | refine Ok.seq ?_ | ((first | refine Ok.region tok ?_ | refine Ok.cond ?_ | refine Ok.exit ?_ | refine Ok.ret ?_); conv => whnf) | (refine ⟨fun _ => ?_, fun _ => ?_⟩ <;> (conv => whnf) <;> (try (exfalso; omega))) | fail)
    all_goals first
      | (exfalso; omega)
      | (refine Or.inl ?_; (conv => whnf)
         rfl)
set_option maxHeartbeats 4000000 in
theorem ewidth_at (l : List Fd) (r : List (List D)) (hl : l.length ≤ 1000) (hf : LayF l) : FSpec Tryz.prog T 27 [.lst 34 (l.map frow) r] (fun d _ => d = .i .i64 (wid l : Nat)) := by
  have h1 : (l.map frow).length = l.length := by simp
  have hw := wid_le hf
  refine FSpec.of_ok tok Tryz.func27 rfl Tryz.call27 (by simp) ?_
  (try (conv => whnf)); repeat' (first | refine Ok.seq ?_ | (refine Ok.region tok ?_; conv => whnf) | refine Ok.block ?_ | fail)
  refine Ok.loopU [0] [3, 4] 0 0 (fun (i : Nat) => [.i .i64 (wid (l.take i) : Nat), .i .i64 (i : Nat)]) (fun _ b => b) (fun _ r => r) (fun (i : Nat) => i ≤ l.length) (fun (i : Nat) => l.length - i) (0) (Nat.zero_le _) ?_; (conv => whnf); refine ⟨by ((conv => whnf); first | rfl | (simp [envCat, List.take_of_length_le, nrow, frow, bcell]; done) | (simp [envCat, List.take_of_length_le, nrow, frow, bcell]; rw [IntKind.wrap_i64]; omega)), ?_⟩
  intro i hi
  (conv => whnf)
  by_cases hil : i < l.length
  · obtain ⟨c, hc⟩ : ∃ c, l[i]? = some c := ⟨_, List.getElem?_eq_getElem hil⟩
    have hcI : l[((i : Nat) : Int).toNat]? = some c := hc
    have hcb := hf c (List.mem_of_getElem? hc)
    have hsn := wid_snoc hc
    have hwt := wid_le (l := l.take i) fun x hx => hf x (List.mem_of_mem_take hx)
    have hti : (l.take i).length = i := by simp; omega
    (try (conv => whnf)); repeat' (first | refine Ok.seq ?_ | ((first | refine Ok.region tok ?_ | refine Ok.cond ?_); conv => whnf) | refine Ok.block ?_ | ((first | refine Ok.skip ?_ | refine nI ?_ | refine ix _ (by assumption) ?_); conv => whnf) | (refine ⟨fun _ => ?_, fun _ => ?_⟩ <;> (conv => whnf) <;> (try (exfalso; omega))) | fail)
    all_goals first
      | (exfalso; omega)
      | skip
    refine ⟨i + 1, by omega, by omega, ?_⟩
    rw [hsn, show ((wid (l.take i) + c.bits.toNat : Nat) : Int) = (wid (l.take i) : Int) + c.bits by omega]
    (conv => whnf)
    rfl
  · have hie : i = l.length := by omega
    subst hie
    rw [List.take_length]
    (try (conv => whnf)); repeat' (first | refine Ok.seq ?_ | ((first | refine Ok.region tok ?_ | refine Ok.cond ?_ | refine Ok.exit ?_ | refine Ok.ret ?_); conv => whnf) | (refine ⟨fun _ => ?_, fun _ => ?_⟩ <;> (conv => whnf) <;> (try (exfalso; omega))) | fail)
    all_goals first
      | (exfalso; omega)
      | (refine Or.inl ?_; (conv => whnf)
         rfl)
theorem xsT_succ (i : Nat) : (xsT (i + 1)).map bcell = (xsT i).map bcell ++ [[.i .u8 120]] := by
  unfold xsT
  rw [List.replicate_succ', List.map_append]
  rfl
set_option maxHeartbeats 4000000 in
theorem xs_at (n : Nat) (hn : n ≤ 100000) : FSpec Tryz.prog T 48 [.i .i64 (n : Nat)] (fun d _ => d = .s (xsT n)) := by
  refine FSpec.of_ok tok Tryz.func48 rfl Tryz.call48 (by simp) ?_
  (try (conv => whnf)); repeat' (first | refine Ok.seq ?_ | (refine Ok.region tok ?_; conv => whnf) | refine Ok.block ?_ | fail)
  refine Ok.ghost 3 5 rfl ?_
  (conv => whnf)
  refine Ok.loopU [0] [3, 4] 1 0 (fun (i : Nat) => [.own 0 i, .i .i64 (i : Nat)]) (fun _ b => b) (fun (i : Nat) (_ : Vx.Rows) => [some (5, (xsT i).map bcell)]) (fun (i : Nat) => i ≤ n) (fun (i : Nat) => n - i) (0) (Nat.zero_le _) ?_; (conv => whnf); refine ⟨by ((conv => whnf); first | rfl | (simp [envCat, List.take_of_length_le, nrow, frow, bcell]; done) | (simp [envCat, List.take_of_length_le, nrow, frow, bcell]; rw [IntKind.wrap_i64]; omega)), ?_⟩
  intro i hi
  have hlm : ((xsT i).map bcell).length = i := by rw [List.length_map, xsT_len]
  have hll := xsT_len i
  (conv => whnf)
  by_cases hil : i < n
  · have hsn := xsT_succ i
    (try (conv => whnf)); repeat' (first | refine Ok.seq ?_ | ((first | refine Ok.region tok ?_ | refine Ok.cond ?_); conv => whnf) | refine Ok.block ?_ | ((first | refine Ok.skip ?_ | refine nI ?_ | refine Alt2.l (aI ?_) | refine ⟨_, .inl ⟨rfl, rfl⟩, ?_⟩ | refine ⟨_, _, rfl, rfl, ?_⟩); conv => whnf) | (refine ⟨fun _ => ?_, fun _ => ?_⟩ <;> (conv => whnf) <;> (try (exfalso; omega))) | (refine aJ ?_; conv => whnf) | fail)
    all_goals first
      | (exfalso; omega)
      | skip
    refine ⟨i + 1, by omega, by omega, ?_⟩
    rw [hsn]
    (conv => whnf)
    simp [envCat, xsT_len]
  · have hie : i = n := by omega
    subst hie
    (try (conv => whnf)); repeat' (first | (refine ⟨xsT i, List.take_of_length_le (by omega), ?_⟩; (conv => whnf)) | refine Ok.seq ?_ | ((first | refine Ok.region tok ?_ | refine Ok.cond ?_ | refine Ok.exit ?_ | refine Ok.ret ?_); conv => whnf) | (refine ⟨fun _ => ?_, fun _ => ?_⟩ <;> (conv => whnf) <;> (try (exfalso; omega))) | (refine aJ ?_; conv => whnf) | fail)
    all_goals first
      | (exfalso; omega)
      | (refine Or.inl ?_; (conv => whnf)
         rfl)
theorem binT_succ (v bits i : Nat) : (binT v bits (i + 1)).map bcell = (binT v bits i).map bcell ++ [bcell (bitC v (bits - 1 - i))] := by
  unfold binT
  rw [List.range_succ, List.map_append, List.map_append]
  rfl
def fillT (v bits n i : Nat) : Str := binT v bits i ++ List.replicate (n - i) 0
theorem fillT_len {v bits n i : Nat} (h : i ≤ n) : (fillT v bits n i).length = n := by simp [fillT, binT_len]; omega
theorem fillT_set {v bits n i : Nat} (h : i < n) : ((fillT v bits n i).map bcell).set i (bcell (bitC v (bits - 1 - i))) = (fillT v bits n (i + 1)).map bcell := by
  unfold fillT
  obtain ⟨m, hm⟩ : ∃ m, n - i = m + 1 := ⟨n - i - 1, by omega⟩
  rw [hm, show n - (i + 1) = m by omega, List.replicate_succ, List.map_append, List.map_append, binT_succ, List.set_append_right _ _ (by simp [binT_len])]
  simp [binT_len]
theorem getElem_bcell {l : Str} {i : Nat} {b : UInt8} (h : l[i]? = some b) : (l.map bcell)[i]? = some (bcell b) := by simp [h]
theorem bits_pos {v k : Nat} (hv : v < 9223372036854775808) : v / tw k < 9223372036854775808 := Nat.lt_of_le_of_lt (Nat.div_le_self _ _) hv
theorem mod2 (v k : Nat) : v / tw k % 2 ≤ 1 := by omega
set_option maxHeartbeats 4000000 in
theorem binary_at (v bits n : Nat) (hv : v < 9223372036854775808) (hb : bits ≤ 62) (hn : n ≤ bits) : FSpec Tryz.prog T 127 [.i .i64 (v : Nat), .i .i64 (bits : Nat), .i .i64 (n : Nat)] (fun d _ => d = .s (binT v bits n)) := by
  refine FSpec.of_ok tok Tryz.func127 rfl Tryz.call127 (by simp) ?_
  (try (conv => whnf)); repeat' (first | refine Ok.seq ?_ | (refine Ok.region tok ?_; conv => whnf) | refine Ok.block ?_ | ((first | refine ⟨_, _, rfl, rfl, ?_⟩ | refine aJ ?_ | refine ⟨_, rfl, ?_⟩); conv => whnf) | fail)
  rw [show List.replicate n [D.i .u8 0] = (fillT v bits n 0).map bcell by simp [fillT, binT, bcell]]
  refine Ok.loopU [0, 1, 7, 12] [13] 1 0 (fun (i : Nat) => [.i .i64 (i : Nat)]) (fun _ b => b) (fun (i : Nat) (_ : Vx.Rows) => [some (5, (fillT v bits n i).map bcell)]) (fun (i : Nat) => i ≤ n) (fun (i : Nat) => n - i) (0) (Nat.zero_le _) ?_; (conv => whnf); refine ⟨by ((conv => whnf); first | rfl | (simp [envCat, List.take_of_length_le, nrow, frow, bcell]; done) | (simp [envCat, List.take_of_length_le, nrow, frow, bcell]; rw [IntKind.wrap_i64]; omega)), ?_⟩
  intro i hi
  have hll := fillT_len (v := v) (bits := bits) hi
  have hlm : ((fillT v bits n i).map bcell).length = n := by rw [List.length_map, hll]
  (conv => whnf)
  by_cases hil : i < n
  · have hfs := fillT_set (v := v) (bits := bits) hil
    have hfa : (fillT v bits n i)[i]? = some 0 := by
      unfold fillT
      rw [List.getElem?_append_right (by rw [binT_len]; exact Nat.le_refl _), binT_len, Nat.sub_self, List.getElem?_replicate, if_pos (by omega)]
    have hsh : ((bits : Int) - 1 - (i : Int)) = ((bits - 1 - i : Nat) : Int) ∧ bits - 1 - i ≤ 62 := by omega
    have hm2 := mod2 v (bits - 1 - i)
    have hbc := bitC_nat v (bits - 1 - i)
    (try (conv => whnf)); repeat' (first | ((with_reducible_and_instances refine shr_i rfl (by assumption) ?_); (conv => whnf)) | (refine and_1' ⟨rfl, bits_pos hv⟩ rfl ?_; (conv => whnf)) | ((with_reducible_and_instances refine num_u8 (by omega) (by omega) ?_); (conv => whnf)) | refine Ok.seq ?_ | ((first | refine Ok.region tok ?_ | refine Ok.cond ?_); conv => whnf) | refine Ok.block ?_ | ((first | refine Ok.skip ?_ | refine nI ?_); conv => whnf) | (refine ⟨fun _ => ?_, fun _ => ?_⟩ <;> (conv => whnf) <;> (try (exfalso; omega))) | (refine aJ ?_; conv => whnf) | fail)
    all_goals first
      | (exfalso; omega)
      | skip
    refine ⟨_, getElem_bcell hfa, by simp [bcell], _, rfl, ?_⟩
    (conv => whnf)
    (try (conv => whnf)); repeat' (first | ((first | refine Ok.region tok ?_ | refine nI ?_); conv => whnf) | fail)
    refine ⟨i + 1, by omega, by omega, ?_⟩
    rw [← hfs, show bcell (bitC v (bits - 1 - i)) = [.i .u8 (48 + ((v / tw (bits - 1 - i) % 2 : Nat) : Int))] by unfold bcell; rw [hbc]; rfl]
    (conv => whnf)
    rfl
  · have hie : i = n := by omega
    subst hie
    have hfe : fillT v bits i i = binT v bits i := by simp [fillT]
    (try (conv => whnf)); repeat' (first | (refine ⟨binT v bits i, by rw [List.take_of_length_le (by omega), hfe], ?_⟩; (conv => whnf)) | refine Ok.seq ?_ | ((first | refine Ok.region tok ?_ | refine Ok.cond ?_ | refine Ok.exit ?_ | refine Ok.ret ?_); conv => whnf) | (refine ⟨fun _ => ?_, fun _ => ?_⟩ <;> (conv => whnf) <;> (try (exfalso; omega))) | (refine aJ ?_; conv => whnf) | fail)
    all_goals first
      | (exfalso; omega)
      | (refine Or.inl ?_; (conv => whnf)
         rfl)
set_option maxHeartbeats 4000000 in
theorem digits_at (v b : Nat) (hv : v < 9223372036854775808) (hb : b ≤ 62) : FSpec Tryz.prog T 102 [.i .i64 (v : Nat), .i .i64 (b : Nat)] (fun d _ => d = .s (binT v b b)) := by
  refine FSpec.of_ok tok Tryz.func102 rfl Tryz.call102 (by simp) ?_
  (try (conv => whnf)); repeat' (first | refine Ok.seq ?_ | (refine Ok.region tok ?_; conv => whnf) | refine Ok.block ?_ | (refine nI ?_; conv => whnf) | fail)
  refine Ok.ghost 5 5 rfl ?_
  (conv => whnf)
  refine Ok.loopU [0] [5, 6] 1 0 (fun (x : Int × Nat) => [.own 0 x.2, .i .i64 x.1]) (fun _ b => b) (fun (x : Int × Nat) (_ : Vx.Rows) => [some (5, (binT v b x.2).map bcell)]) (fun (x : Int × Nat) => x.2 ≤ b ∧ x.1 = (b : Int) - 1 - (x.2 : Nat)) (fun (x : Int × Nat) => b - x.2) (((b : Int) - 1, 0)) (⟨Nat.zero_le _, by simp⟩) ?_; (conv => whnf); refine ⟨by ((conv => whnf); first | rfl | (simp [envCat, List.take_of_length_le, nrow, frow, bcell]; done) | (simp [envCat, List.take_of_length_le, nrow, frow, bcell]; rw [IntKind.wrap_i64]; omega)), ?_⟩
  rintro ⟨q, i⟩ ⟨hi, hq⟩
  dsimp only at hi hq ⊢
  have hll := binT_len v b i
  have hlm : ((binT v b i).map bcell).length = i := by rw [List.length_map, hll]
  (conv => whnf)
  by_cases hil : i < b
  · have hsn := binT_succ v b i
    have hsh : q = ((b - 1 - i : Nat) : Int) ∧ b - 1 - i ≤ 62 := by omega
    have hm2 := mod2 v (b - 1 - i)
    have hbc : bitC v (b - 1 - i) = if v / tw (b - 1 - i) % 2 = 1 then 49 else 48 := rfl
    (try (conv => whnf)); repeat' (first | ((with_reducible_and_instances refine shr_i rfl (by assumption) ?_); (conv => whnf)) | (refine and_1' ⟨rfl, bits_pos hv⟩ rfl ?_; (conv => whnf)) | refine Ok.seq ?_ | ((first | refine Ok.region tok ?_ | refine Ok.cond ?_); conv => whnf) | refine Ok.block ?_ | ((first | refine Ok.skip ?_ | refine nI ?_ | refine Alt2.l (aI ?_) | refine ⟨_, .inl ⟨rfl, rfl⟩, ?_⟩ | refine ⟨_, _, rfl, rfl, ?_⟩); conv => whnf) | (refine ⟨fun _ => ?_, fun _ => ?_⟩ <;> (conv => whnf) <;> (try (exfalso; omega))) | (refine aJ ?_; conv => whnf) | fail)
    all_goals first
      | (exfalso; omega)
      | skip
    · rename_i h
      rw [if_pos (by omega)] at hbc
      refine ⟨(q - 1, i + 1), by dsimp only; omega, ⟨by dsimp only; omega, by dsimp only; omega⟩, ?_⟩
      rw [hsn, hbc]
      (conv => whnf)
      simp [envCat, bcell]
      omega
    · rename_i h
      rw [if_neg (by omega)] at hbc
      refine ⟨(q - 1, i + 1), by dsimp only; omega, ⟨by dsimp only; omega, by dsimp only; omega⟩, ?_⟩
      rw [hsn, hbc]
      (conv => whnf)
      simp [envCat, bcell]
      omega
  · have hie : i = b := by omega
    subst hie
    (try (conv => whnf)); repeat' (first | (refine ⟨binT v i i, List.take_of_length_le (by omega), ?_⟩; (conv => whnf)) | refine Ok.seq ?_ | ((first | refine Ok.region tok ?_ | refine Ok.cond ?_ | refine Ok.exit ?_ | refine Ok.ret ?_); conv => whnf) | (refine ⟨fun _ => ?_, fun _ => ?_⟩ <;> (conv => whnf) <;> (try (exfalso; omega))) | (refine aJ ?_; conv => whnf) | fail)
    all_goals first
      | (exfalso; omega)
      | (refine Or.inl ?_; (conv => whnf)
         rfl)
end Go.Proofs.YtagmibogginaaaaGreatDoor
namespace Go.Proofs.YtagmibogginaaaaGreatDoor
open Go Go.Vx Go.Shelf
theorem bExtraR : Builder.Extra Tryz.prog Tryz.vxRep_ren where
  sizeBuilder := by kernel_rfl
  liesBuilder := by kernel_rfl
  t5 := by kernel_rfl
  a5 := fun _ => by kernel_rfl
  z5 := fun _ => by kernel_rfl
  v5 := fun _ => by kernel_rfl
  infoByte := by kernel_rfl
  cellsByte := by kernel_rfl
  sizeByte := by kernel_rfl
  neB5 := by decide
theorem repeatL_x (n : Nat) : Lib.repeatL [120] n = xsT n := by
  induction n with
  | zero => rfl
  | succ n ih => rw [Lib.repeatL, ih]; rfl
theorem xrep_at (n : Nat) (h : n ≤ 1000000) : FSpec Tryz.prog T 71 [.s [120], .i .i64 (n : Nat)] (fun d _ => d = .s (xsT n)) := by
  have := repeat_at (T := T) Tryz.vxRep bExtraR Tryz.call71 [120] n (by simp; omega) (by omega)
  rw [repeatL_x] at this
  exact this
theorem prefix_at (v bits n : Nat) (hv : v < 9223372036854775808) (hb : bits ≤ 62) (hn : n ≤ bits) (vI bI nJ : Int) (e1 : vI = v) (e2 : bI = bits) (e3 : nJ = n) :
    FSpec Tryz.prog T 118 [.i .i64 vI, .i .i64 bI, .i .i64 nJ] (fun d _ => d = .s (pfxT v bits n)) := by
  subst e1 e2 e3
  have hx := xrep_at (bits - n) (by omega)
  have hbl := binT_len v bits n
  have hxl := xsT_len (bits - n)
  refine FSpec.of_ok tok Tryz.func118 rfl Tryz.call118 (by simp) ?_
  rw [show ((bits - n : Nat) : Int) = (bits : Int) - n by omega] at hx
  (try (conv => whnf)); repeat' (first | refine Ok.seq ?_ | ((first | refine Ok.region tok ?_ | refine Ok.ret ?_ | refine nI ?_); conv => whnf) | (refine Or.inl ?_; (conv => whnf); (repeat (refine aI ?_; conv => whnf)); refine ⟨_, binary_at v bits n hv hb hn, rfl, ?_⟩; conv => whnf) | (refine Or.inl ?_; (conv => whnf); (repeat (refine aI ?_; conv => whnf)); refine ⟨_, hx, rfl, ?_⟩; conv => whnf) | (refine aJ ?_; conv => whnf) | fail)
  refine Or.inl ?_; (conv => whnf)
  rfl
theorem free_step {bits lo H k f : Nat} (h : f < bits ∧ lo % tw (f + 1) = 0 ∧ lo + tw (f + 1) ≤ H) : freeF bits lo H (k + 1) f = freeF bits lo H k (f + 1) := by
  conv => lhs; unfold freeF
  exact if_pos h
theorem free_stop {bits lo H f : Nat} (k : Nat) (h : ¬ (f < bits ∧ lo % tw (f + 1) = 0 ∧ lo + tw (f + 1) ≤ H)) : freeF bits lo H k f = f := by
  cases k with
  | zero => rfl
  | succ k => unfold freeF; exact if_neg h
set_option maxHeartbeats 8000000 in
theorem cover_at (bits lo H : Nat) (hb : bits ≤ 32) (hH : H ≤ tw bits) (hlo : lo ≤ tw bits) (bI lI hI : Int) (e1 : bI = bits) (e2 : lI = lo) (e3 : hI = (H : Int) - 1) :
    FSpec Tryz.prog T 98 [.i .i64 bI, .i .i64 lI, .i .i64 hI] (fun d rows => d = .own 0 (coverC bits H lo).length ∧ rows = [some (9, (coverC bits H lo).map srow)]) := by
  subst e1 e2 e3
  have htb := tw62 (show bits ≤ 62 by omega)
  have ht32 := tw_mono hb
  have h32 : tw 32 = 4294967296 := by decide
  have hcl := coverC_len (bits := bits) (lo := lo) (H := H) hH
  refine FSpec.of_ok tok Tryz.func98 rfl Tryz.call98 (by simp) ?_
  (try (conv => whnf)); repeat' (first | refine Ok.seq ?_ | (refine Ok.region tok ?_; conv => whnf) | refine Ok.block ?_ | fail)
  refine Ok.ghost 7 9 rfl ?_
  (conv => whnf)
  refine Ok.loopU [0, 2] [1, 7] 1 0 (fun (x : Nat × List Str) => [.i .i64 (x.1 : Nat), .own 0 x.2.length]) (fun _ b => b) (fun (x : Nat × List Str) (_ : Vx.Rows) => [some (9, x.2.map srow)]) (fun (x : Nat × List Str) => x.1 ≤ tw bits ∧ coverC bits H lo = x.2 ++ coverC bits H x.1) (fun (x : Nat × List Str) => tw bits - x.1) ((lo, [])) (⟨hlo, rfl⟩) ?_; (conv => whnf); refine ⟨by ((conv => whnf); first | rfl | (simp [envCat, List.take_of_length_le, nrow, frow, bcell, srow]; done) | (simp [envCat, List.take_of_length_le, nrow, frow, bcell, srow]; rw [IntKind.wrap_i64]; omega)), ?_⟩
  rintro ⟨q, l⟩ ⟨hq, hcov⟩
  dsimp only at hq hcov ⊢
  have hlm : (l.map srow).length = l.length := by simp
  have hlb : l.length ≤ 66 := by have := congrArg List.length hcov; rw [List.length_append] at this; omega
  (conv => whnf)
  by_cases hqH : q < H
  · have hst := coverC_step (bits := bits) hqH
    (try (conv => whnf)); repeat' (first | refine Ok.seq ?_ | ((first | refine Ok.region tok ?_ | refine Ok.cond ?_); conv => whnf) | refine Ok.block ?_ | (refine Ok.skip ?_; conv => whnf) | (refine ⟨fun _ => ?_, fun _ => ?_⟩ <;> (conv => whnf) <;> (try (exfalso; omega))) | fail)
    refine Ok.loopU [0, 1, 2, 7] [8] 1 0 (fun (f : Nat) => [.i .i64 (f : Nat)]) (fun _ b => b) (fun (f : Nat) (_ : Vx.Rows) => [some (9, l.map srow)]) (fun (f : Nat) => f ≤ bits ∧ q + tw f ≤ H ∧ freeF bits q H bits 0 = freeF bits q H (bits - f) f) (fun (f : Nat) => bits - f) (0) (⟨Nat.zero_le _, hqH, rfl⟩) ?_; (conv => whnf); refine ⟨by ((conv => whnf); first | rfl | (simp [envCat, List.take_of_length_le, nrow, frow, bcell, srow]; done) | (simp [envCat, List.take_of_length_le, nrow, frow, bcell, srow]; rw [IntKind.wrap_i64]; omega)), ?_⟩
    rintro f ⟨hf, hqf, hfr⟩
    have htf := tw62 (show f + 1 ≤ 62 by omega)
    have hpf := tw_pos f
    have hk1 : ((f : Nat) : Int) + 1 = ((f + 1 : Nat) : Int) := by omega
    have htop := top_at (f + 1) (by omega)
    rw [← hk1] at htop
    have hsh : ((f : Nat) : Int) = (f : Int) ∧ f ≤ 62 := ⟨rfl, by omega⟩
    have hpre := prefix_at q bits (bits - f) (by omega) (by omega) (by omega) (q : Int) (bits : Int) ((bits : Int) - f) rfl rfl (by omega)
    (conv => whnf)
    (try (conv => whnf)); repeat' (first | (refine and_i ⟨rfl, by omega⟩ ⟨rfl, by omega⟩ ?_; (conv => whnf)) | ((with_reducible_and_instances refine shl_i (by assumption) ?_); (conv => whnf)) | refine Ok.seq ?_ | ((first | refine Ok.region tok ?_ | refine Ok.cond ?_); conv => whnf) | refine Ok.block ?_ | ((first | refine Ok.skip ?_ | refine Ok.exit ?_ | refine nI ?_); conv => whnf) | (refine Or.inl ?_; (conv => whnf); (repeat (refine aI ?_; conv => whnf)); refine ⟨_, htop, rfl, ?_⟩; conv => whnf) | (refine Or.inl ?_; (conv => whnf); (repeat (refine aI ?_; conv => whnf)); refine ⟨_, hpre, rfl, ?_⟩; conv => whnf) | ((first | refine Alt2.l (aI ?_) | refine ⟨_, .inl ⟨rfl, rfl⟩, ?_⟩ | refine ⟨_, _, rfl, rfl, ?_⟩); conv => whnf) | (refine ⟨fun _ => ?_, fun _ => ?_⟩ <;> (conv => whnf) <;> (try (exfalso; omega))) | (refine aJ ?_; conv => whnf) | fail)
    all_goals first
      | (exfalso; omega)
      | skip
    · refine ⟨f + 1, by omega, ⟨by omega, by omega, ?_⟩, ?_⟩
      · rw [hfr, show bits - f = (bits - (f + 1)) + 1 by omega, free_step ⟨by omega, by omega, by omega⟩]
      · (conv => whnf)
        rfl
    all_goals
      have hfr2 : freeF bits q H bits 0 = f := by rw [hfr]; exact free_stop _ (by omega)
      have hst2 : coverC bits H q = pfxT q bits (bits - f) :: coverC bits H (q + tw f) := by rw [hst, hfr2]; rfl
      refine ⟨(q + tw f, l ++ [pfxT q bits (bits - f)]), by dsimp only; omega, ⟨by dsimp only; omega, by dsimp only; rw [hcov, hst2]; simp⟩, ?_⟩
      (conv => whnf)
      simp [envCat]
  · have : coverC bits H q = [] := coverC_end (by omega)
    rw [this, List.append_nil] at hcov
    (try (conv => whnf)); repeat' (first | refine Ok.seq ?_ | ((first | refine Ok.region tok ?_ | refine Ok.cond ?_ | refine Ok.exit ?_ | refine Ok.ret ?_); conv => whnf) | (refine ⟨fun _ => ?_, fun _ => ?_⟩ <;> (conv => whnf) <;> (try (exfalso; omega))) | fail)
    all_goals first
      | (exfalso; omega)
      | (refine Or.inr (Or.inl ?_); (conv => whnf)
         exact ⟨by rw [hcov]; rfl, by rw [hcov]⟩)
theorem binT_shift (v b d : Nat) (hd : d ≤ b) : binT (v / tw d) (b - d) (b - d) = binT v b (b - d) := by
  unfold binT
  refine List.map_congr_left fun i hi => ?_
  have hi := List.mem_range.1 hi
  unfold bitC tw
  rw [Nat.div_div_eq_div_mul, ← Nat.pow_add, show d + (b - d - 1 - i) = b - 1 - i by omega]
theorem pfxT_shift (v b d : Nat) (hd : d ≤ b) : binT (v / tw d) (b - d) (b - d) ++ xsT d = pfxT v b (b - d) := by
  unfold pfxT
  rw [binT_shift v b d hd, show b - (b - d) = d by omega]
theorem halves_cov {b lo H d base : Nat} (h : lo ≤ base ∧ base + tw d ≤ H) : halvesF b lo H d base = [pfxT base b (b - d)] := by
  cases d with
  | zero => unfold halvesF; exact if_pos h
  | succ d => unfold halvesF; exact if_pos h
theorem halves_rec {b lo H d base : Nat} (h : ¬ (lo ≤ base ∧ base + tw (d + 1) ≤ H)) (h2 : ¬ (H ≤ base ∨ base + tw (d + 1) ≤ lo)) : halvesF b lo H (d + 1) base = halvesF b lo H d base ++ halvesF b lo H d (base + tw d) := by
  conv => lhs; unfold halvesF
  exact (if_neg h).trans (if_neg h2)
theorem halves_not {b lo H d base : Nat} (h : H ≤ base ∨ base + tw d ≤ lo) : halvesF b lo H d base = [] := halves_none d base h
set_option maxHeartbeats 8000000 in
theorem halves_at (b lo H : Nat) (hb : b ≤ 32) (hH : H ≤ tw b) (hlo : lo ≤ tw b) : ∀ (d base : Nat) (nJ baseI : Int), d ≤ b → base + tw d ≤ tw b → nJ = (b : Int) - d → baseI = base →
    FSpec Tryz.prog T 101 [.i .i64 (b : Nat), .i .i64 baseI, .i .i64 nJ, .i .i64 (lo : Nat), .i .i64 ((H : Int) - 1)] (fun d' rows => d' = .own 0 (halvesF b lo H d base).length ∧ rows = [some (9, (halvesF b lo H d base).map srow)]) := by
  intro d
  induction d with
  | zero =>
    intro base nJ baseI hd hbase e1 e2
    subst e2
    have htb := tw62 (show b ≤ 62 by omega)
    have ht32 := tw_mono hb
    have h32 : tw 32 = 4294967296 := by decide
    have hpd := tw_pos (0)
    have htop := rtop_at (0) (by omega)
    rw [show ((0 : Nat) : Int) = (b : Int) - nJ by omega] at htop
    have hsh : ((b : Int) - nJ) = ((0 : Nat) : Int) ∧ 0 ≤ 62 := by omega
    have hdig := digits_at (base / tw (0)) (b - (0)) (bits_pos (by omega)) (by omega)
    rw [show ((b - (0) : Nat) : Int) = nJ by omega] at hdig
    have hxs := xs_at (0) (by omega)
    rw [show ((0 : Nat) : Int) = (b : Int) - nJ by omega] at hxs
    have hl1 := binT_len (base / tw (0)) (b - (0)) (b - (0))
    have hl2 := xsT_len (0)
    have hps := pfxT_shift base b (0) hd
    have h1 : tw 0 = 1 := rfl
    refine FSpec.of_ok tok Tryz.func101 rfl Tryz.call101 (by simp) ?_
    (try (conv => whnf)); repeat' (first | ((with_reducible_and_instances refine shr_i rfl (by assumption) ?_); (conv => whnf)) | refine Ok.seq ?_ | ((first | refine Ok.region tok ?_ | refine Ok.cond ?_ | refine Ok.skip ?_ | refine Ok.ret ?_ | refine nI ?_); conv => whnf) | (refine Or.inl ?_; (conv => whnf); (repeat (refine aI ?_; conv => whnf)); refine ⟨_, htop, rfl, ?_⟩; conv => whnf) | (refine Or.inl ?_; (conv => whnf); (repeat (refine aI ?_; conv => whnf)); refine ⟨_, hdig, rfl, ?_⟩; conv => whnf) | (refine Or.inl ?_; (conv => whnf); (repeat (refine aI ?_; conv => whnf)); refine ⟨_, hxs, rfl, ?_⟩; conv => whnf) | (refine ⟨fun _ => ?_, fun _ => ?_⟩ <;> (conv => whnf) <;> (try (exfalso; omega))) | (refine aJ ?_; conv => whnf) | fail)
    all_goals first
      | (exfalso; omega)
      | (refine Or.inr (Or.inl ?_); (conv => whnf)
         rw [halves_cov (d := 0) ⟨by omega, by omega⟩, hps]
         exact ⟨rfl, rfl⟩)
      | (refine Or.inr (Or.inr ?_); (conv => whnf)
         rw [halves_not (d := 0) (by omega)]
         exact ⟨rfl, rfl⟩)
      | skip
  | succ d ih =>
    intro base nJ baseI hd hbase e1 e2
    subst e2
    have htb := tw62 (show b ≤ 62 by omega)
    have ht32 := tw_mono hb
    have h32 : tw 32 = 4294967296 := by decide
    have hpd := tw_pos (d + 1)
    have htop := rtop_at (d + 1) (by omega)
    rw [show ((d + 1 : Nat) : Int) = (b : Int) - nJ by omega] at htop
    have hsh : ((b : Int) - nJ) = ((d + 1 : Nat) : Int) ∧ d + 1 ≤ 62 := by omega
    have hdig := digits_at (base / tw (d + 1)) (b - (d + 1)) (bits_pos (by omega)) (by omega)
    rw [show ((b - (d + 1) : Nat) : Int) = nJ by omega] at hdig
    have hxs := xs_at (d + 1) (by omega)
    rw [show ((d + 1 : Nat) : Int) = (b : Int) - nJ by omega] at hxs
    have hl1 := binT_len (base / tw (d + 1)) (b - (d + 1)) (b - (d + 1))
    have hl2 := xsT_len (d + 1)
    have hps := pfxT_shift base b (d + 1) hd
    have hts := tw_succ d
    have hsh2 : ((b : Int) - nJ - 1) = ((d : Nat) : Int) ∧ d ≤ 62 := by omega
    have hA := halves_len (bits := b) (lo := lo) (H := H) d base
    have hB := halves_len (bits := b) (lo := lo) (H := H) d (base + tw d)
    have ihA := ih base (nJ + 1) base (by omega) (by omega) (by omega) rfl
    have ihB := ih (base + tw d) (nJ + 1) ((base : Int) + tw d) (by omega) (by omega) (by omega) (by omega)
    have hrec := fun h1 h2 => halves_rec (b := b) (lo := lo) (H := H) (d := d) (base := base) h1 h2
    generalize halvesF b lo H d base = A at *
    generalize halvesF b lo H d (base + tw d) = B at *
    have hAm : (A.map srow).length = A.length := by simp
    have hBm : (B.map srow).length = B.length := by simp
    refine FSpec.of_ok tok Tryz.func101 rfl Tryz.call101 (by simp) ?_
    (try (conv => whnf)); repeat' (first | ((with_reducible_and_instances refine shr_i rfl (by assumption) ?_); (conv => whnf)) | ((with_reducible_and_instances refine shl_i (by assumption) ?_); (conv => whnf)) | refine Ok.seq ?_ | ((first | refine Ok.region tok ?_ | refine Ok.cond ?_); conv => whnf) | refine Ok.block ?_ | ((first | refine Ok.skip ?_ | refine Ok.ret ?_ | refine nI ?_); conv => whnf) | (refine Or.inl ?_; (conv => whnf); (repeat (refine aI ?_; conv => whnf)); refine ⟨_, htop, rfl, ?_⟩; conv => whnf) | (refine Or.inl ?_; (conv => whnf); (repeat (refine aI ?_; conv => whnf)); refine ⟨_, hdig, rfl, ?_⟩; conv => whnf) | (refine Or.inl ?_; (conv => whnf); (repeat (refine aI ?_; conv => whnf)); refine ⟨_, hxs, rfl, ?_⟩; conv => whnf) | (refine Or.inr (Or.inl ?_); (conv => whnf); (repeat (refine aI ?_; conv => whnf)); refine ⟨_, ihA, ?_⟩; rintro _ _ ⟨rfl, rfl⟩; conv => whnf) | (refine Or.inr (Or.inl ?_); (conv => whnf); (repeat (refine aI ?_; conv => whnf)); refine ⟨_, ihB, ?_⟩; rintro _ _ ⟨rfl, rfl⟩; conv => whnf) | (refine ⟨fun _ => ?_, fun _ => ?_⟩ <;> (conv => whnf) <;> (try (exfalso; omega))) | (refine aJ ?_; conv => whnf) | fail)
    all_goals first
      | (exfalso; omega)
      | (refine Or.inr (Or.inl ?_); (conv => whnf)
         rw [halves_cov (d := d + 1) ⟨by omega, by omega⟩, hps]
         exact ⟨rfl, rfl⟩)
      | (refine Or.inr (Or.inr ?_); (conv => whnf)
         rw [halves_not (d := d + 1) (by omega)]
         exact ⟨rfl, rfl⟩)
      | skip
    · rw [hrec (by omega) (by omega)]
      refine Ok.loopU [13] [12, 14] 2 0 (fun (i : Nat) => [.own 0 (A.length + i), .i .i64 (i : Nat)]) (fun _ b => b) (fun (i : Nat) (_ : Vx.Rows) => [some (9, A.map srow ++ (B.take i).map srow), some (9, B.map srow)]) (fun (i : Nat) => i ≤ B.length) (fun (i : Nat) => B.length - i) (0) (Nat.zero_le _) ?_; (conv => whnf); refine ⟨by ((conv => whnf); first | rfl | (simp [envCat, List.take_of_length_le, nrow, frow, bcell, srow]; done) | (simp [envCat, List.take_of_length_le, nrow, frow, bcell, srow]; rw [IntKind.wrap_i64]; omega)), ?_⟩
      intro i hi
      have hti : ((B.take i).map srow).length = i := by simp; omega
      have hap : (A.map srow ++ (B.take i).map srow).length = A.length + i := by rw [List.length_append, hAm, hti]
      (conv => whnf)
      by_cases hil : i < B.length
      · obtain ⟨c, hc⟩ : ∃ c, B[i]? = some c := ⟨_, List.getElem?_eq_getElem hil⟩
        have hcI : B[((i : Nat) : Int).toNat]? = some c := hc
        have hsn : (B.take (i + 1)).map srow = (B.take i).map srow ++ [srow c] := by rw [take_snoc hc, List.map_append]; rfl
        (try (conv => whnf)); repeat' (first | refine Ok.seq ?_ | ((first | refine Ok.region tok ?_ | refine Ok.cond ?_); conv => whnf) | refine Ok.block ?_ | ((first | refine Ok.skip ?_ | refine nI ?_ | refine Alt2.l (aI ?_) | refine rd rfl (by assumption) ?_ | refine ⟨_, .inl ⟨rfl, rfl⟩, ?_⟩ | refine ⟨_, _, rfl, rfl, ?_⟩); conv => whnf) | (refine ⟨fun _ => ?_, fun _ => ?_⟩ <;> (conv => whnf) <;> (try (exfalso; omega))) | (refine aJ ?_; conv => whnf) | fail)
        all_goals first
          | (exfalso; omega)
          | skip
        refine ⟨i + 1, by omega, by omega, ?_⟩
        rw [hsn]
        (conv => whnf)
        simp [envCat]
        omega
      · have hie : i = B.length := by omega
        subst hie
        rw [List.take_length]
        (try (conv => whnf)); repeat' (first | refine Ok.seq ?_ | ((first | refine Ok.region tok ?_ | refine Ok.cond ?_ | refine Ok.exit ?_ | refine Ok.ret ?_); conv => whnf) | (refine ⟨fun _ => ?_, fun _ => ?_⟩ <;> (conv => whnf) <;> (try (exfalso; omega))) | fail)
        all_goals first
          | (exfalso; omega)
          | (refine Or.inr (Or.inl ?_); (conv => whnf)
             exact ⟨by rw [List.length_append]; rfl, by rw [List.map_append]⟩)
    · rw [hrec (by omega) (by omega)]
      refine Ok.loopU [13] [12, 14] 2 0 (fun (i : Nat) => [.own 0 (A.length + i), .i .i64 (i : Nat)]) (fun _ b => b) (fun (i : Nat) (_ : Vx.Rows) => [some (9, A.map srow ++ (B.take i).map srow), some (9, B.map srow)]) (fun (i : Nat) => i ≤ B.length) (fun (i : Nat) => B.length - i) (0) (Nat.zero_le _) ?_; (conv => whnf); refine ⟨by ((conv => whnf); first | rfl | (simp [envCat, List.take_of_length_le, nrow, frow, bcell, srow]; done) | (simp [envCat, List.take_of_length_le, nrow, frow, bcell, srow]; rw [IntKind.wrap_i64]; omega)), ?_⟩
      intro i hi
      have hti : ((B.take i).map srow).length = i := by simp; omega
      have hap : (A.map srow ++ (B.take i).map srow).length = A.length + i := by rw [List.length_append, hAm, hti]
      (conv => whnf)
      by_cases hil : i < B.length
      · obtain ⟨c, hc⟩ : ∃ c, B[i]? = some c := ⟨_, List.getElem?_eq_getElem hil⟩
        have hcI : B[((i : Nat) : Int).toNat]? = some c := hc
        have hsn : (B.take (i + 1)).map srow = (B.take i).map srow ++ [srow c] := by rw [take_snoc hc, List.map_append]; rfl
        (try (conv => whnf)); repeat' (first | refine Ok.seq ?_ | ((first | refine Ok.region tok ?_ | refine Ok.cond ?_); conv => whnf) | refine Ok.block ?_ | ((first | refine Ok.skip ?_ | refine nI ?_ | refine Alt2.l (aI ?_) | refine rd rfl (by assumption) ?_ | refine ⟨_, .inl ⟨rfl, rfl⟩, ?_⟩ | refine ⟨_, _, rfl, rfl, ?_⟩); conv => whnf) | (refine ⟨fun _ => ?_, fun _ => ?_⟩ <;> (conv => whnf) <;> (try (exfalso; omega))) | (refine aJ ?_; conv => whnf) | fail)
        all_goals first
          | (exfalso; omega)
          | skip
        refine ⟨i + 1, by omega, by omega, ?_⟩
        rw [hsn]
        (conv => whnf)
        simp [envCat]
        omega
      · have hie : i = B.length := by omega
        subst hie
        rw [List.take_length]
        (try (conv => whnf)); repeat' (first | refine Ok.seq ?_ | ((first | refine Ok.region tok ?_ | refine Ok.cond ?_ | refine Ok.exit ?_ | refine Ok.ret ?_); conv => whnf) | (refine ⟨fun _ => ?_, fun _ => ?_⟩ <;> (conv => whnf) <;> (try (exfalso; omega))) | fail)
        all_goals first
          | (exfalso; omega)
          | (refine Or.inr (Or.inl ?_); (conv => whnf)
             exact ⟨by rw [List.length_append]; rfl, by rw [List.map_append]⟩)
end Go.Proofs.YtagmibogginaaaaGreatDoor
namespace Go.Proofs.YtagmibogginaaaaGreatDoor
open Go Go.Vx Go.Shelf
theorem dropW_nil (p : UInt8 → Bool) : ∀ l : Str, l.dropWhile p = [] ↔ ∀ b ∈ l, p b = true
  | [] => by simp
  | a :: l => by
    rw [List.dropWhile_cons]
    split
    · rename_i h
      rw [dropW_nil p l]
      simp [h]
    · rename_i h
      simp [h]
theorem dropW_head (p : UInt8 → Bool) : ∀ l : Str, l.dropWhile p ≠ [] → ∃ b ∈ l.dropWhile p, p b ≠ true
  | [], h => absurd rfl h
  | a :: l, h => by
    rw [List.dropWhile_cons] at h ⊢
    split
    · rename_i hp
      rw [if_pos hp] at h
      exact dropW_head p l h
    · rename_i hp
      exact ⟨a, by simp, hp⟩
theorem dropW_mem (p : UInt8 → Bool) : ∀ (l : Str) (x : UInt8), x ∈ l.dropWhile p → x ∈ l
  | [], x, h => h
  | a :: l, x, h => by
    rw [List.dropWhile_cons] at h
    split at h
    · exact List.mem_cons_of_mem _ (dropW_mem p l x h)
    · exact h
theorem trim_nil (l cs : Str) : Lib.trimS l cs = [] ↔ ∀ b ∈ l, cs.contains b = true := by
  unfold Lib.trimS Lib.trimLeftS Lib.trimRightS
  rw [dropW_nil]
  constructor
  · intro h
    by_cases hd : l.reverse.dropWhile (fun b => cs.contains b) = []
    · intro b hb
      exact (dropW_nil _ _).1 hd b (by simpa using hb)
    · obtain ⟨b, hb, hn⟩ := dropW_head _ _ hd
      exact absurd (h b (by simpa using hb)) hn
  · intro h x hx
    have h1 := dropW_mem (fun b => cs.contains b) l.reverse x (List.mem_reverse.1 hx)
    exact h x (List.mem_reverse.1 h1)
structure FormOk (t : Tst) : Prop where
  a : 1 ≤ t.op ∧ t.op ≤ 6 ∧ 1 ≤ t.form ∧ t.form ≤ 4 ∧ (t.op ≤ 2 ∨ t.form = 1) ∧ (t.form = 4 → t.lo = 0 ∧ t.hi = 0 ∧ t.len = 0) ∧ (t.form = 1 ∨ t.form = 2 → t.hi = 0) ∧ (t.form = 1 ∨ t.form = 3 → t.len = 0)
  p : t.form ≠ 4 → t.pat = []
def ValOk (t : Tst) (b : Nat) : Prop := 0 ≤ t.lo ∧ t.lo ≤ (tw b : Int) - 1 ∧ 0 ≤ t.hi ∧ t.hi ≤ (tw b : Int) - 1 ∧ 0 ≤ t.len ∧ t.len ≤ b
def DigOk (s : Str) (b : Nat) : Prop := s.length = b ∧ cubOk s
open Classical in
noncomputable def errT (t : Tst) (b : Nat) : Int :=
  if ¬ FormOk t then 47 else if ¬ ValOk t b then 42 else if t.form = 2 ∧ t.lo.toNat % tw (b - t.len.toNat) ≠ 0 then 42 else if t.form = 3 ∧ t.hi < t.lo then 43 else if t.form = 4 ∧ ¬ DigOk t.pat b then 44 else 0
theorem errT_form {t : Tst} {b : Nat} (h : ¬ FormOk t) : errT t b = 47 := by unfold errT; rw [if_pos h]
theorem errT_val {t : Tst} {b : Nat} (h : FormOk t) (h2 : ¬ ValOk t b) : errT t b = 42 := by unfold errT; rw [if_neg (fun x => x h), if_pos h2]
theorem errT_pre {t : Tst} {b : Nat} (h : FormOk t) (h2 : ValOk t b) (h3 : t.form = 2 ∧ t.lo.toNat % tw (b - t.len.toNat) ≠ 0) : errT t b = 42 := by unfold errT; rw [if_neg (fun x => x h), if_neg (fun x => x h2), if_pos h3]
theorem errT_rng {t : Tst} {b : Nat} (h : FormOk t) (h2 : ValOk t b) (h3 : ¬ (t.form = 2 ∧ t.lo.toNat % tw (b - t.len.toNat) ≠ 0)) (h4 : t.form = 3 ∧ t.hi < t.lo) : errT t b = 43 := by unfold errT; rw [if_neg (fun x => x h), if_neg (fun x => x h2), if_neg h3, if_pos h4]
theorem errT_dig {t : Tst} {b : Nat} (h : FormOk t) (h2 : ValOk t b) (h3 : ¬ (t.form = 2 ∧ t.lo.toNat % tw (b - t.len.toNat) ≠ 0)) (h4 : ¬ (t.form = 3 ∧ t.hi < t.lo)) (h5 : t.form = 4 ∧ ¬ DigOk t.pat b) : errT t b = 44 := by unfold errT; rw [if_neg (fun x => x h), if_neg (fun x => x h2), if_neg h3, if_neg h4, if_pos h5]
theorem errT_ok {t : Tst} {b : Nat} (h : FormOk t) (h2 : ValOk t b) (h3 : ¬ (t.form = 2 ∧ t.lo.toNat % tw (b - t.len.toNat) ≠ 0)) (h4 : ¬ (t.form = 3 ∧ t.hi < t.lo)) (h5 : ¬ (t.form = 4 ∧ ¬ DigOk t.pat b)) : errT t b = 0 := by unfold errT; rw [if_neg (fun x => x h), if_neg (fun x => x h2), if_neg h3, if_neg h4, if_neg h5]
theorem trim_dig (s : Str) : Lib.trimS s [48, 49, 120] = [] ↔ cubOk s := by
  rw [trim_nil]
  unfold cubOk
  constructor
  · intro h b hb
    have := h b hb
    simpa using this
  · intro h b hb
    have := h b hb
    simpa using this
theorem trim01x (s : Str) (h : s.length ≤ 9223372036854775807) : FSpec Tryz.prog T 50 [.s s, .s [48, 49, 120]] (fun d _ => d = .s (Lib.trimS s [48, 49, 120])) :=
  trim_at Tryz.vxTrim (by kernel_rfl) Tryz.call50 s [48, 49, 120] h (by decide) (by decide)
@[reducible] def tcl (f : Str) (op form lo hi len : Int) (pat : Str) : List D := [.s f, .i .i64 op, .i .i64 form, .i .i64 lo, .i .i64 hi, .i .i64 len, .s pat]
set_option maxRecDepth 100000 in
set_option maxHeartbeats 16000000 in
theorem fit_at (f : Str) (op form lo hi len : Int) (pat : Str) (b : Nat) (h1b : 1 ≤ b) (hb : b ≤ 32) (hs : pat.length ≤ 1000000000000) : FSpec Tryz.prog T 70 [.agg (tcl f op form lo hi len pat), .i .i64 (b : Nat)] (fun d _ => d = .i .i64 (errT ⟨f, op, form, lo, hi, len, pat⟩ b)) := by
  have htb := tw62 (show b ≤ 62 by omega)
  have htop := top_at b (by omega)
  have htrim := trim01x pat (by omega)
  refine FSpec.of_ok tok Tryz.func70 rfl Tryz.call70 (by simp) ?_
  by_cases hF : FormOk ⟨f, op, form, lo, hi, len, pat⟩
  · obtain ⟨hA, hP⟩ := id hF
    dsimp only at hA hP
    have h4 : form = 1 ∨ form = 2 ∨ form = 3 ∨ form = 4 := by omega
    by_cases hV : ValOk ⟨f, op, form, lo, hi, len, pat⟩ b
    · have hV2 := hV
      unfold ValOk at hV2
      dsimp only at hV2
      obtain ⟨vl, rfl⟩ : ∃ v : Nat, lo = v := ⟨lo.toNat, by omega⟩
      obtain ⟨vh, rfl⟩ : ∃ v : Nat, hi = v := ⟨hi.toNat, by omega⟩
      obtain ⟨vn, rfl⟩ : ∃ v : Nat, len = v := ⟨len.toNat, by omega⟩
      rcases h4 with rfl | rfl | rfl | rfl
      · have hp := hP (by decide)
        subst hp
        rw [errT_ok hF hV (by simp) (by simp) (by simp)]
        (try (conv => whnf)); repeat' (first | refine Ok.seq ?_ | ((first | refine Ok.region tok ?_ | refine Ok.region_draw tok follows (by kernel_rfl) ?_ | refine Ok.cond ?_ | refine Ok.skip ?_ | refine Ok.ret ?_ | refine ⟨_, by assumption, ?_⟩); conv => whnf) | (refine ⟨fun _ => ?_, fun _ => ?_⟩ <;> (conv => whnf) <;> (try (exfalso; omega))) | ((first | refine aJ ?_ | refine ⟨_, rfl, ?_⟩); conv => whnf) | fail)
        all_goals first
          | (exfalso; omega)
          | (rename_i h; exact absurd rfl h)
          | (refine Or.inl ?_; (conv => whnf)
             rfl)
      · have hp := hP (by decide)
        subst hp
        have htop2 := top_at (b - vn) (by omega)
        rw [show ((b - vn : Nat) : Int) = (b : Int) - (vn : Int) by omega] at htop2
        by_cases hm : vl % tw (b - vn) = 0
        · rw [errT_ok hF hV (by simpa using hm) (by simp) (by simp)]
          (try (conv => whnf)); repeat' (first | (refine and_i ⟨rfl, by omega⟩ ⟨rfl, by omega⟩ ?_; (conv => whnf)) | refine Ok.seq ?_ | ((first | refine Ok.region tok ?_ | refine Ok.region_draw tok follows (by kernel_rfl) ?_ | refine Ok.cond ?_ | refine Ok.skip ?_ | refine Ok.ret ?_ | refine nI ?_ | refine ⟨_, by assumption, ?_⟩); conv => whnf) | (refine ⟨fun _ => ?_, fun _ => ?_⟩ <;> (conv => whnf) <;> (try (exfalso; omega))) | ((first | refine aJ ?_ | refine ⟨_, rfl, ?_⟩); conv => whnf) | fail)
          all_goals first
            | (exfalso; omega)
            | (rename_i h; exact absurd rfl h)
            | (refine Or.inl ?_; (conv => whnf)
               rfl)
        · rw [errT_pre hF hV ⟨rfl, by simpa using hm⟩]
          (try (conv => whnf)); repeat' (first | (refine and_i ⟨rfl, by omega⟩ ⟨rfl, by omega⟩ ?_; (conv => whnf)) | refine Ok.seq ?_ | ((first | refine Ok.region tok ?_ | refine Ok.region_draw tok follows (by kernel_rfl) ?_ | refine Ok.cond ?_ | refine Ok.skip ?_ | refine Ok.ret ?_ | refine nI ?_ | refine ⟨_, by assumption, ?_⟩); conv => whnf) | (refine ⟨fun _ => ?_, fun _ => ?_⟩ <;> (conv => whnf) <;> (try (exfalso; omega))) | ((first | refine aJ ?_ | refine ⟨_, rfl, ?_⟩); conv => whnf) | fail)
          all_goals first
            | (exfalso; omega)
            | (rename_i h; exact absurd rfl h)
            | (refine Or.inl ?_; (conv => whnf)
               rfl)
      · have hp := hP (by decide)
        subst hp
        by_cases hr : (vh : Int) < vl
        · rw [errT_rng hF hV (by simp) ⟨rfl, hr⟩]
          (try (conv => whnf)); repeat' (first | refine Ok.seq ?_ | ((first | refine Ok.region tok ?_ | refine Ok.region_draw tok follows (by kernel_rfl) ?_ | refine Ok.cond ?_ | refine Ok.skip ?_ | refine Ok.ret ?_ | refine ⟨_, by assumption, ?_⟩); conv => whnf) | (refine ⟨fun _ => ?_, fun _ => ?_⟩ <;> (conv => whnf) <;> (try (exfalso; omega))) | ((first | refine aJ ?_ | refine ⟨_, rfl, ?_⟩); conv => whnf) | fail)
          all_goals first
            | (exfalso; omega)
            | (rename_i h; exact absurd rfl h)
            | (refine Or.inl ?_; (conv => whnf)
               rfl)
        · rw [errT_ok hF hV (by simp) (fun h => hr h.2) (by simp)]
          (try (conv => whnf)); repeat' (first | refine Ok.seq ?_ | ((first | refine Ok.region tok ?_ | refine Ok.region_draw tok follows (by kernel_rfl) ?_ | refine Ok.cond ?_ | refine Ok.skip ?_ | refine Ok.ret ?_ | refine ⟨_, by assumption, ?_⟩); conv => whnf) | (refine ⟨fun _ => ?_, fun _ => ?_⟩ <;> (conv => whnf) <;> (try (exfalso; omega))) | ((first | refine aJ ?_ | refine ⟨_, rfl, ?_⟩); conv => whnf) | fail)
          all_goals first
            | (exfalso; omega)
            | (rename_i h; exact absurd rfl h)
            | (refine Or.inl ?_; (conv => whnf)
               rfl)
      · have htd := trim_dig pat
        by_cases hd : DigOk pat b
        · rw [errT_ok hF hV (by simp) (by simp) (fun h => h.2 hd)]
          have hd2 := hd
          obtain ⟨hd1, hdc⟩ := hd2
          (try (conv => whnf)); repeat' (first | refine Ok.seq ?_ | ((first | refine Ok.region tok ?_ | refine Ok.region_draw tok follows (by kernel_rfl) ?_ | refine Ok.cond ?_ | refine Ok.skip ?_ | refine Ok.ret ?_ | refine ⟨_, by assumption, ?_⟩); conv => whnf) | (refine Or.inl ?_; (conv => whnf); (repeat (refine aI ?_; conv => whnf)); refine ⟨_, htrim, rfl, ?_⟩; conv => whnf) | (refine ⟨fun _ => ?_, fun _ => ?_⟩ <;> (conv => whnf) <;> (try (exfalso; omega))) | ((first | refine aJ ?_ | refine ⟨_, rfl, ?_⟩); conv => whnf) | fail)
          all_goals first
            | (exfalso; omega)
            | (rename_i h; exact absurd (htd.2 hdc) h)
            | (refine Or.inl ?_; (conv => whnf)
               rfl)
        · rw [errT_dig hF hV (by simp) (by simp) ⟨rfl, hd⟩]
          (try (conv => whnf)); repeat' (first | refine Ok.seq ?_ | ((first | refine Ok.region tok ?_ | refine Ok.region_draw tok follows (by kernel_rfl) ?_ | refine Ok.cond ?_ | refine Ok.skip ?_ | refine Ok.ret ?_ | refine ⟨_, by assumption, ?_⟩); conv => whnf) | (refine Or.inl ?_; (conv => whnf); (repeat (refine aI ?_; conv => whnf)); refine ⟨_, htrim, rfl, ?_⟩; conv => whnf) | (refine ⟨fun _ => ?_, fun _ => ?_⟩ <;> (conv => whnf) <;> (try (exfalso; omega))) | ((first | refine aJ ?_ | refine ⟨_, rfl, ?_⟩); conv => whnf) | fail)
          all_goals first
            | (exfalso; omega)
            | (refine Or.inl ?_; (conv => whnf)
               rfl)
            | (rename_i h1 h2; exact absurd ⟨by omega, htd.1 (by simpa using h2)⟩ hd)
    · have hV2 := hV
      unfold ValOk at hV2
      dsimp only at hV2
      rw [errT_val hF hV]
      rcases h4 with rfl | rfl | rfl | rfl
      all_goals
        (try (conv => whnf)); repeat' (first | refine Ok.seq ?_ | ((first | refine Ok.region tok ?_ | refine Ok.region_draw tok follows (by kernel_rfl) ?_ | refine Ok.cond ?_ | refine Ok.skip ?_ | refine Ok.ret ?_ | refine ⟨_, by assumption, ?_⟩); conv => whnf) | (refine ⟨fun _ => ?_, fun _ => ?_⟩ <;> (conv => whnf) <;> (try (exfalso; omega))) | ((first | refine aJ ?_ | refine ⟨_, rfl, ?_⟩); conv => whnf) | fail)
      all_goals first
        | (exfalso; omega)
        | (rename_i h; exact absurd (hP (by decide)) h)
        | (refine Or.inl ?_; (conv => whnf)
           rfl)
        | trace_state
  · rw [errT_form hF]
    by_cases hf4 : 1 ≤ form ∧ form ≤ 4
    · by_cases hp : form ≠ 4 → pat = []
      · have hA : ¬ (1 ≤ op ∧ op ≤ 6 ∧ 1 ≤ form ∧ form ≤ 4 ∧ (op ≤ 2 ∨ form = 1) ∧ (form = 4 → lo = 0 ∧ hi = 0 ∧ len = 0) ∧ (form = 1 ∨ form = 2 → hi = 0) ∧ (form = 1 ∨ form = 3 → len = 0)) := fun h => hF ⟨h, hp⟩
        have h4 : form = 1 ∨ form = 2 ∨ form = 3 ∨ form = 4 := by omega
        rcases h4 with rfl | rfl | rfl | rfl
        all_goals
          (try (conv => whnf)); repeat' (first | refine Ok.seq ?_ | ((first | refine Ok.region tok ?_ | refine Ok.cond ?_ | refine Ok.skip ?_ | refine Ok.ret ?_); conv => whnf) | (refine ⟨fun _ => ?_, fun _ => ?_⟩ <;> (conv => whnf) <;> (try (exfalso; omega))) | ((first | refine aJ ?_ | refine ⟨_, rfl, ?_⟩); conv => whnf) | fail)
        all_goals first
          | (exfalso; omega)
          | (rename_i h; exact absurd (hp (by decide)) h)
          | (refine Or.inl ?_; (conv => whnf)
             rfl)
          | trace_state
      · have h4 : form = 1 ∨ form = 2 ∨ form = 3 := by omega
        have hpn : pat ≠ [] := fun e => hp fun _ => e
        rcases h4 with rfl | rfl | rfl
        all_goals
          (try (conv => whnf)); repeat' (first | refine Ok.seq ?_ | ((first | refine Ok.region tok ?_ | refine Ok.region_draw tok follows (by kernel_rfl) ?_ | refine Ok.cond ?_ | refine Ok.skip ?_ | refine Ok.ret ?_ | refine nI ?_ | refine ⟨_, by assumption, ?_⟩); conv => whnf) | (refine ⟨fun _ => ?_, fun _ => ?_⟩ <;> (conv => whnf) <;> (try (exfalso; omega))) | ((first | refine aJ ?_ | refine ⟨_, rfl, ?_⟩); conv => whnf) | fail)
        all_goals first
          | (exfalso; omega)
          | (refine Or.inl ?_; (conv => whnf)
             rfl)
          | (rename_i h; exact absurd (by simpa using h) hpn)
          | exact absurd (Classical.not_not.1 (by assumption)) hpn
          | (refine absurd ?_ hpn; rename_i h1 h2; simpa using h1)
          | (refine absurd ?_ hpn; rename_i h1 h2 h3; simpa using h1)
          | (refine absurd ?_ hpn; rename_i h1 h2 h3 h4; simpa using h1)
          | (refine absurd ?_ hpn; rename_i h1 h2 h3 h4 h5; simpa using h1)
          | trace_state
    · (try (conv => whnf)); repeat' (first | refine Ok.seq ?_ | ((first | refine Ok.region tok ?_ | refine Ok.cond ?_ | refine Ok.ret ?_); conv => whnf) | (refine ⟨fun _ => ?_, fun _ => ?_⟩ <;> (conv => whnf) <;> (try (exfalso; omega))) | fail)
      all_goals first
        | (exfalso; omega)
        | (refine Or.inl ?_; (conv => whnf)
           rfl)
        | trace_state
end Go.Proofs.YtagmibogginaaaaGreatDoor
namespace Go.Proofs.YtagmibogginaaaaGreatDoor
open Go Go.Vx Go.Shelf
def plI (nm : Str) (l : List Fd) : Int := if findI nm l 0 < 0 then -1 else (wid (l.take (findI nm l 0).toNat) : Nat)
theorem plI_none {nm : Str} {l : List Fd} (h : findI nm l 0 = -1) : plI nm l = -1 := by unfold plI; rw [if_pos (by omega)]
theorem plI_some {nm : Str} {l : List Fd} {i : Nat} (h : findI nm l 0 = i) : plI nm l = (wid (l.take i) : Nat) := by unfold plI; rw [if_neg (by omega), h]; rfl
set_option maxHeartbeats 4000000 in
theorem tplace_at (l : List Fd) (r : List (List D)) (nm : Str) (hl : l.length ≤ 1000) (hlay : LayF l) : FSpec Tryz.prog T 45 [.lst 34 (l.map frow) r, .s nm] (fun d _ => d = .tup [.i .i64 (plI nm l), .i .i64 (findI nm l 0)]) := by
  have h1 : (l.map frow).length = l.length := by simp
  have hw := wid_le hlay
  refine FSpec.of_ok tok Tryz.func45 rfl Tryz.call45 (by simp) ?_
  (try (conv => whnf)); repeat' (first | refine Ok.seq ?_ | (refine Ok.region tok ?_; conv => whnf) | refine Ok.block ?_ | fail)
  refine Ok.loopU [0, 1] [6, 7] 0 0 (fun (i : Nat) => [.i .i64 (wid (l.take i) : Nat), .i .i64 (i : Nat)]) (fun _ b => b) (fun _ r => r) (fun (i : Nat) => i ≤ l.length ∧ findI nm l 0 = findI nm (l.drop i) i) (fun (i : Nat) => l.length - i) (0) (⟨Nat.zero_le _, rfl⟩) ?_; (conv => whnf); refine ⟨by ((conv => whnf); first | rfl | (simp [envCat, List.take_of_length_le, nrow, frow, bcell, srow, tcells]; done) | (simp [envCat, List.take_of_length_le, nrow, frow, bcell, srow, tcells]; rw [IntKind.wrap_i64]; omega)), ?_⟩
  rintro i ⟨hi, hf⟩
  (conv => whnf)
  by_cases hil : i < l.length
  · obtain ⟨c, hc⟩ : ∃ c, l[i]? = some c := ⟨_, List.getElem?_eq_getElem hil⟩
    have hcI : l[((i : Nat) : Int).toNat]? = some c := hc
    have hcb := hlay c (List.mem_of_getElem? hc)
    have hsn := wid_snoc hc
    have hwt := wid_le (l := l.take i) fun x hx => hlay x (List.mem_of_mem_take hx)
    have hti : (l.take i).length = i := by simp; omega
    rw [fdrop_at hc] at hf
    (try (conv => whnf)); repeat' (first | refine Ok.seq ?_ | ((first | refine Ok.region tok ?_ | refine Ok.cond ?_); conv => whnf) | refine Ok.block ?_ | ((first | refine Ok.skip ?_ | refine Ok.ret ?_ | refine nI ?_ | refine ix _ (by assumption) ?_); conv => whnf) | (refine ⟨fun _ => ?_, fun _ => ?_⟩ <;> (conv => whnf) <;> (try (exfalso; omega))) | fail)
    all_goals first
      | (exfalso; omega)
      | (rename_i h
         have hfi : findI nm l 0 = (i : Nat) := by
           rw [hf]
           unfold findI
           rw [if_pos h]
         refine Or.inl ?_; (conv => whnf)
         rw [plI_some hfi, hfi]
         rfl)
      | (rename_i h
         refine ⟨i + 1, by omega, ⟨by omega, ?_⟩, ?_⟩
         · rw [hf]
           conv => lhs; unfold findI
           rw [if_neg h]
         · rw [hsn, show ((wid (l.take i) + c.bits.toNat : Nat) : Int) = (wid (l.take i) : Int) + c.bits by omega]
           (conv => whnf)
           rfl)
      | trace_state
  · have hie : i = l.length := by omega
    subst hie
    rw [List.drop_length] at hf
    have hfi : findI nm l 0 = -1 := hf
    (try (conv => whnf)); repeat' (first | refine Ok.seq ?_ | ((first | refine Ok.region tok ?_ | refine Ok.cond ?_ | refine Ok.exit ?_ | refine Ok.ret ?_); conv => whnf) | (refine ⟨fun _ => ?_, fun _ => ?_⟩ <;> (conv => whnf) <;> (try (exfalso; omega))) | fail)
    all_goals first
      | (exfalso; omega)
      | (refine Or.inl ?_; (conv => whnf)
         rw [plI_none hfi, hfi]
         rfl)
      | trace_state
theorem form_nil (f : Str) (op form lo hi len : Int) : FormOk ⟨f, op, form, lo, hi, len, []⟩ ↔ (1 ≤ op ∧ op ≤ 6 ∧ 1 ≤ form ∧ form ≤ 4 ∧ (op ≤ 2 ∨ form = 1) ∧ (form = 4 → lo = 0 ∧ hi = 0 ∧ len = 0) ∧ (form = 1 ∨ form = 2 → hi = 0) ∧ (form = 1 ∨ form = 3 → len = 0)) :=
  ⟨fun h => h.a, fun h => ⟨h, fun _ => rfl⟩⟩
theorem form_ne (f : Str) (op form lo hi len : Int) {pat : Str} (h : pat ≠ []) : FormOk ⟨f, op, form, lo, hi, len, pat⟩ ↔ (1 ≤ op ∧ op ≤ 6 ∧ 1 ≤ form ∧ form ≤ 4 ∧ (op ≤ 2 ∨ form = 1) ∧ (form = 4 → lo = 0 ∧ hi = 0 ∧ len = 0) ∧ (form = 1 ∨ form = 2 → hi = 0) ∧ (form = 1 ∨ form = 3 → len = 0) ∧ form = 4) := by
  constructor
  · intro h2
    have h3 : form = 4 := Classical.byContradiction fun e => h (h2.p e)
    have := h2.a
    dsimp only at this
    omega
  · intro h2
    exact ⟨by dsimp only; omega, fun h3 => absurd h2.2.2.2.2.2.2.2.2 h3⟩
set_option maxRecDepth 100000 in
set_option maxHeartbeats 16000000 in
theorem tform_at (f : Str) (op form lo hi len : Int) (pat : Str) : FSpec Tryz.prog T 74 [.agg (tcl f op form lo hi len pat)] (fun d _ => d = .b (FormOk ⟨f, op, form, lo, hi, len, pat⟩)) := by
  refine FSpec.of_ok tok Tryz.func74 rfl Tryz.call74 (by simp) ?_
  by_cases hp : pat = []
  · subst hp
    have hfn := propext (form_nil f op form lo hi len)
    (try (conv => whnf)); repeat' (first | refine Ok.seq ?_ | ((first | refine Ok.region tok ?_ | refine Ok.cond ?_ | refine Ok.skip ?_ | refine Ok.ret ?_); conv => whnf) | (refine ⟨fun _ => ?_, fun _ => ?_⟩ <;> (conv => whnf) <;> (try (exfalso; omega))) | fail)
    all_goals first
      | (exfalso; omega)
      | (rename_i h; exact absurd rfl h)
      | (refine Or.inl ?_; (conv => whnf)
         refine congrArg D.b ?_
         rw [hfn]
         exact propext ⟨fun h => by first | exact h.elim | omega, fun h => by first | exact trivial | omega⟩)
      | trace_state
  · have hfn := propext (form_ne f op form lo hi len hp)
    (try (conv => whnf)); repeat' (first | refine Ok.seq ?_ | ((first | refine Ok.region tok ?_ | refine Ok.cond ?_ | refine Ok.skip ?_ | refine Ok.ret ?_); conv => whnf) | (refine ⟨fun _ => ?_, fun _ => ?_⟩ <;> (conv => whnf) <;> (try (exfalso; omega))) | fail)
    all_goals first
      | (exfalso; omega)
      | (refine Or.inl ?_; (conv => whnf)
         refine congrArg D.b ?_
         rw [hfn]
         exact propext ⟨fun h => by first | exact h.elim | omega, fun h => by first | exact trivial | omega⟩)
      | (refine absurd ?_ hp; rename_i h1; simpa using h1)
      | (refine absurd ?_ hp; rename_i h1 h2; simpa using h1)
      | (refine absurd ?_ hp; rename_i h1 h2 h3; simpa using h1)
      | (refine absurd ?_ hp; rename_i h1 h2 h3 h4; simpa using h1)
      | trace_state
open Classical in
/-- The error of a test over a layout. -/
noncomputable def errF (l : List Fd) (t : Tst) : Int := if findI t.f l 0 < 0 then 41 else match l[(findI t.f l 0).toNat]? with | some c => errT t c.bits.toNat | none => 0
theorem errF_none {l : List Fd} {t : Tst} (h : findI t.f l 0 = -1) : errF l t = 41 := by unfold errF; rw [if_pos (by omega)]
theorem errF_some {l : List Fd} {t : Tst} {k : Nat} {c : Fd} (h : findI t.f l 0 = (k : Nat)) (hc : l[k]? = some c) : errF l t = errT t c.bits.toNat := by
  unfold errF; rw [if_neg (by omega), h, Int.toNat_natCast, hc]
theorem find_cases (nm : Str) (l : List Fd) : findI nm l 0 = -1 ∨ ∃ (k : Nat) (c : Fd), findI nm l 0 = (k : Nat) ∧ l[k]? = some c := by
  obtain ⟨_, h1, h2⟩ := findI_ge nm l 0
  by_cases h : findI nm l 0 < 0
  · exact .inl (by omega)
  · exact .inr ⟨(findI nm l 0).toNat, l[(findI nm l 0).toNat]'(by omega), by omega, List.getElem?_eq_getElem _⟩
theorem u8_dig (x : UInt8) : (x = 48 ∨ x = 49 ∨ x = 120) ↔ (x.toNat = 48 ∨ x.toNat = 49 ∨ x.toNat = 120) := by
  rw [← UInt8.toNat_inj, ← UInt8.toNat_inj, ← UInt8.toNat_inj]; rfl
set_option maxRecDepth 100000 in
set_option maxHeartbeats 32000000 in
theorem rtest_at (l : List Fd) (r : List (List D)) (hl : l.length ≤ 1000) (hlay : LayF l) (f : Str) (op form lo hi len : Int) (pat : Str) (hs : pat.length ≤ 1000000000000) :
    FSpec Tryz.prog T 44 [.lst 34 (l.map frow) r, .agg (tcl f op form lo hi len pat)] (fun d _ => d = .i .i64 (errF l ⟨f, op, form, lo, hi, len, pat⟩)) := by
  have h1 : (l.map frow).length = l.length := by simp
  have hpl := tplace_at l r f hl hlay
  have hform := tform_at f op form lo hi len pat
  refine FSpec.of_ok tok Tryz.func44 rfl Tryz.call44 (by simp) ?_
  rcases find_cases f l with hfi | ⟨k, c, hfi, hc⟩
  · rw [errF_none hfi]
    rw [hfi] at hpl
    (try (conv => whnf)); repeat' (first | refine Ok.seq ?_ | ((first | refine Ok.region tok ?_ | refine Ok.cond ?_ | refine Ok.ret ?_); conv => whnf) | (refine Or.inl ?_; (conv => whnf); (repeat (refine aI ?_; conv => whnf)); refine ⟨_, hpl, rfl, ?_⟩; conv => whnf) | (refine ⟨fun _ => ?_, fun _ => ?_⟩ <;> (conv => whnf) <;> (try (exfalso; omega))) | fail)
    all_goals first
      | (exfalso; omega)
      | (refine Or.inl ?_; (conv => whnf)
         rfl)
      | trace_state
  have hcb := hlay _ (List.mem_of_getElem? hc)
  obtain ⟨b, hcB⟩ : ∃ b : Nat, c.bits = (b : Nat) := ⟨c.bits.toNat, by omega⟩
  have hcI : l[((k : Nat) : Int).toNat]? = some c := hc
  have hkl := (List.getElem?_eq_some_iff.1 hc).1
  rw [errF_some hfi hc, show c.bits.toNat = b by omega]
  rw [hfi] at hpl
  have hb : b ≤ 32 := by omega
  have htb := tw62 (show b ≤ 62 by omega)
  have htop := rtop_at b (by omega)
  rw [← hcB] at htop
  by_cases hF : FormOk ⟨f, op, form, lo, hi, len, pat⟩
  · obtain ⟨hA, hP⟩ := id hF
    dsimp only at hA hP
    have h4 : form = 1 ∨ form = 2 ∨ form = 3 ∨ form = 4 := by omega
    by_cases hV : ValOk ⟨f, op, form, lo, hi, len, pat⟩ b
    · have hV2 := hV
      unfold ValOk at hV2
      dsimp only at hV2
      obtain ⟨vl, rfl⟩ : ∃ v : Nat, lo = v := ⟨lo.toNat, by omega⟩
      obtain ⟨vh, rfl⟩ : ∃ v : Nat, hi = v := ⟨hi.toNat, by omega⟩
      obtain ⟨vn, rfl⟩ : ∃ v : Nat, len = v := ⟨len.toNat, by omega⟩
      rcases h4 with rfl | rfl | rfl | rfl
      · rw [errT_ok hF hV (by simp) (by simp) (by simp)]
        (try (conv => whnf)); repeat' (first | (refine ⟨fun h => absurd hF h, fun _ => ?_⟩; (conv => whnf)) | refine Ok.seq ?_ | ((first | refine Ok.region tok ?_ | refine Ok.region_draw tok follows (by kernel_rfl) ?_ | refine Ok.cond ?_ | refine Ok.skip ?_ | refine Ok.ret ?_ | refine ix _ (by assumption) ?_ | refine ⟨_, by assumption, ?_⟩); conv => whnf) | (refine Or.inl ?_; (conv => whnf); (repeat (refine aI ?_; conv => whnf)); refine ⟨_, hpl, rfl, ?_⟩; conv => whnf) | (refine Or.inl ?_; (conv => whnf); (repeat (refine aI ?_; conv => whnf)); refine ⟨_, hform, rfl, ?_⟩; conv => whnf) | (refine ⟨fun _ => ?_, fun _ => ?_⟩ <;> (conv => whnf) <;> (try (exfalso; omega))) | (refine aJ ?_; conv => whnf) | fail)
        all_goals first
          | (exfalso; omega)
          | (rename_i h; exact absurd hF h)
          | (refine Or.inl ?_; (conv => whnf)
             rfl)
          | trace_state
      · have htop2 := rtop_at (b - vn) (by omega)
        rw [show ((b - vn : Nat) : Int) = c.bits - (vn : Int) by omega] at htop2
        by_cases hm : vl % tw (b - vn) = 0
        · rw [errT_ok hF hV (by simpa using hm) (by simp) (by simp)]
          (try (conv => whnf)); repeat' (first | (refine ⟨fun h => absurd hF h, fun _ => ?_⟩; (conv => whnf)) | (refine and_i ⟨rfl, by omega⟩ ⟨rfl, by omega⟩ ?_; (conv => whnf)) | refine Ok.seq ?_ | ((first | refine Ok.region tok ?_ | refine Ok.region_draw tok follows (by kernel_rfl) ?_ | refine Ok.cond ?_ | refine Ok.skip ?_ | refine Ok.ret ?_ | refine nI ?_ | refine ix _ (by assumption) ?_ | refine ⟨_, by assumption, ?_⟩); conv => whnf) | (refine Or.inl ?_; (conv => whnf); (repeat (refine aI ?_; conv => whnf)); refine ⟨_, hpl, rfl, ?_⟩; conv => whnf) | (refine Or.inl ?_; (conv => whnf); (repeat (refine aI ?_; conv => whnf)); refine ⟨_, hform, rfl, ?_⟩; conv => whnf) | (refine ⟨fun _ => ?_, fun _ => ?_⟩ <;> (conv => whnf) <;> (try (exfalso; omega))) | (refine aJ ?_; conv => whnf) | fail)
          all_goals first
            | (exfalso; omega)
            | (rename_i h; exact absurd hF h)
            | (refine Or.inl ?_; (conv => whnf)
               rfl)
            | trace_state
        · rw [errT_pre hF hV ⟨rfl, by simpa using hm⟩]
          (try (conv => whnf)); repeat' (first | (refine ⟨fun h => absurd hF h, fun _ => ?_⟩; (conv => whnf)) | (refine and_i ⟨rfl, by omega⟩ ⟨rfl, by omega⟩ ?_; (conv => whnf)) | refine Ok.seq ?_ | ((first | refine Ok.region tok ?_ | refine Ok.region_draw tok follows (by kernel_rfl) ?_ | refine Ok.cond ?_ | refine Ok.skip ?_ | refine Ok.ret ?_ | refine nI ?_ | refine ix _ (by assumption) ?_ | refine ⟨_, by assumption, ?_⟩); conv => whnf) | (refine Or.inl ?_; (conv => whnf); (repeat (refine aI ?_; conv => whnf)); refine ⟨_, hpl, rfl, ?_⟩; conv => whnf) | (refine Or.inl ?_; (conv => whnf); (repeat (refine aI ?_; conv => whnf)); refine ⟨_, hform, rfl, ?_⟩; conv => whnf) | (refine ⟨fun _ => ?_, fun _ => ?_⟩ <;> (conv => whnf) <;> (try (exfalso; omega))) | (refine aJ ?_; conv => whnf) | fail)
          all_goals first
            | (exfalso; omega)
            | (rename_i h; exact absurd hF h)
            | (refine Or.inl ?_; (conv => whnf)
               rfl)
            | trace_state
      · by_cases hr : (vh : Int) < vl
        · rw [errT_rng hF hV (by simp) ⟨rfl, hr⟩]
          (try (conv => whnf)); repeat' (first | (refine ⟨fun h => absurd hF h, fun _ => ?_⟩; (conv => whnf)) | refine Ok.seq ?_ | ((first | refine Ok.region tok ?_ | refine Ok.region_draw tok follows (by kernel_rfl) ?_ | refine Ok.cond ?_ | refine Ok.skip ?_ | refine Ok.ret ?_ | refine ix _ (by assumption) ?_ | refine ⟨_, by assumption, ?_⟩); conv => whnf) | (refine Or.inl ?_; (conv => whnf); (repeat (refine aI ?_; conv => whnf)); refine ⟨_, hpl, rfl, ?_⟩; conv => whnf) | (refine Or.inl ?_; (conv => whnf); (repeat (refine aI ?_; conv => whnf)); refine ⟨_, hform, rfl, ?_⟩; conv => whnf) | (refine ⟨fun _ => ?_, fun _ => ?_⟩ <;> (conv => whnf) <;> (try (exfalso; omega))) | (refine aJ ?_; conv => whnf) | fail)
          all_goals first
            | (exfalso; omega)
            | (rename_i h; exact absurd hF h)
            | (refine Or.inl ?_; (conv => whnf)
               rfl)
            | trace_state
        · rw [errT_ok hF hV (by simp) (fun h => hr h.2) (by simp)]
          (try (conv => whnf)); repeat' (first | (refine ⟨fun h => absurd hF h, fun _ => ?_⟩; (conv => whnf)) | refine Ok.seq ?_ | ((first | refine Ok.region tok ?_ | refine Ok.region_draw tok follows (by kernel_rfl) ?_ | refine Ok.cond ?_ | refine Ok.skip ?_ | refine Ok.ret ?_ | refine ix _ (by assumption) ?_ | refine ⟨_, by assumption, ?_⟩); conv => whnf) | (refine Or.inl ?_; (conv => whnf); (repeat (refine aI ?_; conv => whnf)); refine ⟨_, hpl, rfl, ?_⟩; conv => whnf) | (refine Or.inl ?_; (conv => whnf); (repeat (refine aI ?_; conv => whnf)); refine ⟨_, hform, rfl, ?_⟩; conv => whnf) | (refine ⟨fun _ => ?_, fun _ => ?_⟩ <;> (conv => whnf) <;> (try (exfalso; omega))) | (refine aJ ?_; conv => whnf) | fail)
          all_goals first
            | (exfalso; omega)
            | (rename_i h; exact absurd hF h)
            | (refine Or.inl ?_; (conv => whnf)
               rfl)
            | trace_state
      · by_cases hpb : pat.length = b
        · (try (conv => whnf)); repeat' (first | (refine ⟨fun h => absurd hF h, fun _ => ?_⟩; (conv => whnf)) | refine Ok.seq ?_ | ((first | refine Ok.region tok ?_ | refine Ok.region_draw tok follows (by kernel_rfl) ?_ | refine Ok.cond ?_); conv => whnf) | refine Ok.block ?_ | ((first | refine Ok.skip ?_ | refine ix _ (by assumption) ?_ | refine ⟨_, by assumption, ?_⟩); conv => whnf) | (refine Or.inl ?_; (conv => whnf); (repeat (refine aI ?_; conv => whnf)); refine ⟨_, hpl, rfl, ?_⟩; conv => whnf) | (refine Or.inl ?_; (conv => whnf); (repeat (refine aI ?_; conv => whnf)); refine ⟨_, hform, rfl, ?_⟩; conv => whnf) | (refine ⟨fun _ => ?_, fun _ => ?_⟩ <;> (conv => whnf) <;> (try (exfalso; omega))) | (refine aJ ?_; conv => whnf) | fail)
          all_goals first
            | (exfalso; omega)
            | (rename_i h; exact absurd hF h)
            | skip
          refine Ok.loopU [3, 8] [9] 0 1 (fun (i : Nat) => [.i .i64 (i : Nat)]) (fun _ b => b) (fun _ r => r) (fun (i : Nat) => i ≤ b ∧ cubOk (pat.take i)) (fun (i : Nat) => b - i) (0) (⟨Nat.zero_le _, by simp [cubOk]⟩) ?_; (conv => whnf); refine ⟨by ((conv => whnf); first | rfl | (simp [envCat, List.take_of_length_le, nrow, frow, bcell, srow, tcells]; done) | (simp [envCat, List.take_of_length_le, nrow, frow, bcell, srow, tcells]; rw [IntKind.wrap_i64]; omega)), ?_⟩
          rintro i ⟨hi, hok⟩
          (conv => whnf)
          by_cases hib : i < b
          · obtain ⟨x, hx⟩ : ∃ x, pat[i]? = some x := ⟨_, List.getElem?_eq_getElem (by omega)⟩
            have hxI : pat[((i : Nat) : Int).toNat]? = some x := hx
            have hxm := List.mem_of_getElem? hx
            by_cases hxd : x = 48 ∨ x = 49 ∨ x = 120
            · have hxn := (u8_dig x).1 hxd
              (try (conv => whnf)); repeat' (first | refine Ok.seq ?_ | ((first | refine Ok.region tok ?_ | refine Ok.cond ?_); conv => whnf) | refine Ok.block ?_ | ((first | refine Ok.skip ?_ | refine nI ?_ | refine ⟨_, by assumption, ?_⟩); conv => whnf) | (refine ⟨fun _ => ?_, fun _ => ?_⟩ <;> (conv => whnf) <;> (try (exfalso; omega))) | ((first | refine aJ ?_ | refine num_any ?_); conv => whnf) | fail)
              all_goals first
                | (exfalso; omega)
                | (refine ⟨i + 1, by omega, ⟨by omega, cubOk_step hok hx hxd⟩, ?_⟩
                   (conv => whnf)
                   rfl)
                | trace_state
            · have hxn : ¬ (x.toNat = 48 ∨ x.toNat = 49 ∨ x.toNat = 120) := fun h => hxd ((u8_dig x).2 h)
              rw [errT_dig hF hV (by simp) (by simp) ⟨rfl, fun hd => hxd (hd.2 x hxm)⟩]
              (try (conv => whnf)); repeat' (first | refine Ok.seq ?_ | ((first | refine Ok.region tok ?_ | refine Ok.cond ?_); conv => whnf) | refine Ok.block ?_ | ((first | refine Ok.skip ?_ | refine Ok.ret ?_ | refine ⟨_, by assumption, ?_⟩); conv => whnf) | (refine ⟨fun _ => ?_, fun _ => ?_⟩ <;> (conv => whnf) <;> (try (exfalso; omega))) | ((first | refine aJ ?_ | refine num_any ?_); conv => whnf) | fail)
              all_goals first
                | (exfalso; omega)
                | (refine Or.inl ?_; (conv => whnf)
                   rfl)
                | trace_state
          · have hie : i = b := by omega
            subst hie
            rw [List.take_of_length_le (by omega)] at hok
            rw [errT_ok hF hV (by simp) (by simp) (fun h => h.2 ⟨hpb, hok⟩)]
            (try (conv => whnf)); repeat' (first | refine Ok.seq ?_ | ((first | refine Ok.region tok ?_ | refine Ok.cond ?_ | refine Ok.exit ?_ | refine Ok.ret ?_); conv => whnf) | (refine ⟨fun _ => ?_, fun _ => ?_⟩ <;> (conv => whnf) <;> (try (exfalso; omega))) | fail)
            all_goals first
              | (exfalso; omega)
              | (refine Or.inl ?_; (conv => whnf)
                 rfl)
              | trace_state
        · rw [errT_dig hF hV (by simp) (by simp) ⟨rfl, fun hd => hpb hd.1⟩]
          (try (conv => whnf)); repeat' (first | (refine ⟨fun h => absurd hF h, fun _ => ?_⟩; (conv => whnf)) | refine Ok.seq ?_ | ((first | refine Ok.region tok ?_ | refine Ok.region_draw tok follows (by kernel_rfl) ?_ | refine Ok.cond ?_ | refine Ok.skip ?_ | refine Ok.ret ?_ | refine ix _ (by assumption) ?_ | refine ⟨_, by assumption, ?_⟩); conv => whnf) | (refine Or.inl ?_; (conv => whnf); (repeat (refine aI ?_; conv => whnf)); refine ⟨_, hpl, rfl, ?_⟩; conv => whnf) | (refine Or.inl ?_; (conv => whnf); (repeat (refine aI ?_; conv => whnf)); refine ⟨_, hform, rfl, ?_⟩; conv => whnf) | (refine ⟨fun _ => ?_, fun _ => ?_⟩ <;> (conv => whnf) <;> (try (exfalso; omega))) | (refine aJ ?_; conv => whnf) | fail)
          all_goals first
            | (exfalso; omega)
            | (rename_i h; exact absurd hF h)
            | (refine Or.inl ?_; (conv => whnf)
               rfl)
            | trace_state
    · have hV2 := hV
      unfold ValOk at hV2
      dsimp only at hV2
      rw [errT_val hF hV]
      (try (conv => whnf)); repeat' (first | (refine ⟨fun h => absurd hF h, fun _ => ?_⟩; (conv => whnf)) | refine Ok.seq ?_ | ((first | refine Ok.region tok ?_ | refine Ok.region_draw tok follows (by kernel_rfl) ?_ | refine Ok.cond ?_ | refine Ok.skip ?_ | refine Ok.ret ?_ | refine ix _ (by assumption) ?_ | refine ⟨_, by assumption, ?_⟩); conv => whnf) | (refine Or.inl ?_; (conv => whnf); (repeat (refine aI ?_; conv => whnf)); refine ⟨_, hpl, rfl, ?_⟩; conv => whnf) | (refine Or.inl ?_; (conv => whnf); (repeat (refine aI ?_; conv => whnf)); refine ⟨_, hform, rfl, ?_⟩; conv => whnf) | (refine ⟨fun _ => ?_, fun _ => ?_⟩ <;> (conv => whnf) <;> (try (exfalso; omega))) | (refine aJ ?_; conv => whnf) | fail)
      all_goals first
        | (exfalso; omega)
        | (rename_i h; exact absurd hF h)
        | (refine Or.inl ?_; (conv => whnf)
           rfl)
        | trace_state
  · rw [errT_form hF]
    (try (conv => whnf)); repeat' (first | (refine ⟨fun _ => ?_, fun h => absurd (Classical.not_not.1 h) hF⟩; (conv => whnf)) | refine Ok.seq ?_ | ((first | refine Ok.region tok ?_ | refine Ok.cond ?_ | refine Ok.skip ?_ | refine Ok.ret ?_); conv => whnf) | (refine Or.inl ?_; (conv => whnf); (repeat (refine aI ?_; conv => whnf)); refine ⟨_, hpl, rfl, ?_⟩; conv => whnf) | (refine Or.inl ?_; (conv => whnf); (repeat (refine aI ?_; conv => whnf)); refine ⟨_, hform, rfl, ?_⟩; conv => whnf) | (refine ⟨fun _ => ?_, fun _ => ?_⟩ <;> (conv => whnf) <;> (try (exfalso; omega))) | fail)
    all_goals first
      | (exfalso; omega)
      | (rename_i h; exact absurd h hF)
      | (refine Or.inl ?_; (conv => whnf)
         rfl)
      | trace_state
end Go.Proofs.YtagmibogginaaaaGreatDoor
namespace Go.Proofs.YtagmibogginaaaaGreatDoor
open Go Go.Vx Go.Shelf
theorem xs_bits (n : Nat) (i : Nat) : car (xsT n) i = false ∧ one (xsT n) i = false := by
  by_cases h : i < n
  · have e : (xsT n)[i]? = some 120 := by simp [xsT, List.getElem?_replicate, h]
    rw [(at_b e).1, (at_b e).2]
    exact ⟨rfl, rfl⟩
  · exact at_out (by simp [xsT]; omega)
theorem xs_wof {f : Nat → Bool} (h : ∀ i, f i = false) (k : Nat) : wof f k = 0#64 := BitVec.eq_of_getLsbD_eq fun i hi => by rw [wof_get _ _ _ hi, h]; simp
theorem crow_xs (n : Nat) : crow (xsT n) = [.i .i64 n, .i .u64 0, .i .u64 0, .i .u64 0, .i .u64 0, .i .u64 0, .i .u64 0, .i .u64 0, .i .u64 0] := by
  have h1 := xs_wof (fun i => (xs_bits n i).1)
  have h2 := xs_wof (fun i => (xs_bits n i).2)
  simp only [crow, cells9, h1, h2, xsT_len]
  rfl
theorem xs_ct {n : Nat} (h : n ≤ 256) : CT (xsT n) := ⟨by simp [xsT]; omega, fun b hb => by rw [(List.mem_replicate.1 hb).2]; simp⟩
theorem xs_cn {n : Nat} (h : n ≤ 256) (h0 : 1 ≤ n) : CN (xsT n) := ⟨xs_ct h, fun e => by have := congrArg List.length e; rw [xsT_len] at this; simp at this; omega⟩
theorem xall_at (n : Nat) (h : n ≤ 256) (h0 : 1 ≤ n) : FSpec Tryz.prog T 115 [.i .i64 (n : Nat)] (fun d rows => d = .agg (crow (xsT n)) ∧ rows = []) := by
  refine FSpec.of_ok tok Tryz.func115 rfl Tryz.call115 (by simp) ?_
  rw [crow_xs]
  (try (conv => whnf)); repeat' (first | refine Ok.seq ?_ | ((first | refine Ok.region tok ?_ | refine Ok.cond ?_ | refine Ok.skip ?_ | refine Ok.ret ?_); conv => whnf) | (refine ⟨fun _ => ?_, fun _ => ?_⟩ <;> (conv => whnf) <;> (try (exfalso; omega))) | fail)
  all_goals first
    | (exfalso; omega)
    | (refine Or.inl ?_; (conv => whnf)
       exact ⟨rfl, rfl⟩)
theorem cur_xs {c : Str} {n i : Nat} (hc : c.length = n) (hi : i ≤ n) : curL (xsT n) c i = c.take i ++ xsT (n - i) := by
  unfold curL
  have h1 : (xsT n).drop i = xsT (n - i) := by simp [xsT]
  rw [h1]
  congr 1
  refine List.ext_getElem? fun k => ?_
  by_cases hk : k < i
  · obtain ⟨b, hb⟩ : ∃ b, c[k]? = some b := ⟨_, List.getElem?_eq_getElem (by omega)⟩
    have e1 : (xsT n)[k]? = some 120 := by simp [xsT, List.getElem?_replicate]; omega
    simp [List.getElem?_zipWith, List.getElem?_take, hk, hb, e1, ov1]
  · simp [List.getElem?_zipWith, List.getElem?_take, hk]
theorem set_xs {c : Str} {n i : Nat} (y : UInt8) (hc : c.length = n) (hi : i < n) : (c.take i ++ xsT (n - i)).set i y = c.take i ++ [y] ++ xsT (n - i - 1) := by
  have h1 : (c.take i).length = i := by simp; omega
  rw [List.set_append_right _ _ (by omega), h1, Nat.sub_self]
  obtain ⟨m, hm⟩ : ∃ m, n - i = m + 1 := ⟨n - i - 1, by omega⟩
  rw [hm, show m + 1 - 1 = m by omega]
  simp [xsT, List.replicate_succ]
theorem pc_xs {c : Str} {n i : Nat} {x : UInt8} (hc : c.length = n) (hx : c[i]? = some x) (h : x ≠ 120) : pcT (xsT n) c i = some (c.take i ++ [97 - x] ++ xsT (n - i - 1)) := by
  have hi : i < n := by have := (List.getElem?_eq_some_iff.1 hx).1; omega
  rw [pcT_at (a := 120) (by simp [xsT, List.getElem?_replicate, hi]) hx, if_pos ⟨rfl, h⟩, cur_xs hc (by omega), set_xs _ hc hi]
theorem pc_xs_no {c : Str} {n i : Nat} (hc : c.length = n) (hx : c[i]? = some 120) : pcT (xsT n) c i = none := by
  have hi : i < n := by have := (List.getElem?_eq_some_iff.1 hx).1; omega
  rw [pcT_at (a := 120) (by simp [xsT, List.getElem?_replicate, hi]) hx, if_neg (by simp)]
theorem split_xs {c : Str} {n : Nat} (hn : 1 ≤ n) (hn2 : n ≤ 256) (hc : CT c) (hl : c.length = n) : splitT (xsT n) c = pcsT (xsT n) c n := by
  obtain ⟨m, hm, _⟩ := cfl_some (xs_ct hn2) hc (by rw [xsT_len, hl]) (xs_cn hn2 hn).2 (fun i => by simp [cfl, xs_bits])
  unfold splitT
  rw [hm, xsT_len]
  rfl
set_option maxHeartbeats 8000000 in
theorem other_at (c : Str) (n : Nat) (hl : c.length = n) (hn : n ≤ 256) (hok : cubOk c) : FSpec Tryz.prog T 78 [.s c] (fun d rows => d = .own 0 (pcsT (xsT n) c n).length ∧ rows = [some (9, (pcsT (xsT n) c n).map srow)]) := by
  refine FSpec.of_ok tok Tryz.func78 rfl Tryz.call78 (by simp) ?_
  (try (conv => whnf)); repeat' (first | refine Ok.seq ?_ | (refine Ok.region tok ?_; conv => whnf) | refine Ok.block ?_ | fail)
  refine Ok.ghost 3 9 rfl ?_
  (conv => whnf)
  refine Ok.loopU [0] [3, 4] 1 0 (fun (i : Nat) => [.own 0 (pcsT (xsT n) c i).length, .i .i64 (i : Nat)]) (fun _ b => b) (fun (i : Nat) (_ : Vx.Rows) => [some (9, (pcsT (xsT n) c i).map srow)]) (fun (i : Nat) => i ≤ n) (fun (i : Nat) => n - i) (0) (Nat.zero_le _) ?_; (conv => whnf); refine ⟨by ((conv => whnf); first | rfl | (simp [envCat, List.take_of_length_le, nrow, frow, bcell, srow, tcells, crow]; done) | (simp [envCat, List.take_of_length_le, nrow, frow, bcell, srow, tcells, crow]; rw [IntKind.wrap_i64]; omega)), ?_⟩
  intro i hi
  have hlm : ((pcsT (xsT n) c i).map srow).length = (pcsT (xsT n) c i).length := by simp
  have hpl := pcsT_len (xsT n) c i
  (conv => whnf)
  by_cases hil : i < n
  · obtain ⟨x, hx⟩ : ∃ x, c[i]? = some x := ⟨_, List.getElem?_eq_getElem (by omega)⟩
    have hxI : c[((i : Nat) : Int).toNat]? = some x := hx
    have hti : (c.take i).length = i := by simp; omega
    have hxs := xs_at (n - i - 1) (by omega)
    rw [show ((n - i - 1 : Nat) : Int) = (c.length : Int) - (i : Int) - 1 by omega] at hxs
    have hxl := xsT_len (n - i - 1)
    rcases hok x (List.mem_of_getElem? hx) with rfl | rfl | rfl
    · have hp := pcsT_some (pc_xs hl hx (by decide))
      have e1 : (((48 : UInt8).toNat : Nat) : Int) = 48 := rfl
      (try (conv => whnf)); repeat' (first | (refine ⟨0, i, rfl, rfl, Nat.zero_le _, by omega, c.take i, by simp, ?_⟩; (conv => whnf)) | refine Ok.seq ?_ | ((first | refine Ok.region tok ?_ | refine Ok.region_plan (id := 9) tok follows [(11, 13, [12]), (11, 14, []), (13, 14, [])] [.q 0, .q 1, .q 2, .q 3, .q 4, .q 5, .q 6, .q 7, .q 8, .q 9, .q 10, .l 11, .q 12, .l 13, .l 14, .q 15] (by kernel_rfl) ?_ | refine Ok.cond ?_); conv => whnf) | refine Ok.block ?_ | ((first | refine Ok.skip ?_ | refine nI ?_ | refine ⟨_, by assumption, ?_⟩); conv => whnf) | (refine Or.inl ?_; (conv => whnf); (repeat (refine aI ?_; conv => whnf)); refine ⟨_, hxs, rfl, ?_⟩; conv => whnf) | ((first | refine Alt2.l (aI ?_) | refine ⟨_, .inl ⟨rfl, rfl⟩, ?_⟩ | refine ⟨_, _, rfl, rfl, ?_⟩); conv => whnf) | (refine ⟨fun _ => ?_, fun _ => ?_⟩ <;> (conv => whnf) <;> (try (exfalso; omega))) | (refine aJ ?_; conv => whnf) | fail)
      all_goals first
        | (exfalso; omega)
        | skip
      all_goals
        refine ⟨i + 1, by omega, by omega, ?_⟩
        rw [hp]
        (conv => whnf)
        simp [envCat]
    · have hp := pcsT_some (pc_xs hl hx (by decide))
      have e1 : (((49 : UInt8).toNat : Nat) : Int) = 49 := rfl
      (try (conv => whnf)); repeat' (first | (refine ⟨0, i, rfl, rfl, Nat.zero_le _, by omega, c.take i, by simp, ?_⟩; (conv => whnf)) | refine Ok.seq ?_ | ((first | refine Ok.region tok ?_ | refine Ok.region_plan (id := 9) tok follows [(11, 13, [12]), (11, 14, []), (13, 14, [])] [.q 0, .q 1, .q 2, .q 3, .q 4, .q 5, .q 6, .q 7, .q 8, .q 9, .q 10, .l 11, .q 12, .l 13, .l 14, .q 15] (by kernel_rfl) ?_ | refine Ok.cond ?_); conv => whnf) | refine Ok.block ?_ | ((first | refine Ok.skip ?_ | refine nI ?_ | refine ⟨_, by assumption, ?_⟩); conv => whnf) | (refine Or.inl ?_; (conv => whnf); (repeat (refine aI ?_; conv => whnf)); refine ⟨_, hxs, rfl, ?_⟩; conv => whnf) | ((first | refine Alt2.l (aI ?_) | refine ⟨_, .inl ⟨rfl, rfl⟩, ?_⟩ | refine ⟨_, _, rfl, rfl, ?_⟩); conv => whnf) | (refine ⟨fun _ => ?_, fun _ => ?_⟩ <;> (conv => whnf) <;> (try (exfalso; omega))) | (refine aJ ?_; conv => whnf) | fail)
      all_goals first
        | (exfalso; omega)
        | skip
      all_goals
        refine ⟨i + 1, by omega, by omega, ?_⟩
        rw [hp]
        (conv => whnf)
        simp [envCat]
    · have hp := pcsT_none (pc_xs_no hl hx)
      have e1 : (((120 : UInt8).toNat : Nat) : Int) = 120 := rfl
      (try (conv => whnf)); repeat' (first | refine Ok.seq ?_ | ((first | refine Ok.region tok ?_ | refine Ok.cond ?_); conv => whnf) | refine Ok.block ?_ | ((first | refine Ok.skip ?_ | refine nI ?_ | refine ⟨_, by assumption, ?_⟩); conv => whnf) | (refine ⟨fun _ => ?_, fun _ => ?_⟩ <;> (conv => whnf) <;> (try (exfalso; omega))) | (refine aJ ?_; conv => whnf) | fail)
      all_goals first
        | (exfalso; omega)
        | skip
      all_goals
        refine ⟨i + 1, by omega, by omega, ?_⟩
        rw [hp]
        (conv => whnf)
        first | rfl | simp [envCat]
  · have hie : i = n := by omega
    subst hie
    (try (conv => whnf)); repeat' (first | refine Ok.seq ?_ | ((first | refine Ok.region tok ?_ | refine Ok.cond ?_ | refine Ok.exit ?_ | refine Ok.ret ?_); conv => whnf) | (refine ⟨fun _ => ?_, fun _ => ?_⟩ <;> (conv => whnf) <;> (try (exfalso; omega))) | fail)
    all_goals first
      | (exfalso; omega)
      | (refine Or.inr (Or.inl ?_); (conv => whnf)
         exact ⟨rfl, rfl⟩)
      | trace_state
end Go.Proofs.YtagmibogginaaaaGreatDoor
namespace Go.Proofs.YtagmibogginaaaaGreatDoor
open Go Go.Vx Go.Shelf
theorem bin_take (v b n : Nat) (h : n ≤ b) : (binT v b b).take n = binT v b n := by
  unfold binT
  rw [← List.map_take, List.take_range, Nat.min_eq_left h]
theorem pfx_full (v b : Nat) : pfxT v b b = binT v b b := by unfold pfxT; rw [Nat.sub_self]; simp [xsT]
def oneTT (t : Tst) (b : Nat) : Str := if t.form = 4 then t.pat else if t.form = 2 then pfxT t.lo.toNat b t.len.toNat else pfxT t.lo.toNat b b
set_option maxHeartbeats 4000000 in
theorem one_at (f : Str) (op form hi : Int) (vl vn : Nat) (pat : Str) (b : Nat) (hb : b ≤ 32) (hvl : vl < 9223372036854775808) (hvn : vn ≤ b) : FSpec Tryz.prog T 113 [.agg (tcl f op form vl hi vn pat), .i .i64 (b : Nat)] (fun d _ => d = .s (oneTT ⟨f, op, form, vl, hi, vn, pat⟩ b)) := by
  have hp1 := prefix_at vl b vn hvl (by omega) hvn vl b vn rfl rfl rfl
  have hp2 := prefix_at vl b b hvl (by omega) (Nat.le_refl _) vl b b rfl rfl rfl
  refine FSpec.of_ok tok Tryz.func113 rfl Tryz.call113 (by simp) ?_
  unfold oneTT
  dsimp only
  (try (conv => whnf)); repeat' (first | refine Ok.seq ?_ | ((first | refine Ok.region tok ?_ | refine Ok.cond ?_); conv => whnf) | refine Ok.block ?_ | ((first | refine Ok.skip ?_ | refine Ok.ret ?_); conv => whnf) | (refine Or.inl ?_; (conv => whnf); (repeat (refine aI ?_; conv => whnf)); refine ⟨_, hp1, rfl, ?_⟩; conv => whnf) | (refine Or.inl ?_; (conv => whnf); (repeat (refine aI ?_; conv => whnf)); refine ⟨_, hp2, rfl, ?_⟩; conv => whnf) | (refine ⟨fun _ => ?_, fun _ => ?_⟩ <;> (conv => whnf) <;> (try (exfalso; omega))) | fail)
  all_goals first
    | (exfalso; omega)
    | (refine Or.inl ?_; (conv => whnf)
       first
         | (rw [if_pos (by omega)]; rfl)
         | (rw [if_neg (by omega), if_pos (by omega)]; rfl)
         | (rw [if_neg (by omega), if_neg (by omega)]; rfl))
    | trace_state
set_option maxHeartbeats 4000000 in
theorem rone_at (f : Str) (op form hi : Int) (vl vn : Nat) (pat : Str) (b : Nat) (hb : b ≤ 32) (hvl : vl < 9223372036854775808) (hvn : vn ≤ b) : FSpec Tryz.prog T 77 [.agg (tcl f op form vl hi vn pat), .i .i64 (b : Nat)] (fun d _ => d = .s (oneTT ⟨f, op, form, vl, hi, vn, pat⟩ b)) := by
  have hd := digits_at vl b hvl (by omega)
  have hx := xs_at (b - vn) (by omega)
  rw [show ((b - vn : Nat) : Int) = (b : Int) - vn by omega] at hx
  have hbl := binT_len vl b b
  have hbl2 := binT_len vl b vn
  have hxl := xsT_len (b - vn)
  refine FSpec.of_ok tok Tryz.func77 rfl Tryz.call77 (by simp) ?_
  unfold oneTT
  dsimp only
  rw [pfx_full]
  (try (conv => whnf)); repeat' (first | (refine ⟨0, vn, rfl, rfl, Nat.zero_le _, by omega, binT vl b vn, by rw [bin_take vl b vn hvn]; rfl, ?_⟩; (conv => whnf)) | refine Ok.seq ?_ | ((first | refine Ok.region tok ?_ | refine Ok.region_draw tok follows (by kernel_rfl) ?_ | refine Ok.cond ?_); conv => whnf) | refine Ok.block ?_ | ((first | refine Ok.skip ?_ | refine Ok.ret ?_ | refine nI ?_ | refine ⟨_, by assumption, ?_⟩); conv => whnf) | (refine Or.inl ?_; (conv => whnf); (repeat (refine aI ?_; conv => whnf)); refine ⟨_, hd, rfl, ?_⟩; conv => whnf) | (refine ⟨fun _ => ?_, fun _ => ?_⟩ <;> (conv => whnf) <;> (try (exfalso; omega))) | (refine aJ ?_; conv => whnf) | fail)
  all_goals first
    | (exfalso; omega)
    | (refine Or.inl ?_; (conv => whnf)
       first
         | (rw [if_pos (by omega)]; rfl)
         | (rw [if_neg (by omega), if_pos (by omega)]; rfl)
         | (rw [if_neg (by omega), if_neg (by omega)]; rfl))
    | trace_state
theorem one_len {t : Tst} {b : Nat} (h1 : t.form = 4 → t.pat.length = b) (h2 : t.len.toNat ≤ b) : (oneTT t b).length = b := by
  unfold oneTT
  split
  · rename_i h; exact h1 h
  split
  · exact pfxT_len h2
  · exact pfxT_len (Nat.le_refl _)
theorem pfx_cub (v b n : Nat) : cubOk (pfxT v b n) := by
  intro x hx
  unfold pfxT at hx
  rcases List.mem_append.1 hx with h | h
  · unfold binT at h
    obtain ⟨i, _, rfl⟩ := List.mem_map.1 h
    unfold bitC
    split <;> simp
  · rw [(List.mem_replicate.1 h).2]; simp
theorem one_cub {t : Tst} {b : Nat} (h1 : t.form = 4 → cubOk t.pat) : cubOk (oneTT t b) := by
  unfold oneTT
  split
  · rename_i h; exact h1 h
  split
  · exact pfx_cub _ _ _
  · exact pfx_cub _ _ _
set_option maxHeartbeats 4000000 in
theorem from_at (b lo H : Nat) (hb : b ≤ 32) (hH : H ≤ tw b) (hlo : lo ≤ tw b) (bI lI hI : Int) (e1 : bI = b) (e2 : lI = lo) (e3 : hI = (H : Int) - 1) :
    FSpec Tryz.prog T 76 [.i .i64 bI, .i .i64 lI, .i .i64 hI] (fun d rows => d = .own 0 (coverC b H lo).length ∧ rows = [some (9, (coverC b H lo).map srow)]) := by
  subst e1 e2 e3
  have htb := tw62 (show b ≤ 62 by omega)
  have htop := rtop_at b (by omega)
  have hh := halves_at b lo H hb hH hlo b 0 0 0 (Nat.le_refl _) (by omega) (by omega) rfl
  rw [← cover_is_halves hH] at hh
  have hcl := coverC_len (bits := b) (lo := lo) (H := H) hH
  by_cases hlt : lo < H
  · refine FSpec.of_ok tok Tryz.func76 rfl Tryz.call76 (by simp) ?_
    generalize coverC b H lo = C at *
    have hlm : (C.map srow).length = C.length := by simp
    (try (conv => whnf)); repeat' (first | refine Ok.seq ?_ | ((first | refine Ok.region tok ?_ | refine Ok.cond ?_ | refine Ok.skip ?_ | refine Ok.ret ?_); conv => whnf) | (refine Or.inl ?_; (conv => whnf); (repeat (refine aI ?_; conv => whnf)); refine ⟨_, htop, rfl, ?_⟩; conv => whnf) | (refine Or.inr (Or.inl ?_); (conv => whnf); (repeat (refine aI ?_; conv => whnf)); refine ⟨_, hh, ?_⟩; rintro _ _ ⟨rfl, rfl⟩; conv => whnf) | (refine ⟨fun _ => ?_, fun _ => ?_⟩ <;> (conv => whnf) <;> (try (exfalso; omega))) | fail)
    all_goals first
      | (exfalso; omega)
      | (refine Or.inr (Or.inl ?_); (conv => whnf)
         exact ⟨rfl, rfl⟩)
      | trace_state
  · refine FSpec.of_ok tok Tryz.func76 rfl Tryz.call76 (by simp) ?_
    rw [coverC_end (by omega)]
    (try (conv => whnf)); repeat' (first | refine Ok.seq ?_ | ((first | refine Ok.region tok ?_ | refine Ok.cond ?_ | refine Ok.ret ?_); conv => whnf) | (refine ⟨fun _ => ?_, fun _ => ?_⟩ <;> (conv => whnf) <;> (try (exfalso; omega))) | fail)
    all_goals first
      | (exfalso; omega)
      | (refine Or.inr (Or.inr ?_); (conv => whnf)
         exact ⟨rfl, rfl⟩)
      | trace_state
end Go.Proofs.YtagmibogginaaaaGreatDoor
namespace Go.Proofs.YtagmibogginaaaaGreatDoor
open Go Go.Vx Go.Shelf
def eitT (t : Tst) (b : Nat) : List Str :=
  if t.form = 3 then (if t.op = 1 then coverC b (t.hi.toNat + 1) t.lo.toNat else coverC b t.lo.toNat 0 ++ coverC b (tw b) (t.hi.toNat + 1))
  else if t.op = 1 then [oneTT t b] else splitT (xsT b) (oneTT t b)
def valT (t : Tst) (b : Nat) : List Str :=
  if t.op ≤ 2 then eitT t b else if t.op = 3 then coverC b t.lo.toNat 0 else if t.op = 4 then coverC b (t.lo.toNat + 1) 0
  else if t.op = 5 then coverC b (tw b) (t.lo.toNat + 1) else coverC b (tw b) t.lo.toNat
set_option maxHeartbeats 8000000 in
theorem either_at (f : Str) (op form : Int) (vl vh vn : Nat) (pat : Str) (b : Nat) (h0 : 1 ≤ b) (hb : b ≤ 32) (hvl : vl < tw b) (hvh : vh < tw b) (hvn : vn ≤ b) (hpl : form = 4 → pat.length = b) (hpc : form = 4 → cubOk pat) :
    FSpec Tryz.prog T 97 [.agg (tcl f op form vl vh vn pat), .i .i64 (b : Nat)] (fun d rows => d = .own 0 (eitT ⟨f, op, form, vl, vh, vn, pat⟩ b).length ∧ rows = [some (9, (eitT ⟨f, op, form, vl, vh, vn, pat⟩ b).map srow)]) := by
  have htb := tw62 (show b ≤ 62 by omega)
  have htop := top_at b (by omega)
  refine FSpec.of_ok tok Tryz.func97 rfl Tryz.call97 (by simp) ?_
  unfold eitT
  dsimp only
  simp only [Int.toNat_natCast]
  by_cases h3 : form = 3
  · rw [if_pos h3]
    by_cases h1 : op = 1
    · rw [if_pos h1]
      have hc := cover_at b vl (vh + 1) hb (by omega) (by omega) b vl vh rfl rfl (by omega)
      generalize coverC b (vh + 1) vl = C at *
      have hlm : (C.map srow).length = C.length := by simp
      (try (conv => whnf)); repeat' (first | refine Ok.seq ?_ | ((first | refine Ok.region tok ?_ | refine Ok.cond ?_ | refine Ok.ret ?_); conv => whnf) | (refine Or.inr (Or.inl ?_); (conv => whnf); (repeat (refine aI ?_; conv => whnf)); refine ⟨_, hc, ?_⟩; rintro _ _ ⟨rfl, rfl⟩; conv => whnf) | (refine ⟨fun _ => ?_, fun _ => ?_⟩ <;> (conv => whnf) <;> (try (exfalso; omega))) | fail)
      all_goals first
        | (exfalso; omega)
        | (refine Or.inr (Or.inl ?_); (conv => whnf)
           exact ⟨rfl, rfl⟩)
        | trace_state
    · rw [if_neg h1]
      have hc1 := cover_at b 0 vl hb (by omega) (by omega) b 0 ((vl : Int) - 1) rfl rfl rfl
      have hc2 := cover_at b (vh + 1) (tw b) hb (by omega) (by omega) b ((vh : Int) + 1) ((tw b : Int) - 1) rfl rfl rfl
      have hl1 := coverC_len (bits := b) (lo := 0) (H := vl) (by show vl ≤ tw b; omega)
      have hl2 := coverC_len (bits := b) (lo := vh + 1) (H := tw b) (Nat.le_refl _)
      generalize coverC b vl 0 = A at *
      generalize coverC b (tw b) (vh + 1) = B at *
      have hlA : (A.map srow).length = A.length := by simp
      have hlB : (B.map srow).length = B.length := by simp
      (try (conv => whnf)); repeat' (first | (refine ⟨B.map srow, .inl ⟨hlB.symm, rfl⟩, ?_⟩; (conv => whnf)) | refine Ok.seq ?_ | ((first | refine Ok.region tok ?_ | refine Ok.region_plan (id := 4) tok follows [(2, 4, [3]), (2, 10, [4, 3]), (4, 10, []), (2, 11, [10, 4, 3]), (7, 11, [8]), (4, 11, [10]), (10, 11, []), (2, 12, [4, 3]), (7, 12, [11, 8]), (4, 12, []), (10, 12, [11]), (11, 12, [])] [.q 0, .q 1, .q 2, .q 3, .q 5, .q 6, .q 7, .q 8, .q 9, .l 4, .l 10, .l 11, .l 12, .q 13] (by kernel_rfl) ?_ | refine Ok.cond ?_ | refine Ok.skip ?_ | refine Ok.ret ?_ | refine nI ?_); conv => whnf) | (refine Or.inl ?_; (conv => whnf); (repeat (refine aI ?_; conv => whnf)); refine ⟨_, htop, rfl, ?_⟩; conv => whnf) | (refine Or.inr (Or.inl ?_); (conv => whnf); (repeat (refine aI ?_; conv => whnf)); refine ⟨_, hc1, ?_⟩; rintro _ _ ⟨rfl, rfl⟩; conv => whnf) | (refine Or.inr (Or.inl ?_); (conv => whnf); (repeat (refine aI ?_; conv => whnf)); refine ⟨_, hc2, ?_⟩; rintro _ _ ⟨rfl, rfl⟩; conv => whnf) | ((first | refine Alt2.l (aI ?_) | refine ⟨_, _, rfl, rfl, ?_⟩); conv => whnf) | (refine ⟨fun _ => ?_, fun _ => ?_⟩ <;> (conv => whnf) <;> (try (exfalso; omega))) | (refine aJ ?_; conv => whnf) | fail)
      all_goals first
        | (exfalso; omega)
        | (refine Or.inr (Or.inl ?_); (conv => whnf)
           exact ⟨by simp; rfl, by simp⟩)
        | trace_state
  · rw [if_neg h3]
    have ho := one_at f op form vh vl vn pat b hb (by omega) hvn
    have hcl : (oneTT ⟨f, op, form, vl, vh, vn, pat⟩ b).length = b := one_len hpl (by simp; omega)
    have hcc : cubOk (oneTT ⟨f, op, form, vl, vh, vn, pat⟩ b) := one_cub hpc
    generalize oneTT ⟨f, op, form, vl, vh, vn, pat⟩ b = c at *
    have hct : CT c := ⟨by omega, hcc⟩
    by_cases h1 : op = 1
    · rw [if_pos h1]
      (try (conv => whnf)); repeat' (first | refine Ok.seq ?_ | ((first | refine Ok.region tok ?_ | refine Ok.cond ?_ | refine Ok.skip ?_ | refine Ok.ret ?_); conv => whnf) | (refine Or.inl ?_; (conv => whnf); (repeat (refine aI ?_; conv => whnf)); refine ⟨_, ho, rfl, ?_⟩; conv => whnf) | (refine ⟨fun _ => ?_, fun _ => ?_⟩ <;> (conv => whnf) <;> (try (exfalso; omega))) | fail)
      all_goals first
        | (exfalso; omega)
        | (refine Or.inr (Or.inl ?_); (conv => whnf)
           exact ⟨rfl, rfl⟩)
        | trace_state
    · rw [if_neg h1]
      have hne : c ≠ [] := fun e => by rw [e] at hcl; simp at hcl; omega
      have hpz : perr c = 0 := by unfold perr; rw [if_neg (by omega), if_pos ⟨hct, hne⟩]
      have hpa := parse_at c
      rw [zer_of ⟨hct, hne⟩, hpz] at hpa
      have hsp := split_at (xsT b) c (xs_cn (by omega) h0) hct
      have hPc := splitT_cn (xs_cn (show b ≤ 256 by omega) h0) hct
      have hPl := splitT_len (c := xsT b) (d := c) (by rw [xsT_len]; omega)
      generalize splitT (xsT b) c = P at *
      have hlP : (P.map crow).length = P.length := by simp
      (try (conv => whnf)); repeat' (first | refine Ok.seq ?_ | ((first | refine Ok.region tok ?_ | refine Ok.region_plan (id := 10) tok follows [(2, 3, []), (1, 3, [])] [.q 0, .q 2, .q 5, .l 1, .l 3, .q 4] (by kernel_rfl) ?_ | refine Ok.cond ?_); conv => whnf) | refine Ok.block ?_ | (refine Ok.skip ?_; conv => whnf) | (refine Or.inl ?_; (conv => whnf); (repeat (refine aI ?_; conv => whnf)); refine ⟨_, ho, rfl, ?_⟩; conv => whnf) | (refine Or.inr (Or.inl ?_); (conv => whnf); (repeat (refine aI ?_; conv => whnf)); refine ⟨_, hpa, ?_⟩; rintro _ _ ⟨rfl, rfl⟩; conv => whnf) | (refine Or.inr (Or.inl ?_); (conv => whnf); (repeat (refine aI ?_; conv => whnf)); refine ⟨_, xall_at b (by omega) h0, ?_⟩; rintro _ _ ⟨rfl, rfl⟩; conv => whnf) | (refine Or.inr (Or.inl ?_); (conv => whnf); (repeat (refine aI ?_; conv => whnf)); refine ⟨_, hsp , ?_⟩; rintro _ _ ⟨rm, rfl, rfl⟩ <;> (conv => whnf)) | (refine ⟨fun _ => ?_, fun _ => ?_⟩ <;> (conv => whnf) <;> (try (exfalso; omega))) | fail)
      all_goals first
        | (exfalso; omega)
        | skip
      refine Ok.ghost 8 9 rfl ?_
      (conv => whnf)
      refine Ok.loopU [52, 53] [8, 54] 1 2 (fun (i : Nat) => [.own 0 i, .i .i64 (i : Nat)]) (fun _ b => b) (fun (i : Nat) (_ : Vx.Rows) => [some (9, (P.take i).map srow)]) (fun (i : Nat) => i ≤ P.length) (fun (i : Nat) => P.length - i) (0) (Nat.zero_le _) ?_; (conv => whnf); refine ⟨by ((conv => whnf); first | rfl | (simp [envCat, List.take_of_length_le, nrow, frow, bcell, srow, tcells, crow]; done) | (simp [envCat, List.take_of_length_le, nrow, frow, bcell, srow, tcells, crow]; rw [IntKind.wrap_i64]; omega)), ?_⟩
      intro i hi
      have hti : ((P.take i).map srow).length = i := by simp; omega
      (conv => whnf)
      by_cases hil : i < P.length
      · obtain ⟨x, hx⟩ : ∃ x, P[i]? = some x := ⟨_, List.getElem?_eq_getElem hil⟩
        have hxI : P[((i : Nat) : Int).toNat]? = some x := hx
        have hxt := text_at x (hPc x (List.mem_of_getElem? hx)).1.1
        have hsn : (P.take (i + 1)).map srow = (P.take i).map srow ++ [srow x] := by rw [take_snoc hx, List.map_append]; rfl
        (try (conv => whnf)); repeat' (first | refine Ok.seq ?_ | ((first | refine Ok.region tok ?_ | refine Ok.cond ?_); conv => whnf) | refine Ok.block ?_ | ((first | refine Ok.skip ?_ | refine nI ?_ | refine ix _ (by assumption) ?_); conv => whnf) | (refine Or.inl ?_; (conv => whnf); (repeat (refine aI ?_; conv => whnf)); refine ⟨_, hxt, rfl, ?_⟩; conv => whnf) | ((first | refine Alt2.l (aI ?_) | refine ⟨_, .inl ⟨rfl, rfl⟩, ?_⟩ | refine ⟨_, _, rfl, rfl, ?_⟩); conv => whnf) | (refine ⟨fun _ => ?_, fun _ => ?_⟩ <;> (conv => whnf) <;> (try (exfalso; omega))) | (refine aJ ?_; conv => whnf) | fail)
        all_goals first
          | (exfalso; omega)
          | skip
        refine ⟨i + 1, by omega, by omega, ?_⟩
        rw [hsn]
        (conv => whnf)
        simp [envCat]
        omega
      · have hie : i = P.length := by omega
        subst hie
        rw [List.take_length]
        (try (conv => whnf)); repeat' (first | refine Ok.seq ?_ | ((first | refine Ok.region tok ?_ | refine Ok.cond ?_ | refine Ok.exit ?_ | refine Ok.ret ?_); conv => whnf) | (refine ⟨fun _ => ?_, fun _ => ?_⟩ <;> (conv => whnf) <;> (try (exfalso; omega))) | fail)
        all_goals first
          | (exfalso; omega)
          | (refine Or.inr (Or.inl ?_); (conv => whnf)
             exact ⟨rfl, rfl⟩)
          | trace_state
set_option maxHeartbeats 8000000 in
theorem values_at (f : Str) (op form : Int) (vl vh vn : Nat) (pat : Str) (b : Nat) (h0 : 1 ≤ b) (hb : b ≤ 32) (ho : 1 ≤ op ∧ op ≤ 6) (hvl : vl < tw b) (hvh : vh < tw b) (hvn : vn ≤ b) (hpl : form = 4 → pat.length = b) (hpc : form = 4 → cubOk pat) :
    FSpec Tryz.prog T 72 [.agg (tcl f op form vl vh vn pat), .i .i64 (b : Nat)] (fun d rows => d = .own 0 (valT ⟨f, op, form, vl, vh, vn, pat⟩ b).length ∧ rows = [some (9, (valT ⟨f, op, form, vl, vh, vn, pat⟩ b).map srow)]) := by
  have htb := tw62 (show b ≤ 62 by omega)
  have htop := top_at b (by omega)
  refine FSpec.of_ok tok Tryz.func72 rfl Tryz.call72 (by simp) ?_
  unfold valT
  dsimp only
  simp only [Int.toNat_natCast]
  by_cases h2 : op ≤ 2
  · rw [if_pos h2]
    have he := either_at f op form vl vh vn pat b h0 hb hvl hvh hvn hpl hpc
    generalize eitT ⟨f, op, form, vl, vh, vn, pat⟩ b = C at *
    have hlm : (C.map srow).length = C.length := by simp
    (try (conv => whnf)); repeat' (first | refine Ok.seq ?_ | ((first | refine Ok.region tok ?_ | refine Ok.region_draw tok follows (by kernel_rfl) ?_ | refine Ok.cond ?_); conv => whnf) | refine Ok.block ?_ | ((first | refine Ok.skip ?_ | refine Ok.exit ?_ | refine Ok.ret ?_); conv => whnf) | (refine Or.inr (Or.inl ?_); (conv => whnf); (repeat (refine aI ?_; conv => whnf)); refine ⟨_, he, ?_⟩; rintro _ _ ⟨rfl, rfl⟩; conv => whnf) | (refine ⟨fun _ => ?_, fun _ => ?_⟩ <;> (conv => whnf) <;> (try (exfalso; omega))) | fail)
    all_goals first
      | (exfalso; omega)
      | (refine Or.inr (Or.inl ?_); (conv => whnf)
         exact ⟨rfl, rfl⟩)
      | trace_state
  rw [if_neg h2]
  by_cases h3 : op = 3
  · rw [if_pos h3]
    have hc := cover_at b 0 vl hb (by omega) (by omega) b 0 ((vl : Int) - 1) rfl rfl rfl
    generalize coverC b vl 0 = C at *
    have hlm : (C.map srow).length = C.length := by simp
    (try (conv => whnf)); repeat' (first | refine Ok.seq ?_ | ((first | refine Ok.region tok ?_ | refine Ok.region_draw tok follows (by kernel_rfl) ?_ | refine Ok.cond ?_); conv => whnf) | refine Ok.block ?_ | ((first | refine Ok.skip ?_ | refine Ok.exit ?_ | refine Ok.ret ?_ | refine nI ?_); conv => whnf) | (refine Or.inr (Or.inl ?_); (conv => whnf); (repeat (refine aI ?_; conv => whnf)); refine ⟨_, hc, ?_⟩; rintro _ _ ⟨rfl, rfl⟩; conv => whnf) | (refine ⟨fun _ => ?_, fun _ => ?_⟩ <;> (conv => whnf) <;> (try (exfalso; omega))) | fail)
    all_goals first
      | (exfalso; omega)
      | (refine Or.inr (Or.inl ?_); (conv => whnf)
         exact ⟨rfl, rfl⟩)
      | trace_state
  rw [if_neg h3]
  by_cases h4 : op = 4
  · rw [if_pos h4]
    have hc := cover_at b 0 (vl + 1) hb (by omega) (by omega) b 0 ((vl : Int) + 1 - 1) rfl rfl (by omega)
    generalize coverC b (vl + 1) 0 = C at *
    have hlm : (C.map srow).length = C.length := by simp
    (try (conv => whnf)); repeat' (first | refine Ok.seq ?_ | ((first | refine Ok.region tok ?_ | refine Ok.region_draw tok follows (by kernel_rfl) ?_ | refine Ok.cond ?_); conv => whnf) | refine Ok.block ?_ | ((first | refine Ok.skip ?_ | refine Ok.exit ?_ | refine Ok.ret ?_ | refine nI ?_); conv => whnf) | (refine Or.inr (Or.inl ?_); (conv => whnf); (repeat (refine aI ?_; conv => whnf)); refine ⟨_, hc, ?_⟩; rintro _ _ ⟨rfl, rfl⟩; conv => whnf) | (refine ⟨fun _ => ?_, fun _ => ?_⟩ <;> (conv => whnf) <;> (try (exfalso; omega))) | fail)
    all_goals first
      | (exfalso; omega)
      | (refine Or.inr (Or.inl ?_); (conv => whnf)
         exact ⟨rfl, rfl⟩)
      | trace_state
  rw [if_neg h4]
  by_cases h5 : op = 5
  · rw [if_pos h5]
    have hc := cover_at b (vl + 1) (tw b) hb (by omega) (by omega) b ((vl : Int) + 1) ((tw b : Int) - 1) rfl rfl rfl
    generalize coverC b (tw b) (vl + 1) = C at *
    have hlm : (C.map srow).length = C.length := by simp
    (try (conv => whnf)); repeat' (first | refine Ok.seq ?_ | ((first | refine Ok.region tok ?_ | refine Ok.region_draw tok follows (by kernel_rfl) ?_ | refine Ok.cond ?_); conv => whnf) | refine Ok.block ?_ | ((first | refine Ok.skip ?_ | refine Ok.exit ?_ | refine Ok.ret ?_ | refine nI ?_); conv => whnf) | (refine Or.inl ?_; (conv => whnf); (repeat (refine aI ?_; conv => whnf)); refine ⟨_, htop, rfl, ?_⟩; conv => whnf) | (refine Or.inr (Or.inl ?_); (conv => whnf); (repeat (refine aI ?_; conv => whnf)); refine ⟨_, hc, ?_⟩; rintro _ _ ⟨rfl, rfl⟩; conv => whnf) | (refine ⟨fun _ => ?_, fun _ => ?_⟩ <;> (conv => whnf) <;> (try (exfalso; omega))) | fail)
    all_goals first
      | (exfalso; omega)
      | (refine Or.inr (Or.inl ?_); (conv => whnf)
         exact ⟨rfl, rfl⟩)
      | trace_state
  rw [if_neg h5]
  have hc := cover_at b vl (tw b) hb (by omega) (by omega) b ((vl : Int) - 1 + 1) ((tw b : Int) - 1) rfl (by omega) rfl
  generalize coverC b (tw b) vl = C at *
  have hlm : (C.map srow).length = C.length := by simp
  (try (conv => whnf)); repeat' (first | refine Ok.seq ?_ | ((first | refine Ok.region tok ?_ | refine Ok.region_draw tok follows (by kernel_rfl) ?_ | refine Ok.cond ?_); conv => whnf) | refine Ok.block ?_ | ((first | refine Ok.skip ?_ | refine Ok.exit ?_ | refine Ok.ret ?_ | refine nI ?_); conv => whnf) | (refine Or.inl ?_; (conv => whnf); (repeat (refine aI ?_; conv => whnf)); refine ⟨_, htop, rfl, ?_⟩; conv => whnf) | (refine Or.inr (Or.inl ?_); (conv => whnf); (repeat (refine aI ?_; conv => whnf)); refine ⟨_, hc, ?_⟩; rintro _ _ ⟨rfl, rfl⟩; conv => whnf) | (refine ⟨fun _ => ?_, fun _ => ?_⟩ <;> (conv => whnf) <;> (try (exfalso; omega))) | fail)
  all_goals first
    | (exfalso; omega)
    | (refine Or.inr (Or.inl ?_); (conv => whnf)
       exact ⟨rfl, rfl⟩)
    | trace_state
set_option maxHeartbeats 16000000 in
theorem rat_at (f : Str) (op form : Int) (vl vh vn : Nat) (pat : Str) (b : Nat) (h0 : 1 ≤ b) (hb : b ≤ 32) (ho : 1 ≤ op ∧ op ≤ 6) (hvl : vl < tw b) (hvh : vh < tw b) (hvn : vn ≤ b) (hpl : form = 4 → pat.length = b) (hpc : form = 4 → cubOk pat) :
    FSpec Tryz.prog T 47 [.agg (tcl f op form vl vh vn pat), .i .i64 (b : Nat)] (fun d rows => d = .own 0 (valT ⟨f, op, form, vl, vh, vn, pat⟩ b).length ∧ rows = [some (9, (valT ⟨f, op, form, vl, vh, vn, pat⟩ b).map srow)]) := by
  have htb := tw62 (show b ≤ 62 by omega)
  have htop := rtop_at b (by omega)
  refine FSpec.of_ok tok Tryz.func47 rfl Tryz.call47 (by simp) ?_
  unfold valT
  dsimp only
  simp only [Int.toNat_natCast]
  by_cases h2 : op ≤ 2
  · rw [if_pos h2]
    unfold eitT
    dsimp only
    simp only [Int.toNat_natCast]
    by_cases hf3 : form = 3
    · rw [if_pos hf3]
      by_cases h1 : op = 1
      · rw [if_pos h1]
        have hc := from_at b vl (vh + 1) hb (by omega) (by omega) b vl vh rfl rfl (by omega)
        generalize coverC b (vh + 1) vl = C at *
        have hlm : (C.map srow).length = C.length := by simp
        (try (conv => whnf)); repeat' (first | refine Ok.seq ?_ | ((first | refine Ok.region tok ?_ | refine Ok.cond ?_); conv => whnf) | refine Ok.block ?_ | ((first | refine Ok.skip ?_ | refine Ok.ret ?_); conv => whnf) | (refine Or.inr (Or.inl ?_); (conv => whnf); (repeat (refine aI ?_; conv => whnf)); refine ⟨_, hc, ?_⟩; rintro _ _ ⟨rfl, rfl⟩; conv => whnf) | (refine ⟨fun _ => ?_, fun _ => ?_⟩ <;> (conv => whnf) <;> (try (exfalso; omega))) | fail)
        all_goals first
          | (exfalso; omega)
          | (refine Or.inr (Or.inl ?_); (conv => whnf)
             exact ⟨rfl, rfl⟩)
          | trace_state
      · rw [if_neg h1]
        have hc1 := from_at b 0 vl hb (by omega) (by omega) b 0 ((vl : Int) - 1) rfl rfl rfl
        have hc2 := from_at b (vh + 1) (tw b) hb (by omega) (by omega) b ((vh : Int) + 1) ((tw b : Int) - 1) rfl rfl rfl
        have hl1 := coverC_len (bits := b) (lo := 0) (H := vl) (by show vl ≤ tw b; omega)
        have hl2 := coverC_len (bits := b) (lo := vh + 1) (H := tw b) (Nat.le_refl _)
        generalize coverC b vl 0 = A at *
        generalize coverC b (tw b) (vh + 1) = B at *
        have hAm : (A.map srow).length = A.length := by simp
        have hBm : (B.map srow).length = B.length := by simp
        (try (conv => whnf)); repeat' (first | refine Ok.seq ?_ | ((first | refine Ok.region tok ?_ | refine Ok.region_plan (id := 18) tok follows [(2, 6, [3]), (5, 6, [])] [.q 0, .q 1, .q 2, .q 3, .q 4, .l 5, .l 6, .q 7] (by kernel_rfl) ?_ | refine Ok.cond ?_); conv => whnf) | refine Ok.block ?_ | ((first | refine Ok.skip ?_ | refine nI ?_); conv => whnf) | (refine Or.inl ?_; (conv => whnf); (repeat (refine aI ?_; conv => whnf)); refine ⟨_, htop, rfl, ?_⟩; conv => whnf) | (refine Or.inr (Or.inl ?_); (conv => whnf); (repeat (refine aI ?_; conv => whnf)); refine ⟨_, hc1, ?_⟩; rintro _ _ ⟨rfl, rfl⟩; conv => whnf) | (refine Or.inr (Or.inl ?_); (conv => whnf); (repeat (refine aI ?_; conv => whnf)); refine ⟨_, hc2, ?_⟩; rintro _ _ ⟨rfl, rfl⟩; conv => whnf) | (refine ⟨fun _ => ?_, fun _ => ?_⟩ <;> (conv => whnf) <;> (try (exfalso; omega))) | fail)
        all_goals first
          | (exfalso; omega)
          | skip
        refine Ok.loopU [7] [6, 8] 2 1 (fun (i : Nat) => [.own 0 (A.length + i), .i .i64 (i : Nat)]) (fun _ b => b) (fun (i : Nat) (_ : Vx.Rows) => [some (9, A.map srow ++ (B.take i).map srow), some (9, B.map srow)]) (fun (i : Nat) => i ≤ B.length) (fun (i : Nat) => B.length - i) (0) (Nat.zero_le _) ?_; (conv => whnf); refine ⟨by ((conv => whnf); first | rfl | (simp [envCat, List.take_of_length_le, nrow, frow, bcell, srow, tcells, crow]; done) | (simp [envCat, List.take_of_length_le, nrow, frow, bcell, srow, tcells, crow]; rw [IntKind.wrap_i64]; omega)), ?_⟩
        intro i hi
        have hti : ((B.take i).map srow).length = i := by simp; omega
        have hap : (A.map srow ++ (B.take i).map srow).length = A.length + i := by rw [List.length_append, hAm, hti]
        (conv => whnf)
        by_cases hil : i < B.length
        · obtain ⟨c, hc⟩ : ∃ c, B[i]? = some c := ⟨_, List.getElem?_eq_getElem hil⟩
          have hcI : B[((i : Nat) : Int).toNat]? = some c := hc
          have hsn : (B.take (i + 1)).map srow = (B.take i).map srow ++ [srow c] := by rw [take_snoc hc, List.map_append]; rfl
          (try (conv => whnf)); repeat' (first | refine Ok.seq ?_ | ((first | refine Ok.region tok ?_ | refine Ok.cond ?_); conv => whnf) | refine Ok.block ?_ | ((first | refine Ok.skip ?_ | refine nI ?_ | refine Alt2.l (aI ?_) | refine rd rfl (by assumption) ?_ | refine ⟨_, .inl ⟨rfl, rfl⟩, ?_⟩ | refine ⟨_, _, rfl, rfl, ?_⟩); conv => whnf) | (refine ⟨fun _ => ?_, fun _ => ?_⟩ <;> (conv => whnf) <;> (try (exfalso; omega))) | (refine aJ ?_; conv => whnf) | fail)
          all_goals first
            | (exfalso; omega)
            | skip
          refine ⟨i + 1, by omega, by omega, ?_⟩
          rw [hsn]
          (conv => whnf)
          simp [envCat]
          omega
        · have hie : i = B.length := by omega
          subst hie
          rw [List.take_length]
          (try (conv => whnf)); repeat' (first | refine Ok.seq ?_ | ((first | refine Ok.region tok ?_ | refine Ok.cond ?_ | refine Ok.exit ?_ | refine Ok.ret ?_); conv => whnf) | (refine ⟨fun _ => ?_, fun _ => ?_⟩ <;> (conv => whnf) <;> (try (exfalso; omega))) | fail)
          all_goals first
            | (exfalso; omega)
            | (refine Or.inr (Or.inl ?_); (conv => whnf)
               exact ⟨by rw [List.length_append]; rfl, by rw [List.map_append]⟩)
            | trace_state
    · rw [if_neg hf3]
      have ho := rone_at f op form vh vl vn pat b hb (by omega) hvn
      have hcl : (oneTT ⟨f, op, form, vl, vh, vn, pat⟩ b).length = b := one_len hpl (by simp; omega)
      have hcc : cubOk (oneTT ⟨f, op, form, vl, vh, vn, pat⟩ b) := one_cub hpc
      generalize oneTT ⟨f, op, form, vl, vh, vn, pat⟩ b = c at *
      have hct : CT c := ⟨by omega, hcc⟩
      by_cases h1 : op = 1
      · rw [if_pos h1]
        (try (conv => whnf)); repeat' (first | refine Ok.seq ?_ | ((first | refine Ok.region tok ?_ | refine Ok.cond ?_); conv => whnf) | refine Ok.block ?_ | ((first | refine Ok.skip ?_ | refine Ok.ret ?_); conv => whnf) | (refine Or.inl ?_; (conv => whnf); (repeat (refine aI ?_; conv => whnf)); refine ⟨_, ho, rfl, ?_⟩; conv => whnf) | (refine ⟨fun _ => ?_, fun _ => ?_⟩ <;> (conv => whnf) <;> (try (exfalso; omega))) | fail)
        all_goals first
          | (exfalso; omega)
          | (refine Or.inr (Or.inl ?_); (conv => whnf)
             exact ⟨rfl, rfl⟩)
          | trace_state
      · rw [if_neg h1, split_xs h0 (by omega) hct hcl]
        have hoth := other_at c b hcl (by omega) hcc
        generalize pcsT (xsT b) c b = C at *
        have hlm : (C.map srow).length = C.length := by simp
        (try (conv => whnf)); repeat' (first | refine Ok.seq ?_ | ((first | refine Ok.region tok ?_ | refine Ok.cond ?_); conv => whnf) | refine Ok.block ?_ | ((first | refine Ok.skip ?_ | refine Ok.ret ?_); conv => whnf) | (refine Or.inl ?_; (conv => whnf); (repeat (refine aI ?_; conv => whnf)); refine ⟨_, ho, rfl, ?_⟩; conv => whnf) | (refine Or.inr (Or.inl ?_); (conv => whnf); (repeat (refine aI ?_; conv => whnf)); refine ⟨_, hoth, ?_⟩; rintro _ _ ⟨rfl, rfl⟩; conv => whnf) | (refine ⟨fun _ => ?_, fun _ => ?_⟩ <;> (conv => whnf) <;> (try (exfalso; omega))) | fail)
        all_goals first
          | (exfalso; omega)
          | (refine Or.inr (Or.inl ?_); (conv => whnf)
             exact ⟨rfl, rfl⟩)
          | trace_state
  rw [if_neg h2]
  by_cases h3 : op = 3
  · rw [if_pos h3]
    have hc := from_at b 0 vl hb (by omega) (by omega) b 0 ((vl : Int) - 1) rfl rfl rfl
    generalize coverC b vl 0 = C at *
    have hlm : (C.map srow).length = C.length := by simp
    (try (conv => whnf)); repeat' (first | refine Ok.seq ?_ | ((first | refine Ok.region tok ?_ | refine Ok.cond ?_); conv => whnf) | refine Ok.block ?_ | ((first | refine Ok.ret ?_ | refine nI ?_); conv => whnf) | (refine Or.inr (Or.inl ?_); (conv => whnf); (repeat (refine aI ?_; conv => whnf)); refine ⟨_, hc, ?_⟩; rintro _ _ ⟨rfl, rfl⟩; conv => whnf) | (refine ⟨fun _ => ?_, fun _ => ?_⟩ <;> (conv => whnf) <;> (try (exfalso; omega))) | fail)
    all_goals first
      | (exfalso; omega)
      | (refine Or.inr (Or.inl ?_); (conv => whnf)
         exact ⟨rfl, rfl⟩)
      | trace_state
  rw [if_neg h3]
  by_cases h4 : op = 4
  · rw [if_pos h4]
    have hc := from_at b 0 (vl + 1) hb (by omega) (by omega) b 0 (vl : Int) rfl rfl (by omega)
    generalize coverC b (vl + 1) 0 = C at *
    have hlm : (C.map srow).length = C.length := by simp
    (try (conv => whnf)); repeat' (first | refine Ok.seq ?_ | ((first | refine Ok.region tok ?_ | refine Ok.cond ?_); conv => whnf) | refine Ok.block ?_ | (refine Ok.ret ?_; conv => whnf) | (refine Or.inr (Or.inl ?_); (conv => whnf); (repeat (refine aI ?_; conv => whnf)); refine ⟨_, hc, ?_⟩; rintro _ _ ⟨rfl, rfl⟩; conv => whnf) | (refine ⟨fun _ => ?_, fun _ => ?_⟩ <;> (conv => whnf) <;> (try (exfalso; omega))) | fail)
    all_goals first
      | (exfalso; omega)
      | (refine Or.inr (Or.inl ?_); (conv => whnf)
         exact ⟨rfl, rfl⟩)
      | trace_state
  rw [if_neg h4]
  by_cases h5 : op = 5
  · rw [if_pos h5]
    have hc := from_at b (vl + 1) (tw b) hb (by omega) (by omega) b ((vl : Int) + 1) ((tw b : Int) - 1) rfl rfl rfl
    generalize coverC b (tw b) (vl + 1) = C at *
    have hlm : (C.map srow).length = C.length := by simp
    (try (conv => whnf)); repeat' (first | refine Ok.seq ?_ | ((first | refine Ok.region tok ?_ | refine Ok.region_plan (id := 7) tok follows [(2, 6, [3]), (5, 6, [])] [.q 0, .q 1, .q 2, .q 3, .q 4, .l 5, .l 6, .q 7] (by kernel_rfl) ?_ | refine Ok.cond ?_); conv => whnf) | refine Ok.block ?_ | ((first | refine Ok.ret ?_ | refine nI ?_); conv => whnf) | (refine Or.inl ?_; (conv => whnf); (repeat (refine aI ?_; conv => whnf)); refine ⟨_, htop, rfl, ?_⟩; conv => whnf) | (refine Or.inr (Or.inl ?_); (conv => whnf); (repeat (refine aI ?_; conv => whnf)); refine ⟨_, hc, ?_⟩; rintro _ _ ⟨rfl, rfl⟩; conv => whnf) | (refine ⟨fun _ => ?_, fun _ => ?_⟩ <;> (conv => whnf) <;> (try (exfalso; omega))) | fail)
    all_goals first
      | (exfalso; omega)
      | (refine Or.inr (Or.inl ?_); (conv => whnf)
         exact ⟨rfl, rfl⟩)
      | trace_state
  rw [if_neg h5]
  have hc := from_at b vl (tw b) hb (by omega) (by omega) b (vl : Int) ((tw b : Int) - 1) rfl rfl rfl
  generalize coverC b (tw b) vl = C at *
  have hlm : (C.map srow).length = C.length := by simp
  (try (conv => whnf)); repeat' (first | refine Ok.seq ?_ | ((first | refine Ok.region tok ?_ | refine Ok.region_plan (id := 9) tok follows [(2, 5, []), (4, 5, [])] [.q 0, .q 1, .q 2, .q 3, .l 4, .l 5, .q 6] (by kernel_rfl) ?_ | refine Ok.cond ?_); conv => whnf) | refine Ok.block ?_ | (refine Ok.ret ?_; conv => whnf) | (refine Or.inl ?_; (conv => whnf); (repeat (refine aI ?_; conv => whnf)); refine ⟨_, htop, rfl, ?_⟩; conv => whnf) | (refine Or.inr (Or.inl ?_); (conv => whnf); (repeat (refine aI ?_; conv => whnf)); refine ⟨_, hc, ?_⟩; rintro _ _ ⟨rfl, rfl⟩; conv => whnf) | (refine ⟨fun _ => ?_, fun _ => ?_⟩ <;> (conv => whnf) <;> (try (exfalso; omega))) | fail)
  all_goals first
    | (exfalso; omega)
    | (refine Or.inr (Or.inl ?_); (conv => whnf)
       exact ⟨rfl, rfl⟩)
    | trace_state
end Go.Proofs.YtagmibogginaaaaGreatDoor
namespace Go.Proofs.YtagmibogginaaaaGreatDoor
open Go Go.Vx Go.Shelf
inductive Tr where
  | leaf (p : Prop)
  | test (t : Tst)
  | neg (x : Tr)
  | and (x y : Tr)
  | or (x y : Tr)
def Tr.ty : Tr → Nat
  | .leaf _ => 139 | .test _ => 141 | .neg _ => 143 | .and _ _ => 147 | .or _ _ => 148
def Tr.cs : Tr → List D
  | .leaf p => [.b p] | .test t => tcells t | .neg x => [.ifc x.ty (.agg x.cs)]
  | .and x y => [.ifc x.ty (.agg x.cs), .ifc y.ty (.agg y.cs)] | .or x y => [.ifc x.ty (.agg x.cs), .ifc y.ty (.agg y.cs)]
@[reducible] def Tr.d (x : Tr) : D := .ifc x.ty (.agg x.cs)
def Tr.isO : Tr → Bool | .or _ _ => true | _ => false
def Tr.isJ : Tr → Bool | .or _ _ => true | .and _ _ => true | _ => false
def cnt : Bool → Nat | true => 1 | false => 0
def Tr.sz : Tr → Nat | .leaf _ => 1 | .test _ => 1 | .neg x => x.sz + 1 | .and x y => x.sz + y.sz + 1 | .or x y => x.sz + y.sz + 1
def Tr.nest : Tr → Nat
  | .leaf _ => 0 | .test _ => 0 | .neg x => x.nest + cnt x.isJ + 1
  | .and x y => max (x.nest + cnt x.isO) (y.nest + cnt y.isJ) | .or x y => max x.nest (y.nest + cnt y.isO)
theorem cnt_le (b : Bool) : cnt b ≤ 1 := by cases b <;> simp [cnt]
theorem nest_le (x : Tr) : x.nest ≤ 2 * x.sz := by
  induction x with
  | leaf _ => simp [Tr.nest]
  | test _ => simp [Tr.nest]
  | neg x ih => have := cnt_le x.isJ; simp only [Tr.nest, Tr.sz]; omega
  | and x y h1 h2 => have := cnt_le x.isO; have := cnt_le y.isJ; simp only [Tr.nest, Tr.sz]; omega
  | or x y h1 h2 => have := cnt_le y.isO; simp only [Tr.nest, Tr.sz]; omega
theorem bff {p : Prop} (h : ¬ p) : D.b False = D.b p := by congr 1; exact propext ⟨False.elim, h⟩
theorem btt {p : Prop} (h : p) : D.b True = D.b p := by congr 1; exact propext ⟨fun _ => h, fun _ => trivial⟩
theorem joined_at (x : Tr) : FSpec Tryz.prog T 220 [x.d] (fun d _ => d = .b (x.isJ = true)) := by
  refine FSpec.of_ok tok Tryz.func220 rfl Tryz.call220 (by simp) ?_
  cases x
  all_goals
    (try (conv => whnf)); repeat' (first | refine Ok.seq ?_ | ((first | refine Ok.region tok ?_ | refine Ok.cond ?_); conv => whnf) | refine Ok.block ?_ | ((first | refine Ok.skip ?_ | refine Ok.ret ?_); conv => whnf) | fail)
    refine Or.inl ?_; (conv => whnf)
    first | exact btt rfl | exact bff (by simp [Tr.isJ])
theorem isOr_at (x : Tr) : FSpec Tryz.prog T 228 [x.d] (fun d _ => d = .b (x.isO = true)) := by
  refine FSpec.of_ok tok Tryz.func228 rfl Tryz.call228 (by simp) ?_
  cases x
  all_goals
    (try (conv => whnf)); repeat' (first | refine Ok.seq ?_ | ((first | refine Ok.region tok ?_ | refine Ok.cond ?_); conv => whnf) | refine Ok.block ?_ | ((first | refine Ok.skip ?_ | refine Ok.ret ?_); conv => whnf) | fail)
    refine Or.inl ?_; (conv => whnf)
    first | exact btt rfl | exact bff (by simp [Tr.isO])
theorem count_at (b : Bool) : FSpec Tryz.prog T 227 [.b (b = true)] (fun d _ => d = .i .i64 (cnt b : Nat)) := by
  refine FSpec.of_ok tok Tryz.func227 rfl Tryz.call227 (by simp) ?_
  cases b
  all_goals
    (try (conv => whnf)); repeat' (first | refine Ok.seq ?_ | ((first | refine Ok.region tok ?_ | refine Ok.cond ?_ | refine Ok.skip ?_ | refine Ok.ret ?_); conv => whnf) | (refine ⟨fun _ => ?_, fun _ => ?_⟩ <;> (conv => whnf) <;> (try (exfalso; omega))) | fail)
    all_goals first
      | (rename_i h; cases h; done)
      | (rename_i h; exact absurd rfl h)
      | (refine Or.inl ?_; (conv => whnf)
         rfl)
      | trace_state
theorem mLeaf : MethC Tryz.prog "reach/expr.nesting" 139 154 := .of tok (by kernel_rfl) (by kernel_rfl) Tryz.call154
theorem mTest : MethC Tryz.prog "reach/expr.nesting" 141 204 := .of tok (by kernel_rfl) (by kernel_rfl) Tryz.call204
theorem mNot : MethC Tryz.prog "reach/expr.nesting" 143 217 := .of tok (by kernel_rfl) (by kernel_rfl) Tryz.call217
theorem mAnd : MethC Tryz.prog "reach/expr.nesting" 147 223 := .of tok (by kernel_rfl) (by kernel_rfl) Tryz.call223
theorem mOr : MethC Tryz.prog "reach/expr.nesting" 148 233 := .of tok (by kernel_rfl) (by kernel_rfl) Tryz.call233
theorem leafN (cs : List D) (p : Prop) (h : cs = [.b p]) : FSpec Tryz.prog T 154 [.agg cs] (fun d _ => d = .i .i64 0) := by
  subst h
  refine FSpec.of_ok tok Tryz.func154 rfl Tryz.call154 (by simp) ?_
  (try (conv => whnf)); repeat' (first | refine Ok.seq ?_ | ((first | refine Ok.region tok ?_ | refine Ok.ret ?_); conv => whnf) | fail)
  refine Or.inl ?_; (conv => whnf)
  rfl
theorem testN (t : Tst) : FSpec Tryz.prog T 204 [.agg (tcells t)] (fun d _ => d = .i .i64 0) := by
  refine FSpec.of_ok tok Tryz.func204 rfl Tryz.call204 (by simp) ?_
  (try (conv => whnf)); repeat' (first | refine Ok.seq ?_ | ((first | refine Ok.region tok ?_ | refine Ok.ret ?_); conv => whnf) | fail)
  refine Or.inl ?_; (conv => whnf)
  rfl
theorem deeper_at (x y : Tr) (a b : Nat) (ha : a ≤ 1) (hb : b ≤ 1) (hx : x.sz ≤ 1000) (hy : y.sz ≤ 1000) (fx fy : FuncId) (mx : MethC Tryz.prog "reach/expr.nesting" x.ty fx) (my : MethC Tryz.prog "reach/expr.nesting" y.ty fy)
    (sx : FSpec Tryz.prog T fx [.agg x.cs] (fun d _ => d = .i .i64 (x.nest : Nat))) (sy : FSpec Tryz.prog T fy [.agg y.cs] (fun d _ => d = .i .i64 (y.nest : Nat))) :
    FSpec Tryz.prog T 221 [.agg [x.d, y.d], .i .i64 (a : Nat), .i .i64 (b : Nat)] (fun d _ => d = .i .i64 (max (x.nest + a) (y.nest + b) : Nat)) := by
  have h1 := nest_le x
  have h2 := nest_le y
  refine FSpec.of_ok tok Tryz.func221 rfl Tryz.call221 (by simp) ?_
  (try (conv => whnf)); repeat' (first | refine Ok.seq ?_ | ((first | refine Ok.region tok ?_ | refine Ok.region_plan (id := 1) tok follows [(1, 2, []), (1, 7, [2]), (6, 7, []), (2, 7, []), (1, 10, [4, 2]), (6, 10, [9, 7]), (2, 10, [4]), (7, 10, [9])] [.q 0, .q 1, .q 3, .q 5, .q 6, .q 8, .l 2, .q 4, .l 7, .q 9, .l 10, .q 11] (by kernel_rfl) ?_ | refine Ok.ret ?_ | refine nI ?_ | refine ⟨_, by assumption, ?_⟩ | refine aJ ?_ | refine num_any ?_); conv => whnf) | fail)
  refine Or.inl ?_; (conv => whnf)
  refine congrArg (D.i .i64) ?_
  split <;> omega
theorem nest_at (x : Tr) (hx : x.sz ≤ 1000) : ∃ f, MethC Tryz.prog "reach/expr.nesting" x.ty f ∧ FSpec Tryz.prog T f [.agg x.cs] (fun d _ => d = .i .i64 (x.nest : Nat)) := by
  induction x with
  | leaf p => exact ⟨_, mLeaf, leafN _ p rfl⟩
  | test t => exact ⟨_, mTest, testN t⟩
  | neg x ih =>
    simp only [Tr.sz] at hx
    obtain ⟨fx, mx, sx⟩ := ih (by omega)
    have hn := nest_le x
    refine ⟨_, mNot, ?_⟩
    refine FSpec.of_ok tok Tryz.func217 rfl Tryz.call217 (by simp) ?_
    have hj := joined_at x
    cases hJ : x.isJ
    all_goals
      rw [hJ] at hj
      (try (conv => whnf)); repeat' (first | refine Ok.seq ?_ | ((first | refine Ok.region tok ?_ | refine Ok.cond ?_ | refine Ok.skip ?_ | refine Ok.ret ?_ | refine nI ?_); conv => whnf) | (refine Or.inl ?_; (conv => whnf); (repeat (refine aI ?_; conv => whnf)); refine ⟨_, hj, rfl, ?_⟩; conv => whnf) | (refine Or.inl ?_; (conv => whnf); (repeat (refine aI ?_; conv => whnf)); refine ⟨_, mx, _, sx, rfl, ?_⟩; conv => whnf) | (refine ⟨fun _ => ?_, fun _ => ?_⟩ <;> (conv => whnf) <;> (try (exfalso; omega))) | fail)
      all_goals first
        | (rename_i h; cases h; done)
        | (rename_i h; exact absurd rfl h)
        | (refine Or.inl ?_; (conv => whnf)
           show D.i .i64 _ = D.i .i64 ((x.nest + cnt x.isJ + 1 : Nat) : Int)
           rw [hJ]
           refine congrArg (D.i .i64) ?_
           simp only [cnt]
           omega)
        | trace_state
  | and x y ih1 ih2 =>
    simp only [Tr.sz] at hx
    obtain ⟨fx, mx, sx⟩ := ih1 (by omega)
    obtain ⟨fy, my, sy⟩ := ih2 (by omega)
    refine ⟨_, mAnd, ?_⟩
    refine FSpec.of_ok tok Tryz.func223 rfl Tryz.call223 (by simp) ?_
    (try (conv => whnf)); repeat' (first | refine Ok.seq ?_ | ((first | refine Ok.region tok ?_ | refine Ok.region_draw tok follows (by kernel_rfl) ?_ | refine Ok.ret ?_ | refine ⟨_, isOr_at x, rfl, ?_⟩ | refine ⟨_, joined_at y, rfl, ?_⟩ | refine ⟨_, count_at x.isO, rfl, ?_⟩ | refine ⟨_, count_at y.isJ, rfl, ?_⟩ | refine ⟨_, deeper_at x y _ _ (cnt_le _) (cnt_le _) (by omega) (by omega) fx fy mx my sx sy, rfl, ?_⟩); conv => whnf) | fail)
    refine Or.inl ?_; (conv => whnf)
    rfl
  | or x y ih1 ih2 =>
    simp only [Tr.sz] at hx
    obtain ⟨fx, mx, sx⟩ := ih1 (by omega)
    obtain ⟨fy, my, sy⟩ := ih2 (by omega)
    refine ⟨_, mOr, ?_⟩
    refine FSpec.of_ok tok Tryz.func233 rfl Tryz.call233 (by simp) ?_
    (try (conv => whnf)); repeat' (first | refine Ok.seq ?_ | ((first | refine Ok.region tok ?_ | refine Ok.region_draw tok follows (by kernel_rfl) ?_ | refine Ok.ret ?_ | refine ⟨_, isOr_at y, rfl, ?_⟩ | refine ⟨_, count_at y.isO, rfl, ?_⟩ | refine ⟨_, deeper_at x y 0 _ (by omega) (cnt_le _) (by omega) (by omega) fx fy mx my sx sy, rfl, ?_⟩); conv => whnf) | fail)
    refine Or.inl ?_; (conv => whnf)
    rfl
end Go.Proofs.YtagmibogginaaaaGreatDoor
namespace Go.Proofs.YtagmibogginaaaaGreatDoor
open Go Go.Vx Go.Shelf
theorem edrop_at {α : Type} {l : List α} {i : Nat} {x : α} (h : l[i]? = some x) : l.drop i = x :: l.drop (i + 1) := by
  obtain ⟨h1, rfl⟩ := List.getElem?_eq_some_iff.1 h
  exact List.drop_eq_getElem_cons h1
@[reducible] def qrow (x : Tr) : List D := [x.d]
def zT (t : Tst) : Prop := eqDs (tcells t) [.s [], .i .i64 0, .i .i64 0, .i .i64 0, .i .i64 0, .i .i64 0, .s []]
def shapeT (c : Nd) (rs : List Tr) : Option (List Tr) :=
  if c.kind = 1 ∨ c.kind = 2 then some (.leaf (c.kind = 1) :: rs)
  else if c.kind = 3 then some (.test c.t :: rs)
  else if c.kind = 4 then match rs with | x :: r => some (.neg x :: r) | [] => none
  else if c.kind = 5 then match rs with | y :: x :: r => some (.and x y :: r) | _ => none
  else if c.kind = 6 then match rs with | y :: x :: r => some (.or x y :: r) | _ => none
  else none
open Classical in
noncomputable def stepT (c : Nd) (rs : List Tr) : Option (List Tr) := if c.kind ≠ 3 ∧ ¬ zT c.t then none else shapeT c rs
noncomputable def buildR : List Nd → List Tr → Option (List Tr)
  | [], rs => some rs
  | c :: e, rs => match stepT c rs with | some rs' => buildR e rs' | none => none
def oneT : List Tr → Option Tr | [x] => some x | _ => none
noncomputable def bldO (e : List Nd) : Option Tr := (buildR e []).bind oneT
def szs (rs : List Tr) : Nat := (rs.map Tr.sz).sum
theorem shapeT_sz {c : Nd} {rs rs' : List Tr} (h : shapeT c rs = some rs') : szs rs' ≤ szs rs + 1 := by
  unfold shapeT at h
  split at h
  · cases h; simp [szs, Tr.sz]; omega
  split at h
  · cases h; simp [szs, Tr.sz]; omega
  split at h
  · split at h
    · cases h; simp [szs, Tr.sz]; omega
    · cases h
  split at h
  · split at h
    · cases h; simp [szs, Tr.sz]; omega
    · cases h
  split at h
  · split at h
    · cases h; simp [szs, Tr.sz]; omega
    · cases h
  · cases h
theorem buildR_sz : ∀ (e : List Nd) (rs rs' : List Tr), buildR e rs = some rs' → szs rs' ≤ szs rs + e.length
  | [], rs, rs', h => by unfold buildR at h; cases h; simp
  | c :: e, rs, rs', h => by
    unfold buildR at h
    split at h
    · rename_i r1 h1
      have h2 := buildR_sz e _ _ h
      unfold stepT at h1
      split at h1
      · cases h1
      · have := shapeT_sz h1
        simp only [List.length_cons]
        omega
    · cases h
theorem bldO_sz {e : List Nd} {x : Tr} (h : bldO e = some x) : x.sz ≤ e.length := by
  unfold bldO at h
  cases hb : buildR e [] with
  | none => rw [hb] at h; cases h
  | some l =>
    rw [hb] at h
    have := buildR_sz _ _ _ hb
    match l, h with
    | [y], h => cases h; simpa [szs] using this
def bldD : Option Tr → D | some x => .tup [x.d, .b True] | none => .tup [.nilI, .b False]
theorem bad_z {c : Nd} {rs : List Tr} (h : c.kind ≠ 3) (h2 : ¬ zT c.t) : stepT c rs = none := by unfold stepT; rw [if_pos ⟨h, h2⟩]
theorem stepT_ok {c : Nd} {rs : List Tr} (h : ¬ (c.kind ≠ 3 ∧ ¬ zT c.t)) : stepT c rs = shapeT c rs := by unfold stepT; rw [if_neg h]
theorem bld_none {e : List Nd} {c : Nd} {r : List Nd} {rs : List Tr} (h : buildR e [] = buildR (c :: r) rs) (hs : stepT c rs = none) : bldO e = none := by
  have h2 : buildR (c :: r) rs = none := by unfold buildR; rw [hs]
  unfold bldO
  rw [h, h2]
  rfl
theorem bld_step {e : List Nd} {c : Nd} {r : List Nd} {rs rs' : List Tr} (h : buildR e [] = buildR (c :: r) rs) (hs : stepT c rs = some rs') : buildR e [] = buildR r rs' := by
  rw [h]
  conv => lhs; unfold buildR
  rw [hs]
theorem push_nil (rs : List Tr) (x : Tr) : ((rs.reverse ++ []).map qrow) ++ [qrow x] = ((x :: rs).reverse ++ []).map qrow := by simp
theorem push_cons (rs : List Tr) (x y : Tr) (j : List Tr) : ((rs.reverse ++ y :: j).map qrow).set rs.length (qrow x) = ((x :: rs).reverse ++ j).map qrow := by
  rw [List.map_append, List.set_append_right _ _ (by simp)]
  simp
theorem pile_top (x : Tr) (r j : List Tr) : ((x :: r).reverse ++ j)[r.length]? = some x := by simp
theorem pile_top2 (x y : Tr) (r j : List Tr) : ((y :: x :: r).reverse ++ j)[r.length]? = some x := by simp
theorem set_top (x x' : Tr) (r j : List Tr) : ((x :: r).reverse ++ j).set r.length x' = (x' :: r).reverse ++ j := by simp
theorem set_top2 (x y x' : Tr) (r j : List Tr) : ((y :: x :: r).reverse ++ j).set r.length x' = (x' :: r).reverse ++ (y :: j) := by simp
theorem sh12 {c : Nd} {rs : List Tr} (h : c.kind = 1 ∨ c.kind = 2) : shapeT c rs = some (.leaf (c.kind = 1) :: rs) := by unfold shapeT; rw [if_pos h]
theorem sh3 {c : Nd} {rs : List Tr} (h : c.kind = 3) : shapeT c rs = some (.test c.t :: rs) := by unfold shapeT; rw [if_neg (by omega), if_pos h]
theorem sh4 {c : Nd} {rs : List Tr} (h : c.kind = 4) : shapeT c rs = match rs with | x :: r => some (.neg x :: r) | [] => none := by unfold shapeT; rw [if_neg (by omega), if_neg (by omega), if_pos h]
theorem sh5 {c : Nd} {rs : List Tr} (h : c.kind = 5) : shapeT c rs = match rs with | y :: x :: r => some (.and x y :: r) | _ => none := by unfold shapeT; rw [if_neg (by omega), if_neg (by omega), if_neg (by omega), if_pos h]
theorem sh6 {c : Nd} {rs : List Tr} (h : c.kind = 6) : shapeT c rs = match rs with | y :: x :: r => some (.or x y :: r) | _ => none := by unfold shapeT; rw [if_neg (by omega), if_neg (by omega), if_neg (by omega), if_neg (by omega), if_pos h]
theorem sh0 {c : Nd} {rs : List Tr} (h : c.kind < 1 ∨ 6 < c.kind) : shapeT c rs = none := by unfold shapeT; rw [if_neg (by omega), if_neg (by omega), if_neg (by omega), if_neg (by omega), if_neg (by omega)]
theorem bld_end {e : List Nd} {rs : List Tr} (h : buildR e [] = buildR [] rs) : bldO e = oneT rs := by
  have h2 : buildR e [] = some rs := h.trans (by unfold buildR; rfl)
  unfold bldO
  rw [h2]
  rfl
set_option maxHeartbeats 16000000 in
theorem build_at (e : List Nd) (r1 : List (List D)) (hl : e.length ≤ 1000) : FSpec Tryz.prog T 38 [.lst 56 (e.map nrow) r1] (fun d _ => d = bldD (bldO e)) := by
  have h1 : (e.map nrow).length = e.length := by simp
  refine FSpec.of_ok tok Tryz.func38 rfl Tryz.call38 (by simp) ?_
  (try (conv => whnf)); repeat' (first | refine Ok.seq ?_ | (refine Ok.region tok ?_; conv => whnf) | refine Ok.block ?_ | fail)
  refine Ok.ghost 4 58 rfl ?_
  (conv => whnf)
  refine Ok.loopU [9, 10] [4, 11] 1 0 (fun (x : Nat × Nat × List Tr × List Tr) => [.own 0 x.2.1, .i .i64 (x.1 : Nat)]) (fun _ b => b) (fun (x : Nat × Nat × List Tr × List Tr) (_ : Vx.Rows) => [some (58, (x.2.2.1.reverse ++ x.2.2.2).map qrow)]) (fun (x : Nat × Nat × List Tr × List Tr) => x.1 ≤ e.length ∧ x.2.2.1.length = x.2.1 ∧ x.2.1 + x.2.2.2.length ≤ x.1 ∧ buildR e [] = buildR (e.drop x.1) x.2.2.1) (fun (x : Nat × Nat × List Tr × List Tr) => e.length - x.1) ((0, 0, [], [])) (⟨Nat.zero_le _, rfl, Nat.le_refl _, rfl⟩) ?_; (conv => whnf); refine ⟨by ((conv => whnf); first | rfl | (simp [envCat, List.take_of_length_le, nrow, frow, tcells, qrow]; done) | (simp [envCat, List.take_of_length_le, nrow, frow, tcells, qrow]; rw [IntKind.wrap_i64]; omega)), ?_⟩
  rintro ⟨i, n, rs, j⟩ ⟨hi, hn, hj, hb⟩
  dsimp only at hi hn hj hb ⊢
  have hlm : ((rs.reverse ++ j).map qrow).length = n + j.length := by simp [hn]
  (conv => whnf)
  by_cases hil : i < e.length
  · obtain ⟨c, hc⟩ : ∃ c, e[i]? = some c := ⟨_, List.getElem?_eq_getElem hil⟩
    have hcI : e[((i : Nat) : Int).toNat]? = some c := hc
    rw [edrop_at hc] at hb
    by_cases hz : c.kind ≠ 3 ∧ ¬ zT c.t
    · rw [bld_none hb (bad_z hz.1 hz.2)]
      have hz1 := hz.1
      have hz2 := hz.2
      (try (conv => whnf)); repeat' (first | (refine ⟨_, eqTest, by kernel_rfl, ?_⟩; (conv => whnf)) | (refine ⟨fun _ => ?_, fun h => absurd (Classical.not_not.1 h) hz2⟩; (conv => whnf)) | refine Ok.seq ?_ | ((first | refine Ok.region tok ?_ | refine Ok.cond ?_); conv => whnf) | refine Ok.block ?_ | ((first | refine Ok.skip ?_ | refine Ok.ret ?_ | refine ix _ (by assumption) ?_); conv => whnf) | (refine ⟨fun _ => ?_, fun _ => ?_⟩ <;> (conv => whnf) <;> (try (exfalso; omega))) | fail)
      all_goals first
        | (exfalso; omega)
        | (refine Or.inl ?_; (conv => whnf)
           rfl)
        | trace_state
    · have hst := stepT_ok (rs := rs) hz
      have hz3 : c.kind = 3 ∨ zT c.t := by
        by_cases h : c.kind = 3
        · exact .inl h
        · exact .inr (Classical.byContradiction fun h2 => hz ⟨h, h2⟩)
      by_cases hk3 : c.kind = 3
      · have hb2 := bld_step hb (hst.trans (sh3 hk3))
        cases j with
        | nil =>
          simp only [List.length_nil, Nat.add_zero] at hj hlm
          (try (conv => whnf)); repeat' (first | (refine And.intro ⟨by kernel_rfl⟩ ?_; (conv => whnf)) | refine Ok.seq ?_ | ((first | refine Ok.region tok ?_ | refine Ok.cond ?_); conv => whnf) | refine Ok.block ?_ | ((first | refine Ok.skip ?_ | refine nI ?_ | refine ix _ (by assumption) ?_ | refine Alt2.l (aI ?_) | refine ⟨_, .inl ⟨rfl, rfl⟩, ?_⟩ | refine ⟨_, _, rfl, rfl, ?_⟩); conv => whnf) | (refine ⟨fun _ => ?_, fun _ => ?_⟩ <;> (conv => whnf) <;> (try (exfalso; omega))) | (refine aJ ?_; conv => whnf) | fail)
          all_goals first
            | (exfalso; omega)
            | skip
          all_goals
            refine ⟨(i + 1, n + 1, Tr.test c.t :: rs, []), by dsimp only; omega, ⟨by dsimp only; omega, by simp [hn], by simp; omega, hb2⟩, ?_⟩
            rw [← push_nil]
            (conv => whnf)
            simp [envCat, hn]
            try exact ⟨rfl, rfl⟩
        | cons y j =>
          simp only [List.length_cons] at hj hlm
          (try (conv => whnf)); repeat' (first | (refine And.intro ⟨by kernel_rfl⟩ ?_; (conv => whnf)) | refine Ok.seq ?_ | ((first | refine Ok.region tok ?_ | refine Ok.cond ?_); conv => whnf) | refine Ok.block ?_ | ((first | refine Ok.skip ?_ | refine nI ?_ | refine ix _ (by assumption) ?_ | refine Alt2.r (aI ?_) | refine ⟨_, .inl ⟨rfl, rfl⟩, ?_⟩ | refine ⟨_, _, rfl, rfl, ?_⟩); conv => whnf) | (refine ⟨fun _ => ?_, fun _ => ?_⟩ <;> (conv => whnf) <;> (try (exfalso; omega))) | ((first | refine aJ ?_ | refine ⟨_, rfl, ?_⟩); conv => whnf) | fail)
          all_goals first
            | (exfalso; omega)
            | skip
          all_goals
            refine ⟨(i + 1, n + 1, Tr.test c.t :: rs, j), by dsimp only; omega, ⟨by dsimp only; omega, by simp [hn], by simp; omega, hb2⟩, ?_⟩
            rw [← push_cons rs _ y j, hn]
            (conv => whnf)
            simp [envCat]
            try rfl
      have hz4 : zT c.t := hz3.resolve_left hk3
      by_cases hk1 : c.kind = 1 ∨ c.kind = 2
      · have hb2 := bld_step hb (hst.trans (sh12 hk1))
        cases j with
        | nil =>
          simp only [List.length_nil, Nat.add_zero] at hj hlm
          (try (conv => whnf)); repeat' (first | (refine ⟨_, eqTest, by kernel_rfl, ?_⟩; (conv => whnf)) | (refine ⟨fun h => absurd hz4 h, fun _ => ?_⟩; (conv => whnf)) | (refine And.intro ⟨by kernel_rfl⟩ ?_; (conv => whnf)) | refine Ok.seq ?_ | ((first | refine Ok.region tok ?_ | refine Ok.cond ?_); conv => whnf) | refine Ok.block ?_ | ((first | refine Ok.skip ?_ | refine nI ?_ | refine ix _ (by assumption) ?_ | refine Alt2.l (aI ?_) | refine ⟨_, .inl ⟨rfl, rfl⟩, ?_⟩ | refine ⟨_, _, rfl, rfl, ?_⟩); conv => whnf) | (refine ⟨fun _ => ?_, fun _ => ?_⟩ <;> (conv => whnf) <;> (try (exfalso; omega))) | (refine aJ ?_; conv => whnf) | fail)
          all_goals first
            | (exfalso; omega)
            | skip
          all_goals
            refine ⟨(i + 1, n + 1, Tr.leaf (c.kind = 1) :: rs, []), by dsimp only; omega, ⟨by dsimp only; omega, by simp [hn], by simp; omega, hb2⟩, ?_⟩
            rw [← push_nil]
            (conv => whnf)
            simp [envCat, hn]
            try exact ⟨rfl, rfl⟩
        | cons y j =>
          simp only [List.length_cons] at hj hlm
          (try (conv => whnf)); repeat' (first | (refine ⟨_, eqTest, by kernel_rfl, ?_⟩; (conv => whnf)) | (refine ⟨fun h => absurd hz4 h, fun _ => ?_⟩; (conv => whnf)) | (refine And.intro ⟨by kernel_rfl⟩ ?_; (conv => whnf)) | refine Ok.seq ?_ | ((first | refine Ok.region tok ?_ | refine Ok.cond ?_); conv => whnf) | refine Ok.block ?_ | ((first | refine Ok.skip ?_ | refine nI ?_ | refine ix _ (by assumption) ?_ | refine Alt2.r (aI ?_) | refine ⟨_, .inl ⟨rfl, rfl⟩, ?_⟩ | refine ⟨_, _, rfl, rfl, ?_⟩); conv => whnf) | (refine ⟨fun _ => ?_, fun _ => ?_⟩ <;> (conv => whnf) <;> (try (exfalso; omega))) | ((first | refine aJ ?_ | refine ⟨_, rfl, ?_⟩); conv => whnf) | fail)
          all_goals first
            | (exfalso; omega)
            | skip
          all_goals
            refine ⟨(i + 1, n + 1, Tr.leaf (c.kind = 1) :: rs, j), by dsimp only; omega, ⟨by dsimp only; omega, by simp [hn], by simp; omega, hb2⟩, ?_⟩
            rw [← push_cons rs _ y j, hn]
            (conv => whnf)
            simp [envCat]
            try rfl
      by_cases hk4 : c.kind = 4
      · match rs, hn with
        | [], hn =>
          simp only [List.length_nil] at hn
          subst hn
          rw [bld_none hb (hst.trans (sh4 hk4))]
          (try (conv => whnf)); repeat' (first | (refine ⟨_, eqTest, by kernel_rfl, ?_⟩; (conv => whnf)) | (refine ⟨fun h => absurd hz4 h, fun _ => ?_⟩; (conv => whnf)) | refine Ok.seq ?_ | ((first | refine Ok.region tok ?_ | refine Ok.cond ?_); conv => whnf) | refine Ok.block ?_ | ((first | refine Ok.skip ?_ | refine Ok.ret ?_ | refine nI ?_ | refine ix _ (by assumption) ?_); conv => whnf) | (refine ⟨fun _ => ?_, fun _ => ?_⟩ <;> (conv => whnf) <;> (try (exfalso; omega))) | fail)
          all_goals first
            | (exfalso; omega)
            | (refine Or.inl ?_; (conv => whnf)
               rfl)
            | trace_state
        | x :: r, hn =>
          simp only [List.length_cons] at hn
          obtain ⟨m, rfl⟩ : ∃ m, n = m + 1 := ⟨n - 1, by omega⟩
          have hm : r.length = m := by omega
          have hb2 := bld_step hb (hst.trans (sh4 hk4))
          have hmI : (((m + 1 : Nat) : Int) - 1).toNat = m := by omega
          have hg1 : ((x :: r).reverse ++ j)[(((m + 1 : Nat) : Int) - 1).toNat]? = some x := by rw [hmI, ← hm]; exact pile_top x r j
          (try (conv => whnf)); repeat' (first | (refine ⟨_, eqTest, by kernel_rfl, ?_⟩; (conv => whnf)) | (refine ⟨fun h => absurd hz4 h, fun _ => ?_⟩; (conv => whnf)) | (refine And.intro ⟨by kernel_rfl⟩ ?_; (conv => whnf)) | (refine rd rfl hg1 ?_; (conv => whnf)) | (refine st (Tr.neg x) hg1 (by simp) rfl ?_; (conv => whnf)) | refine Ok.seq ?_ | ((first | refine Ok.region tok ?_ | refine Ok.cond ?_); conv => whnf) | refine Ok.block ?_ | ((first | refine Ok.skip ?_ | refine nI ?_ | refine ix _ (by assumption) ?_); conv => whnf) | (refine ⟨fun _ => ?_, fun _ => ?_⟩ <;> (conv => whnf) <;> (try (exfalso; omega))) | (refine aJ ?_; conv => whnf) | fail)
          all_goals first
            | (exfalso; omega)
            | skip
          all_goals
            refine ⟨(i + 1, m + 1, Tr.neg x :: r, j), by dsimp only; omega, ⟨by dsimp only; omega, by simp [hm], by dsimp only; omega, hb2⟩, ?_⟩
            rw [hmI, ← hm, set_top]
            (conv => whnf)
            rfl
      by_cases hk5 : c.kind = 5
      · match rs, hn with
        | [], hn =>
          simp only [List.length_nil] at hn
          subst hn
          rw [bld_none hb (hst.trans (sh5 hk5))]
          (try (conv => whnf)); repeat' (first | (refine ⟨_, eqTest, by kernel_rfl, ?_⟩; (conv => whnf)) | (refine ⟨fun h => absurd hz4 h, fun _ => ?_⟩; (conv => whnf)) | refine Ok.seq ?_ | ((first | refine Ok.region tok ?_ | refine Ok.cond ?_); conv => whnf) | refine Ok.block ?_ | ((first | refine Ok.skip ?_ | refine Ok.ret ?_ | refine nI ?_ | refine ix _ (by assumption) ?_); conv => whnf) | (refine ⟨fun _ => ?_, fun _ => ?_⟩ <;> (conv => whnf) <;> (try (exfalso; omega))) | fail)
          all_goals first
            | (exfalso; omega)
            | (refine Or.inl ?_; (conv => whnf)
               rfl)
            | trace_state
        | [y], hn =>
          simp only [List.length_cons, List.length_nil] at hn
          subst hn
          rw [bld_none hb (hst.trans (sh5 hk5))]
          (try (conv => whnf)); repeat' (first | (refine ⟨_, eqTest, by kernel_rfl, ?_⟩; (conv => whnf)) | (refine ⟨fun h => absurd hz4 h, fun _ => ?_⟩; (conv => whnf)) | refine Ok.seq ?_ | ((first | refine Ok.region tok ?_ | refine Ok.cond ?_); conv => whnf) | refine Ok.block ?_ | ((first | refine Ok.skip ?_ | refine Ok.ret ?_ | refine nI ?_ | refine ix _ (by assumption) ?_); conv => whnf) | (refine ⟨fun _ => ?_, fun _ => ?_⟩ <;> (conv => whnf) <;> (try (exfalso; omega))) | fail)
          all_goals first
            | (exfalso; omega)
            | (refine Or.inl ?_; (conv => whnf)
               rfl)
            | trace_state
        | y :: x :: r, hn =>
          simp only [List.length_cons] at hn
          obtain ⟨m, rfl⟩ : ∃ m, n = m + 2 := ⟨n - 2, by omega⟩
          have hm : r.length = m := by omega
          have hb2 := bld_step hb (hst.trans (sh5 hk5))
          have hmI : (((m + 2 : Nat) : Int) - 1).toNat = m + 1 := by omega
          have hmJ : (((m + 2 : Nat) : Int) - 1 - 1).toNat = m := by omega
          have hg1 : ((y :: x :: r).reverse ++ j)[(((m + 2 : Nat) : Int) - 1).toNat]? = some y := by rw [hmI, ← hm]; exact pile_top y (x :: r) j
          have hg2 : ((y :: x :: r).reverse ++ j)[(((m + 2 : Nat) : Int) - 1 - 1).toNat]? = some x := by rw [hmJ, ← hm]; exact pile_top2 x y r j
          (try (conv => whnf)); repeat' (first | (refine ⟨_, eqTest, by kernel_rfl, ?_⟩; (conv => whnf)) | (refine ⟨fun h => absurd hz4 h, fun _ => ?_⟩; (conv => whnf)) | (refine And.intro ⟨by kernel_rfl⟩ ?_; (conv => whnf)) | (refine rd rfl hg1 ?_; (conv => whnf)) | (refine rd rfl hg2 ?_; (conv => whnf)) | (refine st (Tr.and x y) hg2 (by simp) rfl ?_; (conv => whnf)) | (refine ⟨m + 1, rfl, (by show ((m + 2 : Nat) : Int) - 1 = ((m + 1 : Nat) : Int); omega), (by omega), ?_⟩; (conv => whnf)) | refine Ok.seq ?_ | ((first | refine Ok.region tok ?_ | refine Ok.region_plan (id := 23) tok follows [(4, 11, []), (8, 11, []), (10, 11, [])] [.q 0, .q 1, .q 2, .q 3, .q 4, .q 5, .q 6, .q 7, .q 8, .q 9, .l 10, .l 11] (by kernel_rfl) ?_ | refine Ok.cond ?_); conv => whnf) | refine Ok.block ?_ | ((first | refine Ok.skip ?_ | refine nI ?_ | refine ix _ (by assumption) ?_); conv => whnf) | (refine ⟨fun _ => ?_, fun _ => ?_⟩ <;> (conv => whnf) <;> (try (exfalso; omega))) | (refine aJ ?_; conv => whnf) | fail)
          all_goals first
            | (exfalso; omega)
            | skip
          all_goals
            refine ⟨(i + 1, m + 1, Tr.and x y :: r, y :: j), by dsimp only; omega, ⟨by dsimp only; omega, by simp [hm], by simp; omega, hb2⟩, ?_⟩
            rw [hmJ, ← hm, set_top2]
            (conv => whnf)
            rfl
      by_cases hk6 : c.kind = 6
      · match rs, hn with
        | [], hn =>
          simp only [List.length_nil] at hn
          subst hn
          rw [bld_none hb (hst.trans (sh6 hk6))]
          (try (conv => whnf)); repeat' (first | (refine ⟨_, eqTest, by kernel_rfl, ?_⟩; (conv => whnf)) | (refine ⟨fun h => absurd hz4 h, fun _ => ?_⟩; (conv => whnf)) | refine Ok.seq ?_ | ((first | refine Ok.region tok ?_ | refine Ok.cond ?_); conv => whnf) | refine Ok.block ?_ | ((first | refine Ok.skip ?_ | refine Ok.ret ?_ | refine nI ?_ | refine ix _ (by assumption) ?_); conv => whnf) | (refine ⟨fun _ => ?_, fun _ => ?_⟩ <;> (conv => whnf) <;> (try (exfalso; omega))) | fail)
          all_goals first
            | (exfalso; omega)
            | (refine Or.inl ?_; (conv => whnf)
               rfl)
            | trace_state
        | [y], hn =>
          simp only [List.length_cons, List.length_nil] at hn
          subst hn
          rw [bld_none hb (hst.trans (sh6 hk6))]
          (try (conv => whnf)); repeat' (first | (refine ⟨_, eqTest, by kernel_rfl, ?_⟩; (conv => whnf)) | (refine ⟨fun h => absurd hz4 h, fun _ => ?_⟩; (conv => whnf)) | refine Ok.seq ?_ | ((first | refine Ok.region tok ?_ | refine Ok.cond ?_); conv => whnf) | refine Ok.block ?_ | ((first | refine Ok.skip ?_ | refine Ok.ret ?_ | refine nI ?_ | refine ix _ (by assumption) ?_); conv => whnf) | (refine ⟨fun _ => ?_, fun _ => ?_⟩ <;> (conv => whnf) <;> (try (exfalso; omega))) | fail)
          all_goals first
            | (exfalso; omega)
            | (refine Or.inl ?_; (conv => whnf)
               rfl)
            | trace_state
        | y :: x :: r, hn =>
          simp only [List.length_cons] at hn
          obtain ⟨m, rfl⟩ : ∃ m, n = m + 2 := ⟨n - 2, by omega⟩
          have hm : r.length = m := by omega
          have hb2 := bld_step hb (hst.trans (sh6 hk6))
          have hmI : (((m + 2 : Nat) : Int) - 1).toNat = m + 1 := by omega
          have hmJ : (((m + 2 : Nat) : Int) - 1 - 1).toNat = m := by omega
          have hg1 : ((y :: x :: r).reverse ++ j)[(((m + 2 : Nat) : Int) - 1).toNat]? = some y := by rw [hmI, ← hm]; exact pile_top y (x :: r) j
          have hg2 : ((y :: x :: r).reverse ++ j)[(((m + 2 : Nat) : Int) - 1 - 1).toNat]? = some x := by rw [hmJ, ← hm]; exact pile_top2 x y r j
          (try (conv => whnf)); repeat' (first | (refine ⟨_, eqTest, by kernel_rfl, ?_⟩; (conv => whnf)) | (refine ⟨fun h => absurd hz4 h, fun _ => ?_⟩; (conv => whnf)) | (refine And.intro ⟨by kernel_rfl⟩ ?_; (conv => whnf)) | (refine rd rfl hg1 ?_; (conv => whnf)) | (refine rd rfl hg2 ?_; (conv => whnf)) | (refine st (Tr.or x y) hg2 (by simp) rfl ?_; (conv => whnf)) | (refine ⟨m + 1, rfl, (by show ((m + 2 : Nat) : Int) - 1 = ((m + 1 : Nat) : Int); omega), (by omega), ?_⟩; (conv => whnf)) | refine Ok.seq ?_ | ((first | refine Ok.region tok ?_ | refine Ok.region_plan (id := 23) tok follows [(4, 11, []), (8, 11, []), (10, 11, [])] [.q 0, .q 1, .q 2, .q 3, .q 4, .q 5, .q 6, .q 7, .q 8, .q 9, .l 10, .l 11] (by kernel_rfl) ?_ | refine Ok.cond ?_); conv => whnf) | refine Ok.block ?_ | ((first | refine Ok.skip ?_ | refine nI ?_ | refine ix _ (by assumption) ?_); conv => whnf) | (refine ⟨fun _ => ?_, fun _ => ?_⟩ <;> (conv => whnf) <;> (try (exfalso; omega))) | (refine aJ ?_; conv => whnf) | fail)
          all_goals first
            | (exfalso; omega)
            | skip
          all_goals
            refine ⟨(i + 1, m + 1, Tr.or x y :: r, y :: j), by dsimp only; omega, ⟨by dsimp only; omega, by simp [hm], by simp; omega, hb2⟩, ?_⟩
            rw [hmJ, ← hm, set_top2]
            (conv => whnf)
            rfl
      rw [bld_none hb (hst.trans (sh0 (by omega)))]
      (try (conv => whnf)); repeat' (first | (refine ⟨_, eqTest, by kernel_rfl, ?_⟩; (conv => whnf)) | (refine ⟨fun h => absurd hz4 h, fun _ => ?_⟩; (conv => whnf)) | refine Ok.seq ?_ | ((first | refine Ok.region tok ?_ | refine Ok.cond ?_); conv => whnf) | refine Ok.block ?_ | ((first | refine Ok.skip ?_ | refine Ok.ret ?_ | refine nI ?_ | refine ix _ (by assumption) ?_); conv => whnf) | (refine ⟨fun _ => ?_, fun _ => ?_⟩ <;> (conv => whnf) <;> (try (exfalso; omega))) | fail)
      all_goals first
        | (exfalso; omega)
        | (refine Or.inl ?_; (conv => whnf)
           rfl)
        | trace_state
  · have hie : i = e.length := by omega
    subst hie
    rw [List.drop_length] at hb
    have hbe := bld_end hb
    match rs, hn with
    | [], hn =>
      simp only [List.length_nil] at hn
      subst hn
      rw [hbe]
      (try (conv => whnf)); repeat' (first | refine Ok.seq ?_ | ((first | refine Ok.region tok ?_ | refine Ok.cond ?_ | refine Ok.exit ?_ | refine Ok.ret ?_); conv => whnf) | (refine ⟨fun _ => ?_, fun _ => ?_⟩ <;> (conv => whnf) <;> (try (exfalso; omega))) | fail)
      all_goals first
        | (exfalso; omega)
        | (refine Or.inl ?_; (conv => whnf)
           rfl)
        | trace_state
    | [x], hn =>
      simp only [List.length_cons, List.length_nil] at hn
      subst hn
      rw [hbe]
      have hg0 : ([x].reverse ++ j)[(0 : Int).toNat]? = some x := by simp
      (try (conv => whnf)); repeat' (first | (refine rd rfl hg0 ?_; (conv => whnf)) | refine Ok.seq ?_ | ((first | refine Ok.region tok ?_ | refine Ok.cond ?_ | refine Ok.skip ?_ | refine Ok.exit ?_ | refine Ok.ret ?_); conv => whnf) | (refine ⟨fun _ => ?_, fun _ => ?_⟩ <;> (conv => whnf) <;> (try (exfalso; omega))) | (refine aJ ?_; conv => whnf) | fail)
      all_goals first
        | (exfalso; omega)
        | (refine Or.inl ?_; (conv => whnf)
           rfl)
        | trace_state
    | x :: y :: r, hn =>
      simp only [List.length_cons] at hn
      rw [hbe]
      (try (conv => whnf)); repeat' (first | refine Ok.seq ?_ | ((first | refine Ok.region tok ?_ | refine Ok.cond ?_ | refine Ok.exit ?_ | refine Ok.ret ?_); conv => whnf) | (refine ⟨fun _ => ?_, fun _ => ?_⟩ <;> (conv => whnf) <;> (try (exfalso; omega))) | fail)
      all_goals first
        | (exfalso; omega)
        | (refine Or.inl ?_; (conv => whnf)
           rfl)
        | trace_state
end Go.Proofs.YtagmibogginaaaaGreatDoor
namespace Go.Proofs.YtagmibogginaaaaGreatDoor
open Go Go.Vx Go.Shelf
def SM : Str := [48, 49, 50, 51, 52, 53, 54, 55, 56, 57, 97, 98, 99, 100, 101, 102]
theorem tmodN (n k : Nat) : ((n % k : Nat) : Int) = (n : Int).tmod (k : Int) := by rw [Int.tmod_eq_emod_of_nonneg (by omega)]; rfl
theorem tdivN (n k : Nat) (h : n < 9223372036854775808) : ((n / k : Nat) : Int) = IntKind.i64.wrap ((n : Int).tdiv (k : Int)) := by
  rw [Int.tdiv_eq_ediv_of_nonneg (by omega), IntKind.wrap_i64]
  have h1 : ((n / k : Nat) : Int) = (n : Int) / (k : Int) := rfl
  have h2 := Nat.div_le_self n k
  have h3 : (0 : Int) ≤ (n : Int) / (k : Int) := Int.natCast_nonneg (n / k)
  omega
theorem sm_len (a b : Nat) (h : b ≤ a + 1) : ((SM.take b).drop a).length ≤ 1 := by simp; omega
set_option maxHeartbeats 4000000 in
theorem plain_ex : ∀ (k n : Nat), n < 10 ^ (k + 1) → k ≤ 9 → ∃ s : Str, s.length ≤ k + 1 ∧ FSpec Tryz.prog T 128 [.i .i64 (n : Nat)] (fun d _ => d = .s s) := by
  have base : ∀ n : Nat, n < 10 → FSpec Tryz.prog T 128 [.i .i64 (n : Nat)] (fun d _ => d = .s ((SM.take (n + 1)).drop n)) := by
    intro n hn
    refine FSpec.of_ok tok Tryz.func128 rfl Tryz.call128 (by simp) ?_
    (try (conv => whnf)); repeat' (first | (refine ⟨n, n + 1, rfl, rfl, (by omega), (by show n + 1 ≤ 16; omega), _, rfl, ?_⟩; (conv => whnf)) | refine Ok.seq ?_ | ((first | refine Ok.region tok ?_ | refine Ok.cond ?_ | refine Ok.ret ?_ | refine nI ?_); conv => whnf) | (refine ⟨fun _ => ?_, fun _ => ?_⟩ <;> (conv => whnf) <;> (try (exfalso; omega))) | fail)
    all_goals first
      | (exfalso; omega)
      | (refine Or.inl ?_; (conv => whnf)
         rfl)
      | trace_state
  intro k
  induction k with
  | zero => exact fun n hn _ => ⟨_, by have := sm_len n (n + 1) (by omega); omega, base n (by omega)⟩
  | succ k ih =>
    intro n hn hk
    by_cases h10 : n < 10
    · exact ⟨_, by have := sm_len n (n + 1) (by omega); omega, base n h10⟩
    · have hp : 10 ^ (k + 1 + 1) = 10 * 10 ^ (k + 1) := by rw [Nat.pow_succ, Nat.mul_comm]
      have hp9 : 10 ^ (k + 1 + 1) ≤ 10 ^ 11 := Nat.pow_le_pow_right (by decide) (by omega)
      have hp11 : (10 : Nat) ^ 11 = 100000000000 := by decide
      obtain ⟨s, hs, hf⟩ := ih (n / 10) (by omega) (by omega)
      have hq := tdivN n 10 (by omega)
      have hr := tmodN n 10
      have hr2 : n % 10 < 10 := Nat.mod_lt _ (by decide)
      have hl := sm_len (n % 10) (n % 10 + 1) (by omega)
      refine ⟨s ++ (SM.take (n % 10 + 1)).drop (n % 10), by rw [List.length_append]; omega, ?_⟩
      refine FSpec.of_ok tok Tryz.func128 rfl Tryz.call128 (by simp) ?_
      (try (conv => whnf)); repeat' (first | (refine ⟨n % 10, n % 10 + 1, rfl, rfl, (by omega), (by show n % 10 + 1 ≤ 16; omega), _, rfl, ?_⟩; (conv => whnf)) | refine Ok.seq ?_ | ((first | refine Ok.region tok ?_ | refine ⟨_, (hq.symm).symm, ?_⟩ | refine ⟨_, (hr.symm).symm, ?_⟩ | refine Ok.region_draw tok follows (by kernel_rfl) ?_ | refine Ok.cond ?_ | refine Ok.skip ?_ | refine Ok.ret ?_ | refine nI ?_ | refine ⟨_, by assumption, ?_⟩); conv => whnf) | (refine ⟨fun _ => ?_, fun _ => ?_⟩ <;> (conv => whnf) <;> (try (exfalso; omega))) | (refine aJ ?_; conv => whnf) | fail)
      all_goals first
        | (exfalso; omega)
        | (refine Or.inl ?_; (conv => whnf)
           rfl)
        | trace_state
theorem plain9 (n : Nat) (h : n ≤ 4294967295) : ∃ s : Str, s.length ≤ 10 ∧ FSpec Tryz.prog T 128 [.i .i64 (n : Nat)] (fun d _ => d = .s s) :=
  plain_ex 9 n (by have : (10 : Nat) ^ (9 + 1) = 10000000000 := by decide
                   omega) (by decide)
set_option maxHeartbeats 4000000 in
theorem num3_ex (v : Int) (p : Prop) : ∃ (s : Str) (c : Int), s.length ≤ 43 ∧ FSpec Tryz.prog T 119 [.i .i64 v, .b p] (fun d _ => d = .tup [.s s, .i .i64 c]) := by
  by_cases hv : v < 0 ∨ 4294967295 < v
  · refine ⟨[], 31, by simp, ?_⟩
    refine FSpec.of_ok tok Tryz.func119 rfl Tryz.call119 (by simp) ?_
    (try (conv => whnf)); repeat' (first | refine Ok.seq ?_ | ((first | refine Ok.region tok ?_ | refine Ok.cond ?_ | refine Ok.ret ?_); conv => whnf) | (refine ⟨fun _ => ?_, fun _ => ?_⟩ <;> (conv => whnf) <;> (try (exfalso; omega))) | fail)
    all_goals first
      | (exfalso; omega)
      | (refine Or.inl ?_; (conv => whnf)
         rfl)
      | trace_state
  · obtain ⟨n, rfl⟩ : ∃ n : Nat, v = n := ⟨v.toNat, by omega⟩
    by_cases hp : p
    · obtain ⟨s1, l1, f1⟩ := plain9 (n / 16777216) (by omega)
      obtain ⟨s2, l2, f2⟩ := plain9 (n / 65536 % 256) (by omega)
      obtain ⟨s3, l3, f3⟩ := plain9 (n / 256 % 256) (by omega)
      obtain ⟨s4, l4, f4⟩ := plain9 (n % 256) (by omega)
      have q1 := tdivN n 16777216 (by omega)
      have q2 := tdivN n 65536 (by omega)
      have q3 := tdivN n 256 (by omega)
      have m2 := tmodN (n / 65536) 256
      have m3 := tmodN (n / 256) 256
      have m4 := tmodN n 256
      refine ⟨s1 ++ [46] ++ s2 ++ [46] ++ s3 ++ [46] ++ s4, 0, by simp; omega, ?_⟩
      refine FSpec.of_ok tok Tryz.func119 rfl Tryz.call119 (by simp) ?_
      (try (conv => whnf)); repeat' (first | refine Ok.seq ?_ | ((first | refine Ok.region tok ?_ | refine ⟨_, (q1.symm).symm, ?_⟩ | refine ⟨_, (q2.symm).symm, ?_⟩ | refine ⟨_, (q3.symm).symm, ?_⟩ | refine ⟨_, (m2.symm).symm, ?_⟩ | refine ⟨_, (m3.symm).symm, ?_⟩ | refine ⟨_, (m4.symm).symm, ?_⟩ | refine Ok.cond ?_ | refine Ok.skip ?_ | refine Ok.ret ?_); conv => whnf) | (refine Or.inl ?_; (conv => whnf); (repeat (refine aI ?_; conv => whnf)); refine ⟨_, f1, rfl, ?_⟩; conv => whnf) | (refine Or.inl ?_; (conv => whnf); (repeat (refine aI ?_; conv => whnf)); refine ⟨_, f2, rfl, ?_⟩; conv => whnf) | (refine Or.inl ?_; (conv => whnf); (repeat (refine aI ?_; conv => whnf)); refine ⟨_, f3, rfl, ?_⟩; conv => whnf) | (refine Or.inl ?_; (conv => whnf); (repeat (refine aI ?_; conv => whnf)); refine ⟨_, f4, rfl, ?_⟩; conv => whnf) | (refine ⟨fun _ => ?_, fun _ => ?_⟩ <;> (conv => whnf) <;> (try (exfalso; omega))) | (refine aJ ?_; conv => whnf) | fail)
      all_goals first
        | (exfalso; omega)
        | (rename_i h; exact absurd hp h)
        | (refine Or.inl ?_; (conv => whnf)
           rfl)
        | trace_state
    · obtain ⟨s1, l1, f1⟩ := plain9 n (by omega)
      refine ⟨s1, 0, by omega, ?_⟩
      refine FSpec.of_ok tok Tryz.func119 rfl Tryz.call119 (by simp) ?_
      (try (conv => whnf)); repeat' (first | refine Ok.seq ?_ | ((first | refine Ok.region tok ?_ | refine Ok.cond ?_ | refine Ok.skip ?_ | refine Ok.ret ?_); conv => whnf) | (refine Or.inl ?_; (conv => whnf); (repeat (refine aI ?_; conv => whnf)); refine ⟨_, f1, rfl, ?_⟩; conv => whnf) | (refine ⟨fun _ => ?_, fun _ => ?_⟩ <;> (conv => whnf) <;> (try (exfalso; omega))) | ((first | refine aJ ?_ | refine num_any ?_); conv => whnf) | fail)
      all_goals first
        | (exfalso; omega)
        | (rename_i h; exact absurd h hp)
        | (refine Or.inl ?_; (conv => whnf)
           rfl)
        | trace_state
theorem number_ex (v : Int) (p : Prop) : ∃ s : Str, s.length ≤ 43 ∧ FSpec Tryz.prog T 100 [.i .i64 v, .b p] (fun d _ => d = .s s) := by
  by_cases hp : p
  · obtain ⟨s, c, hl, hf⟩ := num3_ex v True
    refine ⟨s, hl, ?_⟩
    refine FSpec.of_ok tok Tryz.func100 rfl Tryz.call100 (by simp) ?_
    (try (conv => whnf)); repeat' (first | refine Ok.seq ?_ | ((first | refine Ok.region tok ?_ | refine Ok.ret ?_); conv => whnf) | (refine Or.inl ?_; (conv => whnf); (repeat (refine aI ?_; conv => whnf)); refine ⟨_, hf, rfl, ?_⟩; conv => whnf) | (refine ⟨fun _ => ?_, fun _ => ?_⟩ <;> (conv => whnf) <;> (try (exfalso; omega))) | fail)
    all_goals first
      | (exfalso; omega)
      | (rename_i h; exact absurd hp h)
      | (refine Or.inl ?_; (conv => whnf)
         rfl)
      | trace_state
  · obtain ⟨s, c, hl, hf⟩ := num3_ex v (65536 ≤ v)
    refine ⟨s, hl, ?_⟩
    refine FSpec.of_ok tok Tryz.func100 rfl Tryz.call100 (by simp) ?_
    (try (conv => whnf)); repeat' (first | refine Ok.seq ?_ | ((first | refine Ok.region tok ?_ | refine Ok.ret ?_); conv => whnf) | (refine Or.inl ?_; (conv => whnf); (repeat (refine aI ?_; conv => whnf)); refine ⟨_, hf, rfl, ?_⟩; conv => whnf) | (refine ⟨fun _ => ?_, fun _ => ?_⟩ <;> (conv => whnf) <;> (try (exfalso; omega))) | fail)
    all_goals first
      | (exfalso; omega)
      | (rename_i h; exact absurd h hp)
      | (refine Or.inl ?_; (conv => whnf)
         rfl)
      | trace_state
theorem sign_ex (op : Int) : ∃ s : Str, s.length ≤ 2 ∧ FSpec Tryz.prog T 99 [.i .i64 op] (fun d _ => d = .s s) := by
  have go : ∀ s : Str, (s = if op = 1 then [61] else if op = 2 then [33, 61] else if op = 3 then [60] else if op = 4 then [60, 61] else if op = 5 then [62] else if op = 6 then [62, 61] else []) → FSpec Tryz.prog T 99 [.i .i64 op] (fun d _ => d = .s s) := by
    intro s hs
    refine FSpec.of_ok tok Tryz.func99 rfl Tryz.call99 (by simp) ?_
    (try (conv => whnf)); repeat' (first | refine Ok.seq ?_ | ((first | refine Ok.region tok ?_ | refine Ok.cond ?_); conv => whnf) | refine Ok.block ?_ | ((first | refine Ok.skip ?_ | refine Ok.ret ?_); conv => whnf) | (refine ⟨fun _ => ?_, fun _ => ?_⟩ <;> (conv => whnf) <;> (try (exfalso; omega))) | fail)
    all_goals
      refine Or.inl ?_; (conv => whnf)
      rw [hs]
      first
        | (rename_i h; subst h; rfl)
        | (simp [*]; rfl)
  refine ⟨_, ?_, go _ rfl⟩
  repeat' split
  all_goals decide
set_option maxHeartbeats 8000000 in
theorem testText_ex (f : Str) (op form lo hi len : Int) (pat : Str) (hf : f.length ≤ 1000000000000) (hp : pat.length ≤ 1000000000000) :
    ∃ s : Str, s.length ≤ f.length + pat.length + 100 ∧ FSpec Tryz.prog T 73 [.agg [.s f, .i .i64 op, .i .i64 form, .i .i64 lo, .i .i64 hi, .i .i64 len, .s pat]] (fun d _ => d = .s s) := by
  obtain ⟨sg, lg, fg⟩ := sign_ex op
  obtain ⟨a1, k1, f1⟩ := number_ex lo True
  obtain ⟨a2, k2, f2⟩ := number_ex len False
  obtain ⟨a3, k3, f3⟩ := number_ex lo False
  obtain ⟨a4, k4, f4⟩ := number_ex hi False
  have h6 : 6 = 6 := rfl
  by_cases c2 : form = 2
  · refine ⟨f ++ [32] ++ sg ++ [32] ++ a1 ++ [47] ++ a2, by simp; omega, ?_⟩
    refine FSpec.of_ok tok Tryz.func73 rfl Tryz.call73 (by simp) ?_
    (try (conv => whnf)); repeat' (first | refine Ok.seq ?_ | ((first | refine Ok.region tok ?_ | refine Ok.region_draw tok follows (by kernel_rfl) ?_ | refine Ok.cond ?_); conv => whnf) | refine Ok.block ?_ | ((first | refine Ok.ret ?_ | refine ⟨_, by assumption, ?_⟩); conv => whnf) | (refine ⟨fun _ => ?_, fun _ => ?_⟩ <;> (conv => whnf) <;> (try (exfalso; omega))) | (refine aJ ?_; conv => whnf) | fail)
    all_goals first
      | (exfalso; omega)
      | (refine Or.inl ?_; (conv => whnf)
         rfl)
      | trace_state
  by_cases c3 : form = 3
  · refine ⟨f ++ [32] ++ sg ++ [32] ++ a3 ++ [46, 46] ++ a4, by simp; omega, ?_⟩
    refine FSpec.of_ok tok Tryz.func73 rfl Tryz.call73 (by simp) ?_
    (try (conv => whnf)); repeat' (first | refine Ok.seq ?_ | ((first | refine Ok.region tok ?_ | refine Ok.region_draw tok follows (by kernel_rfl) ?_ | refine Ok.cond ?_); conv => whnf) | refine Ok.block ?_ | ((first | refine Ok.ret ?_ | refine ⟨_, by assumption, ?_⟩); conv => whnf) | (refine ⟨fun _ => ?_, fun _ => ?_⟩ <;> (conv => whnf) <;> (try (exfalso; omega))) | (refine aJ ?_; conv => whnf) | fail)
    all_goals first
      | (exfalso; omega)
      | (refine Or.inl ?_; (conv => whnf)
         rfl)
      | trace_state
  by_cases c4 : form = 4
  · refine ⟨f ++ [32] ++ sg ++ [32] ++ [37] ++ pat, by simp; omega, ?_⟩
    refine FSpec.of_ok tok Tryz.func73 rfl Tryz.call73 (by simp) ?_
    (try (conv => whnf)); repeat' (first | refine Ok.seq ?_ | ((first | refine Ok.region tok ?_ | refine Ok.region_draw tok follows (by kernel_rfl) ?_ | refine Ok.cond ?_); conv => whnf) | refine Ok.block ?_ | ((first | refine Ok.ret ?_ | refine ⟨_, by assumption, ?_⟩); conv => whnf) | (refine ⟨fun _ => ?_, fun _ => ?_⟩ <;> (conv => whnf) <;> (try (exfalso; omega))) | (refine aJ ?_; conv => whnf) | fail)
    all_goals first
      | (exfalso; omega)
      | (refine Or.inl ?_; (conv => whnf)
         rfl)
      | trace_state
  · refine ⟨f ++ [32] ++ sg ++ [32] ++ a3, by simp; omega, ?_⟩
    refine FSpec.of_ok tok Tryz.func73 rfl Tryz.call73 (by simp) ?_
    (try (conv => whnf)); repeat' (first | refine Ok.seq ?_ | ((first | refine Ok.region tok ?_ | refine Ok.region_draw tok follows (by kernel_rfl) ?_ | refine Ok.cond ?_); conv => whnf) | refine Ok.block ?_ | ((first | refine Ok.skip ?_ | refine Ok.ret ?_ | refine ⟨_, by assumption, ?_⟩); conv => whnf) | (refine Or.inl ?_; (conv => whnf); (repeat (refine aI ?_; conv => whnf)); refine ⟨_, f3, rfl, ?_⟩; conv => whnf) | (refine ⟨fun _ => ?_, fun _ => ?_⟩ <;> (conv => whnf) <;> (try (exfalso; omega))) | (refine aJ ?_; conv => whnf) | fail)
    all_goals first
      | (exfalso; omega)
      | (refine Or.inl ?_; (conv => whnf)
         rfl)
      | trace_state
theorem leaf_ex (c : Nd) (hf : c.t.f.length ≤ 1000000000000) (hp : c.t.pat.length ≤ 1000000000000) :
    ∃ s : Str, s.length ≤ c.t.f.length + c.t.pat.length + 100 ∧ FSpec Tryz.prog T 41 [.agg (nrow c)] (fun d _ => d = .s s) := by
  obtain ⟨st, lt, ft⟩ := testText_ex c.t.f c.t.op c.t.form c.t.lo c.t.hi c.t.len c.t.pat hf hp
  by_cases c1 : c.kind = 1
  · refine ⟨[97, 110, 121], by simp, ?_⟩
    refine FSpec.of_ok tok Tryz.func41 rfl Tryz.call41 (by simp) ?_
    (try (conv => whnf)); repeat' (first | refine Ok.seq ?_ | ((first | refine Ok.region tok ?_ | refine Ok.cond ?_); conv => whnf) | refine Ok.block ?_ | (refine Ok.ret ?_; conv => whnf) | (refine ⟨fun _ => ?_, fun _ => ?_⟩ <;> (conv => whnf) <;> (try (exfalso; omega))) | fail)
    all_goals first
      | (exfalso; omega)
      | (refine Or.inl ?_; (conv => whnf)
         rfl)
      | trace_state
  by_cases c2 : c.kind = 2
  · refine ⟨[110, 111, 110, 101], by simp, ?_⟩
    refine FSpec.of_ok tok Tryz.func41 rfl Tryz.call41 (by simp) ?_
    (try (conv => whnf)); repeat' (first | refine Ok.seq ?_ | ((first | refine Ok.region tok ?_ | refine Ok.cond ?_); conv => whnf) | refine Ok.block ?_ | (refine Ok.ret ?_; conv => whnf) | (refine ⟨fun _ => ?_, fun _ => ?_⟩ <;> (conv => whnf) <;> (try (exfalso; omega))) | fail)
    all_goals first
      | (exfalso; omega)
      | (refine Or.inl ?_; (conv => whnf)
         rfl)
      | trace_state
  · refine ⟨st, lt, ?_⟩
    refine FSpec.of_ok tok Tryz.func41 rfl Tryz.call41 (by simp) ?_
    (try (conv => whnf)); repeat' (first | refine Ok.seq ?_ | ((first | refine Ok.region tok ?_ | refine Ok.cond ?_); conv => whnf) | refine Ok.block ?_ | ((first | refine Ok.skip ?_ | refine Ok.ret ?_); conv => whnf) | (refine Or.inl ?_; (conv => whnf); (repeat (refine aI ?_; conv => whnf)); refine ⟨_, ft, rfl, ?_⟩; conv => whnf) | (refine ⟨fun _ => ?_, fun _ => ?_⟩ <;> (conv => whnf) <;> (try (exfalso; omega))) | fail)
    all_goals first
      | (exfalso; omega)
      | (refine Or.inl ?_; (conv => whnf)
         rfl)
      | trace_state
@[reducible] def pc (s : Str) (b n : Nat) : List D := [.s s, .i .i64 (b : Nat), .i .i64 (n : Nat)]
def inS (b : Bool) (s : Str) : Str := match b with | true => [40] ++ s ++ [41] | false => s
def inBy (b : Bool) (y : Nat) : Nat := match b with | true => 3 | false => y
theorem in_at (s : Str) (y n : Nat) (b : Bool) (p : Prop) (hb : p ↔ b = true) (hs : s.length ≤ 1000000000000000) (hn : n ≤ 1000000) :
    FSpec Tryz.prog T 42 [.agg (pc s y n), .b p] (fun d _ => d = .agg (pc (inS b s) (inBy b y) (n + cnt b))) := by
  refine FSpec.of_ok tok Tryz.func42 rfl Tryz.call42 (by simp) ?_
  cases b
  · have hp : ¬ p := fun h => by cases hb.1 h
    (try (conv => whnf)); repeat' (first | refine Ok.seq ?_ | ((first | refine Ok.region tok ?_ | refine Ok.cond ?_ | refine Ok.skip ?_ | refine Ok.ret ?_ | refine nI ?_); conv => whnf) | (refine ⟨fun _ => ?_, fun _ => ?_⟩ <;> (conv => whnf) <;> (try (exfalso; omega))) | (refine aJ ?_; conv => whnf) | fail)
    all_goals first
      | (exfalso; omega)
      | (rename_i h; exact absurd h hp)
      | (refine Or.inl ?_; (conv => whnf)
         rfl)
      | trace_state
  · have hp : p := hb.2 rfl
    have hl : ([40] ++ s ++ [41] : Str).length = s.length + 2 := by simp
    (try (conv => whnf)); repeat' (first | refine Ok.seq ?_ | ((first | refine Ok.region tok ?_ | refine Ok.cond ?_ | refine Ok.skip ?_ | refine Ok.ret ?_ | refine nI ?_); conv => whnf) | (refine ⟨fun _ => ?_, fun _ => ?_⟩ <;> (conv => whnf) <;> (try (exfalso; omega))) | (refine aJ ?_; conv => whnf) | fail)
    all_goals first
      | (exfalso; omega)
      | (rename_i h; exact absurd hp h)
      | (refine Or.inl ?_; (conv => whnf)
         rfl)
      | trace_state
theorem greater_at (a b : Nat) (aI bI : Int) (e1 : aI = a) (e2 : bI = b) : FSpec Tryz.prog T 43 [.i .i64 aI, .i .i64 bI] (fun d _ => d = .i .i64 (max a b : Nat)) := by
  subst e1 e2
  refine FSpec.of_ok tok Tryz.func43 rfl Tryz.call43 (by simp) ?_
  (try (conv => whnf)); repeat' (first | refine Ok.seq ?_ | ((first | refine Ok.region tok ?_ | refine Ok.cond ?_ | refine Ok.skip ?_ | refine Ok.ret ?_); conv => whnf) | (refine ⟨fun _ => ?_, fun _ => ?_⟩ <;> (conv => whnf) <;> (try (exfalso; omega))) | fail)
  · rename_i h
    refine Or.inl ?_; (conv => whnf)
    refine congrArg (D.i .i64) ?_
    omega
  · rename_i h
    refine Or.inl ?_; (conv => whnf)
    refine congrArg (D.i .i64) ?_
    omega
end Go.Proofs.YtagmibogginaaaaGreatDoor
namespace Go.Proofs.YtagmibogginaaaaGreatDoor
open Go Go.Vx Go.Shelf
def byT : Tr → Nat | .or _ _ => 1 | .and _ _ => 2 | _ => 3
theorem by_lt3 (x : Tr) : ((byT x : Nat) : Int) < 3 ↔ x.isJ = true := by cases x <;> simp [byT, Tr.isJ]
theorem by_lt2 (x : Tr) : ((byT x : Nat) : Int) < 2 ↔ x.isO = true := by cases x <;> simp [byT, Tr.isO]
theorem by_le2 (x : Tr) : ((byT x : Nat) : Int) ≤ 2 ↔ x.isJ = true := by cases x <;> simp [byT, Tr.isJ]
theorem by_lt1 (x : Tr) : ((byT x : Nat) : Int) < 1 ↔ false = true := by cases x <;> simp [byT]
theorem by_le1 (x : Tr) : ((byT x : Nat) : Int) ≤ 1 ↔ x.isO = true := by cases x <;> simp [byT, Tr.isO]
abbrev PT := Tr × Str
@[reducible] def prow (q : PT) : List D := pc q.2 (byT q.1) q.1.nest
theorem inS_len (b : Bool) (s : Str) : (inS b s).length ≤ s.length + 2 := by cases b <;> simp [inS]
@[reducible] def LB : Nat := 3000000000000
def Fit (ps : List PT) : Prop := ∀ q ∈ ps, q.2.length ≤ LB * q.1.sz
theorem fit_nil : Fit [] := fun q hq => absurd hq (by simp)
theorem ppush_nil (ps : List PT) (x : PT) : ((ps.reverse ++ []).map prow) ++ [prow x] = ((x :: ps).reverse ++ []).map prow := by simp
theorem ppush_cons (ps : List PT) (x y : PT) (j : List PT) : ((ps.reverse ++ y :: j).map prow).set ps.length (prow x) = ((x :: ps).reverse ++ j).map prow := by
  rw [List.map_append, List.set_append_right _ _ (by simp)]
  simp
theorem ppile_top (x : PT) (r j : List PT) : ((x :: r).reverse ++ j)[r.length]? = some x := by simp
theorem ppile_top2 (x y : PT) (r j : List PT) : ((y :: x :: r).reverse ++ j)[r.length]? = some x := by simp
theorem pset_top (x x' : PT) (r j : List PT) : ((x :: r).reverse ++ j).set r.length x' = (x' :: r).reverse ++ j := by simp
theorem pset_top2 (x y x' : PT) (r j : List PT) : ((y :: x :: r).reverse ++ j).set r.length x' = (x' :: r).reverse ++ (y :: j) := by simp
def tellP (e : List Nd) (d : D) : Prop := match bldO e with | some x => ∃ s : Str, d = .tup [.agg (pc s (byT x) x.nest), .b True] | none => d = .tup [.agg (pc [] 0 0), .b False]
theorem tell_none {e : List Nd} (h : bldO e = none) : tellP e (.tup [.agg (pc [] 0 0), .b False]) := by unfold tellP; rw [h]
theorem tell_some {e : List Nd} {x : Tr} (h : bldO e = some x) (s : Str) : tellP e (.tup [.agg (pc s (byT x) x.nest), .b True]) := by unfold tellP; rw [h]; exact ⟨s, rfl⟩
def TxtOk (e : List Nd) : Prop := ∀ c ∈ e, c.t.f.length ≤ 1000000000000 ∧ c.t.pat.length ≤ 1000000000000
set_option maxRecDepth 100000 in
set_option maxHeartbeats 32000000 in
theorem tell_at (e : List Nd) (r1 : List (List D)) (hl : e.length ≤ 64) (htx : TxtOk e) : FSpec Tryz.prog T 22 [.lst 56 (e.map nrow) r1] (fun d rows => tellP e d ∧ rows = []) := by
  have h1 : (e.map nrow).length = e.length := by simp
  refine FSpec.of_ok tok Tryz.func22 rfl Tryz.call22 (by simp) ?_
  (try (conv => whnf)); repeat' (first | refine Ok.seq ?_ | (refine Ok.region tok ?_; conv => whnf) | refine Ok.block ?_ | fail)
  refine Ok.ghost 4 64 rfl ?_
  (conv => whnf)
  refine Ok.loopU [0, 2] [4, 5] 1 1 (fun (x : Nat × Nat × List PT × List PT) => [.own 0 x.2.1, .i .i64 (x.1 : Nat)]) (fun _ b => b) (fun (x : Nat × Nat × List PT × List PT) (_ : Vx.Rows) => [some (64, (x.2.2.1.reverse ++ x.2.2.2).map prow)]) (fun (x : Nat × Nat × List PT × List PT) => x.1 ≤ e.length ∧ x.2.2.1.length = x.2.1 ∧ x.2.1 + x.2.2.2.length ≤ x.1 ∧ buildR e [] = buildR (e.drop x.1) (x.2.2.1.map Prod.fst) ∧ Fit x.2.2.1 ∧ szs (x.2.2.1.map Prod.fst) ≤ x.1) (fun (x : Nat × Nat × List PT × List PT) => e.length - x.1) ((0, 0, [], [])) (⟨Nat.zero_le _, rfl, Nat.le_refl _, rfl, fit_nil, Nat.le_refl _⟩) ?_; (conv => whnf); refine ⟨by ((conv => whnf); first | rfl | (simp [envCat, List.take_of_length_le, nrow, frow, tcells, qrow, prow]; done) | (simp [envCat, List.take_of_length_le, nrow, frow, tcells, qrow, prow]; rw [IntKind.wrap_i64]; omega)), ?_⟩
  rintro ⟨i, n, ps, j⟩ ⟨hi, hn, hj, hb, hfit, hsz⟩
  dsimp only at hi hn hj hb hfit hsz ⊢
  have hlm : ((ps.reverse ++ j).map prow).length = n + j.length := by simp [hn]
  (conv => whnf)
  by_cases hil : i < e.length
  · obtain ⟨c, hc⟩ : ∃ c, e[i]? = some c := ⟨_, List.getElem?_eq_getElem hil⟩
    have hcI : e[((i : Nat) : Int).toNat]? = some c := hc
    have htc := htx c (List.mem_of_getElem? hc)
    obtain ⟨lt, hlt, hlf⟩ := leaf_ex c htc.1 htc.2
    rw [edrop_at hc] at hb
    by_cases hz : c.kind ≠ 3 ∧ ¬ zT c.t
    · have hbn := bld_none hb (bad_z hz.1 hz.2)
      have hz1 := hz.1
      have hz2 := hz.2
      (try (conv => whnf)); repeat' (first | (refine ⟨_, eqTest, by kernel_rfl, ?_⟩; (conv => whnf)) | (refine ⟨fun _ => ?_, fun h => absurd (Classical.not_not.1 h) hz2⟩; (conv => whnf)) | refine Ok.seq ?_ | ((first | refine Ok.region tok ?_ | refine Ok.cond ?_); conv => whnf) | refine Ok.block ?_ | ((first | refine Ok.skip ?_ | refine Ok.ret ?_ | refine ix _ (by assumption) ?_); conv => whnf) | (refine ⟨fun _ => ?_, fun _ => ?_⟩ <;> (conv => whnf) <;> (try (exfalso; omega))) | fail)
      all_goals first
        | (exfalso; omega)
        | (refine Or.inl ?_; (conv => whnf)
           exact ⟨tell_none hbn, rfl⟩)
        | trace_state
    · have hst := stepT_ok (rs := ps.map Prod.fst) hz
      have hz3 : c.kind = 3 ∨ zT c.t := by
        by_cases h : c.kind = 3
        · exact .inl h
        · exact .inr (Classical.byContradiction fun h2 => hz ⟨h, h2⟩)
      by_cases hk3 : c.kind = 3
      · have hb2 := bld_step hb (hst.trans (sh3 hk3))
        have hft : Fit ((Tr.test c.t, lt) :: ps) := fun q hq => by
          rcases List.mem_cons.1 hq with rfl | hq
          · simp only [Tr.sz, LB]; omega
          · exact hfit q hq
        have hsz2 : szs (((Tr.test c.t, lt) :: ps : List PT).map Prod.fst) ≤ i + 1 := by simp only [szs, List.map_cons, List.sum_cons, Tr.sz] at hsz ⊢; omega
        cases j with
        | nil =>
          simp only [List.length_nil, Nat.add_zero] at hj hlm
          (try (conv => whnf)); repeat' (first | refine Ok.seq ?_ | ((first | refine Ok.region tok ?_ | refine Ok.cond ?_); conv => whnf) | refine Ok.block ?_ | ((first | refine Ok.skip ?_ | refine nI ?_ | refine ix _ (by assumption) ?_); conv => whnf) | (refine Or.inl ?_; (conv => whnf); (repeat (refine aI ?_; conv => whnf)); refine ⟨_, hlf, rfl, ?_⟩; conv => whnf) | ((first | refine Alt2.l (aI ?_) | refine ⟨_, .inl ⟨rfl, rfl⟩, ?_⟩ | refine ⟨_, _, rfl, rfl, ?_⟩); conv => whnf) | (refine ⟨fun _ => ?_, fun _ => ?_⟩ <;> (conv => whnf) <;> (try (exfalso; omega))) | (refine aJ ?_; conv => whnf) | fail)
          all_goals first
            | (exfalso; omega)
            | skip
          all_goals
            refine ⟨(i + 1, n + 1, (Tr.test c.t, lt) :: ps, []), by dsimp only; omega, ⟨by dsimp only; omega, by simp [hn], by simp; omega, hb2, hft, hsz2⟩, ?_⟩
            rw [← ppush_nil]
            (conv => whnf)
            simp [envCat, hn]
            try exact ⟨rfl, rfl⟩
            try rfl
        | cons y j =>
          simp only [List.length_cons] at hj hlm
          (try (conv => whnf)); repeat' (first | refine Ok.seq ?_ | ((first | refine Ok.region tok ?_ | refine Ok.cond ?_); conv => whnf) | refine Ok.block ?_ | ((first | refine Ok.skip ?_ | refine nI ?_ | refine ix _ (by assumption) ?_); conv => whnf) | (refine Or.inl ?_; (conv => whnf); (repeat (refine aI ?_; conv => whnf)); refine ⟨_, hlf, rfl, ?_⟩; conv => whnf) | ((first | refine Alt2.r (aI ?_) | refine ⟨_, .inl ⟨rfl, rfl⟩, ?_⟩ | refine ⟨_, _, rfl, rfl, ?_⟩); conv => whnf) | (refine ⟨fun _ => ?_, fun _ => ?_⟩ <;> (conv => whnf) <;> (try (exfalso; omega))) | ((first | refine aJ ?_ | refine ⟨_, rfl, ?_⟩); conv => whnf) | fail)
          all_goals first
            | (exfalso; omega)
            | skip
          all_goals
            refine ⟨(i + 1, n + 1, (Tr.test c.t, lt) :: ps, j), by dsimp only; omega, ⟨by dsimp only; omega, by simp [hn], by simp; omega, hb2, hft, hsz2⟩, ?_⟩
            rw [← ppush_cons ps _ y j, hn]
            (conv => whnf)
            simp [envCat, hn]
            try exact ⟨rfl, rfl⟩
            try rfl
      have hz4 : zT c.t := hz3.resolve_left hk3
      by_cases hk1 : c.kind = 1 ∨ c.kind = 2
      · have hb2 := bld_step hb (hst.trans (sh12 hk1))
        have hft : Fit ((Tr.leaf (c.kind = 1), lt) :: ps) := fun q hq => by
          rcases List.mem_cons.1 hq with rfl | hq
          · simp only [Tr.sz, LB]; omega
          · exact hfit q hq
        have hsz2 : szs (((Tr.leaf (c.kind = 1), lt) :: ps : List PT).map Prod.fst) ≤ i + 1 := by simp only [szs, List.map_cons, List.sum_cons, Tr.sz] at hsz ⊢; omega
        cases j with
        | nil =>
          simp only [List.length_nil, Nat.add_zero] at hj hlm
          (try (conv => whnf)); repeat' (first | (refine ⟨_, eqTest, by kernel_rfl, ?_⟩; (conv => whnf)) | (refine ⟨fun h => absurd hz4 h, fun _ => ?_⟩; (conv => whnf)) | refine Ok.seq ?_ | ((first | refine Ok.region tok ?_ | refine Ok.cond ?_); conv => whnf) | refine Ok.block ?_ | ((first | refine Ok.skip ?_ | refine nI ?_ | refine ix _ (by assumption) ?_); conv => whnf) | (refine Or.inl ?_; (conv => whnf); (repeat (refine aI ?_; conv => whnf)); refine ⟨_, hlf, rfl, ?_⟩; conv => whnf) | ((first | refine Alt2.l (aI ?_) | refine ⟨_, .inl ⟨rfl, rfl⟩, ?_⟩ | refine ⟨_, _, rfl, rfl, ?_⟩); conv => whnf) | (refine ⟨fun _ => ?_, fun _ => ?_⟩ <;> (conv => whnf) <;> (try (exfalso; omega))) | (refine aJ ?_; conv => whnf) | fail)
          all_goals first
            | (exfalso; omega)
            | skip
          all_goals
            refine ⟨(i + 1, n + 1, (Tr.leaf (c.kind = 1), lt) :: ps, []), by dsimp only; omega, ⟨by dsimp only; omega, by simp [hn], by simp; omega, hb2, hft, hsz2⟩, ?_⟩
            rw [← ppush_nil]
            (conv => whnf)
            simp [envCat, hn]
            try exact ⟨rfl, rfl⟩
            try rfl
        | cons y j =>
          simp only [List.length_cons] at hj hlm
          (try (conv => whnf)); repeat' (first | (refine ⟨_, eqTest, by kernel_rfl, ?_⟩; (conv => whnf)) | (refine ⟨fun h => absurd hz4 h, fun _ => ?_⟩; (conv => whnf)) | refine Ok.seq ?_ | ((first | refine Ok.region tok ?_ | refine Ok.cond ?_); conv => whnf) | refine Ok.block ?_ | ((first | refine Ok.skip ?_ | refine nI ?_ | refine ix _ (by assumption) ?_); conv => whnf) | (refine Or.inl ?_; (conv => whnf); (repeat (refine aI ?_; conv => whnf)); refine ⟨_, hlf, rfl, ?_⟩; conv => whnf) | ((first | refine Alt2.r (aI ?_) | refine ⟨_, .inl ⟨rfl, rfl⟩, ?_⟩ | refine ⟨_, _, rfl, rfl, ?_⟩); conv => whnf) | (refine ⟨fun _ => ?_, fun _ => ?_⟩ <;> (conv => whnf) <;> (try (exfalso; omega))) | ((first | refine aJ ?_ | refine ⟨_, rfl, ?_⟩); conv => whnf) | fail)
          all_goals first
            | (exfalso; omega)
            | skip
          all_goals
            refine ⟨(i + 1, n + 1, (Tr.leaf (c.kind = 1), lt) :: ps, j), by dsimp only; omega, ⟨by dsimp only; omega, by simp [hn], by simp; omega, hb2, hft, hsz2⟩, ?_⟩
            rw [← ppush_cons ps _ y j, hn]
            (conv => whnf)
            simp [envCat, hn]
            try exact ⟨rfl, rfl⟩
            try rfl
      by_cases hk4 : c.kind = 4
      · match ps, hn with
        | [], hn =>
          simp only [List.length_nil] at hn
          subst hn
          have hbn := bld_none hb (hst.trans (sh4 hk4))
          (try (conv => whnf)); repeat' (first | (refine ⟨_, eqTest, by kernel_rfl, ?_⟩; (conv => whnf)) | (refine ⟨fun h => absurd hz4 h, fun _ => ?_⟩; (conv => whnf)) | refine Ok.seq ?_ | ((first | refine Ok.region tok ?_ | refine Ok.cond ?_); conv => whnf) | refine Ok.block ?_ | ((first | refine Ok.skip ?_ | refine Ok.ret ?_ | refine ix _ (by assumption) ?_); conv => whnf) | (refine ⟨fun _ => ?_, fun _ => ?_⟩ <;> (conv => whnf) <;> (try (exfalso; omega))) | fail)
          all_goals first
            | (exfalso; omega)
            | (refine Or.inl ?_; (conv => whnf)
               exact ⟨tell_none hbn, rfl⟩)
            | trace_state
        | (x, s) :: r, hn =>
          simp only [List.length_cons] at hn
          obtain ⟨m, rfl⟩ : ∃ m, n = m + 1 := ⟨n - 1, by omega⟩
          have hm : r.length = m := by omega
          have hb2 := bld_step hb (hst.trans (sh4 hk4))
          have hmI : (((m + 1 : Nat) : Int) - 1).toNat = m := by omega
          have hg1 : (((x, s) :: r).reverse ++ j)[(((m + 1 : Nat) : Int) - 1).toNat]? = some (x, s) := by rw [hmI, ← hm]; exact ppile_top (x, s) r j
          have hlx := hfit (x, s) (by simp)
          simp only [szs, List.map_cons, List.sum_cons] at hsz
          simp only [LB] at hlx
          have hnx := nest_le x
          have hix := inS_len x.isJ s
          have hil2 : ([33] ++ inS x.isJ s : Str).length = (inS x.isJ s).length + 1 := by simp
          have hin := in_at s (byT x) x.nest x.isJ (((byT x : Nat) : Int) < 3) (by_lt3 x) (by omega) (by omega)
          have hcl := cnt_le x.isJ
          (try (conv => whnf)); repeat' (first | (refine ⟨_, eqTest, by kernel_rfl, ?_⟩; (conv => whnf)) | (refine ⟨fun h => absurd hz4 h, fun _ => ?_⟩; (conv => whnf)) | (refine rd rfl hg1 ?_; (conv => whnf)) | (refine st (Tr.neg x, [33] ++ inS x.isJ s) hg1 (by simp) rfl ?_; (conv => whnf)) | refine Ok.seq ?_ | ((first | refine Ok.region tok ?_ | refine Ok.region_tree (id := 17) tok follows [(4, 12, []), (10, 12, [11]), (4, 14, []), (10, 14, []), (12, 14, []), (13, 14, [])] (.q 0 (.q 1 (.q 2 (.q 3 (.q 4 (.q 5 (.q 6 (.q 7 (.q 8 (.q 9 (.q 10 (.q 11 (.alt 12 (.l 13 (.l 14 .nil)) (.alt 13 (.l 12 (.l 14 .nil)) .nil)))))))))))))) (by kernel_rfl) ?_ | refine Ok.cond ?_); conv => whnf) | refine Ok.block ?_ | ((first | refine Ok.skip ?_ | refine nI ?_ | refine ix _ (by assumption) ?_); conv => whnf) | (refine Or.inl ?_; (conv => whnf); (repeat (refine aI ?_; conv => whnf)); refine ⟨_, hin, rfl, ?_⟩; conv => whnf) | (refine ⟨fun _ => ?_, fun _ => ?_⟩ <;> (conv => whnf) <;> (try (exfalso; omega))) | (refine aJ ?_; conv => whnf) | (exact True.intro) | (refine And.intro ?_ ?_ <;> (conv => whnf)) | fail)
          all_goals first
            | (exfalso; omega)
            | skip
          all_goals
            refine ⟨(i + 1, m + 1, (Tr.neg x, [33] ++ inS x.isJ s) :: r, j), by dsimp only; omega, ⟨by dsimp only; omega, by simp [hm], by dsimp only; omega, hb2, ?_, ?_⟩, ?_⟩
            · intro q hq
              rcases List.mem_cons.1 hq with rfl | hq
              · simp only [Tr.sz, LB]; omega
              · exact hfit q (by simp [hq])
            · simp only [szs, List.map_cons, List.sum_cons, Tr.sz]; omega
            · rw [hmI, ← hm, pset_top]
              (conv => whnf)
              rfl
      by_cases hk5 : c.kind = 5
      · match ps, hn with
        | [], hn =>
          simp only [List.length_nil] at hn
          subst hn
          have hbn := bld_none hb (hst.trans (sh5 hk5))
          (try (conv => whnf)); repeat' (first | (refine ⟨_, eqTest, by kernel_rfl, ?_⟩; (conv => whnf)) | (refine ⟨fun h => absurd hz4 h, fun _ => ?_⟩; (conv => whnf)) | refine Ok.seq ?_ | ((first | refine Ok.region tok ?_ | refine Ok.cond ?_); conv => whnf) | refine Ok.block ?_ | ((first | refine Ok.skip ?_ | refine Ok.ret ?_ | refine ix _ (by assumption) ?_); conv => whnf) | (refine ⟨fun _ => ?_, fun _ => ?_⟩ <;> (conv => whnf) <;> (try (exfalso; omega))) | fail)
          all_goals first
            | (exfalso; omega)
            | (refine Or.inl ?_; (conv => whnf)
               exact ⟨tell_none hbn, rfl⟩)
            | trace_state
        | [y], hn =>
          simp only [List.length_cons, List.length_nil] at hn
          subst hn
          have hbn := bld_none hb (hst.trans (sh5 hk5))
          (try (conv => whnf)); repeat' (first | (refine ⟨_, eqTest, by kernel_rfl, ?_⟩; (conv => whnf)) | (refine ⟨fun h => absurd hz4 h, fun _ => ?_⟩; (conv => whnf)) | refine Ok.seq ?_ | ((first | refine Ok.region tok ?_ | refine Ok.cond ?_); conv => whnf) | refine Ok.block ?_ | ((first | refine Ok.skip ?_ | refine Ok.ret ?_ | refine ix _ (by assumption) ?_); conv => whnf) | (refine ⟨fun _ => ?_, fun _ => ?_⟩ <;> (conv => whnf) <;> (try (exfalso; omega))) | fail)
          all_goals first
            | (exfalso; omega)
            | (refine Or.inl ?_; (conv => whnf)
               exact ⟨tell_none hbn, rfl⟩)
            | trace_state
        | (y, t) :: (x, s) :: r, hn =>
          simp only [List.length_cons] at hn
          obtain ⟨m, rfl⟩ : ∃ m, n = m + 2 := ⟨n - 2, by omega⟩
          have hm : r.length = m := by omega
          have hb2 := bld_step hb (hst.trans (sh5 hk5))
          have hmI : (((m + 2 : Nat) : Int) - 1).toNat = m + 1 := by omega
          have hmJ : (((m + 2 : Nat) : Int) - 2).toNat = m := by omega
          have hg1 : (((y, t) :: (x, s) :: r).reverse ++ j)[(((m + 2 : Nat) : Int) - 1).toNat]? = some (y, t) := by rw [hmI, ← hm]; exact ppile_top (y, t) ((x, s) :: r) j
          have hg2 : (((y, t) :: (x, s) :: r).reverse ++ j)[(((m + 2 : Nat) : Int) - 2).toNat]? = some (x, s) := by rw [hmJ, ← hm]; exact ppile_top2 (x, s) (y, t) r j
          have hlx := hfit (x, s) (by simp)
          have hly := hfit (y, t) (by simp)
          simp only [szs, List.map_cons, List.sum_cons] at hsz
          simp only [LB] at hlx hly
          have hnx := nest_le x
          have hny := nest_le y
          have hix := inS_len x.isO s
          have hiy := inS_len y.isJ t
          have hcx := cnt_le x.isO
          have hcy := cnt_le y.isJ
          have hi1 : (inS x.isO s ++ [32, 38, 32] : Str).length = (inS x.isO s).length + 3 := by simp
          have hi2 : (inS x.isO s ++ [32, 38, 32] ++ inS y.isJ t : Str).length = (inS x.isO s).length + 3 + (inS y.isJ t).length := by rw [List.length_append, hi1]
          have hin1 := in_at s (byT x) x.nest x.isO (((byT x : Nat) : Int) < 2) (by_lt2 x) (by omega) (by omega)
          have hin2 := in_at t (byT y) y.nest y.isJ (((byT y : Nat) : Int) ≤ 2) (by_le2 y) (by omega) (by omega)
          have hgr := greater_at (x.nest + cnt x.isO) (y.nest + cnt y.isJ) _ _ rfl rfl
          have hy1 : IntKind.i64.wrap (6 - c.kind) = 1 := by rw [hk5]; decide
          have hy2 : IntKind.i64.wrap (1 + 1) = 2 := by decide
          (try (conv => whnf)); repeat' (first | (refine ⟨_, eqTest, by kernel_rfl, ?_⟩; (conv => whnf)) | (refine ⟨fun h => absurd hz4 h, fun _ => ?_⟩; (conv => whnf)) | (refine rd rfl hg1 ?_; (conv => whnf)) | (refine rd rfl hg2 ?_; (conv => whnf)) | (refine st (Tr.and x y, inS x.isO s ++ [32, 38, 32] ++ inS y.isJ t) hg2 (by simp) rfl ?_; (conv => whnf)) | (refine ⟨m + 1, rfl, (by show ((m + 2 : Nat) : Int) - 1 = ((m + 1 : Nat) : Int); omega), (by first | omega | (simp; omega)), ?_⟩; (conv => whnf)) | refine Ok.seq ?_ | ((first | refine Ok.region tok ?_ | refine Ok.region_tree (id := 24) tok follows [(4, 13, []), (10, 13, [12]), (4, 15, []), (10, 15, []), (13, 15, []), (14, 15, [])] (.q 0 (.q 1 (.q 2 (.q 3 (.q 4 (.q 5 (.q 6 (.q 7 (.q 8 (.q 9 (.q 10 (.q 11 (.q 12 (.alt 13 (.l 14 (.l 15 .nil)) (.alt 14 (.l 13 (.l 15 .nil)) .nil))))))))))))))) (by kernel_rfl) ?_ | refine Ok.region_tree (id := 25) tok follows [(4, 13, []), (10, 13, [12]), (4, 15, []), (10, 15, []), (13, 15, []), (14, 15, [])] (.q 0 (.q 1 (.q 2 (.q 3 (.q 4 (.q 5 (.q 6 (.q 7 (.q 8 (.q 9 (.q 10 (.q 11 (.q 12 (.alt 13 (.l 14 (.l 15 .nil)) (.alt 14 (.l 13 (.l 15 .nil)) .nil))))))))))))))) (by kernel_rfl) ?_ | refine Ok.region_plan (id := 29) tok follows [(12, 15, []), (14, 15, []), (4, 18, []), (8, 18, []), (12, 18, []), (14, 18, []), (15, 18, [])] [.q 0, .q 1, .q 2, .q 3, .q 4, .q 5, .q 6, .q 7, .q 8, .q 9, .q 10, .q 11, .q 12, .q 13, .q 14, .l 15, .q 16, .q 17, .l 18] (by kernel_rfl) ?_ | refine ⟨_, (hy1).symm, ?_⟩ | refine ⟨_, (hy2).symm, ?_⟩ | refine Ok.cond ?_); conv => whnf) | refine Ok.block ?_ | ((first | refine Ok.skip ?_ | refine nI ?_ | refine ix _ (by assumption) ?_); conv => whnf) | (refine Or.inl ?_; (conv => whnf); (repeat (refine aI ?_; conv => whnf)); refine ⟨_, hin1, rfl, ?_⟩; conv => whnf) | (refine Or.inl ?_; (conv => whnf); (repeat (refine aI ?_; conv => whnf)); refine ⟨_, hin2, rfl, ?_⟩; conv => whnf) | (refine Or.inl ?_; (conv => whnf); (repeat (refine aI ?_; conv => whnf)); refine ⟨_, hgr, rfl, ?_⟩; conv => whnf) | (refine ⟨fun _ => ?_, fun _ => ?_⟩ <;> (conv => whnf) <;> (try (exfalso; omega))) | (refine aJ ?_; conv => whnf) | (exact True.intro) | (refine And.intro ?_ ?_ <;> (conv => whnf)) | fail)
          all_goals first
            | (exfalso; omega)
            | skip
          all_goals
            refine ⟨(i + 1, m + 1, (Tr.and x y, inS x.isO s ++ [32, 38, 32] ++ inS y.isJ t) :: r, (y, t) :: j), by dsimp only; omega, ⟨by dsimp only; omega, by simp [hm], by simp; omega, hb2, ?_, ?_⟩, ?_⟩
            · intro q hq
              rcases List.mem_cons.1 hq with rfl | hq
              · simp only [Tr.sz, LB]; omega
              · exact hfit q (by simp [hq])
            · simp only [szs, List.map_cons, List.sum_cons, Tr.sz]; omega
            · rw [hmJ, ← hm, pset_top2]
              (conv => whnf)
              rfl
      by_cases hk6 : c.kind = 6
      · match ps, hn with
        | [], hn =>
          simp only [List.length_nil] at hn
          subst hn
          have hbn := bld_none hb (hst.trans (sh6 hk6))
          (try (conv => whnf)); repeat' (first | (refine ⟨_, eqTest, by kernel_rfl, ?_⟩; (conv => whnf)) | (refine ⟨fun h => absurd hz4 h, fun _ => ?_⟩; (conv => whnf)) | refine Ok.seq ?_ | ((first | refine Ok.region tok ?_ | refine Ok.cond ?_); conv => whnf) | refine Ok.block ?_ | ((first | refine Ok.skip ?_ | refine Ok.ret ?_ | refine ix _ (by assumption) ?_); conv => whnf) | (refine ⟨fun _ => ?_, fun _ => ?_⟩ <;> (conv => whnf) <;> (try (exfalso; omega))) | fail)
          all_goals first
            | (exfalso; omega)
            | (refine Or.inl ?_; (conv => whnf)
               exact ⟨tell_none hbn, rfl⟩)
            | trace_state
        | [y], hn =>
          simp only [List.length_cons, List.length_nil] at hn
          subst hn
          have hbn := bld_none hb (hst.trans (sh6 hk6))
          (try (conv => whnf)); repeat' (first | (refine ⟨_, eqTest, by kernel_rfl, ?_⟩; (conv => whnf)) | (refine ⟨fun h => absurd hz4 h, fun _ => ?_⟩; (conv => whnf)) | refine Ok.seq ?_ | ((first | refine Ok.region tok ?_ | refine Ok.cond ?_); conv => whnf) | refine Ok.block ?_ | ((first | refine Ok.skip ?_ | refine Ok.ret ?_ | refine ix _ (by assumption) ?_); conv => whnf) | (refine ⟨fun _ => ?_, fun _ => ?_⟩ <;> (conv => whnf) <;> (try (exfalso; omega))) | fail)
          all_goals first
            | (exfalso; omega)
            | (refine Or.inl ?_; (conv => whnf)
               exact ⟨tell_none hbn, rfl⟩)
            | trace_state
        | (y, t) :: (x, s) :: r, hn =>
          simp only [List.length_cons] at hn
          obtain ⟨m, rfl⟩ : ∃ m, n = m + 2 := ⟨n - 2, by omega⟩
          have hm : r.length = m := by omega
          have hb2 := bld_step hb (hst.trans (sh6 hk6))
          have hmI : (((m + 2 : Nat) : Int) - 1).toNat = m + 1 := by omega
          have hmJ : (((m + 2 : Nat) : Int) - 2).toNat = m := by omega
          have hg1 : (((y, t) :: (x, s) :: r).reverse ++ j)[(((m + 2 : Nat) : Int) - 1).toNat]? = some (y, t) := by rw [hmI, ← hm]; exact ppile_top (y, t) ((x, s) :: r) j
          have hg2 : (((y, t) :: (x, s) :: r).reverse ++ j)[(((m + 2 : Nat) : Int) - 2).toNat]? = some (x, s) := by rw [hmJ, ← hm]; exact ppile_top2 (x, s) (y, t) r j
          have hlx := hfit (x, s) (by simp)
          have hly := hfit (y, t) (by simp)
          simp only [szs, List.map_cons, List.sum_cons] at hsz
          simp only [LB] at hlx hly
          have hnx := nest_le x
          have hny := nest_le y
          have hix := inS_len false s
          have hiy := inS_len y.isO t
          have hcx := cnt_le false
          have hcy := cnt_le y.isO
          have hi1 : (inS false s ++ [32, 124, 32] : Str).length = (inS false s).length + 3 := by simp
          have hi2 : (inS false s ++ [32, 124, 32] ++ inS y.isO t : Str).length = (inS false s).length + 3 + (inS y.isO t).length := by rw [List.length_append, hi1]
          have hin1 := in_at s (byT x) x.nest false (((byT x : Nat) : Int) < 1) (by_lt1 x) (by omega) (by omega)
          have hin2 := in_at t (byT y) y.nest y.isO (((byT y : Nat) : Int) ≤ 1) (by_le1 y) (by omega) (by omega)
          have hgr := greater_at (x.nest + cnt false) (y.nest + cnt y.isO) _ _ rfl rfl
          have hy1 : IntKind.i64.wrap (6 - c.kind) = 0 := by rw [hk6]; decide
          have hy2 : IntKind.i64.wrap (1 + 0) = 1 := by decide
          (try (conv => whnf)); repeat' (first | (refine ⟨_, eqTest, by kernel_rfl, ?_⟩; (conv => whnf)) | (refine ⟨fun h => absurd hz4 h, fun _ => ?_⟩; (conv => whnf)) | (refine rd rfl hg1 ?_; (conv => whnf)) | (refine rd rfl hg2 ?_; (conv => whnf)) | (refine st (Tr.or x y, inS false s ++ [32, 124, 32] ++ inS y.isO t) hg2 (by simp) rfl ?_; (conv => whnf)) | (refine ⟨m + 1, rfl, (by show ((m + 2 : Nat) : Int) - 1 = ((m + 1 : Nat) : Int); omega), (by first | omega | (simp; omega)), ?_⟩; (conv => whnf)) | refine Ok.seq ?_ | ((first | refine Ok.region tok ?_ | refine Ok.region_tree (id := 24) tok follows [(4, 13, []), (10, 13, [12]), (4, 15, []), (10, 15, []), (13, 15, []), (14, 15, [])] (.q 0 (.q 1 (.q 2 (.q 3 (.q 4 (.q 5 (.q 6 (.q 7 (.q 8 (.q 9 (.q 10 (.q 11 (.q 12 (.alt 13 (.l 14 (.l 15 .nil)) (.alt 14 (.l 13 (.l 15 .nil)) .nil))))))))))))))) (by kernel_rfl) ?_ | refine Ok.region_tree (id := 25) tok follows [(4, 13, []), (10, 13, [12]), (4, 15, []), (10, 15, []), (13, 15, []), (14, 15, [])] (.q 0 (.q 1 (.q 2 (.q 3 (.q 4 (.q 5 (.q 6 (.q 7 (.q 8 (.q 9 (.q 10 (.q 11 (.q 12 (.alt 13 (.l 14 (.l 15 .nil)) (.alt 14 (.l 13 (.l 15 .nil)) .nil))))))))))))))) (by kernel_rfl) ?_ | refine Ok.region_plan (id := 29) tok follows [(12, 15, []), (14, 15, []), (4, 18, []), (8, 18, []), (12, 18, []), (14, 18, []), (15, 18, [])] [.q 0, .q 1, .q 2, .q 3, .q 4, .q 5, .q 6, .q 7, .q 8, .q 9, .q 10, .q 11, .q 12, .q 13, .q 14, .l 15, .q 16, .q 17, .l 18] (by kernel_rfl) ?_ | refine ⟨_, (hy1).symm, ?_⟩ | refine ⟨_, (hy2).symm, ?_⟩ | refine Ok.cond ?_); conv => whnf) | refine Ok.block ?_ | ((first | refine Ok.skip ?_ | refine nI ?_ | refine ix _ (by assumption) ?_); conv => whnf) | (refine Or.inl ?_; (conv => whnf); (repeat (refine aI ?_; conv => whnf)); refine ⟨_, hin1, rfl, ?_⟩; conv => whnf) | (refine Or.inl ?_; (conv => whnf); (repeat (refine aI ?_; conv => whnf)); refine ⟨_, hin2, rfl, ?_⟩; conv => whnf) | (refine Or.inl ?_; (conv => whnf); (repeat (refine aI ?_; conv => whnf)); refine ⟨_, hgr, rfl, ?_⟩; conv => whnf) | (refine ⟨fun _ => ?_, fun _ => ?_⟩ <;> (conv => whnf) <;> (try (exfalso; omega))) | (refine aJ ?_; conv => whnf) | (exact True.intro) | (refine And.intro ?_ ?_ <;> (conv => whnf)) | fail)
          all_goals first
            | (exfalso; omega)
            | skip
          all_goals
            refine ⟨(i + 1, m + 1, (Tr.or x y, inS false s ++ [32, 124, 32] ++ inS y.isO t) :: r, (y, t) :: j), by dsimp only; omega, ⟨by dsimp only; omega, by simp [hm], by simp; omega, hb2, ?_, ?_⟩, ?_⟩
            · intro q hq
              rcases List.mem_cons.1 hq with rfl | hq
              · simp only [Tr.sz, LB]; omega
              · exact hfit q (by simp [hq])
            · simp only [szs, List.map_cons, List.sum_cons, Tr.sz]; omega
            · rw [hmJ, ← hm, pset_top2]
              (conv => whnf)
              rfl
      have hbn := bld_none hb (hst.trans (sh0 (by omega)))
      (try (conv => whnf)); repeat' (first | (refine ⟨_, eqTest, by kernel_rfl, ?_⟩; (conv => whnf)) | (refine ⟨fun h => absurd hz4 h, fun _ => ?_⟩; (conv => whnf)) | refine Ok.seq ?_ | ((first | refine Ok.region tok ?_ | refine Ok.cond ?_); conv => whnf) | refine Ok.block ?_ | ((first | refine Ok.skip ?_ | refine Ok.ret ?_ | refine ix _ (by assumption) ?_); conv => whnf) | (refine ⟨fun _ => ?_, fun _ => ?_⟩ <;> (conv => whnf) <;> (try (exfalso; omega))) | fail)
      all_goals first
        | (exfalso; omega)
        | (refine Or.inl ?_; (conv => whnf)
           exact ⟨tell_none hbn, rfl⟩)
        | trace_state
  · have hie : i = e.length := by omega
    subst hie
    rw [List.drop_length] at hb
    have hbe := bld_end hb
    match ps, hn with
    | [], hn =>
      simp only [List.length_nil] at hn
      subst hn
      (try (conv => whnf)); repeat' (first | refine Ok.seq ?_ | ((first | refine Ok.region tok ?_ | refine Ok.cond ?_ | refine Ok.exit ?_ | refine Ok.ret ?_); conv => whnf) | (refine ⟨fun _ => ?_, fun _ => ?_⟩ <;> (conv => whnf) <;> (try (exfalso; omega))) | fail)
      all_goals first
        | (exfalso; omega)
        | (refine Or.inl ?_; (conv => whnf)
           exact ⟨tell_none hbe, rfl⟩)
        | trace_state
    | [(x, s)], hn =>
      simp only [List.length_cons, List.length_nil] at hn
      subst hn
      have hg0 : ([(x, s)].reverse ++ j)[(0 : Int).toNat]? = some (x, s) := by simp
      (try (conv => whnf)); repeat' (first | (refine rd rfl hg0 ?_; (conv => whnf)) | refine Ok.seq ?_ | ((first | refine Ok.region tok ?_ | refine Ok.cond ?_ | refine Ok.skip ?_ | refine Ok.exit ?_ | refine Ok.ret ?_); conv => whnf) | (refine ⟨fun _ => ?_, fun _ => ?_⟩ <;> (conv => whnf) <;> (try (exfalso; omega))) | (refine aJ ?_; conv => whnf) | fail)
      all_goals first
        | (exfalso; omega)
        | (refine Or.inl ?_; (conv => whnf)
           exact ⟨tell_some (x := x) hbe s, rfl⟩)
        | trace_state
    | x :: y :: r, hn =>
      simp only [List.length_cons] at hn
      (try (conv => whnf)); repeat' (first | refine Ok.seq ?_ | ((first | refine Ok.region tok ?_ | refine Ok.cond ?_ | refine Ok.exit ?_ | refine Ok.ret ?_); conv => whnf) | (refine ⟨fun _ => ?_, fun _ => ?_⟩ <;> (conv => whnf) <;> (try (exfalso; omega))) | fail)
      all_goals first
        | (exfalso; omega)
        | (refine Or.inl ?_; (conv => whnf)
           exact ⟨tell_none hbe, rfl⟩)
        | trace_state
end Go.Proofs.YtagmibogginaaaaGreatDoor
namespace Go.Proofs.YtagmibogginaaaaGreatDoor
open Go Go.Vx Go.Shelf
theorem chkFrom_lay {all : List Fd} : ∀ (r : List Fd) (i : Nat) (sum : Int), (chkFrom all r i sum).1 = 0 → ∀ f ∈ r, 1 ≤ f.bits ∧ f.bits ≤ 32
  | [], _, _, _ => by simp
  | f :: r, i, sum, h => by
    by_cases hb : badF (all.take i) f sum
    · rw [chkFrom_bad hb] at h; cases h
    · rw [chkFrom_ok hb] at h
      intro g hg
      rcases List.mem_cons.1 hg with rfl | hg
      · refine ⟨Classical.byContradiction fun e => hb ?_, Classical.byContradiction fun e => hb ?_⟩
        · exact .inr (.inr (.inr (.inr (.inl (by omega)))))
        · exact .inr (.inr (.inr (.inr (.inr (.inl (by omega))))))
      · exact chkFrom_lay r _ _ h g hg
theorem chk_lay {l : List Fd} (h : (chkO l).1 = 0) : LayF l ∧ l.length ≤ 12 := by
  by_cases h1 : 12 < l.length
  · rw [chkO_long h1] at h; cases h
  by_cases h2 : l.length = 0
  · rw [chkO_nil h2] at h; cases h
  rw [chkO_of h1 h2] at h
  exact ⟨chkFrom_lay _ _ _ h, by omega⟩
theorem errT_zero {t : Tst} {b : Nat} (h : errT t b = 0) : FormOk t ∧ ValOk t b ∧ (t.form = 4 → DigOk t.pat b) := by
  by_cases h1 : FormOk t
  · by_cases h2 : ValOk t b
    · refine ⟨h1, h2, fun h4 => Classical.byContradiction fun hd => ?_⟩
      by_cases h3 : t.form = 2 ∧ t.lo.toNat % tw (b - t.len.toNat) ≠ 0
      · rw [errT_pre h1 h2 h3] at h; cases h
      · by_cases h5 : t.form = 3 ∧ t.hi < t.lo
        · rw [errT_rng h1 h2 h3 h5] at h; cases h
        · rw [errT_dig h1 h2 h3 h5 ⟨h4, hd⟩] at h; cases h
    · rw [errT_val h1 h2] at h; cases h
  · rw [errT_form h1] at h; cases h
theorem coverF_one {bits H : Nat} : ∀ (k lo : Nat), ∀ s ∈ coverF bits H k lo, s.length = bits
  | 0, lo => by simp [coverF]
  | k + 1, lo => by
    unfold coverF
    split
    · intro s hs
      rcases List.mem_cons.1 hs with rfl | hs
      · exact pfxT_len (Nat.sub_le _ _)
      · exact coverF_one k _ s hs
    · simp
theorem val_one {t : Tst} {b : Nat} (h0 : 1 ≤ b) (hb : b ≤ 32) (hpl : t.form = 4 → DigOk t.pat b) (hn : t.len.toNat ≤ b) : ∀ s ∈ valT t b, s.length = b := by
  have hc : ∀ H lo, ∀ s ∈ coverC b H lo, s.length = b := fun H lo => coverF_one _ _
  have hol := one_len (t := t) (b := b) (fun h => (hpl h).1) hn
  have hoc := one_cub (t := t) (b := b) (fun h => (hpl h).2)
  intro s hs
  unfold valT eitT at hs
  repeat' split at hs
  all_goals first
    | exact hc _ _ s hs
    | (rcases List.mem_append.1 hs with h | h <;> exact hc _ _ s h)
    | (rw [List.mem_singleton.1 hs]; exact hol)
    | (rw [((splitT_cn (xs_cn (by omega) h0) ⟨by omega, hoc⟩) s hs).2, xsT_len])
theorem val_len {t : Tst} {b : Nat} (h0 : 1 ≤ b) (hb : b ≤ 32) (h1 : t.lo.toNat < tw b) (h2 : t.hi.toNat < tw b) : (valT t b).length ≤ 400 := by
  have hc : ∀ H lo, H ≤ tw b → (coverC b H lo).length ≤ 66 := fun H lo h => by
    have := coverC_len (bits := b) (lo := lo) (H := H) h
    omega
  unfold valT eitT
  repeat' split
  all_goals first
    | (refine Nat.le_trans (hc _ _ (by omega)) (by omega))
    | (rw [List.length_append]
       have a1 := hc t.lo.toNat 0 (by omega)
       have a2 := hc (tw b) (t.hi.toNat + 1) (Nat.le_refl _)
       omega)
    | (simp; done)
    | (refine Nat.le_trans (splitT_len (by rw [xsT_len]; omega)) (by omega))
theorem wid_app (l : List Fd) (k : Nat) : wid l = wid (l.take k) + wid (l.drop k) := by
  unfold wid
  rw [← List.sum_append, ← List.map_append, List.take_append_drop]
theorem lay_take {l : List Fd} (h : LayF l) (k : Nat) : LayF (l.take k) := fun x hx => h x (List.mem_of_mem_take hx)
theorem lay_drop {l : List Fd} (h : LayF l) (k : Nat) : LayF (l.drop k) := fun x hx => h x (List.mem_of_mem_drop hx)
open Classical in
noncomputable def errC (l : List Fd) (t : Tst) : Int := if (chkO l).1 ≠ 0 then (chkO l).1 else errF l t
theorem errC_chk {l : List Fd} {t : Tst} (h : (chkO l).1 ≠ 0) : errC l t = (chkO l).1 := by unfold errC; rw [if_pos h]
theorem errC_f {l : List Fd} {t : Tst} (h : (chkO l).1 = 0) : errC l t = errF l t := by unfold errC; rw [if_neg (fun e => e h)]
def wrapT (l : List Fd) (k : Nat) (x : Str) : Str := xsT (wid (l.take k)) ++ x ++ xsT (wid (l.drop (k + 1)))
def cubL (l : List Fd) (t : Tst) : List Str := match l[(findI t.f l 0).toNat]? with
  | some c => (valT t c.bits.toNat).map (wrapT l (findI t.f l 0).toNat)
  | none => []
end Go.Proofs.YtagmibogginaaaaGreatDoor
