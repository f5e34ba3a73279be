/- filled and halves: the program's walk down the prefixes. -/
import Derived.Test.YtgelaefpbdfnfaaRS1
namespace Go.Proofs.Ytgelaefpbdfnfaa
open Go Go.Vx

def FillS (l : List Route) (bits : Int) (n : Nat) : Prop := ∀ (v len : Int) (rows room : List (List D)), rows = l.map Route.row → 0 ≤ len → len ≤ bits → (bits - len).toNat = n → 0 ≤ v → v < 2 ^ bits.toNat → v % 2 ^ (bits - len).toNat = 0 →
  FSpec Try.prog T 56 [.i .i64 bits, .lst 68 rows room, .i .i64 v, .i .i64 len] (fun d _ => d = .b (Fil l bits v len))
def HalfS (l : List Route) (bits : Int) (n : Nat) : Prop := ∀ (v len : Int) (rows room : List (List D)), rows = l.map Route.row → 0 ≤ len → len ≤ bits → (bits - len).toNat = n → 0 ≤ v → v < 2 ^ bits.toNat → v % 2 ^ (bits - len).toNat = 0 →
  FSpec Try.prog T 47 [.i .i64 bits, .lst 68 rows room, .i .i64 v, .i .i64 len] (fun d _ => d = .b (Hal l bits v len))

set_option maxRecDepth 100000 in
theorem fill_of_half {l : List Route} {bits : Int} (hb1 : 1 ≤ bits) (hb2 : bits ≤ 32) (hl : l.length ≤ 256) (hok : ∀ r ∈ l, okR bits r) {n : Nat} (hH : HalfS l bits n) : FillS l bits n := by
  rintro v len _ room rfl h0 h1 hn hv0 hv1 hv2
  have hll : (l.map Route.row).length = l.length := by simp
  have hm : min (bits - len).toNat IntKind.i64.bits = (bits - len).toNat := by show min (bits - len).toNat 64 = _; omega
  refine FSpec.of_ok tok Try.func56 rfl Try.call56 (by simp) ?_
  (try (conv => whnf)); repeat' (first | refine Ok.seq ?_ | (refine Ok.region tok ?_; conv => whnf) | (refine Ok.region_draw tok follows (by kernel_rfl) ?_; conv => whnf) | (refine Ok.cond ?_; conv => whnf) | refine Ok.block ?_ | (refine Ok.skip ?_; conv => whnf) | (refine Ok.exit ?_; conv => whnf) | (refine Ok.ret ?_; conv => whnf) | (refine num_in (by omega) (by omega) ?_; conv => whnf) | (refine ix _ (by assumption) ?_; conv => whnf) | (refine ixI (by omega) (by assumption) ?_; conv => whnf) | (refine ix_new _ (by omega) fun _ _ => ?_; conv => whnf) | (refine ixI_new (by omega) (by omega) fun _ _ => ?_; conv => whnf) | (refine rd rfl (by assumption) ?_; conv => whnf) | (refine ⟨_, .inl ⟨rfl, rfl⟩, ?_⟩; conv => whnf) | (refine ⟨_, _, rfl, rfl, ?_⟩; conv => whnf) | (refine ⟨fun _ => ?_, fun _ => ?_⟩ <;> (conv => whnf) <;> (try (exfalso; omega))) | (refine And.intro (by first | omega | rfl | (simp; done) | (simp; omega)) ?_; conv => whnf) | (refine num_any ?_; conv => whnf) | fail)
  refine Ok.loopU [0, 1, 2, 3, 12, 13] [9, 14] 0 0 (fun (x : Bool × Nat) => [bD x.1, .i .i64 (x.2 : Nat)]) (fun _ b => b) (fun _ r => r) (fun (x : Bool × Nat) => x.2 ≤ l.length ∧ (x.1 = true ↔ ∃ r ∈ l.take x.2, len ≤ r.len ∧ q (bits - len).toNat r.value = q (bits - len).toNat v) ∧ ∀ r ∈ l.take x.2, ¬ (r.len = len ∧ q (bits - len).toNat r.value = q (bits - len).toNat v)) (fun (x : Bool × Nat) => l.length - x.2) ((false, 0)) (⟨Nat.zero_le _, by simp, by simp⟩) ?_; (conv => whnf); refine ⟨by ((conv => whnf); first | rfl | simp [envCat, List.take_of_length_le]), ?_⟩
  rintro ⟨p, k⟩ ⟨hk, hp, hno⟩
  dsimp only at hk hp hno ⊢
  by_cases hkl : k < l.length
  · obtain ⟨r, hr⟩ : ∃ r, l[k]? = some r := ⟨_, List.getElem?_eq_getElem hkl⟩
    have hrm := List.mem_of_getElem? hr
    have htk : l.take (k + 1) = l.take k ++ [r] := by rw [List.take_add_one, hr]; rfl
    (try (conv => whnf)); repeat' (first | refine Ok.seq ?_ | (refine Ok.region tok ?_; conv => whnf) | (refine Ok.region_draw tok follows (by kernel_rfl) ?_; conv => whnf) | (refine Ok.cond ?_; conv => whnf) | refine Ok.block ?_ | (refine Ok.skip ?_; conv => whnf) | (refine Ok.exit ?_; conv => whnf) | (refine Ok.ret ?_; conv => whnf) | (refine num_in (by omega) (by omega) ?_; conv => whnf) | (refine ix _ (by assumption) ?_; conv => whnf) | (refine ixI (by omega) (by assumption) ?_; conv => whnf) | (refine ix_new _ (by omega) fun _ _ => ?_; conv => whnf) | (refine ixI_new (by omega) (by omega) fun _ _ => ?_; conv => whnf) | (refine rd rfl (by assumption) ?_; conv => whnf) | (refine ⟨_, .inl ⟨rfl, rfl⟩, ?_⟩; conv => whnf) | (refine ⟨_, _, rfl, rfl, ?_⟩; conv => whnf) | (refine ⟨fun _ => ?_, fun _ => ?_⟩ <;> (conv => whnf) <;> (try (exfalso; omega))) | (refine And.intro (by first | omega | rfl | (simp; done) | (simp; omega)) ?_; conv => whnf) | (refine num_any ?_; conv => whnf) | fail)
    · rename_i a1 a2 a3
      rw [hm] at a2
      refine Or.inl ?_; (conv => whnf)
      exact b_eq ⟨fun _ => fil_one hrm a3 a2, fun _ => trivial⟩
    · rename_i a1 a2 a3
      rw [hm] at a2
      refine ⟨(true, k + 1), by dsimp only; omega, ⟨by dsimp only; omega, ?_, ?_⟩, ?_⟩
      · dsimp only
        rw [htk]
        exact ⟨fun _ => ⟨r, by simp, a1, a2⟩, fun _ => rfl⟩
      · dsimp only
        rw [htk]
        intro s hs
        rcases List.mem_append.1 hs with hs | hs
        · exact hno s hs
        · simp at hs; subst hs; exact fun h => a3 h.1
      · (conv => whnf); (first | rfl | simp [envCat, List.take_of_length_le])
    · rename_i a1 a2
      rw [hm] at a2
      refine ⟨(p, k + 1), by dsimp only; omega, ⟨by dsimp only; omega, ?_, ?_⟩, ?_⟩
      · dsimp only
        rw [htk, hp]
        constructor
        · rintro ⟨s, hs, h⟩; exact ⟨s, by simp [hs], h⟩
        · rintro ⟨s, hs, h⟩
          rcases List.mem_append.1 hs with hs | hs
          · exact ⟨s, hs, h⟩
          · simp at hs; subst hs; exact absurd h.2 a2
      · dsimp only
        rw [htk]
        intro s hs
        rcases List.mem_append.1 hs with hs | hs
        · exact hno s hs
        · simp at hs; subst hs; exact fun h => a2 h.2
      · cases p
        · (conv => whnf); (first | rfl | simp [envCat, List.take_of_length_le])
        · (conv => whnf); (first | rfl | simp [envCat, List.take_of_length_le])
    · rename_i a1
      refine ⟨(p, k + 1), by dsimp only; omega, ⟨by dsimp only; omega, ?_, ?_⟩, ?_⟩
      · dsimp only
        rw [htk, hp]
        constructor
        · rintro ⟨s, hs, h⟩; exact ⟨s, by simp [hs], h⟩
        · rintro ⟨s, hs, h⟩
          rcases List.mem_append.1 hs with hs | hs
          · exact ⟨s, hs, h⟩
          · simp at hs; subst hs; exact absurd h.1 a1
      · dsimp only
        rw [htk]
        intro s hs
        rcases List.mem_append.1 hs with hs | hs
        · exact hno s hs
        · simp at hs; subst hs; exact fun h => a1 (by omega)
      · cases p
        · (conv => whnf); (first | rfl | simp [envCat, List.take_of_length_le])
        · (conv => whnf); (first | rfl | simp [envCat, List.take_of_length_le])
  · have hkk : k = l.length := by omega
    subst hkk
    rw [List.take_length] at hp hno
    cases p with
    | false =>
      have hF : ¬ Fil l bits v len := fil_none hv0 hv1 fun r hr h => by have := hp.2 ⟨r, hr, h⟩; cases this
      (try (conv => whnf)); repeat' (first | refine Ok.seq ?_ | (refine Ok.region tok ?_; conv => whnf) | (refine Ok.region_draw tok follows (by kernel_rfl) ?_; conv => whnf) | (refine Ok.cond ?_; conv => whnf) | refine Ok.block ?_ | (refine Ok.skip ?_; conv => whnf) | (refine Ok.exit ?_; conv => whnf) | (refine Ok.ret ?_; conv => whnf) | (refine num_in (by omega) (by omega) ?_; conv => whnf) | (refine ix _ (by assumption) ?_; conv => whnf) | (refine ixI (by omega) (by assumption) ?_; conv => whnf) | (refine ix_new _ (by omega) fun _ _ => ?_; conv => whnf) | (refine ixI_new (by omega) (by omega) fun _ _ => ?_; conv => whnf) | (refine rd rfl (by assumption) ?_; conv => whnf) | (refine ⟨_, .inl ⟨rfl, rfl⟩, ?_⟩; conv => whnf) | (refine ⟨_, _, rfl, rfl, ?_⟩; conv => whnf) | (refine ⟨fun _ => ?_, fun _ => ?_⟩ <;> (conv => whnf) <;> (try (exfalso; omega))) | (refine And.intro (by first | omega | rfl | (simp; done) | (simp; omega)) ?_; conv => whnf) | (refine num_any ?_; conv => whnf) | fail)
      refine Or.inl ?_; (conv => whnf)
      exact b_eq ⟨fun h => h.elim, fun h => hF h⟩
    | true =>
      (try (conv => whnf)); repeat' (first | refine Ok.seq ?_ | (refine Ok.region tok ?_; conv => whnf) | (refine Ok.region_draw tok follows (by kernel_rfl) ?_; conv => whnf) | (refine Ok.cond ?_; conv => whnf) | refine Ok.block ?_ | (refine Ok.skip ?_; conv => whnf) | (refine Ok.exit ?_; conv => whnf) | (refine Ok.ret ?_; conv => whnf) | (refine num_in (by omega) (by omega) ?_; conv => whnf) | (refine ix _ (by assumption) ?_; conv => whnf) | (refine ixI (by omega) (by assumption) ?_; conv => whnf) | (refine ix_new _ (by omega) fun _ _ => ?_; conv => whnf) | (refine ixI_new (by omega) (by omega) fun _ _ => ?_; conv => whnf) | (refine Or.inl ?_; (conv => whnf); (repeat (refine And.intro (by first | omega | (simp; done) | (simp; omega)) ?_; (conv => whnf))); refine ⟨_, hH v len _ room rfl h0 h1 hn hv0 hv1 hv2, rfl, ?_⟩; conv => whnf) | (refine ⟨_, hH v len _ room rfl h0 h1 hn hv0 hv1 hv2, rfl, ?_⟩; conv => whnf) | (refine Or.inr (Or.inl ?_); (conv => whnf); (repeat (refine And.intro (by first | omega | (simp; done) | (simp; omega)) ?_; (conv => whnf))); refine ⟨_, hH v len _ room rfl h0 h1 hn hv0 hv1 hv2, ?_⟩; rintro _ _ ⟨rfl, rfl⟩; conv => whnf) | (refine rd rfl (by assumption) ?_; conv => whnf) | (refine ⟨_, .inl ⟨rfl, rfl⟩, ?_⟩; conv => whnf) | (refine ⟨_, _, rfl, rfl, ?_⟩; conv => whnf) | (refine ⟨fun _ => ?_, fun _ => ?_⟩ <;> (conv => whnf) <;> (try (exfalso; omega))) | (refine And.intro (by first | omega | rfl | (simp; done) | (simp; omega)) ?_; conv => whnf) | (refine num_any ?_; conv => whnf) | fail)
      refine Or.inl ?_; (conv => whnf)
      exact b_eq (fil_hal hno).symm

set_option maxRecDepth 100000 in
theorem half_end {l : List Route} {bits : Int} (hb1 : 1 ≤ bits) (hb2 : bits ≤ 32) (hok : ∀ r ∈ l, okR bits r) : HalfS l bits 0 := by
  rintro v len _ room rfl h0 h1 hn hv0 hv1 hv2
  have he : len = bits := by omega
  subst he
  refine FSpec.of_ok tok Try.func47 rfl Try.call47 (by simp) ?_
  (try (conv => whnf)); repeat' (first | refine Ok.seq ?_ | (refine Ok.region tok ?_; conv => whnf) | (refine Ok.region_draw tok follows (by kernel_rfl) ?_; conv => whnf) | (refine Ok.cond ?_; conv => whnf) | refine Ok.block ?_ | (refine Ok.skip ?_; conv => whnf) | (refine Ok.exit ?_; conv => whnf) | (refine Ok.ret ?_; conv => whnf) | (refine num_in (by omega) (by omega) ?_; conv => whnf) | (refine ix _ (by assumption) ?_; conv => whnf) | (refine ixI (by omega) (by assumption) ?_; conv => whnf) | (refine ix_new _ (by omega) fun _ _ => ?_; conv => whnf) | (refine ixI_new (by omega) (by omega) fun _ _ => ?_; conv => whnf) | (refine rd rfl (by assumption) ?_; conv => whnf) | (refine ⟨_, .inl ⟨rfl, rfl⟩, ?_⟩; conv => whnf) | (refine ⟨_, _, rfl, rfl, ?_⟩; conv => whnf) | (refine ⟨fun _ => ?_, fun _ => ?_⟩ <;> (conv => whnf) <;> (try (exfalso; omega))) | (refine And.intro (by first | omega | rfl | (simp; done) | (simp; omega)) ?_; conv => whnf) | (refine num_any ?_; conv => whnf) | fail)
  refine Or.inl ?_; (conv => whnf)
  exact b_eq ⟨fun h => h.elim, fun h => hal_end hv0 hv1 hok h⟩
set_option maxRecDepth 100000 in
theorem half_of_fill {l : List Route} {bits : Int} (hb1 : 1 ≤ bits) (hb2 : bits ≤ 32) {n : Nat} (hF : FillS l bits n) : HalfS l bits (n + 1) := by
  rintro v len _ room rfl h0 h1 hn hv0 hv1 hv2
  have hlt : len < bits := by omega
  have e1 : (bits - (len + 1)).toNat = n := by omega
  have e2 : (bits - len - 1).toNat = n := by omega
  have e3 : (bits - len).toNat = n + 1 := by omega
  have hbd := pow_bd bits.toNat (by omega)
  have hspl := hal_split (l := l) hlt hv2
  rw [e3] at hv2
  have hor := or_half (k := n) (by omega) hv0 (by omega) hv2
  have hsh := shl_one (k := n) (by omega)
  rw [← e2] at hsh
  have hpp := p2 n
  have hpn : (2 : Int) ^ (n + 1) = 2 * 2 ^ n := by rw [Int.pow_succ, Int.mul_comm]
  have hv3 : v % 2 ^ n = 0 := by
    have hd := Int.mul_ediv_add_emod v (2 ^ (n + 1))
    rw [hv2, Int.add_zero, hpn] at hd
    rw [← hd, Int.mul_assoc, Int.mul_left_comm]
    exact Int.mul_emod_right _ _
  have hv4 : (v + 2 ^ n) % 2 ^ n = 0 := by rw [Int.add_emod_right]; exact hv3
  have hv5 : v + 2 ^ n < 2 ^ bits.toNat := by
    have hb : (2 : Int) ^ bits.toNat = 2 ^ (bits.toNat - (n + 1)) * 2 ^ (n + 1) := by rw [← Int.pow_add]; congr 1; omega
    have hd := Int.mul_ediv_add_emod v (2 ^ (n + 1))
    rw [hv2, Int.add_zero] at hd
    generalize hc : v / 2 ^ (n + 1) = c at hd
    generalize (2 : Int) ^ (bits.toNat - (n + 1)) = M at hb
    have hcM : c < M := by
      apply Classical.byContradiction
      intro hn
      have : M * 2 ^ (n + 1) ≤ c * 2 ^ (n + 1) := Int.mul_le_mul_of_nonneg_right (by omega) (by omega)
      rw [Int.mul_comm] at hd
      omega
    have h1 : (c + 1) * 2 ^ (n + 1) ≤ M * 2 ^ (n + 1) := Int.mul_le_mul_of_nonneg_right (by omega) (by omega)
    rw [Int.add_mul, Int.one_mul] at h1
    rw [Int.mul_comm] at hd
    omega
  refine FSpec.of_ok tok Try.func47 rfl Try.call47 (by simp) ?_
  have s1 := hF v (len + 1) _ room rfl (by omega) (by omega) e1 hv0 hv1 (by rw [e1]; exact hv3)
  have s2 := hF (v + 2 ^ n) (len + 1) _ room rfl (by omega) (by omega) e1 (by omega) hv5 (by rw [e1]; exact hv4)
  rw [e2] at hspl
  rw [e2] at hsh
  have hsh2 : IntKind.i64.wrap (1 * 2 ^ min (bits - len - 1).toNat IntKind.i64.bits) = 2 ^ n := by rw [e2]; exact hsh
  (try (conv => whnf)); repeat' (first | refine Ok.seq ?_ | (refine Ok.region tok ?_; conv => whnf) | (refine ⟨_, (hsh2).symm, ?_⟩; conv => whnf) | (refine ⟨_, (hor).symm, ?_⟩; conv => whnf) | (refine Ok.region_draw tok follows (by kernel_rfl) ?_; conv => whnf) | (refine Ok.cond ?_; conv => whnf) | refine Ok.block ?_ | (refine Ok.skip ?_; conv => whnf) | (refine Ok.exit ?_; conv => whnf) | (refine Ok.ret ?_; conv => whnf) | (refine num_in (by omega) (by omega) ?_; conv => whnf) | (refine ix _ (by assumption) ?_; conv => whnf) | (refine ixI (by omega) (by assumption) ?_; conv => whnf) | (refine ix_new _ (by omega) fun _ _ => ?_; conv => whnf) | (refine ixI_new (by omega) (by omega) fun _ _ => ?_; conv => whnf) | (refine Or.inl ?_; (conv => whnf); (repeat (refine And.intro (by first | omega | (simp; done) | (simp; omega)) ?_; (conv => whnf))); refine ⟨_, s1, rfl, ?_⟩; conv => whnf) | (refine Or.inl ?_; (conv => whnf); (repeat (refine And.intro (by first | omega | (simp; done) | (simp; omega)) ?_; (conv => whnf))); refine ⟨_, s2, rfl, ?_⟩; conv => whnf) | (refine ⟨_, s1, rfl, ?_⟩; conv => whnf) | (refine ⟨_, s2, rfl, ?_⟩; conv => whnf) | (refine Or.inr (Or.inl ?_); (conv => whnf); (repeat (refine And.intro (by first | omega | (simp; done) | (simp; omega)) ?_; (conv => whnf))); refine ⟨_, s1, ?_⟩; rintro _ _ ⟨rfl, rfl⟩; conv => whnf) | (refine Or.inr (Or.inl ?_); (conv => whnf); (repeat (refine And.intro (by first | omega | (simp; done) | (simp; omega)) ?_; (conv => whnf))); refine ⟨_, s2, ?_⟩; rintro _ _ ⟨rfl, rfl⟩; conv => whnf) | (refine rd rfl (by assumption) ?_; conv => whnf) | (refine ⟨_, .inl ⟨rfl, rfl⟩, ?_⟩; conv => whnf) | (refine ⟨_, _, rfl, rfl, ?_⟩; conv => whnf) | (refine ⟨fun _ => ?_, fun _ => ?_⟩ <;> (conv => whnf) <;> (try (exfalso; omega))) | (refine And.intro (by first | omega | rfl | (simp; done) | (simp; omega)) ?_; conv => whnf) | (refine num_any ?_; conv => whnf) | fail)
  · rename_i a1
    refine Or.inl ?_; (conv => whnf)
    exact b_eq ⟨fun h => hspl.2 ⟨a1, h⟩, fun h => (hspl.1 h).2⟩
  · rename_i a1
    refine Or.inl ?_; (conv => whnf)
    exact b_eq ⟨fun h => h.elim, fun h => a1 (hspl.1 h).1⟩

theorem half_all {l : List Route} {bits : Int} (hb1 : 1 ≤ bits) (hb2 : bits ≤ 32) (hl : l.length ≤ 256) (hok : ∀ r ∈ l, okR bits r) : ∀ n, HalfS l bits n
  | 0 => half_end hb1 hb2 hok
  | n + 1 => half_of_fill hb1 hb2 (fill_of_half hb1 hb2 hl hok (half_all hb1 hb2 hl hok n))
theorem halves_at {l : List Route} {bits : Int} (hb1 : 1 ≤ bits) (hb2 : bits ≤ 32) (hl : l.length ≤ 256) (hok : ∀ r ∈ l, okR bits r) {r : Route} (hr : okR bits r) {rows room : List (List D)} (he : rows = l.map Route.row) :
    FSpec Try.prog T 47 [.i .i64 bits, .lst 68 rows room, .i .i64 r.value, .i .i64 r.len] (fun d _ => d = .b (Hal l bits r.value r.len)) :=
  half_all hb1 hb2 hl hok _ _ _ _ _ he hr.2.2.1 hr.2.2.2.1 rfl hr.2.2.2.2.2.2.1 hr.2.2.2.2.2.2.2.1 hr.2.2.2.2.2.2.2.2
end Go.Proofs.Ytgelaefpbdfnfaa
