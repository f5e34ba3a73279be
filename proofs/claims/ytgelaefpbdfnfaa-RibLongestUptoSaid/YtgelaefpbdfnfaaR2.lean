/- What the two checks of routes answer. -/
import Derived.Test.YtgelaefpbdfnfaaR1
namespace Go.Proofs.Ytgelaefpbdfnfaa
open Go Go.Vx

def okR (bits : Int) (r : Route) : Prop := 1 ≤ r.kind ∧ r.kind ≤ 3 ∧ 0 ≤ r.len ∧ r.len ≤ bits ∧ 0 ≤ r.out ∧ r.out < 48 ∧ 0 ≤ r.value ∧ r.value < 2 ^ bits.toNat ∧ r.value % 2 ^ (bits - r.len).toNat = 0
instance (bits : Int) (r : Route) : Decidable (okR bits r) := by unfold okR; infer_instance
def checkE (bits : Int) (l : List Route) : Int := if 256 < l.length then 2 else if bits < 1 ∨ 32 < bits then 1 else if ∀ r ∈ l, okR bits r then 0 else 80

theorem checkE_bad {bits : Int} {l : List Route} (h1 : ¬ 256 < l.length) (h2 : ¬ bits < 1) (h3 : ¬ 32 < bits) {r : Route} (hr : r ∈ l) (hn : ¬ okR bits r) : checkE bits l = 80 := by
  unfold checkE
  rw [if_neg h1, if_neg (by omega), if_neg (fun h => hn (h r hr))]
theorem pow_bd (k : Nat) (h : k ≤ 32) : (0 : Int) < 2 ^ k ∧ (2 : Int) ^ k ≤ 4294967296 := by
  refine ⟨Int.pow_pos (by omega), ?_⟩
  have : (2 : Nat) ^ k ≤ 2 ^ 32 := Nat.pow_le_pow_right (by omega) h
  have h2 : ((2 ^ k : Nat) : Int) ≤ ((2 ^ 32 : Nat) : Int) := by exact_mod_cast this
  simpa using h2
theorem shr_zero (v : Int) (k : Nat) (hv : 0 ≤ v) : v.fdiv (2 ^ k) = 0 ↔ v < 2 ^ k := by
  have hp : (0 : Int) < 2 ^ k := Int.pow_pos (by omega)
  rw [Int.fdiv_eq_ediv_of_nonneg _ (by omega)]
  constructor
  · intro h
    have := Int.lt_ediv_add_one_mul_self v hp
    rw [h] at this
    omega
  · intro h
    exact Int.ediv_eq_zero_of_lt hv h
theorem and_mask (v : Int) (k : Nat) (hk : k ≤ 32) (h0 : 0 ≤ v) (h1 : v < 4294967296) : ((BitVec.ofInt 64 v &&& BitVec.ofInt 64 (2 ^ k - 1)).toNat : Int) = v % 2 ^ k := by
  obtain ⟨n, rfl⟩ := Int.eq_ofNat_of_zero_le h0
  have hp : 1 ≤ 2 ^ k := Nat.one_le_two_pow
  have hk2 : (2 : Nat) ^ k ≤ 2 ^ 32 := Nat.pow_le_pow_right (by omega) hk
  have e1 : ((2 : Int) ^ k - 1) = ((2 ^ k - 1 : Nat) : Int) := by rw [Int.natCast_sub hp]; simp
  rw [e1, BitVec.ofInt_natCast, BitVec.ofInt_natCast, BitVec.toNat_and, BitVec.toNat_ofNat, BitVec.toNat_ofNat, Nat.mod_eq_of_lt (by omega), Nat.mod_eq_of_lt (by omega), Nat.and_two_pow_sub_one_eq_mod]
  simp

theorem mask_eq (bits : Int) (r : Route) (h1 : bits ≤ 32) (h2 : 0 ≤ r.len) (h4 : 0 ≤ r.value) (h5 : r.value < 2 ^ bits.toNat) :
    IntKind.i64.wrap ((BitVec.ofInt IntKind.i64.bits r.value &&& BitVec.ofInt IntKind.i64.bits (1 * 2 ^ min (bits - r.len).toNat IntKind.i64.bits - 1)).toNat : Int) = r.value % 2 ^ (bits - r.len).toNat := by
  have hm2 : min (bits - r.len).toNat IntKind.i64.bits = (bits - r.len).toNat := by show min (bits - r.len).toNat 64 = _; omega
  have hb := pow_bd bits.toNat (by omega)
  rw [hm2, Int.one_mul]
  have e := and_mask r.value (bits - r.len).toNat (by omega) h4 (by omega)
  show IntKind.i64.wrap ((BitVec.ofInt 64 r.value &&& BitVec.ofInt 64 (2 ^ (bits - r.len).toNat - 1)).toNat : Int) = _
  rw [e, IntKind.wrap_i64]
  have hp : (0 : Int) < 2 ^ (bits - r.len).toNat := Int.pow_pos (by omega)
  have g1 := Int.emod_nonneg r.value (b := 2 ^ (bits - r.len).toNat) (by omega)
  have g2 : r.value % 2 ^ (bits - r.len).toNat ≤ r.value := by
    have k1 := Int.mul_ediv_add_emod r.value (2 ^ (bits - r.len).toNat)
    have k2 : 0 ≤ 2 ^ (bits - r.len).toNat * (r.value / 2 ^ (bits - r.len).toNat) := Int.mul_nonneg (by omega) (Int.ediv_nonneg h4 (by omega))
    omega
  omega

set_option maxRecDepth 100000 in
theorem may_spec (bits : Int) (r : Route) (h1 : 1 ≤ bits) (h2 : bits ≤ 32) : FSpec Try.prog T 55 [.i .i64 bits, .agg r.row] (fun d _ => d = .b (okR bits r)) := by
  have hm : min bits.toNat IntKind.i64.bits = bits.toNat := by show min bits.toNat 64 = _; omega
  have hm2 : 0 ≤ r.len → min (bits - r.len).toNat IntKind.i64.bits = (bits - r.len).toNat := fun h => by show min (bits - r.len).toNat 64 = _; omega
  have hb : (0 : Int) < 2 ^ min bits.toNat IntKind.i64.bits ∧ (2 : Int) ^ min bits.toNat IntKind.i64.bits ≤ 4294967296 := by rw [hm]; exact pow_bd _ (by omega)
  have hb2 : 0 ≤ r.len → (0 : Int) < 2 ^ min (bits - r.len).toNat IntKind.i64.bits ∧ (2 : Int) ^ min (bits - r.len).toNat IntKind.i64.bits ≤ 4294967296 := fun h => by rw [hm2 h]; exact pow_bd _ (by omega)
  refine FSpec.of_ok tok Try.func55 rfl Try.call55 (by simp) ?_
  repeat' (first | refine Ok.seq ?_ | (refine Ok.region tok ?_; conv => whnf) | (refine Ok.region_draw tok follows (by kernel_rfl) ?_; conv => whnf) | (refine Ok.cond ?_; conv => whnf) | refine Ok.block ?_ | (refine Ok.skip ?_; conv => whnf) | (refine Ok.exit ?_; conv => whnf) | (refine Ok.ret ?_; conv => whnf) | (refine num_in (by omega) (by omega) ?_; conv => whnf) | (refine ⟨fun _ => ?_, fun _ => ?_⟩) | (refine And.intro (by first | omega | rfl | (simp; done) | (simp; omega)) ?_; conv => whnf) | (refine num_any ?_; conv => whnf) | fail)
  all_goals left
  all_goals (conv => whnf)
  all_goals refine b_eq ?_
  all_goals (try simp only [hm, Int.one_mul] at *)
  all_goals (try exact ⟨fun h => h.elim, fun h => by unfold okR at h; omega⟩)
  · rw [hm2 (by omega), Int.tmod_eq_emod_of_nonneg (by omega)]
    unfold okR
    constructor
    · intro h
      refine ⟨by omega, by omega, by omega, by omega, by omega, by omega, by omega, by omega, h⟩
    · intro h
      exact h.2.2.2.2.2.2.2.2

set_option maxRecDepth 100000 in
theorem fit_spec (bits : Int) (l : List Route) (room : List (List D)) : FSpec Try.prog T 42 [.i .i64 bits, .lst 68 (l.map Route.row) room] (fun d _ => d = .i .i64 (checkE bits l)) := by
  refine FSpec.of_ok tok Try.func42 rfl Try.call42 (by simp) ?_
  repeat' (first | refine Ok.seq ?_ | (refine Ok.region tok ?_; conv => whnf) | (refine Ok.region_draw tok follows (by kernel_rfl) ?_; conv => whnf) | (refine Ok.cond ?_; conv => whnf) | refine Ok.block ?_ | (refine Ok.skip ?_; conv => whnf) | (refine Ok.exit ?_; conv => whnf) | (refine Ok.ret ?_; conv => whnf) | (refine num_in (by omega) (by omega) ?_; conv => whnf) | fail)
  refine ⟨fun h1 => ?_, fun h1 => ?_⟩
  · repeat' (first | refine Ok.seq ?_ | (refine Ok.region tok ?_; conv => whnf) | (refine Ok.region_draw tok follows (by kernel_rfl) ?_; conv => whnf) | (refine Ok.cond ?_; conv => whnf) | refine Ok.block ?_ | (refine Ok.skip ?_; conv => whnf) | (refine Ok.exit ?_; conv => whnf) | (refine Ok.ret ?_; conv => whnf) | (refine num_in (by omega) (by omega) ?_; conv => whnf) | fail)
    left
    (conv => whnf)
    have : 256 < l.length := by simp at h1; omega
    simp [oneD, checkE, this]
  have h1' : ¬ 256 < l.length := by simp at h1; omega
  repeat' (first | refine Ok.seq ?_ | (refine Ok.region tok ?_; conv => whnf) | (refine Ok.region_draw tok follows (by kernel_rfl) ?_; conv => whnf) | (refine Ok.cond ?_; conv => whnf) | refine Ok.block ?_ | (refine Ok.skip ?_; conv => whnf) | (refine Ok.exit ?_; conv => whnf) | (refine Ok.ret ?_; conv => whnf) | (refine num_in (by omega) (by omega) ?_; conv => whnf) | fail)
  refine ⟨fun h2 => ?_, fun h2 => ?_⟩
  · repeat' (first | refine Ok.seq ?_ | (refine Ok.region tok ?_; conv => whnf) | (refine Ok.region_draw tok follows (by kernel_rfl) ?_; conv => whnf) | (refine Ok.cond ?_; conv => whnf) | refine Ok.block ?_ | (refine Ok.skip ?_; conv => whnf) | (refine Ok.exit ?_; conv => whnf) | (refine Ok.ret ?_; conv => whnf) | (refine num_in (by omega) (by omega) ?_; conv => whnf) | fail)
    left
    (conv => whnf)
    simp [oneD, checkE, h1', h2]
  repeat' (first | refine Ok.seq ?_ | (refine Ok.region tok ?_; conv => whnf) | (refine Ok.region_draw tok follows (by kernel_rfl) ?_; conv => whnf) | (refine Ok.cond ?_; conv => whnf) | refine Ok.block ?_ | (refine Ok.skip ?_; conv => whnf) | (refine Ok.exit ?_; conv => whnf) | (refine Ok.ret ?_; conv => whnf) | (refine num_in (by omega) (by omega) ?_; conv => whnf) | fail)
  refine ⟨fun h3 => ?_, fun h3 => ?_⟩
  · repeat' (first | refine Ok.seq ?_ | (refine Ok.region tok ?_; conv => whnf) | (refine Ok.region_draw tok follows (by kernel_rfl) ?_; conv => whnf) | (refine Ok.cond ?_; conv => whnf) | refine Ok.block ?_ | (refine Ok.skip ?_; conv => whnf) | (refine Ok.exit ?_; conv => whnf) | (refine Ok.ret ?_; conv => whnf) | (refine num_in (by omega) (by omega) ?_; conv => whnf) | fail)
    left
    (conv => whnf)
    simp [oneD, checkE, h1', h3]
  repeat' (first | refine Ok.seq ?_ | (refine Ok.region tok ?_; conv => whnf) | (refine Ok.region_draw tok follows (by kernel_rfl) ?_; conv => whnf) | (refine Ok.cond ?_; conv => whnf) | refine Ok.block ?_ | (refine Ok.skip ?_; conv => whnf) | (refine Ok.exit ?_; conv => whnf) | (refine Ok.ret ?_; conv => whnf) | (refine num_in (by omega) (by omega) ?_; conv => whnf) | fail)
  refine Ok.loopK [0, 1, 5] 0 0 (fun k : Nat => ⟨[(0, .i .i64 bits), (1, .lst 68 (l.map Route.row) room), (5, .i .i64 (k : Nat))], [], [], 28⟩) (fun k => k ≤ l.length ∧ ∀ r ∈ l.take k, okR bits r) (fun k => l.length - k) 0 ⟨Nat.zero_le _, by simp⟩ ?_ ?_
  · (conv => whnf); all_goals (first | rfl | simp)
  rintro k ⟨hk, ha⟩
  repeat' (first | refine Ok.seq ?_ | (refine Ok.region tok ?_; conv => whnf) | (refine Ok.region_draw tok follows (by kernel_rfl) ?_; conv => whnf) | (refine Ok.cond ?_; conv => whnf) | refine Ok.block ?_ | (refine Ok.skip ?_; conv => whnf) | (refine Ok.exit ?_; conv => whnf) | (refine Ok.ret ?_; conv => whnf) | (refine num_in (by omega) (by omega) ?_; conv => whnf) | fail)
  refine ⟨fun h4 => ?_, fun h4 => ?_⟩
  · have h4' : k < l.length := by simpa using h4
    repeat' (first | refine Ok.seq ?_ | (refine Ok.region tok ?_; conv => whnf) | (refine Ok.region_draw tok follows (by kernel_rfl) ?_; conv => whnf) | (refine Ok.cond ?_; conv => whnf) | refine Ok.block ?_ | (refine Ok.skip ?_; conv => whnf) | (refine Ok.exit ?_; conv => whnf) | (refine Ok.ret ?_; conv => whnf) | (refine num_in (by omega) (by omega) ?_; conv => whnf) | fail)
    refine ⟨by omega, _, idx_map _ _ _ h4', ?_⟩
    (conv => whnf)
    left
    (conv => whnf)
    refine ⟨_, may_spec bits l[k] (by omega) (by omega), rfl, ?_⟩
    (conv => whnf)
    repeat' (first | refine Ok.seq ?_ | (refine Ok.region tok ?_; conv => whnf) | (refine Ok.region_draw tok follows (by kernel_rfl) ?_; conv => whnf) | (refine Ok.cond ?_; conv => whnf) | refine Ok.block ?_ | (refine Ok.skip ?_; conv => whnf) | (refine Ok.exit ?_; conv => whnf) | (refine Ok.ret ?_; conv => whnf) | (refine num_in (by omega) (by omega) ?_; conv => whnf) | fail)
    refine ⟨fun h5 => ?_, fun h5 => ?_⟩
    · repeat' (first | refine Ok.seq ?_ | (refine Ok.region tok ?_; conv => whnf) | (refine Ok.region_draw tok follows (by kernel_rfl) ?_; conv => whnf) | (refine Ok.cond ?_; conv => whnf) | refine Ok.block ?_ | (refine Ok.skip ?_; conv => whnf) | (refine Ok.exit ?_; conv => whnf) | (refine Ok.ret ?_; conv => whnf) | (refine num_in (by omega) (by omega) ?_; conv => whnf) | fail)
      left
      (conv => whnf)
      simp [oneD, checkE_bad h1' h2 h3 (List.getElem_mem h4') h5]
    · have h5 : okR bits l[k] := Classical.not_not.1 h5
      repeat' (first | refine Ok.seq ?_ | (refine Ok.region tok ?_; conv => whnf) | (refine Ok.region_draw tok follows (by kernel_rfl) ?_; conv => whnf) | (refine Ok.cond ?_; conv => whnf) | refine Ok.block ?_ | (refine Ok.skip ?_; conv => whnf) | (refine Ok.exit ?_; conv => whnf) | (refine Ok.ret ?_; conv => whnf) | (refine num_in (by omega) (by omega) ?_; conv => whnf) | fail)
      refine ⟨k + 1, by omega, ⟨by omega, fun r hr => ?_⟩, ?_⟩
      · rw [List.take_succ_eq_append_getElem h4'] at hr
        rcases List.mem_append.1 hr with hr | hr
        · exact ha r hr
        · simp at hr; subst hr; exact h5
      · (conv => whnf); all_goals (first | rfl | simp)
  · have hkk : k = l.length := by simp at h4; omega
    subst hkk
    rw [List.take_length] at ha
    repeat' (first | refine Ok.seq ?_ | (refine Ok.region tok ?_; conv => whnf) | (refine Ok.region_draw tok follows (by kernel_rfl) ?_; conv => whnf) | (refine Ok.cond ?_; conv => whnf) | refine Ok.block ?_ | (refine Ok.skip ?_; conv => whnf) | (refine Ok.exit ?_; conv => whnf) | (refine Ok.ret ?_; conv => whnf) | (refine num_in (by omega) (by omega) ?_; conv => whnf) | fail)
    left
    (conv => whnf)
    unfold checkE
    rw [if_neg h1', if_neg (by omega), if_pos ha]
    rfl

set_option maxRecDepth 100000 in
theorem check_spec (bits : Int) (l : List Route) (room : List (List D)) : FSpec Try.prog T 40 [.i .i64 bits, .lst 68 (l.map Route.row) room] (fun d _ => d = .i .i64 (checkE bits l)) := by
  refine FSpec.of_ok tok Try.func40 rfl Try.call40 (by simp) ?_
  repeat' (first | refine Ok.seq ?_ | (refine Ok.region tok ?_; conv => whnf) | (refine Ok.region_draw tok follows (by kernel_rfl) ?_; conv => whnf) | (refine Ok.cond ?_; conv => whnf) | refine Ok.block ?_ | (refine Ok.skip ?_; conv => whnf) | (refine Ok.exit ?_; conv => whnf) | (refine Ok.ret ?_; conv => whnf) | (refine num_in (by omega) (by omega) ?_; conv => whnf) | fail)
  refine ⟨fun h1 => ?_, fun h1 => ?_⟩
  · repeat' (first | refine Ok.seq ?_ | (refine Ok.region tok ?_; conv => whnf) | (refine Ok.region_draw tok follows (by kernel_rfl) ?_; conv => whnf) | (refine Ok.cond ?_; conv => whnf) | refine Ok.block ?_ | (refine Ok.skip ?_; conv => whnf) | (refine Ok.exit ?_; conv => whnf) | (refine Ok.ret ?_; conv => whnf) | (refine num_in (by omega) (by omega) ?_; conv => whnf) | fail)
    left
    (conv => whnf)
    have : 256 < l.length := by simp at h1; omega
    simp [oneD, checkE, this]
  have h1' : ¬ 256 < l.length := by simp at h1; omega
  repeat' (first | refine Ok.seq ?_ | (refine Ok.region tok ?_; conv => whnf) | (refine Ok.region_draw tok follows (by kernel_rfl) ?_; conv => whnf) | (refine Ok.cond ?_; conv => whnf) | refine Ok.block ?_ | (refine Ok.skip ?_; conv => whnf) | (refine Ok.exit ?_; conv => whnf) | (refine Ok.ret ?_; conv => whnf) | (refine num_in (by omega) (by omega) ?_; conv => whnf) | fail)
  refine ⟨fun h2 => ?_, fun h2 => ?_⟩
  · repeat' (first | refine Ok.seq ?_ | (refine Ok.region tok ?_; conv => whnf) | (refine Ok.region_draw tok follows (by kernel_rfl) ?_; conv => whnf) | (refine Ok.cond ?_; conv => whnf) | refine Ok.block ?_ | (refine Ok.skip ?_; conv => whnf) | (refine Ok.exit ?_; conv => whnf) | (refine Ok.ret ?_; conv => whnf) | (refine num_in (by omega) (by omega) ?_; conv => whnf) | fail)
    left
    (conv => whnf)
    simp [oneD, checkE, h1', h2]
  repeat' (first | refine Ok.seq ?_ | (refine Ok.region tok ?_; conv => whnf) | (refine Ok.region_draw tok follows (by kernel_rfl) ?_; conv => whnf) | (refine Ok.cond ?_; conv => whnf) | refine Ok.block ?_ | (refine Ok.skip ?_; conv => whnf) | (refine Ok.exit ?_; conv => whnf) | (refine Ok.ret ?_; conv => whnf) | (refine num_in (by omega) (by omega) ?_; conv => whnf) | fail)
  refine ⟨fun h3 => ?_, fun h3 => ?_⟩
  · repeat' (first | refine Ok.seq ?_ | (refine Ok.region tok ?_; conv => whnf) | (refine Ok.region_draw tok follows (by kernel_rfl) ?_; conv => whnf) | (refine Ok.cond ?_; conv => whnf) | refine Ok.block ?_ | (refine Ok.skip ?_; conv => whnf) | (refine Ok.exit ?_; conv => whnf) | (refine Ok.ret ?_; conv => whnf) | (refine num_in (by omega) (by omega) ?_; conv => whnf) | fail)
    left
    (conv => whnf)
    simp [oneD, checkE, h1', h3]
  repeat' (first | refine Ok.seq ?_ | (refine Ok.region tok ?_; conv => whnf) | (refine Ok.region_draw tok follows (by kernel_rfl) ?_; conv => whnf) | (refine Ok.cond ?_; conv => whnf) | refine Ok.block ?_ | (refine Ok.skip ?_; conv => whnf) | (refine Ok.exit ?_; conv => whnf) | (refine Ok.ret ?_; conv => whnf) | (refine num_in (by omega) (by omega) ?_; conv => whnf) | fail)
  refine Ok.loopK [0, 16, 17, 18] 0 0 (fun k : Nat => ⟨[(0, .i .i64 bits), (16, .lst 68 (l.map Route.row) room), (17, .i .i64 (l.map Route.row).length), (18, .i .i64 (k : Nat))], [], [], 74⟩) (fun k => k ≤ l.length ∧ ∀ r ∈ l.take k, okR bits r) (fun k => l.length - k) 0 ⟨Nat.zero_le _, by simp⟩ ?_ ?_
  · (conv => whnf); all_goals (first | rfl | simp)
  rintro k ⟨hk, ha⟩
  repeat' (first | refine Ok.seq ?_ | (refine Ok.region tok ?_; conv => whnf) | (refine Ok.region_draw tok follows (by kernel_rfl) ?_; conv => whnf) | (refine Ok.cond ?_; conv => whnf) | refine Ok.block ?_ | (refine Ok.skip ?_; conv => whnf) | (refine Ok.exit ?_; conv => whnf) | (refine Ok.ret ?_; conv => whnf) | (refine num_in (by omega) (by omega) ?_; conv => whnf) | fail)
  refine ⟨fun h4 => ?_, fun h4 => ?_⟩
  · have h4' : k < l.length := by simpa using h4
    repeat' (first | refine Ok.seq ?_ | (refine Ok.region tok ?_; conv => whnf) | (refine Ok.region_draw tok follows (by kernel_rfl) ?_; conv => whnf) | (refine Ok.cond ?_; conv => whnf) | refine Ok.block ?_ | (refine Ok.skip ?_; conv => whnf) | (refine Ok.exit ?_; conv => whnf) | (refine Ok.ret ?_; conv => whnf) | (refine num_in (by omega) (by omega) ?_; conv => whnf) | fail)
    refine ⟨by omega, _, idx_map _ _ _ h4', ?_⟩
    (conv => whnf)
    obtain ⟨r, hr0⟩ : ∃ r, r = l[k] := ⟨_, rfl⟩
    have hrl : r ∈ l := by rw [hr0]; exact List.getElem_mem h4'
    rw [← hr0]
    have hm : min bits.toNat IntKind.i64.bits = bits.toNat := by show min bits.toNat 64 = _; omega
    have hm2 : 0 ≤ r.len → min (bits - r.len).toNat IntKind.i64.bits = (bits - r.len).toNat := fun h => by show min (bits - r.len).toNat 64 = _; omega
    have hb := pow_bd bits.toNat (by omega)
    have hb2 : 0 ≤ r.len → (0 : Int) < 2 ^ min (bits - r.len).toNat IntKind.i64.bits ∧ (2 : Int) ^ min (bits - r.len).toNat IntKind.i64.bits ≤ 4294967296 := fun h => by rw [hm2 h]; exact pow_bd _ (by omega)
    have hbad : ¬ okR bits r → checkE bits l = 80 := checkE_bad h1' h2 h3 hrl
    repeat' (first | refine Ok.seq ?_ | (refine Ok.region tok ?_; conv => whnf) | (refine Ok.region_draw tok follows (by kernel_rfl) ?_; conv => whnf) | (refine Ok.cond ?_; conv => whnf) | refine Ok.block ?_ | (refine Ok.skip ?_; conv => whnf) | (refine Ok.exit ?_; conv => whnf) | (refine Ok.ret ?_; conv => whnf) | (refine num_in (by omega) (by omega) ?_; conv => whnf) | (refine ⟨fun _ => ?_, fun _ => ?_⟩) | (refine And.intro (by first | omega | rfl | (simp; done) | (simp; omega)) ?_; conv => whnf) | (refine num_any ?_; conv => whnf) | fail)
    all_goals try (left; (conv => whnf); rw [hbad (by intro h; unfold okR at h; omega)]; rfl)
    · rename_i h
      rw [hm, ne_eq, shr_zero _ _ (by omega)] at h
      left
      (conv => whnf)
      rw [hbad (by intro h; unfold okR at h; omega)]
      rfl
    · rename_i h6 h
      rw [hm, ne_eq, shr_zero _ _ (by omega)] at h6
      rw [mask_eq bits r (by omega) (by omega) (by omega) (by omega)] at h
      left
      (conv => whnf)
      rw [hbad (fun h' => h h'.2.2.2.2.2.2.2.2)]
      rfl
    · rename_i h6 h
      rw [hm, ne_eq, shr_zero _ _ (by omega)] at h6
      rw [mask_eq bits r (by omega) (by omega) (by omega) (by omega)] at h
      have hok : okR bits r := ⟨by omega, by omega, by omega, by omega, by omega, by omega, by omega, by omega, Classical.not_not.1 h⟩
      refine ⟨k + 1, by omega, ⟨by omega, fun q hq => ?_⟩, ?_⟩
      · rw [List.take_succ_eq_append_getElem h4'] at hq
        rcases List.mem_append.1 hq with hq | hq
        · exact ha q hq
        · simp at hq; rw [hq, ← hr0]; exact hok
      · (conv => whnf); all_goals (first | rfl | simp)
  · have hkk : k = l.length := by simp at h4; omega
    subst hkk
    rw [List.take_length] at ha
    repeat' (first | refine Ok.seq ?_ | (refine Ok.region tok ?_; conv => whnf) | (refine Ok.region_draw tok follows (by kernel_rfl) ?_; conv => whnf) | (refine Ok.cond ?_; conv => whnf) | refine Ok.block ?_ | (refine Ok.skip ?_; conv => whnf) | (refine Ok.exit ?_; conv => whnf) | (refine Ok.ret ?_; conv => whnf) | (refine num_in (by omega) (by omega) ?_; conv => whnf) | fail)
    left
    (conv => whnf)
    unfold checkE
    rw [if_neg h1', if_neg (by omega), if_pos ha]
    rfl
end Go.Proofs.Ytgelaefpbdfnfaa
