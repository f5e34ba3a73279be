/- The small functions around routes: has, num, alike, copied, untouched. -/
import Derived.Test.YtgelaefpbdfnfaaR2
import Derived.Test.YtgelaefpbdfnfaaVx13
namespace Go.Proofs.Ytgelaefpbdfnfaa
open Go Go.Vx

def hasR (bits : Int) (r : Route) (v : Int) : Prop := v.fdiv (2 ^ (bits - r.len).toNat) = r.value.fdiv (2 ^ (bits - r.len).toNat)

set_option maxRecDepth 100000 in
theorem has_spec (bits : Int) (r : Route) (v : Int) (h0 : bits ≤ 32) (h1 : 0 ≤ r.len) (h2 : r.len ≤ bits) : FSpec Try.prog T 44 [.i .i64 bits, .agg r.row, .i .i64 v] (fun d _ => d = .b (hasR bits r v)) := by
  have hm2 : min (bits - r.len).toNat IntKind.i64.bits = (bits - r.len).toNat := by show min (bits - r.len).toNat 64 = _; omega
  refine FSpec.of_ok tok Try.func44 rfl Try.call44 (by simp) ?_
  repeat' (first | refine Ok.seq ?_ | (refine Ok.region tok ?_; conv => whnf) | (refine Ok.region_draw tok follows (by kernel_rfl) ?_; conv => whnf) | (refine Ok.cond ?_; conv => whnf) | refine Ok.block ?_ | (refine Ok.skip ?_; conv => whnf) | (refine Ok.exit ?_; conv => whnf) | (refine Ok.ret ?_; conv => whnf) | (refine num_in (by omega) (by omega) ?_; conv => whnf) | (refine ⟨fun _ => ?_, fun _ => ?_⟩) | (refine And.intro (by first | omega | rfl | (simp; done) | (simp; omega)) ?_; conv => whnf) | (refine num_any ?_; conv => whnf) | fail)
  left
  (conv => whnf)
  refine b_eq ?_
  rw [hm2]
  rfl
set_option maxRecDepth 100000 in
theorem Has_spec (bits : Int) (r : Route) (v : Int) (h0 : bits ≤ 32) (h1 : 0 ≤ r.len) (h2 : r.len ≤ bits) : FSpec Try.prog T 45 [.i .i64 bits, .agg r.row, .i .i64 v] (fun d _ => d = .b (hasR bits r v)) := by
  have hm2 : min (bits - r.len).toNat IntKind.i64.bits = (bits - r.len).toNat := by show min (bits - r.len).toNat 64 = _; omega
  refine FSpec.of_ok tok Try.func45 rfl Try.call45 (by simp) ?_
  repeat' (first | refine Ok.seq ?_ | (refine Ok.region tok ?_; conv => whnf) | (refine Ok.region_draw tok follows (by kernel_rfl) ?_; conv => whnf) | (refine Ok.cond ?_; conv => whnf) | refine Ok.block ?_ | (refine Ok.skip ?_; conv => whnf) | (refine Ok.exit ?_; conv => whnf) | (refine Ok.ret ?_; conv => whnf) | (refine num_in (by omega) (by omega) ?_; conv => whnf) | (refine ⟨fun _ => ?_, fun _ => ?_⟩) | (refine And.intro (by first | omega | rfl | (simp; done) | (simp; omega)) ?_; conv => whnf) | (refine num_any ?_; conv => whnf) | fail)
  left
  (conv => whnf)
  refine b_eq ?_
  rw [hm2]
  rfl

def aheadP (r s : Route) : Prop := if r.len ≠ s.len then s.len < r.len else if r.value ≠ s.value then r.value < s.value else r.kind < s.kind
set_option maxRecDepth 100000 in
theorem ahead_spec (r s : Route) : FSpec Try.prog T 46 [.agg r.row, .agg s.row] (fun d _ => d = .b (aheadP r s)) := by
  refine FSpec.of_ok tok Try.func46 rfl Try.call46 (by simp) ?_
  repeat' (first | refine Ok.seq ?_ | (refine Ok.region tok ?_; conv => whnf) | (refine Ok.region_draw tok follows (by kernel_rfl) ?_; conv => whnf) | (refine Ok.cond ?_; conv => whnf) | refine Ok.block ?_ | (refine Ok.skip ?_; conv => whnf) | (refine Ok.exit ?_; conv => whnf) | (refine Ok.ret ?_; conv => whnf) | (refine num_in (by omega) (by omega) ?_; conv => whnf) | (refine ⟨fun _ => ?_, fun _ => ?_⟩) | (refine And.intro (by first | omega | rfl | (simp; done) | (simp; omega)) ?_; conv => whnf) | (refine num_any ?_; conv => whnf) | fail)
  all_goals left
  all_goals (conv => whnf)
  all_goals exact b_eq (by simp [aheadP, *])

set_option maxRecDepth 100000 in
theorem num_spec (e : Int) : FSpec Try.prog T 14 [.i .i64 e] (fun d _ => d = .i .i64 e) := by
  refine FSpec.of_ok tok Try.func14 rfl Try.call14 (by simp) ?_
  repeat' (first | refine Ok.seq ?_ | (refine Ok.region tok ?_; conv => whnf) | (refine Ok.region_draw tok follows (by kernel_rfl) ?_; conv => whnf) | (refine Ok.cond ?_; conv => whnf) | refine Ok.block ?_ | (refine Ok.skip ?_; conv => whnf) | (refine Ok.exit ?_; conv => whnf) | (refine Ok.ret ?_; conv => whnf) | (refine num_in (by omega) (by omega) ?_; conv => whnf) | (refine ⟨fun _ => ?_, fun _ => ?_⟩) | (refine And.intro (by first | omega | rfl | (simp; done) | (simp; omega)) ?_; conv => whnf) | (refine num_any ?_; conv => whnf) | fail)
  left
  (conv => whnf)
  rfl

def shRoute : List Sh := [.i .i64, .i .i64, .i .i64, .i .i64]
theorem eqRoute : EqT Try.prog 68 shRoute := EqT.of_b tok (ti := _) rfl rfl (by kernel_rfl)
theorem eqRow (r s : Route) : eqDs r.row s.row ↔ r = s := by
  obtain ⟨a, b, c, d⟩ := r
  obtain ⟨a', b', c', d'⟩ := s
  simp [Route.row, eqDs, eqD]

set_option maxRecDepth 100000 in
theorem alike_spec (a b : List Route) (ra rb : List (List D)) : FSpec Try.prog T 20 [.lst 68 (a.map Route.row) ra, .lst 68 (b.map Route.row) rb] (fun d _ => d = .b (a = b)) := by
  refine FSpec.of_len Try.call20 0 rfl fun hlen => ?_
  have hlen : a.length ≤ 9223372036854775807 := by simp at hlen; omega
  refine FSpec.of_ok tok Try.func20 rfl Try.call20 (by simp) ?_
  repeat' (first | refine Ok.seq ?_ | (refine Ok.region tok ?_; conv => whnf) | (refine Ok.region_draw tok follows (by kernel_rfl) ?_; conv => whnf) | (refine Ok.cond ?_; conv => whnf) | refine Ok.block ?_ | (refine Ok.skip ?_; conv => whnf) | (refine Ok.exit ?_; conv => whnf) | (refine Ok.ret ?_; conv => whnf) | (refine num_in (by omega) (by omega) ?_; conv => whnf) | fail)
  refine ⟨fun h1 => ?_, fun h1 => ?_⟩
  · repeat' (first | refine Ok.seq ?_ | (refine Ok.region tok ?_; conv => whnf) | (refine Ok.region_draw tok follows (by kernel_rfl) ?_; conv => whnf) | (refine Ok.cond ?_; conv => whnf) | refine Ok.block ?_ | (refine Ok.skip ?_; conv => whnf) | (refine Ok.exit ?_; conv => whnf) | (refine Ok.ret ?_; conv => whnf) | (refine num_in (by omega) (by omega) ?_; conv => whnf) | fail)
    left
    (conv => whnf)
    refine b_eq ⟨fun h => h.elim, fun h => h1 (by rw [h])⟩
  have hl : a.length = b.length := by simp at h1; omega
  repeat' (first | refine Ok.seq ?_ | (refine Ok.region tok ?_; conv => whnf) | (refine Ok.region_draw tok follows (by kernel_rfl) ?_; conv => whnf) | (refine Ok.cond ?_; conv => whnf) | refine Ok.block ?_ | (refine Ok.skip ?_; conv => whnf) | (refine Ok.exit ?_; conv => whnf) | (refine Ok.ret ?_; conv => whnf) | (refine num_in (by omega) (by omega) ?_; conv => whnf) | fail)
  refine Ok.loopK [0, 1, 5] 0 0 (fun k : Nat => ⟨[(0, .lst 68 (a.map Route.row) ra), (1, .lst 68 (b.map Route.row) rb), (5, .i .i64 (k : Nat))], [], [], 26⟩) (fun k => k ≤ a.length ∧ a.take k = b.take k) (fun k => a.length - k) 0 ⟨Nat.zero_le _, by simp⟩ ?_ ?_
  · (conv => whnf); all_goals (first | rfl | simp)
  rintro k ⟨hk, ha⟩
  repeat' (first | refine Ok.seq ?_ | (refine Ok.region tok ?_; conv => whnf) | (refine Ok.region_draw tok follows (by kernel_rfl) ?_; conv => whnf) | (refine Ok.cond ?_; conv => whnf) | refine Ok.block ?_ | (refine Ok.skip ?_; conv => whnf) | (refine Ok.exit ?_; conv => whnf) | (refine Ok.ret ?_; conv => whnf) | (refine num_in (by omega) (by omega) ?_; conv => whnf) | fail)
  refine ⟨fun h4 => ?_, fun h4 => ?_⟩
  · have h4' : k < a.length := by simpa using h4
    have h5' : k < b.length := by omega
    repeat' (first | refine Ok.seq ?_ | (refine Ok.region tok ?_; conv => whnf) | (refine Ok.region_draw tok follows (by kernel_rfl) ?_; conv => whnf) | (refine Ok.cond ?_; conv => whnf) | refine Ok.block ?_ | (refine Ok.skip ?_; conv => whnf) | (refine Ok.exit ?_; conv => whnf) | (refine Ok.ret ?_; conv => whnf) | (refine num_in (by omega) (by omega) ?_; conv => whnf) | fail)
    refine ⟨by omega, _, idx_map _ _ _ h4', ?_⟩
    (conv => whnf)
    refine ⟨by omega, _, idx_map _ _ _ h5', ?_⟩
    (conv => whnf)
    refine ⟨_, eqRoute, by kernel_rfl, ?_⟩
    (conv => whnf)
    repeat' (first | refine Ok.seq ?_ | (refine Ok.region tok ?_; conv => whnf) | (refine Ok.region_draw tok follows (by kernel_rfl) ?_; conv => whnf) | (refine Ok.cond ?_; conv => whnf) | refine Ok.block ?_ | (refine Ok.skip ?_; conv => whnf) | (refine Ok.exit ?_; conv => whnf) | (refine Ok.ret ?_; conv => whnf) | (refine num_in (by omega) (by omega) ?_; conv => whnf) | fail)
    refine ⟨fun h6 => ?_, fun h6 => ?_⟩
    · have h6 : a[k] ≠ b[k] := fun h => h6 ((eqRow _ _).2 h)
      repeat' (first | refine Ok.seq ?_ | (refine Ok.region tok ?_; conv => whnf) | (refine Ok.region_draw tok follows (by kernel_rfl) ?_; conv => whnf) | (refine Ok.cond ?_; conv => whnf) | refine Ok.block ?_ | (refine Ok.skip ?_; conv => whnf) | (refine Ok.exit ?_; conv => whnf) | (refine Ok.ret ?_; conv => whnf) | (refine num_in (by omega) (by omega) ?_; conv => whnf) | fail)
      left
      (conv => whnf)
      refine b_eq ⟨fun h => h.elim, fun h => h6 (by simp [h])⟩
    · have h6 : a[k] = b[k] := (eqRow _ _).1 (Classical.not_not.1 h6)
      repeat' (first | refine Ok.seq ?_ | (refine Ok.region tok ?_; conv => whnf) | (refine Ok.region_draw tok follows (by kernel_rfl) ?_; conv => whnf) | (refine Ok.cond ?_; conv => whnf) | refine Ok.block ?_ | (refine Ok.skip ?_; conv => whnf) | (refine Ok.exit ?_; conv => whnf) | (refine Ok.ret ?_; conv => whnf) | (refine num_in (by omega) (by omega) ?_; conv => whnf) | fail)
      refine ⟨k + 1, by omega, ⟨by omega, ?_⟩, ?_⟩
      · rw [List.take_succ_eq_append_getElem h4', List.take_succ_eq_append_getElem h5', ha, h6]
      · (conv => whnf); all_goals (first | rfl | simp)
  · have hkk : k = a.length := by simp at h4; omega
    subst hkk
    rw [List.take_length, hl, List.take_length] at ha
    repeat' (first | refine Ok.seq ?_ | (refine Ok.region tok ?_; conv => whnf) | (refine Ok.region_draw tok follows (by kernel_rfl) ?_; conv => whnf) | (refine Ok.cond ?_; conv => whnf) | refine Ok.block ?_ | (refine Ok.skip ?_; conv => whnf) | (refine Ok.exit ?_; conv => whnf) | (refine Ok.ret ?_; conv => whnf) | (refine num_in (by omega) (by omega) ?_; conv => whnf) | fail)
    left
    (conv => whnf)
    exact b_eq ⟨fun _ => ha, fun _ => trivial⟩

def mk (k : Int) : Route := ⟨k, 0, 0, 0⟩
set_option maxRecDepth 100000 in
theorem copied_spec (l : List Route) (rl : List (List D)) (hl : l.length ≤ 270) : FSpec Try.prog T 17 [.lst 68 (l.map Route.row) rl] (fun d rows => d = .own 0 l.length ∧ rows = [some (68, (l ++ [mk 91, mk 92]).map Route.row)]) := by
  refine FSpec.of_ok tok Try.func17 rfl Try.call17 (by simp) ?_
  repeat' (first | refine Ok.seq ?_ | (refine Ok.region tok ?_; conv => whnf) | (refine Ok.region_draw tok follows (by kernel_rfl) ?_; conv => whnf) | (refine Ok.cond ?_; conv => whnf) | refine Ok.block ?_ | (refine Ok.skip ?_; conv => whnf) | (refine Ok.exit ?_; conv => whnf) | (refine Ok.ret ?_; conv => whnf) | (refine num_in (by omega) (by omega) ?_; conv => whnf) | fail)
  refine ⟨by simp; omega, l.map Route.row, l.length, rfl, by simp, ?_⟩
  (conv => whnf)
  repeat' (first | refine Ok.seq ?_ | (refine Ok.region tok ?_; conv => whnf) | (refine Ok.region_draw tok follows (by kernel_rfl) ?_; conv => whnf) | (refine Ok.cond ?_; conv => whnf) | refine Ok.block ?_ | (refine Ok.skip ?_; conv => whnf) | (refine Ok.exit ?_; conv => whnf) | (refine Ok.ret ?_; conv => whnf) | (refine num_in (by omega) (by omega) ?_; conv => whnf) | fail)
  refine ⟨by simp, ?_⟩
  (conv => whnf)
  refine ⟨by simp, _, .inl ⟨rfl, rfl⟩, ?_⟩
  (conv => whnf)
  refine ⟨by simp; omega, (l ++ [mk 91, mk 92]).map Route.row, (l ++ [mk 91, mk 92]).length, by simp [Route.row, mk], by simp, ?_⟩
  (conv => whnf)
  repeat' (first | refine Ok.seq ?_ | (refine Ok.region tok ?_; conv => whnf) | (refine Ok.region_draw tok follows (by kernel_rfl) ?_; conv => whnf) | (refine Ok.cond ?_; conv => whnf) | refine Ok.block ?_ | (refine Ok.skip ?_; conv => whnf) | (refine Ok.exit ?_; conv => whnf) | (refine Ok.ret ?_; conv => whnf) | (refine num_in (by omega) (by omega) ?_; conv => whnf) | fail)
  refine ⟨l.length, rfl, by show ((l.map Route.row).length : Int) = _; simp, by simp, ?_⟩
  (conv => whnf)
  repeat' (first | refine Ok.seq ?_ | (refine Ok.region tok ?_; conv => whnf) | (refine Ok.region_draw tok follows (by kernel_rfl) ?_; conv => whnf) | (refine Ok.cond ?_; conv => whnf) | refine Ok.block ?_ | (refine Ok.skip ?_; conv => whnf) | (refine Ok.exit ?_; conv => whnf) | (refine Ok.ret ?_; conv => whnf) | (refine num_in (by omega) (by omega) ?_; conv => whnf) | fail)
  right
  left
  (conv => whnf)
  exact ⟨rfl, rfl⟩

set_option maxRecDepth 100000 in
theorem untouched_spec (m l : List Route) (rl : List (List D)) (k1 k2 : Route) (hl : m.length = l.length) (h2 : l.length ≤ 270) : FSpec Try.prog T 21 [.lst 68 (m.map Route.row) [k1.row, k2.row], .lst 68 (l.map Route.row) rl] (fun d _ => d = .b (m = l ∧ k1 = mk 91 ∧ k2 = mk 92)) := by
  have hml : (l.map Route.row).length = l.length := by simp
  have hall : (m.map Route.row ++ [k1.row, k2.row]) = (m ++ [k1, k2]).map Route.row := by simp
  refine FSpec.of_ok tok Try.func21 rfl Try.call21 (by simp) ?_
  repeat' (first | refine Ok.seq ?_ | (refine Ok.region tok ?_; conv => whnf) | (refine Ok.region_draw tok follows (by kernel_rfl) ?_; conv => whnf) | (refine Ok.cond ?_; conv => whnf) | refine Ok.block ?_ | (refine Ok.skip ?_; conv => whnf) | (refine Ok.exit ?_; conv => whnf) | (refine Ok.ret ?_; conv => whnf) | (refine num_in (by omega) (by omega) ?_; conv => whnf) | fail)
  refine ⟨0, m.length + 2, rfl, by show (((l.map Route.row).length : Int) + 2) = _; simp; omega, by omega, by simp, (m ++ [k1, k2]).map Route.row, [], by rw [hall, List.drop_zero, List.take_of_length_le (by simp)], by simp, ?_⟩
  (conv => whnf)
  repeat' (first | refine Ok.seq ?_ | (refine Ok.region tok ?_; conv => whnf) | (refine Ok.region_draw tok follows (by kernel_rfl) ?_; conv => whnf) | (refine Ok.cond ?_; conv => whnf) | refine Ok.block ?_ | (refine Ok.skip ?_; conv => whnf) | (refine Ok.exit ?_; conv => whnf) | (refine Ok.ret ?_; conv => whnf) | (refine num_in (by omega) (by omega) ?_; conv => whnf) | fail)
  left
  (conv => whnf)
  refine ⟨_, alike_spec m l _ _, rfl, ?_⟩
  (conv => whnf)
  repeat' (first | refine Ok.seq ?_ | (refine Ok.region tok ?_; conv => whnf) | (refine Ok.region_draw tok follows (by kernel_rfl) ?_; conv => whnf) | (refine Ok.cond ?_; conv => whnf) | refine Ok.block ?_ | (refine Ok.skip ?_; conv => whnf) | (refine Ok.exit ?_; conv => whnf) | (refine Ok.ret ?_; conv => whnf) | (refine num_in (by omega) (by omega) ?_; conv => whnf) | fail)
  refine ⟨fun h1 => ?_, fun h1 => ?_⟩
  · repeat' (first | refine Ok.seq ?_ | (refine Ok.region tok ?_; conv => whnf) | (refine Ok.region_draw tok follows (by kernel_rfl) ?_; conv => whnf) | (refine Ok.cond ?_; conv => whnf) | refine Ok.block ?_ | (refine Ok.skip ?_; conv => whnf) | (refine Ok.exit ?_; conv => whnf) | (refine Ok.ret ?_; conv => whnf) | (refine num_in (by omega) (by omega) ?_; conv => whnf) | fail)
    refine ⟨by omega, k1.row, by simp [hl], ?_⟩
    (conv => whnf)
    refine ⟨_, eqRoute, by kernel_rfl, ?_⟩
    (conv => whnf)
    refine ⟨fun h3 => ?_, fun h3 => ?_⟩
    · have h3 : k1 = mk 91 := (eqRow _ _).1 h3
      repeat' (first | refine Ok.seq ?_ | (refine Ok.region tok ?_; conv => whnf) | (refine Ok.region_draw tok follows (by kernel_rfl) ?_; conv => whnf) | (refine Ok.cond ?_; conv => whnf) | refine Ok.block ?_ | (refine Ok.skip ?_; conv => whnf) | (refine Ok.exit ?_; conv => whnf) | (refine Ok.ret ?_; conv => whnf) | (refine num_in (by omega) (by omega) ?_; conv => whnf) | fail)
      have e1 : (((l.map Route.row).length : Int) + 1).toNat = m.length + 1 := by omega
      refine ⟨by omega, k2.row, by rw [e1]; simp, ?_⟩
      (conv => whnf)
      refine ⟨_, eqRoute, by kernel_rfl, ?_⟩
      (conv => whnf)
      repeat' (first | refine Ok.seq ?_ | (refine Ok.region tok ?_; conv => whnf) | (refine Ok.region_draw tok follows (by kernel_rfl) ?_; conv => whnf) | (refine Ok.cond ?_; conv => whnf) | refine Ok.block ?_ | (refine Ok.skip ?_; conv => whnf) | (refine Ok.exit ?_; conv => whnf) | (refine Ok.ret ?_; conv => whnf) | (refine num_in (by omega) (by omega) ?_; conv => whnf) | fail)
      left
      (conv => whnf)
      exact b_eq ⟨fun h => ⟨h1, h3, (eqRow _ _).1 h⟩, fun h => (eqRow k2 (mk 92)).2 h.2.2⟩
    · have h3 : ¬ k1 = mk 91 := fun h => h3 ((eqRow k1 (mk 91)).2 h)
      repeat' (first | refine Ok.seq ?_ | (refine Ok.region tok ?_; conv => whnf) | (refine Ok.region_draw tok follows (by kernel_rfl) ?_; conv => whnf) | (refine Ok.cond ?_; conv => whnf) | refine Ok.block ?_ | (refine Ok.skip ?_; conv => whnf) | (refine Ok.exit ?_; conv => whnf) | (refine Ok.ret ?_; conv => whnf) | (refine num_in (by omega) (by omega) ?_; conv => whnf) | fail)
      left
      (conv => whnf)
      exact b_eq ⟨fun h => h.elim, fun h => h3 h.2.1⟩
  · repeat' (first | refine Ok.seq ?_ | (refine Ok.region tok ?_; conv => whnf) | (refine Ok.region_draw tok follows (by kernel_rfl) ?_; conv => whnf) | (refine Ok.cond ?_; conv => whnf) | refine Ok.block ?_ | (refine Ok.skip ?_; conv => whnf) | (refine Ok.exit ?_; conv => whnf) | (refine Ok.ret ?_; conv => whnf) | (refine num_in (by omega) (by omega) ?_; conv => whnf) | fail)
    left
    (conv => whnf)
    exact b_eq ⟨fun h => h.elim, fun h => h1 h.1⟩
end Go.Proofs.Ytgelaefpbdfnfaa
