/- The checks of sense.go over routes: has, points, longest. -/
import Derived.Test.YtgelaefpbdfnfaaX3
namespace Go.Proofs.Ytgelaefpbdfnfaa
open Go Go.Vx

set_option maxRecDepth 100000 in
theorem hasL_spec (bits : Int) (r : Route) (v : Int) (h0 : bits ≤ 32) (h1 : 0 ≤ r.len) (h2 : r.len ≤ bits) : FSpec Try.prog T 51 [.i .i64 bits, .agg r.row, .i .i64 v] (fun d _ => d = .b (hasR bits r v)) := by
  have hm2 : min (bits - r.len).toNat IntKind.i64.bits = (bits - r.len).toNat := by show min (bits - r.len).toNat 64 = _; omega
  refine FSpec.of_ok tok Try.func51 rfl Try.call51 (by simp) ?_
  (try (conv => whnf)); repeat' (first | refine Ok.seq ?_ | (refine Ok.region tok ?_; conv => whnf) | (refine Ok.region_draw tok follows (by kernel_rfl) ?_; conv => whnf) | (refine Ok.cond ?_; conv => whnf) | refine Ok.block ?_ | (refine Ok.skip ?_; conv => whnf) | (refine Ok.exit ?_; conv => whnf) | (refine Ok.ret ?_; conv => whnf) | (refine num_in (by omega) (by omega) ?_; conv => whnf) | (refine ix _ (by assumption) ?_; conv => whnf) | (refine ixI (by omega) (by assumption) ?_; conv => whnf) | (refine ix_new _ (by omega) fun _ _ => ?_; conv => whnf) | (refine ixI_new (by omega) (by omega) fun _ _ => ?_; conv => whnf) | (refine rd rfl (by assumption) ?_; conv => whnf) | (refine ⟨_, .inl ⟨rfl, rfl⟩, ?_⟩; conv => whnf) | (refine ⟨_, _, rfl, rfl, ?_⟩; conv => whnf) | (refine ⟨fun _ => ?_, fun _ => ?_⟩ <;> (conv => whnf) <;> (try (exfalso; omega))) | (refine And.intro (by first | omega | rfl | (simp; done) | (simp; omega)) ?_; conv => whnf) | (refine num_any ?_; conv => whnf) | (refine ⟨_, rfl, ?_⟩; conv => whnf) | fail)
  refine Or.inl ?_; (conv => whnf)
  refine b_eq ?_
  rw [hm2]
  rfl

theorem pick_ex (bits : Int) (l : List Route) (v : Int) : IsPick bits l v (pick bits l v) := by
  have hex : ∃ k, IsPick bits l v k := by
    obtain ⟨ps, h1, h2⟩ := sorted_ex (numb l)
    obtain ⟨h3, h4⟩ := find_pick (bits := bits) (v := v) h1 h2
    cases h : (ps.foldl ddF []).find? fun x => decide (v.fdiv (2 ^ (bits - x.r.len).toNat) = x.r.value.fdiv (2 ^ (bits - x.r.len).toNat)) with
    | none => exact ⟨_, h4 h⟩
    | some x => exact ⟨_, h3 x h⟩
  unfold pick
  rw [dif_pos hex]
  exact hex.choose_spec
theorem has_same {bits v : Int} {r s : Route} (hr : okR bits r) (hs : okR bits s) (h : r.len = s.len) (h1 : hasR bits r v) (h2 : hasR bits s v) : r.value = s.value := by
  have e1 := hr.2.2.2.2.2.2.2.2
  have e2 := hs.2.2.2.2.2.2.2.2
  have h3 : r.value.fdiv (2 ^ (bits - s.len).toNat) = s.value.fdiv (2 ^ (bits - s.len).toNat) := by
    unfold hasR at h1 h2
    rw [h] at h1
    rw [← h1, ← h2]
  have hp : (0 : Int) < 2 ^ (bits - s.len).toNat := Int.pow_pos (by omega)
  rw [h] at e1
  rw [Int.fdiv_eq_ediv_of_nonneg _ (by omega), Int.fdiv_eq_ediv_of_nonneg _ (by omega)] at h3
  have k1 := Int.mul_ediv_add_emod r.value (2 ^ (bits - s.len).toNat)
  have k2 := Int.mul_ediv_add_emod s.value (2 ^ (bits - s.len).toNat)
  rw [e1, h3] at k1
  rw [e2] at k2
  omega

def ptF (bits : Int) (r : Route) : List Int := if r.value + 2 ^ (bits - r.len).toNat < 2 ^ bits.toNat then [r.value, r.value + 2 ^ (bits - r.len).toNat] else [r.value]
def ptsF (bits : Int) (l : List Route) : List Int := 0 :: l.flatMap (ptF bits)
theorem ptF_len (bits : Int) (r : Route) : (ptF bits r).length ≤ 2 := by unfold ptF; split <;> simp
theorem ptsF_len (bits : Int) : ∀ (l : List Route), (ptsF bits l).length ≤ 1 + 2 * l.length
  | [] => by simp [ptsF]
  | r :: l => by
    have h1 := ptsF_len bits l
    have h2 := ptF_len bits r
    simp only [ptsF, List.flatMap_cons, List.length_cons, List.length_append] at h1 ⊢
    omega
theorem ptsF_take {bits : Int} {l : List Route} {k : Nat} {r : Route} (h : l[k]? = some r) : ptsF bits (l.take (k + 1)) = ptsF bits (l.take k) ++ ptF bits r := by
  rw [List.take_add_one, h]
  simp [ptsF]

set_option maxRecDepth 100000 in
theorem points_at {bits : Int} {l : List Route} {rows room : List (List D)} (hb1 : 1 ≤ bits) (hb2 : bits ≤ 32) (hl : l.length ≤ 256) (hok : ∀ r ∈ l, okR bits r) (he : rows = l.map Route.row) : FSpec Try.prog T 29 [.i .i64 bits, .lst 68 rows room] (fun d rows => rows = [some (3, (ptsF bits l).map irow)] ∧ d = .own 0 (ptsF bits l).length) := by
  subst he
  have hll : (l.map Route.row).length = l.length := by simp
  have hm : min bits.toNat IntKind.i64.bits = bits.toNat := by show min bits.toNat 64 = _; omega
  have hb : (0 : Int) < 2 ^ min bits.toNat IntKind.i64.bits ∧ (2 : Int) ^ min bits.toNat IntKind.i64.bits ≤ 4294967296 := by rw [hm]; exact pow_bd _ (by omega)
  have hb' := pow_bd bits.toNat (by omega)
  refine FSpec.of_ok tok Try.func29 rfl Try.call29 (by simp) ?_
  (try (conv => whnf)); repeat' (first | refine Ok.seq ?_ | (refine Ok.region tok ?_; conv => whnf) | (refine Ok.region_plan (id := 9) tok follows [(5, 9, [8]), (5, 10, [9, 8]), (9, 10, [])] [.q 0, .q 1, .q 2, .q 3, .q 4, .q 5, .q 6, .q 7, .q 8, .l 9, .l 10, .q 11] (by kernel_rfl) ?_; conv => whnf) | (refine Ok.region_draw tok follows (by kernel_rfl) ?_; conv => whnf) | (refine Ok.cond ?_; conv => whnf) | refine Ok.block ?_ | (refine Ok.skip ?_; conv => whnf) | (refine Ok.exit ?_; conv => whnf) | (refine Ok.ret ?_; conv => whnf) | (refine num_in (by omega) (by omega) ?_; conv => whnf) | (refine ix _ (by assumption) ?_; conv => whnf) | (refine ixI (by omega) (by assumption) ?_; conv => whnf) | (refine ix_new _ (by omega) fun _ _ => ?_; conv => whnf) | (refine ixI_new (by omega) (by omega) fun _ _ => ?_; conv => whnf) | (refine rd rfl (by assumption) ?_; conv => whnf) | (refine ⟨_, .inl ⟨rfl, rfl⟩, ?_⟩; conv => whnf) | (refine ⟨_, _, rfl, rfl, ?_⟩; conv => whnf) | (refine ⟨fun _ => ?_, fun _ => ?_⟩ <;> (conv => whnf) <;> (try (exfalso; omega))) | (refine And.intro (by first | omega | rfl | (simp; done) | (simp; omega)) ?_; conv => whnf) | (refine num_any ?_; conv => whnf) | (refine ⟨_, rfl, ?_⟩; conv => whnf) | fail)
  refine Ok.loopU [0, 1] [5, 6] 1 0 (fun (k : Nat) => [.own 0 (ptsF bits (l.take k)).length, .i .i64 (k : Nat)]) (fun _ b => b) (fun (k : Nat) (_ : Vx.Rows) => [some (3, (ptsF bits (l.take k)).map irow)]) (fun (k : Nat) => k ≤ l.length) (fun (k : Nat) => l.length - k) (0) (Nat.zero_le _) ?_; (conv => whnf); refine ⟨by ((conv => whnf); first | rfl | (simp [envCat, List.take_of_length_le, Route.row, irow]; done) | (simp [envCat, List.take_of_length_le, Route.row, irow]; rw [IntKind.wrap_i64]; omega)), ?_⟩
  rintro k hk
  have hpl := ptsF_len bits (l.take k)
  rw [List.length_take] at hpl
  have hpm : ((ptsF bits (l.take k)).map irow).length = (ptsF bits (l.take k)).length := by simp
  by_cases hkl : k < l.length
  · obtain ⟨r, hr⟩ : ∃ r, l[k]? = some r := ⟨_, List.getElem?_eq_getElem hkl⟩
    have hokr := hok r (List.mem_of_getElem? hr)
    obtain ⟨_, _, r1, r2, _, _, r3, r4, _⟩ := hokr
    have hm2 : min (bits - r.len).toNat IntKind.i64.bits = (bits - r.len).toNat := by show min (bits - r.len).toNat 64 = _; omega
    have hb3 : (0 : Int) < 2 ^ min (bits - r.len).toNat IntKind.i64.bits ∧ (2 : Int) ^ min (bits - r.len).toNat IntKind.i64.bits ≤ 4294967296 := by rw [hm2]; exact pow_bd _ (by omega)
    have htk := ptsF_take (bits := bits) hr
    (try (conv => whnf)); repeat' (first | refine Ok.seq ?_ | (refine Ok.region tok ?_; conv => whnf) | (refine Ok.region_plan (id := 9) tok follows [(5, 9, [8]), (5, 10, [9, 8]), (9, 10, [])] [.q 0, .q 1, .q 2, .q 3, .q 4, .q 5, .q 6, .q 7, .q 8, .l 9, .l 10, .q 11] (by kernel_rfl) ?_; conv => whnf) | (refine Ok.region_draw tok follows (by kernel_rfl) ?_; conv => whnf) | (refine Ok.cond ?_; conv => whnf) | refine Ok.block ?_ | (refine Ok.skip ?_; conv => whnf) | (refine Ok.exit ?_; conv => whnf) | (refine Ok.ret ?_; conv => whnf) | (refine num_in (by omega) (by omega) ?_; conv => whnf) | (refine ix _ (by assumption) ?_; conv => whnf) | (refine ixI (by omega) (by assumption) ?_; conv => whnf) | (refine ix_new _ (by omega) fun _ _ => ?_; conv => whnf) | (refine ixI_new (by omega) (by omega) fun _ _ => ?_; conv => whnf) | (refine rd rfl (by assumption) ?_; conv => whnf) | (refine ⟨_, .inl ⟨rfl, rfl⟩, ?_⟩; conv => whnf) | (refine ⟨_, _, rfl, rfl, ?_⟩; conv => whnf) | (refine ⟨fun _ => ?_, fun _ => ?_⟩ <;> (conv => whnf) <;> (try (exfalso; omega))) | (refine And.intro (by first | omega | rfl | (simp; done) | (simp; omega)) ?_; conv => whnf) | (refine num_any ?_; conv => whnf) | (refine ⟨_, rfl, ?_⟩; conv => whnf) | fail)
    · rename_i h
      have hp : ptF bits r = [r.value, r.value + 2 ^ (bits - r.len).toNat] := if_pos (by rw [hm2, hm, Int.one_mul, Int.one_mul] at h; exact h)
      refine ⟨k + 1, by omega, by omega, ?_⟩
      rw [htk, hp]
      (conv => whnf); simp [envCat, irow, hm2]
    · rename_i h
      have hp : ptF bits r = [r.value] := if_neg (by rw [hm2, hm, Int.one_mul, Int.one_mul] at h; exact h)
      refine ⟨k + 1, by omega, by omega, ?_⟩
      rw [htk, hp]
      (conv => whnf); simp [envCat, irow, hm2]
  · obtain rfl : k = l.length := by omega
    rw [List.take_length]
    (conv => whnf)
    (try (conv => whnf)); repeat' (first | refine Ok.seq ?_ | (refine Ok.region tok ?_; conv => whnf) | (refine Ok.region_plan (id := 9) tok follows [(5, 9, [8]), (5, 10, [9, 8]), (9, 10, [])] [.q 0, .q 1, .q 2, .q 3, .q 4, .q 5, .q 6, .q 7, .q 8, .l 9, .l 10, .q 11] (by kernel_rfl) ?_; conv => whnf) | (refine Ok.region_draw tok follows (by kernel_rfl) ?_; conv => whnf) | (refine Ok.cond ?_; conv => whnf) | refine Ok.block ?_ | (refine Ok.skip ?_; conv => whnf) | (refine Ok.exit ?_; conv => whnf) | (refine Ok.ret ?_; conv => whnf) | (refine num_in (by omega) (by omega) ?_; conv => whnf) | (refine ix _ (by assumption) ?_; conv => whnf) | (refine ixI (by omega) (by assumption) ?_; conv => whnf) | (refine ix_new _ (by omega) fun _ _ => ?_; conv => whnf) | (refine ixI_new (by omega) (by omega) fun _ _ => ?_; conv => whnf) | (refine rd rfl (by assumption) ?_; conv => whnf) | (refine ⟨_, .inl ⟨rfl, rfl⟩, ?_⟩; conv => whnf) | (refine ⟨_, _, rfl, rfl, ?_⟩; conv => whnf) | (refine ⟨fun _ => ?_, fun _ => ?_⟩ <;> (conv => whnf) <;> (try (exfalso; omega))) | (refine And.intro (by first | omega | rfl | (simp; done) | (simp; omega)) ?_; conv => whnf) | (refine num_any ?_; conv => whnf) | (refine ⟨_, rfl, ?_⟩; conv => whnf) | fail)
    refine Or.inr (Or.inl ?_); (conv => whnf)
    exact ⟨rfl, rfl⟩

theorem pick_min {bits v : Int} {l : List Route} (hok : ∀ r ∈ l, okR bits r) {j : Nat} {rk : Route} (hj : l[j]? = some rk) (hh : hasR bits rk v) (hm : ∀ y ∈ numb l, hasR bits y.r v → ¬ firstP y ⟨rk, j⟩) {i : Nat} {r : Route} (hi : l[i]? = some r) (hr : hasR bits r v) :
    ¬ rk.len < r.len ∧ (r.len = rk.len → ¬ r.kind < rk.kind ∧ ¬ (r.kind = rk.kind ∧ i < j)) := by
  obtain ⟨hil, hir⟩ := List.getElem?_eq_some_iff.1 hi
  have h := hm _ (numb_at l i hil) (by rw [hir]; exact hr)
  rw [hir] at h
  unfold firstP at h
  dsimp only at h
  refine ⟨fun h1 => h (by rw [if_pos (by omega)]; exact h1), fun h1 => ?_⟩
  have h2 := has_same (hok r (List.mem_of_getElem? hi)) (hok rk (List.mem_of_getElem? hj)) h1 hr hh
  rw [if_neg (by omega), if_neg (by omega)] at h
  split at h <;> omega

set_option maxRecDepth 100000 in
set_option maxHeartbeats 4000000 in
theorem longest_at {bits v k : Int} {l : List Route} {rows room : List (List D)} (hb2 : bits ≤ 32) (hl : l.length ≤ 256) (hok : ∀ r ∈ l, okR bits r) (hk : IsPick bits l v k) (he : rows = l.map Route.row) : FSpec Try.prog T 30 [.i .i64 bits, .lst 68 rows room, .i .i64 v, .i .i64 k] (fun d _ => d = .tt) := by
  subst he
  refine FSpec.tt (p := True) ?_ trivial
  have hll : (l.map Route.row).length = l.length := by simp
  refine FSpec.of_ok tok Try.func30 rfl Try.call30 (by simp) ?_
  rcases hk with ⟨rfl, hno⟩ | ⟨x, hx, rfl, hh, hm⟩
  · have hno : ∀ (i : Nat) r, l[i]? = some r → ¬ hasR bits r v := fun i r hi => by
      obtain ⟨hil, hir⟩ := List.getElem?_eq_some_iff.1 hi
      have h := hno _ (numb_at l i hil)
      rw [hir] at h
      exact h
    (try (conv => whnf)); repeat' (first | refine Ok.seq ?_ | (refine Ok.region tok ?_; conv => whnf) | (refine Ok.region_draw tok follows (by kernel_rfl) ?_; conv => whnf) | (refine Ok.cond ?_; conv => whnf) | refine Ok.block ?_ | (refine Ok.skip ?_; conv => whnf) | (refine Ok.exit ?_; conv => whnf) | (refine Ok.ret ?_; conv => whnf) | (refine num_in (by omega) (by omega) ?_; conv => whnf) | (refine ix _ (by assumption) ?_; conv => whnf) | (refine ixI (by omega) (by assumption) ?_; conv => whnf) | (refine ix_new _ (by omega) fun _ _ => ?_; conv => whnf) | (refine ixI_new (by omega) (by omega) fun _ _ => ?_; conv => whnf) | (refine rd rfl (by assumption) ?_; conv => whnf) | (refine ⟨_, .inl ⟨rfl, rfl⟩, ?_⟩; conv => whnf) | (refine ⟨_, _, rfl, rfl, ?_⟩; conv => whnf) | (refine ⟨fun _ => ?_, fun _ => ?_⟩ <;> (conv => whnf) <;> (try (exfalso; omega))) | (refine And.intro (by first | omega | rfl | (simp; done) | (simp; omega)) ?_; conv => whnf) | (refine num_any ?_; conv => whnf) | (refine ⟨_, rfl, ?_⟩; conv => whnf) | fail)
    refine Ok.loopU [0, 1, 2, 3] [9] 0 0 (fun (i : Nat) => [.i .i64 (i : Nat)]) (fun _ b => b) (fun _ r => r) (fun (i : Nat) => i ≤ l.length) (fun (i : Nat) => l.length - i) (0) (Nat.zero_le _) ?_; (conv => whnf); refine ⟨by ((conv => whnf); first | rfl | (simp [envCat, List.take_of_length_le, Route.row, irow]; done) | (simp [envCat, List.take_of_length_le, Route.row, irow]; rw [IntKind.wrap_i64]; omega)), ?_⟩
    rintro i hi
    by_cases hil : i < l.length
    · obtain ⟨r, hr⟩ : ∃ r, l[i]? = some r := ⟨_, List.getElem?_eq_getElem hil⟩
      have hokr := hok r (List.mem_of_getElem? hr)
      (try (conv => whnf)); repeat' (first | refine Ok.seq ?_ | (refine Ok.region tok ?_; conv => whnf) | (refine Ok.region_draw tok follows (by kernel_rfl) ?_; conv => whnf) | (refine Ok.cond ?_; conv => whnf) | refine Ok.block ?_ | (refine Ok.skip ?_; conv => whnf) | (refine Ok.exit ?_; conv => whnf) | (refine Ok.ret ?_; conv => whnf) | (refine num_in (by omega) (by omega) ?_; conv => whnf) | (refine ix _ (by assumption) ?_; conv => whnf) | (refine ixI (by omega) (by assumption) ?_; conv => whnf) | (refine ix_new _ (by omega) fun _ _ => ?_; conv => whnf) | (refine ixI_new (by omega) (by omega) fun _ _ => ?_; conv => whnf) | (refine Or.inl ?_; (conv => whnf); (repeat (refine And.intro (by first | omega | (simp; done) | (simp; omega)) ?_; (conv => whnf))); refine ⟨_, (hasL_spec bits r v hb2 hokr.2.2.1 hokr.2.2.2.1).ff (hno i r hr), rfl, ?_⟩; conv => whnf) | (refine ⟨_, (hasL_spec bits r v hb2 hokr.2.2.1 hokr.2.2.2.1).ff (hno i r hr), rfl, ?_⟩; conv => whnf) | (refine Or.inr (Or.inl ?_); (conv => whnf); (repeat (refine And.intro (by first | omega | (simp; done) | (simp; omega)) ?_; (conv => whnf))); refine ⟨_, (hasL_spec bits r v hb2 hokr.2.2.1 hokr.2.2.2.1).ff (hno i r hr), ?_⟩; rintro _ _ ⟨rfl, rfl⟩; conv => whnf) | (refine rd rfl (by assumption) ?_; conv => whnf) | (refine ⟨_, .inl ⟨rfl, rfl⟩, ?_⟩; conv => whnf) | (refine ⟨_, _, rfl, rfl, ?_⟩; conv => whnf) | (refine ⟨fun _ => ?_, fun _ => ?_⟩ <;> (conv => whnf) <;> (try (exfalso; omega))) | (refine And.intro (by first | omega | rfl | (simp; done) | (simp; omega)) ?_; conv => whnf) | (refine num_any ?_; conv => whnf) | (refine ⟨_, rfl, ?_⟩; conv => whnf) | fail)
      refine ⟨i + 1, by omega, by omega, ?_⟩
      (conv => whnf); (first | rfl | simp [envCat, List.take_of_length_le, Route.row, irow])
    · (try (conv => whnf)); repeat' (first | refine Ok.seq ?_ | (refine Ok.region tok ?_; conv => whnf) | (refine Ok.region_draw tok follows (by kernel_rfl) ?_; conv => whnf) | (refine Ok.cond ?_; conv => whnf) | refine Ok.block ?_ | (refine Ok.skip ?_; conv => whnf) | (refine Ok.exit ?_; conv => whnf) | (refine Ok.ret ?_; conv => whnf) | (refine num_in (by omega) (by omega) ?_; conv => whnf) | (refine ix _ (by assumption) ?_; conv => whnf) | (refine ixI (by omega) (by assumption) ?_; conv => whnf) | (refine ix_new _ (by omega) fun _ _ => ?_; conv => whnf) | (refine ixI_new (by omega) (by omega) fun _ _ => ?_; conv => whnf) | (refine rd rfl (by assumption) ?_; conv => whnf) | (refine ⟨_, .inl ⟨rfl, rfl⟩, ?_⟩; conv => whnf) | (refine ⟨_, _, rfl, rfl, ?_⟩; conv => whnf) | (refine ⟨fun _ => ?_, fun _ => ?_⟩ <;> (conv => whnf) <;> (try (exfalso; omega))) | (refine And.intro (by first | omega | rfl | (simp; done) | (simp; omega)) ?_; conv => whnf) | (refine num_any ?_; conv => whnf) | (refine ⟨_, rfl, ?_⟩; conv => whnf) | fail)
      refine Or.inl ?_; (conv => whnf)
      rfl
  · obtain ⟨j, hj, rfl⟩ := numb_mem hx
    dsimp only at hh hm ⊢
    have hrk : l[j]? = some l[j] := List.getElem?_eq_getElem hj
    generalize l[j] = rk at hrk hh hm
    have hokk := hok rk (List.mem_of_getElem? hrk)
    have hrk' : l[((j : Int)).toNat]? = some rk := hrk
    (try (conv => whnf)); repeat' (first | refine Ok.seq ?_ | (refine Ok.region tok ?_; conv => whnf) | (refine Ok.region_draw tok follows (by kernel_rfl) ?_; conv => whnf) | (refine Ok.cond ?_; conv => whnf) | refine Ok.block ?_ | (refine Ok.skip ?_; conv => whnf) | (refine Ok.exit ?_; conv => whnf) | (refine Ok.ret ?_; conv => whnf) | (refine num_in (by omega) (by omega) ?_; conv => whnf) | (refine ix _ (by assumption) ?_; conv => whnf) | (refine ixI (by omega) (by assumption) ?_; conv => whnf) | (refine ix_new _ (by omega) fun _ _ => ?_; conv => whnf) | (refine ixI_new (by omega) (by omega) fun _ _ => ?_; conv => whnf) | (refine Or.inl ?_; (conv => whnf); (repeat (refine And.intro (by first | omega | (simp; done) | (simp; omega)) ?_; (conv => whnf))); refine ⟨_, (hasL_spec bits rk v hb2 hokk.2.2.1 hokk.2.2.2.1).tt hh, rfl, ?_⟩; conv => whnf) | (refine ⟨_, (hasL_spec bits rk v hb2 hokk.2.2.1 hokk.2.2.2.1).tt hh, rfl, ?_⟩; conv => whnf) | (refine Or.inr (Or.inl ?_); (conv => whnf); (repeat (refine And.intro (by first | omega | (simp; done) | (simp; omega)) ?_; (conv => whnf))); refine ⟨_, (hasL_spec bits rk v hb2 hokk.2.2.1 hokk.2.2.2.1).tt hh, ?_⟩; rintro _ _ ⟨rfl, rfl⟩; conv => whnf) | (refine rd rfl (by assumption) ?_; conv => whnf) | (refine ⟨_, .inl ⟨rfl, rfl⟩, ?_⟩; conv => whnf) | (refine ⟨_, _, rfl, rfl, ?_⟩; conv => whnf) | (refine ⟨fun _ => ?_, fun _ => ?_⟩ <;> (conv => whnf) <;> (try (exfalso; omega))) | (refine And.intro (by first | omega | rfl | (simp; done) | (simp; omega)) ?_; conv => whnf) | (refine num_any ?_; conv => whnf) | (refine ⟨_, rfl, ?_⟩; conv => whnf) | fail)
    refine Ok.loopU [0, 1, 2, 3] [9] 0 0 (fun (i : Nat) => [.i .i64 (i : Nat)]) (fun _ b => b) (fun _ r => r) (fun (i : Nat) => i ≤ l.length) (fun (i : Nat) => l.length - i) (0) (Nat.zero_le _) ?_; (conv => whnf); refine ⟨by ((conv => whnf); first | rfl | (simp [envCat, List.take_of_length_le, Route.row, irow]; done) | (simp [envCat, List.take_of_length_le, Route.row, irow]; rw [IntKind.wrap_i64]; omega)), ?_⟩
    rintro i hi
    by_cases hil : i < l.length
    · obtain ⟨r, hr⟩ : ∃ r, l[i]? = some r := ⟨_, List.getElem?_eq_getElem hil⟩
      have hokr := hok r (List.mem_of_getElem? hr)
      by_cases hrv : hasR bits r v
      · obtain ⟨m1, m2⟩ := pick_min hok hrk hh hm hr hrv
        (try (conv => whnf)); repeat' (first | refine Ok.seq ?_ | (refine Ok.region tok ?_; conv => whnf) | (refine Ok.region_draw tok follows (by kernel_rfl) ?_; conv => whnf) | (refine Ok.cond ?_; conv => whnf) | refine Ok.block ?_ | (refine Ok.skip ?_; conv => whnf) | (refine Ok.exit ?_; conv => whnf) | (refine Ok.ret ?_; conv => whnf) | (refine num_in (by omega) (by omega) ?_; conv => whnf) | (refine ix _ (by assumption) ?_; conv => whnf) | (refine ixI (by omega) (by assumption) ?_; conv => whnf) | (refine ix_new _ (by omega) fun _ _ => ?_; conv => whnf) | (refine ixI_new (by omega) (by omega) fun _ _ => ?_; conv => whnf) | (refine Or.inl ?_; (conv => whnf); (repeat (refine And.intro (by first | omega | (simp; done) | (simp; omega)) ?_; (conv => whnf))); refine ⟨_, (hasL_spec bits r v hb2 hokr.2.2.1 hokr.2.2.2.1).tt hrv, rfl, ?_⟩; conv => whnf) | (refine ⟨_, (hasL_spec bits r v hb2 hokr.2.2.1 hokr.2.2.2.1).tt hrv, rfl, ?_⟩; conv => whnf) | (refine Or.inr (Or.inl ?_); (conv => whnf); (repeat (refine And.intro (by first | omega | (simp; done) | (simp; omega)) ?_; (conv => whnf))); refine ⟨_, (hasL_spec bits r v hb2 hokr.2.2.1 hokr.2.2.2.1).tt hrv, ?_⟩; rintro _ _ ⟨rfl, rfl⟩; conv => whnf) | (refine rd rfl (by assumption) ?_; conv => whnf) | (refine ⟨_, .inl ⟨rfl, rfl⟩, ?_⟩; conv => whnf) | (refine ⟨_, _, rfl, rfl, ?_⟩; conv => whnf) | (refine ⟨fun _ => ?_, fun _ => ?_⟩ <;> (conv => whnf) <;> (try (exfalso; omega))) | (refine And.intro (by first | omega | rfl | (simp; done) | (simp; omega)) ?_; conv => whnf) | (refine num_any ?_; conv => whnf) | (refine ⟨_, rfl, ?_⟩; conv => whnf) | fail)
        all_goals first
          | (exfalso; omega)
          | (refine ⟨i + 1, by omega, by omega, ?_⟩; (conv => whnf); (first | rfl | simp [envCat, List.take_of_length_le, Route.row, irow]))
      · (try (conv => whnf)); repeat' (first | refine Ok.seq ?_ | (refine Ok.region tok ?_; conv => whnf) | (refine Ok.region_draw tok follows (by kernel_rfl) ?_; conv => whnf) | (refine Ok.cond ?_; conv => whnf) | refine Ok.block ?_ | (refine Ok.skip ?_; conv => whnf) | (refine Ok.exit ?_; conv => whnf) | (refine Ok.ret ?_; conv => whnf) | (refine num_in (by omega) (by omega) ?_; conv => whnf) | (refine ix _ (by assumption) ?_; conv => whnf) | (refine ixI (by omega) (by assumption) ?_; conv => whnf) | (refine ix_new _ (by omega) fun _ _ => ?_; conv => whnf) | (refine ixI_new (by omega) (by omega) fun _ _ => ?_; conv => whnf) | (refine Or.inl ?_; (conv => whnf); (repeat (refine And.intro (by first | omega | (simp; done) | (simp; omega)) ?_; (conv => whnf))); refine ⟨_, (hasL_spec bits r v hb2 hokr.2.2.1 hokr.2.2.2.1).ff hrv, rfl, ?_⟩; conv => whnf) | (refine ⟨_, (hasL_spec bits r v hb2 hokr.2.2.1 hokr.2.2.2.1).ff hrv, rfl, ?_⟩; conv => whnf) | (refine Or.inr (Or.inl ?_); (conv => whnf); (repeat (refine And.intro (by first | omega | (simp; done) | (simp; omega)) ?_; (conv => whnf))); refine ⟨_, (hasL_spec bits r v hb2 hokr.2.2.1 hokr.2.2.2.1).ff hrv, ?_⟩; rintro _ _ ⟨rfl, rfl⟩; conv => whnf) | (refine rd rfl (by assumption) ?_; conv => whnf) | (refine ⟨_, .inl ⟨rfl, rfl⟩, ?_⟩; conv => whnf) | (refine ⟨_, _, rfl, rfl, ?_⟩; conv => whnf) | (refine ⟨fun _ => ?_, fun _ => ?_⟩ <;> (conv => whnf) <;> (try (exfalso; omega))) | (refine And.intro (by first | omega | rfl | (simp; done) | (simp; omega)) ?_; conv => whnf) | (refine num_any ?_; conv => whnf) | (refine ⟨_, rfl, ?_⟩; conv => whnf) | fail)
        refine ⟨i + 1, by omega, by omega, ?_⟩
        (conv => whnf); (first | rfl | simp [envCat, List.take_of_length_le, Route.row, irow])
    · (try (conv => whnf)); repeat' (first | refine Ok.seq ?_ | (refine Ok.region tok ?_; conv => whnf) | (refine Ok.region_draw tok follows (by kernel_rfl) ?_; conv => whnf) | (refine Ok.cond ?_; conv => whnf) | refine Ok.block ?_ | (refine Ok.skip ?_; conv => whnf) | (refine Ok.exit ?_; conv => whnf) | (refine Ok.ret ?_; conv => whnf) | (refine num_in (by omega) (by omega) ?_; conv => whnf) | (refine ix _ (by assumption) ?_; conv => whnf) | (refine ixI (by omega) (by assumption) ?_; conv => whnf) | (refine ix_new _ (by omega) fun _ _ => ?_; conv => whnf) | (refine ixI_new (by omega) (by omega) fun _ _ => ?_; conv => whnf) | (refine rd rfl (by assumption) ?_; conv => whnf) | (refine ⟨_, .inl ⟨rfl, rfl⟩, ?_⟩; conv => whnf) | (refine ⟨_, _, rfl, rfl, ?_⟩; conv => whnf) | (refine ⟨fun _ => ?_, fun _ => ?_⟩ <;> (conv => whnf) <;> (try (exfalso; omega))) | (refine And.intro (by first | omega | rfl | (simp; done) | (simp; omega)) ?_; conv => whnf) | (refine num_any ?_; conv => whnf) | (refine ⟨_, rfl, ?_⟩; conv => whnf) | fail)
      refine Or.inl ?_; (conv => whnf)
      rfl
end Go.Proofs.Ytgelaefpbdfnfaa
