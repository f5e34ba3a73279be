/- Cubes by the program: Parse, Meet, Within, Text, the greatest of lists; facts of the library. -/
import Derived.Test.YtaiondckookpiaaGreatDoorMD
import Derived.Test.YtaiondckookpiaaGreatDoorMC
import Derived.Shelf.SlSortFuncK.WholeK
import Derived.Shelf.GgSortFunc.Tiny
import Derived.Ground.GgsProg
import Derived.Deep.QuietTactic
import Derived.Lib.RowBridge
import Derived.Lib.SortBridge
set_option linter.unusedVariables false
set_option linter.unusedSimpArgs false
/- Cubes: Parse, Text, Meet, Within. -/
namespace Go.Proofs.YtaiondckookpiaaGreatDoor
open Go Go.Vx
def okC (t : Str) : Prop := CT t ∧ t ≠ []
open Classical in
noncomputable def zer (t : Str) : Str := if okC t then t else []
open Classical in
noncomputable def perr (t : Str) : Int := if 256 < t.length then 2 else if okC t then 0 else 10
theorem zer_ct (t : Str) : CT (zer t) := by
  unfold zer
  split
  · rename_i h; exact h.1
  · exact .nil
theorem zer_of {t : Str} (h : okC t) : zer t = t := by unfold zer; rw [if_pos h]
theorem zer_not {t : Str} (h : ¬ okC t) : zer t = [] := by unfold zer; rw [if_neg h]
theorem eqCube : EqT Tryz.prog 46 [.i .i64, .i .u64, .i .u64, .i .u64, .i .u64, .i .u64, .i .u64, .i .u64, .i .u64] := EqT.of_b tok (ti := _) rfl rfl (by kernel_rfl)
@[simp] theorem wof_car_nil (k : Nat) : wof (car []) k = 0#64 := BitVec.eq_of_getLsbD_eq fun i hi => by rw [wof_get _ _ _ hi]; simp [car]
@[simp] theorem wof_one_nil (k : Nat) : wof (one []) k = 0#64 := BitVec.eq_of_getLsbD_eq fun i hi => by rw [wof_get _ _ _ hi]; simp [one]
def cubOk (t : Str) : Prop := ∀ b ∈ t, b = 48 ∨ b = 49 ∨ b = 120
theorem cubOk_step {t : Str} {i : Nat} {b : UInt8} (h : cubOk (t.take i)) (hb : t[i]? = some b) (hd : b = 48 ∨ b = 49 ∨ b = 120) : cubOk (t.take (i + 1)) := by
  intro x hx
  rw [List.take_add_one, hb] at hx
  rcases List.mem_append.1 hx with hx | hx
  · exact h x hx
  · simp at hx; rw [hx]; exact hd
theorem u8_ne {b c : UInt8} (h : b ≠ c) : ¬ ((b.toNat : Nat) : Int) = ((c.toNat : Nat) : Int) := fun e => h (UInt8.toNat_inj.1 (by omega))
set_option maxHeartbeats 4000000 in
theorem parse_at (t : Str) : FSpec Tryz.prog T 45 [.s t] (fun d rows => d = .tup [.agg (crow (zer t)), .i .i64 (perr t)] ∧ rows = []) := by
  refine FSpec.of_ok tok Tryz.func45 rfl Tryz.call45 (by simp) ?_
  (try (conv => whnf)); repeat' (first | ((with_reducible_and_instances refine nShr (by assumption) ?_); conv => whnf) | ((with_reducible_and_instances refine nShl1' rfl (by assumption) ?_); conv => whnf) | ((with_reducible_and_instances refine nAnd ?_); conv => whnf) | ((with_reducible_and_instances refine nOr ?_); conv => whnf) | ((with_reducible_and_instances refine nXor ?_); conv => whnf) | ((with_reducible_and_instances refine nAndNot ?_); conv => whnf) | ((with_reducible_and_instances refine nAnd1' rfl ?_); conv => whnf) | refine Ok.seq ?_ | (refine Ok.region tok ?_; conv => whnf) | (refine Ok.region_draw tok follows (by kernel_rfl) ?_; conv => whnf) | (refine Ok.cond ?_; conv => whnf) | refine Ok.block ?_ | (refine Ok.skip ?_; conv => whnf) | (refine Ok.exit ?_; conv => whnf) | (refine Ok.ret ?_; conv => whnf) | (refine num_in (by omega) (by omega) ?_; conv => whnf) | (refine ix _ (by assumption) ?_; conv => whnf) | (refine ixI (by omega) (by assumption) ?_; conv => whnf) | (refine ix_new _ (by omega) fun _ _ => ?_; conv => whnf) | (refine ixI_new (by omega) (by omega) fun _ _ => ?_; conv => whnf) | (refine ⟨_, by assumption, ?_⟩; conv => whnf) | (refine Alt2.l (And.intro (by first | omega | (simp; done) | (simp; omega)) ?_); conv => whnf) | (refine Alt2.r (And.intro (by first | omega | (simp; done) | (simp; omega)) ?_); conv => whnf) | (refine Ok.scope ?_) | (refine Ok.label ?_; conv => whnf) | (refine rd rfl (by assumption) ?_; conv => whnf) | (refine ⟨_, .inl ⟨rfl, rfl⟩, ?_⟩; conv => whnf) | (refine ⟨_, _, rfl, rfl, ?_⟩; conv => whnf) | (refine ⟨fun _ => ?_, fun _ => ?_⟩ <;> (conv => whnf) <;> (try (exfalso; omega))) | (refine And.intro (by first | omega | rfl | (simp; done) | (simp; omega)) ?_; conv => whnf) | (refine num_any ?_; conv => whnf) | (refine ⟨_, rfl, ?_⟩; conv => whnf) | fail)
  · rename_i h
    refine Or.inl ?_; (conv => whnf)
    refine ⟨?_, rfl⟩
    rw [zer_not (fun h2 => by have := h2.1.len; omega), crow_nil]
    unfold perr
    rw [if_pos (by omega)]
    rfl
  · rename_i h0 h
    refine Or.inl ?_; (conv => whnf)
    refine ⟨?_, rfl⟩
    rw [zer_not (fun h2 => h2.2 h), crow_nil]
    unfold perr
    rw [if_neg (by omega), if_neg (fun h2 => h2.2 h)]
    rfl
  · rename_i h0 h1
    have hlen : t.length ≤ 256 := by omega
    have hne : t ≠ [] := h1
    refine Ok.loopU [0, 2, 4, 17] [18] 0 2 (fun (i : Nat) => [.i .i64 (i : Nat)]) (fun (i : Nat) (_ : List (List D)) => [[.i .i64 0, .i .u64 0, .i .u64 0, .i .u64 0, .i .u64 0, .i .u64 0, .i .u64 0, .i .u64 0, .i .u64 0], cells9 t.length (car (t.take i)) (one (t.take i))]) (fun _ r => r) (fun (i : Nat) => i ≤ t.length ∧ cubOk (t.take i)) (fun (i : Nat) => t.length - i) (0) (⟨Nat.zero_le _, by simp [cubOk]⟩) ?_; (conv => whnf); refine ⟨by ((conv => whnf); first | rfl | (simp [envCat, List.take_of_length_le, cells9]; done) | (simp [envCat, List.take_of_length_le, cells9]; rw [IntKind.wrap_i64]; omega)), ?_⟩
    rintro i ⟨hi, hok⟩
    (conv => whnf)
    by_cases hit : i < t.length
    · obtain ⟨b, hb⟩ : ∃ b, t[i]? = some b := ⟨_, List.getElem?_eq_getElem hit⟩
      have hbI : t[((i : Nat) : Int).toNat]? = some b := hb
      obtain ⟨q, r, hqr, hr, hq⟩ := split64 i (by omega)
      have hrem := rem64 hqr hr
      have hquo := quo64 hqr hr (by omega)
      have hrr : ((r : Nat) : Int) = ((r : Nat) : Int) ∧ r < 64 := ⟨rfl, hr⟩
      by_cases h49 : b = 49
      · subst h49
        have hn : (((49 : UInt8).toNat : Nat) : Int) = 49 := rfl
        rcases hq with rfl | rfl | rfl | rfl
        all_goals
          (try (conv => whnf)); repeat' (first | ((with_reducible_and_instances refine nShr (by assumption) ?_); conv => whnf) | ((with_reducible_and_instances refine nShl1' rfl (by assumption) ?_); conv => whnf) | ((with_reducible_and_instances refine nAnd ?_); conv => whnf) | ((with_reducible_and_instances refine nOr ?_); conv => whnf) | ((with_reducible_and_instances refine nXor ?_); conv => whnf) | ((with_reducible_and_instances refine nAndNot ?_); conv => whnf) | ((with_reducible_and_instances refine nAnd1' rfl ?_); conv => whnf) | refine Ok.seq ?_ | (refine Ok.region tok ?_; conv => whnf) | (refine ⟨_, (hquo.symm).symm, ?_⟩; conv => whnf) | (refine ⟨_, (hrem.symm).symm, ?_⟩; conv => whnf) | (refine Ok.region_draw tok follows (by kernel_rfl) ?_; conv => whnf) | (refine Ok.cond ?_; conv => whnf) | refine Ok.block ?_ | (refine Ok.skip ?_; conv => whnf) | (refine Ok.exit ?_; conv => whnf) | (refine Ok.ret ?_; conv => whnf) | (refine num_in (by omega) (by omega) ?_; conv => whnf) | (refine ix _ (by assumption) ?_; conv => whnf) | (refine ixI (by omega) (by assumption) ?_; conv => whnf) | (refine ix_new _ (by omega) fun _ _ => ?_; conv => whnf) | (refine ixI_new (by omega) (by omega) fun _ _ => ?_; conv => whnf) | (refine ⟨_, by assumption, ?_⟩; conv => whnf) | (refine Alt2.l (And.intro (by first | omega | (simp; done) | (simp; omega)) ?_); conv => whnf) | (refine Alt2.r (And.intro (by first | omega | (simp; done) | (simp; omega)) ?_); conv => whnf) | (refine Ok.scope ?_) | (refine Ok.label ?_; conv => whnf) | (refine rd rfl (by assumption) ?_; conv => whnf) | (refine ⟨_, .inl ⟨rfl, rfl⟩, ?_⟩; conv => whnf) | (refine ⟨_, _, rfl, rfl, ?_⟩; conv => whnf) | (refine ⟨fun _ => ?_, fun _ => ?_⟩ <;> (conv => whnf) <;> (try (exfalso; omega))) | (refine And.intro (by first | omega | rfl | (simp; done) | (simp; omega)) ?_; conv => whnf) | (refine num_any ?_; conv => whnf) | (refine ⟨_, rfl, ?_⟩; conv => whnf) | fail)
          refine Or.inr (Or.inr (Or.inl ?_)); (conv => whnf); refine ⟨_, _, Tryz.func101, rfl, Tryz.call101, ?_⟩; (conv => whnf)
          (try (conv => whnf)); repeat' (first | ((with_reducible_and_instances refine nShr (by assumption) ?_); conv => whnf) | ((with_reducible_and_instances refine nShl1' rfl (by assumption) ?_); conv => whnf) | ((with_reducible_and_instances refine nAnd ?_); conv => whnf) | ((with_reducible_and_instances refine nOr ?_); conv => whnf) | ((with_reducible_and_instances refine nXor ?_); conv => whnf) | ((with_reducible_and_instances refine nAndNot ?_); conv => whnf) | ((with_reducible_and_instances refine nAnd1' rfl ?_); conv => whnf) | refine Ok.seq ?_ | (refine Ok.region tok ?_; conv => whnf) | (refine Ok.region_plan (id := 0) tok follows [(5, 12, [])] [.q 0, .q 1, .q 2, .q 3, .q 4, .q 5, .q 6, .q 7, .q 8, .q 9, .q 10, .q 11, .l 12] (by kernel_rfl) ?_; conv => whnf) | (refine ⟨_, (hquo.symm).symm, ?_⟩; conv => whnf) | (refine ⟨_, (hrem.symm).symm, ?_⟩; conv => whnf) | (refine Ok.region_draw tok follows (by kernel_rfl) ?_; conv => whnf) | (refine Ok.cond ?_; conv => whnf) | refine Ok.block ?_ | (refine Ok.skip ?_; conv => whnf) | (refine Ok.exit ?_; conv => whnf) | (refine Ok.ret ?_; conv => whnf) | (refine num_in (by omega) (by omega) ?_; conv => whnf) | (refine ix _ (by assumption) ?_; conv => whnf) | (refine ixI (by omega) (by assumption) ?_; conv => whnf) | (refine ix_new _ (by omega) fun _ _ => ?_; conv => whnf) | (refine ixI_new (by omega) (by omega) fun _ _ => ?_; conv => whnf) | (refine ⟨_, by assumption, ?_⟩; conv => whnf) | (refine Alt2.l (And.intro (by first | omega | (simp; done) | (simp; omega)) ?_); conv => whnf) | (refine Alt2.r (And.intro (by first | omega | (simp; done) | (simp; omega)) ?_); conv => whnf) | (refine Ok.scope ?_) | (refine Ok.label ?_; conv => whnf) | (refine rd rfl (by assumption) ?_; conv => whnf) | (refine ⟨_, .inl ⟨rfl, rfl⟩, ?_⟩; conv => whnf) | (refine ⟨_, _, rfl, rfl, ?_⟩; conv => whnf) | (refine ⟨fun _ => ?_, fun _ => ?_⟩ <;> (conv => whnf) <;> (try (exfalso; omega))) | (refine And.intro (by first | omega | rfl | (simp; done) | (simp; omega)) ?_; conv => whnf) | (refine num_any ?_; conv => whnf) | (refine ⟨_, rfl, ?_⟩; conv => whnf) | fail)
          refine Or.inr (Or.inr (Or.inl ?_)); (conv => whnf); refine ⟨_, _, Tryz.func101, rfl, Tryz.call101, ?_⟩; (conv => whnf)
          (try (conv => whnf)); repeat' (first | ((with_reducible_and_instances refine nShr (by assumption) ?_); conv => whnf) | ((with_reducible_and_instances refine nShl1' rfl (by assumption) ?_); conv => whnf) | ((with_reducible_and_instances refine nAnd ?_); conv => whnf) | ((with_reducible_and_instances refine nOr ?_); conv => whnf) | ((with_reducible_and_instances refine nXor ?_); conv => whnf) | ((with_reducible_and_instances refine nAndNot ?_); conv => whnf) | ((with_reducible_and_instances refine nAnd1' rfl ?_); conv => whnf) | refine Ok.seq ?_ | (refine Ok.region tok ?_; conv => whnf) | (refine Ok.region_plan (id := 0) tok follows [(5, 12, [])] [.q 0, .q 1, .q 2, .q 3, .q 4, .q 5, .q 6, .q 7, .q 8, .q 9, .q 10, .q 11, .l 12] (by kernel_rfl) ?_; conv => whnf) | (refine ⟨_, (hquo.symm).symm, ?_⟩; conv => whnf) | (refine ⟨_, (hrem.symm).symm, ?_⟩; conv => whnf) | (refine Ok.region_draw tok follows (by kernel_rfl) ?_; conv => whnf) | (refine Ok.cond ?_; conv => whnf) | refine Ok.block ?_ | (refine Ok.skip ?_; conv => whnf) | (refine Ok.exit ?_; conv => whnf) | (refine Ok.ret ?_; conv => whnf) | (refine num_in (by omega) (by omega) ?_; conv => whnf) | (refine ix _ (by assumption) ?_; conv => whnf) | (refine ixI (by omega) (by assumption) ?_; conv => whnf) | (refine ix_new _ (by omega) fun _ _ => ?_; conv => whnf) | (refine ixI_new (by omega) (by omega) fun _ _ => ?_; conv => whnf) | (refine ⟨_, by assumption, ?_⟩; conv => whnf) | (refine Alt2.l (And.intro (by first | omega | (simp; done) | (simp; omega)) ?_); conv => whnf) | (refine Alt2.r (And.intro (by first | omega | (simp; done) | (simp; omega)) ?_); conv => whnf) | (refine Ok.scope ?_) | (refine Ok.label ?_; conv => whnf) | (refine rd rfl (by assumption) ?_; conv => whnf) | (refine ⟨_, .inl ⟨rfl, rfl⟩, ?_⟩; conv => whnf) | (refine ⟨_, _, rfl, rfl, ?_⟩; conv => whnf) | (refine ⟨fun _ => ?_, fun _ => ?_⟩ <;> (conv => whnf) <;> (try (exfalso; omega))) | (refine And.intro (by first | omega | rfl | (simp; done) | (simp; omega)) ?_; conv => whnf) | (refine num_any ?_; conv => whnf) | (refine ⟨_, rfl, ?_⟩; conv => whnf) | fail)
          refine ⟨i + 1, by omega, ⟨by omega, cubOk_step hok hb (by simp)⟩, ?_⟩
          have c0 := (put_word (f := car (t.take i)) (g := car (t.take (i + 1))) hqr hr (car_put hb rfl) 0).trans (by first | exact if_pos rfl | exact if_neg (by decide))
          have c1 := (put_word (f := car (t.take i)) (g := car (t.take (i + 1))) hqr hr (car_put hb rfl) 1).trans (by first | exact if_pos rfl | exact if_neg (by decide))
          have c2 := (put_word (f := car (t.take i)) (g := car (t.take (i + 1))) hqr hr (car_put hb rfl) 2).trans (by first | exact if_pos rfl | exact if_neg (by decide))
          have c3 := (put_word (f := car (t.take i)) (g := car (t.take (i + 1))) hqr hr (car_put hb rfl) 3).trans (by first | exact if_pos rfl | exact if_neg (by decide))
          have o0 := (put_word (f := one (t.take i)) (g := one (t.take (i + 1))) hqr hr (one_put hb) 0).trans (by first | exact if_pos rfl | exact if_neg (by decide))
          have o1 := (put_word (f := one (t.take i)) (g := one (t.take (i + 1))) hqr hr (one_put hb) 1).trans (by first | exact if_pos rfl | exact if_neg (by decide))
          have o2 := (put_word (f := one (t.take i)) (g := one (t.take (i + 1))) hqr hr (one_put hb) 2).trans (by first | exact if_pos rfl | exact if_neg (by decide))
          have o3 := (put_word (f := one (t.take i)) (g := one (t.take (i + 1))) hqr hr (one_put hb) 3).trans (by first | exact if_pos rfl | exact if_neg (by decide))
          (conv => whnf)
          simp only [envCat, cells9, c0, c1, c2, c3, o0, o1, o2, o3]
          rfl
      by_cases h48 : b = 48
      · subst h48
        have hn : (((48 : UInt8).toNat : Nat) : Int) = 48 := rfl
        rcases hq with rfl | rfl | rfl | rfl
        all_goals
          (try (conv => whnf)); repeat' (first | ((with_reducible_and_instances refine nShr (by assumption) ?_); conv => whnf) | ((with_reducible_and_instances refine nShl1' rfl (by assumption) ?_); conv => whnf) | ((with_reducible_and_instances refine nAnd ?_); conv => whnf) | ((with_reducible_and_instances refine nOr ?_); conv => whnf) | ((with_reducible_and_instances refine nXor ?_); conv => whnf) | ((with_reducible_and_instances refine nAndNot ?_); conv => whnf) | ((with_reducible_and_instances refine nAnd1' rfl ?_); conv => whnf) | refine Ok.seq ?_ | (refine Ok.region tok ?_; conv => whnf) | (refine ⟨_, (hquo.symm).symm, ?_⟩; conv => whnf) | (refine ⟨_, (hrem.symm).symm, ?_⟩; conv => whnf) | (refine Ok.region_draw tok follows (by kernel_rfl) ?_; conv => whnf) | (refine Ok.cond ?_; conv => whnf) | refine Ok.block ?_ | (refine Ok.skip ?_; conv => whnf) | (refine Ok.exit ?_; conv => whnf) | (refine Ok.ret ?_; conv => whnf) | (refine num_in (by omega) (by omega) ?_; conv => whnf) | (refine ix _ (by assumption) ?_; conv => whnf) | (refine ixI (by omega) (by assumption) ?_; conv => whnf) | (refine ix_new _ (by omega) fun _ _ => ?_; conv => whnf) | (refine ixI_new (by omega) (by omega) fun _ _ => ?_; conv => whnf) | (refine ⟨_, by assumption, ?_⟩; conv => whnf) | (refine Alt2.l (And.intro (by first | omega | (simp; done) | (simp; omega)) ?_); conv => whnf) | (refine Alt2.r (And.intro (by first | omega | (simp; done) | (simp; omega)) ?_); conv => whnf) | (refine Ok.scope ?_) | (refine Ok.label ?_; conv => whnf) | (refine rd rfl (by assumption) ?_; conv => whnf) | (refine ⟨_, .inl ⟨rfl, rfl⟩, ?_⟩; conv => whnf) | (refine ⟨_, _, rfl, rfl, ?_⟩; conv => whnf) | (refine ⟨fun _ => ?_, fun _ => ?_⟩ <;> (conv => whnf) <;> (try (exfalso; omega))) | (refine And.intro (by first | omega | rfl | (simp; done) | (simp; omega)) ?_; conv => whnf) | (refine num_any ?_; conv => whnf) | (refine ⟨_, rfl, ?_⟩; conv => whnf) | fail)
          refine Or.inr (Or.inr (Or.inl ?_)); (conv => whnf); refine ⟨_, _, Tryz.func101, rfl, Tryz.call101, ?_⟩; (conv => whnf)
          (try (conv => whnf)); repeat' (first | ((with_reducible_and_instances refine nShr (by assumption) ?_); conv => whnf) | ((with_reducible_and_instances refine nShl1' rfl (by assumption) ?_); conv => whnf) | ((with_reducible_and_instances refine nAnd ?_); conv => whnf) | ((with_reducible_and_instances refine nOr ?_); conv => whnf) | ((with_reducible_and_instances refine nXor ?_); conv => whnf) | ((with_reducible_and_instances refine nAndNot ?_); conv => whnf) | ((with_reducible_and_instances refine nAnd1' rfl ?_); conv => whnf) | refine Ok.seq ?_ | (refine Ok.region tok ?_; conv => whnf) | (refine Ok.region_plan (id := 0) tok follows [(5, 12, [])] [.q 0, .q 1, .q 2, .q 3, .q 4, .q 5, .q 6, .q 7, .q 8, .q 9, .q 10, .q 11, .l 12] (by kernel_rfl) ?_; conv => whnf) | (refine ⟨_, (hquo.symm).symm, ?_⟩; conv => whnf) | (refine ⟨_, (hrem.symm).symm, ?_⟩; conv => whnf) | (refine Ok.region_draw tok follows (by kernel_rfl) ?_; conv => whnf) | (refine Ok.cond ?_; conv => whnf) | refine Ok.block ?_ | (refine Ok.skip ?_; conv => whnf) | (refine Ok.exit ?_; conv => whnf) | (refine Ok.ret ?_; conv => whnf) | (refine num_in (by omega) (by omega) ?_; conv => whnf) | (refine ix _ (by assumption) ?_; conv => whnf) | (refine ixI (by omega) (by assumption) ?_; conv => whnf) | (refine ix_new _ (by omega) fun _ _ => ?_; conv => whnf) | (refine ixI_new (by omega) (by omega) fun _ _ => ?_; conv => whnf) | (refine ⟨_, by assumption, ?_⟩; conv => whnf) | (refine Alt2.l (And.intro (by first | omega | (simp; done) | (simp; omega)) ?_); conv => whnf) | (refine Alt2.r (And.intro (by first | omega | (simp; done) | (simp; omega)) ?_); conv => whnf) | (refine Ok.scope ?_) | (refine Ok.label ?_; conv => whnf) | (refine rd rfl (by assumption) ?_; conv => whnf) | (refine ⟨_, .inl ⟨rfl, rfl⟩, ?_⟩; conv => whnf) | (refine ⟨_, _, rfl, rfl, ?_⟩; conv => whnf) | (refine ⟨fun _ => ?_, fun _ => ?_⟩ <;> (conv => whnf) <;> (try (exfalso; omega))) | (refine And.intro (by first | omega | rfl | (simp; done) | (simp; omega)) ?_; conv => whnf) | (refine num_any ?_; conv => whnf) | (refine ⟨_, rfl, ?_⟩; conv => whnf) | fail)
          refine ⟨i + 1, by omega, ⟨by omega, cubOk_step hok hb (by simp)⟩, ?_⟩
          have c0 := (put_word (f := car (t.take i)) (g := car (t.take (i + 1))) hqr hr (car_put hb rfl) 0).trans (by first | exact if_pos rfl | exact if_neg (by decide))
          have c1 := (put_word (f := car (t.take i)) (g := car (t.take (i + 1))) hqr hr (car_put hb rfl) 1).trans (by first | exact if_pos rfl | exact if_neg (by decide))
          have c2 := (put_word (f := car (t.take i)) (g := car (t.take (i + 1))) hqr hr (car_put hb rfl) 2).trans (by first | exact if_pos rfl | exact if_neg (by decide))
          have c3 := (put_word (f := car (t.take i)) (g := car (t.take (i + 1))) hqr hr (car_put hb rfl) 3).trans (by first | exact if_pos rfl | exact if_neg (by decide))
          have o0 := one_same hb (by decide) 0
          have o1 := one_same hb (by decide) 1
          have o2 := one_same hb (by decide) 2
          have o3 := one_same hb (by decide) 3
          (conv => whnf)
          simp only [envCat, cells9, c0, c1, c2, c3, o0, o1, o2, o3]
          rfl
      have hn49 := u8_ne h49
      have hn48 := u8_ne h48
      have e49 : (((49 : UInt8).toNat : Nat) : Int) = 49 := rfl
      have e48 : (((48 : UInt8).toNat : Nat) : Int) = 48 := rfl
      rw [e49] at hn49
      rw [e48] at hn48
      by_cases h120 : b = 120
      · subst h120
        have hn : (((120 : UInt8).toNat : Nat) : Int) = 120 := rfl
        (try (conv => whnf)); repeat' (first | ((with_reducible_and_instances refine nShr (by assumption) ?_); conv => whnf) | ((with_reducible_and_instances refine nShl1' rfl (by assumption) ?_); conv => whnf) | ((with_reducible_and_instances refine nAnd ?_); conv => whnf) | ((with_reducible_and_instances refine nOr ?_); conv => whnf) | ((with_reducible_and_instances refine nXor ?_); conv => whnf) | ((with_reducible_and_instances refine nAndNot ?_); conv => whnf) | ((with_reducible_and_instances refine nAnd1' rfl ?_); conv => whnf) | refine Ok.seq ?_ | (refine Ok.region tok ?_; conv => whnf) | (refine Ok.region_draw tok follows (by kernel_rfl) ?_; conv => whnf) | (refine Ok.cond ?_; conv => whnf) | refine Ok.block ?_ | (refine Ok.skip ?_; conv => whnf) | (refine Ok.exit ?_; conv => whnf) | (refine Ok.ret ?_; conv => whnf) | (refine num_in (by omega) (by omega) ?_; conv => whnf) | (refine ix _ (by assumption) ?_; conv => whnf) | (refine ixI (by omega) (by assumption) ?_; conv => whnf) | (refine ix_new _ (by omega) fun _ _ => ?_; conv => whnf) | (refine ixI_new (by omega) (by omega) fun _ _ => ?_; conv => whnf) | (refine ⟨_, by assumption, ?_⟩; conv => whnf) | (refine Alt2.l (And.intro (by first | omega | (simp; done) | (simp; omega)) ?_); conv => whnf) | (refine Alt2.r (And.intro (by first | omega | (simp; done) | (simp; omega)) ?_); conv => whnf) | (refine Ok.scope ?_) | (refine Ok.label ?_; conv => whnf) | (refine rd rfl (by assumption) ?_; conv => whnf) | (refine ⟨_, .inl ⟨rfl, rfl⟩, ?_⟩; conv => whnf) | (refine ⟨_, _, rfl, rfl, ?_⟩; conv => whnf) | (refine ⟨fun _ => ?_, fun _ => ?_⟩ <;> (conv => whnf) <;> (try (exfalso; omega))) | (refine And.intro (by first | omega | rfl | (simp; done) | (simp; omega)) ?_; conv => whnf) | (refine num_any ?_; conv => whnf) | (refine ⟨_, rfl, ?_⟩; conv => whnf) | fail)
        refine ⟨i + 1, by omega, ⟨by omega, cubOk_step hok hb (by simp)⟩, ?_⟩
        have c0 := car_same hb rfl 0
        have c1 := car_same hb rfl 1
        have c2 := car_same hb rfl 2
        have c3 := car_same hb rfl 3
        have o0 := one_same hb (by decide) 0
        have o1 := one_same hb (by decide) 1
        have o2 := one_same hb (by decide) 2
        have o3 := one_same hb (by decide) 3
        (conv => whnf)
        simp only [envCat, cells9, c0, c1, c2, c3, o0, o1, o2, o3]
        rfl
      · have hn120 := u8_ne h120
        have e120 : (((120 : UInt8).toNat : Nat) : Int) = 120 := rfl
        rw [e120] at hn120
        (try (conv => whnf)); repeat' (first | ((with_reducible_and_instances refine nShr (by assumption) ?_); conv => whnf) | ((with_reducible_and_instances refine nShl1' rfl (by assumption) ?_); conv => whnf) | ((with_reducible_and_instances refine nAnd ?_); conv => whnf) | ((with_reducible_and_instances refine nOr ?_); conv => whnf) | ((with_reducible_and_instances refine nXor ?_); conv => whnf) | ((with_reducible_and_instances refine nAndNot ?_); conv => whnf) | ((with_reducible_and_instances refine nAnd1' rfl ?_); conv => whnf) | refine Ok.seq ?_ | (refine Ok.region tok ?_; conv => whnf) | (refine Ok.region_draw tok follows (by kernel_rfl) ?_; conv => whnf) | (refine Ok.cond ?_; conv => whnf) | refine Ok.block ?_ | (refine Ok.skip ?_; conv => whnf) | (refine Ok.exit ?_; conv => whnf) | (refine Ok.ret ?_; conv => whnf) | (refine num_in (by omega) (by omega) ?_; conv => whnf) | (refine ix _ (by assumption) ?_; conv => whnf) | (refine ixI (by omega) (by assumption) ?_; conv => whnf) | (refine ix_new _ (by omega) fun _ _ => ?_; conv => whnf) | (refine ixI_new (by omega) (by omega) fun _ _ => ?_; conv => whnf) | (refine ⟨_, by assumption, ?_⟩; conv => whnf) | (refine Alt2.l (And.intro (by first | omega | (simp; done) | (simp; omega)) ?_); conv => whnf) | (refine Alt2.r (And.intro (by first | omega | (simp; done) | (simp; omega)) ?_); conv => whnf) | (refine Ok.scope ?_) | (refine Ok.label ?_; conv => whnf) | (refine rd rfl (by assumption) ?_; conv => whnf) | (refine ⟨_, .inl ⟨rfl, rfl⟩, ?_⟩; conv => whnf) | (refine ⟨_, _, rfl, rfl, ?_⟩; conv => whnf) | (refine ⟨fun _ => ?_, fun _ => ?_⟩ <;> (conv => whnf) <;> (try (exfalso; omega))) | (refine And.intro (by first | omega | rfl | (simp; done) | (simp; omega)) ?_; conv => whnf) | (refine num_any ?_; conv => whnf) | (refine ⟨_, rfl, ?_⟩; conv => whnf) | fail)
        refine Or.inl ?_; (conv => whnf)
        refine ⟨?_, rfl⟩
        have hno : ¬ okC t := fun h2 => by
          rcases h2.1.cub b (List.mem_of_getElem? hb) with e | e | e
          · exact h48 e
          · exact h49 e
          · exact h120 e
        rw [zer_not hno, crow_nil]
        unfold perr
        rw [if_neg (by omega), if_neg hno]
        rfl
    · have he : i = t.length := by omega
      subst he
      rw [List.take_length] at *
      (try (conv => whnf)); repeat' (first | ((with_reducible_and_instances refine nShr (by assumption) ?_); conv => whnf) | ((with_reducible_and_instances refine nShl1' rfl (by assumption) ?_); conv => whnf) | ((with_reducible_and_instances refine nAnd ?_); conv => whnf) | ((with_reducible_and_instances refine nOr ?_); conv => whnf) | ((with_reducible_and_instances refine nXor ?_); conv => whnf) | ((with_reducible_and_instances refine nAndNot ?_); conv => whnf) | ((with_reducible_and_instances refine nAnd1' rfl ?_); conv => whnf) | refine Ok.seq ?_ | (refine Ok.region tok ?_; conv => whnf) | (refine Ok.region_draw tok follows (by kernel_rfl) ?_; conv => whnf) | (refine Ok.cond ?_; conv => whnf) | refine Ok.block ?_ | (refine Ok.skip ?_; conv => whnf) | (refine Ok.exit ?_; conv => whnf) | (refine Ok.ret ?_; conv => whnf) | (refine num_in (by omega) (by omega) ?_; conv => whnf) | (refine ix _ (by assumption) ?_; conv => whnf) | (refine ixI (by omega) (by assumption) ?_; conv => whnf) | (refine ix_new _ (by omega) fun _ _ => ?_; conv => whnf) | (refine ixI_new (by omega) (by omega) fun _ _ => ?_; conv => whnf) | (refine ⟨_, by assumption, ?_⟩; conv => whnf) | (refine Alt2.l (And.intro (by first | omega | (simp; done) | (simp; omega)) ?_); conv => whnf) | (refine Alt2.r (And.intro (by first | omega | (simp; done) | (simp; omega)) ?_); conv => whnf) | (refine Ok.scope ?_) | (refine Ok.label ?_; conv => whnf) | (refine rd rfl (by assumption) ?_; conv => whnf) | (refine ⟨_, .inl ⟨rfl, rfl⟩, ?_⟩; conv => whnf) | (refine ⟨_, _, rfl, rfl, ?_⟩; conv => whnf) | (refine ⟨fun _ => ?_, fun _ => ?_⟩ <;> (conv => whnf) <;> (try (exfalso; omega))) | (refine And.intro (by first | omega | rfl | (simp; done) | (simp; omega)) ?_; conv => whnf) | (refine num_any ?_; conv => whnf) | (refine ⟨_, rfl, ?_⟩; conv => whnf) | fail)
      refine Or.inl ?_; (conv => whnf)
      refine ⟨?_, rfl⟩
      have hyes : okC t := ⟨⟨hlen, hok⟩, hne⟩
      rw [zer_of hyes]
      unfold perr
      rw [if_neg (by omega), if_pos hyes]
      rfl
end Go.Proofs.YtaiondckookpiaaGreatDoor
/- Cubes: fits, Meet, Within, Text. -/
namespace Go.Proofs.YtaiondckookpiaaGreatDoor
open Go Go.Vx
theorem fits_at (c d : Str) : FSpec Tryz.prog T 119 [.agg (crow c), .agg (crow d)] (fun r _ => r = .b (c.length = d.length ∧ 0 < c.length)) := by
  refine FSpec.of_ok tok Tryz.func119 rfl Tryz.call119 (by simp) ?_
  (try (conv => whnf)); repeat' (first | ((with_reducible_and_instances refine nShr (by assumption) ?_); conv => whnf) | ((with_reducible_and_instances refine nShl1' rfl (by assumption) ?_); conv => whnf) | ((with_reducible_and_instances refine nAnd ?_); conv => whnf) | ((with_reducible_and_instances refine nOr ?_); conv => whnf) | ((with_reducible_and_instances refine nXor ?_); conv => whnf) | ((with_reducible_and_instances refine nAndNot ?_); conv => whnf) | ((with_reducible_and_instances refine nAnd1' rfl ?_); conv => whnf) | refine Ok.seq ?_ | (refine Ok.region tok ?_; conv => whnf) | (refine Ok.region_draw tok follows (by kernel_rfl) ?_; conv => whnf) | (refine Ok.cond ?_; conv => whnf) | refine Ok.block ?_ | (refine Ok.skip ?_; conv => whnf) | (refine Ok.exit ?_; conv => whnf) | (refine Ok.ret ?_; conv => whnf) | (refine num_in (by omega) (by omega) ?_; conv => whnf) | (refine ix _ (by assumption) ?_; conv => whnf) | (refine ixI (by omega) (by assumption) ?_; conv => whnf) | (refine ix_new _ (by omega) fun _ _ => ?_; conv => whnf) | (refine ixI_new (by omega) (by omega) fun _ _ => ?_; conv => whnf) | (refine ⟨_, by assumption, ?_⟩; conv => whnf) | (refine Alt2.l (And.intro (by first | omega | (simp; done) | (simp; omega)) ?_); conv => whnf) | (refine Alt2.r (And.intro (by first | omega | (simp; done) | (simp; omega)) ?_); conv => whnf) | (refine Ok.scope ?_) | (refine Ok.label ?_; conv => whnf) | (refine rd rfl (by assumption) ?_; conv => whnf) | (refine ⟨_, .inl ⟨rfl, rfl⟩, ?_⟩; conv => whnf) | (refine ⟨_, _, rfl, rfl, ?_⟩; conv => whnf) | (refine ⟨fun _ => ?_, fun _ => ?_⟩ <;> (conv => whnf) <;> (try (exfalso; omega))) | (refine And.intro (by first | omega | rfl | (simp; done) | (simp; omega)) ?_; conv => whnf) | (refine num_any ?_; conv => whnf) | (refine ⟨_, rfl, ?_⟩; conv => whnf) | fail)
  all_goals
    refine Or.inl ?_; (conv => whnf)
    simp [oneD]
    omega
theorem mt_none {c d : Str} (h : meetT c d = none) : (D.tup [.agg [.i .i64 0, .i .u64 0, .i .u64 0, .i .u64 0, .i .u64 0, .i .u64 0, .i .u64 0, .i .u64 0, .i .u64 0], .b False]) = .tup [.agg (crow ((meetT c d).getD [])), .b ((meetT c d).isSome = true)] := by
  rw [h]
  simp [crow_nil]
set_option maxHeartbeats 4000000 in
theorem meet_at (c d : Str) (hc : CT c) (hd : CT d) : FSpec Tryz.prog T 71 [.agg (crow c), .agg (crow d)] (fun r rows => r = .tup [.agg (crow ((meetT c d).getD [])), .b ((meetT c d).isSome = true)] ∧ rows = []) := by
  refine FSpec.of_ok tok Tryz.func71 rfl Tryz.call71 (by simp) ?_
  (try (conv => whnf)); repeat' (first | ((with_reducible_and_instances refine nShr (by assumption) ?_); conv => whnf) | ((with_reducible_and_instances refine nShl1' rfl (by assumption) ?_); conv => whnf) | ((with_reducible_and_instances refine nAnd ?_); conv => whnf) | ((with_reducible_and_instances refine nOr ?_); conv => whnf) | ((with_reducible_and_instances refine nXor ?_); conv => whnf) | ((with_reducible_and_instances refine nAndNot ?_); conv => whnf) | ((with_reducible_and_instances refine nAnd1' rfl ?_); conv => whnf) | refine Ok.seq ?_ | (refine Ok.region tok ?_; conv => whnf) | (refine Ok.region_plan (id := 8) tok follows [(3, 11, []), (7, 11, [])] [.q 0, .q 1, .q 2, .q 3, .q 4, .q 5, .q 6, .q 7, .q 8, .q 9, .q 10, .l 11] (by kernel_rfl) ?_; conv => whnf) | (refine Ok.region_plan (id := 9) tok follows [(3, 11, []), (7, 11, [])] [.q 0, .q 1, .q 2, .q 3, .q 4, .q 5, .q 6, .q 7, .q 8, .q 9, .q 10, .l 11] (by kernel_rfl) ?_; conv => whnf) | (refine Ok.region_draw tok follows (by kernel_rfl) ?_; conv => whnf) | (refine Ok.cond ?_; conv => whnf) | refine Ok.block ?_ | (refine Ok.skip ?_; conv => whnf) | (refine Ok.exit ?_; conv => whnf) | (refine Ok.ret ?_; conv => whnf) | (refine num_in (by omega) (by omega) ?_; conv => whnf) | (refine ix _ (by assumption) ?_; conv => whnf) | (refine ixI (by omega) (by assumption) ?_; conv => whnf) | (refine ix_new _ (by omega) fun _ _ => ?_; conv => whnf) | (refine ixI_new (by omega) (by omega) fun _ _ => ?_; conv => whnf) | (refine ⟨_, by assumption, ?_⟩; conv => whnf) | (refine Or.inl ?_; (conv => whnf); (repeat (refine And.intro (by first | omega | (simp; done) | (simp; omega)) ?_; (conv => whnf))); refine ⟨_, fits_at c d, rfl, ?_⟩; conv => whnf) | (refine ⟨_, fits_at c d, rfl, ?_⟩; conv => whnf) | (refine Or.inr (Or.inl ?_); (conv => whnf); (repeat (refine And.intro (by first | omega | (simp; done) | (simp; omega)) ?_; (conv => whnf))); refine ⟨_, fits_at c d, ?_⟩; rintro _ _ ⟨rfl, rfl⟩; conv => whnf) | (refine Alt2.l (And.intro (by first | omega | (simp; done) | (simp; omega)) ?_); conv => whnf) | (refine Alt2.r (And.intro (by first | omega | (simp; done) | (simp; omega)) ?_); conv => whnf) | (refine Ok.scope ?_) | (refine Ok.label ?_; conv => whnf) | (refine rd rfl (by assumption) ?_; conv => whnf) | (refine ⟨_, .inl ⟨rfl, rfl⟩, ?_⟩; conv => whnf) | (refine ⟨_, _, rfl, rfl, ?_⟩; conv => whnf) | (refine ⟨fun _ => ?_, fun _ => ?_⟩ <;> (conv => whnf) <;> (try (exfalso; omega))) | (refine And.intro (by first | omega | rfl | (simp; done) | (simp; omega)) ?_; conv => whnf) | (refine num_any ?_; conv => whnf) | (refine ⟨_, rfl, ?_⟩; conv => whnf) | fail)
  · rename_i h
    refine Or.inl ?_; (conv => whnf)
    refine ⟨mt_none ?_, rfl⟩
    unfold meetT
    split
    · rfl
    · rename_i hne
      cases hm : meetL c d with
      | none => rfl
      | some m => exact absurd ⟨by have := meetL_len hm; omega, List.length_pos_iff.2 hne⟩ h
  · rename_i h
    have hfit : c.length = d.length ∧ 0 < c.length := Classical.not_not.1 h
    have hne : c ≠ [] := List.length_pos_iff.1 hfit.2
    refine Ok.loopU [2, 3, 4] [12] 0 3 (fun (w : Nat) => [.i .i64 (w : Nat)]) (fun (w : Nat) (_ : List (List D)) => [mcells c.length w c d, crow d, [.i .i64 0, .i .u64 0, .i .u64 0, .i .u64 0, .i .u64 0, .i .u64 0, .i .u64 0, .i .u64 0, .i .u64 0]]) (fun _ r => r) (fun (w : Nat) => w ≤ 4 ∧ ∀ k, k < w → ((wof (cfl c d) k).toNat : Int) = 0) (fun (w : Nat) => 4 - w) (0) (⟨by omega, fun k hk => absurd hk (by omega)⟩) ?_; (conv => whnf); refine ⟨by ((conv => whnf); first | rfl | (simp [envCat, List.take_of_length_le, cells9, mcells]; done) | (simp [envCat, List.take_of_length_le, cells9, mcells]; rw [IntKind.wrap_i64]; omega)), ?_⟩
    rintro w ⟨hw, hz⟩
    (conv => whnf)
    by_cases hw4 : w = 4
    · subst hw4
      obtain ⟨m, hm, m1, m2⟩ := cfl_some hc hd hfit.1 hne (no_cfl hc hz)
      have hml := (meetT_ct hm hc hd).2.1
      (try (conv => whnf)); repeat' (first | ((with_reducible_and_instances refine nShr (by assumption) ?_); conv => whnf) | ((with_reducible_and_instances refine nShl1' rfl (by assumption) ?_); conv => whnf) | ((with_reducible_and_instances refine nAnd ?_); conv => whnf) | ((with_reducible_and_instances refine nOr ?_); conv => whnf) | ((with_reducible_and_instances refine nXor ?_); conv => whnf) | ((with_reducible_and_instances refine nAndNot ?_); conv => whnf) | ((with_reducible_and_instances refine nAnd1' rfl ?_); conv => whnf) | refine Ok.seq ?_ | (refine Ok.region tok ?_; conv => whnf) | (refine Ok.region_plan (id := 8) tok follows [(3, 11, []), (7, 11, [])] [.q 0, .q 1, .q 2, .q 3, .q 4, .q 5, .q 6, .q 7, .q 8, .q 9, .q 10, .l 11] (by kernel_rfl) ?_; conv => whnf) | (refine Ok.region_plan (id := 9) tok follows [(3, 11, []), (7, 11, [])] [.q 0, .q 1, .q 2, .q 3, .q 4, .q 5, .q 6, .q 7, .q 8, .q 9, .q 10, .l 11] (by kernel_rfl) ?_; conv => whnf) | (refine Ok.region_draw tok follows (by kernel_rfl) ?_; conv => whnf) | (refine Ok.cond ?_; conv => whnf) | refine Ok.block ?_ | (refine Ok.skip ?_; conv => whnf) | (refine Ok.exit ?_; conv => whnf) | (refine Ok.ret ?_; conv => whnf) | (refine num_in (by omega) (by omega) ?_; conv => whnf) | (refine ix _ (by assumption) ?_; conv => whnf) | (refine ixI (by omega) (by assumption) ?_; conv => whnf) | (refine ix_new _ (by omega) fun _ _ => ?_; conv => whnf) | (refine ixI_new (by omega) (by omega) fun _ _ => ?_; conv => whnf) | (refine ⟨_, by assumption, ?_⟩; conv => whnf) | (refine Alt2.l (And.intro (by first | omega | (simp; done) | (simp; omega)) ?_); conv => whnf) | (refine Alt2.r (And.intro (by first | omega | (simp; done) | (simp; omega)) ?_); conv => whnf) | (refine Ok.scope ?_) | (refine Ok.label ?_; conv => whnf) | (refine rd rfl (by assumption) ?_; conv => whnf) | (refine ⟨_, .inl ⟨rfl, rfl⟩, ?_⟩; conv => whnf) | (refine ⟨_, _, rfl, rfl, ?_⟩; conv => whnf) | (refine ⟨fun _ => ?_, fun _ => ?_⟩ <;> (conv => whnf) <;> (try (exfalso; omega))) | (refine And.intro (by first | omega | rfl | (simp; done) | (simp; omega)) ?_; conv => whnf) | (refine num_any ?_; conv => whnf) | (refine ⟨_, rfl, ?_⟩; conv => whnf) | fail)
      refine Or.inl ?_; (conv => whnf)
      refine ⟨?_, rfl⟩
      have hme := mcells_end hml m1 m2
      rw [hm]
      show D.tup [.agg (mcells c.length 4 c d), .b True] = _
      rw [hme]
      simp
    · rcases (by omega : w = 0 ∨ w = 1 ∨ w = 2 ∨ w = 3) with rfl | rfl | rfl | rfl
      · (try (conv => whnf)); repeat' (first | ((with_reducible_and_instances refine nShr (by assumption) ?_); conv => whnf) | ((with_reducible_and_instances refine nShl1' rfl (by assumption) ?_); conv => whnf) | ((with_reducible_and_instances refine nAnd ?_); conv => whnf) | ((with_reducible_and_instances refine nOr ?_); conv => whnf) | ((with_reducible_and_instances refine nXor ?_); conv => whnf) | ((with_reducible_and_instances refine nAndNot ?_); conv => whnf) | ((with_reducible_and_instances refine nAnd1' rfl ?_); conv => whnf) | refine Ok.seq ?_ | (refine Ok.region tok ?_; conv => whnf) | (refine Ok.region_plan (id := 8) tok follows [(3, 11, []), (7, 11, [])] [.q 0, .q 1, .q 2, .q 3, .q 4, .q 5, .q 6, .q 7, .q 8, .q 9, .q 10, .l 11] (by kernel_rfl) ?_; conv => whnf) | (refine Ok.region_plan (id := 9) tok follows [(3, 11, []), (7, 11, [])] [.q 0, .q 1, .q 2, .q 3, .q 4, .q 5, .q 6, .q 7, .q 8, .q 9, .q 10, .l 11] (by kernel_rfl) ?_; conv => whnf) | (refine Ok.region_draw tok follows (by kernel_rfl) ?_; conv => whnf) | (refine Ok.cond ?_; conv => whnf) | refine Ok.block ?_ | (refine Ok.skip ?_; conv => whnf) | (refine Ok.exit ?_; conv => whnf) | (refine Ok.ret ?_; conv => whnf) | (refine num_in (by omega) (by omega) ?_; conv => whnf) | (refine ix _ (by assumption) ?_; conv => whnf) | (refine ixI (by omega) (by assumption) ?_; conv => whnf) | (refine ix_new _ (by omega) fun _ _ => ?_; conv => whnf) | (refine ixI_new (by omega) (by omega) fun _ _ => ?_; conv => whnf) | (refine ⟨_, by assumption, ?_⟩; conv => whnf) | (refine Alt2.l (And.intro (by first | omega | (simp; done) | (simp; omega)) ?_); conv => whnf) | (refine Alt2.r (And.intro (by first | omega | (simp; done) | (simp; omega)) ?_); conv => whnf) | (refine Ok.scope ?_) | (refine Ok.label ?_; conv => whnf) | (refine rd rfl (by assumption) ?_; conv => whnf) | (refine ⟨_, .inl ⟨rfl, rfl⟩, ?_⟩; conv => whnf) | (refine ⟨_, _, rfl, rfl, ?_⟩; conv => whnf) | (refine ⟨fun _ => ?_, fun _ => ?_⟩ <;> (conv => whnf) <;> (try (exfalso; omega))) | (refine And.intro (by first | omega | rfl | (simp; done) | (simp; omega)) ?_; conv => whnf) | (refine num_any ?_; conv => whnf) | (refine ⟨_, rfl, ?_⟩; conv => whnf) | fail)
        · rename_i hx
          refine Or.inl ?_; (conv => whnf)
          have hx2 : ¬ ((wof (cfl c d) 0).toNat : Int) = 0 := by
            rw [← word_cfl]
            exact hx
          obtain ⟨i, hi⟩ := wof_nz hx2
          exact ⟨mt_none (cfl_none hc hd hi), rfl⟩
        · rename_i hx
          have hx2 : ((wof (cfl c d) 0).toNat : Int) = 0 := by
            rw [← word_cfl]
            exact Classical.not_not.1 hx
          refine ⟨1, by omega, ⟨by omega, fun k hk => ?_⟩, ?_⟩
          · by_cases hk2 : k = 0
            · rw [hk2]; exact hx2
            · exact hz k (by omega)
          · (conv => whnf)
            rfl
      · (try (conv => whnf)); repeat' (first | ((with_reducible_and_instances refine nShr (by assumption) ?_); conv => whnf) | ((with_reducible_and_instances refine nShl1' rfl (by assumption) ?_); conv => whnf) | ((with_reducible_and_instances refine nAnd ?_); conv => whnf) | ((with_reducible_and_instances refine nOr ?_); conv => whnf) | ((with_reducible_and_instances refine nXor ?_); conv => whnf) | ((with_reducible_and_instances refine nAndNot ?_); conv => whnf) | ((with_reducible_and_instances refine nAnd1' rfl ?_); conv => whnf) | refine Ok.seq ?_ | (refine Ok.region tok ?_; conv => whnf) | (refine Ok.region_plan (id := 8) tok follows [(3, 11, []), (7, 11, [])] [.q 0, .q 1, .q 2, .q 3, .q 4, .q 5, .q 6, .q 7, .q 8, .q 9, .q 10, .l 11] (by kernel_rfl) ?_; conv => whnf) | (refine Ok.region_plan (id := 9) tok follows [(3, 11, []), (7, 11, [])] [.q 0, .q 1, .q 2, .q 3, .q 4, .q 5, .q 6, .q 7, .q 8, .q 9, .q 10, .l 11] (by kernel_rfl) ?_; conv => whnf) | (refine Ok.region_draw tok follows (by kernel_rfl) ?_; conv => whnf) | (refine Ok.cond ?_; conv => whnf) | refine Ok.block ?_ | (refine Ok.skip ?_; conv => whnf) | (refine Ok.exit ?_; conv => whnf) | (refine Ok.ret ?_; conv => whnf) | (refine num_in (by omega) (by omega) ?_; conv => whnf) | (refine ix _ (by assumption) ?_; conv => whnf) | (refine ixI (by omega) (by assumption) ?_; conv => whnf) | (refine ix_new _ (by omega) fun _ _ => ?_; conv => whnf) | (refine ixI_new (by omega) (by omega) fun _ _ => ?_; conv => whnf) | (refine ⟨_, by assumption, ?_⟩; conv => whnf) | (refine Alt2.l (And.intro (by first | omega | (simp; done) | (simp; omega)) ?_); conv => whnf) | (refine Alt2.r (And.intro (by first | omega | (simp; done) | (simp; omega)) ?_); conv => whnf) | (refine Ok.scope ?_) | (refine Ok.label ?_; conv => whnf) | (refine rd rfl (by assumption) ?_; conv => whnf) | (refine ⟨_, .inl ⟨rfl, rfl⟩, ?_⟩; conv => whnf) | (refine ⟨_, _, rfl, rfl, ?_⟩; conv => whnf) | (refine ⟨fun _ => ?_, fun _ => ?_⟩ <;> (conv => whnf) <;> (try (exfalso; omega))) | (refine And.intro (by first | omega | rfl | (simp; done) | (simp; omega)) ?_; conv => whnf) | (refine num_any ?_; conv => whnf) | (refine ⟨_, rfl, ?_⟩; conv => whnf) | fail)
        · rename_i hx
          refine Or.inl ?_; (conv => whnf)
          have hx2 : ¬ ((wof (cfl c d) 1).toNat : Int) = 0 := by
            rw [← word_cfl]
            exact hx
          obtain ⟨i, hi⟩ := wof_nz hx2
          exact ⟨mt_none (cfl_none hc hd hi), rfl⟩
        · rename_i hx
          have hx2 : ((wof (cfl c d) 1).toNat : Int) = 0 := by
            rw [← word_cfl]
            exact Classical.not_not.1 hx
          refine ⟨2, by omega, ⟨by omega, fun k hk => ?_⟩, ?_⟩
          · by_cases hk2 : k = 1
            · rw [hk2]; exact hx2
            · exact hz k (by omega)
          · (conv => whnf)
            rfl
      · (try (conv => whnf)); repeat' (first | ((with_reducible_and_instances refine nShr (by assumption) ?_); conv => whnf) | ((with_reducible_and_instances refine nShl1' rfl (by assumption) ?_); conv => whnf) | ((with_reducible_and_instances refine nAnd ?_); conv => whnf) | ((with_reducible_and_instances refine nOr ?_); conv => whnf) | ((with_reducible_and_instances refine nXor ?_); conv => whnf) | ((with_reducible_and_instances refine nAndNot ?_); conv => whnf) | ((with_reducible_and_instances refine nAnd1' rfl ?_); conv => whnf) | refine Ok.seq ?_ | (refine Ok.region tok ?_; conv => whnf) | (refine Ok.region_plan (id := 8) tok follows [(3, 11, []), (7, 11, [])] [.q 0, .q 1, .q 2, .q 3, .q 4, .q 5, .q 6, .q 7, .q 8, .q 9, .q 10, .l 11] (by kernel_rfl) ?_; conv => whnf) | (refine Ok.region_plan (id := 9) tok follows [(3, 11, []), (7, 11, [])] [.q 0, .q 1, .q 2, .q 3, .q 4, .q 5, .q 6, .q 7, .q 8, .q 9, .q 10, .l 11] (by kernel_rfl) ?_; conv => whnf) | (refine Ok.region_draw tok follows (by kernel_rfl) ?_; conv => whnf) | (refine Ok.cond ?_; conv => whnf) | refine Ok.block ?_ | (refine Ok.skip ?_; conv => whnf) | (refine Ok.exit ?_; conv => whnf) | (refine Ok.ret ?_; conv => whnf) | (refine num_in (by omega) (by omega) ?_; conv => whnf) | (refine ix _ (by assumption) ?_; conv => whnf) | (refine ixI (by omega) (by assumption) ?_; conv => whnf) | (refine ix_new _ (by omega) fun _ _ => ?_; conv => whnf) | (refine ixI_new (by omega) (by omega) fun _ _ => ?_; conv => whnf) | (refine ⟨_, by assumption, ?_⟩; conv => whnf) | (refine Alt2.l (And.intro (by first | omega | (simp; done) | (simp; omega)) ?_); conv => whnf) | (refine Alt2.r (And.intro (by first | omega | (simp; done) | (simp; omega)) ?_); conv => whnf) | (refine Ok.scope ?_) | (refine Ok.label ?_; conv => whnf) | (refine rd rfl (by assumption) ?_; conv => whnf) | (refine ⟨_, .inl ⟨rfl, rfl⟩, ?_⟩; conv => whnf) | (refine ⟨_, _, rfl, rfl, ?_⟩; conv => whnf) | (refine ⟨fun _ => ?_, fun _ => ?_⟩ <;> (conv => whnf) <;> (try (exfalso; omega))) | (refine And.intro (by first | omega | rfl | (simp; done) | (simp; omega)) ?_; conv => whnf) | (refine num_any ?_; conv => whnf) | (refine ⟨_, rfl, ?_⟩; conv => whnf) | fail)
        · rename_i hx
          refine Or.inl ?_; (conv => whnf)
          have hx2 : ¬ ((wof (cfl c d) 2).toNat : Int) = 0 := by
            rw [← word_cfl]
            exact hx
          obtain ⟨i, hi⟩ := wof_nz hx2
          exact ⟨mt_none (cfl_none hc hd hi), rfl⟩
        · rename_i hx
          have hx2 : ((wof (cfl c d) 2).toNat : Int) = 0 := by
            rw [← word_cfl]
            exact Classical.not_not.1 hx
          refine ⟨3, by omega, ⟨by omega, fun k hk => ?_⟩, ?_⟩
          · by_cases hk2 : k = 2
            · rw [hk2]; exact hx2
            · exact hz k (by omega)
          · (conv => whnf)
            rfl
      · (try (conv => whnf)); repeat' (first | ((with_reducible_and_instances refine nShr (by assumption) ?_); conv => whnf) | ((with_reducible_and_instances refine nShl1' rfl (by assumption) ?_); conv => whnf) | ((with_reducible_and_instances refine nAnd ?_); conv => whnf) | ((with_reducible_and_instances refine nOr ?_); conv => whnf) | ((with_reducible_and_instances refine nXor ?_); conv => whnf) | ((with_reducible_and_instances refine nAndNot ?_); conv => whnf) | ((with_reducible_and_instances refine nAnd1' rfl ?_); conv => whnf) | refine Ok.seq ?_ | (refine Ok.region tok ?_; conv => whnf) | (refine Ok.region_plan (id := 8) tok follows [(3, 11, []), (7, 11, [])] [.q 0, .q 1, .q 2, .q 3, .q 4, .q 5, .q 6, .q 7, .q 8, .q 9, .q 10, .l 11] (by kernel_rfl) ?_; conv => whnf) | (refine Ok.region_plan (id := 9) tok follows [(3, 11, []), (7, 11, [])] [.q 0, .q 1, .q 2, .q 3, .q 4, .q 5, .q 6, .q 7, .q 8, .q 9, .q 10, .l 11] (by kernel_rfl) ?_; conv => whnf) | (refine Ok.region_draw tok follows (by kernel_rfl) ?_; conv => whnf) | (refine Ok.cond ?_; conv => whnf) | refine Ok.block ?_ | (refine Ok.skip ?_; conv => whnf) | (refine Ok.exit ?_; conv => whnf) | (refine Ok.ret ?_; conv => whnf) | (refine num_in (by omega) (by omega) ?_; conv => whnf) | (refine ix _ (by assumption) ?_; conv => whnf) | (refine ixI (by omega) (by assumption) ?_; conv => whnf) | (refine ix_new _ (by omega) fun _ _ => ?_; conv => whnf) | (refine ixI_new (by omega) (by omega) fun _ _ => ?_; conv => whnf) | (refine ⟨_, by assumption, ?_⟩; conv => whnf) | (refine Alt2.l (And.intro (by first | omega | (simp; done) | (simp; omega)) ?_); conv => whnf) | (refine Alt2.r (And.intro (by first | omega | (simp; done) | (simp; omega)) ?_); conv => whnf) | (refine Ok.scope ?_) | (refine Ok.label ?_; conv => whnf) | (refine rd rfl (by assumption) ?_; conv => whnf) | (refine ⟨_, .inl ⟨rfl, rfl⟩, ?_⟩; conv => whnf) | (refine ⟨_, _, rfl, rfl, ?_⟩; conv => whnf) | (refine ⟨fun _ => ?_, fun _ => ?_⟩ <;> (conv => whnf) <;> (try (exfalso; omega))) | (refine And.intro (by first | omega | rfl | (simp; done) | (simp; omega)) ?_; conv => whnf) | (refine num_any ?_; conv => whnf) | (refine ⟨_, rfl, ?_⟩; conv => whnf) | fail)
        · rename_i hx
          refine Or.inl ?_; (conv => whnf)
          have hx2 : ¬ ((wof (cfl c d) 3).toNat : Int) = 0 := by
            rw [← word_cfl]
            exact hx
          obtain ⟨i, hi⟩ := wof_nz hx2
          exact ⟨mt_none (cfl_none hc hd hi), rfl⟩
        · rename_i hx
          have hx2 : ((wof (cfl c d) 3).toNat : Int) = 0 := by
            rw [← word_cfl]
            exact Classical.not_not.1 hx
          refine ⟨4, by omega, ⟨by omega, fun k hk => ?_⟩, ?_⟩
          · by_cases hk2 : k = 3
            · rw [hk2]; exact hx2
            · exact hz k (by omega)
          · (conv => whnf)
            rfl
set_option maxRecDepth 100000 in
theorem within_at (c d : Str) (hc : CT c) (hd : CT d) : FSpec Tryz.prog T 133 [.agg (crow c), .agg (crow d)] (fun r _ => r = .b (inT c d)) := by
  refine FSpec.of_ok tok Tryz.func133 rfl Tryz.call133 (by simp) ?_
  (try (conv => whnf)); repeat' (first | ((with_reducible_and_instances refine nShr (by assumption) ?_); conv => whnf) | ((with_reducible_and_instances refine nShl1' rfl (by assumption) ?_); conv => whnf) | ((with_reducible_and_instances refine nAnd ?_); conv => whnf) | ((with_reducible_and_instances refine nOr ?_); conv => whnf) | ((with_reducible_and_instances refine nXor ?_); conv => whnf) | ((with_reducible_and_instances refine nAndNot ?_); conv => whnf) | ((with_reducible_and_instances refine nAnd1' rfl ?_); conv => whnf) | refine Ok.seq ?_ | (refine Ok.region tok ?_; conv => whnf) | (refine Ok.region_draw tok follows (by kernel_rfl) ?_; conv => whnf) | (refine Ok.cond ?_; conv => whnf) | refine Ok.block ?_ | (refine Ok.skip ?_; conv => whnf) | (refine Ok.exit ?_; conv => whnf) | (refine Ok.ret ?_; conv => whnf) | (refine num_in (by omega) (by omega) ?_; conv => whnf) | (refine ix _ (by assumption) ?_; conv => whnf) | (refine ixI (by omega) (by assumption) ?_; conv => whnf) | (refine ix_new _ (by omega) fun _ _ => ?_; conv => whnf) | (refine ixI_new (by omega) (by omega) fun _ _ => ?_; conv => whnf) | (refine ⟨_, by assumption, ?_⟩; conv => whnf) | (refine Or.inl ?_; (conv => whnf); (repeat (refine And.intro (by first | omega | (simp; done) | (simp; omega)) ?_; (conv => whnf))); refine ⟨_, meet_at c d hc hd, rfl, ?_⟩; conv => whnf) | (refine ⟨_, meet_at c d hc hd, rfl, ?_⟩; conv => whnf) | (refine Or.inr (Or.inl ?_); (conv => whnf); (repeat (refine And.intro (by first | omega | (simp; done) | (simp; omega)) ?_; (conv => whnf))); refine ⟨_, meet_at c d hc hd, ?_⟩; rintro _ _ ⟨rfl, rfl⟩; conv => whnf) | (refine Alt2.l (And.intro (by first | omega | (simp; done) | (simp; omega)) ?_); conv => whnf) | (refine Alt2.r (And.intro (by first | omega | (simp; done) | (simp; omega)) ?_); conv => whnf) | (refine Ok.scope ?_) | (refine Ok.label ?_; conv => whnf) | (refine rd rfl (by assumption) ?_; conv => whnf) | (refine ⟨_, .inl ⟨rfl, rfl⟩, ?_⟩; conv => whnf) | (refine ⟨_, _, rfl, rfl, ?_⟩; conv => whnf) | (refine ⟨fun _ => ?_, fun _ => ?_⟩ <;> (conv => whnf) <;> (try (exfalso; omega))) | (refine And.intro (by first | omega | rfl | (simp; done) | (simp; omega)) ?_; conv => whnf) | (refine num_any ?_; conv => whnf) | (refine ⟨_, rfl, ?_⟩; conv => whnf) | fail)
  · rename_i h
    refine ⟨_, eqCube, by kernel_rfl, ?_⟩
    (conv => whnf)
    (try (conv => whnf)); repeat' (first | ((with_reducible_and_instances refine nShr (by assumption) ?_); conv => whnf) | ((with_reducible_and_instances refine nShl1' rfl (by assumption) ?_); conv => whnf) | ((with_reducible_and_instances refine nAnd ?_); conv => whnf) | ((with_reducible_and_instances refine nOr ?_); conv => whnf) | ((with_reducible_and_instances refine nXor ?_); conv => whnf) | ((with_reducible_and_instances refine nAndNot ?_); conv => whnf) | ((with_reducible_and_instances refine nAnd1' rfl ?_); conv => whnf) | refine Ok.seq ?_ | (refine Ok.region tok ?_; conv => whnf) | (refine Ok.region_draw tok follows (by kernel_rfl) ?_; conv => whnf) | (refine Ok.cond ?_; conv => whnf) | refine Ok.block ?_ | (refine Ok.skip ?_; conv => whnf) | (refine Ok.exit ?_; conv => whnf) | (refine Ok.ret ?_; conv => whnf) | (refine num_in (by omega) (by omega) ?_; conv => whnf) | (refine ix _ (by assumption) ?_; conv => whnf) | (refine ixI (by omega) (by assumption) ?_; conv => whnf) | (refine ix_new _ (by omega) fun _ _ => ?_; conv => whnf) | (refine ixI_new (by omega) (by omega) fun _ _ => ?_; conv => whnf) | (refine ⟨_, by assumption, ?_⟩; conv => whnf) | (refine Alt2.l (And.intro (by first | omega | (simp; done) | (simp; omega)) ?_); conv => whnf) | (refine Alt2.r (And.intro (by first | omega | (simp; done) | (simp; omega)) ?_); conv => whnf) | (refine Ok.scope ?_) | (refine Ok.label ?_; conv => whnf) | (refine rd rfl (by assumption) ?_; conv => whnf) | (refine ⟨_, .inl ⟨rfl, rfl⟩, ?_⟩; conv => whnf) | (refine ⟨_, _, rfl, rfl, ?_⟩; conv => whnf) | (refine ⟨fun _ => ?_, fun _ => ?_⟩ <;> (conv => whnf) <;> (try (exfalso; omega))) | (refine And.intro (by first | omega | rfl | (simp; done) | (simp; omega)) ?_; conv => whnf) | (refine num_any ?_; conv => whnf) | (refine ⟨_, rfl, ?_⟩; conv => whnf) | fail)
    refine Or.inl ?_; (conv => whnf)
    obtain ⟨m, hm⟩ := Option.isSome_iff_exists.1 h
    have hmc := (meetT_ct hm hc hd).1
    show D.b (eqDs (crow ((meetT c d).getD [])) (crow c)) = D.b (inT c d)
    rw [hm, inT_meet, hm]
    refine congrArg D.b (propext ⟨fun h => ?_, fun h => ?_⟩)
    · rw [crow_inj hmc hc h]
    · cases h
      exact eqDs_self _
  · rename_i h
    refine Or.inl ?_; (conv => whnf)
    show D.b False = D.b (inT c d)
    refine congrArg D.b (propext ⟨fun h => h.elim, fun h2 => ?_⟩)
    rw [inT_meet] at h2
    rw [h2] at h
    exact h rfl
end Go.Proofs.YtaiondckookpiaaGreatDoor
/- Cubes: Text. -/
namespace Go.Proofs.YtaiondckookpiaaGreatDoor
open Go Go.Vx
theorem fill_at {t : Str} {i : Nat} (hi : i < t.length) : (t.take i ++ List.replicate (t.length - i) (0 : UInt8))[i]? = some 0 := by
  rw [List.getElem?_append_right (by simp; omega)]
  simp [List.getElem?_replicate]
  omega
theorem fill_set {t : Str} {i : Nat} {b : UInt8} (h : t[i]? = some b) : (t.take i ++ List.replicate (t.length - i) (0 : UInt8)).set i b = t.take (i + 1) ++ List.replicate (t.length - (i + 1)) 0 := by
  have hi : i < t.length := (List.getElem?_eq_some_iff.1 h).1
  rw [List.set_append, if_neg (by simp; omega)]
  rw [show t.length - i = (t.length - (i + 1)) + 1 by omega, List.replicate_succ]
  rw [show i - (t.take i).length = 0 by simp; omega]
  rw [List.set_cons_zero, List.take_add_one, h]
  simp
set_option maxHeartbeats 4000000 in
theorem text_at (t : Str) (ht : CT t) : FSpec Tryz.prog T 33 [.agg (crow t)] (fun r _ => r = .s t) := by
  have hlen := ht.len
  refine FSpec.of_ok tok Tryz.func33 rfl Tryz.call33 (by simp) ?_
  (try (conv => whnf)); repeat' (first | ((with_reducible_and_instances refine nShr (by assumption) ?_); conv => whnf) | ((with_reducible_and_instances refine nShl1' rfl (by assumption) ?_); conv => whnf) | ((with_reducible_and_instances refine nAnd ?_); conv => whnf) | ((with_reducible_and_instances refine nOr ?_); conv => whnf) | ((with_reducible_and_instances refine nXor ?_); conv => whnf) | ((with_reducible_and_instances refine nAndNot ?_); conv => whnf) | ((with_reducible_and_instances refine nAnd1' rfl ?_); conv => whnf) | refine Ok.seq ?_ | (refine Ok.region tok ?_; conv => whnf) | (refine Ok.region_draw tok follows (by kernel_rfl) ?_; conv => whnf) | (refine Ok.cond ?_; conv => whnf) | refine Ok.block ?_ | (refine Ok.skip ?_; conv => whnf) | (refine Ok.exit ?_; conv => whnf) | (refine Ok.ret ?_; conv => whnf) | (refine num_in (by omega) (by omega) ?_; conv => whnf) | (refine ix _ (by assumption) ?_; conv => whnf) | (refine ixI (by omega) (by assumption) ?_; conv => whnf) | (refine ix_new _ (by omega) fun _ _ => ?_; conv => whnf) | (refine ixI_new (by omega) (by omega) fun _ _ => ?_; conv => whnf) | (refine ⟨_, by assumption, ?_⟩; conv => whnf) | (refine Alt2.l (And.intro (by first | omega | (simp; done) | (simp; omega)) ?_); conv => whnf) | (refine Alt2.r (And.intro (by first | omega | (simp; done) | (simp; omega)) ?_); conv => whnf) | (refine Ok.scope ?_) | (refine Ok.label ?_; conv => whnf) | (refine rd rfl (by assumption) ?_; conv => whnf) | (refine ⟨_, .inl ⟨rfl, rfl⟩, ?_⟩; conv => whnf) | (refine ⟨_, _, rfl, rfl, ?_⟩; conv => whnf) | (refine ⟨fun _ => ?_, fun _ => ?_⟩ <;> (conv => whnf) <;> (try (exfalso; omega))) | (refine And.intro (by first | omega | rfl | (simp; done) | (simp; omega)) ?_; conv => whnf) | (refine num_any ?_; conv => whnf) | (refine ⟨_, rfl, ?_⟩; conv => whnf) | fail)
  refine Ok.loopU [1, 3, 9] [10] 1 1 (fun (i : Nat) => [.i .i64 (i : Nat)]) (fun (i : Nat) (_ : List (List D)) => [crow t]) (fun (i : Nat) (_ : Vx.Rows) => [some (5, (t.take i ++ List.replicate (t.length - i) 0).map bcell)]) (fun (i : Nat) => i ≤ t.length) (fun (i : Nat) => t.length - i) (0) (Nat.zero_le _) ?_; (conv => whnf); refine ⟨by ((conv => whnf); first | rfl | (simp [envCat, List.take_of_length_le, cells9, bcell]; done) | (simp [envCat, List.take_of_length_le, cells9, bcell]; rw [IntKind.wrap_i64]; omega)), ?_⟩
  rintro i hi
  have hll : (t.take i ++ List.replicate (t.length - i) (0 : UInt8)).length = t.length := by simp; omega
  have hlm : ((t.take i ++ List.replicate (t.length - i) (0 : UInt8)).map bcell).length = t.length := by rw [List.length_map, hll]
  (conv => whnf)
  by_cases hit : i < t.length
  · obtain ⟨b, hb⟩ : ∃ b, t[i]? = some b := ⟨_, List.getElem?_eq_getElem hit⟩
    obtain ⟨q, r, hqr, hr, hq⟩ := split64 i (by omega)
    have hrem := rem64 hqr hr
    have hquo := quo64 hqr hr (by omega)
    have hrr : ((r : Nat) : Int) = ((r : Nat) : Int) ∧ r < 64 := ⟨rfl, hr⟩
    have hca := at_word (f := car t) hqr hr
    have hoa := at_word (f := one t) hqr hr
    rw [(at_b hb).1] at hca
    rw [(at_b hb).2] at hoa
    have hfa := fill_at hit
    have hfs := fill_set hb
    rcases ht.cub b (List.mem_of_getElem? hb) with rfl | rfl | rfl
    · have hc := hca.2 rfl
      have ho : ¬ _ := fun e => absurd (hoa.1 e) (by decide)
      clear hca hoa
      rcases hq with rfl | rfl | rfl | rfl
      all_goals
        (try (conv => whnf)); repeat' (first | ((with_reducible_and_instances refine nShr (by assumption) ?_); conv => whnf) | ((with_reducible_and_instances refine nShl1' rfl (by assumption) ?_); conv => whnf) | ((with_reducible_and_instances refine nAnd ?_); conv => whnf) | ((with_reducible_and_instances refine nOr ?_); conv => whnf) | ((with_reducible_and_instances refine nXor ?_); conv => whnf) | ((with_reducible_and_instances refine nAndNot ?_); conv => whnf) | ((with_reducible_and_instances refine nAnd1' rfl ?_); conv => whnf) | refine Ok.seq ?_ | (refine Ok.region tok ?_; conv => whnf) | (refine ⟨_, (hquo.symm).symm, ?_⟩; conv => whnf) | (refine ⟨_, (hrem.symm).symm, ?_⟩; conv => whnf) | (refine Ok.region_draw tok follows (by kernel_rfl) ?_; conv => whnf) | (refine Ok.cond ?_; conv => whnf) | refine Ok.block ?_ | (refine Ok.skip ?_; conv => whnf) | (refine Ok.exit ?_; conv => whnf) | (refine Ok.ret ?_; conv => whnf) | (refine num_in (by omega) (by omega) ?_; conv => whnf) | (refine ix _ (by assumption) ?_; conv => whnf) | (refine ixI (by omega) (by assumption) ?_; conv => whnf) | (refine ix_new _ (by omega) fun _ _ => ?_; conv => whnf) | (refine ixI_new (by omega) (by omega) fun _ _ => ?_; conv => whnf) | (refine ⟨_, by assumption, ?_⟩; conv => whnf) | (refine Alt2.l (And.intro (by first | omega | (simp; done) | (simp; omega)) ?_); conv => whnf) | (refine Alt2.r (And.intro (by first | omega | (simp; done) | (simp; omega)) ?_); conv => whnf) | (refine Ok.scope ?_) | (refine Ok.label ?_; conv => whnf) | (refine rd rfl (by assumption) ?_; conv => whnf) | (refine ⟨_, .inl ⟨rfl, rfl⟩, ?_⟩; conv => whnf) | (refine ⟨_, _, rfl, rfl, ?_⟩; conv => whnf) | (refine ⟨fun _ => ?_, fun _ => ?_⟩ <;> (conv => whnf) <;> (try (exfalso; omega))) | (refine And.intro (by first | omega | rfl | (simp; done) | (simp; omega)) ?_; conv => whnf) | (refine num_any ?_; conv => whnf) | (refine ⟨_, rfl, ?_⟩; conv => whnf) | fail)
        refine Or.inr (Or.inr (Or.inl ?_)); (conv => whnf); refine ⟨_, _, Tryz.func89, rfl, Tryz.call89, ?_⟩; (conv => whnf)
        (try (conv => whnf)); repeat' (first | ((with_reducible_and_instances refine nShr (by assumption) ?_); conv => whnf) | ((with_reducible_and_instances refine nShl1' rfl (by assumption) ?_); conv => whnf) | ((with_reducible_and_instances refine nAnd ?_); conv => whnf) | ((with_reducible_and_instances refine nOr ?_); conv => whnf) | ((with_reducible_and_instances refine nXor ?_); conv => whnf) | ((with_reducible_and_instances refine nAndNot ?_); conv => whnf) | ((with_reducible_and_instances refine nAnd1' rfl ?_); conv => whnf) | refine Ok.seq ?_ | (refine Ok.region tok ?_; conv => whnf) | (refine ⟨_, (hquo.symm).symm, ?_⟩; conv => whnf) | (refine ⟨_, (hrem.symm).symm, ?_⟩; conv => whnf) | (refine Ok.region_draw tok follows (by kernel_rfl) ?_; conv => whnf) | (refine Ok.cond ?_; conv => whnf) | refine Ok.block ?_ | (refine Ok.skip ?_; conv => whnf) | (refine Ok.exit ?_; conv => whnf) | (refine Ok.ret ?_; conv => whnf) | (refine num_in (by omega) (by omega) ?_; conv => whnf) | (refine ix _ (by assumption) ?_; conv => whnf) | (refine ixI (by omega) (by assumption) ?_; conv => whnf) | (refine ix_new _ (by omega) fun _ _ => ?_; conv => whnf) | (refine ixI_new (by omega) (by omega) fun _ _ => ?_; conv => whnf) | (refine ⟨_, by assumption, ?_⟩; conv => whnf) | (refine Alt2.l (And.intro (by first | omega | (simp; done) | (simp; omega)) ?_); conv => whnf) | (refine Alt2.r (And.intro (by first | omega | (simp; done) | (simp; omega)) ?_); conv => whnf) | (refine Ok.scope ?_) | (refine Ok.label ?_; conv => whnf) | (refine rd rfl (by assumption) ?_; conv => whnf) | (refine ⟨_, .inl ⟨rfl, rfl⟩, ?_⟩; conv => whnf) | (refine ⟨_, _, rfl, rfl, ?_⟩; conv => whnf) | (refine ⟨fun _ => ?_, fun _ => ?_⟩ <;> (conv => whnf) <;> (try (exfalso; omega))) | (refine And.intro (by first | omega | rfl | (simp; done) | (simp; omega)) ?_; conv => whnf) | (refine num_any ?_; conv => whnf) | (refine ⟨_, rfl, ?_⟩; conv => whnf) | fail)
        refine Or.inr (Or.inr (Or.inl ?_)); (conv => whnf); refine ⟨_, _, Tryz.func89, rfl, Tryz.call89, ?_⟩; (conv => whnf)
        (try (conv => whnf)); repeat' (first | ((with_reducible_and_instances refine nShr (by assumption) ?_); conv => whnf) | ((with_reducible_and_instances refine nShl1' rfl (by assumption) ?_); conv => whnf) | ((with_reducible_and_instances refine nAnd ?_); conv => whnf) | ((with_reducible_and_instances refine nOr ?_); conv => whnf) | ((with_reducible_and_instances refine nXor ?_); conv => whnf) | ((with_reducible_and_instances refine nAndNot ?_); conv => whnf) | ((with_reducible_and_instances refine nAnd1' rfl ?_); conv => whnf) | refine Ok.seq ?_ | (refine Ok.region tok ?_; conv => whnf) | (refine ⟨_, (hquo.symm).symm, ?_⟩; conv => whnf) | (refine ⟨_, (hrem.symm).symm, ?_⟩; conv => whnf) | (refine Ok.region_draw tok follows (by kernel_rfl) ?_; conv => whnf) | (refine Ok.cond ?_; conv => whnf) | refine Ok.block ?_ | (refine Ok.skip ?_; conv => whnf) | (refine Ok.exit ?_; conv => whnf) | (refine Ok.ret ?_; conv => whnf) | (refine num_in (by omega) (by omega) ?_; conv => whnf) | (refine ix _ (by assumption) ?_; conv => whnf) | (refine ixI (by omega) (by assumption) ?_; conv => whnf) | (refine ix_new _ (by omega) fun _ _ => ?_; conv => whnf) | (refine ixI_new (by omega) (by omega) fun _ _ => ?_; conv => whnf) | (refine ⟨_, by assumption, ?_⟩; conv => whnf) | (refine Alt2.l (And.intro (by first | omega | (simp; done) | (simp; omega)) ?_); conv => whnf) | (refine Alt2.r (And.intro (by first | omega | (simp; done) | (simp; omega)) ?_); conv => whnf) | (refine Ok.scope ?_) | (refine Ok.label ?_; conv => whnf) | (refine rd rfl (by assumption) ?_; conv => whnf) | (refine ⟨_, .inl ⟨rfl, rfl⟩, ?_⟩; conv => whnf) | (refine ⟨_, _, rfl, rfl, ?_⟩; conv => whnf) | (refine ⟨fun _ => ?_, fun _ => ?_⟩ <;> (conv => whnf) <;> (try (exfalso; omega))) | (refine And.intro (by first | omega | rfl | (simp; done) | (simp; omega)) ?_; conv => whnf) | (refine num_any ?_; conv => whnf) | (refine ⟨_, rfl, ?_⟩; conv => whnf) | fail)
        refine st 48 hfa (by simp [bcell]) (by simp [setCells, bcell]) ?_
        (try (conv => whnf)); repeat' (first | ((with_reducible_and_instances refine nShr (by assumption) ?_); conv => whnf) | ((with_reducible_and_instances refine nShl1' rfl (by assumption) ?_); conv => whnf) | ((with_reducible_and_instances refine nAnd ?_); conv => whnf) | ((with_reducible_and_instances refine nOr ?_); conv => whnf) | ((with_reducible_and_instances refine nXor ?_); conv => whnf) | ((with_reducible_and_instances refine nAndNot ?_); conv => whnf) | ((with_reducible_and_instances refine nAnd1' rfl ?_); conv => whnf) | refine Ok.seq ?_ | (refine Ok.region tok ?_; conv => whnf) | (refine Ok.region_draw tok follows (by kernel_rfl) ?_; conv => whnf) | (refine Ok.cond ?_; conv => whnf) | refine Ok.block ?_ | (refine Ok.skip ?_; conv => whnf) | (refine Ok.exit ?_; conv => whnf) | (refine Ok.ret ?_; conv => whnf) | (refine num_in (by omega) (by omega) ?_; conv => whnf) | (refine ix _ (by assumption) ?_; conv => whnf) | (refine ixI (by omega) (by assumption) ?_; conv => whnf) | (refine ix_new _ (by omega) fun _ _ => ?_; conv => whnf) | (refine ixI_new (by omega) (by omega) fun _ _ => ?_; conv => whnf) | (refine ⟨_, by assumption, ?_⟩; conv => whnf) | (refine Alt2.l (And.intro (by first | omega | (simp; done) | (simp; omega)) ?_); conv => whnf) | (refine Alt2.r (And.intro (by first | omega | (simp; done) | (simp; omega)) ?_); conv => whnf) | (refine Ok.scope ?_) | (refine Ok.label ?_; conv => whnf) | (refine rd rfl (by assumption) ?_; conv => whnf) | (refine ⟨_, .inl ⟨rfl, rfl⟩, ?_⟩; conv => whnf) | (refine ⟨_, _, rfl, rfl, ?_⟩; conv => whnf) | (refine ⟨fun _ => ?_, fun _ => ?_⟩ <;> (conv => whnf) <;> (try (exfalso; omega))) | (refine And.intro (by first | omega | rfl | (simp; done) | (simp; omega)) ?_; conv => whnf) | (refine num_any ?_; conv => whnf) | (refine ⟨_, rfl, ?_⟩; conv => whnf) | fail)
        refine ⟨i + 1, by omega, by omega, ?_⟩
        (conv => whnf)
        simp only [toNat_cast, hfs, envCat]
        rfl
    · have hc := hca.2 rfl
      have ho := hoa.2 rfl
      clear hca hoa
      rcases hq with rfl | rfl | rfl | rfl
      all_goals
        (try (conv => whnf)); repeat' (first | ((with_reducible_and_instances refine nShr (by assumption) ?_); conv => whnf) | ((with_reducible_and_instances refine nShl1' rfl (by assumption) ?_); conv => whnf) | ((with_reducible_and_instances refine nAnd ?_); conv => whnf) | ((with_reducible_and_instances refine nOr ?_); conv => whnf) | ((with_reducible_and_instances refine nXor ?_); conv => whnf) | ((with_reducible_and_instances refine nAndNot ?_); conv => whnf) | ((with_reducible_and_instances refine nAnd1' rfl ?_); conv => whnf) | refine Ok.seq ?_ | (refine Ok.region tok ?_; conv => whnf) | (refine ⟨_, (hquo.symm).symm, ?_⟩; conv => whnf) | (refine ⟨_, (hrem.symm).symm, ?_⟩; conv => whnf) | (refine Ok.region_draw tok follows (by kernel_rfl) ?_; conv => whnf) | (refine Ok.cond ?_; conv => whnf) | refine Ok.block ?_ | (refine Ok.skip ?_; conv => whnf) | (refine Ok.exit ?_; conv => whnf) | (refine Ok.ret ?_; conv => whnf) | (refine num_in (by omega) (by omega) ?_; conv => whnf) | (refine ix _ (by assumption) ?_; conv => whnf) | (refine ixI (by omega) (by assumption) ?_; conv => whnf) | (refine ix_new _ (by omega) fun _ _ => ?_; conv => whnf) | (refine ixI_new (by omega) (by omega) fun _ _ => ?_; conv => whnf) | (refine ⟨_, by assumption, ?_⟩; conv => whnf) | (refine Alt2.l (And.intro (by first | omega | (simp; done) | (simp; omega)) ?_); conv => whnf) | (refine Alt2.r (And.intro (by first | omega | (simp; done) | (simp; omega)) ?_); conv => whnf) | (refine Ok.scope ?_) | (refine Ok.label ?_; conv => whnf) | (refine rd rfl (by assumption) ?_; conv => whnf) | (refine ⟨_, .inl ⟨rfl, rfl⟩, ?_⟩; conv => whnf) | (refine ⟨_, _, rfl, rfl, ?_⟩; conv => whnf) | (refine ⟨fun _ => ?_, fun _ => ?_⟩ <;> (conv => whnf) <;> (try (exfalso; omega))) | (refine And.intro (by first | omega | rfl | (simp; done) | (simp; omega)) ?_; conv => whnf) | (refine num_any ?_; conv => whnf) | (refine ⟨_, rfl, ?_⟩; conv => whnf) | fail)
        refine Or.inr (Or.inr (Or.inl ?_)); (conv => whnf); refine ⟨_, _, Tryz.func89, rfl, Tryz.call89, ?_⟩; (conv => whnf)
        (try (conv => whnf)); repeat' (first | ((with_reducible_and_instances refine nShr (by assumption) ?_); conv => whnf) | ((with_reducible_and_instances refine nShl1' rfl (by assumption) ?_); conv => whnf) | ((with_reducible_and_instances refine nAnd ?_); conv => whnf) | ((with_reducible_and_instances refine nOr ?_); conv => whnf) | ((with_reducible_and_instances refine nXor ?_); conv => whnf) | ((with_reducible_and_instances refine nAndNot ?_); conv => whnf) | ((with_reducible_and_instances refine nAnd1' rfl ?_); conv => whnf) | refine Ok.seq ?_ | (refine Ok.region tok ?_; conv => whnf) | (refine ⟨_, (hquo.symm).symm, ?_⟩; conv => whnf) | (refine ⟨_, (hrem.symm).symm, ?_⟩; conv => whnf) | (refine Ok.region_draw tok follows (by kernel_rfl) ?_; conv => whnf) | (refine Ok.cond ?_; conv => whnf) | refine Ok.block ?_ | (refine Ok.skip ?_; conv => whnf) | (refine Ok.exit ?_; conv => whnf) | (refine Ok.ret ?_; conv => whnf) | (refine num_in (by omega) (by omega) ?_; conv => whnf) | (refine ix _ (by assumption) ?_; conv => whnf) | (refine ixI (by omega) (by assumption) ?_; conv => whnf) | (refine ix_new _ (by omega) fun _ _ => ?_; conv => whnf) | (refine ixI_new (by omega) (by omega) fun _ _ => ?_; conv => whnf) | (refine ⟨_, by assumption, ?_⟩; conv => whnf) | (refine Alt2.l (And.intro (by first | omega | (simp; done) | (simp; omega)) ?_); conv => whnf) | (refine Alt2.r (And.intro (by first | omega | (simp; done) | (simp; omega)) ?_); conv => whnf) | (refine Ok.scope ?_) | (refine Ok.label ?_; conv => whnf) | (refine rd rfl (by assumption) ?_; conv => whnf) | (refine ⟨_, .inl ⟨rfl, rfl⟩, ?_⟩; conv => whnf) | (refine ⟨_, _, rfl, rfl, ?_⟩; conv => whnf) | (refine ⟨fun _ => ?_, fun _ => ?_⟩ <;> (conv => whnf) <;> (try (exfalso; omega))) | (refine And.intro (by first | omega | rfl | (simp; done) | (simp; omega)) ?_; conv => whnf) | (refine num_any ?_; conv => whnf) | (refine ⟨_, rfl, ?_⟩; conv => whnf) | fail)
        refine Or.inr (Or.inr (Or.inl ?_)); (conv => whnf); refine ⟨_, _, Tryz.func89, rfl, Tryz.call89, ?_⟩; (conv => whnf)
        (try (conv => whnf)); repeat' (first | ((with_reducible_and_instances refine nShr (by assumption) ?_); conv => whnf) | ((with_reducible_and_instances refine nShl1' rfl (by assumption) ?_); conv => whnf) | ((with_reducible_and_instances refine nAnd ?_); conv => whnf) | ((with_reducible_and_instances refine nOr ?_); conv => whnf) | ((with_reducible_and_instances refine nXor ?_); conv => whnf) | ((with_reducible_and_instances refine nAndNot ?_); conv => whnf) | ((with_reducible_and_instances refine nAnd1' rfl ?_); conv => whnf) | refine Ok.seq ?_ | (refine Ok.region tok ?_; conv => whnf) | (refine ⟨_, (hquo.symm).symm, ?_⟩; conv => whnf) | (refine ⟨_, (hrem.symm).symm, ?_⟩; conv => whnf) | (refine Ok.region_draw tok follows (by kernel_rfl) ?_; conv => whnf) | (refine Ok.cond ?_; conv => whnf) | refine Ok.block ?_ | (refine Ok.skip ?_; conv => whnf) | (refine Ok.exit ?_; conv => whnf) | (refine Ok.ret ?_; conv => whnf) | (refine num_in (by omega) (by omega) ?_; conv => whnf) | (refine ix _ (by assumption) ?_; conv => whnf) | (refine ixI (by omega) (by assumption) ?_; conv => whnf) | (refine ix_new _ (by omega) fun _ _ => ?_; conv => whnf) | (refine ixI_new (by omega) (by omega) fun _ _ => ?_; conv => whnf) | (refine ⟨_, by assumption, ?_⟩; conv => whnf) | (refine Alt2.l (And.intro (by first | omega | (simp; done) | (simp; omega)) ?_); conv => whnf) | (refine Alt2.r (And.intro (by first | omega | (simp; done) | (simp; omega)) ?_); conv => whnf) | (refine Ok.scope ?_) | (refine Ok.label ?_; conv => whnf) | (refine rd rfl (by assumption) ?_; conv => whnf) | (refine ⟨_, .inl ⟨rfl, rfl⟩, ?_⟩; conv => whnf) | (refine ⟨_, _, rfl, rfl, ?_⟩; conv => whnf) | (refine ⟨fun _ => ?_, fun _ => ?_⟩ <;> (conv => whnf) <;> (try (exfalso; omega))) | (refine And.intro (by first | omega | rfl | (simp; done) | (simp; omega)) ?_; conv => whnf) | (refine num_any ?_; conv => whnf) | (refine ⟨_, rfl, ?_⟩; conv => whnf) | fail)
        refine st 49 hfa (by simp [bcell]) (by simp [setCells, bcell]) ?_
        (try (conv => whnf)); repeat' (first | ((with_reducible_and_instances refine nShr (by assumption) ?_); conv => whnf) | ((with_reducible_and_instances refine nShl1' rfl (by assumption) ?_); conv => whnf) | ((with_reducible_and_instances refine nAnd ?_); conv => whnf) | ((with_reducible_and_instances refine nOr ?_); conv => whnf) | ((with_reducible_and_instances refine nXor ?_); conv => whnf) | ((with_reducible_and_instances refine nAndNot ?_); conv => whnf) | ((with_reducible_and_instances refine nAnd1' rfl ?_); conv => whnf) | refine Ok.seq ?_ | (refine Ok.region tok ?_; conv => whnf) | (refine Ok.region_draw tok follows (by kernel_rfl) ?_; conv => whnf) | (refine Ok.cond ?_; conv => whnf) | refine Ok.block ?_ | (refine Ok.skip ?_; conv => whnf) | (refine Ok.exit ?_; conv => whnf) | (refine Ok.ret ?_; conv => whnf) | (refine num_in (by omega) (by omega) ?_; conv => whnf) | (refine ix _ (by assumption) ?_; conv => whnf) | (refine ixI (by omega) (by assumption) ?_; conv => whnf) | (refine ix_new _ (by omega) fun _ _ => ?_; conv => whnf) | (refine ixI_new (by omega) (by omega) fun _ _ => ?_; conv => whnf) | (refine ⟨_, by assumption, ?_⟩; conv => whnf) | (refine Alt2.l (And.intro (by first | omega | (simp; done) | (simp; omega)) ?_); conv => whnf) | (refine Alt2.r (And.intro (by first | omega | (simp; done) | (simp; omega)) ?_); conv => whnf) | (refine Ok.scope ?_) | (refine Ok.label ?_; conv => whnf) | (refine rd rfl (by assumption) ?_; conv => whnf) | (refine ⟨_, .inl ⟨rfl, rfl⟩, ?_⟩; conv => whnf) | (refine ⟨_, _, rfl, rfl, ?_⟩; conv => whnf) | (refine ⟨fun _ => ?_, fun _ => ?_⟩ <;> (conv => whnf) <;> (try (exfalso; omega))) | (refine And.intro (by first | omega | rfl | (simp; done) | (simp; omega)) ?_; conv => whnf) | (refine num_any ?_; conv => whnf) | (refine ⟨_, rfl, ?_⟩; conv => whnf) | fail)
        refine ⟨i + 1, by omega, by omega, ?_⟩
        (conv => whnf)
        simp only [toNat_cast, hfs, envCat]
        rfl
    · have hc : ¬ _ := fun e => absurd (hca.1 e) (by decide)
      clear hca hoa
      rcases hq with rfl | rfl | rfl | rfl
      all_goals
        (try (conv => whnf)); repeat' (first | ((with_reducible_and_instances refine nShr (by assumption) ?_); conv => whnf) | ((with_reducible_and_instances refine nShl1' rfl (by assumption) ?_); conv => whnf) | ((with_reducible_and_instances refine nAnd ?_); conv => whnf) | ((with_reducible_and_instances refine nOr ?_); conv => whnf) | ((with_reducible_and_instances refine nXor ?_); conv => whnf) | ((with_reducible_and_instances refine nAndNot ?_); conv => whnf) | ((with_reducible_and_instances refine nAnd1' rfl ?_); conv => whnf) | refine Ok.seq ?_ | (refine Ok.region tok ?_; conv => whnf) | (refine ⟨_, (hquo.symm).symm, ?_⟩; conv => whnf) | (refine ⟨_, (hrem.symm).symm, ?_⟩; conv => whnf) | (refine Ok.region_draw tok follows (by kernel_rfl) ?_; conv => whnf) | (refine Ok.cond ?_; conv => whnf) | refine Ok.block ?_ | (refine Ok.skip ?_; conv => whnf) | (refine Ok.exit ?_; conv => whnf) | (refine Ok.ret ?_; conv => whnf) | (refine num_in (by omega) (by omega) ?_; conv => whnf) | (refine ix _ (by assumption) ?_; conv => whnf) | (refine ixI (by omega) (by assumption) ?_; conv => whnf) | (refine ix_new _ (by omega) fun _ _ => ?_; conv => whnf) | (refine ixI_new (by omega) (by omega) fun _ _ => ?_; conv => whnf) | (refine ⟨_, by assumption, ?_⟩; conv => whnf) | (refine Alt2.l (And.intro (by first | omega | (simp; done) | (simp; omega)) ?_); conv => whnf) | (refine Alt2.r (And.intro (by first | omega | (simp; done) | (simp; omega)) ?_); conv => whnf) | (refine Ok.scope ?_) | (refine Ok.label ?_; conv => whnf) | (refine rd rfl (by assumption) ?_; conv => whnf) | (refine ⟨_, .inl ⟨rfl, rfl⟩, ?_⟩; conv => whnf) | (refine ⟨_, _, rfl, rfl, ?_⟩; conv => whnf) | (refine ⟨fun _ => ?_, fun _ => ?_⟩ <;> (conv => whnf) <;> (try (exfalso; omega))) | (refine And.intro (by first | omega | rfl | (simp; done) | (simp; omega)) ?_; conv => whnf) | (refine num_any ?_; conv => whnf) | (refine ⟨_, rfl, ?_⟩; conv => whnf) | fail)
        refine Or.inr (Or.inr (Or.inl ?_)); (conv => whnf); refine ⟨_, _, Tryz.func89, rfl, Tryz.call89, ?_⟩; (conv => whnf)
        (try (conv => whnf)); repeat' (first | ((with_reducible_and_instances refine nShr (by assumption) ?_); conv => whnf) | ((with_reducible_and_instances refine nShl1' rfl (by assumption) ?_); conv => whnf) | ((with_reducible_and_instances refine nAnd ?_); conv => whnf) | ((with_reducible_and_instances refine nOr ?_); conv => whnf) | ((with_reducible_and_instances refine nXor ?_); conv => whnf) | ((with_reducible_and_instances refine nAndNot ?_); conv => whnf) | ((with_reducible_and_instances refine nAnd1' rfl ?_); conv => whnf) | refine Ok.seq ?_ | (refine Ok.region tok ?_; conv => whnf) | (refine ⟨_, (hquo.symm).symm, ?_⟩; conv => whnf) | (refine ⟨_, (hrem.symm).symm, ?_⟩; conv => whnf) | (refine Ok.region_draw tok follows (by kernel_rfl) ?_; conv => whnf) | (refine Ok.cond ?_; conv => whnf) | refine Ok.block ?_ | (refine Ok.skip ?_; conv => whnf) | (refine Ok.exit ?_; conv => whnf) | (refine Ok.ret ?_; conv => whnf) | (refine num_in (by omega) (by omega) ?_; conv => whnf) | (refine ix _ (by assumption) ?_; conv => whnf) | (refine ixI (by omega) (by assumption) ?_; conv => whnf) | (refine ix_new _ (by omega) fun _ _ => ?_; conv => whnf) | (refine ixI_new (by omega) (by omega) fun _ _ => ?_; conv => whnf) | (refine ⟨_, by assumption, ?_⟩; conv => whnf) | (refine Alt2.l (And.intro (by first | omega | (simp; done) | (simp; omega)) ?_); conv => whnf) | (refine Alt2.r (And.intro (by first | omega | (simp; done) | (simp; omega)) ?_); conv => whnf) | (refine Ok.scope ?_) | (refine Ok.label ?_; conv => whnf) | (refine rd rfl (by assumption) ?_; conv => whnf) | (refine ⟨_, .inl ⟨rfl, rfl⟩, ?_⟩; conv => whnf) | (refine ⟨_, _, rfl, rfl, ?_⟩; conv => whnf) | (refine ⟨fun _ => ?_, fun _ => ?_⟩ <;> (conv => whnf) <;> (try (exfalso; omega))) | (refine And.intro (by first | omega | rfl | (simp; done) | (simp; omega)) ?_; conv => whnf) | (refine num_any ?_; conv => whnf) | (refine ⟨_, rfl, ?_⟩; conv => whnf) | fail)
        refine st 120 hfa (by simp [bcell]) (by simp [setCells, bcell]) ?_
        (try (conv => whnf)); repeat' (first | ((with_reducible_and_instances refine nShr (by assumption) ?_); conv => whnf) | ((with_reducible_and_instances refine nShl1' rfl (by assumption) ?_); conv => whnf) | ((with_reducible_and_instances refine nAnd ?_); conv => whnf) | ((with_reducible_and_instances refine nOr ?_); conv => whnf) | ((with_reducible_and_instances refine nXor ?_); conv => whnf) | ((with_reducible_and_instances refine nAndNot ?_); conv => whnf) | ((with_reducible_and_instances refine nAnd1' rfl ?_); conv => whnf) | refine Ok.seq ?_ | (refine Ok.region tok ?_; conv => whnf) | (refine Ok.region_draw tok follows (by kernel_rfl) ?_; conv => whnf) | (refine Ok.cond ?_; conv => whnf) | refine Ok.block ?_ | (refine Ok.skip ?_; conv => whnf) | (refine Ok.exit ?_; conv => whnf) | (refine Ok.ret ?_; conv => whnf) | (refine num_in (by omega) (by omega) ?_; conv => whnf) | (refine ix _ (by assumption) ?_; conv => whnf) | (refine ixI (by omega) (by assumption) ?_; conv => whnf) | (refine ix_new _ (by omega) fun _ _ => ?_; conv => whnf) | (refine ixI_new (by omega) (by omega) fun _ _ => ?_; conv => whnf) | (refine ⟨_, by assumption, ?_⟩; conv => whnf) | (refine Alt2.l (And.intro (by first | omega | (simp; done) | (simp; omega)) ?_); conv => whnf) | (refine Alt2.r (And.intro (by first | omega | (simp; done) | (simp; omega)) ?_); conv => whnf) | (refine Ok.scope ?_) | (refine Ok.label ?_; conv => whnf) | (refine rd rfl (by assumption) ?_; conv => whnf) | (refine ⟨_, .inl ⟨rfl, rfl⟩, ?_⟩; conv => whnf) | (refine ⟨_, _, rfl, rfl, ?_⟩; conv => whnf) | (refine ⟨fun _ => ?_, fun _ => ?_⟩ <;> (conv => whnf) <;> (try (exfalso; omega))) | (refine And.intro (by first | omega | rfl | (simp; done) | (simp; omega)) ?_; conv => whnf) | (refine num_any ?_; conv => whnf) | (refine ⟨_, rfl, ?_⟩; conv => whnf) | fail)
        refine ⟨i + 1, by omega, by omega, ?_⟩
        (conv => whnf)
        simp only [toNat_cast, hfs, envCat]
        rfl
  · have he : i = t.length := by omega
    subst he
    rw [List.take_length, Nat.sub_self, List.replicate_zero, List.append_nil] at *
    (try (conv => whnf)); repeat' (first | ((with_reducible_and_instances refine nShr (by assumption) ?_); conv => whnf) | ((with_reducible_and_instances refine nShl1' rfl (by assumption) ?_); conv => whnf) | ((with_reducible_and_instances refine nAnd ?_); conv => whnf) | ((with_reducible_and_instances refine nOr ?_); conv => whnf) | ((with_reducible_and_instances refine nXor ?_); conv => whnf) | ((with_reducible_and_instances refine nAndNot ?_); conv => whnf) | ((with_reducible_and_instances refine nAnd1' rfl ?_); conv => whnf) | refine Ok.seq ?_ | (refine Ok.region tok ?_; conv => whnf) | (refine Ok.region_draw tok follows (by kernel_rfl) ?_; conv => whnf) | (refine Ok.cond ?_; conv => whnf) | refine Ok.block ?_ | (refine Ok.skip ?_; conv => whnf) | (refine Ok.exit ?_; conv => whnf) | (refine Ok.ret ?_; conv => whnf) | (refine num_in (by omega) (by omega) ?_; conv => whnf) | (refine ix _ (by assumption) ?_; conv => whnf) | (refine ixI (by omega) (by assumption) ?_; conv => whnf) | (refine ix_new _ (by omega) fun _ _ => ?_; conv => whnf) | (refine ixI_new (by omega) (by omega) fun _ _ => ?_; conv => whnf) | (refine ⟨_, by assumption, ?_⟩; conv => whnf) | (refine Alt2.l (And.intro (by first | omega | (simp; done) | (simp; omega)) ?_); conv => whnf) | (refine Alt2.r (And.intro (by first | omega | (simp; done) | (simp; omega)) ?_); conv => whnf) | (refine Ok.scope ?_) | (refine Ok.label ?_; conv => whnf) | (refine rd rfl (by assumption) ?_; conv => whnf) | (refine ⟨_, .inl ⟨rfl, rfl⟩, ?_⟩; conv => whnf) | (refine ⟨_, _, rfl, rfl, ?_⟩; conv => whnf) | (refine ⟨fun _ => ?_, fun _ => ?_⟩ <;> (conv => whnf) <;> (try (exfalso; omega))) | (refine And.intro (by first | omega | rfl | (simp; done) | (simp; omega)) ?_; conv => whnf) | (refine num_any ?_; conv => whnf) | (refine ⟨_, rfl, ?_⟩; conv => whnf) | fail)
    refine ⟨t, take_all bcell t, ?_⟩
    (try (conv => whnf)); repeat' (first | ((with_reducible_and_instances refine nShr (by assumption) ?_); conv => whnf) | ((with_reducible_and_instances refine nShl1' rfl (by assumption) ?_); conv => whnf) | ((with_reducible_and_instances refine nAnd ?_); conv => whnf) | ((with_reducible_and_instances refine nOr ?_); conv => whnf) | ((with_reducible_and_instances refine nXor ?_); conv => whnf) | ((with_reducible_and_instances refine nAndNot ?_); conv => whnf) | ((with_reducible_and_instances refine nAnd1' rfl ?_); conv => whnf) | refine Ok.seq ?_ | (refine Ok.region tok ?_; conv => whnf) | (refine Ok.region_draw tok follows (by kernel_rfl) ?_; conv => whnf) | (refine Ok.cond ?_; conv => whnf) | refine Ok.block ?_ | (refine Ok.skip ?_; conv => whnf) | (refine Ok.exit ?_; conv => whnf) | (refine Ok.ret ?_; conv => whnf) | (refine num_in (by omega) (by omega) ?_; conv => whnf) | (refine ix _ (by assumption) ?_; conv => whnf) | (refine ixI (by omega) (by assumption) ?_; conv => whnf) | (refine ix_new _ (by omega) fun _ _ => ?_; conv => whnf) | (refine ixI_new (by omega) (by omega) fun _ _ => ?_; conv => whnf) | (refine ⟨_, by assumption, ?_⟩; conv => whnf) | (refine Alt2.l (And.intro (by first | omega | (simp; done) | (simp; omega)) ?_); conv => whnf) | (refine Alt2.r (And.intro (by first | omega | (simp; done) | (simp; omega)) ?_); conv => whnf) | (refine Ok.scope ?_) | (refine Ok.label ?_; conv => whnf) | (refine rd rfl (by assumption) ?_; conv => whnf) | (refine ⟨_, .inl ⟨rfl, rfl⟩, ?_⟩; conv => whnf) | (refine ⟨_, _, rfl, rfl, ?_⟩; conv => whnf) | (refine ⟨fun _ => ?_, fun _ => ?_⟩ <;> (conv => whnf) <;> (try (exfalso; omega))) | (refine And.intro (by first | omega | rfl | (simp; done) | (simp; omega)) ?_; conv => whnf) | (refine num_any ?_; conv => whnf) | (refine ⟨_, rfl, ?_⟩; conv => whnf) | fail)
    refine Or.inl ?_; (conv => whnf)
    rfl
end Go.Proofs.YtaiondckookpiaaGreatDoor
/- What is left of a list when what lies below another is taken out: cubes. -/
namespace Go.Proofs.YtaiondckookpiaaGreatDoor
open Go Go.Vx
def CN (c : Str) : Prop := CT c ∧ c ≠ []
theorem within2_at (c d : Str) (hc : CT c) (hd : CT d) : FSpec Tryz.prog T 121 [.agg (crow c), .agg (crow d)] (fun r _ => r = .b (inT c d)) := by
  refine FSpec.of_ok tok Tryz.func121 rfl Tryz.call121 (by simp) ?_
  (try (conv => whnf)); repeat' (first | refine Ok.seq ?_ | (refine Ok.region tok ?_; conv => whnf) | (refine Ok.region_draw tok follows (by kernel_rfl) ?_; conv => whnf) | (refine Ok.cond ?_; conv => whnf) | refine Ok.block ?_ | (refine Ok.skip ?_; conv => whnf) | (refine Ok.exit ?_; conv => whnf) | (refine Ok.ret ?_; conv => whnf) | (refine num_in (by omega) (by omega) ?_; conv => whnf) | (refine ix _ (by assumption) ?_; conv => whnf) | (refine ixI (by omega) (by assumption) ?_; conv => whnf) | (refine ix_new _ (by omega) fun _ _ => ?_; conv => whnf) | (refine ixI_new (by omega) (by omega) fun _ _ => ?_; conv => whnf) | (refine ⟨_, by assumption, ?_⟩; conv => whnf) | (refine Or.inl ?_; (conv => whnf); (repeat (refine And.intro (by first | omega | (simp; done) | (simp; omega)) ?_; (conv => whnf))); refine ⟨_, within_at c d hc hd, rfl, ?_⟩; conv => whnf) | (refine ⟨_, within_at c d hc hd, rfl, ?_⟩; conv => whnf) | (refine Or.inr (Or.inl ?_); (conv => whnf); (repeat (refine And.intro (by first | omega | (simp; done) | (simp; omega)) ?_; (conv => whnf))); refine ⟨_, within_at c d hc hd, ?_⟩; rintro _ _ ⟨rfl, rfl⟩; conv => whnf) | (refine Alt2.l (And.intro (by first | omega | (simp; done) | (simp; omega)) ?_); conv => whnf) | (refine Alt2.r (And.intro (by first | omega | (simp; done) | (simp; omega)) ?_); conv => whnf) | (refine Ok.scope ?_) | (refine Ok.label ?_; conv => whnf) | (refine rd rfl (by assumption) ?_; conv => whnf) | (refine ⟨_, .inl ⟨rfl, rfl⟩, ?_⟩; conv => whnf) | (refine ⟨_, _, rfl, rfl, ?_⟩; conv => whnf) | (refine ⟨fun _ => ?_, fun _ => ?_⟩ <;> (conv => whnf) <;> (try (exfalso; omega))) | (refine And.intro (by first | omega | rfl | (simp; done) | (simp; omega)) ?_; conv => whnf) | (refine num_any ?_; conv => whnf) | (refine ⟨_, rfl, ?_⟩; conv => whnf) | fail)
  all_goals
    refine Or.inl ?_; (conv => whnf)
    rfl
theorem withinC_at {c d : Str} (hc : CN c) (hd : CN d) : FSpec Tryz.prog T 121 [.agg (crow c), .agg (crow d)] (fun r _ => r = .b (inL c d)) := by
  have := within2_at c d hc.1 hd.1
  rwa [show inT c d = inL c d from propext ⟨fun h => h.2, fun h => ⟨hc.2, h⟩⟩] at this
set_option maxRecDepth 100000 in
set_option maxHeartbeats 4000000 in
theorem greatestC_at (l : List Str) {rl room : List (List D)} (hl : l.length ≤ 1048576) (hok : ∀ x ∈ l, CN x) (h : rl = l.map crow) : FSpec Tryz.prog T 120 [.lst 46 rl room, .fn 121 [] []]
    (fun d rows => ∃ W : List Str, Kept inL l l.length W ∧ d = .own 0 (grG inL l).length ∧ rows = [some (46, W.map crow)]) := by
  subst h
  have hll : (l.map crow).length = l.length := by simp
  refine FSpec.of_ok tok Tryz.func120 rfl Tryz.call120 (by simp) ?_
  (try (conv => whnf)); repeat' (first | refine Ok.seq ?_ | (refine Ok.region tok ?_; conv => whnf) | (refine Ok.cond ?_; conv => whnf) | refine Ok.block ?_ | (refine Ok.skip ?_; conv => whnf) | (refine Ok.exit ?_; conv => whnf) | (refine Ok.ret ?_; conv => whnf) | (refine num_in (by omega) (by omega) ?_; conv => whnf) | (refine ix _ (by assumption) ?_; conv => whnf) | (refine ixI (by omega) (by assumption) ?_; conv => whnf) | (refine ix_new _ (by omega) fun _ _ => ?_; conv => whnf) | (refine ixI_new (by omega) (by omega) fun _ _ => ?_; conv => whnf) | (refine ⟨_, by assumption, ?_⟩; conv => whnf) | (refine Alt2.l (And.intro (by first | omega | (simp; done) | (simp; omega)) ?_); conv => whnf) | (refine Alt2.r (And.intro (by first | omega | (simp; done) | (simp; omega)) ?_); conv => whnf) | (refine Ok.scope ?_) | (refine Ok.label ?_; conv => whnf) | (refine rd rfl (by assumption) ?_; conv => whnf) | (refine ⟨_, .inl ⟨rfl, rfl⟩, ?_⟩; conv => whnf) | (refine ⟨_, _, rfl, rfl, ?_⟩; conv => whnf) | (refine ⟨fun _ => ?_, fun _ => ?_⟩ <;> (conv => whnf) <;> (try (exfalso; omega))) | (refine And.intro (by first | omega | rfl | (simp; done) | (simp; omega)) ?_; conv => whnf) | (refine num_any ?_; conv => whnf) | (refine ⟨_, rfl, ?_⟩; conv => whnf) | fail)
  refine Ok.ghost 5 46 rfl ?_
  (conv => whnf)
  refine Ok.loopU [1, 13, 14] [5, 15] 1 0 (fun (x : Nat × List Str) => [.own 0 (grG inL (l.take x.1)).length, .i .i64 (x.1 : Nat)]) (fun _ b => b) (fun (x : Nat × List Str) (_ : Vx.Rows) => [some (46, x.2.map crow)]) (fun (x : Nat × List Str) => Kept inL l x.1 x.2) (fun (x : Nat × List Str) => l.length - x.1) ((0, [])) (Kept.zero) ?_; (conv => whnf); refine ⟨by ((conv => whnf); first | rfl | (simp [envCat, List.take_of_length_le, cells9]; done) | (simp [envCat, List.take_of_length_le, cells9]; rw [IntKind.wrap_i64]; omega)), ?_⟩
  rintro ⟨i, W⟩ hK
  dsimp only at hK ⊢
  have hWl : (W.map crow).length = W.length := by simp
  have hKn := hK.n
  have hKw := hK.w
  have hKi := hK.le
  (conv => whnf)
  by_cases hil : i < l.length
  · obtain ⟨x, hx⟩ : ∃ x, l[i]? = some x := ⟨_, List.getElem?_eq_getElem hil⟩
    have hxo := hok x (List.mem_of_getElem? hx)
    have hmem : ∀ y ∈ grG inL (l.take i), CN y := fun y hy => hok y (List.take_subset _ _ (grG_sub inL _ y hy))
    (try (conv => whnf)); repeat' (first | refine Ok.seq ?_ | (refine Ok.region tok ?_; conv => whnf) | (refine Ok.region_draw tok follows (by kernel_rfl) ?_; conv => whnf) | (refine Ok.cond ?_; conv => whnf) | refine Ok.block ?_ | (refine Ok.skip ?_; conv => whnf) | (refine Ok.exit ?_; conv => whnf) | (refine Ok.ret ?_; conv => whnf) | (refine num_in (by omega) (by omega) ?_; conv => whnf) | (refine ix _ (by assumption) ?_; conv => whnf) | (refine ixI (by omega) (by assumption) ?_; conv => whnf) | (refine ix_new _ (by omega) fun _ _ => ?_; conv => whnf) | (refine ixI_new (by omega) (by omega) fun _ _ => ?_; conv => whnf) | (refine ⟨_, by assumption, ?_⟩; conv => whnf) | (refine Alt2.l (And.intro (by first | omega | (simp; done) | (simp; omega)) ?_); conv => whnf) | (refine Alt2.r (And.intro (by first | omega | (simp; done) | (simp; omega)) ?_); conv => whnf) | (refine Ok.scope ?_) | (refine Ok.label ?_; conv => whnf) | (refine rd rfl (by assumption) ?_; conv => whnf) | (refine ⟨_, .inl ⟨rfl, rfl⟩, ?_⟩; conv => whnf) | (refine ⟨_, _, rfl, rfl, ?_⟩; conv => whnf) | (refine ⟨fun _ => ?_, fun _ => ?_⟩ <;> (conv => whnf) <;> (try (exfalso; omega))) | (refine And.intro (by first | omega | rfl | (simp; done) | (simp; omega)) ?_; conv => whnf) | (refine num_any ?_; conv => whnf) | (refine ⟨_, rfl, ?_⟩; conv => whnf) | fail)
    generalize hKK : grG inL (l.take i) = K at *
    refine Ok.loopU [1, 5, 7, 13, 14, 15, 19, 20] [21] 1 1 (fun (j : Nat) => [.i .i64 (j : Nat)]) (fun _ b => b) (fun _ r => r) (fun (j : Nat) => j ≤ K.length ∧ ∀ y ∈ K.take j, ¬ inL x y) (fun (j : Nat) => K.length - j) (0) (⟨Nat.zero_le _, by simp⟩) ?_; (conv => whnf); refine ⟨by ((conv => whnf); first | rfl | (simp [envCat, List.take_of_length_le, cells9]; done) | (simp [envCat, List.take_of_length_le, cells9]; rw [IntKind.wrap_i64]; omega)), ?_⟩
    rintro j ⟨hj, hno⟩
    (conv => whnf)
    by_cases hjl : j < K.length
    · obtain ⟨y, hy⟩ : ∃ y, K[j]? = some y := ⟨_, List.getElem?_eq_getElem hjl⟩
      have hyo := hmem y (List.mem_of_getElem? hy)
      have hWj : W[((j : Nat) : Int).toNat]? = some y := by
        have := hK.get (j := j) (by rw [hKK]; exact hjl)
        rw [hKK, hy] at this
        exact this
      (try (conv => whnf)); repeat' (first | refine Ok.seq ?_ | (refine Ok.region tok ?_; conv => whnf) | (refine Ok.region_draw tok follows (by kernel_rfl) ?_; conv => whnf) | (refine Ok.cond ?_; conv => whnf) | refine Ok.block ?_ | (refine Ok.skip ?_; conv => whnf) | (refine Ok.exit ?_; conv => whnf) | (refine Ok.ret ?_; conv => whnf) | (refine num_in (by omega) (by omega) ?_; conv => whnf) | (refine ix _ (by assumption) ?_; conv => whnf) | (refine ixI (by omega) (by assumption) ?_; conv => whnf) | (refine ix_new _ (by omega) fun _ _ => ?_; conv => whnf) | (refine ixI_new (by omega) (by omega) fun _ _ => ?_; conv => whnf) | (refine ⟨_, by assumption, ?_⟩; conv => whnf) | (refine Or.inl ?_; (conv => whnf); (repeat (refine And.intro (by first | omega | (simp; done) | (simp; omega)) ?_; (conv => whnf))); refine ⟨_, withinC_at hxo hyo, rfl, ?_⟩; conv => whnf) | (refine ⟨_, withinC_at hxo hyo, rfl, ?_⟩; conv => whnf) | (refine Or.inr (Or.inl ?_); (conv => whnf); (repeat (refine And.intro (by first | omega | (simp; done) | (simp; omega)) ?_; (conv => whnf))); refine ⟨_, withinC_at hxo hyo, ?_⟩; rintro _ _ ⟨rfl, rfl⟩; conv => whnf) | (refine Alt2.l (And.intro (by first | omega | (simp; done) | (simp; omega)) ?_); conv => whnf) | (refine Alt2.r (And.intro (by first | omega | (simp; done) | (simp; omega)) ?_); conv => whnf) | (refine Ok.scope ?_) | (refine Ok.label ?_; conv => whnf) | (refine rd rfl (by assumption) ?_; conv => whnf) | (refine ⟨_, .inl ⟨rfl, rfl⟩, ?_⟩; conv => whnf) | (refine ⟨_, _, rfl, rfl, ?_⟩; conv => whnf) | (refine ⟨fun _ => ?_, fun _ => ?_⟩ <;> (conv => whnf) <;> (try (exfalso; omega))) | (refine And.intro (by first | omega | rfl | (simp; done) | (simp; omega)) ?_; conv => whnf) | (refine num_any ?_; conv => whnf) | (refine ⟨_, rfl, ?_⟩; conv => whnf) | fail)
      · rename_i hxy
        have hin : ∃ y ∈ grG inL (l.take i), inL x y := ⟨y, by rw [hKK]; exact List.mem_of_getElem? hy, hxy⟩
        obtain ⟨hs, he⟩ := hK.skip hx hin
        refine ⟨(i + 1, W), by dsimp only; omega, hs, ?_⟩
        dsimp only
        rw [he, hKK]
        (conv => whnf)
        rfl
      · rename_i hxy
        refine ⟨j + 1, by omega, ⟨by omega, fun z hz => ?_⟩, ?_⟩
        · rw [List.take_add_one, hy] at hz
          rcases List.mem_append.1 hz with hz | hz
          · exact hno z hz
          · simp at hz; rw [hz]; exact hxy
        · (conv => whnf)
          rfl
    · have hje : j = K.length := by omega
      subst hje
      rw [List.take_length] at hno
      (try (conv => whnf)); repeat' (first | refine Ok.seq ?_ | (refine Ok.region tok ?_; conv => whnf) | (refine Ok.region_draw tok follows (by kernel_rfl) ?_; conv => whnf) | (refine Ok.cond ?_; conv => whnf) | refine Ok.block ?_ | (refine Ok.skip ?_; conv => whnf) | (refine Ok.exit ?_; conv => whnf) | (refine Ok.ret ?_; conv => whnf) | (refine num_in (by omega) (by omega) ?_; conv => whnf) | (refine ix _ (by assumption) ?_; conv => whnf) | (refine ixI (by omega) (by assumption) ?_; conv => whnf) | (refine ix_new _ (by omega) fun _ _ => ?_; conv => whnf) | (refine ixI_new (by omega) (by omega) fun _ _ => ?_; conv => whnf) | (refine ⟨_, by assumption, ?_⟩; conv => whnf) | (refine Alt2.l (And.intro (by first | omega | (simp; done) | (simp; omega)) ?_); conv => whnf) | (refine Alt2.r (And.intro (by first | omega | (simp; done) | (simp; omega)) ?_); conv => whnf) | (refine Ok.scope ?_) | (refine Ok.label ?_; conv => whnf) | (refine rd rfl (by assumption) ?_; conv => whnf) | (refine ⟨_, .inl ⟨rfl, rfl⟩, ?_⟩; conv => whnf) | (refine ⟨_, _, rfl, rfl, ?_⟩; conv => whnf) | (refine ⟨fun _ => ?_, fun _ => ?_⟩ <;> (conv => whnf) <;> (try (exfalso; omega))) | (refine And.intro (by first | omega | rfl | (simp; done) | (simp; omega)) ?_; conv => whnf) | (refine num_any ?_; conv => whnf) | (refine ⟨_, rfl, ?_⟩; conv => whnf) | fail)
      refine ⟨0, rfl, rfl, by omega, ?_⟩
      (try (conv => whnf)); repeat' (first | refine Ok.seq ?_ | (refine Ok.region tok ?_; conv => whnf) | (refine Ok.region_draw tok follows (by kernel_rfl) ?_; conv => whnf) | (refine Ok.cond ?_; conv => whnf) | refine Ok.block ?_ | (refine Ok.skip ?_; conv => whnf) | (refine Ok.exit ?_; conv => whnf) | (refine Ok.ret ?_; conv => whnf) | (refine num_in (by omega) (by omega) ?_; conv => whnf) | (refine ix _ (by assumption) ?_; conv => whnf) | (refine ixI (by omega) (by assumption) ?_; conv => whnf) | (refine ix_new _ (by omega) fun _ _ => ?_; conv => whnf) | (refine ixI_new (by omega) (by omega) fun _ _ => ?_; conv => whnf) | (refine ⟨_, by assumption, ?_⟩; conv => whnf) | (refine Alt2.l (And.intro (by first | omega | (simp; done) | (simp; omega)) ?_); conv => whnf) | (refine Alt2.r (And.intro (by first | omega | (simp; done) | (simp; omega)) ?_); conv => whnf) | (refine Ok.scope ?_) | (refine Ok.label ?_; conv => whnf) | (refine rd rfl (by assumption) ?_; conv => whnf) | (refine ⟨_, .inl ⟨rfl, rfl⟩, ?_⟩; conv => whnf) | (refine ⟨_, _, rfl, rfl, ?_⟩; conv => whnf) | (refine ⟨fun _ => ?_, fun _ => ?_⟩ <;> (conv => whnf) <;> (try (exfalso; omega))) | (refine And.intro (by first | omega | rfl | (simp; done) | (simp; omega)) ?_; conv => whnf) | (refine num_any ?_; conv => whnf) | (refine ⟨_, rfl, ?_⟩; conv => whnf) | fail)
      refine Ok.loopU [1, 7, 13, 14, 15, 32, 33] [10, 34] 1 1 (fun (z : Nat × List Str) => [.own 0 (leftOf inL K x z.1).length, .i .i64 (z.1 : Nat)]) (fun _ b => b) (fun (z : Nat × List Str) (_ : Vx.Rows) => [some (46, z.2.map crow)]) (fun (z : Nat × List Str) => Mid inL K x W z.1 z.2) (fun (z : Nat × List Str) => K.length - z.1) ((0, W)) (Mid.zero) ?_; (conv => whnf); refine ⟨by ((conv => whnf); first | rfl | (simp [envCat, List.take_of_length_le, cells9]; done) | (simp [envCat, List.take_of_length_le, cells9]; rw [IntKind.wrap_i64]; omega)), ?_⟩
      rintro ⟨k, W'⟩ hM
      dsimp only at hM ⊢
      have hMk := hM.le
      have hMl := hM.len
      have hWl' : (W'.map crow).length = W'.length := by simp
      have hkept : W.take K.length = K := by
        have := hK.tk
        rw [hKK] at this
        exact this
      (conv => whnf)
      by_cases hkl : k < K.length
      · obtain ⟨y, hy⟩ : ∃ y, K[k]? = some y := ⟨_, List.getElem?_eq_getElem hkl⟩
        have hyo := hmem y (List.mem_of_getElem? hy)
        have hWj : W'[((k : Nat) : Int).toNat]? = some y := by
          rw [toNat_cast, hM.get hkept hkl, hy]
        by_cases hyx : inL y x
        · obtain ⟨hd, he⟩ := hM.drop hy hyx
          (try (conv => whnf)); repeat' (first | refine Ok.seq ?_ | (refine Ok.region tok ?_; conv => whnf) | (refine Ok.region_draw tok follows (by kernel_rfl) ?_; conv => whnf) | (refine Ok.cond ?_; conv => whnf) | refine Ok.block ?_ | (refine Ok.skip ?_; conv => whnf) | (refine Ok.exit ?_; conv => whnf) | (refine Ok.ret ?_; conv => whnf) | (refine num_in (by omega) (by omega) ?_; conv => whnf) | (refine ix _ (by assumption) ?_; conv => whnf) | (refine ixI (by omega) (by assumption) ?_; conv => whnf) | (refine ix_new _ (by omega) fun _ _ => ?_; conv => whnf) | (refine ixI_new (by omega) (by omega) fun _ _ => ?_; conv => whnf) | (refine ⟨_, by assumption, ?_⟩; conv => whnf) | (refine Or.inl ?_; (conv => whnf); (repeat (refine And.intro (by first | omega | (simp; done) | (simp; omega)) ?_; (conv => whnf))); refine ⟨_, withinC_at hyo hxo, rfl, ?_⟩; conv => whnf) | (refine ⟨_, withinC_at hyo hxo, rfl, ?_⟩; conv => whnf) | (refine Or.inr (Or.inl ?_); (conv => whnf); (repeat (refine And.intro (by first | omega | (simp; done) | (simp; omega)) ?_; (conv => whnf))); refine ⟨_, withinC_at hyo hxo, ?_⟩; rintro _ _ ⟨rfl, rfl⟩; conv => whnf) | (refine Alt2.l (And.intro (by first | omega | (simp; done) | (simp; omega)) ?_); conv => whnf) | (refine Alt2.r (And.intro (by first | omega | (simp; done) | (simp; omega)) ?_); conv => whnf) | (refine Ok.scope ?_) | (refine Ok.label ?_; conv => whnf) | (refine rd rfl (by assumption) ?_; conv => whnf) | (refine ⟨_, .inl ⟨rfl, rfl⟩, ?_⟩; conv => whnf) | (refine ⟨_, _, rfl, rfl, ?_⟩; conv => whnf) | (refine ⟨fun _ => ?_, fun _ => ?_⟩ <;> (conv => whnf) <;> (try (exfalso; omega))) | (refine And.intro (by first | omega | rfl | (simp; done) | (simp; omega)) ?_; conv => whnf) | (refine num_any ?_; conv => whnf) | (refine ⟨_, rfl, ?_⟩; conv => whnf) | fail)
          · exact absurd hyx (by assumption)
          · refine ⟨(k + 1, W'), by dsimp only; omega, hd, ?_⟩
            dsimp only
            rw [he]
            (conv => whnf)
            rfl
        · obtain ⟨hd, he, hlt⟩ := hM.keep hKn hy hyx
          have hlt2 : (leftOf inL K x k).length < (W'.map crow).length := by omega
          have hnle : ¬ (leftOf inL K x k).length = (W'.map crow).length := by omega
          (try (conv => whnf)); repeat' (first | refine Ok.seq ?_ | (refine Ok.region tok ?_; conv => whnf) | (refine Ok.region_draw tok follows (by kernel_rfl) ?_; conv => whnf) | (refine Ok.cond ?_; conv => whnf) | refine Ok.block ?_ | (refine Ok.skip ?_; conv => whnf) | (refine Ok.exit ?_; conv => whnf) | (refine Ok.ret ?_; conv => whnf) | (refine num_in (by omega) (by omega) ?_; conv => whnf) | (refine ix _ (by assumption) ?_; conv => whnf) | (refine ixI (by omega) (by assumption) ?_; conv => whnf) | (refine ix_new _ (by omega) fun _ _ => ?_; conv => whnf) | (refine ixI_new (by omega) (by omega) fun _ _ => ?_; conv => whnf) | (refine ⟨_, by assumption, ?_⟩; conv => whnf) | (refine Or.inl ?_; (conv => whnf); (repeat (refine And.intro (by first | omega | (simp; done) | (simp; omega)) ?_; (conv => whnf))); refine ⟨_, withinC_at hyo hxo, rfl, ?_⟩; conv => whnf) | (refine ⟨_, withinC_at hyo hxo, rfl, ?_⟩; conv => whnf) | (refine Or.inr (Or.inl ?_); (conv => whnf); (repeat (refine And.intro (by first | omega | (simp; done) | (simp; omega)) ?_; (conv => whnf))); refine ⟨_, withinC_at hyo hxo, ?_⟩; rintro _ _ ⟨rfl, rfl⟩; conv => whnf) | (refine Alt2.l (And.intro (by first | omega | (simp; done) | (simp; omega)) ?_); conv => whnf) | (refine Alt2.r (And.intro (by first | omega | (simp; done) | (simp; omega)) ?_); conv => whnf) | (refine Ok.scope ?_) | (refine Ok.label ?_; conv => whnf) | (refine rd rfl (by assumption) ?_; conv => whnf) | (refine ⟨_, .inl ⟨rfl, rfl⟩, ?_⟩; conv => whnf) | (refine ⟨_, _, rfl, rfl, ?_⟩; conv => whnf) | (refine ⟨fun _ => ?_, fun _ => ?_⟩ <;> (conv => whnf) <;> (try (exfalso; omega))) | (refine And.intro (by first | omega | rfl | (simp; done) | (simp; omega)) ?_; conv => whnf) | (refine num_any ?_; conv => whnf) | (refine ⟨_, rfl, ?_⟩; conv => whnf) | fail)
          · refine ⟨(k + 1, W'.set (leftOf inL K x k).length y), by dsimp only; omega, hd, ?_⟩
            dsimp only
            rw [he, List.length_append, List.map_set]
            (conv => whnf)
            rfl
          · rename_i hh
            exact absurd hyx hh
      · have hke : k = K.length := by omega
        subst hke
        obtain ⟨se, sl, sg⟩ := hK.step hx (by rw [hKK]; exact hno) (by rw [hKK]; exact hM)
        rw [hKK] at se sl sg
        by_cases hm : (leftOf inL K x K.length).length = W'.length
        · have hm2 : (leftOf inL K x K.length).length = (W'.map crow).length := by omega
          (try (conv => whnf)); repeat' (first | refine Ok.seq ?_ | (refine Ok.region tok ?_; conv => whnf) | (refine Ok.region_draw tok follows (by kernel_rfl) ?_; conv => whnf) | (refine Ok.cond ?_; conv => whnf) | refine Ok.block ?_ | (refine Ok.skip ?_; conv => whnf) | (refine Ok.exit ?_; conv => whnf) | (refine Ok.ret ?_; conv => whnf) | (refine num_in (by omega) (by omega) ?_; conv => whnf) | (refine ix _ (by assumption) ?_; conv => whnf) | (refine ixI (by omega) (by assumption) ?_; conv => whnf) | (refine ix_new _ (by omega) fun _ _ => ?_; conv => whnf) | (refine ixI_new (by omega) (by omega) fun _ _ => ?_; conv => whnf) | (refine ⟨_, by assumption, ?_⟩; conv => whnf) | (refine Alt2.l (And.intro (by first | omega | (simp; done) | (simp; omega)) ?_); conv => whnf) | (refine Alt2.r (And.intro (by first | omega | (simp; done) | (simp; omega)) ?_); conv => whnf) | (refine Ok.scope ?_) | (refine Ok.label ?_; conv => whnf) | (refine rd rfl (by assumption) ?_; conv => whnf) | (refine ⟨_, .inl ⟨rfl, rfl⟩, ?_⟩; conv => whnf) | (refine ⟨_, _, rfl, rfl, ?_⟩; conv => whnf) | (refine ⟨fun _ => ?_, fun _ => ?_⟩ <;> (conv => whnf) <;> (try (exfalso; omega))) | (refine And.intro (by first | omega | rfl | (simp; done) | (simp; omega)) ?_; conv => whnf) | (refine num_any ?_; conv => whnf) | (refine ⟨_, rfl, ?_⟩; conv => whnf) | fail)
          refine ⟨(i + 1, W' ++ [x]), by dsimp only; omega, sg hm, ?_⟩
          dsimp only
          rw [se, List.map_append]
          (conv => whnf)
          simp [envCat, hm]
        · have hle2 := hM.tk
          have hlt : (leftOf inL K x K.length).length < W'.length := by
            have := congrArg List.length hM.tk
            rw [List.length_take] at this
            omega
          have hlt2 : (leftOf inL K x K.length).length < (W'.map crow).length := by omega
          (try (conv => whnf)); repeat' (first | refine Ok.seq ?_ | (refine Ok.region tok ?_; conv => whnf) | (refine Ok.region_draw tok follows (by kernel_rfl) ?_; conv => whnf) | (refine Ok.cond ?_; conv => whnf) | refine Ok.block ?_ | (refine Ok.skip ?_; conv => whnf) | (refine Ok.exit ?_; conv => whnf) | (refine Ok.ret ?_; conv => whnf) | (refine num_in (by omega) (by omega) ?_; conv => whnf) | (refine ix _ (by assumption) ?_; conv => whnf) | (refine ixI (by omega) (by assumption) ?_; conv => whnf) | (refine ix_new _ (by omega) fun _ _ => ?_; conv => whnf) | (refine ixI_new (by omega) (by omega) fun _ _ => ?_; conv => whnf) | (refine ⟨_, by assumption, ?_⟩; conv => whnf) | (refine Alt2.l (And.intro (by first | omega | (simp; done) | (simp; omega)) ?_); conv => whnf) | (refine Alt2.r (And.intro (by first | omega | (simp; done) | (simp; omega)) ?_); conv => whnf) | (refine Ok.scope ?_) | (refine Ok.label ?_; conv => whnf) | (refine rd rfl (by assumption) ?_; conv => whnf) | (refine ⟨_, .inl ⟨rfl, rfl⟩, ?_⟩; conv => whnf) | (refine ⟨_, _, rfl, rfl, ?_⟩; conv => whnf) | (refine ⟨fun _ => ?_, fun _ => ?_⟩ <;> (conv => whnf) <;> (try (exfalso; omega))) | (refine And.intro (by first | omega | rfl | (simp; done) | (simp; omega)) ?_; conv => whnf) | (refine num_any ?_; conv => whnf) | (refine ⟨_, rfl, ?_⟩; conv => whnf) | fail)
          refine ⟨(i + 1, W'.set (leftOf inL K x K.length).length x), by dsimp only; omega, sl hlt, ?_⟩
          dsimp only
          rw [se, List.length_append, List.map_set]
          (conv => whnf)
          rfl
  · have hie : i = l.length := by omega
    subst hie
    rw [List.take_length] at *
    (try (conv => whnf)); repeat' (first | refine Ok.seq ?_ | (refine Ok.region tok ?_; conv => whnf) | (refine Ok.region_draw tok follows (by kernel_rfl) ?_; conv => whnf) | (refine Ok.cond ?_; conv => whnf) | refine Ok.block ?_ | (refine Ok.skip ?_; conv => whnf) | (refine Ok.exit ?_; conv => whnf) | (refine Ok.ret ?_; conv => whnf) | (refine num_in (by omega) (by omega) ?_; conv => whnf) | (refine ix _ (by assumption) ?_; conv => whnf) | (refine ixI (by omega) (by assumption) ?_; conv => whnf) | (refine ix_new _ (by omega) fun _ _ => ?_; conv => whnf) | (refine ixI_new (by omega) (by omega) fun _ _ => ?_; conv => whnf) | (refine ⟨_, by assumption, ?_⟩; conv => whnf) | (refine Alt2.l (And.intro (by first | omega | (simp; done) | (simp; omega)) ?_); conv => whnf) | (refine Alt2.r (And.intro (by first | omega | (simp; done) | (simp; omega)) ?_); conv => whnf) | (refine Ok.scope ?_) | (refine Ok.label ?_; conv => whnf) | (refine rd rfl (by assumption) ?_; conv => whnf) | (refine ⟨_, .inl ⟨rfl, rfl⟩, ?_⟩; conv => whnf) | (refine ⟨_, _, rfl, rfl, ?_⟩; conv => whnf) | (refine ⟨fun _ => ?_, fun _ => ?_⟩ <;> (conv => whnf) <;> (try (exfalso; omega))) | (refine And.intro (by first | omega | rfl | (simp; done) | (simp; omega)) ?_; conv => whnf) | (refine num_any ?_; conv => whnf) | (refine ⟨_, rfl, ?_⟩; conv => whnf) | fail)
    refine Or.inr (Or.inl ?_); (conv => whnf)
    exact ⟨W, hK, rfl, rfl⟩
/-! ### Terms -/
structure TR where
  t : Term
  room : List (List D)
@[reducible] def trow (x : TR) : List D := [.i .i64 (x.t.p.length : Int), .i .u64 ((wof (car x.t.p) 0).toNat : Int), .i .u64 ((wof (car x.t.p) 1).toNat : Int), .i .u64 ((wof (car x.t.p) 2).toNat : Int), .i .u64 ((wof (car x.t.p) 3).toNat : Int), .i .u64 ((wof (one x.t.p) 0).toNat : Int), .i .u64 ((wof (one x.t.p) 1).toNat : Int), .i .u64 ((wof (one x.t.p) 2).toNat : Int), .i .u64 ((wof (one x.t.p) 3).toNat : Int), .lst 46 (x.t.less.map crow) x.room, .s x.t.key]
structure TN (x : TR) : Prop where
  p : CN x.t.p
  less : ∀ m ∈ x.t.less, CN m
  n : x.t.less.length ≤ 1048576
def covR (a b : TR) : Prop := covT a.t b.t
set_option maxHeartbeats 4000000 in
theorem covered_at {a b : TR} (ha : TN a) (hb : TN b) : FSpec Tryz.prog T 114 [.agg (trow a), .agg (trow b)] (fun r _ => r = .b (covR a b)) := by
  refine FSpec.of_ok tok Tryz.func114 rfl Tryz.call114 (by simp) ?_
  (try (conv => whnf)); repeat' (first | refine Ok.seq ?_ | (refine Ok.region tok ?_; conv => whnf) | (refine Ok.region_draw tok follows (by kernel_rfl) ?_; conv => whnf) | (refine Ok.cond ?_; conv => whnf) | refine Ok.block ?_ | (refine Ok.skip ?_; conv => whnf) | (refine Ok.exit ?_; conv => whnf) | (refine Ok.ret ?_; conv => whnf) | (refine num_in (by omega) (by omega) ?_; conv => whnf) | (refine ix _ (by assumption) ?_; conv => whnf) | (refine ixI (by omega) (by assumption) ?_; conv => whnf) | (refine ix_new _ (by omega) fun _ _ => ?_; conv => whnf) | (refine ixI_new (by omega) (by omega) fun _ _ => ?_; conv => whnf) | (refine ⟨_, by assumption, ?_⟩; conv => whnf) | (refine Or.inl ?_; (conv => whnf); (repeat (refine And.intro (by first | omega | (simp; done) | (simp; omega)) ?_; (conv => whnf))); refine ⟨_, within_at a.t.p b.t.p ha.p.1 hb.p.1, rfl, ?_⟩; conv => whnf) | (refine ⟨_, within_at a.t.p b.t.p ha.p.1 hb.p.1, rfl, ?_⟩; conv => whnf) | (refine Or.inr (Or.inl ?_); (conv => whnf); (repeat (refine And.intro (by first | omega | (simp; done) | (simp; omega)) ?_; (conv => whnf))); refine ⟨_, within_at a.t.p b.t.p ha.p.1 hb.p.1, ?_⟩; rintro _ _ ⟨rfl, rfl⟩; conv => whnf) | (refine Alt2.l (And.intro (by first | omega | (simp; done) | (simp; omega)) ?_); conv => whnf) | (refine Alt2.r (And.intro (by first | omega | (simp; done) | (simp; omega)) ?_); conv => whnf) | (refine Ok.scope ?_) | (refine Ok.label ?_; conv => whnf) | (refine rd rfl (by assumption) ?_; conv => whnf) | (refine ⟨_, .inl ⟨rfl, rfl⟩, ?_⟩; conv => whnf) | (refine ⟨_, _, rfl, rfl, ?_⟩; conv => whnf) | (refine ⟨fun _ => ?_, fun _ => ?_⟩ <;> (conv => whnf) <;> (try (exfalso; omega))) | (refine And.intro (by first | omega | rfl | (simp; done) | (simp; omega)) ?_; conv => whnf) | (refine num_any ?_; conv => whnf) | (refine ⟨_, rfl, ?_⟩; conv => whnf) | fail)
  · rename_i h
    refine Or.inl ?_; (conv => whnf)
    show D.b False = _
    exact congrArg D.b (propext ⟨fun h => h.elim, fun h2 => h h2.1⟩)
  · rename_i h
    have hin : inT a.t.p b.t.p := Classical.not_not.1 h
    have hbn := hb.n
    have han := ha.n
    have hbl : (b.t.less.map crow).length = b.t.less.length := by simp
    have hal : (a.t.less.map crow).length = a.t.less.length := by simp
    refine Ok.loopU [2, 18, 19] [20] 0 2 (fun (i : Nat) => [.i .i64 (i : Nat)]) (fun _ b => b) (fun _ r => r) (fun (i : Nat) => i ≤ b.t.less.length ∧ ∀ m ∈ b.t.less.take i, ∀ c, meetT m a.t.p = some c → ∃ n ∈ a.t.less, inT c n) (fun (i : Nat) => b.t.less.length - i) (0) (⟨Nat.zero_le _, by simp⟩) ?_; (conv => whnf); refine ⟨by ((conv => whnf); first | rfl | (simp [envCat, List.take_of_length_le, cells9]; done) | (simp [envCat, List.take_of_length_le, cells9]; rw [IntKind.wrap_i64]; omega)), ?_⟩
    rintro i ⟨hi, hall⟩
    (conv => whnf)
    by_cases hil : i < b.t.less.length
    · obtain ⟨m, hm⟩ : ∃ m, b.t.less[i]? = some m := ⟨_, List.getElem?_eq_getElem hil⟩
      have hmo := hb.less m (List.mem_of_getElem? hm)
      have step : (∀ c, meetT m a.t.p = some c → ∃ n ∈ a.t.less, inT c n) → ∀ z ∈ b.t.less.take (i + 1), ∀ c, meetT z a.t.p = some c → ∃ n ∈ a.t.less, inT c n := fun h z hz => by
        rw [List.take_add_one, hm] at hz
        rcases List.mem_append.1 hz with hz | hz
        · exact hall z hz
        · simp at hz; rw [hz]; exact h
      cases hmt : meetT m a.t.p with
      | none =>
        have hsp := meet_at m a.t.p hmo.1 ha.p.1
        rw [hmt] at hsp
        (try (conv => whnf)); repeat' (first | refine Ok.seq ?_ | (refine Ok.region tok ?_; conv => whnf) | (refine Ok.region_draw tok follows (by kernel_rfl) ?_; conv => whnf) | (refine Ok.cond ?_; conv => whnf) | refine Ok.block ?_ | (refine Ok.skip ?_; conv => whnf) | (refine Ok.exit ?_; conv => whnf) | (refine Ok.ret ?_; conv => whnf) | (refine num_in (by omega) (by omega) ?_; conv => whnf) | (refine ix _ (by assumption) ?_; conv => whnf) | (refine ixI (by omega) (by assumption) ?_; conv => whnf) | (refine ix_new _ (by omega) fun _ _ => ?_; conv => whnf) | (refine ixI_new (by omega) (by omega) fun _ _ => ?_; conv => whnf) | (refine ⟨_, by assumption, ?_⟩; conv => whnf) | (refine Or.inl ?_; (conv => whnf); (repeat (refine And.intro (by first | omega | (simp; done) | (simp; omega)) ?_; (conv => whnf))); refine ⟨_, hsp, rfl, ?_⟩; conv => whnf) | (refine ⟨_, hsp, rfl, ?_⟩; conv => whnf) | (refine Or.inr (Or.inl ?_); (conv => whnf); (repeat (refine And.intro (by first | omega | (simp; done) | (simp; omega)) ?_; (conv => whnf))); refine ⟨_, hsp, ?_⟩; rintro _ _ ⟨rfl, rfl⟩; conv => whnf) | (refine Alt2.l (And.intro (by first | omega | (simp; done) | (simp; omega)) ?_); conv => whnf) | (refine Alt2.r (And.intro (by first | omega | (simp; done) | (simp; omega)) ?_); conv => whnf) | (refine Ok.scope ?_) | (refine Ok.label ?_; conv => whnf) | (refine rd rfl (by assumption) ?_; conv => whnf) | (refine ⟨_, .inl ⟨rfl, rfl⟩, ?_⟩; conv => whnf) | (refine ⟨_, _, rfl, rfl, ?_⟩; conv => whnf) | (refine ⟨fun _ => ?_, fun _ => ?_⟩ <;> (conv => whnf) <;> (try (exfalso; omega))) | (refine And.intro (by first | omega | rfl | (simp; done) | (simp; omega)) ?_; conv => whnf) | (refine num_any ?_; conv => whnf) | (refine ⟨_, rfl, ?_⟩; conv => whnf) | fail)
        · refine ⟨i + 1, by omega, ⟨by omega, step fun c hc => by rw [hmt] at hc; cases hc⟩, ?_⟩
          (conv => whnf)
          rfl
        · rename_i h2
          exact absurd (by simp) h2
      | some c =>
        have hsp := meet_at m a.t.p hmo.1 ha.p.1
        have hcc := meetT_ct hmt hmo.1 ha.p.1
        rw [hmt] at hsp
        (try (conv => whnf)); repeat' (first | refine Ok.seq ?_ | (refine Ok.region tok ?_; conv => whnf) | (refine Ok.region_draw tok follows (by kernel_rfl) ?_; conv => whnf) | (refine Ok.cond ?_; conv => whnf) | refine Ok.block ?_ | (refine Ok.skip ?_; conv => whnf) | (refine Ok.exit ?_; conv => whnf) | (refine Ok.ret ?_; conv => whnf) | (refine num_in (by omega) (by omega) ?_; conv => whnf) | (refine ix _ (by assumption) ?_; conv => whnf) | (refine ixI (by omega) (by assumption) ?_; conv => whnf) | (refine ix_new _ (by omega) fun _ _ => ?_; conv => whnf) | (refine ixI_new (by omega) (by omega) fun _ _ => ?_; conv => whnf) | (refine ⟨_, by assumption, ?_⟩; conv => whnf) | (refine Or.inl ?_; (conv => whnf); (repeat (refine And.intro (by first | omega | (simp; done) | (simp; omega)) ?_; (conv => whnf))); refine ⟨_, hsp, rfl, ?_⟩; conv => whnf) | (refine ⟨_, hsp, rfl, ?_⟩; conv => whnf) | (refine Or.inr (Or.inl ?_); (conv => whnf); (repeat (refine And.intro (by first | omega | (simp; done) | (simp; omega)) ?_; (conv => whnf))); refine ⟨_, hsp, ?_⟩; rintro _ _ ⟨rfl, rfl⟩; conv => whnf) | (refine Alt2.l (And.intro (by first | omega | (simp; done) | (simp; omega)) ?_); conv => whnf) | (refine Alt2.r (And.intro (by first | omega | (simp; done) | (simp; omega)) ?_); conv => whnf) | (refine Ok.scope ?_) | (refine Ok.label ?_; conv => whnf) | (refine rd rfl (by assumption) ?_; conv => whnf) | (refine ⟨_, .inl ⟨rfl, rfl⟩, ?_⟩; conv => whnf) | (refine ⟨_, _, rfl, rfl, ?_⟩; conv => whnf) | (refine ⟨fun _ => ?_, fun _ => ?_⟩ <;> (conv => whnf) <;> (try (exfalso; omega))) | (refine And.intro (by first | omega | rfl | (simp; done) | (simp; omega)) ?_; conv => whnf) | (refine num_any ?_; conv => whnf) | (refine ⟨_, rfl, ?_⟩; conv => whnf) | fail)
        · rename_i h2
          exact absurd rfl h2
        · refine Ok.loopU [2, 7, 18, 19, 20, 34, 35] [36] 0 4 (fun (j : Nat) => [.i .i64 (j : Nat)]) (fun _ b => b) (fun _ r => r) (fun (j : Nat) => j ≤ a.t.less.length ∧ ∀ n ∈ a.t.less.take j, ¬ inT c n) (fun (j : Nat) => a.t.less.length - j) (0) (⟨Nat.zero_le _, by simp⟩) ?_; (conv => whnf); refine ⟨by ((conv => whnf); first | rfl | (simp [envCat, List.take_of_length_le, cells9]; done) | (simp [envCat, List.take_of_length_le, cells9]; rw [IntKind.wrap_i64]; omega)), ?_⟩
          rintro j ⟨hj, hno⟩
          (conv => whnf)
          by_cases hjl : j < a.t.less.length
          · obtain ⟨n, hn⟩ : ∃ n, a.t.less[j]? = some n := ⟨_, List.getElem?_eq_getElem hjl⟩
            have hno' := ha.less n (List.mem_of_getElem? hn)
            (try (conv => whnf)); repeat' (first | refine Ok.seq ?_ | (refine Ok.region tok ?_; conv => whnf) | (refine Ok.region_draw tok follows (by kernel_rfl) ?_; conv => whnf) | (refine Ok.cond ?_; conv => whnf) | refine Ok.block ?_ | (refine Ok.skip ?_; conv => whnf) | (refine Ok.exit ?_; conv => whnf) | (refine Ok.ret ?_; conv => whnf) | (refine num_in (by omega) (by omega) ?_; conv => whnf) | (refine ix _ (by assumption) ?_; conv => whnf) | (refine ixI (by omega) (by assumption) ?_; conv => whnf) | (refine ix_new _ (by omega) fun _ _ => ?_; conv => whnf) | (refine ixI_new (by omega) (by omega) fun _ _ => ?_; conv => whnf) | (refine ⟨_, by assumption, ?_⟩; conv => whnf) | (refine Or.inl ?_; (conv => whnf); (repeat (refine And.intro (by first | omega | (simp; done) | (simp; omega)) ?_; (conv => whnf))); refine ⟨_, within_at c n hcc.1 hno'.1, rfl, ?_⟩; conv => whnf) | (refine ⟨_, within_at c n hcc.1 hno'.1, rfl, ?_⟩; conv => whnf) | (refine Or.inr (Or.inl ?_); (conv => whnf); (repeat (refine And.intro (by first | omega | (simp; done) | (simp; omega)) ?_; (conv => whnf))); refine ⟨_, within_at c n hcc.1 hno'.1, ?_⟩; rintro _ _ ⟨rfl, rfl⟩; conv => whnf) | (refine Alt2.l (And.intro (by first | omega | (simp; done) | (simp; omega)) ?_); conv => whnf) | (refine Alt2.r (And.intro (by first | omega | (simp; done) | (simp; omega)) ?_); conv => whnf) | (refine Ok.scope ?_) | (refine Ok.label ?_; conv => whnf) | (refine rd rfl (by assumption) ?_; conv => whnf) | (refine ⟨_, .inl ⟨rfl, rfl⟩, ?_⟩; conv => whnf) | (refine ⟨_, _, rfl, rfl, ?_⟩; conv => whnf) | (refine ⟨fun _ => ?_, fun _ => ?_⟩ <;> (conv => whnf) <;> (try (exfalso; omega))) | (refine And.intro (by first | omega | rfl | (simp; done) | (simp; omega)) ?_; conv => whnf) | (refine num_any ?_; conv => whnf) | (refine ⟨_, rfl, ?_⟩; conv => whnf) | fail)
            · rename_i hcn
              refine ⟨i + 1, by omega, ⟨by omega, step fun c' hc' => ?_⟩, ?_⟩
              · rw [hmt] at hc'
                cases hc'
                exact ⟨n, List.mem_of_getElem? hn, hcn⟩
              · (conv => whnf)
                rfl
            · rename_i hcn
              refine ⟨j + 1, by omega, ⟨by omega, fun z hz => ?_⟩, ?_⟩
              · rw [List.take_add_one, hn] at hz
                rcases List.mem_append.1 hz with hz | hz
                · exact hno z hz
                · simp at hz; rw [hz]; exact hcn
              · (conv => whnf)
                rfl
          · have hje : j = a.t.less.length := by omega
            subst hje
            rw [List.take_length] at hno
            (try (conv => whnf)); repeat' (first | refine Ok.seq ?_ | (refine Ok.region tok ?_; conv => whnf) | (refine Ok.region_draw tok follows (by kernel_rfl) ?_; conv => whnf) | (refine Ok.cond ?_; conv => whnf) | refine Ok.block ?_ | (refine Ok.skip ?_; conv => whnf) | (refine Ok.exit ?_; conv => whnf) | (refine Ok.ret ?_; conv => whnf) | (refine num_in (by omega) (by omega) ?_; conv => whnf) | (refine ix _ (by assumption) ?_; conv => whnf) | (refine ixI (by omega) (by assumption) ?_; conv => whnf) | (refine ix_new _ (by omega) fun _ _ => ?_; conv => whnf) | (refine ixI_new (by omega) (by omega) fun _ _ => ?_; conv => whnf) | (refine ⟨_, by assumption, ?_⟩; conv => whnf) | (refine Alt2.l (And.intro (by first | omega | (simp; done) | (simp; omega)) ?_); conv => whnf) | (refine Alt2.r (And.intro (by first | omega | (simp; done) | (simp; omega)) ?_); conv => whnf) | (refine Ok.scope ?_) | (refine Ok.label ?_; conv => whnf) | (refine rd rfl (by assumption) ?_; conv => whnf) | (refine ⟨_, .inl ⟨rfl, rfl⟩, ?_⟩; conv => whnf) | (refine ⟨_, _, rfl, rfl, ?_⟩; conv => whnf) | (refine ⟨fun _ => ?_, fun _ => ?_⟩ <;> (conv => whnf) <;> (try (exfalso; omega))) | (refine And.intro (by first | omega | rfl | (simp; done) | (simp; omega)) ?_; conv => whnf) | (refine num_any ?_; conv => whnf) | (refine ⟨_, rfl, ?_⟩; conv => whnf) | fail)
            refine Or.inl ?_; (conv => whnf)
            show D.b False = _
            refine congrArg D.b (propext ⟨fun h => h.elim, fun h2 => ?_⟩)
            obtain ⟨n, hn, hcn⟩ := h2.2 m (List.mem_of_getElem? hm) c hmt
            exact hno n hn hcn
    · have hie : i = b.t.less.length := by omega
      subst hie
      rw [List.take_length] at hall
      (try (conv => whnf)); repeat' (first | refine Ok.seq ?_ | (refine Ok.region tok ?_; conv => whnf) | (refine Ok.region_draw tok follows (by kernel_rfl) ?_; conv => whnf) | (refine Ok.cond ?_; conv => whnf) | refine Ok.block ?_ | (refine Ok.skip ?_; conv => whnf) | (refine Ok.exit ?_; conv => whnf) | (refine Ok.ret ?_; conv => whnf) | (refine num_in (by omega) (by omega) ?_; conv => whnf) | (refine ix _ (by assumption) ?_; conv => whnf) | (refine ixI (by omega) (by assumption) ?_; conv => whnf) | (refine ix_new _ (by omega) fun _ _ => ?_; conv => whnf) | (refine ixI_new (by omega) (by omega) fun _ _ => ?_; conv => whnf) | (refine ⟨_, by assumption, ?_⟩; conv => whnf) | (refine Alt2.l (And.intro (by first | omega | (simp; done) | (simp; omega)) ?_); conv => whnf) | (refine Alt2.r (And.intro (by first | omega | (simp; done) | (simp; omega)) ?_); conv => whnf) | (refine Ok.scope ?_) | (refine Ok.label ?_; conv => whnf) | (refine rd rfl (by assumption) ?_; conv => whnf) | (refine ⟨_, .inl ⟨rfl, rfl⟩, ?_⟩; conv => whnf) | (refine ⟨_, _, rfl, rfl, ?_⟩; conv => whnf) | (refine ⟨fun _ => ?_, fun _ => ?_⟩ <;> (conv => whnf) <;> (try (exfalso; omega))) | (refine And.intro (by first | omega | rfl | (simp; done) | (simp; omega)) ?_; conv => whnf) | (refine num_any ?_; conv => whnf) | (refine ⟨_, rfl, ?_⟩; conv => whnf) | fail)
      refine Or.inl ?_; (conv => whnf)
      show D.b True = _
      exact congrArg D.b (propext ⟨fun _ => ⟨hin, hall⟩, fun _ => trivial⟩)
set_option maxRecDepth 100000 in
set_option maxHeartbeats 4000000 in
theorem greatestT_at (l : List TR) {rl room : List (List D)} (hl : l.length ≤ 1048576) (hok : ∀ x ∈ l, TN x) (h : rl = l.map trow) : FSpec Tryz.prog T 113 [.lst 112 rl room, .fn 114 [] []]
    (fun d rows => ∃ W : List TR, Kept covR l l.length W ∧ d = .own 0 (grG covR l).length ∧ rows = [some (112, W.map trow)]) := by
  subst h
  have hll : (l.map trow).length = l.length := by simp
  refine FSpec.of_ok tok Tryz.func113 rfl Tryz.call113 (by simp) ?_
  (try (conv => whnf)); repeat' (first | refine Ok.seq ?_ | (refine Ok.region tok ?_; conv => whnf) | (refine Ok.cond ?_; conv => whnf) | refine Ok.block ?_ | (refine Ok.skip ?_; conv => whnf) | (refine Ok.exit ?_; conv => whnf) | (refine Ok.ret ?_; conv => whnf) | (refine num_in (by omega) (by omega) ?_; conv => whnf) | (refine ix _ (by assumption) ?_; conv => whnf) | (refine ixI (by omega) (by assumption) ?_; conv => whnf) | (refine ix_new _ (by omega) fun _ _ => ?_; conv => whnf) | (refine ixI_new (by omega) (by omega) fun _ _ => ?_; conv => whnf) | (refine ⟨_, by assumption, ?_⟩; conv => whnf) | (refine Alt2.l (And.intro (by first | omega | (simp; done) | (simp; omega)) ?_); conv => whnf) | (refine Alt2.r (And.intro (by first | omega | (simp; done) | (simp; omega)) ?_); conv => whnf) | (refine Ok.scope ?_) | (refine Ok.label ?_; conv => whnf) | (refine rd rfl (by assumption) ?_; conv => whnf) | (refine ⟨_, .inl ⟨rfl, rfl⟩, ?_⟩; conv => whnf) | (refine ⟨_, _, rfl, rfl, ?_⟩; conv => whnf) | (refine ⟨fun _ => ?_, fun _ => ?_⟩ <;> (conv => whnf) <;> (try (exfalso; omega))) | (refine And.intro (by first | omega | rfl | (simp; done) | (simp; omega)) ?_; conv => whnf) | (refine num_any ?_; conv => whnf) | (refine ⟨_, rfl, ?_⟩; conv => whnf) | fail)
  refine Ok.ghost 5 112 rfl ?_
  (conv => whnf)
  refine Ok.loopU [1, 13, 14] [5, 15] 1 0 (fun (x : Nat × List TR) => [.own 0 (grG covR (l.take x.1)).length, .i .i64 (x.1 : Nat)]) (fun _ b => b) (fun (x : Nat × List TR) (_ : Vx.Rows) => [some (112, x.2.map trow)]) (fun (x : Nat × List TR) => Kept covR l x.1 x.2) (fun (x : Nat × List TR) => l.length - x.1) ((0, [])) (Kept.zero) ?_; (conv => whnf); refine ⟨by ((conv => whnf); first | rfl | (simp [envCat, List.take_of_length_le, cells9]; done) | (simp [envCat, List.take_of_length_le, cells9]; rw [IntKind.wrap_i64]; omega)), ?_⟩
  rintro ⟨i, W⟩ hK
  dsimp only at hK ⊢
  have hWl : (W.map trow).length = W.length := by simp
  have hKn := hK.n
  have hKw := hK.w
  have hKi := hK.le
  (conv => whnf)
  by_cases hil : i < l.length
  · obtain ⟨x, hx⟩ : ∃ x, l[i]? = some x := ⟨_, List.getElem?_eq_getElem hil⟩
    have hxo := hok x (List.mem_of_getElem? hx)
    have hmem : ∀ y ∈ grG covR (l.take i), TN y := fun y hy => hok y (List.take_subset _ _ (grG_sub covR _ y hy))
    (try (conv => whnf)); repeat' (first | refine Ok.seq ?_ | (refine Ok.region tok ?_; conv => whnf) | (refine Ok.region_draw tok follows (by kernel_rfl) ?_; conv => whnf) | (refine Ok.cond ?_; conv => whnf) | refine Ok.block ?_ | (refine Ok.skip ?_; conv => whnf) | (refine Ok.exit ?_; conv => whnf) | (refine Ok.ret ?_; conv => whnf) | (refine num_in (by omega) (by omega) ?_; conv => whnf) | (refine ix _ (by assumption) ?_; conv => whnf) | (refine ixI (by omega) (by assumption) ?_; conv => whnf) | (refine ix_new _ (by omega) fun _ _ => ?_; conv => whnf) | (refine ixI_new (by omega) (by omega) fun _ _ => ?_; conv => whnf) | (refine ⟨_, by assumption, ?_⟩; conv => whnf) | (refine Alt2.l (And.intro (by first | omega | (simp; done) | (simp; omega)) ?_); conv => whnf) | (refine Alt2.r (And.intro (by first | omega | (simp; done) | (simp; omega)) ?_); conv => whnf) | (refine Ok.scope ?_) | (refine Ok.label ?_; conv => whnf) | (refine rd rfl (by assumption) ?_; conv => whnf) | (refine ⟨_, .inl ⟨rfl, rfl⟩, ?_⟩; conv => whnf) | (refine ⟨_, _, rfl, rfl, ?_⟩; conv => whnf) | (refine ⟨fun _ => ?_, fun _ => ?_⟩ <;> (conv => whnf) <;> (try (exfalso; omega))) | (refine And.intro (by first | omega | rfl | (simp; done) | (simp; omega)) ?_; conv => whnf) | (refine num_any ?_; conv => whnf) | (refine ⟨_, rfl, ?_⟩; conv => whnf) | fail)
    generalize hKK : grG covR (l.take i) = K at *
    refine Ok.loopU [1, 5, 7, 13, 14, 15, 19, 20] [21] 1 1 (fun (j : Nat) => [.i .i64 (j : Nat)]) (fun _ b => b) (fun _ r => r) (fun (j : Nat) => j ≤ K.length ∧ ∀ y ∈ K.take j, ¬ covR x y) (fun (j : Nat) => K.length - j) (0) (⟨Nat.zero_le _, by simp⟩) ?_; (conv => whnf); refine ⟨by ((conv => whnf); first | rfl | (simp [envCat, List.take_of_length_le, cells9]; done) | (simp [envCat, List.take_of_length_le, cells9]; rw [IntKind.wrap_i64]; omega)), ?_⟩
    rintro j ⟨hj, hno⟩
    (conv => whnf)
    by_cases hjl : j < K.length
    · obtain ⟨y, hy⟩ : ∃ y, K[j]? = some y := ⟨_, List.getElem?_eq_getElem hjl⟩
      have hyo := hmem y (List.mem_of_getElem? hy)
      have hWj : W[((j : Nat) : Int).toNat]? = some y := by
        have := hK.get (j := j) (by rw [hKK]; exact hjl)
        rw [hKK, hy] at this
        exact this
      (try (conv => whnf)); repeat' (first | refine Ok.seq ?_ | (refine Ok.region tok ?_; conv => whnf) | (refine Ok.region_draw tok follows (by kernel_rfl) ?_; conv => whnf) | (refine Ok.cond ?_; conv => whnf) | refine Ok.block ?_ | (refine Ok.skip ?_; conv => whnf) | (refine Ok.exit ?_; conv => whnf) | (refine Ok.ret ?_; conv => whnf) | (refine num_in (by omega) (by omega) ?_; conv => whnf) | (refine ix _ (by assumption) ?_; conv => whnf) | (refine ixI (by omega) (by assumption) ?_; conv => whnf) | (refine ix_new _ (by omega) fun _ _ => ?_; conv => whnf) | (refine ixI_new (by omega) (by omega) fun _ _ => ?_; conv => whnf) | (refine ⟨_, by assumption, ?_⟩; conv => whnf) | (refine Or.inl ?_; (conv => whnf); (repeat (refine And.intro (by first | omega | (simp; done) | (simp; omega)) ?_; (conv => whnf))); refine ⟨_, covered_at hxo hyo, rfl, ?_⟩; conv => whnf) | (refine ⟨_, covered_at hxo hyo, rfl, ?_⟩; conv => whnf) | (refine Or.inr (Or.inl ?_); (conv => whnf); (repeat (refine And.intro (by first | omega | (simp; done) | (simp; omega)) ?_; (conv => whnf))); refine ⟨_, covered_at hxo hyo, ?_⟩; rintro _ _ ⟨rfl, rfl⟩; conv => whnf) | (refine Alt2.l (And.intro (by first | omega | (simp; done) | (simp; omega)) ?_); conv => whnf) | (refine Alt2.r (And.intro (by first | omega | (simp; done) | (simp; omega)) ?_); conv => whnf) | (refine Ok.scope ?_) | (refine Ok.label ?_; conv => whnf) | (refine rd rfl (by assumption) ?_; conv => whnf) | (refine ⟨_, .inl ⟨rfl, rfl⟩, ?_⟩; conv => whnf) | (refine ⟨_, _, rfl, rfl, ?_⟩; conv => whnf) | (refine ⟨fun _ => ?_, fun _ => ?_⟩ <;> (conv => whnf) <;> (try (exfalso; omega))) | (refine And.intro (by first | omega | rfl | (simp; done) | (simp; omega)) ?_; conv => whnf) | (refine num_any ?_; conv => whnf) | (refine ⟨_, rfl, ?_⟩; conv => whnf) | fail)
      · rename_i hxy
        have hin : ∃ y ∈ grG covR (l.take i), covR x y := ⟨y, by rw [hKK]; exact List.mem_of_getElem? hy, hxy⟩
        obtain ⟨hs, he⟩ := hK.skip hx hin
        refine ⟨(i + 1, W), by dsimp only; omega, hs, ?_⟩
        dsimp only
        rw [he, hKK]
        (conv => whnf)
        rfl
      · rename_i hxy
        refine ⟨j + 1, by omega, ⟨by omega, fun z hz => ?_⟩, ?_⟩
        · rw [List.take_add_one, hy] at hz
          rcases List.mem_append.1 hz with hz | hz
          · exact hno z hz
          · simp at hz; rw [hz]; exact hxy
        · (conv => whnf)
          rfl
    · have hje : j = K.length := by omega
      subst hje
      rw [List.take_length] at hno
      (try (conv => whnf)); repeat' (first | refine Ok.seq ?_ | (refine Ok.region tok ?_; conv => whnf) | (refine Ok.region_draw tok follows (by kernel_rfl) ?_; conv => whnf) | (refine Ok.cond ?_; conv => whnf) | refine Ok.block ?_ | (refine Ok.skip ?_; conv => whnf) | (refine Ok.exit ?_; conv => whnf) | (refine Ok.ret ?_; conv => whnf) | (refine num_in (by omega) (by omega) ?_; conv => whnf) | (refine ix _ (by assumption) ?_; conv => whnf) | (refine ixI (by omega) (by assumption) ?_; conv => whnf) | (refine ix_new _ (by omega) fun _ _ => ?_; conv => whnf) | (refine ixI_new (by omega) (by omega) fun _ _ => ?_; conv => whnf) | (refine ⟨_, by assumption, ?_⟩; conv => whnf) | (refine Alt2.l (And.intro (by first | omega | (simp; done) | (simp; omega)) ?_); conv => whnf) | (refine Alt2.r (And.intro (by first | omega | (simp; done) | (simp; omega)) ?_); conv => whnf) | (refine Ok.scope ?_) | (refine Ok.label ?_; conv => whnf) | (refine rd rfl (by assumption) ?_; conv => whnf) | (refine ⟨_, .inl ⟨rfl, rfl⟩, ?_⟩; conv => whnf) | (refine ⟨_, _, rfl, rfl, ?_⟩; conv => whnf) | (refine ⟨fun _ => ?_, fun _ => ?_⟩ <;> (conv => whnf) <;> (try (exfalso; omega))) | (refine And.intro (by first | omega | rfl | (simp; done) | (simp; omega)) ?_; conv => whnf) | (refine num_any ?_; conv => whnf) | (refine ⟨_, rfl, ?_⟩; conv => whnf) | fail)
      refine ⟨0, rfl, rfl, by omega, ?_⟩
      (try (conv => whnf)); repeat' (first | refine Ok.seq ?_ | (refine Ok.region tok ?_; conv => whnf) | (refine Ok.region_draw tok follows (by kernel_rfl) ?_; conv => whnf) | (refine Ok.cond ?_; conv => whnf) | refine Ok.block ?_ | (refine Ok.skip ?_; conv => whnf) | (refine Ok.exit ?_; conv => whnf) | (refine Ok.ret ?_; conv => whnf) | (refine num_in (by omega) (by omega) ?_; conv => whnf) | (refine ix _ (by assumption) ?_; conv => whnf) | (refine ixI (by omega) (by assumption) ?_; conv => whnf) | (refine ix_new _ (by omega) fun _ _ => ?_; conv => whnf) | (refine ixI_new (by omega) (by omega) fun _ _ => ?_; conv => whnf) | (refine ⟨_, by assumption, ?_⟩; conv => whnf) | (refine Alt2.l (And.intro (by first | omega | (simp; done) | (simp; omega)) ?_); conv => whnf) | (refine Alt2.r (And.intro (by first | omega | (simp; done) | (simp; omega)) ?_); conv => whnf) | (refine Ok.scope ?_) | (refine Ok.label ?_; conv => whnf) | (refine rd rfl (by assumption) ?_; conv => whnf) | (refine ⟨_, .inl ⟨rfl, rfl⟩, ?_⟩; conv => whnf) | (refine ⟨_, _, rfl, rfl, ?_⟩; conv => whnf) | (refine ⟨fun _ => ?_, fun _ => ?_⟩ <;> (conv => whnf) <;> (try (exfalso; omega))) | (refine And.intro (by first | omega | rfl | (simp; done) | (simp; omega)) ?_; conv => whnf) | (refine num_any ?_; conv => whnf) | (refine ⟨_, rfl, ?_⟩; conv => whnf) | fail)
      refine Ok.loopU [1, 7, 13, 14, 15, 32, 33] [10, 34] 1 1 (fun (z : Nat × List TR) => [.own 0 (leftOf covR K x z.1).length, .i .i64 (z.1 : Nat)]) (fun _ b => b) (fun (z : Nat × List TR) (_ : Vx.Rows) => [some (112, z.2.map trow)]) (fun (z : Nat × List TR) => Mid covR K x W z.1 z.2) (fun (z : Nat × List TR) => K.length - z.1) ((0, W)) (Mid.zero) ?_; (conv => whnf); refine ⟨by ((conv => whnf); first | rfl | (simp [envCat, List.take_of_length_le, cells9]; done) | (simp [envCat, List.take_of_length_le, cells9]; rw [IntKind.wrap_i64]; omega)), ?_⟩
      rintro ⟨k, W'⟩ hM
      dsimp only at hM ⊢
      have hMk := hM.le
      have hMl := hM.len
      have hWl' : (W'.map trow).length = W'.length := by simp
      have hkept : W.take K.length = K := by
        have := hK.tk
        rw [hKK] at this
        exact this
      (conv => whnf)
      by_cases hkl : k < K.length
      · obtain ⟨y, hy⟩ : ∃ y, K[k]? = some y := ⟨_, List.getElem?_eq_getElem hkl⟩
        have hyo := hmem y (List.mem_of_getElem? hy)
        have hWj : W'[((k : Nat) : Int).toNat]? = some y := by
          rw [toNat_cast, hM.get hkept hkl, hy]
        by_cases hyx : covR y x
        · obtain ⟨hd, he⟩ := hM.drop hy hyx
          (try (conv => whnf)); repeat' (first | refine Ok.seq ?_ | (refine Ok.region tok ?_; conv => whnf) | (refine Ok.region_draw tok follows (by kernel_rfl) ?_; conv => whnf) | (refine Ok.cond ?_; conv => whnf) | refine Ok.block ?_ | (refine Ok.skip ?_; conv => whnf) | (refine Ok.exit ?_; conv => whnf) | (refine Ok.ret ?_; conv => whnf) | (refine num_in (by omega) (by omega) ?_; conv => whnf) | (refine ix _ (by assumption) ?_; conv => whnf) | (refine ixI (by omega) (by assumption) ?_; conv => whnf) | (refine ix_new _ (by omega) fun _ _ => ?_; conv => whnf) | (refine ixI_new (by omega) (by omega) fun _ _ => ?_; conv => whnf) | (refine ⟨_, by assumption, ?_⟩; conv => whnf) | (refine Or.inl ?_; (conv => whnf); (repeat (refine And.intro (by first | omega | (simp; done) | (simp; omega)) ?_; (conv => whnf))); refine ⟨_, covered_at hyo hxo, rfl, ?_⟩; conv => whnf) | (refine ⟨_, covered_at hyo hxo, rfl, ?_⟩; conv => whnf) | (refine Or.inr (Or.inl ?_); (conv => whnf); (repeat (refine And.intro (by first | omega | (simp; done) | (simp; omega)) ?_; (conv => whnf))); refine ⟨_, covered_at hyo hxo, ?_⟩; rintro _ _ ⟨rfl, rfl⟩; conv => whnf) | (refine Alt2.l (And.intro (by first | omega | (simp; done) | (simp; omega)) ?_); conv => whnf) | (refine Alt2.r (And.intro (by first | omega | (simp; done) | (simp; omega)) ?_); conv => whnf) | (refine Ok.scope ?_) | (refine Ok.label ?_; conv => whnf) | (refine rd rfl (by assumption) ?_; conv => whnf) | (refine ⟨_, .inl ⟨rfl, rfl⟩, ?_⟩; conv => whnf) | (refine ⟨_, _, rfl, rfl, ?_⟩; conv => whnf) | (refine ⟨fun _ => ?_, fun _ => ?_⟩ <;> (conv => whnf) <;> (try (exfalso; omega))) | (refine And.intro (by first | omega | rfl | (simp; done) | (simp; omega)) ?_; conv => whnf) | (refine num_any ?_; conv => whnf) | (refine ⟨_, rfl, ?_⟩; conv => whnf) | fail)
          · exact absurd hyx (by assumption)
          · refine ⟨(k + 1, W'), by dsimp only; omega, hd, ?_⟩
            dsimp only
            rw [he]
            (conv => whnf)
            rfl
        · obtain ⟨hd, he, hlt⟩ := hM.keep hKn hy hyx
          have hlt2 : (leftOf covR K x k).length < (W'.map trow).length := by omega
          have hnle : ¬ (leftOf covR K x k).length = (W'.map trow).length := by omega
          (try (conv => whnf)); repeat' (first | refine Ok.seq ?_ | (refine Ok.region tok ?_; conv => whnf) | (refine Ok.region_draw tok follows (by kernel_rfl) ?_; conv => whnf) | (refine Ok.cond ?_; conv => whnf) | refine Ok.block ?_ | (refine Ok.skip ?_; conv => whnf) | (refine Ok.exit ?_; conv => whnf) | (refine Ok.ret ?_; conv => whnf) | (refine num_in (by omega) (by omega) ?_; conv => whnf) | (refine ix _ (by assumption) ?_; conv => whnf) | (refine ixI (by omega) (by assumption) ?_; conv => whnf) | (refine ix_new _ (by omega) fun _ _ => ?_; conv => whnf) | (refine ixI_new (by omega) (by omega) fun _ _ => ?_; conv => whnf) | (refine ⟨_, by assumption, ?_⟩; conv => whnf) | (refine Or.inl ?_; (conv => whnf); (repeat (refine And.intro (by first | omega | (simp; done) | (simp; omega)) ?_; (conv => whnf))); refine ⟨_, covered_at hyo hxo, rfl, ?_⟩; conv => whnf) | (refine ⟨_, covered_at hyo hxo, rfl, ?_⟩; conv => whnf) | (refine Or.inr (Or.inl ?_); (conv => whnf); (repeat (refine And.intro (by first | omega | (simp; done) | (simp; omega)) ?_; (conv => whnf))); refine ⟨_, covered_at hyo hxo, ?_⟩; rintro _ _ ⟨rfl, rfl⟩; conv => whnf) | (refine Alt2.l (And.intro (by first | omega | (simp; done) | (simp; omega)) ?_); conv => whnf) | (refine Alt2.r (And.intro (by first | omega | (simp; done) | (simp; omega)) ?_); conv => whnf) | (refine Ok.scope ?_) | (refine Ok.label ?_; conv => whnf) | (refine rd rfl (by assumption) ?_; conv => whnf) | (refine ⟨_, .inl ⟨rfl, rfl⟩, ?_⟩; conv => whnf) | (refine ⟨_, _, rfl, rfl, ?_⟩; conv => whnf) | (refine ⟨fun _ => ?_, fun _ => ?_⟩ <;> (conv => whnf) <;> (try (exfalso; omega))) | (refine And.intro (by first | omega | rfl | (simp; done) | (simp; omega)) ?_; conv => whnf) | (refine num_any ?_; conv => whnf) | (refine ⟨_, rfl, ?_⟩; conv => whnf) | fail)
          · refine ⟨(k + 1, W'.set (leftOf covR K x k).length y), by dsimp only; omega, hd, ?_⟩
            dsimp only
            rw [he, List.length_append, List.map_set]
            (conv => whnf)
            rfl
          · rename_i hh
            exact absurd hyx hh
      · have hke : k = K.length := by omega
        subst hke
        obtain ⟨se, sl, sg⟩ := hK.step hx (by rw [hKK]; exact hno) (by rw [hKK]; exact hM)
        rw [hKK] at se sl sg
        by_cases hm : (leftOf covR K x K.length).length = W'.length
        · have hm2 : (leftOf covR K x K.length).length = (W'.map trow).length := by omega
          (try (conv => whnf)); repeat' (first | refine Ok.seq ?_ | (refine Ok.region tok ?_; conv => whnf) | (refine Ok.region_draw tok follows (by kernel_rfl) ?_; conv => whnf) | (refine Ok.cond ?_; conv => whnf) | refine Ok.block ?_ | (refine Ok.skip ?_; conv => whnf) | (refine Ok.exit ?_; conv => whnf) | (refine Ok.ret ?_; conv => whnf) | (refine num_in (by omega) (by omega) ?_; conv => whnf) | (refine ix _ (by assumption) ?_; conv => whnf) | (refine ixI (by omega) (by assumption) ?_; conv => whnf) | (refine ix_new _ (by omega) fun _ _ => ?_; conv => whnf) | (refine ixI_new (by omega) (by omega) fun _ _ => ?_; conv => whnf) | (refine ⟨_, by assumption, ?_⟩; conv => whnf) | (refine Alt2.l (And.intro (by first | omega | (simp; done) | (simp; omega)) ?_); conv => whnf) | (refine Alt2.r (And.intro (by first | omega | (simp; done) | (simp; omega)) ?_); conv => whnf) | (refine Ok.scope ?_) | (refine Ok.label ?_; conv => whnf) | (refine rd rfl (by assumption) ?_; conv => whnf) | (refine ⟨_, .inl ⟨rfl, rfl⟩, ?_⟩; conv => whnf) | (refine ⟨_, _, rfl, rfl, ?_⟩; conv => whnf) | (refine ⟨fun _ => ?_, fun _ => ?_⟩ <;> (conv => whnf) <;> (try (exfalso; omega))) | (refine And.intro (by first | omega | rfl | (simp; done) | (simp; omega)) ?_; conv => whnf) | (refine num_any ?_; conv => whnf) | (refine ⟨_, rfl, ?_⟩; conv => whnf) | fail)
          refine ⟨(i + 1, W' ++ [x]), by dsimp only; omega, sg hm, ?_⟩
          dsimp only
          rw [se, List.map_append]
          (conv => whnf)
          simp [envCat, hm]
        · have hle2 := hM.tk
          have hlt : (leftOf covR K x K.length).length < W'.length := by
            have := congrArg List.length hM.tk
            rw [List.length_take] at this
            omega
          have hlt2 : (leftOf covR K x K.length).length < (W'.map trow).length := by omega
          (try (conv => whnf)); repeat' (first | refine Ok.seq ?_ | (refine Ok.region tok ?_; conv => whnf) | (refine Ok.region_draw tok follows (by kernel_rfl) ?_; conv => whnf) | (refine Ok.cond ?_; conv => whnf) | refine Ok.block ?_ | (refine Ok.skip ?_; conv => whnf) | (refine Ok.exit ?_; conv => whnf) | (refine Ok.ret ?_; conv => whnf) | (refine num_in (by omega) (by omega) ?_; conv => whnf) | (refine ix _ (by assumption) ?_; conv => whnf) | (refine ixI (by omega) (by assumption) ?_; conv => whnf) | (refine ix_new _ (by omega) fun _ _ => ?_; conv => whnf) | (refine ixI_new (by omega) (by omega) fun _ _ => ?_; conv => whnf) | (refine ⟨_, by assumption, ?_⟩; conv => whnf) | (refine Alt2.l (And.intro (by first | omega | (simp; done) | (simp; omega)) ?_); conv => whnf) | (refine Alt2.r (And.intro (by first | omega | (simp; done) | (simp; omega)) ?_); conv => whnf) | (refine Ok.scope ?_) | (refine Ok.label ?_; conv => whnf) | (refine rd rfl (by assumption) ?_; conv => whnf) | (refine ⟨_, .inl ⟨rfl, rfl⟩, ?_⟩; conv => whnf) | (refine ⟨_, _, rfl, rfl, ?_⟩; conv => whnf) | (refine ⟨fun _ => ?_, fun _ => ?_⟩ <;> (conv => whnf) <;> (try (exfalso; omega))) | (refine And.intro (by first | omega | rfl | (simp; done) | (simp; omega)) ?_; conv => whnf) | (refine num_any ?_; conv => whnf) | (refine ⟨_, rfl, ?_⟩; conv => whnf) | fail)
          refine ⟨(i + 1, W'.set (leftOf covR K x K.length).length x), by dsimp only; omega, sl hlt, ?_⟩
          dsimp only
          rw [se, List.length_append, List.map_set]
          (conv => whnf)
          rfl
  · have hie : i = l.length := by omega
    subst hie
    rw [List.take_length] at *
    (try (conv => whnf)); repeat' (first | refine Ok.seq ?_ | (refine Ok.region tok ?_; conv => whnf) | (refine Ok.region_draw tok follows (by kernel_rfl) ?_; conv => whnf) | (refine Ok.cond ?_; conv => whnf) | refine Ok.block ?_ | (refine Ok.skip ?_; conv => whnf) | (refine Ok.exit ?_; conv => whnf) | (refine Ok.ret ?_; conv => whnf) | (refine num_in (by omega) (by omega) ?_; conv => whnf) | (refine ix _ (by assumption) ?_; conv => whnf) | (refine ixI (by omega) (by assumption) ?_; conv => whnf) | (refine ix_new _ (by omega) fun _ _ => ?_; conv => whnf) | (refine ixI_new (by omega) (by omega) fun _ _ => ?_; conv => whnf) | (refine ⟨_, by assumption, ?_⟩; conv => whnf) | (refine Alt2.l (And.intro (by first | omega | (simp; done) | (simp; omega)) ?_); conv => whnf) | (refine Alt2.r (And.intro (by first | omega | (simp; done) | (simp; omega)) ?_); conv => whnf) | (refine Ok.scope ?_) | (refine Ok.label ?_; conv => whnf) | (refine rd rfl (by assumption) ?_; conv => whnf) | (refine ⟨_, .inl ⟨rfl, rfl⟩, ?_⟩; conv => whnf) | (refine ⟨_, _, rfl, rfl, ?_⟩; conv => whnf) | (refine ⟨fun _ => ?_, fun _ => ?_⟩ <;> (conv => whnf) <;> (try (exfalso; omega))) | (refine And.intro (by first | omega | rfl | (simp; done) | (simp; omega)) ?_; conv => whnf) | (refine num_any ?_; conv => whnf) | (refine ⟨_, rfl, ?_⟩; conv => whnf) | fail)
    refine Or.inr (Or.inl ?_); (conv => whnf)
    exact ⟨W, hK, rfl, rfl⟩
end Go.Proofs.YtaiondckookpiaaGreatDoor
/- Facts of the library at this program: sort.Slice, strings.Builder. -/
namespace Go.Proofs.YtaiondckookpiaaGreatDoor
open Go Go.Vx Go.Shelf Go.RowKit Go.Lib Go.Sort
theorem bExtra : Builder.Extra Tryz.prog Tryz.vxStr_ren where
  sizeBuilder := by kernel_rfl
  liesBuilder := by kernel_rfl
  t5 := by kernel_rfl
  a5 := fun _ => by kernel_rfl
  z5 := fun _ => by kernel_rfl
  v5 := fun _ => by kernel_rfl
  infoByte := by kernel_rfl
  cellsByte := by kernel_rfl
  sizeByte := by kernel_rfl
  neB5 := by decide
theorem strAt : StrC Tryz.prog 111 5 := strC Tryz.vxStr bExtra Tryz.call111
theorem bSize : ∃ j, Tryz.prog.info? 146 = some j ∧ j.size = 2 := Option.map_eq_some_iff.1 (by kernel_rfl : (Tryz.prog.info? 146).map (·.size) = some 2)
theorem bPtr : Tryz.prog.underlying 144 = some (.pointer 146) := by kernel_rfl
theorem bUns : Tryz.prog.underlying 172 = some .unsafePointer := by kernel_rfl
theorem bLies : liesAt Tryz.prog Tryz.prog.depth 146 (2 / Tryz.prog.cellsOf 146) 0 146 1 = true := by kernel_rfl
set_option maxHeartbeats 1000000 in
set_option maxRecDepth 100000 in
theorem copy_used (b : Nat) (w : World) (h0 : w.cell? ⟨b, 0, none⟩ = some (.pointer (some ⟨b, 0, none⟩))) :
    Calls Tryz.prog 132 #[.pointer (some ⟨b, 0, none⟩)] w fun e w' => e = .returned (.tuple #[]) ∧ w' = w := by
  obtain ⟨j, hj, hjs⟩ := bSize
  go_enter Tryz.func132, Tryz.ntmps132
  go_wp2
  rw [Lib.run_neq_ptr_same w _ bPtr hj]
  go_wp2
  go_end0
  exact ⟨rfl, rfl⟩
set_option maxHeartbeats 1000000 in
set_option maxRecDepth 100000 in
theorem copy_fresh (b : Nat) (w : World) (h0 : w.cell? ⟨b, 0, none⟩ = some (.pointer none)) (hsh : w.shape? b = some (146, 2)) (hfz : w.frozen? ⟨b, 0, none⟩ = false) :
    Calls Tryz.prog 132 #[.pointer (some ⟨b, 0, none⟩)] w fun e w' => e = .returned (.tuple #[]) ∧ w' = w.setCell ⟨b, 0, none⟩ (.pointer (some ⟨b, 0, none⟩)) := by
  obtain ⟨j, hj, hjs⟩ := bSize
  go_enter Tryz.func132, Tryz.ntmps132
  go_wp2
  rw [Lib.run_to_unsafe w ⟨b, 0, none⟩ bPtr bUns hj (by rw [hjs]; decide) hsh (Nat.zero_lt_succ 1)]
  simp only [Result.andThen]
  rw [Oper.upon_value]
  go_wp2
  rw [run_callFunc_extern Tryz.func144 (by kernel_rfl) (by kernel_rfl) (by kernel_rfl) (e := Extern.AbiNoEscape.same) (by kernel_rfl)]
  rw [Lib.run_noEscape]
  simp only [Result.andThen]
  rw [Oper.upon_value]
  go_wp2
  rw [Lib.run_from_unsafe w ⟨b, 0, none⟩ bUns bPtr hj hsh bLies]
  simp only [Result.andThen]
  rw [Oper.upon_value]
  go_wp2
  go_end0
  exact ⟨rfl, rfl⟩
theorem copyAt : CopyC Tryz.prog 132 146 := ⟨Tryz.call132, copy_fresh, copy_used⟩
/-! ### sort.Slice -/
theorem swo_bytes {α : Type} (key : α → List UInt8) : SWO (fun x y : α => Op.bytesLess (key x) (key y)) where
  irrefl := fun x => by
    cases h : Op.bytesLess (key x) (key x) with
    | false => rfl
    | true => exact absurd h (bl_irrefl _)
  trans := fun x y z h k => bl_trans h k
  ntrans := fun x y z h k => by
    cases h2 : Op.bytesLess (key x) (key z) with
    | false => rfl
    | true =>
      exfalso
      by_cases e : key x = key y
      · rw [e, k] at h2; cases h2
      · rcases bl_total e with q | q
        · rw [h] at q; cases q
        · have := bl_trans q h2
          rw [k] at this
          cases this
set_option maxHeartbeats 2000000 in
theorem less_told (blk c Bs size : Nat) (W : World) (G : Nat → List UInt8) (hs : W.cell? ⟨Bs, 0, none⟩ = some (.slice (some ⟨blk, 0, none⟩) size c))
    (hc : ∀ t, t < size → W.cell? ⟨blk, 0 + (t * 10 + 9), none⟩ = some (.string (bstr (G t)))) (i j : Nat) (hi : i < size) (hj : j < size) (_hsz : size < 4611686018427387904) :
    Calls Tryz.prog 122 #[.int .i64 i, .int .i64 j, .pointer (some ⟨Bs, 0, none⟩)] W fun e w' => e = .returned (.bool (Op.bytesLess (G i) (G j))) ∧ ∃ q, w' = W.drewN q := by
  have ci := hc i hi
  have cj := hc j hj
  rw [Nat.zero_add] at ci cj
  go_enter Tryz.func122, Tryz.ntmps122
  go_wp2
  go_quiet (fail)
  go_wp2
  go_ret
  refine ⟨?_, nq, rfl⟩
  show Ending.returned (.bool (Op.bytesLess (bstr (G i)).toList (bstr (G j)).toList)) = _
  rw [bstr_toList, bstr_toList]
noncomputable def sitoldT : TypeInfo := (Tryz.prog.info? 162).get (by kernel_rfl)
noncomputable def sitoldE : TypeInfo := (Tryz.prog.info? 164).get (by kernel_rfl)
theorem sitoldK (n : Nat) (h2 : 2 ≤ n) : Lib.swapperK n sitoldE 25 = 9 := by
  have a : sitoldE.hasPointers = true := by kernel_rfl
  have b : (sitoldE.bytes == 8) = false := by kernel_rfl
  have c : (n == 0) = false := by simp; omega
  have d : (n == 1) = false := by simp; omega
  simp [Lib.swapperK, a, b, c, d]
set_option maxHeartbeats 2000000 in
theorem sort_told : SortC Tryz.prog 115 162 10 9 122 where
  call := Tryz.call115
  conc := by kernel_rfl
  big := fun α _ enc key hk h1 hkey blk c Bs d h2 hsz w hH hblk hBs hB1 hB2 => by
    have hless : LessReadsK Tryz.prog 122 #[.pointer (some ⟨Bs, 0, none⟩)] enc 10 (fun x y => Op.bytesLess (key x) (key y)) blk 0 d.size w := by
      intro m os dk hs i j hi hj
      have e : sortWorldK enc 10 w blk 0 m dk os = putRowK enc 10 (grow (Sort.ahead w m) os) blk 0 dk := by
        unfold sortWorldK; rw [putRowK_grow _ _ (Sort.ahead w m) _ blk 0 _ hblk]
      have hHg : HoldsK enc 10 (grow (Sort.ahead w m) os) blk 0 d := holdsK_grow _ _ _ _ blk 0 d hblk (holdsK_ahead _ _ _ _ _ _ _ hH)
      refine less_told blk c Bs d.size _ (fun t => key dk[t]!) ?_ (fun t ht => ?_) i j hi hj (by omega)
      · rw [e, cell?_putRowK_other _ _ _ blk 0 dk _ (by exact hB2), cell?_grow _ _ _ (by exact hB1)]; exact hBs
      · rw [e]
        have h3 := ((holdsK_putRowK _ _ _ blk 0 d dk hHg hs).cell (i := t) (c := 9) (by omega) (by omega)).1
        refine h3.trans ?_
        exact congrArg some (List.getElem!_of_getElem? (hkey dk[t]!))
    exact Any.sort_Slice_cells_sorted Tryz.vxSort 162 164 sitoldT sitoldE (by kernel_rfl) (by kernel_rfl) (by kernel_rfl) (by kernel_rfl) 25 (fun _ => by kernel_rfl) enc 10 hk (by kernel_rfl) (fun _ => by kernel_rfl)
      h1 _ (swo_bytes key) 122 _
      (enters_of Tryz.func122 (by kernel_rfl) rfl) blk 0 c d h2 hsz 153 (by rw [sitoldK _ h2]; kernel_rfl) false
      (fun args W => run_callFunc_extern Tryz.func153 (by kernel_rfl) (by kernel_rfl) (by kernel_rfl) (e := Extern.ReflectliteSwapper.swap false) (by kernel_rfl) args W) w hless hH hblk
  tiny := fun p n c lb w h1 => by
    rcases Nat.eq_zero_or_pos n with h | h
    · subst h
      exact Any.sort_Slice_tiny Tryz.vxSort 162 164 sitoldT sitoldE (by kernel_rfl) (by kernel_rfl) (by kernel_rfl) (by kernel_rfl) 25 (fun _ => by kernel_rfl) p 0 c h1 145 (by kernel_rfl) (.func 122) #[] lb w
    · obtain rfl : n = 1 := by omega
      exact Any.sort_Slice_tiny Tryz.vxSort 162 164 sitoldT sitoldE (by kernel_rfl) (by kernel_rfl) (by kernel_rfl) (by kernel_rfl) 25 (fun _ => by kernel_rfl) p 1 c h1 146 (by kernel_rfl) (.func 122) #[] lb w
set_option maxHeartbeats 2000000 in
theorem less_term (blk c Bs size : Nat) (W : World) (G : Nat → List UInt8) (hs : W.cell? ⟨Bs, 0, none⟩ = some (.slice (some ⟨blk, 0, none⟩) size c))
    (hc : ∀ t, t < size → W.cell? ⟨blk, 0 + (t * 11 + 10), none⟩ = some (.string (bstr (G t)))) (i j : Nat) (hi : i < size) (hj : j < size) (_hsz : size < 4611686018427387904) :
    Calls Tryz.prog 116 #[.int .i64 i, .int .i64 j, .pointer (some ⟨Bs, 0, none⟩)] W fun e w' => e = .returned (.bool (Op.bytesLess (G i) (G j))) ∧ ∃ q, w' = W.drewN q := by
  have ci := hc i hi
  have cj := hc j hj
  rw [Nat.zero_add] at ci cj
  go_enter Tryz.func116, Tryz.ntmps116
  go_wp2
  go_quiet (fail)
  go_wp2
  go_ret
  refine ⟨?_, nq, rfl⟩
  show Ending.returned (.bool (Op.bytesLess (bstr (G i)).toList (bstr (G j)).toList)) = _
  rw [bstr_toList, bstr_toList]
noncomputable def sitermT : TypeInfo := (Tryz.prog.info? 22).get (by kernel_rfl)
noncomputable def sitermE : TypeInfo := (Tryz.prog.info? 112).get (by kernel_rfl)
theorem sitermK (n : Nat) (h2 : 2 ≤ n) : Lib.swapperK n sitermE 25 = 9 := by
  have a : sitermE.hasPointers = true := by kernel_rfl
  have b : (sitermE.bytes == 8) = false := by kernel_rfl
  have c : (n == 0) = false := by simp; omega
  have d : (n == 1) = false := by simp; omega
  simp [Lib.swapperK, a, b, c, d]
set_option maxHeartbeats 2000000 in
theorem sort_term : SortC Tryz.prog 115 22 11 10 116 where
  call := Tryz.call115
  conc := by kernel_rfl
  big := fun α _ enc key hk h1 hkey blk c Bs d h2 hsz w hH hblk hBs hB1 hB2 => by
    have hless : LessReadsK Tryz.prog 116 #[.pointer (some ⟨Bs, 0, none⟩)] enc 11 (fun x y => Op.bytesLess (key x) (key y)) blk 0 d.size w := by
      intro m os dk hs i j hi hj
      have e : sortWorldK enc 11 w blk 0 m dk os = putRowK enc 11 (grow (Sort.ahead w m) os) blk 0 dk := by
        unfold sortWorldK; rw [putRowK_grow _ _ (Sort.ahead w m) _ blk 0 _ hblk]
      have hHg : HoldsK enc 11 (grow (Sort.ahead w m) os) blk 0 d := holdsK_grow _ _ _ _ blk 0 d hblk (holdsK_ahead _ _ _ _ _ _ _ hH)
      refine less_term blk c Bs d.size _ (fun t => key dk[t]!) ?_ (fun t ht => ?_) i j hi hj (by omega)
      · rw [e, cell?_putRowK_other _ _ _ blk 0 dk _ (by exact hB2), cell?_grow _ _ _ (by exact hB1)]; exact hBs
      · rw [e]
        have h3 := ((holdsK_putRowK _ _ _ blk 0 d dk hHg hs).cell (i := t) (c := 10) (by omega) (by omega)).1
        refine h3.trans ?_
        exact congrArg some (List.getElem!_of_getElem? (hkey dk[t]!))
    exact Any.sort_Slice_cells_sorted Tryz.vxSort 22 112 sitermT sitermE (by kernel_rfl) (by kernel_rfl) (by kernel_rfl) (by kernel_rfl) 25 (fun _ => by kernel_rfl) enc 11 hk (by kernel_rfl) (fun _ => by kernel_rfl)
      h1 _ (swo_bytes key) 116 _
      (enters_of Tryz.func116 (by kernel_rfl) rfl) blk 0 c d h2 hsz 153 (by rw [sitermK _ h2]; kernel_rfl) false
      (fun args W => run_callFunc_extern Tryz.func153 (by kernel_rfl) (by kernel_rfl) (by kernel_rfl) (e := Extern.ReflectliteSwapper.swap false) (by kernel_rfl) args W) w hless hH hblk
  tiny := fun p n c lb w h1 => by
    rcases Nat.eq_zero_or_pos n with h | h
    · subst h
      exact Any.sort_Slice_tiny Tryz.vxSort 22 112 sitermT sitermE (by kernel_rfl) (by kernel_rfl) (by kernel_rfl) (by kernel_rfl) 25 (fun _ => by kernel_rfl) p 0 c h1 145 (by kernel_rfl) (.func 116) #[] lb w
    · obtain rfl : n = 1 := by omega
      exact Any.sort_Slice_tiny Tryz.vxSort 22 112 sitermT sitermE (by kernel_rfl) (by kernel_rfl) (by kernel_rfl) (by kernel_rfl) 25 (fun _ => by kernel_rfl) p 1 c h1 146 (by kernel_rfl) (.func 116) #[] lb w
end Go.Proofs.YtaiondckookpiaaGreatDoor
