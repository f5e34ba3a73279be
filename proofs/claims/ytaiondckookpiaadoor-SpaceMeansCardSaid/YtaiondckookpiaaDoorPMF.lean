/- The walks and the plain laws that a law of spaces needs, part 6 of 6. -/
import Derived.Test.YtaiondckookpiaaDoorPME
set_option linter.unusedVariables false
set_option linter.unusedSimpArgs false
namespace Go.Proofs.YtaiondckookpiaaDoor
open Go Go.Vx
set_option maxRecDepth 100000 in
set_option maxHeartbeats 16000000 in
theorem meansLaw_at (n : Int) (a b : Str) (given room : List Str) : FSpec Tryd.prog T 7 [.i .i64 n, .s a, .s b, .lst 9 (given.map srow) (room.map srow)] (fun r _ => r = .b True) := by
  have hp := parse2_at n a
  have hq := parse2_at n b
  have hf := parO_fine n a
  have hg := parO_fine n b
  have hh := headers_at n given (room.map srow)
  have hsa := fun (h : (parO n a).1 = 0) x hx => said_has (h := x) h hx
  have hsb := fun (h : (parO n b).1 = 0) x hx => said_has (h := x) h hx
  have hca := parO_cases n a
  have hcb := parO_cases n b
  unfold POut at hp hq
  by_cases hbad : (parO n a).1 ≠ 0 ∨ (parO n b).1 ≠ 0
  · have sa := fun ks rm h1 => spsize_at hf ks rm h1
    have sb := fun ks rm h1 => spsize_at hg ks rm h1
    have za : (parO n a).1 ≠ 0 → szT (parO n a).2.2 = 0 := fun h => by
      rcases hca with ⟨e, he, h1⟩ | ⟨_, _, _, ⟨_, h1⟩ | ⟨_, _, h1⟩⟩ <;> rw [h1] at h ⊢
      · rfl
      · exact absurd rfl h
      · exact absurd rfl h
    have zb : (parO n b).1 ≠ 0 → szT (parO n b).2.2 = 0 := fun h => by
      rcases hcb with ⟨e, he, h1⟩ | ⟨_, _, _, ⟨_, h1⟩ | ⟨_, _, h1⟩⟩ <;> rw [h1] at h ⊢
      · rfl
      · exact absurd rfl h
      · exact absurd rfl h
    clear hca hcb hsa hsb
    generalize parO n a = oa at *
    generalize parO n b = ob at *
    obtain ⟨ea, na, ts⟩ := oa
    obtain ⟨eb, nb, us⟩ := ob
    dsimp only at hp hq hbad za zb sa sb
    generalize szT ts = x at *
    generalize szT us = y at *
    refine FSpec.of_ok tok Tryd.func7 rfl Tryd.call7 (by simp) ?_
    (try (conv => whnf)); repeat' (first | (exact absurd trivial (by assumption)) | refine Ok.seq ?_ | refine OkL.cons ?_ | ((first | refine Ok.region tok ?_ | refine Ok.region_draw tok follows (by kernel_rfl) ?_ | refine Ok.cond ?_); conv => whnf) | refine Ok.block ?_ | ((first | refine Ok.skip ?_ | refine Ok.exit ?_ | refine Ok.ret ?_ | refine nI ?_ | refine ix _ (by assumption) ?_ | refine ixI (by omega) (by assumption) ?_ | refine ix_new _ (by omega) fun _ _ => ?_ | refine ixI_new (by omega) (by omega) fun _ _ => ?_ | refine ⟨_, by assumption, ?_⟩); conv => whnf) | (refine Or.inl ?_; (conv => whnf); (repeat (refine aI ?_; conv => whnf)); refine ⟨_, awake_at, rfl, ?_⟩; conv => whnf) | (refine Or.inl ?_; (conv => whnf); (repeat (refine aI ?_; conv => whnf)); refine ⟨_, sa ks rm hk, rfl, ?_⟩; conv => whnf) | (refine Or.inl ?_; (conv => whnf); (repeat (refine aI ?_; conv => whnf)); refine ⟨_, sb kt rt ht, rfl, ?_⟩; conv => whnf) | ((first | refine ⟨_, awake_at, rfl, ?_⟩ | refine ⟨_, sa ks rm hk, rfl, ?_⟩ | refine ⟨_, sb kt rt ht, rfl, ?_⟩); conv => whnf) | (refine Or.inr (Or.inl ?_); (conv => whnf); (repeat (refine aI ?_; conv => whnf)); refine ⟨_, awake_at, ?_⟩; rintro _ _ ⟨rfl, rfl⟩; conv => whnf) | (refine Or.inr (Or.inl ?_); (conv => whnf); (repeat (refine aI ?_; conv => whnf)); refine ⟨_, sa ks rm hk, ?_⟩; rintro _ _ ⟨rfl, rfl⟩; conv => whnf) | (refine Or.inr (Or.inl ?_); (conv => whnf); (repeat (refine aI ?_; conv => whnf)); refine ⟨_, sb kt rt ht, ?_⟩; rintro _ _ ⟨rfl, rfl⟩; conv => whnf) | (refine Or.inr (Or.inl ?_); (conv => whnf); (repeat (refine aI ?_; conv => whnf)); refine ⟨_, hp , ?_⟩; rintro _ _ ⟨rfl, _, rfl, ks, rm, rfl, hk⟩ <;> (conv => whnf)) | (refine Or.inr (Or.inl ?_); (conv => whnf); (repeat (refine aI ?_; conv => whnf)); refine ⟨_, hq , ?_⟩; rintro _ _ ⟨rfl, _, rfl, kt, rt, rfl, ht⟩ <;> (conv => whnf)) | ((first | refine Alt2.l (aI ?_) | refine Alt2.r (aI ?_)); conv => whnf) | (refine Ok.scope ?_) | ((first | refine Ok.label ?_ | refine rd rfl (by assumption) ?_ | refine ⟨_, .inl ⟨rfl, rfl⟩, ?_⟩ | refine ⟨_, _, rfl, rfl, ?_⟩); conv => whnf) | (refine ⟨fun _ => ?_, fun _ => ?_⟩ <;> (conv => whnf) <;> (try (exfalso; omega))) | ((first | refine aJ ?_ | refine num_any ?_ | refine ⟨_, rfl, ?_⟩); conv => whnf) | fail)
    all_goals first
      | (exfalso; omega)
      | (refine Or.inl ?_; (conv => whnf)
         show D.b True = _
         rfl)
      | (refine Or.inl ?_; (conv => whnf)
         exact congrArg D.b (propext ⟨fun _ => trivial, fun _ => by omega⟩))
      | trace_state
  have h0 : (parO n a).1 = 0 ∧ (parO n a).2.1 = n ∧ 1 ≤ n ∧ n ≤ 256 ∧ a.length ≤ 33024 := by
    rcases hca with ⟨e, he, h1⟩ | ⟨h2, h3, h4, ⟨_, h1⟩ | ⟨_, _, h1⟩⟩
    · exact absurd (.inl (by rw [h1]; exact he)) hbad
    all_goals rw [h1]; exact ⟨rfl, rfl, h2, h3, h4⟩
  have h0b : (parO n b).1 = 0 ∧ (parO n b).2.1 = n ∧ b.length ≤ 33024 := by
    rcases hcb with ⟨e, he, h1⟩ | ⟨h2, h3, h4, ⟨_, h1⟩ | ⟨_, _, h1⟩⟩
    · exact absurd (.inr (by rw [h1]; exact he)) hbad
    all_goals rw [h1]; exact ⟨rfl, rfl, h4⟩
  replace hsa := hsa h0.1
  replace hsb := hsb h0b.1
  clear hca hcb hbad
  generalize parO n a = oa at *
  generalize parO n b = ob at *
  obtain ⟨ea, na, ts⟩ := oa
  obtain ⟨eb, nb, us⟩ := ob
  dsimp only at h0 h0b hp hq hf hg hsa hsb
  obtain ⟨rfl, rfl, hn1, hn2, hal⟩ := h0
  obtain ⟨rfl, rfl, hbl⟩ := h0b
  have hju := fun ks kt rm rt h1 h2 => join_at hf hg ks kt rm rt h1 h2
  have hme := fun ks kt rm rt h1 h2 => meet2_at hf hg ks kt rm rt h1 h2
  have hmi := fun ks kt rm rt h1 h2 => minus_at hf hg ks kt rm rt h1 h2
  have hjf := joinO_fine hf hg
  have hmf := meetO_fine hf hg
  have hif := minusO_fine hf hg
  have hjc := joinO_code (n := nb) (ts := ts) (us := us) (by omega)
  have hmc := meetO_code (n := nb) (ts := ts) (us := us) (by omega)
  have hic := minusO_code (n := nb) (ts := ts) (us := us) (by omega)
  have hjh := fun h0 h => joinO_has hf hg h0 h
  have hmh := fun h0 h => meetO_has hf hg h0 h
  have hih := fun h0 h => minusO_has hf hg h0 h
  unfold POut at hju hme hmi
  generalize joinO nb nb ts us = o1 at *
  generalize meetO nb nb ts us = o2 at *
  generalize minusO nb nb ts us = o3 at *
  obtain ⟨e1, n1, l1⟩ := o1
  obtain ⟨e2, n2, l2⟩ := o2
  obtain ⟨e3, n3, l3⟩ := o3
  dsimp only at hju hme hmi hjf hmf hif hjc hmc hic hjh hmh hih
  have hll := hdrsL_len nb given
  generalize hdrsL nb given = L at *
  have hlm : (L.map srow).length = L.length := by simp
  refine FSpec.of_ok tok Tryd.func7 rfl Tryd.call7 (by simp) ?_
  (try (conv => whnf)); repeat' (first | (exact absurd trivial (by assumption)) | (exact absurd rfl (by assumption)) | refine Ok.seq ?_ | refine OkL.cons ?_ | ((first | refine Ok.region tok ?_ | refine Ok.region_draw tok follows (by kernel_rfl) ?_ | refine Ok.cond ?_); conv => whnf) | refine Ok.block ?_ | ((first | refine Ok.skip ?_ | refine Ok.exit ?_ | refine Ok.ret ?_ | refine nI ?_ | refine ix _ (by assumption) ?_ | refine ixI (by omega) (by assumption) ?_ | refine ix_new _ (by omega) fun _ _ => ?_ | refine ixI_new (by omega) (by omega) fun _ _ => ?_ | refine ⟨_, by assumption, ?_⟩); conv => whnf) | (refine Or.inl ?_; (conv => whnf); (repeat (refine aI ?_; conv => whnf)); refine ⟨_, awake_at, rfl, ?_⟩; conv => whnf) | (refine ⟨_, awake_at, rfl, ?_⟩; conv => whnf) | (refine Or.inr (Or.inl ?_); (conv => whnf); (repeat (refine aI ?_; conv => whnf)); refine ⟨_, awake_at, ?_⟩; rintro _ _ ⟨rfl, rfl⟩; conv => whnf) | (refine Or.inr (Or.inl ?_); (conv => whnf); (repeat (refine aI ?_; conv => whnf)); refine ⟨_, hp , ?_⟩; rintro _ _ ⟨rfl, _, rfl, ks, rm, rfl, hk⟩ <;> (conv => whnf)) | (refine Or.inr (Or.inl ?_); (conv => whnf); (repeat (refine aI ?_; conv => whnf)); refine ⟨_, hq , ?_⟩; rintro _ _ ⟨rfl, _, rfl, kt, rt, rfl, ht⟩ <;> (conv => whnf)) | (refine Or.inr (Or.inl ?_); (conv => whnf); (repeat (refine aI ?_; conv => whnf)); refine ⟨_, hju ks kt rm rt hk ht , ?_⟩; rintro _ _ ⟨rfl, _, rfl, k1, r1, rfl, hk1⟩ <;> (conv => whnf)) | (refine Or.inr (Or.inl ?_); (conv => whnf); (repeat (refine aI ?_; conv => whnf)); refine ⟨_, hme ks kt rm rt hk ht , ?_⟩; rintro _ _ ⟨rfl, _, rfl, k2, r2, rfl, hk2⟩ <;> (conv => whnf)) | (refine Or.inr (Or.inl ?_); (conv => whnf); (repeat (refine aI ?_; conv => whnf)); refine ⟨_, hmi ks kt rm rt hk ht , ?_⟩; rintro _ _ ⟨rfl, _, rfl, k3, r3, rfl, hk3⟩ <;> (conv => whnf)) | (refine Or.inr (Or.inl ?_); (conv => whnf); (repeat (refine aI ?_; conv => whnf)); refine ⟨_, hh , ?_⟩; rintro _ _ ⟨rfl, rmh, rfl⟩ <;> (conv => whnf)) | ((first | refine Alt2.l (aI ?_) | refine Alt2.r (aI ?_)); conv => whnf) | (refine Ok.scope ?_) | ((first | refine Ok.label ?_ | refine rd rfl (by assumption) ?_ | refine ⟨_, .inl ⟨rfl, rfl⟩, ?_⟩ | refine ⟨_, _, rfl, rfl, ?_⟩); conv => whnf) | (refine ⟨fun _ => ?_, fun _ => ?_⟩ <;> (conv => whnf) <;> (try (exfalso; omega))) | ((first | refine aJ ?_ | refine num_any ?_ | refine ⟨_, rfl, ?_⟩); conv => whnf) | fail)
  refine Ok.loopU [0, 1, 2, 13, 14, 15, 16, 17, 18, 19] [20] 0 5 (fun (i : Nat) => [.i .i64 (i : Nat)]) (fun (i : Nat) (_ : List (List D)) => [[.i .i64 nb, .lst 81 (ks.map trow) rm], [.i .i64 nb, .lst 81 (kt.map trow) rt], [.i .i64 n1, .lst 81 (k1.map trow) r1], [.i .i64 n2, .lst 81 (k2.map trow) r2], [.i .i64 n3, .lst 81 (k3.map trow) r3]]) (fun _ r => r) (fun (i : Nat) => i ≤ L.length) (fun (i : Nat) => L.length - i) (0) (Nat.zero_le _) ?_; (conv => whnf); refine ⟨by ((conv => whnf); first | rfl | (simp [envCat, List.take_of_length_le, crow, trow, srow]; done) | (simp [envCat, List.take_of_length_le, crow, trow, srow]; rw [IntKind.wrap_i64]; omega)), ?_⟩
  rintro i hi
  (conv => whnf)
  by_cases hil : i < L.length
  · obtain ⟨h, hh⟩ : ∃ h, L[i]? = some h := ⟨_, List.getElem?_eq_getElem hil⟩
    have hhI : L[((i : Nat) : Int).toNat]? = some h := hh
    have his := isHeader_at nb h (by omega)
    by_cases hd : hdrX nb h
    · have s1 := said_at a h (by omega)
      have s2 := said_at b h (by omega)
      have h1 := hasS_at hjf k1 r1 hk1 h
      have h2 := hasS_at hmf k2 r2 hk2 h
      have h3 := hasS_at hif k3 r3 hk3 h
      have fa := hsa h hd
      have fb := hsb h hd
      have u1 : e1 = 0 → saidX a h → (hasS l1 h ↔ True) := fun e p => ⟨fun _ => trivial, fun _ => (hjh e h).2 (.inl (fa.1 p))⟩
      have u2 : e1 = 0 → ¬ saidX a h → (hasS l1 h ↔ saidX b h) := fun e p => by rw [hjh e h, ← fa, ← fb]; exact ⟨fun q => q.resolve_left p, .inr⟩
      have v1 : e2 = 0 → saidX a h → (hasS l2 h ↔ saidX b h) := fun e p => by rw [hmh e h, ← fa, ← fb]; exact ⟨fun q => q.2, fun q => ⟨p, q⟩⟩
      have v2 : e2 = 0 → ¬ saidX a h → (hasS l2 h ↔ False) := fun e p => by rw [hmh e h, ← fa, ← fb]; exact ⟨fun q => p q.1, False.elim⟩
      have w1 : e3 = 0 → saidX a h → (hasS l3 h ↔ ¬ saidX b h) := fun e p => by rw [hih e h, ← fa, ← fb]; exact ⟨fun q => q.2, fun q => ⟨p, q⟩⟩
      have w2 : e3 = 0 → ¬ saidX a h → (hasS l3 h ↔ False) := fun e p => by rw [hih e h, ← fa, ← fb]; exact ⟨fun q => p q.1, False.elim⟩
      clear fa fb
      (try (conv => whnf)); repeat' (first | (exact absurd hd (by assumption)) | (exact absurd (u1 (by assumption) (by assumption)) (by assumption)) | (exact absurd (u2 (by assumption) (by assumption)) (by assumption)) | (exact absurd (v1 (by assumption) (by assumption)) (by assumption)) | (exact absurd (v2 (by assumption) (by assumption)) (by assumption)) | (exact absurd (w1 (by assumption) (by assumption)) (by assumption)) | (exact absurd (w2 (by assumption) (by assumption)) (by assumption)) | refine Ok.seq ?_ | refine OkL.cons ?_ | ((first | refine Ok.region tok ?_ | refine Ok.region_draw tok follows (by kernel_rfl) ?_ | refine Ok.cond ?_); conv => whnf) | refine Ok.block ?_ | ((first | refine Ok.skip ?_ | refine Ok.exit ?_ | refine Ok.ret ?_ | refine nI ?_ | refine ix _ (by assumption) ?_ | refine ixI (by omega) (by assumption) ?_ | refine ix_new _ (by omega) fun _ _ => ?_ | refine ixI_new (by omega) (by omega) fun _ _ => ?_ | refine ⟨_, by assumption, ?_⟩); conv => whnf) | (refine Or.inl ?_; (conv => whnf); (repeat (refine aI ?_; conv => whnf)); refine ⟨_, his, rfl, ?_⟩; conv => whnf) | (refine Or.inl ?_; (conv => whnf); (repeat (refine aI ?_; conv => whnf)); refine ⟨_, s1, rfl, ?_⟩; conv => whnf) | (refine Or.inl ?_; (conv => whnf); (repeat (refine aI ?_; conv => whnf)); refine ⟨_, s2, rfl, ?_⟩; conv => whnf) | (refine Or.inl ?_; (conv => whnf); (repeat (refine aI ?_; conv => whnf)); refine ⟨_, h1, rfl, ?_⟩; conv => whnf) | (refine Or.inl ?_; (conv => whnf); (repeat (refine aI ?_; conv => whnf)); refine ⟨_, h2, rfl, ?_⟩; conv => whnf) | (refine Or.inl ?_; (conv => whnf); (repeat (refine aI ?_; conv => whnf)); refine ⟨_, h3, rfl, ?_⟩; conv => whnf) | ((first | refine ⟨_, his, rfl, ?_⟩ | refine ⟨_, s1, rfl, ?_⟩ | refine ⟨_, s2, rfl, ?_⟩ | refine ⟨_, h1, rfl, ?_⟩ | refine ⟨_, h2, rfl, ?_⟩ | refine ⟨_, h3, rfl, ?_⟩); conv => whnf) | (refine Or.inr (Or.inl ?_); (conv => whnf); (repeat (refine aI ?_; conv => whnf)); refine ⟨_, his, ?_⟩; rintro _ _ ⟨rfl, rfl⟩; conv => whnf) | (refine Or.inr (Or.inl ?_); (conv => whnf); (repeat (refine aI ?_; conv => whnf)); refine ⟨_, s1, ?_⟩; rintro _ _ ⟨rfl, rfl⟩; conv => whnf) | (refine Or.inr (Or.inl ?_); (conv => whnf); (repeat (refine aI ?_; conv => whnf)); refine ⟨_, s2, ?_⟩; rintro _ _ ⟨rfl, rfl⟩; conv => whnf) | (refine Or.inr (Or.inl ?_); (conv => whnf); (repeat (refine aI ?_; conv => whnf)); refine ⟨_, h1, ?_⟩; rintro _ _ ⟨rfl, rfl⟩; conv => whnf) | (refine Or.inr (Or.inl ?_); (conv => whnf); (repeat (refine aI ?_; conv => whnf)); refine ⟨_, h2, ?_⟩; rintro _ _ ⟨rfl, rfl⟩; conv => whnf) | (refine Or.inr (Or.inl ?_); (conv => whnf); (repeat (refine aI ?_; conv => whnf)); refine ⟨_, h3, ?_⟩; rintro _ _ ⟨rfl, rfl⟩; conv => whnf) | ((first | refine Alt2.l (aI ?_) | refine Alt2.r (aI ?_)); conv => whnf) | (refine Ok.scope ?_) | ((first | refine Ok.label ?_ | refine rd rfl (by assumption) ?_ | refine ⟨_, .inl ⟨rfl, rfl⟩, ?_⟩ | refine ⟨_, _, rfl, rfl, ?_⟩); conv => whnf) | (refine ⟨fun _ => ?_, fun _ => ?_⟩ <;> (conv => whnf) <;> (try (exfalso; omega))) | ((first | refine aJ ?_ | refine num_any ?_ | refine ⟨_, rfl, ?_⟩); conv => whnf) | fail)
      all_goals first
        | (refine ⟨i + 1, by omega, by omega, ?_⟩
           (conv => whnf)
           rfl)
        | trace_state
    · (try (conv => whnf)); repeat' (first | (exact absurd hd (by assumption)) | refine Ok.seq ?_ | refine OkL.cons ?_ | ((first | refine Ok.region tok ?_ | refine Ok.region_draw tok follows (by kernel_rfl) ?_ | refine Ok.cond ?_); conv => whnf) | refine Ok.block ?_ | ((first | refine Ok.skip ?_ | refine Ok.exit ?_ | refine Ok.ret ?_ | refine nI ?_ | refine ix _ (by assumption) ?_ | refine ixI (by omega) (by assumption) ?_ | refine ix_new _ (by omega) fun _ _ => ?_ | refine ixI_new (by omega) (by omega) fun _ _ => ?_ | refine ⟨_, by assumption, ?_⟩); conv => whnf) | (refine Or.inl ?_; (conv => whnf); (repeat (refine aI ?_; conv => whnf)); refine ⟨_, his, rfl, ?_⟩; conv => whnf) | (refine ⟨_, his, rfl, ?_⟩; conv => whnf) | (refine Or.inr (Or.inl ?_); (conv => whnf); (repeat (refine aI ?_; conv => whnf)); refine ⟨_, his, ?_⟩; rintro _ _ ⟨rfl, rfl⟩; conv => whnf) | ((first | refine Alt2.l (aI ?_) | refine Alt2.r (aI ?_)); conv => whnf) | (refine Ok.scope ?_) | ((first | refine Ok.label ?_ | refine rd rfl (by assumption) ?_ | refine ⟨_, .inl ⟨rfl, rfl⟩, ?_⟩ | refine ⟨_, _, rfl, rfl, ?_⟩); conv => whnf) | (refine ⟨fun _ => ?_, fun _ => ?_⟩ <;> (conv => whnf) <;> (try (exfalso; omega))) | ((first | refine aJ ?_ | refine num_any ?_ | refine ⟨_, rfl, ?_⟩); conv => whnf) | fail)
      all_goals first
        | (refine ⟨i + 1, by omega, by omega, ?_⟩
           (conv => whnf)
           rfl)
        | trace_state
  · have hie : i = L.length := by omega
    subst hie
    (try (conv => whnf)); repeat' (first | refine Ok.seq ?_ | refine OkL.cons ?_ | ((first | refine Ok.region tok ?_ | refine Ok.region_draw tok follows (by kernel_rfl) ?_ | refine Ok.cond ?_); conv => whnf) | refine Ok.block ?_ | ((first | refine Ok.skip ?_ | refine Ok.exit ?_ | refine Ok.ret ?_ | refine nI ?_ | refine ix _ (by assumption) ?_ | refine ixI (by omega) (by assumption) ?_ | refine ix_new _ (by omega) fun _ _ => ?_ | refine ixI_new (by omega) (by omega) fun _ _ => ?_ | refine ⟨_, by assumption, ?_⟩ | refine Alt2.l (aI ?_) | refine Alt2.r (aI ?_)); conv => whnf) | (refine Ok.scope ?_) | ((first | refine Ok.label ?_ | refine rd rfl (by assumption) ?_ | refine ⟨_, .inl ⟨rfl, rfl⟩, ?_⟩ | refine ⟨_, _, rfl, rfl, ?_⟩); conv => whnf) | (refine ⟨fun _ => ?_, fun _ => ?_⟩ <;> (conv => whnf) <;> (try (exfalso; omega))) | ((first | refine aJ ?_ | refine num_any ?_ | refine ⟨_, rfl, ?_⟩); conv => whnf) | fail)
    all_goals first
      | (exfalso; omega)
      | (refine Or.inl ?_; (conv => whnf)
         exact congrArg D.b (propext ⟨fun _ => trivial, fun _ => by omega⟩))
      | trace_state
end Go.Proofs.YtaiondckookpiaaDoor
