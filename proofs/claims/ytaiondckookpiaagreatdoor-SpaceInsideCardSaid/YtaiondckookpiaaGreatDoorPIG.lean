/- The walks and the plain laws that a law of spaces needs, part 7 of 7. -/
import Derived.Test.YtaiondckookpiaaGreatDoorPIF
set_option linter.unusedVariables false
set_option linter.unusedSimpArgs false
namespace Go.Proofs.YtaiondckookpiaaGreatDoor
open Go Go.Vx
set_option maxRecDepth 100000 in
set_option maxHeartbeats 16000000 in
theorem insideLaw_at (n : Int) (a b : Str) (given room : List Str) : FSpec Tryz.prog T 14 [.i .i64 n, .s a, .s b, .lst 9 (given.map srow) (room.map srow)] (fun r _ => r = .b True) := by
  have hp := parse2_at n a
  have hq := parse2_at n b
  have hf := parO_fine n a
  have hg := parO_fine n b
  have hh := headers_at n given (room.map srow)
  have hsa := fun (h : (parO n a).1 = 0) x hx => said_has (h := x) h hx
  have hsb := fun (h : (parO n b).1 = 0) x hx => said_has (h := x) h hx
  have hca := parO_cases n a
  have hcb := parO_cases n b
  unfold POut at hp hq
  by_cases hbad : (parO n a).1 ≠ 0 ∨ (parO n b).1 ≠ 0
  · clear hca hcb hsa hsb hf hg
    generalize parO n a = oa at *
    generalize parO n b = ob at *
    obtain ⟨ea, na, ts⟩ := oa
    obtain ⟨eb, nb, us⟩ := ob
    dsimp only at hp hq hbad
    refine FSpec.of_ok tok Tryz.func14 rfl Tryz.call14 (by simp) ?_
    (try (conv => whnf)); repeat' (first | (exact absurd trivial (by assumption)) | refine Ok.seq ?_ | refine OkL.cons ?_ | ((first | refine Ok.region tok ?_ | refine Ok.region_draw tok follows (by kernel_rfl) ?_ | refine Ok.cond ?_); conv => whnf) | refine Ok.block ?_ | ((first | refine Ok.skip ?_ | refine Ok.exit ?_ | refine Ok.ret ?_ | refine nI ?_ | refine ix _ (by assumption) ?_ | refine ixI (by omega) (by assumption) ?_ | refine ix_new _ (by omega) fun _ _ => ?_ | refine ixI_new (by omega) (by omega) fun _ _ => ?_ | refine ⟨_, by assumption, ?_⟩); conv => whnf) | (refine Or.inl ?_; (conv => whnf); (repeat (refine aI ?_; conv => whnf)); refine ⟨_, awake_at, rfl, ?_⟩; conv => whnf) | (refine ⟨_, awake_at, rfl, ?_⟩; conv => whnf) | (refine Or.inr (Or.inl ?_); (conv => whnf); (repeat (refine aI ?_; conv => whnf)); refine ⟨_, awake_at, ?_⟩; rintro _ _ ⟨rfl, rfl⟩; conv => whnf) | (refine Or.inr (Or.inl ?_); (conv => whnf); (repeat (refine aI ?_; conv => whnf)); refine ⟨_, hp , ?_⟩; rintro _ _ ⟨rfl, _, rfl, ks, rm, rfl, hk⟩ <;> (conv => whnf)) | (refine Or.inr (Or.inl ?_); (conv => whnf); (repeat (refine aI ?_; conv => whnf)); refine ⟨_, hq , ?_⟩; rintro _ _ ⟨rfl, _, rfl, kt, rt, rfl, ht⟩ <;> (conv => whnf)) | ((first | refine Alt2.l (aI ?_) | refine Alt2.r (aI ?_)); conv => whnf) | (refine Ok.scope ?_) | ((first | refine Ok.label ?_ | refine rd rfl (by assumption) ?_ | refine ⟨_, .inl ⟨rfl, rfl⟩, ?_⟩ | refine ⟨_, _, rfl, rfl, ?_⟩); conv => whnf) | (refine ⟨fun _ => ?_, fun _ => ?_⟩ <;> (conv => whnf) <;> (try (exfalso; omega))) | ((first | refine aJ ?_ | refine num_any ?_ | refine ⟨_, rfl, ?_⟩); conv => whnf) | fail)
    all_goals first
      | (exfalso; omega)
      | (refine Or.inl ?_; (conv => whnf)
         rfl)
      | trace_state
  have h0 : (parO n a).1 = 0 ∧ (parO n a).2.1 = n ∧ 1 ≤ n ∧ n ≤ 256 ∧ a.length ≤ 33024 := by
    rcases hca with ⟨e, he, h1⟩ | ⟨h2, h3, h4, ⟨_, h1⟩ | ⟨_, _, h1⟩⟩
    · exact absurd (.inl (by rw [h1]; exact he)) hbad
    all_goals rw [h1]; exact ⟨rfl, rfl, h2, h3, h4⟩
  have h0b : (parO n b).1 = 0 ∧ (parO n b).2.1 = n ∧ b.length ≤ 33024 := by
    rcases hcb with ⟨e, he, h1⟩ | ⟨h2, h3, h4, ⟨_, h1⟩ | ⟨_, _, h1⟩⟩
    · exact absurd (.inr (by rw [h1]; exact he)) hbad
    all_goals rw [h1]; exact ⟨rfl, rfl, h4⟩
  replace hsa := hsa h0.1
  replace hsb := hsb h0b.1
  clear hca hcb hbad
  generalize parO n a = oa at *
  generalize parO n b = ob at *
  obtain ⟨ea, na, ts⟩ := oa
  obtain ⟨eb, nb, us⟩ := ob
  dsimp only at h0 h0b hp hq hf hg hsa hsb
  obtain ⟨rfl, rfl, hn1, hn2, hal⟩ := h0
  obtain ⟨rfl, rfl, hbl⟩ := h0b
  have hlim : ¬ ((2048 : Int) < 0 ∨ (2048 : Int) < 2048) := by decide
  have htf : Fine nb [⟨List.replicate nb.toNat 120, []⟩] := by
    have := ofO_fine (c := allC nb) (less := []) (allC_ct _) (by simp)
    rwa [ofO_top (by omega) (by omega)] at this
  have ho := of_at (allC nb) [] [] (allC_ct _) (by simp)
  rw [ofO_top (by omega) (by omega)] at ho
  unfold POut at ho
  dsimp only at ho
  have c1 := fun ks kt rm rt h1 h2 => withinS_at hf hg ks kt rm rt h1 h2 2048
  have s1 := withO_has hf hg (by omega) hlim
  have c2 := fun ks kt rm rt h1 h2 => withinS_at hf htf ks kt rm rt h1 h2 0
  have s2 := within_top hf (show 0 < nb by omega)
  generalize ([⟨List.replicate nb.toNat 120, []⟩] : List Term) = top at *
  have c3 := fun ks kt rm rt h1 h2 => meet2_at hf hg ks kt rm rt h1 h2
  have hmf := meetO_fine hf hg
  have hmc := meetO_code2 (ts := ts) (us := us) (show 0 < nb by omega)
  have hmn := meetO_n (ts := ts) (us := us) (show 0 < nb by omega)
  have hmh := fun h0 h => meetO_has hf hg h0 h
  unfold POut at c3
  generalize meetO nb nb ts us = o2 at *
  obtain ⟨e2, n2, ml⟩ := o2
  dsimp only at c3 hmf hmc hmn hmh
  have c4 := fun ks kt rm rt h1 h2 => withinS_at hmf hf ks kt rm rt h1 h2 2048
  have c5 := fun ks kt rm rt h1 h2 => withinS_at hmf hg ks kt rm rt h1 h2 2048
  have s4 : e2 = 0 → (withO n2 nb ml ts 2048).2 ≠ 0 ∨ (withO n2 nb ml ts 2048).1 := fun e => by
    obtain rfl := hmn e
    rcases withO_has hmf hf (by omega) hlim with ⟨_, h⟩ | ⟨h, _⟩
    · exact .inr (h.2 fun x _ hx => ((hmh e x).1 hx).1)
    · exact .inl h
  have s5 : e2 = 0 → (withO n2 nb ml us 2048).2 ≠ 0 ∨ (withO n2 nb ml us 2048).1 := fun e => by
    obtain rfl := hmn e
    rcases withO_has hmf hg (by omega) hlim with ⟨_, h⟩ | ⟨h, _⟩
    · exact .inr (h.2 fun x _ hx => ((hmh e x).1 hx).2)
    · exact .inl h
  clear hmh hmn
  generalize withO nb nb ts us 2048 = w1 at *
  generalize withO nb nb ts top 0 = w2 at *
  generalize withO n2 nb ml ts 2048 = w4 at *
  generalize withO n2 nb ml us 2048 = w5 at *
  obtain ⟨P1, g1⟩ := w1
  obtain ⟨P2, g2⟩ := w2
  obtain ⟨P4, g4⟩ := w4
  obtain ⟨P5, g5⟩ := w5
  dsimp only at c1 c2 c4 c5 s1 s2 s4 s5
  have hll := hdrsL_len nb given
  have hsmall : nb ≤ 8 → hdrsL nb given = allH nb.toNat := fun h => if_neg (by omega)
  generalize hdrsL nb given = L at *
  have hlm : (L.map srow).length = L.length := by simp
  refine FSpec.of_ok tok Tryz.func14 rfl Tryz.call14 (by simp) ?_
  (try (conv => whnf)); repeat' (first | (exact absurd trivial (by assumption)) | (exact absurd rfl (by assumption)) | refine Ok.seq ?_ | refine OkL.cons ?_ | ((first | refine Ok.region tok ?_ | refine Ok.region_draw tok follows (by kernel_rfl) ?_ | refine Ok.cond ?_); conv => whnf) | refine Ok.block ?_ | ((first | refine Ok.skip ?_ | refine Ok.exit ?_ | refine Ok.ret ?_ | refine nI ?_ | refine ix _ (by assumption) ?_ | refine ixI (by omega) (by assumption) ?_ | refine ix_new _ (by omega) fun _ _ => ?_ | refine ixI_new (by omega) (by omega) fun _ _ => ?_ | refine ⟨_, by assumption, ?_⟩); conv => whnf) | (refine Or.inl ?_; (conv => whnf); (repeat (refine aI ?_; conv => whnf)); refine ⟨_, awake_at, rfl, ?_⟩; conv => whnf) | (refine ⟨_, awake_at, rfl, ?_⟩; conv => whnf) | (refine Or.inr (Or.inl ?_); (conv => whnf); (repeat (refine aI ?_; conv => whnf)); refine ⟨_, awake_at, ?_⟩; rintro _ _ ⟨rfl, rfl⟩; conv => whnf) | (refine Or.inr (Or.inl ?_); (conv => whnf); (repeat (refine aI ?_; conv => whnf)); refine ⟨_, hp , ?_⟩; rintro _ _ ⟨rfl, _, rfl, ks, rm, rfl, hk⟩ <;> (conv => whnf)) | (refine Or.inr (Or.inl ?_); (conv => whnf); (repeat (refine aI ?_; conv => whnf)); refine ⟨_, hq , ?_⟩; rintro _ _ ⟨rfl, _, rfl, kt, rt, rfl, ht⟩ <;> (conv => whnf)) | (refine Or.inr (Or.inl ?_); (conv => whnf); (repeat (refine aI ?_; conv => whnf)); refine ⟨_, c1 ks kt rm rt hk ht, ?_⟩; rintro _ _ ⟨rfl, rfl⟩ <;> (conv => whnf)) | (refine Or.inr (Or.inl ?_); (conv => whnf); (repeat (refine aI ?_; conv => whnf)); refine ⟨_, hh , ?_⟩; rintro _ _ ⟨rfl, rmh, rfl⟩ <;> (conv => whnf)) | ((first | refine Alt2.l (aI ?_) | refine Alt2.r (aI ?_)); conv => whnf) | (refine Ok.scope ?_) | ((first | refine Ok.label ?_ | refine rd rfl (by assumption) ?_ | refine ⟨_, .inl ⟨rfl, rfl⟩, ?_⟩ | refine ⟨_, _, rfl, rfl, ?_⟩); conv => whnf) | (refine ⟨fun _ => ?_, fun _ => ?_⟩ <;> (conv => whnf) <;> (try (exfalso; omega))) | ((first | refine aJ ?_ | refine num_any ?_ | refine ⟨_, rfl, ?_⟩); conv => whnf) | fail)
  let bad : Str → Prop := fun h => hdrX nb h ∧ saidX a h ∧ ¬ saidX b h
  refine Ok.loopU [0, 1, 2, 9, 11, 13, 14, 16] [15, 17] 0 2 (fun (x : Nat × Bool) => [bD x.2, .i .i64 (x.1 : Nat)]) (fun (x : Nat × Bool) (_ : List (List D)) => [[.i .i64 nb, .lst 112 (ks.map trow) rm], [.i .i64 nb, .lst 112 (kt.map trow) rt]]) (fun _ r => r) (fun (x : Nat × Bool) => x.1 ≤ L.length ∧ (x.2 = true ↔ ∀ h ∈ L.take x.1, ¬ (hdrX nb h ∧ saidX a h ∧ ¬ saidX b h))) (fun (x : Nat × Bool) => L.length - x.1) ((0, true)) (⟨Nat.zero_le _, by simp⟩) ?_; (conv => whnf); refine ⟨by ((conv => whnf); first | rfl | (simp [envCat, List.take_of_length_le, crow, trow, srow]; done) | (simp [envCat, List.take_of_length_le, crow, trow, srow]; rw [IntKind.wrap_i64]; omega)), ?_⟩
  rintro ⟨i, al⟩ ⟨hi, hall⟩
  dsimp only at hi hall ⊢
  by_cases hil : i < L.length
  · obtain ⟨h, hh⟩ : ∃ h, L[i]? = some h := ⟨_, List.getElem?_eq_getElem hil⟩
    have hhI : L[((i : Nat) : Int).toNat]? = some h := hh
    have his := isHeader_at nb h (by omega)
    have hs1 := said_at a h (by omega)
    have hs2 := said_at b h (by omega)
    by_cases hbd : hdrX nb h ∧ saidX a h ∧ ¬ saidX b h
    · obtain ⟨b1, b2, b3⟩ := hbd
      have hnx : (false = true ↔ ∀ x ∈ L.take (i + 1), ¬ (hdrX nb x ∧ saidX a x ∧ ¬ saidX b x)) := by
        rw [take_snoc hh]
        exact ⟨fun q => absurd q (by decide), fun q => absurd ⟨b1, b2, b3⟩ (q h (by simp))⟩
      cases al
      all_goals
        (conv => whnf)
        (try (conv => whnf)); repeat' (first | (exact absurd b1 (by assumption)) | (exact absurd b2 (by assumption)) | (exact absurd b3 (by assumption)) | refine Ok.seq ?_ | refine OkL.cons ?_ | ((first | refine Ok.region tok ?_ | refine Ok.region_draw tok follows (by kernel_rfl) ?_ | refine Ok.cond ?_); conv => whnf) | refine Ok.block ?_ | ((first | refine Ok.skip ?_ | refine Ok.exit ?_ | refine Ok.ret ?_ | refine nI ?_ | refine ix _ (by assumption) ?_ | refine ixI (by omega) (by assumption) ?_ | refine ix_new _ (by omega) fun _ _ => ?_ | refine ixI_new (by omega) (by omega) fun _ _ => ?_ | refine ⟨_, by assumption, ?_⟩); conv => whnf) | (refine Or.inl ?_; (conv => whnf); (repeat (refine aI ?_; conv => whnf)); refine ⟨_, his, rfl, ?_⟩; conv => whnf) | (refine Or.inl ?_; (conv => whnf); (repeat (refine aI ?_; conv => whnf)); refine ⟨_, hs1, rfl, ?_⟩; conv => whnf) | (refine Or.inl ?_; (conv => whnf); (repeat (refine aI ?_; conv => whnf)); refine ⟨_, hs2, rfl, ?_⟩; conv => whnf) | ((first | refine ⟨_, his, rfl, ?_⟩ | refine ⟨_, hs1, rfl, ?_⟩ | refine ⟨_, hs2, rfl, ?_⟩); conv => whnf) | (refine Or.inr (Or.inl ?_); (conv => whnf); (repeat (refine aI ?_; conv => whnf)); refine ⟨_, his, ?_⟩; rintro _ _ ⟨rfl, rfl⟩; conv => whnf) | (refine Or.inr (Or.inl ?_); (conv => whnf); (repeat (refine aI ?_; conv => whnf)); refine ⟨_, hs1, ?_⟩; rintro _ _ ⟨rfl, rfl⟩; conv => whnf) | (refine Or.inr (Or.inl ?_); (conv => whnf); (repeat (refine aI ?_; conv => whnf)); refine ⟨_, hs2, ?_⟩; rintro _ _ ⟨rfl, rfl⟩; conv => whnf) | ((first | refine Alt2.l (aI ?_) | refine Alt2.r (aI ?_)); conv => whnf) | (refine Ok.scope ?_) | ((first | refine Ok.label ?_ | refine rd rfl (by assumption) ?_ | refine ⟨_, .inl ⟨rfl, rfl⟩, ?_⟩ | refine ⟨_, _, rfl, rfl, ?_⟩); conv => whnf) | (refine ⟨fun _ => ?_, fun _ => ?_⟩ <;> (conv => whnf) <;> (try (exfalso; omega))) | ((first | refine aJ ?_ | refine num_any ?_ | refine ⟨_, rfl, ?_⟩); conv => whnf) | fail)
        refine ⟨(i + 1, false), by dsimp only; omega, ⟨by dsimp only; omega, hnx⟩, ?_⟩
        (conv => whnf)
        rfl
    · have hnext : (al = true ↔ ∀ x ∈ L.take (i + 1), ¬ (hdrX nb x ∧ saidX a x ∧ ¬ saidX b x)) := by
        rw [take_snoc hh, hall]
        constructor
        · intro q x hx
          rcases List.mem_append.1 hx with hx | hx
          · exact q x hx
          · simp at hx; rw [hx]; exact hbd
        · exact fun q x hx => q x (List.mem_append_left _ hx)
      cases al
      all_goals
        (conv => whnf)
        (try (conv => whnf)); repeat' (first | (exact absurd ⟨by assumption, by assumption, by assumption⟩ hbd) | refine Ok.seq ?_ | refine OkL.cons ?_ | ((first | refine Ok.region tok ?_ | refine Ok.region_draw tok follows (by kernel_rfl) ?_ | refine Ok.cond ?_); conv => whnf) | refine Ok.block ?_ | ((first | refine Ok.skip ?_ | refine Ok.exit ?_ | refine Ok.ret ?_ | refine nI ?_ | refine ix _ (by assumption) ?_ | refine ixI (by omega) (by assumption) ?_ | refine ix_new _ (by omega) fun _ _ => ?_ | refine ixI_new (by omega) (by omega) fun _ _ => ?_ | refine ⟨_, by assumption, ?_⟩); conv => whnf) | (refine Or.inl ?_; (conv => whnf); (repeat (refine aI ?_; conv => whnf)); refine ⟨_, his, rfl, ?_⟩; conv => whnf) | (refine Or.inl ?_; (conv => whnf); (repeat (refine aI ?_; conv => whnf)); refine ⟨_, hs1, rfl, ?_⟩; conv => whnf) | (refine Or.inl ?_; (conv => whnf); (repeat (refine aI ?_; conv => whnf)); refine ⟨_, hs2, rfl, ?_⟩; conv => whnf) | ((first | refine ⟨_, his, rfl, ?_⟩ | refine ⟨_, hs1, rfl, ?_⟩ | refine ⟨_, hs2, rfl, ?_⟩); conv => whnf) | (refine Or.inr (Or.inl ?_); (conv => whnf); (repeat (refine aI ?_; conv => whnf)); refine ⟨_, his, ?_⟩; rintro _ _ ⟨rfl, rfl⟩; conv => whnf) | (refine Or.inr (Or.inl ?_); (conv => whnf); (repeat (refine aI ?_; conv => whnf)); refine ⟨_, hs1, ?_⟩; rintro _ _ ⟨rfl, rfl⟩; conv => whnf) | (refine Or.inr (Or.inl ?_); (conv => whnf); (repeat (refine aI ?_; conv => whnf)); refine ⟨_, hs2, ?_⟩; rintro _ _ ⟨rfl, rfl⟩; conv => whnf) | ((first | refine Alt2.l (aI ?_) | refine Alt2.r (aI ?_)); conv => whnf) | (refine Ok.scope ?_) | ((first | refine Ok.label ?_ | refine rd rfl (by assumption) ?_ | refine ⟨_, .inl ⟨rfl, rfl⟩, ?_⟩ | refine ⟨_, _, rfl, rfl, ?_⟩); conv => whnf) | (refine ⟨fun _ => ?_, fun _ => ?_⟩ <;> (conv => whnf) <;> (try (exfalso; omega))) | ((first | refine aJ ?_ | refine num_any ?_ | refine ⟨_, rfl, ?_⟩); conv => whnf) | fail)
        all_goals first
          | (refine ⟨(i + 1, _), by dsimp only; omega, ⟨by dsimp only; omega, hnext⟩, ?_⟩
             (conv => whnf)
             rfl)
          | trace_state
  · have hie : i = L.length := by omega
    subst hie
    rw [List.take_length] at hall
    have f1 : al = false → g1 = 0 → ¬ P1 := fun e h0 q => by
      have hno : ¬ ∀ h ∈ L, ¬ (hdrX nb h ∧ saidX a h ∧ ¬ saidX b h) := fun q => by rw [e] at hall; cases hall.2 q
      refine hno fun h _ hbd => ?_
      rcases s1 with ⟨_, h1⟩ | ⟨h1, _⟩
      · exact hbd.2.2 ((hsb h hbd.1).2 (h1.1 q h hbd.1 ((hsa h hbd.1).1 hbd.2.1)))
      · exact h1 h0
    have t1 : al = true → g1 = 0 → nb ≤ 8 → P1 := fun e h0 h8 => by
      rcases s1 with ⟨_, h1⟩ | ⟨h1, _⟩
      · refine h1.2 fun h hd hh => Classical.byContradiction fun q => ?_
        refine hall.1 e h ?_ ⟨hd, (hsa h hd).2 hh, fun q2 => q ((hsb h hd).1 q2)⟩
        rw [hsmall h8]
        exact allH_mem hd
      · exact absurd h0 h1
    have e1 : g1 ≠ 0 → ¬ P1 ∧ g1 = 3 := fun h => by
      rcases s1 with ⟨h1, _⟩ | ⟨_, h1⟩
      · exact absurd h1 h
      · exact h1
    clear s1
    cases al
    · have f2 := f1 rfl
      have f3 : g1 = 0 → (P1 ↔ False) := fun e => ⟨f2 e, False.elim⟩
      clear f1 t1 hall
      (conv => whnf)
      (try (conv => whnf)); repeat' (first | (exact absurd (by assumption) (f2 (by assumption))) | (exact absurd (f3 (by assumption)) (by assumption)) | (exact absurd (by assumption) (e1 (by assumption)).1) | (exact absurd (e1 (by assumption)).2 (by assumption)) | (exact absurd s2.2 (by assumption)) | refine Ok.seq ?_ | refine OkL.cons ?_ | ((first | refine Ok.region tok ?_ | refine Ok.region_draw tok follows (by kernel_rfl) ?_ | refine Ok.cond ?_); conv => whnf) | refine Ok.block ?_ | ((first | refine Ok.skip ?_ | refine Ok.exit ?_ | refine Ok.ret ?_ | refine nI ?_ | refine ix _ (by assumption) ?_ | refine ixI (by omega) (by assumption) ?_ | refine ix_new _ (by omega) fun _ _ => ?_ | refine ixI_new (by omega) (by omega) fun _ _ => ?_ | refine ⟨_, by assumption, ?_⟩); conv => whnf) | (refine Or.inr (Or.inl ?_); (conv => whnf); (repeat (refine aI ?_; conv => whnf)); refine ⟨_, all_at nb, ?_⟩; rintro _ _ ⟨rfl, rfl⟩ <;> (conv => whnf)) | (refine Or.inr (Or.inl ?_); (conv => whnf); (repeat (refine aI ?_; conv => whnf)); refine ⟨_, ho , ?_⟩; rintro _ _ ⟨rfl, _, rfl, ku, ru, rfl, hu⟩ <;> (conv => whnf)) | (refine Or.inr (Or.inl ?_); (conv => whnf); (repeat (refine aI ?_; conv => whnf)); refine ⟨_, c2 ks ku rm ru hk hu, ?_⟩; rintro _ _ ⟨rfl, rfl⟩ <;> (conv => whnf)) | (refine Or.inr (Or.inl ?_); (conv => whnf); (repeat (refine aI ?_; conv => whnf)); refine ⟨_, c3 ks kt rm rt hk ht , ?_⟩; rintro _ _ ⟨rfl, _, rfl, km, rmm, rfl, hkm⟩ <;> (conv => whnf)) | (refine Or.inr (Or.inl ?_); (conv => whnf); (repeat (refine aI ?_; conv => whnf)); refine ⟨_, c4 km ks rmm rm hkm hk, ?_⟩; rintro _ _ ⟨rfl, rfl⟩ <;> (conv => whnf)) | (refine Or.inr (Or.inl ?_); (conv => whnf); (repeat (refine aI ?_; conv => whnf)); refine ⟨_, c5 km kt rmm rt hkm ht, ?_⟩; rintro _ _ ⟨rfl, rfl⟩ <;> (conv => whnf)) | ((first | refine Alt2.l (aI ?_) | refine Alt2.r (aI ?_)); conv => whnf) | (refine Ok.scope ?_) | ((first | refine Ok.label ?_ | refine rd rfl (by assumption) ?_ | refine ⟨_, .inl ⟨rfl, rfl⟩, ?_⟩ | refine ⟨_, _, rfl, rfl, ?_⟩); conv => whnf) | (refine ⟨fun _ => ?_, fun _ => ?_⟩ <;> (conv => whnf) <;> (try (exfalso; omega))) | ((first | refine aJ ?_ | refine num_any ?_ | refine ⟨_, rfl, ?_⟩); conv => whnf) | fail)
      all_goals first
        | (exfalso; omega)
        | (refine Or.inl ?_; (conv => whnf)
           exact congrArg D.b (propext ⟨fun _ => trivial, fun _ => by omega⟩))
        | (refine Or.inl ?_; (conv => whnf)
           exact congrArg D.b (propext ⟨fun _ => trivial, fun _ => (s5 (by omega)).resolve_left (by assumption)⟩))
        | (refine Or.inl ?_; (conv => whnf)
           show D.b True = _
           rfl)
        | (exfalso; rename_i h; exact (s4 (by omega)).elim (by assumption) h)
        | trace_state
    · have t2 := t1 rfl
      have t3 : g1 = 0 → nb ≤ 8 → (P1 ↔ True) := fun e h => ⟨fun _ => trivial, fun _ => t2 e h⟩
      clear f1 t1 hall
      (conv => whnf)
      (try (conv => whnf)); repeat' (first | (exact absurd (t3 (by assumption) (by assumption)) (by assumption)) | (exact absurd (by assumption) (e1 (by assumption)).1) | (exact absurd (e1 (by assumption)).2 (by assumption)) | (exact absurd s2.2 (by assumption)) | refine Ok.seq ?_ | refine OkL.cons ?_ | ((first | refine Ok.region tok ?_ | refine Ok.region_draw tok follows (by kernel_rfl) ?_ | refine Ok.cond ?_); conv => whnf) | refine Ok.block ?_ | ((first | refine Ok.skip ?_ | refine Ok.exit ?_ | refine Ok.ret ?_ | refine nI ?_ | refine ix _ (by assumption) ?_ | refine ixI (by omega) (by assumption) ?_ | refine ix_new _ (by omega) fun _ _ => ?_ | refine ixI_new (by omega) (by omega) fun _ _ => ?_ | refine ⟨_, by assumption, ?_⟩); conv => whnf) | (refine Or.inr (Or.inl ?_); (conv => whnf); (repeat (refine aI ?_; conv => whnf)); refine ⟨_, all_at nb, ?_⟩; rintro _ _ ⟨rfl, rfl⟩ <;> (conv => whnf)) | (refine Or.inr (Or.inl ?_); (conv => whnf); (repeat (refine aI ?_; conv => whnf)); refine ⟨_, ho , ?_⟩; rintro _ _ ⟨rfl, _, rfl, ku, ru, rfl, hu⟩ <;> (conv => whnf)) | (refine Or.inr (Or.inl ?_); (conv => whnf); (repeat (refine aI ?_; conv => whnf)); refine ⟨_, c2 ks ku rm ru hk hu, ?_⟩; rintro _ _ ⟨rfl, rfl⟩ <;> (conv => whnf)) | (refine Or.inr (Or.inl ?_); (conv => whnf); (repeat (refine aI ?_; conv => whnf)); refine ⟨_, c3 ks kt rm rt hk ht , ?_⟩; rintro _ _ ⟨rfl, _, rfl, km, rmm, rfl, hkm⟩ <;> (conv => whnf)) | (refine Or.inr (Or.inl ?_); (conv => whnf); (repeat (refine aI ?_; conv => whnf)); refine ⟨_, c4 km ks rmm rm hkm hk, ?_⟩; rintro _ _ ⟨rfl, rfl⟩ <;> (conv => whnf)) | (refine Or.inr (Or.inl ?_); (conv => whnf); (repeat (refine aI ?_; conv => whnf)); refine ⟨_, c5 km kt rmm rt hkm ht, ?_⟩; rintro _ _ ⟨rfl, rfl⟩ <;> (conv => whnf)) | ((first | refine Alt2.l (aI ?_) | refine Alt2.r (aI ?_)); conv => whnf) | (refine Ok.scope ?_) | ((first | refine Ok.label ?_ | refine rd rfl (by assumption) ?_ | refine ⟨_, .inl ⟨rfl, rfl⟩, ?_⟩ | refine ⟨_, _, rfl, rfl, ?_⟩); conv => whnf) | (refine ⟨fun _ => ?_, fun _ => ?_⟩ <;> (conv => whnf) <;> (try (exfalso; omega))) | ((first | refine aJ ?_ | refine num_any ?_ | refine ⟨_, rfl, ?_⟩); conv => whnf) | fail)
      all_goals first
        | (exfalso; omega)
        | (refine Or.inl ?_; (conv => whnf)
           exact congrArg D.b (propext ⟨fun _ => trivial, fun _ => by omega⟩))
        | (refine Or.inl ?_; (conv => whnf)
           exact congrArg D.b (propext ⟨fun _ => trivial, fun _ => (s5 (by omega)).resolve_left (by assumption)⟩))
        | (refine Or.inl ?_; (conv => whnf)
           show D.b True = _
           rfl)
        | (exfalso; rename_i h; exact (s4 (by omega)).elim (by assumption) h)
        | trace_state
end Go.Proofs.YtaiondckookpiaaGreatDoor
