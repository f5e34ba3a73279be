/- The document's met, and both parents. -/
import Derived.Test.YtgelaefpbdfnfaaRS3
namespace Go.Proofs.Ytgelaefpbdfnfaa
open Go Go.Vx

def isB (d : D) (p : Prop) : Prop := (d = .tt ∧ p) ∨ (d = .ff ∧ ¬ p) ∨ ∃ q, d = .b q ∧ (q ↔ p)
theorem covers_spec {bits : Int} {r s : Route} (h0 : bits ≤ 32) (h1 : 0 ≤ r.len) (h2 : r.len ≤ bits) : FSpec Try.prog T 59 [.i .i64 bits, .agg r.row, .agg s.row] (fun d _ => d = .b (covR bits r s)) := by
  refine FSpec.of_ok tok Try.func59 rfl Try.call59 (by simp) ?_
  (try (conv => whnf)); repeat' (first | refine Ok.seq ?_ | (refine Ok.region tok ?_; conv => whnf) | (refine Ok.region_draw tok follows (by kernel_rfl) ?_; conv => whnf) | (refine Ok.cond ?_; conv => whnf) | refine Ok.block ?_ | (refine Ok.skip ?_; conv => whnf) | (refine Ok.exit ?_; conv => whnf) | (refine Ok.ret ?_; conv => whnf) | (refine num_in (by omega) (by omega) ?_; conv => whnf) | (refine ix _ (by assumption) ?_; conv => whnf) | (refine ixI (by omega) (by assumption) ?_; conv => whnf) | (refine ix_new _ (by omega) fun _ _ => ?_; conv => whnf) | (refine ixI_new (by omega) (by omega) fun _ _ => ?_; conv => whnf) | (refine Or.inl ?_; (conv => whnf); (repeat (refine And.intro (by first | omega | (simp; done) | (simp; omega)) ?_; (conv => whnf))); refine ⟨_, Has_spec bits r s.value h0 h1 h2, rfl, ?_⟩; conv => whnf) | (refine ⟨_, Has_spec bits r s.value h0 h1 h2, rfl, ?_⟩; conv => whnf) | (refine Or.inr (Or.inl ?_); (conv => whnf); (repeat (refine And.intro (by first | omega | (simp; done) | (simp; omega)) ?_; (conv => whnf))); refine ⟨_, Has_spec bits r s.value h0 h1 h2, ?_⟩; rintro _ _ ⟨rfl, rfl⟩; conv => whnf) | (refine rd rfl (by assumption) ?_; conv => whnf) | (refine ⟨_, .inl ⟨rfl, rfl⟩, ?_⟩; conv => whnf) | (refine ⟨_, _, rfl, rfl, ?_⟩; conv => whnf) | (refine ⟨fun _ => ?_, fun _ => ?_⟩ <;> (conv => whnf) <;> (try (exfalso; omega))) | (refine And.intro (by first | omega | rfl | (simp; done) | (simp; omega)) ?_; conv => whnf) | (refine num_any ?_; conv => whnf) | fail)
  · rename_i a
    refine Or.inl ?_; (conv => whnf)
    exact b_eq ⟨fun h => ⟨a, h⟩, fun h => h.2⟩
  · rename_i a
    refine Or.inl ?_; (conv => whnf)
    exact b_eq ⟨fun h => h.elim, fun h => a h.1⟩

set_option maxRecDepth 100000 in
theorem met_at {bits : Int} {l : List Route} {k : Nat} {rk : Route} (hb1 : 1 ≤ bits) (hb2 : bits ≤ 32) (hl : l.length ≤ 256) (hok : ∀ r ∈ l, okR bits r) (hs : l.Pairwise preR) (hk : l[k]? = some rk) {rows room : List (List D)} (he : rows = l.map Route.row) :
    FSpec Try.prog T 57 [.i .i64 bits, .lst 68 rows room, .i .i64 (k : Nat)] (fun d _ => d = .b (¬ Hal l bits rk.value rk.len)) := by
  subst he
  have hll : (l.map Route.row).length = l.length := by simp
  have hkl : k < l.length := (List.getElem?_eq_some_iff.1 hk).1
  have hokk := hok rk (List.mem_of_getElem? hk)
  have hk1 := hokk.2.2.1
  have hk2 := hokk.2.2.2.1
  refine FSpec.of_ok tok Try.func57 rfl Try.call57 (by simp) ?_
  (try (conv => whnf)); repeat' (first | refine Ok.seq ?_ | (refine Ok.region tok ?_; conv => whnf) | (refine Ok.region_draw tok follows (by kernel_rfl) ?_; conv => whnf) | (refine Ok.cond ?_; conv => whnf) | refine Ok.block ?_ | (refine Ok.skip ?_; conv => whnf) | (refine Ok.exit ?_; conv => whnf) | (refine Ok.ret ?_; conv => whnf) | (refine num_in (by omega) (by omega) ?_; conv => whnf) | (refine ix _ (by assumption) ?_; conv => whnf) | (refine ixI (by omega) (by assumption) ?_; conv => whnf) | (refine ix_new _ (by omega) fun _ _ => ?_; conv => whnf) | (refine ixI_new (by omega) (by omega) fun _ _ => ?_; conv => whnf) | (refine rd rfl (by assumption) ?_; conv => whnf) | (refine ⟨_, .inl ⟨rfl, rfl⟩, ?_⟩; conv => whnf) | (refine ⟨_, _, rfl, rfl, ?_⟩; conv => whnf) | (refine ⟨fun _ => ?_, fun _ => ?_⟩ <;> (conv => whnf) <;> (try (exfalso; omega))) | (refine And.intro (by first | omega | rfl | (simp; done) | (simp; omega)) ?_; conv => whnf) | (refine num_any ?_; conv => whnf) | fail)
  refine Ok.loopU [0, 1, 2] [7, 8] 0 0 (fun (i : Nat) => [.i .i64 (sumG bits l rk (l.take i)), .i .i64 (i : Nat)]) (fun _ b => b) (fun _ r => r) (fun (i : Nat) => i ≤ l.length) (fun (i : Nat) => l.length - i) (0) (Nat.zero_le _) ?_; (conv => whnf); refine ⟨by ((conv => whnf); first | rfl | simp [envCat, List.take_of_length_le]), ?_⟩
  rintro i hi
  obtain ⟨hsum0, hsum1⟩ := sumG_bd (l := l) (k := rk) hb1 hb2 (l.take i) fun r hr => hok r (List.mem_of_mem_take hr)
  have hsl : (l.take i).length = i := by simp; omega
  rw [hsl] at hsum1
  by_cases hil : i < l.length
  · obtain ⟨ri, hri⟩ : ∃ r, l[i]? = some r := ⟨_, List.getElem?_eq_getElem hil⟩
    have hoki := hok ri (List.mem_of_getElem? hri)
    have hi1 := hoki.2.2.1
    have hi2 := hoki.2.2.2.1
    have htk : l.take (i + 1) = l.take i ++ [ri] := by rw [List.take_add_one, hri]; rfl
    have hsnoc : sumG bits l rk (l.take (i + 1)) = sumG bits l rk (l.take i) + if Gr bits l rk ri then sz bits ri else 0 := by rw [htk, sumG_snoc]
    have hmi : min (bits - ri.len).toNat IntKind.i64.bits = (bits - ri.len).toNat := by show min (bits - ri.len).toNat 64 = _; omega
    have hpi := pow_bd (bits - ri.len).toNat (by omega)
    have hshl : IntKind.i64.wrap (1 * 2 ^ min (bits - ri.len).toNat IntKind.i64.bits) = 2 ^ (bits - ri.len).toNat := by rw [hmi, Int.one_mul, IntKind.wrap_i64]; omega
    have hno : ¬ Gr bits l rk ri → sumG bits l rk (l.take (i + 1)) = sumG bits l rk (l.take i) := fun h => by rw [hsnoc, if_neg h]; omega
    have hyes : Gr bits l rk ri → sumG bits l rk (l.take (i + 1)) = sumG bits l rk (l.take i) + 2 ^ (bits - ri.len).toNat := fun h => by rw [hsnoc, if_pos h]; rfl
    (try (conv => whnf)); repeat' (first | refine Ok.seq ?_ | (refine Ok.region tok ?_; conv => whnf) | (refine Ok.region_draw tok follows (by kernel_rfl) ?_; conv => whnf) | (refine Ok.cond ?_; conv => whnf) | refine Ok.block ?_ | (refine Ok.skip ?_; conv => whnf) | (refine Ok.exit ?_; conv => whnf) | (refine Ok.ret ?_; conv => whnf) | (refine num_in (by omega) (by omega) ?_; conv => whnf) | (refine ix _ (by assumption) ?_; conv => whnf) | (refine ixI (by omega) (by assumption) ?_; conv => whnf) | (refine ix_new _ (by omega) fun _ _ => ?_; conv => whnf) | (refine ixI_new (by omega) (by omega) fun _ _ => ?_; conv => whnf) | (refine Or.inl ?_; (conv => whnf); (repeat (refine And.intro (by first | omega | (simp; done) | (simp; omega)) ?_; (conv => whnf))); refine ⟨_, covers_spec hb2 hk1 hk2, rfl, ?_⟩; conv => whnf) | (refine ⟨_, covers_spec hb2 hk1 hk2, rfl, ?_⟩; conv => whnf) | (refine Or.inr (Or.inl ?_); (conv => whnf); (repeat (refine And.intro (by first | omega | (simp; done) | (simp; omega)) ?_; (conv => whnf))); refine ⟨_, covers_spec hb2 hk1 hk2, ?_⟩; rintro _ _ ⟨rfl, rfl⟩; conv => whnf) | (refine rd rfl (by assumption) ?_; conv => whnf) | (refine ⟨_, .inl ⟨rfl, rfl⟩, ?_⟩; conv => whnf) | (refine ⟨_, _, rfl, rfl, ?_⟩; conv => whnf) | (refine ⟨fun _ => ?_, fun _ => ?_⟩ <;> (conv => whnf) <;> (try (exfalso; omega))) | (refine And.intro (by first | omega | rfl | (simp; done) | (simp; omega)) ?_; conv => whnf) | (refine num_any ?_; conv => whnf) | fail)
    · rename_i a
      refine ⟨i + 1, by omega, by omega, ?_⟩
      rw [hno fun h => by have := h.1; omega]
      (conv => whnf); (first | rfl | simp [envCat, List.take_of_length_le])
    · rename_i a b
      refine ⟨i + 1, by omega, by omega, ?_⟩
      rw [hno fun h => b h.2.1]
      (conv => whnf); (first | rfl | simp [envCat, List.take_of_length_le])
    · rename_i a b
      have b : covR bits rk ri := Classical.not_not.1 b
      refine Ok.joinU [0, 1, 2, 7, 8] [9] 0 0 (fun (d : D) => [d]) (fun _ b => b) (fun _ r => r) (fun e (d : D) => e = .exit 2 ∧ isB d (∀ s ∈ l, ¬ (rk.len < s.len ∧ s.len < ri.len ∧ covR bits s ri))) ?_; (conv => whnf); refine And.intro ?_ ?_
      · refine Ok.loopU [0, 1, 2, 7, 8] [9, 10] 0 0 (fun (x : D × Nat) => [x.1, .i .i64 (x.2 : Nat)]) (fun _ b => b) (fun _ r => r) (fun (x : D × Nat) => x.2 ≤ l.length ∧ isB x.1 (∀ s ∈ l.take x.2, ¬ (rk.len < s.len ∧ s.len < ri.len ∧ covR bits s ri))) (fun (x : D × Nat) => l.length - x.2) ((.tt, 0)) (⟨Nat.zero_le _, .inl ⟨rfl, by simp⟩⟩) ?_; (conv => whnf); refine ⟨by ((conv => whnf); first | rfl | simp [envCat, List.take_of_length_le]), ?_⟩
        rintro ⟨d, j⟩ ⟨hj, hd⟩
        dsimp only at hj hd ⊢
        have hstop : ¬ (∀ s ∈ l.take j, ¬ (rk.len < s.len ∧ s.len < ri.len ∧ covR bits s ri)) → ¬ (∀ s ∈ l, ¬ (rk.len < s.len ∧ s.len < ri.len ∧ covR bits s ri)) := fun h h2 => h fun s hs => h2 s (List.mem_of_mem_take hs)
        by_cases hjl : j < l.length
        · obtain ⟨rj, hrj⟩ : ∃ r, l[j]? = some r := ⟨_, List.getElem?_eq_getElem hjl⟩
          have hokj := hok rj (List.mem_of_getElem? hrj)
          have hj1 := hokj.2.2.1
          have hj2 := hokj.2.2.2.1
          have htj : l.take (j + 1) = l.take j ++ [rj] := by rw [List.take_add_one, hrj]; rfl
          have hnext : (∀ s ∈ l.take j, ¬ (rk.len < s.len ∧ s.len < ri.len ∧ covR bits s ri)) → ((∀ s ∈ l.take (j + 1), ¬ (rk.len < s.len ∧ s.len < ri.len ∧ covR bits s ri)) ↔ ¬ (rk.len < rj.len ∧ rj.len < ri.len ∧ covR bits rj ri)) := fun h => by
            rw [htj]
            constructor
            · intro h2; exact h2 rj (by simp)
            · intro h2 s hs
              rcases List.mem_append.1 hs with hs | hs
              · exact h s hs
              · simp at hs; rw [hs]; exact h2
          rcases hd with ⟨rfl, hp⟩ | ⟨rfl, hp⟩ | ⟨p, rfl, hp⟩
          · have hnx := hnext hp
            (try (conv => whnf)); repeat' (first | refine Ok.seq ?_ | (refine Ok.region tok ?_; conv => whnf) | (refine Ok.region_draw tok follows (by kernel_rfl) ?_; conv => whnf) | (refine Ok.cond ?_; conv => whnf) | refine Ok.block ?_ | (refine Ok.skip ?_; conv => whnf) | (refine Ok.exit ?_; conv => whnf) | (refine Ok.ret ?_; conv => whnf) | (refine num_in (by omega) (by omega) ?_; conv => whnf) | (refine ix _ (by assumption) ?_; conv => whnf) | (refine ixI (by omega) (by assumption) ?_; conv => whnf) | (refine ix_new _ (by omega) fun _ _ => ?_; conv => whnf) | (refine ixI_new (by omega) (by omega) fun _ _ => ?_; conv => whnf) | (refine Or.inl ?_; (conv => whnf); (repeat (refine And.intro (by first | omega | (simp; done) | (simp; omega)) ?_; (conv => whnf))); refine ⟨_, covers_spec hb2 hj1 hj2, rfl, ?_⟩; conv => whnf) | (refine ⟨_, covers_spec hb2 hj1 hj2, rfl, ?_⟩; conv => whnf) | (refine Or.inr (Or.inl ?_); (conv => whnf); (repeat (refine And.intro (by first | omega | (simp; done) | (simp; omega)) ?_; (conv => whnf))); refine ⟨_, covers_spec hb2 hj1 hj2, ?_⟩; rintro _ _ ⟨rfl, rfl⟩; conv => whnf) | (refine rd rfl (by assumption) ?_; conv => whnf) | (refine ⟨_, .inl ⟨rfl, rfl⟩, ?_⟩; conv => whnf) | (refine ⟨_, _, rfl, rfl, ?_⟩; conv => whnf) | (refine ⟨fun _ => ?_, fun _ => ?_⟩ <;> (conv => whnf) <;> (try (exfalso; omega))) | (refine And.intro (by first | omega | rfl | (simp; done) | (simp; omega)) ?_; conv => whnf) | (refine num_any ?_; conv => whnf) | fail)
            · refine ⟨(.tt, j + 1), by dsimp only; omega, ⟨by dsimp only; omega, .inl ⟨rfl, hnx.2 (by omega)⟩⟩, ?_⟩
              (conv => whnf); (first | rfl | simp [envCat, List.take_of_length_le])
            · refine ⟨(.tt, j + 1), by dsimp only; omega, ⟨by dsimp only; omega, .inl ⟨rfl, hnx.2 (by omega)⟩⟩, ?_⟩
              (conv => whnf); (first | rfl | simp [envCat, List.take_of_length_le])
            · refine ⟨(.b (¬ covR bits rj ri), j + 1), by dsimp only; omega, ⟨by dsimp only; omega, .inr (.inr ⟨_, rfl, ⟨fun h => hnx.2 fun h2 => h h2.2.2, fun h h2 => hnx.1 h ⟨by omega, by omega, h2⟩⟩⟩)⟩, ?_⟩
              (conv => whnf); (first | rfl | simp [envCat, List.take_of_length_le])
          · (try (conv => whnf)); repeat' (first | refine Ok.seq ?_ | (refine Ok.region tok ?_; conv => whnf) | (refine Ok.region_draw tok follows (by kernel_rfl) ?_; conv => whnf) | (refine Ok.cond ?_; conv => whnf) | refine Ok.block ?_ | (refine Ok.skip ?_; conv => whnf) | (refine Ok.exit ?_; conv => whnf) | (refine Ok.ret ?_; conv => whnf) | (refine num_in (by omega) (by omega) ?_; conv => whnf) | (refine ix _ (by assumption) ?_; conv => whnf) | (refine ixI (by omega) (by assumption) ?_; conv => whnf) | (refine ix_new _ (by omega) fun _ _ => ?_; conv => whnf) | (refine ixI_new (by omega) (by omega) fun _ _ => ?_; conv => whnf) | (refine rd rfl (by assumption) ?_; conv => whnf) | (refine ⟨_, .inl ⟨rfl, rfl⟩, ?_⟩; conv => whnf) | (refine ⟨_, _, rfl, rfl, ?_⟩; conv => whnf) | (refine ⟨fun _ => ?_, fun _ => ?_⟩ <;> (conv => whnf) <;> (try (exfalso; omega))) | (refine And.intro (by first | omega | rfl | (simp; done) | (simp; omega)) ?_; conv => whnf) | (refine num_any ?_; conv => whnf) | fail)
            refine ⟨.ff, ⟨rfl, .inr (.inl ⟨rfl, hstop hp⟩)⟩, ?_⟩
            (conv => whnf); (first | rfl | simp [envCat, List.take_of_length_le])
          · have hnx := fun h : p => hnext (hp.1 h)
            by_cases hpp : p
            · have hnx := hnx hpp
              (try (conv => whnf)); repeat' (first | refine Ok.seq ?_ | (refine Ok.region tok ?_; conv => whnf) | (refine Ok.region_draw tok follows (by kernel_rfl) ?_; conv => whnf) | (refine Ok.cond ?_; conv => whnf) | refine Ok.block ?_ | (refine Ok.skip ?_; conv => whnf) | (refine Ok.exit ?_; conv => whnf) | (refine Ok.ret ?_; conv => whnf) | (refine num_in (by omega) (by omega) ?_; conv => whnf) | (refine ix _ (by assumption) ?_; conv => whnf) | (refine ixI (by omega) (by assumption) ?_; conv => whnf) | (refine ix_new _ (by omega) fun _ _ => ?_; conv => whnf) | (refine ixI_new (by omega) (by omega) fun _ _ => ?_; conv => whnf) | (refine Or.inl ?_; (conv => whnf); (repeat (refine And.intro (by first | omega | (simp; done) | (simp; omega)) ?_; (conv => whnf))); refine ⟨_, covers_spec hb2 hj1 hj2, rfl, ?_⟩; conv => whnf) | (refine ⟨_, covers_spec hb2 hj1 hj2, rfl, ?_⟩; conv => whnf) | (refine Or.inr (Or.inl ?_); (conv => whnf); (repeat (refine And.intro (by first | omega | (simp; done) | (simp; omega)) ?_; (conv => whnf))); refine ⟨_, covers_spec hb2 hj1 hj2, ?_⟩; rintro _ _ ⟨rfl, rfl⟩; conv => whnf) | (refine rd rfl (by assumption) ?_; conv => whnf) | (refine ⟨_, .inl ⟨rfl, rfl⟩, ?_⟩; conv => whnf) | (refine ⟨_, _, rfl, rfl, ?_⟩; conv => whnf) | (refine ⟨fun _ => ?_, fun _ => ?_⟩ <;> (conv => whnf) <;> (try (exfalso; omega))) | (refine And.intro (by first | omega | rfl | (simp; done) | (simp; omega)) ?_; conv => whnf) | (refine num_any ?_; conv => whnf) | fail)
              all_goals try (rename_i a; exact absurd hpp a)
              · refine ⟨(.tt, j + 1), by dsimp only; omega, ⟨by dsimp only; omega, .inl ⟨rfl, hnx.2 (by omega)⟩⟩, ?_⟩
                (conv => whnf); (first | rfl | simp [envCat, List.take_of_length_le])
              · refine ⟨(.tt, j + 1), by dsimp only; omega, ⟨by dsimp only; omega, .inl ⟨rfl, hnx.2 (by omega)⟩⟩, ?_⟩
                (conv => whnf); (first | rfl | simp [envCat, List.take_of_length_le])
              · refine ⟨(.b (¬ covR bits rj ri), j + 1), by dsimp only; omega, ⟨by dsimp only; omega, .inr (.inr ⟨_, rfl, ⟨fun h => hnx.2 fun h2 => h h2.2.2, fun h h2 => hnx.1 h ⟨by omega, by omega, h2⟩⟩⟩)⟩, ?_⟩
                (conv => whnf); (first | rfl | simp [envCat, List.take_of_length_le])
            · (try (conv => whnf)); repeat' (first | refine Ok.seq ?_ | (refine Ok.region tok ?_; conv => whnf) | (refine Ok.region_draw tok follows (by kernel_rfl) ?_; conv => whnf) | (refine Ok.cond ?_; conv => whnf) | refine Ok.block ?_ | (refine Ok.skip ?_; conv => whnf) | (refine Ok.exit ?_; conv => whnf) | (refine Ok.ret ?_; conv => whnf) | (refine num_in (by omega) (by omega) ?_; conv => whnf) | (refine ix _ (by assumption) ?_; conv => whnf) | (refine ixI (by omega) (by assumption) ?_; conv => whnf) | (refine ix_new _ (by omega) fun _ _ => ?_; conv => whnf) | (refine ixI_new (by omega) (by omega) fun _ _ => ?_; conv => whnf) | (refine Or.inl ?_; (conv => whnf); (repeat (refine And.intro (by first | omega | (simp; done) | (simp; omega)) ?_; (conv => whnf))); refine ⟨_, covers_spec hb2 hj1 hj2, rfl, ?_⟩; conv => whnf) | (refine ⟨_, covers_spec hb2 hj1 hj2, rfl, ?_⟩; conv => whnf) | (refine Or.inr (Or.inl ?_); (conv => whnf); (repeat (refine And.intro (by first | omega | (simp; done) | (simp; omega)) ?_; (conv => whnf))); refine ⟨_, covers_spec hb2 hj1 hj2, ?_⟩; rintro _ _ ⟨rfl, rfl⟩; conv => whnf) | (refine rd rfl (by assumption) ?_; conv => whnf) | (refine ⟨_, .inl ⟨rfl, rfl⟩, ?_⟩; conv => whnf) | (refine ⟨_, _, rfl, rfl, ?_⟩; conv => whnf) | (refine ⟨fun _ => ?_, fun _ => ?_⟩ <;> (conv => whnf) <;> (try (exfalso; omega))) | (refine And.intro (by first | omega | rfl | (simp; done) | (simp; omega)) ?_; conv => whnf) | (refine num_any ?_; conv => whnf) | fail)
              all_goals try (exact absurd ‹p› hpp)
              all_goals
                refine ⟨.b p, ⟨rfl, .inr (.inr ⟨p, rfl, ⟨fun h => absurd h hpp, fun h => absurd (hp.2 fun s hs => h s (List.mem_of_mem_take hs)) hpp⟩⟩)⟩, ?_⟩
                (conv => whnf); (first | rfl | simp [envCat, List.take_of_length_le])
        · have hjj : j = l.length := by omega
          subst hjj
          rw [List.take_length] at hd
          (try (conv => whnf)); repeat' (first | refine Ok.seq ?_ | (refine Ok.region tok ?_; conv => whnf) | (refine Ok.region_draw tok follows (by kernel_rfl) ?_; conv => whnf) | (refine Ok.cond ?_; conv => whnf) | refine Ok.block ?_ | (refine Ok.skip ?_; conv => whnf) | (refine Ok.exit ?_; conv => whnf) | (refine Ok.ret ?_; conv => whnf) | (refine num_in (by omega) (by omega) ?_; conv => whnf) | (refine ix _ (by assumption) ?_; conv => whnf) | (refine ixI (by omega) (by assumption) ?_; conv => whnf) | (refine ix_new _ (by omega) fun _ _ => ?_; conv => whnf) | (refine ixI_new (by omega) (by omega) fun _ _ => ?_; conv => whnf) | (refine rd rfl (by assumption) ?_; conv => whnf) | (refine ⟨_, .inl ⟨rfl, rfl⟩, ?_⟩; conv => whnf) | (refine ⟨_, _, rfl, rfl, ?_⟩; conv => whnf) | (refine ⟨fun _ => ?_, fun _ => ?_⟩ <;> (conv => whnf) <;> (try (exfalso; omega))) | (refine And.intro (by first | omega | rfl | (simp; done) | (simp; omega)) ?_; conv => whnf) | (refine num_any ?_; conv => whnf) | fail)
          refine ⟨d, ⟨rfl, hd⟩, ?_⟩
          rcases hd with ⟨rfl, _⟩ | ⟨rfl, _⟩ | ⟨p, rfl, _⟩
          · (conv => whnf); (first | rfl | simp [envCat, List.take_of_length_le])
          · (conv => whnf); (first | rfl | simp [envCat, List.take_of_length_le])
          · (conv => whnf); (first | rfl | simp [envCat, List.take_of_length_le])
      · rintro e d ⟨rfl, hd⟩
        have hgr : Gr bits l rk ri ↔ (∀ s ∈ l, ¬ (rk.len < s.len ∧ s.len < ri.len ∧ covR bits s ri)) := ⟨fun h => h.2.2, fun h => ⟨by omega, b, h⟩⟩
        rcases hd with ⟨rfl, hp⟩ | ⟨rfl, hp⟩ | ⟨p, rfl, hp⟩
        · (try (conv => whnf)); repeat' (first | refine Ok.seq ?_ | (refine Ok.region tok ?_; conv => whnf) | (refine ⟨_, (hshl).symm, ?_⟩; conv => whnf) | (refine Ok.region_draw tok follows (by kernel_rfl) ?_; conv => whnf) | (refine Ok.cond ?_; conv => whnf) | refine Ok.block ?_ | (refine Ok.skip ?_; conv => whnf) | (refine Ok.exit ?_; conv => whnf) | (refine Ok.ret ?_; conv => whnf) | (refine num_in (by omega) (by omega) ?_; conv => whnf) | (refine ix _ (by assumption) ?_; conv => whnf) | (refine ixI (by omega) (by assumption) ?_; conv => whnf) | (refine ix_new _ (by omega) fun _ _ => ?_; conv => whnf) | (refine ixI_new (by omega) (by omega) fun _ _ => ?_; conv => whnf) | (refine rd rfl (by assumption) ?_; conv => whnf) | (refine ⟨_, .inl ⟨rfl, rfl⟩, ?_⟩; conv => whnf) | (refine ⟨_, _, rfl, rfl, ?_⟩; conv => whnf) | (refine ⟨fun _ => ?_, fun _ => ?_⟩ <;> (conv => whnf) <;> (try (exfalso; omega))) | (refine And.intro (by first | omega | rfl | (simp; done) | (simp; omega)) ?_; conv => whnf) | (refine num_any ?_; conv => whnf) | fail)
          refine ⟨i + 1, by omega, by omega, ?_⟩
          rw [hyes (hgr.2 hp)]
          (conv => whnf); (first | rfl | simp [envCat, List.take_of_length_le])
        · (try (conv => whnf)); repeat' (first | refine Ok.seq ?_ | (refine Ok.region tok ?_; conv => whnf) | (refine Ok.region_draw tok follows (by kernel_rfl) ?_; conv => whnf) | (refine Ok.cond ?_; conv => whnf) | refine Ok.block ?_ | (refine Ok.skip ?_; conv => whnf) | (refine Ok.exit ?_; conv => whnf) | (refine Ok.ret ?_; conv => whnf) | (refine num_in (by omega) (by omega) ?_; conv => whnf) | (refine ix _ (by assumption) ?_; conv => whnf) | (refine ixI (by omega) (by assumption) ?_; conv => whnf) | (refine ix_new _ (by omega) fun _ _ => ?_; conv => whnf) | (refine ixI_new (by omega) (by omega) fun _ _ => ?_; conv => whnf) | (refine rd rfl (by assumption) ?_; conv => whnf) | (refine ⟨_, .inl ⟨rfl, rfl⟩, ?_⟩; conv => whnf) | (refine ⟨_, _, rfl, rfl, ?_⟩; conv => whnf) | (refine ⟨fun _ => ?_, fun _ => ?_⟩ <;> (conv => whnf) <;> (try (exfalso; omega))) | (refine And.intro (by first | omega | rfl | (simp; done) | (simp; omega)) ?_; conv => whnf) | (refine num_any ?_; conv => whnf) | fail)
          refine ⟨i + 1, by omega, by omega, ?_⟩
          rw [hno fun h => hp (hgr.1 h)]
          (conv => whnf); (first | rfl | simp [envCat, List.take_of_length_le])
        · (try (conv => whnf)); repeat' (first | refine Ok.seq ?_ | (refine Ok.region tok ?_; conv => whnf) | (refine ⟨_, (hshl).symm, ?_⟩; conv => whnf) | (refine Ok.region_draw tok follows (by kernel_rfl) ?_; conv => whnf) | (refine Ok.cond ?_; conv => whnf) | refine Ok.block ?_ | (refine Ok.skip ?_; conv => whnf) | (refine Ok.exit ?_; conv => whnf) | (refine Ok.ret ?_; conv => whnf) | (refine num_in (by omega) (by omega) ?_; conv => whnf) | (refine ix _ (by assumption) ?_; conv => whnf) | (refine ixI (by omega) (by assumption) ?_; conv => whnf) | (refine ix_new _ (by omega) fun _ _ => ?_; conv => whnf) | (refine ixI_new (by omega) (by omega) fun _ _ => ?_; conv => whnf) | (refine rd rfl (by assumption) ?_; conv => whnf) | (refine ⟨_, .inl ⟨rfl, rfl⟩, ?_⟩; conv => whnf) | (refine ⟨_, _, rfl, rfl, ?_⟩; conv => whnf) | (refine ⟨fun _ => ?_, fun _ => ?_⟩ <;> (conv => whnf) <;> (try (exfalso; omega))) | (refine And.intro (by first | omega | rfl | (simp; done) | (simp; omega)) ?_; conv => whnf) | (refine num_any ?_; conv => whnf) | fail)
          · rename_i hq
            refine ⟨i + 1, by omega, by omega, ?_⟩
            rw [hyes (hgr.2 (hp.1 hq))]
            (conv => whnf); (first | rfl | simp [envCat, List.take_of_length_le])
          · rename_i hq
            refine ⟨i + 1, by omega, by omega, ?_⟩
            rw [hno fun h => hq (hp.2 (hgr.1 h))]
            (conv => whnf); (first | rfl | simp [envCat, List.take_of_length_le])
  · have hii : i = l.length := by omega
    subst hii
    rw [List.take_length]
    have hmk : min (bits - rk.len).toNat IntKind.i64.bits = (bits - rk.len).toNat := by show min (bits - rk.len).toNat 64 = _; omega
    have hpk := pow_bd (bits - rk.len).toNat (by omega)
    have hshl : IntKind.i64.wrap (1 * 2 ^ min (bits - rk.len).toNat IntKind.i64.bits) = 2 ^ (bits - rk.len).toNat := by rw [hmk, Int.one_mul, IntKind.wrap_i64]; omega
    (try (conv => whnf)); repeat' (first | refine Ok.seq ?_ | (refine Ok.region tok ?_; conv => whnf) | (refine ⟨_, (hshl).symm, ?_⟩; conv => whnf) | (refine Ok.region_draw tok follows (by kernel_rfl) ?_; conv => whnf) | (refine Ok.cond ?_; conv => whnf) | refine Ok.block ?_ | (refine Ok.skip ?_; conv => whnf) | (refine Ok.exit ?_; conv => whnf) | (refine Ok.ret ?_; conv => whnf) | (refine num_in (by omega) (by omega) ?_; conv => whnf) | (refine ix _ (by assumption) ?_; conv => whnf) | (refine ixI (by omega) (by assumption) ?_; conv => whnf) | (refine ix_new _ (by omega) fun _ _ => ?_; conv => whnf) | (refine ixI_new (by omega) (by omega) fun _ _ => ?_; conv => whnf) | (refine rd rfl (by assumption) ?_; conv => whnf) | (refine ⟨_, .inl ⟨rfl, rfl⟩, ?_⟩; conv => whnf) | (refine ⟨_, _, rfl, rfl, ?_⟩; conv => whnf) | (refine ⟨fun _ => ?_, fun _ => ?_⟩ <;> (conv => whnf) <;> (try (exfalso; omega))) | (refine And.intro (by first | omega | rfl | (simp; done) | (simp; omega)) ?_; conv => whnf) | (refine num_any ?_; conv => whnf) | fail)
    refine Or.inl ?_; (conv => whnf)
    exact b_eq (sum_met hb2 hok hs hokk)
end Go.Proofs.Ytgelaefpbdfnfaa
