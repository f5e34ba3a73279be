/- RibSlims: every Slim answers as the document says; the list that went in, and the room behind it, are as they were; the same list with other routes in it is another question. -/
import Derived.Test.YtgelaefpbdfnfaaRS5
namespace Go.Proofs.Ytgelaefpbdfnfaa
open Go Go.Vx

theorem ord_pre {l : List Route} {os : List Num} (h : IsOrd l os) : (os.map (·.r)).Pairwise preR := by
  rw [List.pairwise_map]
  exact h.sorted
theorem ord_ok {bits : Int} {l : List Route} {os : List Num} (h : IsOrd l os) (hok : ∀ r ∈ l, okR bits r) : ∀ r ∈ os.map (·.r), okR bits r := by
  intro r hr
  obtain ⟨x, hx, rfl⟩ := List.mem_map.1 hr
  obtain ⟨j, hj, rfl⟩ := numb_mem (h.best x hx).1
  exact hok _ (List.getElem_mem hj)
open Classical in
theorem nodup_sub {α : Type} : ∀ (l m : List α), l.Nodup → (∀ x ∈ l, x ∈ m) → l.length ≤ m.length
  | [], _, _, _ => by simp
  | a :: l, m, h1, h2 => by
    rw [List.nodup_cons] at h1
    have ha := h2 a (by simp)
    have ih := nodup_sub l (m.erase a) h1.2 fun x hx => by
      have hne : x ≠ a := fun e => h1.1 (e ▸ hx)
      exact (List.mem_erase_of_ne hne).2 (h2 x (by simp [hx]))
    rw [List.length_erase_of_mem ha] at ih
    have := List.length_pos_of_mem ha
    simp only [List.length_cons]
    omega
theorem ord_len {l : List Route} {os : List Num} (h : IsOrd l os) : os.length ≤ l.length := by
  have h1 : os.Nodup := by
    refine h.sorted.imp ?_
    rintro a b hab rfl
    exact preLt_irrefl hab ⟨rfl, rfl⟩
  have h2 := nodup_sub os (numb l) h1 fun x hx => (h.best x hx).1
  simpa [numb] using h2
/-- Kept in the second step: its parent sends elsewhere. -/
def keepR (bits : Int) (m : List Route) (k : Nat) (rk : Route) : Prop := parF bits m k rk < 0 ∨ ∀ rp, m[(parF bits m k rk).toNat]? = some rp → rp.out ≠ rk.out
open Classical in
noncomputable def metG (bits : Int) (l m : List Route) : List Route := m.filter fun r => decide (¬ Hal l bits r.value r.len)
noncomputable def metF (bits : Int) (l : List Route) : List Route := metG bits l l
open Classical in
noncomputable def keepF (bits : Int) (m : List Route) (n : Nat) : List Route := ((m.zipIdx.take n).filter fun x => decide (keepR bits m x.2 x.1)).map (·.1)
noncomputable def slimF (bits : Int) (l : List Route) : List Route := keepF bits (metF bits l) (metF bits l).length
theorem keepF_succ_pos {bits : Int} {m : List Route} {k : Nat} {rk : Route} (hk : m[k]? = some rk) (h : keepR bits m k rk) : keepF bits m (k + 1) = keepF bits m k ++ [rk] := by
  have hz : m.zipIdx[k]? = some (rk, k) := by simp [hk]
  unfold keepF
  rw [List.take_add_one, hz]
  simp [h]
theorem keepF_succ_neg {bits : Int} {m : List Route} {k : Nat} {rk : Route} (hk : m[k]? = some rk) (h : ¬ keepR bits m k rk) : keepF bits m (k + 1) = keepF bits m k := by
  have hz : m.zipIdx[k]? = some (rk, k) := by simp [hk]
  unfold keepF
  rw [List.take_add_one, hz]
  simp [h]
theorem keepF_zero (bits : Int) (m : List Route) : keepF bits m 0 = [] := rfl
theorem keepF_len (bits : Int) (m : List Route) (n : Nat) : (keepF bits m n).length ≤ n := by
  unfold keepF
  rw [List.length_map]
  refine Nat.le_trans (List.length_filter_le _ _) ?_
  simp; omega
theorem parF_in {bits : Int} {m : List Route} {k : Nat} {rk : Route} (hok : ∀ r ∈ m, okR bits r) (hs : m.Pairwise preR) (hk : m[k]? = some rk) : parF bits m k rk = -1 ∨ ∃ (pp : Nat) (rp : Route), parF bits m k rk = (pp : Int) ∧ m[pp]? = some rp := by
  have hex : ∃ p, IsPar bits m k rk m.length p := by
    by_cases hc : ∃ (i : Nat) (r : Route), k < i ∧ m[i]? = some r ∧ covR bits r rk
    · -- the first behind it
      have key : ∀ n, (∃ (i : Nat) (r : Route), k < i ∧ i < n ∧ m[i]? = some r ∧ covR bits r rk) → ∃ (i : Nat) (r : Route), k < i ∧ m[i]? = some r ∧ covR bits r rk ∧ ∀ (j : Nat) s, k < j → j < i → m[j]? = some s → ¬ covR bits s rk := by
        intro n
        induction n with
        | zero => rintro ⟨i, r, _, h, _⟩; omega
        | succ n ih =>
          rintro ⟨i, r, h1, h2, h3, h4⟩
          by_cases hex : ∃ (i : Nat) (r : Route), k < i ∧ i < n ∧ m[i]? = some r ∧ covR bits r rk
          · exact ih hex
          · exact ⟨i, r, h1, h3, h4, fun j s a b c d => hex ⟨j, s, a, by omega, c, d⟩⟩
      obtain ⟨i0, r0, a0, b0, c0⟩ := hc
      obtain ⟨i, r, h1, h2, h3, h4⟩ := key (i0 + 1) ⟨i0, r0, a0, by omega, b0, c0⟩
      refine ⟨(i : Int), .inr ⟨i, r, rfl, (List.getElem?_eq_some_iff.1 h2).1, by omega, h2, h3, fun j s a b c d => ?_⟩⟩
      have hb := (behind hok hs c hk b d).1
      rcases Nat.lt_trichotomy j i with h | h | h
      · exact absurd d (h4 j s hb h c)
      · subst h; rw [h2] at c; cases c; omega
      · have := pre_at hs h2 c h; unfold preR at this; omega
    · exact ⟨-1, .inl ⟨rfl, fun i r a b c d => hc ⟨i, r, (behind hok hs c hk b d).1, c, d⟩⟩⟩
  obtain ⟨p, hp⟩ := hex
  rw [parF_eq hok hs hp]
  rcases hp with ⟨rfl, _⟩ | ⟨pp, rp, rfl, _, _, h, _⟩
  · exact .inl rfl
  · exact .inr ⟨pp, rp, rfl, h⟩

theorem metG_pos {bits : Int} {l m : List Route} {k : Nat} {r : Route} (hr : m[k]? = some r) (h : ¬ Hal l bits r.value r.len) : metG bits l (m.take (k + 1)) = metG bits l (m.take k) ++ [r] := by
  unfold metG
  rw [List.take_add_one, hr]
  simp [h]
theorem metG_neg {bits : Int} {l m : List Route} {k : Nat} {r : Route} (hr : m[k]? = some r) (h : Hal l bits r.value r.len) : metG bits l (m.take (k + 1)) = metG bits l (m.take k) := by
  unfold metG
  rw [List.take_add_one, hr]
  simp [h]
theorem metG_take {bits : Int} {l m : List Route} {k : Nat} (hk : k ≤ m.length) : (metG bits l (m.take k)).length ≤ k := by
  unfold metG
  refine Nat.le_trans (List.length_filter_le _ _) ?_
  simp; omega
theorem metF_ok {bits : Int} {l : List Route} (hok : ∀ r ∈ l, okR bits r) (hs : l.Pairwise preR) : (∀ r ∈ metF bits l, okR bits r) ∧ (metF bits l).Pairwise preR ∧ (metF bits l).length ≤ l.length :=
  ⟨fun r hr => hok r (List.mem_filter.1 hr).1, hs.filter _, List.length_filter_le _ _⟩

set_option maxRecDepth 100000 in
theorem refSlimL_at {bits : Int} {l : List Route} (hb1 : 1 ≤ bits) (hb2 : bits ≤ 32) (hl : l.length ≤ 256) (hok : ∀ r ∈ l, okR bits r) (hs : l.Pairwise preR) {rows room : List (List D)} (he : rows = l.map Route.row) :
    FSpec Try.prog T 49 [.i .i64 bits, .lst 68 rows room] (fun d rows => rows = [] ∧ d = .lst 68 ((slimF bits l).map Route.row) []) := by
  subst he
  have hll : (l.map Route.row).length = l.length := by simp
  refine FSpec.of_ok tok Try.func49 rfl Try.call49 (by simp) ?_
  (try (conv => whnf)); repeat' (first | refine Ok.seq ?_ | (refine Ok.region tok ?_; conv => whnf) | (refine Ok.region_draw tok follows (by kernel_rfl) ?_; conv => whnf) | (refine Ok.cond ?_; conv => whnf) | refine Ok.block ?_ | (refine Ok.skip ?_; conv => whnf) | (refine Ok.exit ?_; conv => whnf) | (refine Ok.ret ?_; conv => whnf) | (refine num_in (by omega) (by omega) ?_; conv => whnf) | (refine ix _ (by assumption) ?_; conv => whnf) | (refine ixI (by omega) (by assumption) ?_; conv => whnf) | (refine ix_new _ (by omega) fun _ _ => ?_; conv => whnf) | (refine ixI_new (by omega) (by omega) fun _ _ => ?_; conv => whnf) | (refine rd rfl (by assumption) ?_; conv => whnf) | (refine ⟨_, .inl ⟨rfl, rfl⟩, ?_⟩; conv => whnf) | (refine ⟨_, _, rfl, rfl, ?_⟩; conv => whnf) | (refine ⟨fun _ => ?_, fun _ => ?_⟩ <;> (conv => whnf) <;> (try (exfalso; omega))) | (refine And.intro (by first | omega | rfl | (simp; done) | (simp; omega)) ?_; conv => whnf) | (refine num_any ?_; conv => whnf) | fail)
  refine Ok.ghost 5 68 rfl ?_
  (conv => whnf)
  have hM := metF_ok hok hs
  refine Ok.joinU [0] [5] 1 0 (fun (x : Unit) => [.own 0 (metF bits l).length]) (fun _ b => b) (fun (x : Unit) (_ : Vx.Rows) => [some (68, (metF bits l).map Route.row)]) (fun e (x : Unit) => e = .exit 0) ?_; (conv => whnf); refine And.intro ?_ ?_
  · refine Ok.loopU [0, 1] [5, 6] 1 0 (fun (x : List Route × Nat) => [.own 0 x.1.length, .i .i64 (x.2 : Nat)]) (fun _ b => b) (fun (x : List Route × Nat) (_ : Vx.Rows) => [some (68, x.1.map Route.row)]) (fun (x : List Route × Nat) => x.2 ≤ l.length ∧ x.1 = metG bits l (l.take x.2)) (fun (x : List Route × Nat) => l.length - x.2) (([], 0)) (⟨Nat.zero_le _, by simp [metG]⟩) ?_; (conv => whnf); refine ⟨by ((conv => whnf); first | rfl | simp [envCat, List.take_of_length_le, Route.row]), ?_⟩
    rintro ⟨m, k⟩ ⟨hk, hm⟩
    dsimp only at hk hm ⊢
    have hml : m.length ≤ k := by rw [hm]; exact metG_take hk
    by_cases hkl : k < l.length
    · obtain ⟨r, hr⟩ : ∃ r, l[k]? = some r := ⟨_, List.getElem?_eq_getElem hkl⟩
      (try (conv => whnf)); repeat' (first | refine Ok.seq ?_ | (refine Ok.region tok ?_; conv => whnf) | (refine Ok.region_draw tok follows (by kernel_rfl) ?_; conv => whnf) | (refine Ok.cond ?_; conv => whnf) | refine Ok.block ?_ | (refine Ok.skip ?_; conv => whnf) | (refine Ok.exit ?_; conv => whnf) | (refine Ok.ret ?_; conv => whnf) | (refine num_in (by omega) (by omega) ?_; conv => whnf) | (refine ix _ (by assumption) ?_; conv => whnf) | (refine ixI (by omega) (by assumption) ?_; conv => whnf) | (refine ix_new _ (by omega) fun _ _ => ?_; conv => whnf) | (refine ixI_new (by omega) (by omega) fun _ _ => ?_; conv => whnf) | (refine Or.inl ?_; (conv => whnf); (repeat (refine And.intro (by first | omega | (simp; done) | (simp; omega)) ?_; (conv => whnf))); refine ⟨_, met_at hb1 hb2 hl hok hs hr rfl, rfl, ?_⟩; conv => whnf) | (refine ⟨_, met_at hb1 hb2 hl hok hs hr rfl, rfl, ?_⟩; conv => whnf) | (refine Or.inr (Or.inl ?_); (conv => whnf); (repeat (refine And.intro (by first | omega | (simp; done) | (simp; omega)) ?_; (conv => whnf))); refine ⟨_, met_at hb1 hb2 hl hok hs hr rfl, ?_⟩; rintro _ _ ⟨rfl, rfl⟩; conv => whnf) | (refine rd rfl (by assumption) ?_; conv => whnf) | (refine ⟨_, .inl ⟨rfl, rfl⟩, ?_⟩; conv => whnf) | (refine ⟨_, _, rfl, rfl, ?_⟩; conv => whnf) | (refine ⟨fun _ => ?_, fun _ => ?_⟩ <;> (conv => whnf) <;> (try (exfalso; omega))) | (refine And.intro (by first | omega | rfl | (simp; done) | (simp; omega)) ?_; conv => whnf) | (refine num_any ?_; conv => whnf) | fail)
      · rename_i a
        refine ⟨(m ++ [r], k + 1), by dsimp only; omega, ⟨by dsimp only; omega, by dsimp only; rw [hm, metG_pos hr a]⟩, ?_⟩
        (conv => whnf); (first | rfl | simp [envCat, List.take_of_length_le, Route.row])
      · rename_i a
        refine ⟨(m, k + 1), by dsimp only; omega, ⟨by dsimp only; omega, by dsimp only; rw [hm, metG_neg hr (Classical.not_not.1 a)]⟩, ?_⟩
        (conv => whnf); (first | rfl | simp [envCat, List.take_of_length_le, Route.row])
    · have hkk : k = l.length := by omega
      subst hkk
      rw [List.take_length] at hm
      (try (conv => whnf)); repeat' (first | refine Ok.seq ?_ | (refine Ok.region tok ?_; conv => whnf) | (refine Ok.region_draw tok follows (by kernel_rfl) ?_; conv => whnf) | (refine Ok.cond ?_; conv => whnf) | refine Ok.block ?_ | (refine Ok.skip ?_; conv => whnf) | (refine Ok.exit ?_; conv => whnf) | (refine Ok.ret ?_; conv => whnf) | (refine num_in (by omega) (by omega) ?_; conv => whnf) | (refine ix _ (by assumption) ?_; conv => whnf) | (refine ixI (by omega) (by assumption) ?_; conv => whnf) | (refine ix_new _ (by omega) fun _ _ => ?_; conv => whnf) | (refine ixI_new (by omega) (by omega) fun _ _ => ?_; conv => whnf) | (refine rd rfl (by assumption) ?_; conv => whnf) | (refine ⟨_, .inl ⟨rfl, rfl⟩, ?_⟩; conv => whnf) | (refine ⟨_, _, rfl, rfl, ?_⟩; conv => whnf) | (refine ⟨fun _ => ?_, fun _ => ?_⟩ <;> (conv => whnf) <;> (try (exfalso; omega))) | (refine And.intro (by first | omega | rfl | (simp; done) | (simp; omega)) ?_; conv => whnf) | (refine num_any ?_; conv => whnf) | fail)
      refine ⟨(), rfl, ?_⟩
      rw [hm]
      (conv => whnf); (first | rfl | simp [envCat, List.take_of_length_le, Route.row])
  · rintro e _ rfl
    obtain ⟨hMok, hMs, hMl⟩ := hM
    generalize hmm : metF bits l = m at hMok hMs hMl
    have hmlen : (m.map Route.row).length = m.length := by simp
    (try (conv => whnf)); repeat' (first | refine Ok.seq ?_ | (refine Ok.region tok ?_; conv => whnf) | (refine Ok.region_draw tok follows (by kernel_rfl) ?_; conv => whnf) | (refine Ok.cond ?_; conv => whnf) | refine Ok.block ?_ | (refine Ok.skip ?_; conv => whnf) | (refine Ok.exit ?_; conv => whnf) | (refine Ok.ret ?_; conv => whnf) | (refine num_in (by omega) (by omega) ?_; conv => whnf) | (refine ix _ (by assumption) ?_; conv => whnf) | (refine ixI (by omega) (by assumption) ?_; conv => whnf) | (refine ix_new _ (by omega) fun _ _ => ?_; conv => whnf) | (refine ixI_new (by omega) (by omega) fun _ _ => ?_; conv => whnf) | (refine rd rfl (by assumption) ?_; conv => whnf) | (refine ⟨_, .inl ⟨rfl, rfl⟩, ?_⟩; conv => whnf) | (refine ⟨_, _, rfl, rfl, ?_⟩; conv => whnf) | (refine ⟨fun _ => ?_, fun _ => ?_⟩ <;> (conv => whnf) <;> (try (exfalso; omega))) | (refine And.intro (by first | omega | rfl | (simp; done) | (simp; omega)) ?_; conv => whnf) | (refine num_any ?_; conv => whnf) | fail)
    refine Ok.ghost 7 68 rfl ?_
    (conv => whnf)
    refine Ok.loopU [0, 5] [7, 8] 2 0 (fun (x : List Route × Nat) => [.own 1 x.1.length, .i .i64 (x.2 : Nat)]) (fun _ b => b) (fun (x : List Route × Nat) (_ : Vx.Rows) => [some (68, m.map Route.row), some (68, x.1.map Route.row)]) (fun (x : List Route × Nat) => x.2 ≤ m.length ∧ x.1 = keepF bits m x.2) (fun (x : List Route × Nat) => m.length - x.2) (([], 0)) (⟨Nat.zero_le _, rfl⟩) ?_; (conv => whnf); refine ⟨by ((conv => whnf); first | rfl | simp [envCat, List.take_of_length_le, Route.row]), ?_⟩
    rintro ⟨o, k⟩ ⟨hk, ho⟩
    dsimp only at hk ho ⊢
    have hol := keepF_len bits m k
    rw [← ho] at hol
    by_cases hkl : k < m.length
    · obtain ⟨r, hr⟩ : ∃ r, m[k]? = some r := ⟨_, List.getElem?_eq_getElem hkl⟩
      rcases parF_in hMok hMs hr with hp | ⟨pp, rp, hp, hrp⟩
      · have hkeep : keepR bits m k r := .inl (by omega)
        have hspec := refParent_at hb2 (Nat.le_trans hMl hl) hMok hMs hr (take_all Route.row m) (room := (m.map Route.row).drop m.length)
        rw [hp] at hspec
        (try (conv => whnf)); repeat' (first | refine Ok.seq ?_ | (refine Ok.region tok ?_; conv => whnf) | (refine Ok.region_draw tok follows (by kernel_rfl) ?_; conv => whnf) | (refine Ok.cond ?_; conv => whnf) | refine Ok.block ?_ | (refine Ok.skip ?_; conv => whnf) | (refine Ok.exit ?_; conv => whnf) | (refine Ok.ret ?_; conv => whnf) | (refine num_in (by omega) (by omega) ?_; conv => whnf) | (refine ix _ (by assumption) ?_; conv => whnf) | (refine ixI (by omega) (by assumption) ?_; conv => whnf) | (refine ix_new _ (by omega) fun _ _ => ?_; conv => whnf) | (refine ixI_new (by omega) (by omega) fun _ _ => ?_; conv => whnf) | (refine Or.inl ?_; (conv => whnf); (repeat (refine And.intro (by first | omega | (simp; done) | (simp; omega)) ?_; (conv => whnf))); refine ⟨_, hspec, rfl, ?_⟩; conv => whnf) | (refine ⟨_, hspec, rfl, ?_⟩; conv => whnf) | (refine Or.inr (Or.inl ?_); (conv => whnf); (repeat (refine And.intro (by first | omega | (simp; done) | (simp; omega)) ?_; (conv => whnf))); refine ⟨_, hspec, ?_⟩; rintro _ _ ⟨rfl, rfl⟩; conv => whnf) | (refine rd rfl (by assumption) ?_; conv => whnf) | (refine ⟨_, .inl ⟨rfl, rfl⟩, ?_⟩; conv => whnf) | (refine ⟨_, _, rfl, rfl, ?_⟩; conv => whnf) | (refine ⟨fun _ => ?_, fun _ => ?_⟩ <;> (conv => whnf) <;> (try (exfalso; omega))) | (refine And.intro (by first | omega | rfl | (simp; done) | (simp; omega)) ?_; conv => whnf) | (refine num_any ?_; conv => whnf) | fail)
        refine ⟨(o ++ [r], k + 1), by dsimp only; omega, ⟨by dsimp only; omega, by dsimp only; rw [ho, keepF_succ_pos hr hkeep]⟩, ?_⟩
        (conv => whnf); (first | rfl | simp [envCat, List.take_of_length_le, Route.row])
      · have hspec := refParent_at hb2 (Nat.le_trans hMl hl) hMok hMs hr (take_all Route.row m) (room := (m.map Route.row).drop m.length)
        rw [hp] at hspec
        have hpl := (List.getElem?_eq_some_iff.1 hrp).1
        have hkeep : keepR bits m k r ↔ rp.out ≠ r.out := by
          unfold keepR
          rw [hp]
          constructor
          · rintro (h | h)
            · omega
            · exact h rp hrp
          · intro h
            refine .inr fun rq hq => ?_
            rw [Int.toNat_natCast, hrp] at hq
            cases hq
            exact h
        (try (conv => whnf)); repeat' (first | refine Ok.seq ?_ | (refine Ok.region tok ?_; conv => whnf) | (refine Ok.region_draw tok follows (by kernel_rfl) ?_; conv => whnf) | (refine Ok.cond ?_; conv => whnf) | refine Ok.block ?_ | (refine Ok.skip ?_; conv => whnf) | (refine Ok.exit ?_; conv => whnf) | (refine Ok.ret ?_; conv => whnf) | (refine num_in (by omega) (by omega) ?_; conv => whnf) | (refine ix _ (by assumption) ?_; conv => whnf) | (refine ixI (by omega) (by assumption) ?_; conv => whnf) | (refine ix_new _ (by omega) fun _ _ => ?_; conv => whnf) | (refine ixI_new (by omega) (by omega) fun _ _ => ?_; conv => whnf) | (refine Or.inl ?_; (conv => whnf); (repeat (refine And.intro (by first | omega | (simp; done) | (simp; omega)) ?_; (conv => whnf))); refine ⟨_, hspec, rfl, ?_⟩; conv => whnf) | (refine ⟨_, hspec, rfl, ?_⟩; conv => whnf) | (refine Or.inr (Or.inl ?_); (conv => whnf); (repeat (refine And.intro (by first | omega | (simp; done) | (simp; omega)) ?_; (conv => whnf))); refine ⟨_, hspec, ?_⟩; rintro _ _ ⟨rfl, rfl⟩; conv => whnf) | (refine rd rfl (by assumption) ?_; conv => whnf) | (refine ⟨_, .inl ⟨rfl, rfl⟩, ?_⟩; conv => whnf) | (refine ⟨_, _, rfl, rfl, ?_⟩; conv => whnf) | (refine ⟨fun _ => ?_, fun _ => ?_⟩ <;> (conv => whnf) <;> (try (exfalso; omega))) | (refine And.intro (by first | omega | rfl | (simp; done) | (simp; omega)) ?_; conv => whnf) | (refine num_any ?_; conv => whnf) | fail)
        · rename_i a
          refine ⟨(o ++ [r], k + 1), by dsimp only; omega, ⟨by dsimp only; omega, by dsimp only; rw [ho, keepF_succ_pos hr (hkeep.2 a)]⟩, ?_⟩
          (conv => whnf); (first | rfl | simp [envCat, List.take_of_length_le, Route.row])
        · rename_i a
          refine ⟨(o, k + 1), by dsimp only; omega, ⟨by dsimp only; omega, by dsimp only; rw [ho, keepF_succ_neg hr (fun h => a (hkeep.1 h))]⟩, ?_⟩
          (conv => whnf); (first | rfl | simp [envCat, List.take_of_length_le, Route.row])
    · have hkk : k = m.length := by omega
      subst hkk
      (try (conv => whnf)); repeat' (first | refine Ok.seq ?_ | (refine Ok.region tok ?_; conv => whnf) | (refine Ok.region_draw tok follows (by kernel_rfl) ?_; conv => whnf) | (refine Ok.cond ?_; conv => whnf) | refine Ok.block ?_ | (refine Ok.skip ?_; conv => whnf) | (refine Ok.exit ?_; conv => whnf) | (refine Ok.ret ?_; conv => whnf) | (refine num_in (by omega) (by omega) ?_; conv => whnf) | (refine ix _ (by assumption) ?_; conv => whnf) | (refine ixI (by omega) (by assumption) ?_; conv => whnf) | (refine ix_new _ (by omega) fun _ _ => ?_; conv => whnf) | (refine ixI_new (by omega) (by omega) fun _ _ => ?_; conv => whnf) | (refine rd rfl (by assumption) ?_; conv => whnf) | (refine ⟨_, .inl ⟨rfl, rfl⟩, ?_⟩; conv => whnf) | (refine ⟨_, _, rfl, rfl, ?_⟩; conv => whnf) | (refine ⟨fun _ => ?_, fun _ => ?_⟩ <;> (conv => whnf) <;> (try (exfalso; omega))) | (refine And.intro (by first | omega | rfl | (simp; done) | (simp; omega)) ?_; conv => whnf) | (refine num_any ?_; conv => whnf) | fail)
      refine Or.inl ?_; (conv => whnf)
      refine ⟨rfl, ?_⟩
      have : slimF bits l = o := by unfold slimF; rw [hmm, ho]
      rw [this]
      simp [oneD, List.take_of_length_le]

noncomputable def slimE (bits : Int) (l : List Route) : List Route := if checkE bits l ≠ 0 then [] else slimF bits (ordF l)
theorem ordF_ok {bits : Int} {l : List Route} (h : checkE bits l = 0) (hex : ∃ os, IsOrd l os) : (∀ r ∈ ordF l, okR bits r) ∧ (ordF l).Pairwise preR ∧ (ordF l).length ≤ 256 := by
  obtain ⟨hl, hb1, hb2, hok⟩ := checkE_ok h
  obtain ⟨os, hos⟩ := hex
  rw [ordF_eq hos]
  have := ord_len hos
  exact ⟨ord_ok hos hok, ord_pre hos, by simp; omega⟩
theorem insert_sorted (x : Num) : ∀ (ps : List Num), ps.Pairwise (fun a b => ¬ firstP b a) → ∃ qs : List Num, qs.Perm (x :: ps) ∧ qs.Pairwise (fun a b => ¬ firstP b a)
  | [], _ => ⟨[x], .refl _, by simp⟩
  | p :: ps, h => by
    rw [List.pairwise_cons] at h
    by_cases hx : firstP x p
    · refine ⟨x :: p :: ps, .refl _, ?_⟩
      rw [List.pairwise_cons]
      refine ⟨fun y hy => ?_, List.pairwise_cons.2 h⟩
      rcases List.mem_cons.1 hy with rfl | hy
      · exact first_swo.asymm _ _ hx
      · exact first_swo.trans _ _ _ (first_swo.asymm _ _ hx) (h.1 y hy)
    · obtain ⟨qs, h1, h2⟩ := insert_sorted x ps h.2
      refine ⟨p :: qs, (h1.cons p).trans (List.Perm.swap ..), ?_⟩
      rw [List.pairwise_cons]
      refine ⟨fun y hy => ?_, h2⟩
      rcases List.mem_cons.1 (h1.subset hy) with rfl | hy
      · exact hx
      · exact h.1 y hy
theorem sorted_ex : ∀ (l : List Num), ∃ ps : List Num, ps.Perm l ∧ ps.Pairwise (fun a b => ¬ firstP b a)
  | [] => ⟨[], .refl _, by simp⟩
  | x :: l => by
    obtain ⟨ps, h1, h2⟩ := sorted_ex l
    obtain ⟨qs, h3, h4⟩ := insert_sorted x ps h2
    exact ⟨qs, h3.trans (h1.cons x), h4⟩
theorem ord_ex (l : List Route) : ∃ os, IsOrd l os := by
  obtain ⟨ps, h1, h2⟩ := sorted_ex (numb l)
  exact ⟨_, dd_ord h1 h2⟩

set_option maxRecDepth 100000 in
theorem refSlim_spec (bits : Int) (l : List Route) (room : List (List D)) : FSpec Try.prog T 27 [.i .i64 bits, .lst 68 (l.map Route.row) room] (fun d rows => rows = [] ∧ d = .tup [.lst 68 ((slimE bits l).map Route.row) [], .i .i64 (checkE bits l)]) := by
  refine FSpec.of_ok tok Try.func27 rfl Try.call27 (by simp) ?_
  (try (conv => whnf)); repeat' (first | refine Ok.seq ?_ | (refine Ok.region tok ?_; conv => whnf) | (refine Ok.region_draw tok follows (by kernel_rfl) ?_; conv => whnf) | (refine Ok.cond ?_; conv => whnf) | refine Ok.block ?_ | (refine Ok.skip ?_; conv => whnf) | (refine Ok.exit ?_; conv => whnf) | (refine Ok.ret ?_; conv => whnf) | (refine num_in (by omega) (by omega) ?_; conv => whnf) | (refine ix _ (by assumption) ?_; conv => whnf) | (refine ixI (by omega) (by assumption) ?_; conv => whnf) | (refine ix_new _ (by omega) fun _ _ => ?_; conv => whnf) | (refine ixI_new (by omega) (by omega) fun _ _ => ?_; conv => whnf) | (refine Or.inl ?_; (conv => whnf); (repeat (refine And.intro (by first | omega | (simp; done) | (simp; omega)) ?_; (conv => whnf))); refine ⟨_, fit_spec bits l room, rfl, ?_⟩; conv => whnf) | (refine ⟨_, fit_spec bits l room, rfl, ?_⟩; conv => whnf) | (refine Or.inr (Or.inl ?_); (conv => whnf); (repeat (refine And.intro (by first | omega | (simp; done) | (simp; omega)) ?_; (conv => whnf))); refine ⟨_, fit_spec bits l room, ?_⟩; rintro _ _ ⟨rfl, rfl⟩; conv => whnf) | (refine rd rfl (by assumption) ?_; conv => whnf) | (refine ⟨_, .inl ⟨rfl, rfl⟩, ?_⟩; conv => whnf) | (refine ⟨_, _, rfl, rfl, ?_⟩; conv => whnf) | (refine ⟨fun _ => ?_, fun _ => ?_⟩ <;> (conv => whnf) <;> (try (exfalso; omega))) | (refine And.intro (by first | omega | rfl | (simp; done) | (simp; omega)) ?_; conv => whnf) | (refine num_any ?_; conv => whnf) | fail)
  · rename_i h1
    refine Or.inl ?_; (conv => whnf)
    simp [oneD, slimE, h1]
  rename_i h1
  have h1 : checkE bits l = 0 := Classical.not_not.1 h1
  obtain ⟨hl, hb1, hb2, hok⟩ := checkE_ok h1
  obtain ⟨o1, o2, o3⟩ := ordF_ok h1 (ord_ex l)
  have hE : slimE bits l = slimF bits (ordF l) := by unfold slimE; rw [if_neg (by omega)]
  (try (conv => whnf)); repeat' (first | refine Ok.seq ?_ | (refine Ok.region tok ?_; conv => whnf) | (refine Ok.region_draw tok follows (by kernel_rfl) ?_; conv => whnf) | (refine Ok.cond ?_; conv => whnf) | refine Ok.block ?_ | (refine Ok.skip ?_; conv => whnf) | (refine Ok.exit ?_; conv => whnf) | (refine Ok.ret ?_; conv => whnf) | (refine num_in (by omega) (by omega) ?_; conv => whnf) | (refine ix _ (by assumption) ?_; conv => whnf) | (refine ixI (by omega) (by assumption) ?_; conv => whnf) | (refine ix_new _ (by omega) fun _ _ => ?_; conv => whnf) | (refine ixI_new (by omega) (by omega) fun _ _ => ?_; conv => whnf) | (refine Or.inl ?_; (conv => whnf); (repeat (refine And.intro (by first | omega | (simp; done) | (simp; omega)) ?_; (conv => whnf))); refine ⟨_, refOrderL_spec l room (by omega), rfl, ?_⟩; conv => whnf) | (refine Or.inl ?_; (conv => whnf); (repeat (refine And.intro (by first | omega | (simp; done) | (simp; omega)) ?_; (conv => whnf))); refine ⟨_, refSlimL_at hb1 hb2 o3 o1 o2 rfl, rfl, ?_⟩; conv => whnf) | (refine ⟨_, refOrderL_spec l room (by omega), rfl, ?_⟩; conv => whnf) | (refine ⟨_, refSlimL_at hb1 hb2 o3 o1 o2 rfl, rfl, ?_⟩; conv => whnf) | (refine Or.inr (Or.inl ?_); (conv => whnf); (repeat (refine And.intro (by first | omega | (simp; done) | (simp; omega)) ?_; (conv => whnf))); refine ⟨_, refOrderL_spec l room (by omega), ?_⟩; rintro _ _ ⟨rfl, rfl⟩; conv => whnf) | (refine Or.inr (Or.inl ?_); (conv => whnf); (repeat (refine And.intro (by first | omega | (simp; done) | (simp; omega)) ?_; (conv => whnf))); refine ⟨_, refSlimL_at hb1 hb2 o3 o1 o2 rfl, ?_⟩; rintro _ _ ⟨rfl, rfl⟩; conv => whnf) | (refine rd rfl (by assumption) ?_; conv => whnf) | (refine ⟨_, .inl ⟨rfl, rfl⟩, ?_⟩; conv => whnf) | (refine ⟨_, _, rfl, rfl, ?_⟩; conv => whnf) | (refine ⟨fun _ => ?_, fun _ => ?_⟩ <;> (conv => whnf) <;> (try (exfalso; omega))) | (refine And.intro (by first | omega | rfl | (simp; done) | (simp; omega)) ?_; conv => whnf) | (refine num_any ?_; conv => whnf) | fail)
  refine Or.inl ?_; (conv => whnf)
  simp [oneD, hE, h1]

set_option maxRecDepth 100000 in
theorem Slim_at (bits : Int) (l : List Route) {rows room : List (List D)} (he : rows = l.map Route.row) : FSpec Try.prog T 26 [.i .i64 bits, .lst 68 rows room] (fun d rows => rows = [some (68, (slimE bits l).map Route.row)] ∧ d = .tup [.own 0 (slimE bits l).length, .i .i64 (checkE bits l)]) := by
  subst he
  refine FSpec.of_ok tok Try.func26 rfl Try.call26 (by simp) ?_
  (try (conv => whnf)); repeat' (first | refine Ok.seq ?_ | (refine Ok.region tok ?_; conv => whnf) | (refine Ok.region_draw tok follows (by kernel_rfl) ?_; conv => whnf) | (refine Ok.cond ?_; conv => whnf) | refine Ok.block ?_ | (refine Ok.skip ?_; conv => whnf) | (refine Ok.exit ?_; conv => whnf) | (refine Ok.ret ?_; conv => whnf) | (refine num_in (by omega) (by omega) ?_; conv => whnf) | (refine ix _ (by assumption) ?_; conv => whnf) | (refine ixI (by omega) (by assumption) ?_; conv => whnf) | (refine ix_new _ (by omega) fun _ _ => ?_; conv => whnf) | (refine ixI_new (by omega) (by omega) fun _ _ => ?_; conv => whnf) | (refine Or.inl ?_; (conv => whnf); (repeat (refine And.intro (by first | omega | (simp; done) | (simp; omega)) ?_; (conv => whnf))); refine ⟨_, Order_at bits l rfl, rfl, ?_⟩; conv => whnf) | (refine ⟨_, Order_at bits l rfl, rfl, ?_⟩; conv => whnf) | (refine Or.inr (Or.inl ?_); (conv => whnf); (repeat (refine And.intro (by first | omega | (simp; done) | (simp; omega)) ?_; (conv => whnf))); refine ⟨_, Order_at bits l rfl, ?_⟩; rintro _ _ ⟨rfl, rfl⟩; conv => whnf) | (refine rd rfl (by assumption) ?_; conv => whnf) | (refine ⟨_, .inl ⟨rfl, rfl⟩, ?_⟩; conv => whnf) | (refine ⟨_, _, rfl, rfl, ?_⟩; conv => whnf) | (refine ⟨fun _ => ?_, fun _ => ?_⟩ <;> (conv => whnf) <;> (try (exfalso; omega))) | (refine And.intro (by first | omega | rfl | (simp; done) | (simp; omega)) ?_; conv => whnf) | (refine num_any ?_; conv => whnf) | fail)
  · rename_i h1
    refine Or.inr (Or.inr ?_); (conv => whnf)
    simp [oneD, slimE, h1]
  rename_i h1
  have h1 : checkE bits l = 0 := Classical.not_not.1 h1
  obtain ⟨hl, hb1, hb2, hok⟩ := checkE_ok h1
  obtain ⟨o1, o2, o3⟩ := ordF_ok h1 (ord_ex l)
  have hE : slimE bits l = slimF bits (ordF l) := by unfold slimE; rw [if_neg (by omega)]
  have hO : ordE bits l = ordF l := by unfold ordE; rw [if_neg (by omega)]
  rw [hO, hE, h1]
  generalize ordF l = a at o1 o2 o3 ⊢
  have hal : (a.map Route.row).length = a.length := by simp
  obtain ⟨hMok, hMs, hMl⟩ := metF_ok o1 o2
  refine Ok.ghost 8 68 rfl ?_
  (conv => whnf)
  refine Ok.joinU [0, 9] [8] 2 0 (fun (x : Unit) => [.own 1 (metF bits a).length]) (fun _ b => b) (fun (x : Unit) (_ : Vx.Rows) => [some (68, a.map Route.row), some (68, (metF bits a).map Route.row)]) (fun e (x : Unit) => e = .exit 0) ?_; (conv => whnf); refine And.intro ?_ ?_
  · refine Ok.loopU [0, 6, 9, 24, 25] [8, 26] 2 0 (fun (x : List Route × Nat) => [.own 1 x.1.length, .i .i64 (x.2 : Nat)]) (fun _ b => b) (fun (x : List Route × Nat) (_ : Vx.Rows) => [some (68, a.map Route.row), some (68, x.1.map Route.row)]) (fun (x : List Route × Nat) => x.2 ≤ a.length ∧ x.1 = metG bits a (a.take x.2)) (fun (x : List Route × Nat) => a.length - x.2) (([], 0)) (⟨Nat.zero_le _, by simp [metG]⟩) ?_; (conv => whnf); refine ⟨by ((conv => whnf); first | rfl | simp [envCat, List.take_of_length_le, Route.row]), ?_⟩
    rintro ⟨m, k⟩ ⟨hk, hm⟩
    dsimp only at hk hm ⊢
    have hml : m.length ≤ k := by rw [hm]; exact metG_take hk
    by_cases hkl : k < a.length
    · obtain ⟨r, hr⟩ : ∃ r, a[k]? = some r := ⟨_, List.getElem?_eq_getElem hkl⟩
      (try (conv => whnf)); repeat' (first | refine Ok.seq ?_ | (refine Ok.region tok ?_; conv => whnf) | (refine Ok.region_draw tok follows (by kernel_rfl) ?_; conv => whnf) | (refine Ok.cond ?_; conv => whnf) | refine Ok.block ?_ | (refine Ok.skip ?_; conv => whnf) | (refine Ok.exit ?_; conv => whnf) | (refine Ok.ret ?_; conv => whnf) | (refine num_in (by omega) (by omega) ?_; conv => whnf) | (refine ix _ (by assumption) ?_; conv => whnf) | (refine ixI (by omega) (by assumption) ?_; conv => whnf) | (refine ix_new _ (by omega) fun _ _ => ?_; conv => whnf) | (refine ixI_new (by omega) (by omega) fun _ _ => ?_; conv => whnf) | (refine Or.inl ?_; (conv => whnf); (repeat (refine And.intro (by first | omega | (simp; done) | (simp; omega)) ?_; (conv => whnf))); refine ⟨_, halves_at hb1 hb2 o3 o1 (o1 r (List.mem_of_getElem? hr)) (take_all _ _), rfl, ?_⟩; conv => whnf) | (refine ⟨_, halves_at hb1 hb2 o3 o1 (o1 r (List.mem_of_getElem? hr)) (take_all _ _), rfl, ?_⟩; conv => whnf) | (refine Or.inr (Or.inl ?_); (conv => whnf); (repeat (refine And.intro (by first | omega | (simp; done) | (simp; omega)) ?_; (conv => whnf))); refine ⟨_, halves_at hb1 hb2 o3 o1 (o1 r (List.mem_of_getElem? hr)) (take_all _ _), ?_⟩; rintro _ _ ⟨rfl, rfl⟩; conv => whnf) | (refine rd rfl (by assumption) ?_; conv => whnf) | (refine ⟨_, .inl ⟨rfl, rfl⟩, ?_⟩; conv => whnf) | (refine ⟨_, _, rfl, rfl, ?_⟩; conv => whnf) | (refine ⟨fun _ => ?_, fun _ => ?_⟩ <;> (conv => whnf) <;> (try (exfalso; omega))) | (refine And.intro (by first | omega | rfl | (simp; done) | (simp; omega)) ?_; conv => whnf) | (refine num_any ?_; conv => whnf) | fail)
      · rename_i b
        refine ⟨(m ++ [r], k + 1), by dsimp only; omega, ⟨by dsimp only; omega, by dsimp only; rw [hm, metG_pos hr b]⟩, ?_⟩
        (conv => whnf); (first | rfl | simp [envCat, List.take_of_length_le, Route.row])
      · rename_i b
        refine ⟨(m, k + 1), by dsimp only; omega, ⟨by dsimp only; omega, by dsimp only; rw [hm, metG_neg hr (Classical.not_not.1 b)]⟩, ?_⟩
        (conv => whnf); (first | rfl | simp [envCat, List.take_of_length_le, Route.row])
    · have hkk : k = a.length := by omega
      subst hkk
      rw [List.take_length] at hm
      (try (conv => whnf)); repeat' (first | refine Ok.seq ?_ | (refine Ok.region tok ?_; conv => whnf) | (refine Ok.region_draw tok follows (by kernel_rfl) ?_; conv => whnf) | (refine Ok.cond ?_; conv => whnf) | refine Ok.block ?_ | (refine Ok.skip ?_; conv => whnf) | (refine Ok.exit ?_; conv => whnf) | (refine Ok.ret ?_; conv => whnf) | (refine num_in (by omega) (by omega) ?_; conv => whnf) | (refine ix _ (by assumption) ?_; conv => whnf) | (refine ixI (by omega) (by assumption) ?_; conv => whnf) | (refine ix_new _ (by omega) fun _ _ => ?_; conv => whnf) | (refine ixI_new (by omega) (by omega) fun _ _ => ?_; conv => whnf) | (refine rd rfl (by assumption) ?_; conv => whnf) | (refine ⟨_, .inl ⟨rfl, rfl⟩, ?_⟩; conv => whnf) | (refine ⟨_, _, rfl, rfl, ?_⟩; conv => whnf) | (refine ⟨fun _ => ?_, fun _ => ?_⟩ <;> (conv => whnf) <;> (try (exfalso; omega))) | (refine And.intro (by first | omega | rfl | (simp; done) | (simp; omega)) ?_; conv => whnf) | (refine num_any ?_; conv => whnf) | fail)
      refine ⟨(), rfl, ?_⟩
      rw [hm]
      (conv => whnf); (first | rfl | simp [envCat, List.take_of_length_le, Route.row])
  · rintro e _ rfl
    generalize hmm : metF bits a = m at hMok hMs hMl
    have hmlen : (m.map Route.row).length = m.length := by simp
    (try (conv => whnf)); repeat' (first | refine Ok.seq ?_ | (refine Ok.region tok ?_; conv => whnf) | (refine Ok.region_draw tok follows (by kernel_rfl) ?_; conv => whnf) | (refine Ok.cond ?_; conv => whnf) | refine Ok.block ?_ | (refine Ok.skip ?_; conv => whnf) | (refine Ok.exit ?_; conv => whnf) | (refine Ok.ret ?_; conv => whnf) | (refine num_in (by omega) (by omega) ?_; conv => whnf) | (refine ix _ (by assumption) ?_; conv => whnf) | (refine ixI (by omega) (by assumption) ?_; conv => whnf) | (refine ix_new _ (by omega) fun _ _ => ?_; conv => whnf) | (refine ixI_new (by omega) (by omega) fun _ _ => ?_; conv => whnf) | (refine rd rfl (by assumption) ?_; conv => whnf) | (refine ⟨_, .inl ⟨rfl, rfl⟩, ?_⟩; conv => whnf) | (refine ⟨_, _, rfl, rfl, ?_⟩; conv => whnf) | (refine ⟨fun _ => ?_, fun _ => ?_⟩ <;> (conv => whnf) <;> (try (exfalso; omega))) | (refine And.intro (by first | omega | rfl | (simp; done) | (simp; omega)) ?_; conv => whnf) | (refine num_any ?_; conv => whnf) | fail)
    refine Ok.ghost 9 68 rfl ?_
    (conv => whnf)
    refine Ok.loopU [0, 8, 43, 44] [9, 45] 3 0 (fun (x : List Route × Nat) => [.own 2 x.1.length, .i .i64 (x.2 : Nat)]) (fun _ b => b) (fun (x : List Route × Nat) (_ : Vx.Rows) => [some (68, a.map Route.row), some (68, m.map Route.row), some (68, x.1.map Route.row)]) (fun (x : List Route × Nat) => x.2 ≤ m.length ∧ x.1 = keepF bits m x.2) (fun (x : List Route × Nat) => m.length - x.2) (([], 0)) (⟨Nat.zero_le _, rfl⟩) ?_; (conv => whnf); refine ⟨by ((conv => whnf); first | rfl | simp [envCat, List.take_of_length_le, Route.row]), ?_⟩
    rintro ⟨o, k⟩ ⟨hk, ho⟩
    dsimp only at hk ho ⊢
    have hol := keepF_len bits m k
    rw [← ho] at hol
    by_cases hkl : k < m.length
    · obtain ⟨r, hr⟩ : ∃ r, m[k]? = some r := ⟨_, List.getElem?_eq_getElem hkl⟩
      have hspec := parent_at hb2 (Nat.le_trans hMl o3) hMok hMs hr (take_all Route.row m) (room := (m.map Route.row).drop m.length)
      rcases parF_in hMok hMs hr with hp | ⟨pp, rp, hp, hrp⟩
      · have hkeep : keepR bits m k r := .inl (by omega)
        rw [hp] at hspec
        (try (conv => whnf)); repeat' (first | refine Ok.seq ?_ | (refine Ok.region tok ?_; conv => whnf) | (refine Ok.region_draw tok follows (by kernel_rfl) ?_; conv => whnf) | (refine Ok.cond ?_; conv => whnf) | refine Ok.block ?_ | (refine Ok.skip ?_; conv => whnf) | (refine Ok.exit ?_; conv => whnf) | (refine Ok.ret ?_; conv => whnf) | (refine num_in (by omega) (by omega) ?_; conv => whnf) | (refine ix _ (by assumption) ?_; conv => whnf) | (refine ixI (by omega) (by assumption) ?_; conv => whnf) | (refine ix_new _ (by omega) fun _ _ => ?_; conv => whnf) | (refine ixI_new (by omega) (by omega) fun _ _ => ?_; conv => whnf) | (refine Or.inl ?_; (conv => whnf); (repeat (refine And.intro (by first | omega | (simp; done) | (simp; omega)) ?_; (conv => whnf))); refine ⟨_, hspec, rfl, ?_⟩; conv => whnf) | (refine ⟨_, hspec, rfl, ?_⟩; conv => whnf) | (refine Or.inr (Or.inl ?_); (conv => whnf); (repeat (refine And.intro (by first | omega | (simp; done) | (simp; omega)) ?_; (conv => whnf))); refine ⟨_, hspec, ?_⟩; rintro _ _ ⟨rfl, rfl⟩; conv => whnf) | (refine rd rfl (by assumption) ?_; conv => whnf) | (refine ⟨_, .inl ⟨rfl, rfl⟩, ?_⟩; conv => whnf) | (refine ⟨_, _, rfl, rfl, ?_⟩; conv => whnf) | (refine ⟨fun _ => ?_, fun _ => ?_⟩ <;> (conv => whnf) <;> (try (exfalso; omega))) | (refine And.intro (by first | omega | rfl | (simp; done) | (simp; omega)) ?_; conv => whnf) | (refine num_any ?_; conv => whnf) | fail)
        refine ⟨(o ++ [r], k + 1), by dsimp only; omega, ⟨by dsimp only; omega, by dsimp only; rw [ho, keepF_succ_pos hr hkeep]⟩, ?_⟩
        (conv => whnf); (first | rfl | simp [envCat, List.take_of_length_le, Route.row])
      · rw [hp] at hspec
        have hpl := (List.getElem?_eq_some_iff.1 hrp).1
        have hkeep : keepR bits m k r ↔ rp.out ≠ r.out := by
          unfold keepR
          rw [hp]
          constructor
          · rintro (h | h)
            · omega
            · exact h rp hrp
          · intro h
            refine .inr fun rq hq => ?_
            rw [Int.toNat_natCast, hrp] at hq
            cases hq
            exact h
        (try (conv => whnf)); repeat' (first | refine Ok.seq ?_ | (refine Ok.region tok ?_; conv => whnf) | (refine Ok.region_draw tok follows (by kernel_rfl) ?_; conv => whnf) | (refine Ok.cond ?_; conv => whnf) | refine Ok.block ?_ | (refine Ok.skip ?_; conv => whnf) | (refine Ok.exit ?_; conv => whnf) | (refine Ok.ret ?_; conv => whnf) | (refine num_in (by omega) (by omega) ?_; conv => whnf) | (refine ix _ (by assumption) ?_; conv => whnf) | (refine ixI (by omega) (by assumption) ?_; conv => whnf) | (refine ix_new _ (by omega) fun _ _ => ?_; conv => whnf) | (refine ixI_new (by omega) (by omega) fun _ _ => ?_; conv => whnf) | (refine Or.inl ?_; (conv => whnf); (repeat (refine And.intro (by first | omega | (simp; done) | (simp; omega)) ?_; (conv => whnf))); refine ⟨_, hspec, rfl, ?_⟩; conv => whnf) | (refine ⟨_, hspec, rfl, ?_⟩; conv => whnf) | (refine Or.inr (Or.inl ?_); (conv => whnf); (repeat (refine And.intro (by first | omega | (simp; done) | (simp; omega)) ?_; (conv => whnf))); refine ⟨_, hspec, ?_⟩; rintro _ _ ⟨rfl, rfl⟩; conv => whnf) | (refine rd rfl (by assumption) ?_; conv => whnf) | (refine ⟨_, .inl ⟨rfl, rfl⟩, ?_⟩; conv => whnf) | (refine ⟨_, _, rfl, rfl, ?_⟩; conv => whnf) | (refine ⟨fun _ => ?_, fun _ => ?_⟩ <;> (conv => whnf) <;> (try (exfalso; omega))) | (refine And.intro (by first | omega | rfl | (simp; done) | (simp; omega)) ?_; conv => whnf) | (refine num_any ?_; conv => whnf) | fail)
        · rename_i b
          refine ⟨(o ++ [r], k + 1), by dsimp only; omega, ⟨by dsimp only; omega, by dsimp only; rw [ho, keepF_succ_pos hr (hkeep.2 b)]⟩, ?_⟩
          (conv => whnf); (first | rfl | simp [envCat, List.take_of_length_le, Route.row])
        · rename_i b
          refine ⟨(o, k + 1), by dsimp only; omega, ⟨by dsimp only; omega, by dsimp only; rw [ho, keepF_succ_neg hr (fun h => b (hkeep.1 h))]⟩, ?_⟩
          (conv => whnf); (first | rfl | simp [envCat, List.take_of_length_le, Route.row])
    · have hkk : k = m.length := by omega
      subst hkk
      (try (conv => whnf)); repeat' (first | refine Ok.seq ?_ | (refine Ok.region tok ?_; conv => whnf) | (refine Ok.region_draw tok follows (by kernel_rfl) ?_; conv => whnf) | (refine Ok.cond ?_; conv => whnf) | refine Ok.block ?_ | (refine Ok.skip ?_; conv => whnf) | (refine Ok.exit ?_; conv => whnf) | (refine Ok.ret ?_; conv => whnf) | (refine num_in (by omega) (by omega) ?_; conv => whnf) | (refine ix _ (by assumption) ?_; conv => whnf) | (refine ixI (by omega) (by assumption) ?_; conv => whnf) | (refine ix_new _ (by omega) fun _ _ => ?_; conv => whnf) | (refine ixI_new (by omega) (by omega) fun _ _ => ?_; conv => whnf) | (refine rd rfl (by assumption) ?_; conv => whnf) | (refine ⟨_, .inl ⟨rfl, rfl⟩, ?_⟩; conv => whnf) | (refine ⟨_, _, rfl, rfl, ?_⟩; conv => whnf) | (refine ⟨fun _ => ?_, fun _ => ?_⟩ <;> (conv => whnf) <;> (try (exfalso; omega))) | (refine And.intro (by first | omega | rfl | (simp; done) | (simp; omega)) ?_; conv => whnf) | (refine num_any ?_; conv => whnf) | fail)
      refine Or.inr (Or.inl ?_); (conv => whnf)
      have : slimF bits a = o := by unfold slimF; rw [hmm, ho]
      rw [this]
      exact ⟨rfl, rfl⟩

theorem slims_law (bits : Int) (l : List Route) (room : List (List D)) : FSpec Try.prog T 6 [.i .i64 bits, .lst 68 (l.map Route.row) room] (fun d _ => d = .b True) := by
  refine FSpec.of_ok tok Try.func6 rfl Try.call6 (by simp) ?_
  have hll : (l.map Route.row).length = l.length := by simp
  (try (conv => whnf)); repeat' (first | refine Ok.seq ?_ | (refine Ok.region tok ?_; conv => whnf) | (refine Ok.region_draw tok follows (by kernel_rfl) ?_; conv => whnf) | (refine Ok.cond ?_; conv => whnf) | refine Ok.block ?_ | (refine Ok.skip ?_; conv => whnf) | (refine Ok.exit ?_; conv => whnf) | (refine Ok.ret ?_; conv => whnf) | (refine num_in (by omega) (by omega) ?_; conv => whnf) | (refine ix _ (by assumption) ?_; conv => whnf) | (refine ixI (by omega) (by assumption) ?_; conv => whnf) | (refine ix_new _ (by omega) fun _ _ => ?_; conv => whnf) | (refine ixI_new (by omega) (by omega) fun _ _ => ?_; conv => whnf) | (refine rd rfl (by assumption) ?_; conv => whnf) | (refine ⟨_, .inl ⟨rfl, rfl⟩, ?_⟩; conv => whnf) | (refine ⟨_, _, rfl, rfl, ?_⟩; conv => whnf) | (refine ⟨fun _ => ?_, fun _ => ?_⟩ <;> (conv => whnf) <;> (try (exfalso; omega))) | (refine And.intro (by first | omega | rfl | (simp; done) | (simp; omega)) ?_; conv => whnf) | (refine num_any ?_; conv => whnf) | fail)
  · refine Or.inl ?_; (conv => whnf)
    rfl
  right
  left
  (conv => whnf)
  refine ⟨_, copied_spec l room (by omega), ?_⟩
  rintro d rows ⟨rfl, rfl⟩
  have hcl := chg_len l
  have e1 : ((l ++ [mk 91, mk 92]).map Route.row).take l.length = l.map Route.row := by simp
  have e2 : ((l ++ [mk 91, mk 92]).map Route.row).drop l.length = [(mk 91).row, (mk 92).row] := by simp
  have e3 : ((chg l ++ [mk 91, mk 92]).map Route.row).take l.length = (chg l).map Route.row := by rw [← hcl]; simp
  have e4 : ((chg l ++ [mk 91, mk 92]).map Route.row).drop l.length = [(mk 91).row, (mk 92).row] := by rw [← hcl]; simp
  (try (conv => whnf)); repeat' (first | refine Ok.seq ?_ | (refine Ok.region tok ?_; conv => whnf) | (refine Ok.region_draw tok follows (by kernel_rfl) ?_; conv => whnf) | (refine Ok.cond ?_; conv => whnf) | refine Ok.block ?_ | (refine Ok.skip ?_; conv => whnf) | (refine Ok.exit ?_; conv => whnf) | (refine Ok.ret ?_; conv => whnf) | (refine num_in (by omega) (by omega) ?_; conv => whnf) | (refine ix _ (by assumption) ?_; conv => whnf) | (refine ixI (by omega) (by assumption) ?_; conv => whnf) | (refine ix_new _ (by omega) fun _ _ => ?_; conv => whnf) | (refine ixI_new (by omega) (by omega) fun _ _ => ?_; conv => whnf) | (refine Or.inl ?_; (conv => whnf); (repeat (refine And.intro (by first | omega | (simp; done) | (simp; omega)) ?_; (conv => whnf))); refine ⟨_, refSlim_spec _ _ _, rfl, ?_⟩; conv => whnf) | (refine Or.inl ?_; (conv => whnf); (repeat (refine And.intro (by first | omega | (simp; done) | (simp; omega)) ?_; (conv => whnf))); refine ⟨_, num_spec _, rfl, ?_⟩; conv => whnf) | (refine Or.inl ?_; (conv => whnf); (repeat (refine And.intro (by first | omega | (simp; done) | (simp; omega)) ?_; (conv => whnf))); refine ⟨_, alike_at (slimE bits l) (take_all _ _) rfl, rfl, ?_⟩; conv => whnf) | (refine Or.inl ?_; (conv => whnf); (repeat (refine And.intro (by first | omega | (simp; done) | (simp; omega)) ?_; (conv => whnf))); refine ⟨_, untouched_at l (by omega) e1 e2 rfl, rfl, ?_⟩; conv => whnf) | (refine Or.inl ?_; (conv => whnf); (repeat (refine And.intro (by first | omega | (simp; done) | (simp; omega)) ?_; (conv => whnf))); refine ⟨_, changed_spec l room (by omega), rfl, ?_⟩; conv => whnf) | (refine ⟨_, refSlim_spec _ _ _, rfl, ?_⟩; conv => whnf) | (refine ⟨_, num_spec _, rfl, ?_⟩; conv => whnf) | (refine ⟨_, alike_at (slimE bits l) (take_all _ _) rfl, rfl, ?_⟩; conv => whnf) | (refine ⟨_, untouched_at l (by omega) e1 e2 rfl, rfl, ?_⟩; conv => whnf) | (refine ⟨_, changed_spec l room (by omega), rfl, ?_⟩; conv => whnf) | (refine Or.inr (Or.inl ?_); (conv => whnf); (repeat (refine And.intro (by first | omega | (simp; done) | (simp; omega)) ?_; (conv => whnf))); refine ⟨_, refSlim_spec _ _ _, ?_⟩; rintro _ _ ⟨rfl, rfl⟩; conv => whnf) | (refine Or.inr (Or.inl ?_); (conv => whnf); (repeat (refine And.intro (by first | omega | (simp; done) | (simp; omega)) ?_; (conv => whnf))); refine ⟨_, num_spec _, ?_⟩; rintro _ _ ⟨rfl, rfl⟩; conv => whnf) | (refine Or.inr (Or.inl ?_); (conv => whnf); (repeat (refine And.intro (by first | omega | (simp; done) | (simp; omega)) ?_; (conv => whnf))); refine ⟨_, alike_at (slimE bits l) (take_all _ _) rfl, ?_⟩; rintro _ _ ⟨rfl, rfl⟩; conv => whnf) | (refine Or.inr (Or.inl ?_); (conv => whnf); (repeat (refine And.intro (by first | omega | (simp; done) | (simp; omega)) ?_; (conv => whnf))); refine ⟨_, untouched_at l (by omega) e1 e2 rfl, ?_⟩; rintro _ _ ⟨rfl, rfl⟩; conv => whnf) | (refine Or.inr (Or.inl ?_); (conv => whnf); (repeat (refine And.intro (by first | omega | (simp; done) | (simp; omega)) ?_; (conv => whnf))); refine ⟨_, changed_spec l room (by omega), ?_⟩; rintro _ _ ⟨rfl, rfl⟩; conv => whnf) | (refine Or.inr (Or.inr (Or.inr ?_)); (conv => whnf); (repeat (refine And.intro (by first | omega | (simp; done) | (simp; omega)) ?_; (conv => whnf))); refine ⟨_, Slim_at bits l e1, ?_⟩; rintro _ _ ⟨rfl, rfl⟩ <;> (refine And.intro (by simp [gRowsP, grounds, D.ground, Route.row]) ?_; conv => whnf)) | (refine Or.inr (Or.inr ?_); (conv => whnf); (repeat (refine And.intro (by first | omega | (simp; done) | (simp; omega)) ?_; (conv => whnf))); refine ⟨_, Slim_at bits l e1, ?_⟩; rintro _ _ ⟨rfl, rfl⟩ <;> (refine And.intro (by simp [gRowsP, grounds, D.ground, Route.row]) ?_; conv => whnf)) | (refine rd rfl (by assumption) ?_; conv => whnf) | (refine ⟨_, .inl ⟨rfl, rfl⟩, ?_⟩; conv => whnf) | (refine ⟨_, _, rfl, rfl, ?_⟩; conv => whnf) | (refine ⟨fun _ => ?_, fun _ => ?_⟩ <;> (conv => whnf) <;> (try (exfalso; omega))) | (refine And.intro (by first | omega | rfl | (simp; done) | (simp; omega)) ?_; conv => whnf) | (refine num_any ?_; conv => whnf) | fail)
  refine Or.inr (Or.inr (Or.inl ?_)); (conv => whnf); refine ⟨_, _, Try.func23, rfl, Try.call23, ?_⟩; (conv => whnf)
  refine Ok.joinU [18, 23, 28] [] 2 0 (fun (x : Unit) => []) (fun _ b => b) (fun (x : Unit) (_ : Vx.Rows) => [some (68, (chg l ++ [mk 91, mk 92]).map Route.row), some (68, (slimE bits l).map Route.row)]) (fun e (x : Unit) => e = .normal) ?_; (conv => whnf); refine And.intro ?_ ?_
  · (try (conv => whnf)); repeat' (first | refine Ok.seq ?_ | (refine Ok.region tok ?_; conv => whnf) | (refine Ok.region_draw tok follows (by kernel_rfl) ?_; conv => whnf) | (refine Ok.cond ?_; conv => whnf) | refine Ok.block ?_ | (refine Ok.skip ?_; conv => whnf) | (refine Ok.exit ?_; conv => whnf) | (refine Ok.ret ?_; conv => whnf) | (refine num_in (by omega) (by omega) ?_; conv => whnf) | (refine ix _ (by assumption) ?_; conv => whnf) | (refine ixI (by omega) (by assumption) ?_; conv => whnf) | (refine ix_new _ (by omega) fun _ _ => ?_; conv => whnf) | (refine ixI_new (by omega) (by omega) fun _ _ => ?_; conv => whnf) | (refine rd rfl (by assumption) ?_; conv => whnf) | (refine ⟨_, .inl ⟨rfl, rfl⟩, ?_⟩; conv => whnf) | (refine ⟨_, _, rfl, rfl, ?_⟩; conv => whnf) | (refine ⟨fun _ => ?_, fun _ => ?_⟩ <;> (conv => whnf) <;> (try (exfalso; omega))) | (refine And.intro (by first | omega | rfl | (simp; done) | (simp; omega)) ?_; conv => whnf) | (refine num_any ?_; conv => whnf) | fail)
    refine Ok.loopU [0, 1, 18, 23, 28] [4] 2 0 (fun (k : Nat) => [.i .i64 (k : Nat)]) (fun _ b => b) (fun (k : Nat) (_ : Vx.Rows) => [some (68, (((chg l).take k ++ l.drop k) ++ [mk 91, mk 92]).map Route.row), some (68, (slimE bits l).map Route.row)]) (fun (k : Nat) => k ≤ l.length) (fun (k : Nat) => l.length - k) (0) (Nat.zero_le _) ?_; (conv => whnf); refine ⟨by ((conv => whnf); first | rfl | simp [envCat, List.take_of_length_le, Route.row]), ?_⟩
    rintro k hk
    have hcm : ((chg l).map Route.row).length = l.length := by simp [hcl]
    have htl : ((chg l).take k).length = k := by simp; omega
    have hl2 : ((((chg l).take k ++ l.drop k) ++ [mk 91, mk 92]).map Route.row).length = l.length + 2 := by simp; omega
    by_cases hkl : k < l.length
    · obtain ⟨a, ha⟩ : ∃ a, (chg l)[k]? = some a := ⟨_, List.getElem?_eq_getElem (by omega)⟩
      obtain ⟨b, hb⟩ : ∃ b, l[k]? = some b := ⟨_, List.getElem?_eq_getElem hkl⟩
      have hb' : (((chg l).take k ++ l.drop k) ++ [mk 91, mk 92])[k]? = some b := by
        rw [List.getElem?_append_left (by simp; omega), mid_at htl]; exact hb
      (try (conv => whnf)); repeat' (first | refine Ok.seq ?_ | (refine Ok.region tok ?_; conv => whnf) | (refine Ok.region_draw tok follows (by kernel_rfl) ?_; conv => whnf) | (refine Ok.cond ?_; conv => whnf) | refine Ok.block ?_ | (refine Ok.skip ?_; conv => whnf) | (refine Ok.exit ?_; conv => whnf) | (refine Ok.ret ?_; conv => whnf) | (refine num_in (by omega) (by omega) ?_; conv => whnf) | (refine ix _ (by assumption) ?_; conv => whnf) | (refine ixI (by omega) (by assumption) ?_; conv => whnf) | (refine ix_new _ (by omega) fun _ _ => ?_; conv => whnf) | (refine ixI_new (by omega) (by omega) fun _ _ => ?_; conv => whnf) | (refine rd rfl (by assumption) ?_; conv => whnf) | (refine ⟨_, .inl ⟨rfl, rfl⟩, ?_⟩; conv => whnf) | (refine ⟨_, _, rfl, rfl, ?_⟩; conv => whnf) | (refine ⟨fun _ => ?_, fun _ => ?_⟩ <;> (conv => whnf) <;> (try (exfalso; omega))) | (refine And.intro (by first | omega | rfl | (simp; done) | (simp; omega)) ?_; conv => whnf) | (refine num_any ?_; conv => whnf) | fail)
      refine st a hb' (by simp [Route.row]) (by simp [setCells, Route.row]) ?_
      (try (conv => whnf)); repeat' (first | refine Ok.seq ?_ | (refine Ok.region tok ?_; conv => whnf) | (refine Ok.region_draw tok follows (by kernel_rfl) ?_; conv => whnf) | (refine Ok.cond ?_; conv => whnf) | refine Ok.block ?_ | (refine Ok.skip ?_; conv => whnf) | (refine Ok.exit ?_; conv => whnf) | (refine Ok.ret ?_; conv => whnf) | (refine num_in (by omega) (by omega) ?_; conv => whnf) | (refine ix _ (by assumption) ?_; conv => whnf) | (refine ixI (by omega) (by assumption) ?_; conv => whnf) | (refine ix_new _ (by omega) fun _ _ => ?_; conv => whnf) | (refine ixI_new (by omega) (by omega) fun _ _ => ?_; conv => whnf) | (refine rd rfl (by assumption) ?_; conv => whnf) | (refine ⟨_, .inl ⟨rfl, rfl⟩, ?_⟩; conv => whnf) | (refine ⟨_, _, rfl, rfl, ?_⟩; conv => whnf) | (refine ⟨fun _ => ?_, fun _ => ?_⟩ <;> (conv => whnf) <;> (try (exfalso; omega))) | (refine And.intro (by first | omega | rfl | (simp; done) | (simp; omega)) ?_; conv => whnf) | (refine num_any ?_; conv => whnf) | fail)
      refine ⟨k + 1, by omega, by omega, ?_⟩
      have e5 : (((chg l).take k ++ l.drop k) ++ [mk 91, mk 92]).set k a = ((chg l).take (k + 1) ++ l.drop (k + 1)) ++ [mk 91, mk 92] := by
        rw [List.set_append_left _ _ (by simp; omega), set_mid htl hkl, List.take_add_one, ha]; rfl
      rw [← e5]
      (conv => whnf); (first | rfl | simp [envCat, List.take_of_length_le, Route.row])
    · have hkk : k = l.length := by omega
      subst hkk
      (try (conv => whnf)); repeat' (first | refine Ok.seq ?_ | (refine Ok.region tok ?_; conv => whnf) | (refine Ok.region_draw tok follows (by kernel_rfl) ?_; conv => whnf) | (refine Ok.cond ?_; conv => whnf) | refine Ok.block ?_ | (refine Ok.skip ?_; conv => whnf) | (refine Ok.exit ?_; conv => whnf) | (refine Ok.ret ?_; conv => whnf) | (refine num_in (by omega) (by omega) ?_; conv => whnf) | (refine ix _ (by assumption) ?_; conv => whnf) | (refine ixI (by omega) (by assumption) ?_; conv => whnf) | (refine ix_new _ (by omega) fun _ _ => ?_; conv => whnf) | (refine ixI_new (by omega) (by omega) fun _ _ => ?_; conv => whnf) | (refine rd rfl (by assumption) ?_; conv => whnf) | (refine ⟨_, .inl ⟨rfl, rfl⟩, ?_⟩; conv => whnf) | (refine ⟨_, _, rfl, rfl, ?_⟩; conv => whnf) | (refine ⟨fun _ => ?_, fun _ => ?_⟩ <;> (conv => whnf) <;> (try (exfalso; omega))) | (refine And.intro (by first | omega | rfl | (simp; done) | (simp; omega)) ?_; conv => whnf) | (refine num_any ?_; conv => whnf) | fail)
      refine ⟨(), rfl, ?_⟩
      have e6 : (chg l).take l.length ++ l.drop l.length = chg l := by
        rw [List.take_of_length_le (by omega), List.drop_of_length_le (Nat.le_refl _), List.append_nil]
      rw [e6]
      (conv => whnf); (first | rfl | simp [envCat, List.take_of_length_le, Route.row])
  · rintro e x rfl
    have hce : (chg l).length ≤ 270 := by omega
    (try (conv => whnf)); repeat' (first | refine Ok.seq ?_ | (refine Ok.region tok ?_; conv => whnf) | (refine Ok.region_draw tok follows (by kernel_rfl) ?_; conv => whnf) | (refine Ok.cond ?_; conv => whnf) | refine Ok.block ?_ | (refine Ok.skip ?_; conv => whnf) | (refine Ok.exit ?_; conv => whnf) | (refine Ok.ret ?_; conv => whnf) | (refine num_in (by omega) (by omega) ?_; conv => whnf) | (refine ix _ (by assumption) ?_; conv => whnf) | (refine ixI (by omega) (by assumption) ?_; conv => whnf) | (refine ix_new _ (by omega) fun _ _ => ?_; conv => whnf) | (refine ixI_new (by omega) (by omega) fun _ _ => ?_; conv => whnf) | (refine Or.inl ?_; (conv => whnf); (repeat (refine And.intro (by first | omega | (simp; done) | (simp; omega)) ?_; (conv => whnf))); refine ⟨_, refSlim_spec _ _ _, rfl, ?_⟩; conv => whnf) | (refine Or.inl ?_; (conv => whnf); (repeat (refine And.intro (by first | omega | (simp; done) | (simp; omega)) ?_; (conv => whnf))); refine ⟨_, num_spec _, rfl, ?_⟩; conv => whnf) | (refine Or.inl ?_; (conv => whnf); (repeat (refine And.intro (by first | omega | (simp; done) | (simp; omega)) ?_; (conv => whnf))); refine ⟨_, alike_at (slimE bits (chg l)) (take_all _ _) rfl, rfl, ?_⟩; conv => whnf) | (refine Or.inl ?_; (conv => whnf); (repeat (refine And.intro (by first | omega | (simp; done) | (simp; omega)) ?_; (conv => whnf))); refine ⟨_, untouched_at (chg l) hce e3 e4 rfl, rfl, ?_⟩; conv => whnf) | (refine ⟨_, refSlim_spec _ _ _, rfl, ?_⟩; conv => whnf) | (refine ⟨_, num_spec _, rfl, ?_⟩; conv => whnf) | (refine ⟨_, alike_at (slimE bits (chg l)) (take_all _ _) rfl, rfl, ?_⟩; conv => whnf) | (refine ⟨_, untouched_at (chg l) hce e3 e4 rfl, rfl, ?_⟩; conv => whnf) | (refine Or.inr (Or.inl ?_); (conv => whnf); (repeat (refine And.intro (by first | omega | (simp; done) | (simp; omega)) ?_; (conv => whnf))); refine ⟨_, refSlim_spec _ _ _, ?_⟩; rintro _ _ ⟨rfl, rfl⟩; conv => whnf) | (refine Or.inr (Or.inl ?_); (conv => whnf); (repeat (refine And.intro (by first | omega | (simp; done) | (simp; omega)) ?_; (conv => whnf))); refine ⟨_, num_spec _, ?_⟩; rintro _ _ ⟨rfl, rfl⟩; conv => whnf) | (refine Or.inr (Or.inl ?_); (conv => whnf); (repeat (refine And.intro (by first | omega | (simp; done) | (simp; omega)) ?_; (conv => whnf))); refine ⟨_, alike_at (slimE bits (chg l)) (take_all _ _) rfl, ?_⟩; rintro _ _ ⟨rfl, rfl⟩; conv => whnf) | (refine Or.inr (Or.inl ?_); (conv => whnf); (repeat (refine And.intro (by first | omega | (simp; done) | (simp; omega)) ?_; (conv => whnf))); refine ⟨_, untouched_at (chg l) hce e3 e4 rfl, ?_⟩; rintro _ _ ⟨rfl, rfl⟩; conv => whnf) | (refine Or.inr (Or.inr (Or.inr ?_)); (conv => whnf); (repeat (refine And.intro (by first | omega | (simp; done) | (simp; omega)) ?_; (conv => whnf))); refine ⟨_, Slim_at bits (chg l) e3, ?_⟩; rintro _ _ ⟨rfl, rfl⟩ <;> (refine And.intro (by simp [gRowsP, grounds, D.ground, Route.row]) ?_; conv => whnf)) | (refine Or.inr (Or.inr ?_); (conv => whnf); (repeat (refine And.intro (by first | omega | (simp; done) | (simp; omega)) ?_; (conv => whnf))); refine ⟨_, Slim_at bits (chg l) e3, ?_⟩; rintro _ _ ⟨rfl, rfl⟩ <;> (refine And.intro (by simp [gRowsP, grounds, D.ground, Route.row]) ?_; conv => whnf)) | (refine rd rfl (by assumption) ?_; conv => whnf) | (refine ⟨_, .inl ⟨rfl, rfl⟩, ?_⟩; conv => whnf) | (refine ⟨_, _, rfl, rfl, ?_⟩; conv => whnf) | (refine ⟨fun _ => ?_, fun _ => ?_⟩ <;> (conv => whnf) <;> (try (exfalso; omega))) | (refine And.intro (by first | omega | rfl | (simp; done) | (simp; omega)) ?_; conv => whnf) | (refine num_any ?_; conv => whnf) | fail)
    all_goals
      refine Or.inl ?_; (conv => whnf)
      rfl
theorem slims_row (B : Nat) : ∃ ls, shapes T 9 [3, 36] = some ls ∧ ∀ xs, TyAs T B [3, 36] ls xs → FSpec Try.prog T 6 xs (fun d _ => d = .b True) := by
  refine ⟨_, rfl, fun xs h => ?_⟩
  obtain ⟨_, _, rfl, h0, h⟩ := as_cons h
  obtain ⟨_, _, rfl, h1, h⟩ := as_cons h
  obtain rfl := as_nil h
  obtain ⟨bits, rfl, _⟩ := int_of (leaf h0 rfl)
  obtain ⟨l, room, rfl, _⟩ := lst_of (leaf h1 rfl) route_of
  exact slims_law _ _ _
end Go.Proofs.Ytgelaefpbdfnfaa
