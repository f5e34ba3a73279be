/- The walks of this law's own functions. -/
import Derived.Test.YtaiondckookpiaaGreatDoorMC
import Derived.Test.YtaiondckookpiaaGreatDoorMH
set_option linter.unusedVariables false
set_option linter.unusedSimpArgs false
/- The plain-data machine, part 27: a call that reads a box of numbers through a pointer, in a region that draws its order too. Nothing here speaks of one program. -/
namespace Go.Vx
open Go.RowKit
variable {P : Program} {T : Tab}
/-- How a call sees what it is handed: numbers and texts as they are, a pointer into a box of numbers as a pointer to constants. -/
inductive Pk (box : List (List D)) : D → D → Prop
  | i (k n) : Pk box (.i k n) (.i k n)
  | s (l) : Pk box (.s l) (.s l)
  | bp (i off cs) (h : box[i]? = some cs) (hg : ∀ d ∈ cs.drop off, ∃ k n, d = .i k n) : Pk box (.bp i off) (.ep (cs.drop off))
theorem RS.i_ri {sz : TypeId → Nat} {V V' : Vw} {μ : List Nat} {ω : List Value} {v : Value} {k : IntKind} {n : Int} (h : RS sz V μ ω v (.i k n)) : RI sz V' v (.i k n) ∧ v.oneCell' = true := by
  cases h with
  | imm _ _ h => cases h; exact ⟨.i _ _, rfl⟩
theorem effK.peek {s : St} {f : FuncId} {ds es : List D} {K : D → St → Prop} {R : D → Rows → Prop} (hl : es.length = ds.length) (hp : ∀ (j : Nat) d e, ds[j]? = some d → es[j]? = some e → Pk s.box d e) (hf : FSpec P T f es R)
    (h : ∀ d rows, R d rows → gRowsP rows ∧ boolP d.ownOrG2 (match s with
      | ⟨env, box, row, n⟩ => shiftD row.length d fun d => catK row rows fun row => K d ⟨env, box, row, n⟩)) : effK P T s f ds K := by
  refine ⟨hf.call, fun w0 V0 V μ ω a w vs hS hvl hvR => ?_⟩
  have hri : ∀ (j : Nat) v e, vs[j]? = some v → es[j]? = some e → RI (szOf T) (heapV w) v e := by
    intro j v e h1 h2
    have hj : j < ds.length := by rw [← hl]; exact (List.getElem?_eq_some_iff.1 h2).1
    have h3 := List.getElem?_eq_getElem hj
    have hr := hvR j v _ h1 h3
    generalize ds[j] = d0 at h3 hr
    cases hp j _ e h3 h2 with
    | i k n => exact hr.i_ri.1
    | s l => cases hr with
      | imm _ _ hr => cases hr; exact .s _
    | bp i off cs hb hg =>
      obtain ⟨g, rfl, hμ⟩ : ∃ g, v = .pointer (some ⟨g, off, none⟩) ∧ μ[i]? = some g := by
        cases hr with
        | imm _ _ hr => cases hr
        | bp _ _ g h => exact ⟨g, rfl, h⟩
      obtain ⟨us, t, hu, hs, ho, hR', _⟩ := hS.mem.hbox i g cs hμ hb
      have key : ∀ (j : Nat) d, (cs.drop off)[j]? = some d → ∃ hj : off + j < us.size, RI (szOf T) (heapV w) us[off + j] d ∧ us[off + j].oneCell' = true := by
        intro j d hj
        have hj2 : cs[off + j]? = some d := by rw [List.getElem?_drop] at hj; exact hj
        have hlt : off + j < us.size := by rw [hs]; exact (List.getElem?_eq_some_iff.1 hj2).1
        obtain ⟨k, n, rfl⟩ := hg d (List.mem_of_getElem? hj)
        exact ⟨hlt, (hR' (off + j) us[off + j] _ (by simp [hlt]) hj2).i_ri⟩
      refine .ep _ ⟨g, off, none⟩ (fun j => us.getD (off + j) undef) (fun j d hj => ?_) (fun j d hj => ?_)
      · obtain ⟨hlt, h1, h2⟩ := key j d hj
        have hgd : us.getD (off + j) undef = us[off + j] := by simp [Array.getD, hlt]
        rw [hgd]
        refine ⟨?_, h2⟩
        have ha : (⟨g, off, none⟩ : Addr).add j = ⟨g, off + j, none⟩ := by cases j <;> simp [Addr.add]
        show w.cell? _ = _
        rw [ha]
        simp [World.cell?, hu, hlt]
      · obtain ⟨hlt, h1, h2⟩ := key j d hj
        have hgd : us.getD (off + j) undef = us[off + j] := by simp [Array.getD, hlt]
        rw [hgd]
        exact h1
  have hcalls := hf.run (heapV w) w vs.toArray (fun _ _ h => h) (by simp [hl, hvl]) (fun j v d h1 h2 => hri j v d (by simpa using h1) h2)
  refine hcalls.mono ?_
  rintro e w'' ⟨V', ω0, row0, v, d, rfl, hR, hrs, hres⟩
  obtain ⟨hg, hk⟩ := h d row0 hR
  obtain ⟨hd, hk⟩ := boolP_iff.1 hk
  have hres2 := hres.less hS.mem.vok hg
  have hrs2 := hrs.ownOrG2 (V' := fun p => if p.block < w.heap.size then V p else V' p) hd
  obtain ⟨env, box, row, n⟩ := s
  have hM := hS.mem.call hres2
  have hl : row.length = ω.length := hS.mem.rl.symm
  dsimp only at hk
  rw [hl] at hk
  obtain ⟨d', hk, hr⟩ := shiftD_sound (μ := μ) (ω' := ω ++ ω0) (VLe.refl _) (fun r u hu => by rw [List.getElem?_append_right (by omega), Nat.add_sub_cancel]; exact hu) hrs2 hk
  rw [catK_eq] at hk
  exact ⟨v, d', _, _, μ, ω ++ ω0, rfl, hk, hr, ⟨hS.tmps, hS.defers, fun t => (hS.env t).mono hres2.le (.refl μ) (.append _ _), hM⟩, hres2.le, .refl _, .append _ _, fun q v hq => by rw [hres2.below.cell (World.block_lt_of_cell? _ _ hq)]; exact hq⟩
end Go.Vx
/- Has, by the program. -/
namespace Go.Proofs.YtaiondckookpiaaGreatDoor
open Go Go.Vx
@[reducible] def w4 (f : Nat → Bool) : List D := [.i .u64 ((wof f 0).toNat : Int), .i .u64 ((wof f 1).toNat : Int), .i .u64 ((wof f 2).toNat : Int), .i .u64 ((wof f 3).toNat : Int)]
set_option maxHeartbeats 4000000 in
theorem at_one (f : Nat → Bool) (i : Nat) (hi : i < 256) : FSpec Tryz.prog T 89 [.ep (w4 f), .i .i64 (i : Int)] (fun d rows => d = .b (f i = true) ∧ rows = []) := by
  refine FSpec.of_ok tok Tryz.func89 rfl Tryz.call89 (by simp) ?_
  obtain ⟨q, r, hqr, hr, hq⟩ := split64 i (by omega)
  have hrem := rem64 hqr hr
  have hquo := quo64 hqr hr (by omega)
  have hrr : ((r : Nat) : Int) = ((r : Nat) : Int) ∧ r < 64 := ⟨rfl, hr⟩
  have hca := at_word (f := f) hqr hr
  rcases hq with rfl | rfl | rfl | rfl
  all_goals
    (try (conv => whnf)); repeat' (first | ((with_reducible_and_instances refine nShr (by assumption) ?_); conv => whnf) | ((with_reducible_and_instances refine nShl1' rfl (by assumption) ?_); conv => whnf) | ((with_reducible_and_instances refine nAnd ?_); conv => whnf) | ((with_reducible_and_instances refine nOr ?_); conv => whnf) | ((with_reducible_and_instances refine nXor ?_); conv => whnf) | ((with_reducible_and_instances refine nAndNot ?_); conv => whnf) | ((with_reducible_and_instances refine nAnd1' rfl ?_); conv => whnf) | refine Ok.seq ?_ | refine OkL.cons ?_ | (refine Ok.region tok ?_; conv => whnf) | (refine ⟨_, (hquo.symm).symm, ?_⟩; conv => whnf) | (refine ⟨_, (hrem.symm).symm, ?_⟩; conv => whnf) | (refine Ok.region_draw tok follows (by kernel_rfl) ?_; conv => whnf) | (refine Ok.cond ?_; conv => whnf) | refine Ok.block ?_ | (refine Ok.skip ?_; conv => whnf) | (refine Ok.exit ?_; conv => whnf) | (refine Ok.ret ?_; conv => whnf) | (refine num_in (by omega) (by omega) ?_; conv => whnf) | (refine ix _ (by assumption) ?_; conv => whnf) | (refine ixI (by omega) (by assumption) ?_; conv => whnf) | (refine ix_new _ (by omega) fun _ _ => ?_; conv => whnf) | (refine ixI_new (by omega) (by omega) fun _ _ => ?_; conv => whnf) | (refine ⟨_, by assumption, ?_⟩; conv => whnf) | (refine Alt2.l (And.intro (by first | omega | (simp; done) | (simp; omega)) ?_); conv => whnf) | (refine Alt2.r (And.intro (by first | omega | (simp; done) | (simp; omega)) ?_); conv => whnf) | (refine Ok.scope ?_) | (refine Ok.label ?_; conv => whnf) | (refine rd rfl (by assumption) ?_; conv => whnf) | (refine ⟨_, .inl ⟨rfl, rfl⟩, ?_⟩; conv => whnf) | (refine ⟨_, _, rfl, rfl, ?_⟩; conv => whnf) | (refine ⟨fun _ => ?_, fun _ => ?_⟩ <;> (conv => whnf) <;> (try (exfalso; omega))) | (refine And.intro (by first | omega | rfl | (simp; done) | (simp; omega)) ?_; conv => whnf) | (refine num_any ?_; conv => whnf) | (refine ⟨_, rfl, ?_⟩; conv => whnf) | fail)
    refine Or.inl ?_; (conv => whnf)
    exact ⟨congrArg D.b (propext hca), rfl⟩
set_option maxHeartbeats 4000000 in
theorem at_two (f g : Nat → Bool) (i : Nat) (hi : i < 256) : FSpec Tryz.prog T 89 [.ep (w4 f ++ w4 g), .i .i64 (i : Int)] (fun d rows => d = .b (f i = true) ∧ rows = []) := by
  refine FSpec.of_ok tok Tryz.func89 rfl Tryz.call89 (by simp) ?_
  obtain ⟨q, r, hqr, hr, hq⟩ := split64 i (by omega)
  have hrem := rem64 hqr hr
  have hquo := quo64 hqr hr (by omega)
  have hrr : ((r : Nat) : Int) = ((r : Nat) : Int) ∧ r < 64 := ⟨rfl, hr⟩
  have hca := at_word (f := f) hqr hr
  rcases hq with rfl | rfl | rfl | rfl
  all_goals
    (try (conv => whnf)); repeat' (first | ((with_reducible_and_instances refine nShr (by assumption) ?_); conv => whnf) | ((with_reducible_and_instances refine nShl1' rfl (by assumption) ?_); conv => whnf) | ((with_reducible_and_instances refine nAnd ?_); conv => whnf) | ((with_reducible_and_instances refine nOr ?_); conv => whnf) | ((with_reducible_and_instances refine nXor ?_); conv => whnf) | ((with_reducible_and_instances refine nAndNot ?_); conv => whnf) | ((with_reducible_and_instances refine nAnd1' rfl ?_); conv => whnf) | refine Ok.seq ?_ | refine OkL.cons ?_ | (refine Ok.region tok ?_; conv => whnf) | (refine ⟨_, (hquo.symm).symm, ?_⟩; conv => whnf) | (refine ⟨_, (hrem.symm).symm, ?_⟩; conv => whnf) | (refine Ok.region_draw tok follows (by kernel_rfl) ?_; conv => whnf) | (refine Ok.cond ?_; conv => whnf) | refine Ok.block ?_ | (refine Ok.skip ?_; conv => whnf) | (refine Ok.exit ?_; conv => whnf) | (refine Ok.ret ?_; conv => whnf) | (refine num_in (by omega) (by omega) ?_; conv => whnf) | (refine ix _ (by assumption) ?_; conv => whnf) | (refine ixI (by omega) (by assumption) ?_; conv => whnf) | (refine ix_new _ (by omega) fun _ _ => ?_; conv => whnf) | (refine ixI_new (by omega) (by omega) fun _ _ => ?_; conv => whnf) | (refine ⟨_, by assumption, ?_⟩; conv => whnf) | (refine Alt2.l (And.intro (by first | omega | (simp; done) | (simp; omega)) ?_); conv => whnf) | (refine Alt2.r (And.intro (by first | omega | (simp; done) | (simp; omega)) ?_); conv => whnf) | (refine Ok.scope ?_) | (refine Ok.label ?_; conv => whnf) | (refine rd rfl (by assumption) ?_; conv => whnf) | (refine ⟨_, .inl ⟨rfl, rfl⟩, ?_⟩; conv => whnf) | (refine ⟨_, _, rfl, rfl, ?_⟩; conv => whnf) | (refine ⟨fun _ => ?_, fun _ => ?_⟩ <;> (conv => whnf) <;> (try (exfalso; omega))) | (refine And.intro (by first | omega | rfl | (simp; done) | (simp; omega)) ?_; conv => whnf) | (refine num_any ?_; conv => whnf) | (refine ⟨_, rfl, ?_⟩; conv => whnf) | fail)
    refine Or.inl ?_; (conv => whnf)
    exact ⟨congrArg D.b (propext hca), rfl⟩
theorem ints_crow (c : Str) : ∀ d ∈ crow c, ∃ k n, d = .i k n := by
  intro d hd
  simp only [List.mem_cons, List.not_mem_nil, or_false] at hd
  rcases hd with rfl | rfl | rfl | rfl | rfl | rfl | rfl | rfl | rfl <;> exact ⟨_, _, rfl⟩
theorem pk2 {box : List (List D)} {a b x y : D} (h1 : Pk box a x) (h2 : Pk box b y) : ∀ (j : Nat) d e, [a, b][j]? = some d → [x, y][j]? = some e → Pk box d e := by
  intro j d e hd he
  match j, hd, he with
  | 0, hd, he => cases hd; cases he; exact h1
  | 1, hd, he => cases hd; cases he; exact h2
  | j + 2, hd, _ => simp at hd
def hasC (c h : Str) : Prop := c ≠ [] ∧ h.length = c.length ∧ (∀ b ∈ h, b = 48 ∨ b = 49) ∧ inL h c
set_option maxHeartbeats 4000000 in
theorem has_at (c h : Str) (hc : CT c) : FSpec Tryz.prog T 124 [.agg (crow c), .s h] (fun r _ => r = .b (hasC c h)) := by
  have hcl := hc.len
  refine FSpec.of_ok tok Tryz.func124 rfl Tryz.call124 (by simp) ?_
  (try (conv => whnf)); repeat' (first | ((with_reducible_and_instances refine nShr (by assumption) ?_); conv => whnf) | ((with_reducible_and_instances refine nShl1' rfl (by assumption) ?_); conv => whnf) | ((with_reducible_and_instances refine nAnd ?_); conv => whnf) | ((with_reducible_and_instances refine nOr ?_); conv => whnf) | ((with_reducible_and_instances refine nXor ?_); conv => whnf) | ((with_reducible_and_instances refine nAndNot ?_); conv => whnf) | ((with_reducible_and_instances refine nAnd1' rfl ?_); conv => whnf) | refine Ok.seq ?_ | refine OkL.cons ?_ | (refine Ok.region tok ?_; conv => whnf) | (refine Ok.region_plan (id := 8) tok follows [(2, 6, [3])] [.q 0, .q 1, .l 2, .q 3, .q 4, .q 5, .q 7, .q 8, .q 9, .q 10, .l 6, .q 11, .q 12] (by kernel_rfl) ?_; conv => whnf) | (refine Ok.region_draw tok follows (by kernel_rfl) ?_; conv => whnf) | (refine Ok.cond ?_; conv => whnf) | refine Ok.block ?_ | (refine Ok.skip ?_; conv => whnf) | (refine Ok.exit ?_; conv => whnf) | (refine Ok.ret ?_; conv => whnf) | (refine num_in (by omega) (by omega) ?_; conv => whnf) | (refine ix _ (by assumption) ?_; conv => whnf) | (refine ixI (by omega) (by assumption) ?_; conv => whnf) | (refine ix_new _ (by omega) fun _ _ => ?_; conv => whnf) | (refine ixI_new (by omega) (by omega) fun _ _ => ?_; conv => whnf) | (refine ⟨_, by assumption, ?_⟩; conv => whnf) | (refine Alt2.l (And.intro (by first | omega | (simp; done) | (simp; omega)) ?_); conv => whnf) | (refine Alt2.r (And.intro (by first | omega | (simp; done) | (simp; omega)) ?_); conv => whnf) | (refine Ok.scope ?_) | (refine Ok.label ?_; conv => whnf) | (refine rd rfl (by assumption) ?_; conv => whnf) | (refine ⟨_, .inl ⟨rfl, rfl⟩, ?_⟩; conv => whnf) | (refine ⟨_, _, rfl, rfl, ?_⟩; conv => whnf) | (refine ⟨fun _ => ?_, fun _ => ?_⟩ <;> (conv => whnf) <;> (try (exfalso; omega))) | (refine And.intro (by first | omega | rfl | (simp; done) | (simp; omega)) ?_; conv => whnf) | (refine num_any ?_; conv => whnf) | (refine ⟨_, rfl, ?_⟩; conv => whnf) | fail)
  · rename_i h0
    refine Or.inl ?_; (conv => whnf)
    show D.b False = _
    exact congrArg D.b (propext ⟨fun q => q.elim, fun q => q.1 (List.eq_nil_of_length_eq_zero (by omega))⟩)
  · rename_i h0 h1
    refine Or.inl ?_; (conv => whnf)
    show D.b False = _
    exact congrArg D.b (propext ⟨fun q => q.elim, fun q => by have := q.2.1; omega⟩)
  rename_i h0 h1
  have hl : h.length = c.length := by omega
  have hne : c ≠ [] := fun e => h0 (by rw [e]; rfl)
  refine Ok.loopU [1, 2, 17] [18] 0 1 (fun (i : Nat) => [.i .i64 (i : Nat)]) (fun _ b => b) (fun _ r => r) (fun (i : Nat) => i ≤ c.length ∧ (∀ (k : Nat) a b, k < i → h[k]? = some a → c[k]? = some b → (a = 48 ∨ a = 49) ∧ (b = 120 ∨ b = a))) (fun (i : Nat) => c.length - i) (0) (⟨Nat.zero_le _, fun k _ _ hk => absurd hk (by omega)⟩) ?_; (conv => whnf); refine ⟨by ((conv => whnf); first | rfl | (simp [envCat, List.take_of_length_le, cells9, crow, trow]; done) | (simp [envCat, List.take_of_length_le, cells9, crow, trow]; rw [IntKind.wrap_i64]; omega)), ?_⟩
  rintro i ⟨hi, hall⟩
  (conv => whnf)
  by_cases hil : i < c.length
  · obtain ⟨a, ha⟩ : ∃ a, h[i]? = some a := ⟨_, List.getElem?_eq_getElem (by omega)⟩
    obtain ⟨b, hb⟩ : ∃ b, c[i]? = some b := ⟨_, List.getElem?_eq_getElem hil⟩
    have haI : h[((i : Nat) : Int).toNat]? = some a := ha
    have s1 := at_two (car c) (one c) i (by omega)
    have s2 := at_one (one c) i (by omega)
    have miss : ¬ ((a = 48 ∨ a = 49) ∧ (b = 120 ∨ b = a)) → ¬ hasC c h := fun hm q => hm ⟨q.2.2.1 a (List.mem_of_getElem? ha), (inL_iff.1 q.2.2.2).2 i a b ha hb⟩
    have step : (a = 48 ∨ a = 49) ∧ (b = 120 ∨ b = a) → ∀ (k : Nat) x y, k < i + 1 → h[k]? = some x → c[k]? = some y → (x = 48 ∨ x = 49) ∧ (y = 120 ∨ y = x) := fun hm k x y hk hx hy => by
      by_cases hki : k = i
      · subst hki
        rw [ha] at hx
        rw [hb] at hy
        cases hx
        cases hy
        exact hm
      · exact hall k x y (by omega) hx hy
    by_cases hd : a = 48 ∨ a = 49
    · have hbc := hc.cub b (List.mem_of_getElem? hb)
      rw [(at_b hb).1] at s1
      rw [(at_b hb).2] at s2
      rcases hbc with rfl | rfl | rfl <;> rcases hd with rfl | rfl
      all_goals
        (try (conv => whnf)); repeat' (first | ((with_reducible_and_instances refine nShr (by assumption) ?_); conv => whnf) | ((with_reducible_and_instances refine nShl1' rfl (by assumption) ?_); conv => whnf) | ((with_reducible_and_instances refine nAnd ?_); conv => whnf) | ((with_reducible_and_instances refine nOr ?_); conv => whnf) | ((with_reducible_and_instances refine nXor ?_); conv => whnf) | ((with_reducible_and_instances refine nAndNot ?_); conv => whnf) | ((with_reducible_and_instances refine nAnd1' rfl ?_); conv => whnf) | refine Ok.seq ?_ | refine OkL.cons ?_ | (refine Ok.region tok ?_; conv => whnf) | (refine Ok.region_plan (id := 8) tok follows [(2, 6, [3])] [.q 0, .q 1, .l 2, .q 3, .q 4, .q 5, .q 7, .q 8, .q 9, .q 10, .l 6, .q 11, .q 12] (by kernel_rfl) ?_; conv => whnf) | (refine Ok.region_draw tok follows (by kernel_rfl) ?_; conv => whnf) | (refine Ok.cond ?_; conv => whnf) | refine Ok.block ?_ | (refine Ok.skip ?_; conv => whnf) | (refine Ok.exit ?_; conv => whnf) | (refine Ok.ret ?_; conv => whnf) | (refine num_in (by omega) (by omega) ?_; conv => whnf) | (refine ix _ (by assumption) ?_; conv => whnf) | (refine ixI (by omega) (by assumption) ?_; conv => whnf) | (refine ix_new _ (by omega) fun _ _ => ?_; conv => whnf) | (refine ixI_new (by omega) (by omega) fun _ _ => ?_; conv => whnf) | (refine ⟨_, by assumption, ?_⟩; conv => whnf) | (refine Or.inr (Or.inr (Or.inr ?_)); (conv => whnf); refine effK.peek (by rfl) (pk2 (.bp _ _ ( crow c) rfl (fun d hd => ints_crow _ d (List.mem_of_mem_drop hd))) (.i _ _)) (s1 ) ?_; rintro _ _ ⟨rfl, rfl⟩; (refine And.intro (by simp [gRowsP, grounds, D.ground]) ?_; conv => whnf)) | (refine Or.inr (Or.inr (Or.inr ?_)); (conv => whnf); refine effK.peek (by rfl) (pk2 (.bp _ _ ( crow c) rfl (fun d hd => ints_crow _ d (List.mem_of_mem_drop hd))) (.i _ _)) (s2 ) ?_; rintro _ _ ⟨rfl, rfl⟩; (refine And.intro (by simp [gRowsP, grounds, D.ground]) ?_; conv => whnf)) | (refine Alt2.l (And.intro (by first | omega | (simp; done) | (simp; omega)) ?_); conv => whnf) | (refine Alt2.r (And.intro (by first | omega | (simp; done) | (simp; omega)) ?_); conv => whnf) | (refine Ok.scope ?_) | (refine Ok.label ?_; conv => whnf) | (refine rd rfl (by assumption) ?_; conv => whnf) | (refine ⟨_, .inl ⟨rfl, rfl⟩, ?_⟩; conv => whnf) | (refine ⟨_, _, rfl, rfl, ?_⟩; conv => whnf) | (refine ⟨fun _ => ?_, fun _ => ?_⟩ <;> (conv => whnf) <;> (try (exfalso; omega))) | (refine And.intro (by first | omega | rfl | (simp; done) | (simp; omega)) ?_; conv => whnf) | (refine num_any ?_; conv => whnf) | (refine ⟨_, rfl, ?_⟩; conv => whnf) | fail)
        all_goals first
          | contradiction
          | (refine ⟨i + 1, by omega, ⟨by omega, step (by decide)⟩, ?_⟩
             (conv => whnf)
             rfl)
          | (refine Or.inl ?_; (conv => whnf)
             show D.b False = _
             exact congrArg D.b (propext ⟨fun q => q.elim, fun q => miss (by decide) q⟩))
    · have hb3 := u8_ne (fun e => hd (.inl e) : a ≠ 48)
      have hb4 := u8_ne (fun e => hd (.inr e) : a ≠ 49)
      rw [show (((48 : UInt8).toNat : Nat) : Int) = 48 from rfl] at hb3
      rw [show (((49 : UInt8).toNat : Nat) : Int) = 49 from rfl] at hb4
      (try (conv => whnf)); repeat' (first | ((with_reducible_and_instances refine nShr (by assumption) ?_); conv => whnf) | ((with_reducible_and_instances refine nShl1' rfl (by assumption) ?_); conv => whnf) | ((with_reducible_and_instances refine nAnd ?_); conv => whnf) | ((with_reducible_and_instances refine nOr ?_); conv => whnf) | ((with_reducible_and_instances refine nXor ?_); conv => whnf) | ((with_reducible_and_instances refine nAndNot ?_); conv => whnf) | ((with_reducible_and_instances refine nAnd1' rfl ?_); conv => whnf) | refine Ok.seq ?_ | refine OkL.cons ?_ | (refine Ok.region tok ?_; conv => whnf) | (refine Ok.region_plan (id := 8) tok follows [(2, 6, [3])] [.q 0, .q 1, .l 2, .q 3, .q 4, .q 5, .q 7, .q 8, .q 9, .q 10, .l 6, .q 11, .q 12] (by kernel_rfl) ?_; conv => whnf) | (refine Ok.region_draw tok follows (by kernel_rfl) ?_; conv => whnf) | (refine Ok.cond ?_; conv => whnf) | refine Ok.block ?_ | (refine Ok.skip ?_; conv => whnf) | (refine Ok.exit ?_; conv => whnf) | (refine Ok.ret ?_; conv => whnf) | (refine num_in (by omega) (by omega) ?_; conv => whnf) | (refine ix _ (by assumption) ?_; conv => whnf) | (refine ixI (by omega) (by assumption) ?_; conv => whnf) | (refine ix_new _ (by omega) fun _ _ => ?_; conv => whnf) | (refine ixI_new (by omega) (by omega) fun _ _ => ?_; conv => whnf) | (refine ⟨_, by assumption, ?_⟩; conv => whnf) | (refine Or.inr (Or.inr (Or.inr ?_)); (conv => whnf); refine effK.peek (by rfl) (pk2 (.bp _ _ ( crow c) rfl (fun d hd => ints_crow _ d (List.mem_of_mem_drop hd))) (.i _ _)) (s1 ) ?_; rintro _ _ ⟨rfl, rfl⟩; (refine And.intro (by simp [gRowsP, grounds, D.ground]) ?_; conv => whnf)) | (refine Or.inr (Or.inr (Or.inr ?_)); (conv => whnf); refine effK.peek (by rfl) (pk2 (.bp _ _ ( crow c) rfl (fun d hd => ints_crow _ d (List.mem_of_mem_drop hd))) (.i _ _)) (s2 ) ?_; rintro _ _ ⟨rfl, rfl⟩; (refine And.intro (by simp [gRowsP, grounds, D.ground]) ?_; conv => whnf)) | (refine Alt2.l (And.intro (by first | omega | (simp; done) | (simp; omega)) ?_); conv => whnf) | (refine Alt2.r (And.intro (by first | omega | (simp; done) | (simp; omega)) ?_); conv => whnf) | (refine Ok.scope ?_) | (refine Ok.label ?_; conv => whnf) | (refine rd rfl (by assumption) ?_; conv => whnf) | (refine ⟨_, .inl ⟨rfl, rfl⟩, ?_⟩; conv => whnf) | (refine ⟨_, _, rfl, rfl, ?_⟩; conv => whnf) | (refine ⟨fun _ => ?_, fun _ => ?_⟩ <;> (conv => whnf) <;> (try (exfalso; omega))) | (refine And.intro (by first | omega | rfl | (simp; done) | (simp; omega)) ?_; conv => whnf) | (refine num_any ?_; conv => whnf) | (refine ⟨_, rfl, ?_⟩; conv => whnf) | fail)
      all_goals first
        | contradiction
        | (refine Or.inl ?_; (conv => whnf)
           show D.b False = _
           exact congrArg D.b (propext ⟨fun q => q.elim, fun q => miss (fun m => hd m.1) q⟩))
  · have hie : i = c.length := by omega
    subst hie
    (try (conv => whnf)); repeat' (first | ((with_reducible_and_instances refine nShr (by assumption) ?_); conv => whnf) | ((with_reducible_and_instances refine nShl1' rfl (by assumption) ?_); conv => whnf) | ((with_reducible_and_instances refine nAnd ?_); conv => whnf) | ((with_reducible_and_instances refine nOr ?_); conv => whnf) | ((with_reducible_and_instances refine nXor ?_); conv => whnf) | ((with_reducible_and_instances refine nAndNot ?_); conv => whnf) | ((with_reducible_and_instances refine nAnd1' rfl ?_); conv => whnf) | refine Ok.seq ?_ | refine OkL.cons ?_ | (refine Ok.region tok ?_; conv => whnf) | (refine Ok.region_plan (id := 8) tok follows [(2, 6, [3])] [.q 0, .q 1, .l 2, .q 3, .q 4, .q 5, .q 7, .q 8, .q 9, .q 10, .l 6, .q 11, .q 12] (by kernel_rfl) ?_; conv => whnf) | (refine Ok.region_draw tok follows (by kernel_rfl) ?_; conv => whnf) | (refine Ok.cond ?_; conv => whnf) | refine Ok.block ?_ | (refine Ok.skip ?_; conv => whnf) | (refine Ok.exit ?_; conv => whnf) | (refine Ok.ret ?_; conv => whnf) | (refine num_in (by omega) (by omega) ?_; conv => whnf) | (refine ix _ (by assumption) ?_; conv => whnf) | (refine ixI (by omega) (by assumption) ?_; conv => whnf) | (refine ix_new _ (by omega) fun _ _ => ?_; conv => whnf) | (refine ixI_new (by omega) (by omega) fun _ _ => ?_; conv => whnf) | (refine ⟨_, by assumption, ?_⟩; conv => whnf) | (refine Alt2.l (And.intro (by first | omega | (simp; done) | (simp; omega)) ?_); conv => whnf) | (refine Alt2.r (And.intro (by first | omega | (simp; done) | (simp; omega)) ?_); conv => whnf) | (refine Ok.scope ?_) | (refine Ok.label ?_; conv => whnf) | (refine rd rfl (by assumption) ?_; conv => whnf) | (refine ⟨_, .inl ⟨rfl, rfl⟩, ?_⟩; conv => whnf) | (refine ⟨_, _, rfl, rfl, ?_⟩; conv => whnf) | (refine ⟨fun _ => ?_, fun _ => ?_⟩ <;> (conv => whnf) <;> (try (exfalso; omega))) | (refine And.intro (by first | omega | rfl | (simp; done) | (simp; omega)) ?_; conv => whnf) | (refine num_any ?_; conv => whnf) | (refine ⟨_, rfl, ?_⟩; conv => whnf) | fail)
    refine Or.inl ?_; (conv => whnf)
    show D.b True = _
    refine congrArg D.b (propext ⟨fun _ => ⟨hne, hl, fun b hb => ?_, inL_iff.2 ⟨hl, fun k x y hx hy => (hall k x y (by have := (List.getElem?_eq_some_iff.1 hy).1; omega) hx hy).2⟩⟩, fun _ => trivial⟩)
    obtain ⟨k, hk⟩ := List.getElem?_of_mem hb
    have hkl := (List.getElem?_eq_some_iff.1 hk).1
    exact (hall k b _ (by omega) hk (List.getElem?_eq_getElem (by omega))).1
end Go.Proofs.YtaiondckookpiaaGreatDoor
/- Has, of a space, by the program and by the document; the law. -/
namespace Go.Proofs.YtaiondckookpiaaGreatDoor
open Go Go.Vx
def termHas (t : Term) (h : Str) : Prop := hasC t.p h ∧ ∀ m ∈ t.less, ¬ hasC m h
def hasS (ts : List Term) (h : Str) : Prop := ∃ t ∈ ts, termHas t h
set_option maxHeartbeats 4000000 in
theorem termHas_at (x : TR) (hx : TN x) (h : Str) : FSpec Tryz.prog T 76 [.agg (trow x), .s h] (fun r _ => r = .b (termHas x.t h)) := by
  have hn := hx.n
  have hll : (x.t.less.map crow).length = x.t.less.length := by simp
  refine FSpec.of_ok tok Tryz.func76 rfl Tryz.call76 (by simp) ?_
  (try (conv => whnf)); repeat' (first | refine Ok.seq ?_ | refine OkL.cons ?_ | (refine Ok.region tok ?_; conv => whnf) | (refine Ok.region_draw tok follows (by kernel_rfl) ?_; conv => whnf) | (refine Ok.cond ?_; conv => whnf) | refine Ok.block ?_ | (refine Ok.skip ?_; conv => whnf) | (refine Ok.exit ?_; conv => whnf) | (refine Ok.ret ?_; conv => whnf) | (refine num_in (by omega) (by omega) ?_; conv => whnf) | (refine ix _ (by assumption) ?_; conv => whnf) | (refine ixI (by omega) (by assumption) ?_; conv => whnf) | (refine ix_new _ (by omega) fun _ _ => ?_; conv => whnf) | (refine ixI_new (by omega) (by omega) fun _ _ => ?_; conv => whnf) | (refine ⟨_, by assumption, ?_⟩; conv => whnf) | (refine Or.inl ?_; (conv => whnf); (repeat (refine And.intro (by first | omega | (simp; done) | (simp; omega)) ?_; (conv => whnf))); refine ⟨_, has_at x.t.p h hx.p.1, rfl, ?_⟩; conv => whnf) | (refine ⟨_, has_at x.t.p h hx.p.1, rfl, ?_⟩; conv => whnf) | (refine Or.inr (Or.inl ?_); (conv => whnf); (repeat (refine And.intro (by first | omega | (simp; done) | (simp; omega)) ?_; (conv => whnf))); refine ⟨_, has_at x.t.p h hx.p.1, ?_⟩; rintro _ _ ⟨rfl, rfl⟩; conv => whnf) | (refine Alt2.l (And.intro (by first | omega | (simp; done) | (simp; omega)) ?_); conv => whnf) | (refine Alt2.r (And.intro (by first | omega | (simp; done) | (simp; omega)) ?_); conv => whnf) | (refine Ok.scope ?_) | (refine Ok.label ?_; conv => whnf) | (refine rd rfl (by assumption) ?_; conv => whnf) | (refine ⟨_, .inl ⟨rfl, rfl⟩, ?_⟩; conv => whnf) | (refine ⟨_, _, rfl, rfl, ?_⟩; conv => whnf) | (refine ⟨fun _ => ?_, fun _ => ?_⟩ <;> (conv => whnf) <;> (try (exfalso; omega))) | (refine And.intro (by first | omega | rfl | (simp; done) | (simp; omega)) ?_; conv => whnf) | (refine num_any ?_; conv => whnf) | (refine ⟨_, rfl, ?_⟩; conv => whnf) | fail)
  · rename_i h0
    refine Or.inl ?_; (conv => whnf)
    show D.b False = _
    exact congrArg D.b (propext ⟨fun q => q.elim, fun q => h0 q.1⟩)
  rename_i h0
  have hp := Classical.not_not.1 h0
  refine Ok.loopU [1, 13, 14] [15] 0 1 (fun (i : Nat) => [.i .i64 (i : Nat)]) (fun _ b => b) (fun _ r => r) (fun (i : Nat) => i ≤ x.t.less.length ∧ ∀ m ∈ x.t.less.take i, ¬ hasC m h) (fun (i : Nat) => x.t.less.length - i) (0) (⟨Nat.zero_le _, by simp⟩) ?_; (conv => whnf); refine ⟨by ((conv => whnf); first | rfl | (simp [envCat, List.take_of_length_le, crow, trow, srow, drow]; done) | (simp [envCat, List.take_of_length_le, crow, trow, srow, drow]; rw [IntKind.wrap_i64]; omega)), ?_⟩
  rintro i ⟨hi, hno⟩
  (conv => whnf)
  by_cases hil : i < x.t.less.length
  · obtain ⟨m, hm⟩ : ∃ m, x.t.less[i]? = some m := ⟨_, List.getElem?_eq_getElem hil⟩
    have hmc := hx.less m (List.mem_of_getElem? hm)
    (try (conv => whnf)); repeat' (first | refine Ok.seq ?_ | refine OkL.cons ?_ | (refine Ok.region tok ?_; conv => whnf) | (refine Ok.region_draw tok follows (by kernel_rfl) ?_; conv => whnf) | (refine Ok.cond ?_; conv => whnf) | refine Ok.block ?_ | (refine Ok.skip ?_; conv => whnf) | (refine Ok.exit ?_; conv => whnf) | (refine Ok.ret ?_; conv => whnf) | (refine num_in (by omega) (by omega) ?_; conv => whnf) | (refine ix _ (by assumption) ?_; conv => whnf) | (refine ixI (by omega) (by assumption) ?_; conv => whnf) | (refine ix_new _ (by omega) fun _ _ => ?_; conv => whnf) | (refine ixI_new (by omega) (by omega) fun _ _ => ?_; conv => whnf) | (refine ⟨_, by assumption, ?_⟩; conv => whnf) | (refine Or.inl ?_; (conv => whnf); (repeat (refine And.intro (by first | omega | (simp; done) | (simp; omega)) ?_; (conv => whnf))); refine ⟨_, has_at m h hmc.1, rfl, ?_⟩; conv => whnf) | (refine ⟨_, has_at m h hmc.1, rfl, ?_⟩; conv => whnf) | (refine Or.inr (Or.inl ?_); (conv => whnf); (repeat (refine And.intro (by first | omega | (simp; done) | (simp; omega)) ?_; (conv => whnf))); refine ⟨_, has_at m h hmc.1, ?_⟩; rintro _ _ ⟨rfl, rfl⟩; conv => whnf) | (refine Alt2.l (And.intro (by first | omega | (simp; done) | (simp; omega)) ?_); conv => whnf) | (refine Alt2.r (And.intro (by first | omega | (simp; done) | (simp; omega)) ?_); conv => whnf) | (refine Ok.scope ?_) | (refine Ok.label ?_; conv => whnf) | (refine rd rfl (by assumption) ?_; conv => whnf) | (refine ⟨_, .inl ⟨rfl, rfl⟩, ?_⟩; conv => whnf) | (refine ⟨_, _, rfl, rfl, ?_⟩; conv => whnf) | (refine ⟨fun _ => ?_, fun _ => ?_⟩ <;> (conv => whnf) <;> (try (exfalso; omega))) | (refine And.intro (by first | omega | rfl | (simp; done) | (simp; omega)) ?_; conv => whnf) | (refine num_any ?_; conv => whnf) | (refine ⟨_, rfl, ?_⟩; conv => whnf) | fail)
    · rename_i h1
      refine Or.inl ?_; (conv => whnf)
      show D.b False = _
      exact congrArg D.b (propext ⟨fun q => q.elim, fun q => q.2 m (List.mem_of_getElem? hm) h1⟩)
    · rename_i h1
      refine ⟨i + 1, by omega, ⟨by omega, fun z hz => ?_⟩, ?_⟩
      · rw [take_snoc hm] at hz
        rcases List.mem_append.1 hz with hz | hz
        · exact hno z hz
        · simp at hz; rw [hz]; exact h1
      · (conv => whnf)
        rfl
  · have hie : i = x.t.less.length := by omega
    subst hie
    rw [List.take_length] at hno
    (try (conv => whnf)); repeat' (first | refine Ok.seq ?_ | refine OkL.cons ?_ | (refine Ok.region tok ?_; conv => whnf) | (refine Ok.region_draw tok follows (by kernel_rfl) ?_; conv => whnf) | (refine Ok.cond ?_; conv => whnf) | refine Ok.block ?_ | (refine Ok.skip ?_; conv => whnf) | (refine Ok.exit ?_; conv => whnf) | (refine Ok.ret ?_; conv => whnf) | (refine num_in (by omega) (by omega) ?_; conv => whnf) | (refine ix _ (by assumption) ?_; conv => whnf) | (refine ixI (by omega) (by assumption) ?_; conv => whnf) | (refine ix_new _ (by omega) fun _ _ => ?_; conv => whnf) | (refine ixI_new (by omega) (by omega) fun _ _ => ?_; conv => whnf) | (refine ⟨_, by assumption, ?_⟩; conv => whnf) | (refine Alt2.l (And.intro (by first | omega | (simp; done) | (simp; omega)) ?_); conv => whnf) | (refine Alt2.r (And.intro (by first | omega | (simp; done) | (simp; omega)) ?_); conv => whnf) | (refine Ok.scope ?_) | (refine Ok.label ?_; conv => whnf) | (refine rd rfl (by assumption) ?_; conv => whnf) | (refine ⟨_, .inl ⟨rfl, rfl⟩, ?_⟩; conv => whnf) | (refine ⟨_, _, rfl, rfl, ?_⟩; conv => whnf) | (refine ⟨fun _ => ?_, fun _ => ?_⟩ <;> (conv => whnf) <;> (try (exfalso; omega))) | (refine And.intro (by first | omega | rfl | (simp; done) | (simp; omega)) ?_; conv => whnf) | (refine num_any ?_; conv => whnf) | (refine ⟨_, rfl, ?_⟩; conv => whnf) | fail)
    refine Or.inl ?_; (conv => whnf)
    show D.b True = _
    exact congrArg D.b (propext ⟨fun _ => ⟨hp, hno⟩, fun _ => trivial⟩)
set_option maxHeartbeats 4000000 in
theorem hasS_at {n : Int} {ts : List Term} (hf : Fine n ts) (ks : List TR) (rm : List (List D)) (h1 : ks.map TR.t = ts) (h : Str) : FSpec Tryz.prog T 23 [.agg [.i .i64 n, .lst 112 (ks.map trow) rm], .s h] (fun r _ => r = .b (hasS ts h)) := by
  have hll : (ks.map trow).length = ks.length := by simp
  have hkl := hf.mlen h1
  refine FSpec.of_ok tok Tryz.func23 rfl Tryz.call23 (by simp) ?_
  (try (conv => whnf)); repeat' (first | refine Ok.seq ?_ | refine OkL.cons ?_ | (refine Ok.region tok ?_; conv => whnf) | (refine Ok.region_draw tok follows (by kernel_rfl) ?_; conv => whnf) | (refine Ok.cond ?_; conv => whnf) | refine Ok.block ?_ | (refine Ok.skip ?_; conv => whnf) | (refine Ok.exit ?_; conv => whnf) | (refine Ok.ret ?_; conv => whnf) | (refine num_in (by omega) (by omega) ?_; conv => whnf) | (refine ix _ (by assumption) ?_; conv => whnf) | (refine ixI (by omega) (by assumption) ?_; conv => whnf) | (refine ix_new _ (by omega) fun _ _ => ?_; conv => whnf) | (refine ixI_new (by omega) (by omega) fun _ _ => ?_; conv => whnf) | (refine ⟨_, by assumption, ?_⟩; conv => whnf) | (refine Alt2.l (And.intro (by first | omega | (simp; done) | (simp; omega)) ?_); conv => whnf) | (refine Alt2.r (And.intro (by first | omega | (simp; done) | (simp; omega)) ?_); conv => whnf) | (refine Ok.scope ?_) | (refine Ok.label ?_; conv => whnf) | (refine rd rfl (by assumption) ?_; conv => whnf) | (refine ⟨_, .inl ⟨rfl, rfl⟩, ?_⟩; conv => whnf) | (refine ⟨_, _, rfl, rfl, ?_⟩; conv => whnf) | (refine ⟨fun _ => ?_, fun _ => ?_⟩ <;> (conv => whnf) <;> (try (exfalso; omega))) | (refine And.intro (by first | omega | rfl | (simp; done) | (simp; omega)) ?_; conv => whnf) | (refine num_any ?_; conv => whnf) | (refine ⟨_, rfl, ?_⟩; conv => whnf) | fail)
  refine Ok.loopU [1, 8, 9] [10] 0 1 (fun (i : Nat) => [.i .i64 (i : Nat)]) (fun _ b => b) (fun _ r => r) (fun (i : Nat) => i ≤ ks.length ∧ ∀ x ∈ ks.take i, ¬ termHas x.t h) (fun (i : Nat) => ks.length - i) (0) (⟨Nat.zero_le _, by simp⟩) ?_; (conv => whnf); refine ⟨by ((conv => whnf); first | rfl | (simp [envCat, List.take_of_length_le, crow, trow, srow, drow]; done) | (simp [envCat, List.take_of_length_le, crow, trow, srow, drow]; rw [IntKind.wrap_i64]; omega)), ?_⟩
  rintro i ⟨hi, hno⟩
  (conv => whnf)
  by_cases hil : i < ks.length
  · obtain ⟨x, hx⟩ : ∃ x, ks[i]? = some x := ⟨_, List.getElem?_eq_getElem hil⟩
    have hxm := List.mem_of_getElem? hx
    (try (conv => whnf)); repeat' (first | refine Ok.seq ?_ | refine OkL.cons ?_ | (refine Ok.region tok ?_; conv => whnf) | (refine Ok.region_draw tok follows (by kernel_rfl) ?_; conv => whnf) | (refine Ok.cond ?_; conv => whnf) | refine Ok.block ?_ | (refine Ok.skip ?_; conv => whnf) | (refine Ok.exit ?_; conv => whnf) | (refine Ok.ret ?_; conv => whnf) | (refine num_in (by omega) (by omega) ?_; conv => whnf) | (refine ix _ (by assumption) ?_; conv => whnf) | (refine ixI (by omega) (by assumption) ?_; conv => whnf) | (refine ix_new _ (by omega) fun _ _ => ?_; conv => whnf) | (refine ixI_new (by omega) (by omega) fun _ _ => ?_; conv => whnf) | (refine ⟨_, by assumption, ?_⟩; conv => whnf) | (refine Or.inl ?_; (conv => whnf); (repeat (refine And.intro (by first | omega | (simp; done) | (simp; omega)) ?_; (conv => whnf))); refine ⟨_, termHas_at x (hf.to h1 x hxm).tn h, rfl, ?_⟩; conv => whnf) | (refine ⟨_, termHas_at x (hf.to h1 x hxm).tn h, rfl, ?_⟩; conv => whnf) | (refine Or.inr (Or.inl ?_); (conv => whnf); (repeat (refine And.intro (by first | omega | (simp; done) | (simp; omega)) ?_; (conv => whnf))); refine ⟨_, termHas_at x (hf.to h1 x hxm).tn h, ?_⟩; rintro _ _ ⟨rfl, rfl⟩; conv => whnf) | (refine Alt2.l (And.intro (by first | omega | (simp; done) | (simp; omega)) ?_); conv => whnf) | (refine Alt2.r (And.intro (by first | omega | (simp; done) | (simp; omega)) ?_); conv => whnf) | (refine Ok.scope ?_) | (refine Ok.label ?_; conv => whnf) | (refine rd rfl (by assumption) ?_; conv => whnf) | (refine ⟨_, .inl ⟨rfl, rfl⟩, ?_⟩; conv => whnf) | (refine ⟨_, _, rfl, rfl, ?_⟩; conv => whnf) | (refine ⟨fun _ => ?_, fun _ => ?_⟩ <;> (conv => whnf) <;> (try (exfalso; omega))) | (refine And.intro (by first | omega | rfl | (simp; done) | (simp; omega)) ?_; conv => whnf) | (refine num_any ?_; conv => whnf) | (refine ⟨_, rfl, ?_⟩; conv => whnf) | fail)
    · rename_i h2
      refine Or.inl ?_; (conv => whnf)
      show D.b True = _
      exact congrArg D.b (propext ⟨fun _ => ⟨x.t, mem_of_map h1 hxm, h2⟩, fun _ => trivial⟩)
    · rename_i h2
      refine ⟨i + 1, by omega, ⟨by omega, fun z hz => ?_⟩, ?_⟩
      · rw [take_snoc hx] at hz
        rcases List.mem_append.1 hz with hz | hz
        · exact hno z hz
        · simp at hz; rw [hz]; exact h2
      · (conv => whnf)
        rfl
  · have hie : i = ks.length := by omega
    subst hie
    rw [List.take_length] at hno
    (try (conv => whnf)); repeat' (first | refine Ok.seq ?_ | refine OkL.cons ?_ | (refine Ok.region tok ?_; conv => whnf) | (refine Ok.region_draw tok follows (by kernel_rfl) ?_; conv => whnf) | (refine Ok.cond ?_; conv => whnf) | refine Ok.block ?_ | (refine Ok.skip ?_; conv => whnf) | (refine Ok.exit ?_; conv => whnf) | (refine Ok.ret ?_; conv => whnf) | (refine num_in (by omega) (by omega) ?_; conv => whnf) | (refine ix _ (by assumption) ?_; conv => whnf) | (refine ixI (by omega) (by assumption) ?_; conv => whnf) | (refine ix_new _ (by omega) fun _ _ => ?_; conv => whnf) | (refine ixI_new (by omega) (by omega) fun _ _ => ?_; conv => whnf) | (refine ⟨_, by assumption, ?_⟩; conv => whnf) | (refine Alt2.l (And.intro (by first | omega | (simp; done) | (simp; omega)) ?_); conv => whnf) | (refine Alt2.r (And.intro (by first | omega | (simp; done) | (simp; omega)) ?_); conv => whnf) | (refine Ok.scope ?_) | (refine Ok.label ?_; conv => whnf) | (refine rd rfl (by assumption) ?_; conv => whnf) | (refine ⟨_, .inl ⟨rfl, rfl⟩, ?_⟩; conv => whnf) | (refine ⟨_, _, rfl, rfl, ?_⟩; conv => whnf) | (refine ⟨fun _ => ?_, fun _ => ?_⟩ <;> (conv => whnf) <;> (try (exfalso; omega))) | (refine And.intro (by first | omega | rfl | (simp; done) | (simp; omega)) ?_; conv => whnf) | (refine num_any ?_; conv => whnf) | (refine ⟨_, rfl, ?_⟩; conv => whnf) | fail)
    refine Or.inl ?_; (conv => whnf)
    show D.b False = _
    refine congrArg D.b (propext ⟨fun q => q.elim, fun ⟨t, ht, q⟩ => ?_⟩)
    rw [← h1] at ht
    obtain ⟨x, hx, rfl⟩ := List.mem_map.1 ht
    exact hno x hx q
def hdrP (n : Int) (h : Str) : Prop := (h.length : Int) = n ∧ n ≠ 0 ∧ ∀ b ∈ h, b = 48 ∨ b = 49
theorem hasC_iff {n : Int} {c h : Str} (hc : c ≠ []) (hn : (c.length : Int) = n) : hasC c h ↔ hdrP n h ∧ inT h c := by
  have h0 : c.length ≠ 0 := fun e => hc (List.eq_nil_of_length_eq_zero e)
  constructor
  · rintro ⟨_, h2, h3, h4⟩
    exact ⟨⟨by omega, by omega, h3⟩, fun e => h0 (by rw [← h2, e]; rfl), h4⟩
  · rintro ⟨⟨h1, _, h3⟩, _, h4⟩
    exact ⟨hc, inL_len h4, h3, h4⟩
theorem termHas_iff {n : Int} {t : Term} {h : Str} (hg : GoodT n.toNat t) (h0 : 0 ≤ n) (hd : hdrP n h) : termHas t h ↔ inT h t.p ∧ ∀ m ∈ t.less, ¬ inT h m := by
  have hp : (t.p.length : Int) = n := by have := hg.ok.p; omega
  have hm : ∀ m ∈ t.less, (m.length : Int) = n := fun m hm => by have := hg.ok.wide.2 m hm; omega
  unfold termHas
  rw [hasC_iff hg.p.2 hp]
  constructor
  · rintro ⟨⟨_, h1⟩, h2⟩
    exact ⟨h1, fun m hmm q => h2 m hmm ((hasC_iff (hg.less m hmm).2 (hm m hmm)).2 ⟨hd, q⟩)⟩
  · rintro ⟨h1, h2⟩
    exact ⟨⟨hd, h1⟩, fun m hmm q => h2 m hmm ((hasC_iff (hg.less m hmm).2 (hm m hmm)).1 q).2⟩
set_option maxHeartbeats 4000000 in
theorem rhdr_at (n : Int) (h : Str) (hn : n ≤ 256) : FSpec Tryz.prog T 77 [.i .i64 n, .s h] (fun r _ => r = .b (hdrP n h)) := by
  refine FSpec.of_ok tok Tryz.func77 rfl Tryz.call77 (by simp) ?_
  (try (conv => whnf)); repeat' (first | refine Ok.seq ?_ | refine OkL.cons ?_ | (refine Ok.region tok ?_; conv => whnf) | (refine Ok.region_draw tok follows (by kernel_rfl) ?_; conv => whnf) | (refine Ok.cond ?_; conv => whnf) | refine Ok.block ?_ | (refine Ok.skip ?_; conv => whnf) | (refine Ok.exit ?_; conv => whnf) | (refine Ok.ret ?_; conv => whnf) | (refine num_in (by omega) (by omega) ?_; conv => whnf) | (refine ix _ (by assumption) ?_; conv => whnf) | (refine ixI (by omega) (by assumption) ?_; conv => whnf) | (refine ix_new _ (by omega) fun _ _ => ?_; conv => whnf) | (refine ixI_new (by omega) (by omega) fun _ _ => ?_; conv => whnf) | (refine ⟨_, by assumption, ?_⟩; conv => whnf) | (refine Alt2.l (And.intro (by first | omega | (simp; done) | (simp; omega)) ?_); conv => whnf) | (refine Alt2.r (And.intro (by first | omega | (simp; done) | (simp; omega)) ?_); conv => whnf) | (refine Ok.scope ?_) | (refine Ok.label ?_; conv => whnf) | (refine rd rfl (by assumption) ?_; conv => whnf) | (refine ⟨_, .inl ⟨rfl, rfl⟩, ?_⟩; conv => whnf) | (refine ⟨_, _, rfl, rfl, ?_⟩; conv => whnf) | (refine ⟨fun _ => ?_, fun _ => ?_⟩ <;> (conv => whnf) <;> (try (exfalso; omega))) | (refine And.intro (by first | omega | rfl | (simp; done) | (simp; omega)) ?_; conv => whnf) | (refine num_any ?_; conv => whnf) | (refine ⟨_, rfl, ?_⟩; conv => whnf) | fail)
  · rename_i h0
    refine Or.inl ?_; (conv => whnf)
    show D.b False = _
    exact congrArg D.b (propext ⟨fun q => q.elim, fun q => h0 q.1⟩)
  · rename_i h0 h1
    refine Or.inl ?_; (conv => whnf)
    show D.b False = _
    exact congrArg D.b (propext ⟨fun q => q.elim, fun q => q.2.1 h1⟩)
  rename_i h0 h1
  have hl : (h.length : Int) = n := Classical.not_not.1 h0
  refine Ok.loopU [1] [5] 0 0 (fun (i : Nat) => [.i .i64 (i : Nat)]) (fun _ b => b) (fun _ r => r) (fun (i : Nat) => i ≤ h.length ∧ ∀ b ∈ h.take i, b = 48 ∨ b = 49) (fun (i : Nat) => h.length - i) (0) (⟨Nat.zero_le _, by simp⟩) ?_; (conv => whnf); refine ⟨by ((conv => whnf); first | rfl | (simp [envCat, List.take_of_length_le, crow, trow, srow, drow]; done) | (simp [envCat, List.take_of_length_le, crow, trow, srow, drow]; rw [IntKind.wrap_i64]; omega)), ?_⟩
  rintro i ⟨hi, hall⟩
  (conv => whnf)
  by_cases hil : i < h.length
  · obtain ⟨a, ha⟩ : ∃ a, h[i]? = some a := ⟨_, List.getElem?_eq_getElem hil⟩
    have haI : h[((i : Nat) : Int).toNat]? = some a := ha
    by_cases hd : a = 48 ∨ a = 49
    · have hd2 : ((a.toNat : Nat) : Int) = 48 ∨ ((a.toNat : Nat) : Int) = 49 := by
        rcases hd with rfl | rfl
        · exact .inl rfl
        · exact .inr rfl
      (try (conv => whnf)); repeat' (first | refine Ok.seq ?_ | refine OkL.cons ?_ | (refine Ok.region tok ?_; conv => whnf) | (refine Ok.region_draw tok follows (by kernel_rfl) ?_; conv => whnf) | (refine Ok.cond ?_; conv => whnf) | refine Ok.block ?_ | (refine Ok.skip ?_; conv => whnf) | (refine Ok.exit ?_; conv => whnf) | (refine Ok.ret ?_; conv => whnf) | (refine num_in (by omega) (by omega) ?_; conv => whnf) | (refine ix _ (by assumption) ?_; conv => whnf) | (refine ixI (by omega) (by assumption) ?_; conv => whnf) | (refine ix_new _ (by omega) fun _ _ => ?_; conv => whnf) | (refine ixI_new (by omega) (by omega) fun _ _ => ?_; conv => whnf) | (refine ⟨_, by assumption, ?_⟩; conv => whnf) | (refine Alt2.l (And.intro (by first | omega | (simp; done) | (simp; omega)) ?_); conv => whnf) | (refine Alt2.r (And.intro (by first | omega | (simp; done) | (simp; omega)) ?_); conv => whnf) | (refine Ok.scope ?_) | (refine Ok.label ?_; conv => whnf) | (refine rd rfl (by assumption) ?_; conv => whnf) | (refine ⟨_, .inl ⟨rfl, rfl⟩, ?_⟩; conv => whnf) | (refine ⟨_, _, rfl, rfl, ?_⟩; conv => whnf) | (refine ⟨fun _ => ?_, fun _ => ?_⟩ <;> (conv => whnf) <;> (try (exfalso; omega))) | (refine And.intro (by first | omega | rfl | (simp; done) | (simp; omega)) ?_; conv => whnf) | (refine num_any ?_; conv => whnf) | (refine ⟨_, rfl, ?_⟩; conv => whnf) | fail)
      all_goals
        refine ⟨i + 1, by omega, ⟨by omega, fun z hz => ?_⟩, ?_⟩
        · rw [take_snoc ha] at hz
          rcases List.mem_append.1 hz with hz | hz
          · exact hall z hz
          · simp at hz; rw [hz]; exact hd
        · (conv => whnf)
          rfl
    · have hb3 := u8_ne (fun e => hd (.inl e) : a ≠ 48)
      have hb4 := u8_ne (fun e => hd (.inr e) : a ≠ 49)
      rw [show (((48 : UInt8).toNat : Nat) : Int) = 48 from rfl] at hb3
      rw [show (((49 : UInt8).toNat : Nat) : Int) = 49 from rfl] at hb4
      (try (conv => whnf)); repeat' (first | refine Ok.seq ?_ | refine OkL.cons ?_ | (refine Ok.region tok ?_; conv => whnf) | (refine Ok.region_draw tok follows (by kernel_rfl) ?_; conv => whnf) | (refine Ok.cond ?_; conv => whnf) | refine Ok.block ?_ | (refine Ok.skip ?_; conv => whnf) | (refine Ok.exit ?_; conv => whnf) | (refine Ok.ret ?_; conv => whnf) | (refine num_in (by omega) (by omega) ?_; conv => whnf) | (refine ix _ (by assumption) ?_; conv => whnf) | (refine ixI (by omega) (by assumption) ?_; conv => whnf) | (refine ix_new _ (by omega) fun _ _ => ?_; conv => whnf) | (refine ixI_new (by omega) (by omega) fun _ _ => ?_; conv => whnf) | (refine ⟨_, by assumption, ?_⟩; conv => whnf) | (refine Alt2.l (And.intro (by first | omega | (simp; done) | (simp; omega)) ?_); conv => whnf) | (refine Alt2.r (And.intro (by first | omega | (simp; done) | (simp; omega)) ?_); conv => whnf) | (refine Ok.scope ?_) | (refine Ok.label ?_; conv => whnf) | (refine rd rfl (by assumption) ?_; conv => whnf) | (refine ⟨_, .inl ⟨rfl, rfl⟩, ?_⟩; conv => whnf) | (refine ⟨_, _, rfl, rfl, ?_⟩; conv => whnf) | (refine ⟨fun _ => ?_, fun _ => ?_⟩ <;> (conv => whnf) <;> (try (exfalso; omega))) | (refine And.intro (by first | omega | rfl | (simp; done) | (simp; omega)) ?_; conv => whnf) | (refine num_any ?_; conv => whnf) | (refine ⟨_, rfl, ?_⟩; conv => whnf) | fail)
      all_goals
        refine Or.inl ?_; (conv => whnf)
        show D.b False = _
        exact congrArg D.b (propext ⟨fun q => q.elim, fun q => hd (q.2.2 a (List.mem_of_getElem? ha))⟩)
  · have hie : i = h.length := by omega
    subst hie
    rw [List.take_length] at hall
    (try (conv => whnf)); repeat' (first | refine Ok.seq ?_ | refine OkL.cons ?_ | (refine Ok.region tok ?_; conv => whnf) | (refine Ok.region_draw tok follows (by kernel_rfl) ?_; conv => whnf) | (refine Ok.cond ?_; conv => whnf) | refine Ok.block ?_ | (refine Ok.skip ?_; conv => whnf) | (refine Ok.exit ?_; conv => whnf) | (refine Ok.ret ?_; conv => whnf) | (refine num_in (by omega) (by omega) ?_; conv => whnf) | (refine ix _ (by assumption) ?_; conv => whnf) | (refine ixI (by omega) (by assumption) ?_; conv => whnf) | (refine ix_new _ (by omega) fun _ _ => ?_; conv => whnf) | (refine ixI_new (by omega) (by omega) fun _ _ => ?_; conv => whnf) | (refine ⟨_, by assumption, ?_⟩; conv => whnf) | (refine Alt2.l (And.intro (by first | omega | (simp; done) | (simp; omega)) ?_); conv => whnf) | (refine Alt2.r (And.intro (by first | omega | (simp; done) | (simp; omega)) ?_); conv => whnf) | (refine Ok.scope ?_) | (refine Ok.label ?_; conv => whnf) | (refine rd rfl (by assumption) ?_; conv => whnf) | (refine ⟨_, .inl ⟨rfl, rfl⟩, ?_⟩; conv => whnf) | (refine ⟨_, _, rfl, rfl, ?_⟩; conv => whnf) | (refine ⟨fun _ => ?_, fun _ => ?_⟩ <;> (conv => whnf) <;> (try (exfalso; omega))) | (refine And.intro (by first | omega | rfl | (simp; done) | (simp; omega)) ?_; conv => whnf) | (refine num_any ?_; conv => whnf) | (refine ⟨_, rfl, ?_⟩; conv => whnf) | fail)
    refine Or.inl ?_; (conv => whnf)
    show D.b True = _
    exact congrArg D.b (propext ⟨fun _ => ⟨hl, h1, hall⟩, fun _ => trivial⟩)
end Go.Proofs.YtaiondckookpiaaGreatDoor
/- Has by the document; the law of Has. -/
namespace Go.Proofs.YtaiondckookpiaaGreatDoor
open Go Go.Vx
set_option maxRecDepth 100000 in
set_option maxHeartbeats 8000000 in
theorem rhas_at {n : Int} {ts : List Term} (hf : Fine n ts) (ks : List TR) (rm : List (List D)) (h1 : ks.map TR.t = ts) (h : Str) : FSpec Tryz.prog T 24 [.agg [.i .i64 n, .lst 120 (ks.map drow) rm], .s h] (fun r _ => r = .b (hasS ts h)) := by
  have hll : (ks.map drow).length = ks.length := by simp
  have hkl := hf.mlen h1
  have hn1 := hf.n1
  refine FSpec.of_ok tok Tryz.func24 rfl Tryz.call24 (by simp) ?_
  (try (conv => whnf)); repeat' (first | refine Ok.seq ?_ | refine OkL.cons ?_ | (refine Ok.region tok ?_; conv => whnf) | (refine Ok.region_draw tok follows (by kernel_rfl) ?_; conv => whnf) | (refine Ok.cond ?_; conv => whnf) | refine Ok.block ?_ | (refine Ok.skip ?_; conv => whnf) | (refine Ok.exit ?_; conv => whnf) | (refine Ok.ret ?_; conv => whnf) | (refine num_in (by omega) (by omega) ?_; conv => whnf) | (refine ix _ (by assumption) ?_; conv => whnf) | (refine ixI (by omega) (by assumption) ?_; conv => whnf) | (refine ix_new _ (by omega) fun _ _ => ?_; conv => whnf) | (refine ixI_new (by omega) (by omega) fun _ _ => ?_; conv => whnf) | (refine ⟨_, by assumption, ?_⟩; conv => whnf) | (refine Or.inl ?_; (conv => whnf); (repeat (refine And.intro (by first | omega | (simp; done) | (simp; omega)) ?_; (conv => whnf))); refine ⟨_, rhdr_at n h hf.n1, rfl, ?_⟩; conv => whnf) | (refine ⟨_, rhdr_at n h hf.n1, rfl, ?_⟩; conv => whnf) | (refine Or.inr (Or.inl ?_); (conv => whnf); (repeat (refine And.intro (by first | omega | (simp; done) | (simp; omega)) ?_; (conv => whnf))); refine ⟨_, rhdr_at n h hf.n1, ?_⟩; rintro _ _ ⟨rfl, rfl⟩; conv => whnf) | (refine Alt2.l (And.intro (by first | omega | (simp; done) | (simp; omega)) ?_); conv => whnf) | (refine Alt2.r (And.intro (by first | omega | (simp; done) | (simp; omega)) ?_); conv => whnf) | (refine Ok.scope ?_) | (refine Ok.label ?_; conv => whnf) | (refine rd rfl (by assumption) ?_; conv => whnf) | (refine ⟨_, .inl ⟨rfl, rfl⟩, ?_⟩; conv => whnf) | (refine ⟨_, _, rfl, rfl, ?_⟩; conv => whnf) | (refine ⟨fun _ => ?_, fun _ => ?_⟩ <;> (conv => whnf) <;> (try (exfalso; omega))) | (refine And.intro (by first | omega | rfl | (simp; done) | (simp; omega)) ?_; conv => whnf) | (refine num_any ?_; conv => whnf) | (refine ⟨_, rfl, ?_⟩; conv => whnf) | fail)
  · rename_i h0
    refine Or.inl ?_; (conv => whnf)
    show D.b False = _
    refine congrArg D.b (propext ⟨fun q => q.elim, fun ⟨t, ht, q⟩ => ?_⟩)
    have hg := hf.good t ht
    exact h0 ((hasC_iff hg.p.2 (by have := hg.ok.p; have := hf.n0; omega)).1 q.1).1
  rename_i h0
  have hd := Classical.not_not.1 h0
  have hhl : h.length ≤ 100000 := by have := hd.1; omega
  have iff : ∀ x ∈ ks, (termHas x.t h ↔ inT h x.t.p ∧ ∀ m ∈ x.t.less, ¬ inT h m) := fun x hx => termHas_iff (hf.good _ (mem_of_map h1 hx)) hf.n0 hd
  refine Ok.loopU [1, 2] [5] 0 1 (fun (i : Nat) => [.i .i64 (i : Nat)]) (fun _ b => b) (fun _ r => r) (fun (i : Nat) => i ≤ ks.length ∧ ∀ x ∈ ks.take i, ¬ termHas x.t h) (fun (i : Nat) => ks.length - i) (0) (⟨Nat.zero_le _, by simp⟩) ?_; (conv => whnf); refine ⟨by ((conv => whnf); first | rfl | (simp [envCat, List.take_of_length_le, crow, trow, srow, drow]; done) | (simp [envCat, List.take_of_length_le, crow, trow, srow, drow]; rw [IntKind.wrap_i64]; omega)), ?_⟩
  rintro i ⟨hi, hno⟩
  (conv => whnf)
  by_cases hil : i < ks.length
  · obtain ⟨x, hx⟩ : ∃ x, ks[i]? = some x := ⟨_, List.getElem?_eq_getElem hil⟩
    have hxI : ks[((i : Nat) : Int).toNat]? = some x := hx
    have hxm := List.mem_of_getElem? hx
    have hxl := hf.mless h1 x hxm
    have hxl2 : (x.t.less.map srow).length = x.t.less.length := by simp
    have hix := iff x hxm
    have next : ¬ termHas x.t h → ∀ z ∈ ks.take (i + 1), ¬ termHas z.t h := fun hq z hz => by
      rw [take_snoc hx] at hz
      rcases List.mem_append.1 hz with hz | hz
      · exact hno z hz
      · simp at hz; rw [hz]; exact hq
    (try (conv => whnf)); repeat' (first | refine Ok.seq ?_ | refine OkL.cons ?_ | (refine Ok.region tok ?_; conv => whnf) | (refine Ok.region_draw tok follows (by kernel_rfl) ?_; conv => whnf) | (refine Ok.cond ?_; conv => whnf) | refine Ok.block ?_ | (refine Ok.skip ?_; conv => whnf) | (refine Ok.exit ?_; conv => whnf) | (refine Ok.ret ?_; conv => whnf) | (refine num_in (by omega) (by omega) ?_; conv => whnf) | (refine ix _ (by assumption) ?_; conv => whnf) | (refine ixI (by omega) (by assumption) ?_; conv => whnf) | (refine ix_new _ (by omega) fun _ _ => ?_; conv => whnf) | (refine ixI_new (by omega) (by omega) fun _ _ => ?_; conv => whnf) | (refine ⟨_, by assumption, ?_⟩; conv => whnf) | (refine Or.inl ?_; (conv => whnf); (repeat (refine And.intro (by first | omega | (simp; done) | (simp; omega)) ?_; (conv => whnf))); refine ⟨_, rinside_at h x.t.p hhl, rfl, ?_⟩; conv => whnf) | (refine ⟨_, rinside_at h x.t.p hhl, rfl, ?_⟩; conv => whnf) | (refine Or.inr (Or.inl ?_); (conv => whnf); (repeat (refine And.intro (by first | omega | (simp; done) | (simp; omega)) ?_; (conv => whnf))); refine ⟨_, rinside_at h x.t.p hhl, ?_⟩; rintro _ _ ⟨rfl, rfl⟩; conv => whnf) | (refine Alt2.l (And.intro (by first | omega | (simp; done) | (simp; omega)) ?_); conv => whnf) | (refine Alt2.r (And.intro (by first | omega | (simp; done) | (simp; omega)) ?_); conv => whnf) | (refine Ok.scope ?_) | (refine Ok.label ?_; conv => whnf) | (refine rd rfl (by assumption) ?_; conv => whnf) | (refine ⟨_, .inl ⟨rfl, rfl⟩, ?_⟩; conv => whnf) | (refine ⟨_, _, rfl, rfl, ?_⟩; conv => whnf) | (refine ⟨fun _ => ?_, fun _ => ?_⟩ <;> (conv => whnf) <;> (try (exfalso; omega))) | (refine And.intro (by first | omega | rfl | (simp; done) | (simp; omega)) ?_; conv => whnf) | (refine num_any ?_; conv => whnf) | (refine ⟨_, rfl, ?_⟩; conv => whnf) | fail)
    refine Ok.loopU [1, 2, 5] [6, 7] 0 1 (fun (y : Nat × Prop) => [.b y.2, .i .i64 (y.1 : Nat)]) (fun _ b => b) (fun _ r => r) (fun (y : Nat × Prop) => y.1 ≤ x.t.less.length ∧ (y.2 ↔ inT h x.t.p ∧ ∀ m ∈ x.t.less.take y.1, ¬ inT h m)) (fun (y : Nat × Prop) => x.t.less.length - y.1) ((0, inT h x.t.p)) (⟨Nat.zero_le _, by simp⟩) ?_; (conv => whnf); refine ⟨by ((conv => whnf); first | rfl | (simp [envCat, List.take_of_length_le, crow, trow, srow, drow]; done) | (simp [envCat, List.take_of_length_le, crow, trow, srow, drow]; rw [IntKind.wrap_i64]; omega)), ?_⟩
    rintro ⟨j, pin⟩ ⟨hj, hpin⟩
    dsimp only at hj hpin ⊢
    have stop : ¬ pin → ¬ termHas x.t h := fun hq q => hq (hpin.2 ⟨(hix.1 q).1, fun m hm => (hix.1 q).2 m (List.mem_of_mem_take hm)⟩)
    (conv => whnf)
    by_cases hjl : j < x.t.less.length
    · obtain ⟨m, hm⟩ : ∃ m, x.t.less[j]? = some m := ⟨_, List.getElem?_eq_getElem hjl⟩
      have hmI : x.t.less[((j : Nat) : Int).toNat]? = some m := hm
      (try (conv => whnf)); repeat' (first | refine Ok.seq ?_ | refine OkL.cons ?_ | (refine Ok.region tok ?_; conv => whnf) | (refine Ok.region_draw tok follows (by kernel_rfl) ?_; conv => whnf) | (refine Ok.cond ?_; conv => whnf) | refine Ok.block ?_ | (refine Ok.skip ?_; conv => whnf) | (refine Ok.exit ?_; conv => whnf) | (refine Ok.ret ?_; conv => whnf) | (refine num_in (by omega) (by omega) ?_; conv => whnf) | (refine ix _ (by assumption) ?_; conv => whnf) | (refine ixI (by omega) (by assumption) ?_; conv => whnf) | (refine ix_new _ (by omega) fun _ _ => ?_; conv => whnf) | (refine ixI_new (by omega) (by omega) fun _ _ => ?_; conv => whnf) | (refine ⟨_, by assumption, ?_⟩; conv => whnf) | (refine Or.inl ?_; (conv => whnf); (repeat (refine And.intro (by first | omega | (simp; done) | (simp; omega)) ?_; (conv => whnf))); refine ⟨_, rinside_at h m hhl, rfl, ?_⟩; conv => whnf) | (refine ⟨_, rinside_at h m hhl, rfl, ?_⟩; conv => whnf) | (refine Or.inr (Or.inl ?_); (conv => whnf); (repeat (refine And.intro (by first | omega | (simp; done) | (simp; omega)) ?_; (conv => whnf))); refine ⟨_, rinside_at h m hhl, ?_⟩; rintro _ _ ⟨rfl, rfl⟩; conv => whnf) | (refine Alt2.l (And.intro (by first | omega | (simp; done) | (simp; omega)) ?_); conv => whnf) | (refine Alt2.r (And.intro (by first | omega | (simp; done) | (simp; omega)) ?_); conv => whnf) | (refine Ok.scope ?_) | (refine Ok.label ?_; conv => whnf) | (refine rd rfl (by assumption) ?_; conv => whnf) | (refine ⟨_, .inl ⟨rfl, rfl⟩, ?_⟩; conv => whnf) | (refine ⟨_, _, rfl, rfl, ?_⟩; conv => whnf) | (refine ⟨fun _ => ?_, fun _ => ?_⟩ <;> (conv => whnf) <;> (try (exfalso; omega))) | (refine And.intro (by first | omega | rfl | (simp; done) | (simp; omega)) ?_; conv => whnf) | (refine num_any ?_; conv => whnf) | (refine ⟨_, rfl, ?_⟩; conv => whnf) | fail)
      · rename_i hp
        refine ⟨(j + 1, ¬ inT h m), by dsimp only; omega, ⟨by dsimp only; omega, ?_⟩, ?_⟩
        · dsimp only
          rw [take_snoc hm]
          have h2 := hpin.1 hp
          constructor
          · intro q
            refine ⟨h2.1, fun z hz => ?_⟩
            rcases List.mem_append.1 hz with hz | hz
            · exact h2.2 z hz
            · simp at hz; rw [hz]; exact q
          · intro q
            exact q.2 m (by simp)
        · (conv => whnf)
          rfl
      · rename_i hp hp2
        exact absurd hp2 hp
      · rename_i hp
        refine ⟨i + 1, by omega, ⟨by omega, next (stop hp)⟩, ?_⟩
        (conv => whnf)
        rfl
    · have hje : j = x.t.less.length := by omega
      subst hje
      rw [List.take_length] at hpin
      rw [← hix] at hpin
      (try (conv => whnf)); repeat' (first | refine Ok.seq ?_ | refine OkL.cons ?_ | (refine Ok.region tok ?_; conv => whnf) | (refine Ok.region_draw tok follows (by kernel_rfl) ?_; conv => whnf) | (refine Ok.cond ?_; conv => whnf) | refine Ok.block ?_ | (refine Ok.skip ?_; conv => whnf) | (refine Ok.exit ?_; conv => whnf) | (refine Ok.ret ?_; conv => whnf) | (refine num_in (by omega) (by omega) ?_; conv => whnf) | (refine ix _ (by assumption) ?_; conv => whnf) | (refine ixI (by omega) (by assumption) ?_; conv => whnf) | (refine ix_new _ (by omega) fun _ _ => ?_; conv => whnf) | (refine ixI_new (by omega) (by omega) fun _ _ => ?_; conv => whnf) | (refine ⟨_, by assumption, ?_⟩; conv => whnf) | (refine Alt2.l (And.intro (by first | omega | (simp; done) | (simp; omega)) ?_); conv => whnf) | (refine Alt2.r (And.intro (by first | omega | (simp; done) | (simp; omega)) ?_); conv => whnf) | (refine Ok.scope ?_) | (refine Ok.label ?_; conv => whnf) | (refine rd rfl (by assumption) ?_; conv => whnf) | (refine ⟨_, .inl ⟨rfl, rfl⟩, ?_⟩; conv => whnf) | (refine ⟨_, _, rfl, rfl, ?_⟩; conv => whnf) | (refine ⟨fun _ => ?_, fun _ => ?_⟩ <;> (conv => whnf) <;> (try (exfalso; omega))) | (refine And.intro (by first | omega | rfl | (simp; done) | (simp; omega)) ?_; conv => whnf) | (refine num_any ?_; conv => whnf) | (refine ⟨_, rfl, ?_⟩; conv => whnf) | fail)
      · rename_i hp
        refine Or.inl ?_; (conv => whnf)
        show D.b True = _
        exact congrArg D.b (propext ⟨fun _ => ⟨x.t, mem_of_map h1 hxm, hpin.1 hp⟩, fun _ => trivial⟩)
      · rename_i hp
        refine ⟨i + 1, by omega, ⟨by omega, next fun q => hp (hpin.2 q)⟩, ?_⟩
        (conv => whnf)
        rfl
  · have hie : i = ks.length := by omega
    subst hie
    rw [List.take_length] at hno
    (try (conv => whnf)); repeat' (first | refine Ok.seq ?_ | refine OkL.cons ?_ | (refine Ok.region tok ?_; conv => whnf) | (refine Ok.region_draw tok follows (by kernel_rfl) ?_; conv => whnf) | (refine Ok.cond ?_; conv => whnf) | refine Ok.block ?_ | (refine Ok.skip ?_; conv => whnf) | (refine Ok.exit ?_; conv => whnf) | (refine Ok.ret ?_; conv => whnf) | (refine num_in (by omega) (by omega) ?_; conv => whnf) | (refine ix _ (by assumption) ?_; conv => whnf) | (refine ixI (by omega) (by assumption) ?_; conv => whnf) | (refine ix_new _ (by omega) fun _ _ => ?_; conv => whnf) | (refine ixI_new (by omega) (by omega) fun _ _ => ?_; conv => whnf) | (refine ⟨_, by assumption, ?_⟩; conv => whnf) | (refine Alt2.l (And.intro (by first | omega | (simp; done) | (simp; omega)) ?_); conv => whnf) | (refine Alt2.r (And.intro (by first | omega | (simp; done) | (simp; omega)) ?_); conv => whnf) | (refine Ok.scope ?_) | (refine Ok.label ?_; conv => whnf) | (refine rd rfl (by assumption) ?_; conv => whnf) | (refine ⟨_, .inl ⟨rfl, rfl⟩, ?_⟩; conv => whnf) | (refine ⟨_, _, rfl, rfl, ?_⟩; conv => whnf) | (refine ⟨fun _ => ?_, fun _ => ?_⟩ <;> (conv => whnf) <;> (try (exfalso; omega))) | (refine And.intro (by first | omega | rfl | (simp; done) | (simp; omega)) ?_; conv => whnf) | (refine num_any ?_; conv => whnf) | (refine ⟨_, rfl, ?_⟩; conv => whnf) | fail)
    refine Or.inl ?_; (conv => whnf)
    show D.b False = _
    refine congrArg D.b (propext ⟨fun q => q.elim, fun ⟨t, ht, q⟩ => ?_⟩)
    rw [← h1] at ht
    obtain ⟨x, hx, rfl⟩ := List.mem_map.1 ht
    exact hno x hx q
set_option maxRecDepth 100000 in
set_option maxHeartbeats 8000000 in
theorem holds_at (n : Int) (a : Str) (hs : List Str) (hr : List Str) : FSpec Tryz.prog T 5 [.i .i64 n, .s a, .lst 9 (hs.map fun s => [.s s]) (hr.map fun s => [.s s])] (fun r _ => r = .b True) := by
  have hf := parO_fine n a
  have r1 := read_at n a
  unfold ReadO at r1
  generalize parO n a = o1 at *
  obtain ⟨e1, n1, ts⟩ := o1
  dsimp only at hf r1
  have hll : (hs.map srow).length = hs.length := by simp
  show FSpec Tryz.prog T 5 [.i .i64 n, .s a, .lst 9 (hs.map srow) (hr.map fun s => [.s s])] (fun r _ => r = .b True)
  refine FSpec.of_ok tok Tryz.func5 rfl Tryz.call5 (by simp) ?_
  (try (conv => whnf)); repeat' (first | refine Ok.seq ?_ | refine OkL.cons ?_ | (refine Ok.region tok ?_; conv => whnf) | (refine Ok.region_draw tok follows (by kernel_rfl) ?_; conv => whnf) | (refine Ok.cond ?_; conv => whnf) | refine Ok.block ?_ | (refine Ok.skip ?_; conv => whnf) | (refine Ok.exit ?_; conv => whnf) | (refine Ok.ret ?_; conv => whnf) | (refine num_in (by omega) (by omega) ?_; conv => whnf) | (refine ix _ (by assumption) ?_; conv => whnf) | (refine ixI (by omega) (by assumption) ?_; conv => whnf) | (refine ix_new _ (by omega) fun _ _ => ?_; conv => whnf) | (refine ixI_new (by omega) (by omega) fun _ _ => ?_; conv => whnf) | (refine ⟨_, by assumption, ?_⟩; conv => whnf) | (refine Or.inr (Or.inl ?_); (conv => whnf); (repeat (refine And.intro (by first | omega | (simp; done) | (simp; omega)) ?_; (conv => whnf))); refine ⟨_, r1 , ?_⟩; rintro _ _ ⟨rfl, ks1, kd1, rm1, rd1, rfl, h1, h1d⟩ <;> (conv => whnf)) | (refine Alt2.l (And.intro (by first | omega | (simp; done) | (simp; omega)) ?_); conv => whnf) | (refine Alt2.r (And.intro (by first | omega | (simp; done) | (simp; omega)) ?_); conv => whnf) | (refine Ok.scope ?_) | (refine Ok.label ?_; conv => whnf) | (refine rd rfl (by assumption) ?_; conv => whnf) | (refine ⟨_, .inl ⟨rfl, rfl⟩, ?_⟩; conv => whnf) | (refine ⟨_, _, rfl, rfl, ?_⟩; conv => whnf) | (refine ⟨fun _ => ?_, fun _ => ?_⟩ <;> (conv => whnf) <;> (try (exfalso; omega))) | (refine And.intro (by first | omega | rfl | (simp; done) | (simp; omega)) ?_; conv => whnf) | (refine num_any ?_; conv => whnf) | (refine ⟨_, rfl, ?_⟩; conv => whnf) | fail)
  · exact absurd trivial (by assumption)
  refine Ok.loopU [2, 7, 8] [10] 0 2 (fun (i : Nat) => [.i .i64 (i : Nat)]) (fun _ b => b) (fun _ r => r) (fun (i : Nat) => i ≤ hs.length ∧ i ≤ 64) (fun (i : Nat) => hs.length - i) (0) (⟨Nat.zero_le _, by omega⟩) ?_; (conv => whnf); refine ⟨by ((conv => whnf); first | rfl | (simp [envCat, List.take_of_length_le, crow, trow, srow, drow]; done) | (simp [envCat, List.take_of_length_le, crow, trow, srow, drow]; rw [IntKind.wrap_i64]; omega)), ?_⟩
  rintro i ⟨hi, hi2⟩
  (conv => whnf)
  by_cases hil : i < hs.length
  · obtain ⟨h, hh⟩ : ∃ h, hs[i]? = some h := ⟨_, List.getElem?_eq_getElem hil⟩
    have hhI : hs[((i : Nat) : Int).toNat]? = some h := hh
    (try (conv => whnf)); repeat' (first | refine Ok.seq ?_ | refine OkL.cons ?_ | (refine Ok.region tok ?_; conv => whnf) | (refine Ok.region_draw tok follows (by kernel_rfl) ?_; conv => whnf) | (refine Ok.cond ?_; conv => whnf) | refine Ok.block ?_ | (refine Ok.skip ?_; conv => whnf) | (refine Ok.exit ?_; conv => whnf) | (refine Ok.ret ?_; conv => whnf) | (refine num_in (by omega) (by omega) ?_; conv => whnf) | (refine ix _ (by assumption) ?_; conv => whnf) | (refine ixI (by omega) (by assumption) ?_; conv => whnf) | (refine ix_new _ (by omega) fun _ _ => ?_; conv => whnf) | (refine ixI_new (by omega) (by omega) fun _ _ => ?_; conv => whnf) | (refine ⟨_, by assumption, ?_⟩; conv => whnf) | (refine Or.inl ?_; (conv => whnf); (repeat (refine And.intro (by first | omega | (simp; done) | (simp; omega)) ?_; (conv => whnf))); refine ⟨_, hasS_at hf ks1 rm1 h1 h, rfl, ?_⟩; conv => whnf) | (refine Or.inl ?_; (conv => whnf); (repeat (refine And.intro (by first | omega | (simp; done) | (simp; omega)) ?_; (conv => whnf))); refine ⟨_, rhas_at hf kd1 rd1 h1d h, rfl, ?_⟩; conv => whnf) | (refine ⟨_, hasS_at hf ks1 rm1 h1 h, rfl, ?_⟩; conv => whnf) | (refine ⟨_, rhas_at hf kd1 rd1 h1d h, rfl, ?_⟩; conv => whnf) | (refine Or.inr (Or.inl ?_); (conv => whnf); (repeat (refine And.intro (by first | omega | (simp; done) | (simp; omega)) ?_; (conv => whnf))); refine ⟨_, hasS_at hf ks1 rm1 h1 h, ?_⟩; rintro _ _ ⟨rfl, rfl⟩; conv => whnf) | (refine Or.inr (Or.inl ?_); (conv => whnf); (repeat (refine And.intro (by first | omega | (simp; done) | (simp; omega)) ?_; (conv => whnf))); refine ⟨_, rhas_at hf kd1 rd1 h1d h, ?_⟩; rintro _ _ ⟨rfl, rfl⟩; conv => whnf) | (refine Alt2.l (And.intro (by first | omega | (simp; done) | (simp; omega)) ?_); conv => whnf) | (refine Alt2.r (And.intro (by first | omega | (simp; done) | (simp; omega)) ?_); conv => whnf) | (refine Ok.scope ?_) | (refine Ok.label ?_; conv => whnf) | (refine rd rfl (by assumption) ?_; conv => whnf) | (refine ⟨_, .inl ⟨rfl, rfl⟩, ?_⟩; conv => whnf) | (refine ⟨_, _, rfl, rfl, ?_⟩; conv => whnf) | (refine ⟨fun _ => ?_, fun _ => ?_⟩ <;> (conv => whnf) <;> (try (exfalso; omega))) | (refine And.intro (by first | omega | rfl | (simp; done) | (simp; omega)) ?_; conv => whnf) | (refine num_any ?_; conv => whnf) | (refine ⟨_, rfl, ?_⟩; conv => whnf) | fail)
    · exact absurd Iff.rfl (by assumption)
    · refine ⟨i + 1, by omega, ⟨by omega, by omega⟩, ?_⟩
      (conv => whnf)
      rfl
    · refine Or.inl ?_; (conv => whnf)
      rfl
  · (try (conv => whnf)); repeat' (first | refine Ok.seq ?_ | refine OkL.cons ?_ | (refine Ok.region tok ?_; conv => whnf) | (refine Ok.region_draw tok follows (by kernel_rfl) ?_; conv => whnf) | (refine Ok.cond ?_; conv => whnf) | refine Ok.block ?_ | (refine Ok.skip ?_; conv => whnf) | (refine Ok.exit ?_; conv => whnf) | (refine Ok.ret ?_; conv => whnf) | (refine num_in (by omega) (by omega) ?_; conv => whnf) | (refine ix _ (by assumption) ?_; conv => whnf) | (refine ixI (by omega) (by assumption) ?_; conv => whnf) | (refine ix_new _ (by omega) fun _ _ => ?_; conv => whnf) | (refine ixI_new (by omega) (by omega) fun _ _ => ?_; conv => whnf) | (refine ⟨_, by assumption, ?_⟩; conv => whnf) | (refine Alt2.l (And.intro (by first | omega | (simp; done) | (simp; omega)) ?_); conv => whnf) | (refine Alt2.r (And.intro (by first | omega | (simp; done) | (simp; omega)) ?_); conv => whnf) | (refine Ok.scope ?_) | (refine Ok.label ?_; conv => whnf) | (refine rd rfl (by assumption) ?_; conv => whnf) | (refine ⟨_, .inl ⟨rfl, rfl⟩, ?_⟩; conv => whnf) | (refine ⟨_, _, rfl, rfl, ?_⟩; conv => whnf) | (refine ⟨fun _ => ?_, fun _ => ?_⟩ <;> (conv => whnf) <;> (try (exfalso; omega))) | (refine And.intro (by first | omega | rfl | (simp; done) | (simp; omega)) ?_; conv => whnf) | (refine num_any ?_; conv => whnf) | (refine ⟨_, rfl, ?_⟩; conv => whnf) | fail)
    all_goals
      refine Or.inl ?_; (conv => whnf)
      rfl
end Go.Proofs.YtaiondckookpiaaGreatDoor
