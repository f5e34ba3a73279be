/- RibOrders: every Order answers as the document says; the list that went in, and the room behind it, are as they were; the same list with other routes in it is another question. -/
import Derived.Test.YtgelaefpbdfnfaaRO
namespace Go.Proofs.Ytgelaefpbdfnfaa
open Go Go.Vx

noncomputable def ordE (bits : Int) (l : List Route) : List Route := if checkE bits l ≠ 0 then [] else ordF l

set_option maxRecDepth 100000 in
theorem Order_spec (bits : Int) (l : List Route) (room : List (List D)) : FSpec Try.prog T 18 [.i .i64 bits, .lst 68 (l.map Route.row) room] (fun d rows => rows = [some (68, (ordE bits l).map Route.row)] ∧ d = .tup [.own 0 (ordE bits l).length, .i .i64 (checkE bits l)]) := by
  refine FSpec.of_ok tok Try.func18 rfl Try.call18 (by simp) ?_
  (try (conv => whnf)); repeat' (first | refine Ok.seq ?_ | (refine Ok.region tok ?_; conv => whnf) | (refine Ok.region_draw tok follows (by kernel_rfl) ?_; conv => whnf) | (refine Ok.cond ?_; conv => whnf) | refine Ok.block ?_ | (refine Ok.skip ?_; conv => whnf) | (refine Ok.exit ?_; conv => whnf) | (refine Ok.ret ?_; conv => whnf) | (refine num_in (by omega) (by omega) ?_; conv => whnf) | (refine ix _ (by assumption) ?_; conv => whnf) | (refine ixI (by omega) (by assumption) ?_; conv => whnf) | (refine ix_new _ (by omega) fun _ _ => ?_; conv => whnf) | (refine ixI_new (by omega) (by omega) fun _ _ => ?_; conv => whnf) | (refine Or.inl ?_; (conv => whnf); (repeat (refine And.intro (by first | omega | (simp; done) | (simp; omega)) ?_; (conv => whnf))); refine ⟨_, check_spec bits l room, rfl, ?_⟩; conv => whnf) | (refine ⟨_, check_spec bits l room, rfl, ?_⟩; conv => whnf) | (refine Or.inr (Or.inl ?_); (conv => whnf); (repeat (refine And.intro (by first | omega | (simp; done) | (simp; omega)) ?_; (conv => whnf))); refine ⟨_, check_spec bits l room, ?_⟩; rintro _ _ ⟨rfl, rfl⟩; conv => whnf) | (refine rd rfl (by assumption) ?_; conv => whnf) | (refine ⟨_, .inl ⟨rfl, rfl⟩, ?_⟩; conv => whnf) | (refine ⟨_, _, rfl, rfl, ?_⟩; conv => whnf) | (refine ⟨fun _ => ?_, fun _ => ?_⟩ <;> (conv => whnf) <;> (try (exfalso; omega))) | (refine And.intro (by first | omega | rfl | (simp; done) | (simp; omega)) ?_; conv => whnf) | (refine num_any ?_; conv => whnf) | fail)
  · rename_i h1
    refine Or.inr (Or.inr ?_); (conv => whnf)
    simp [oneD, ordE, h1]
  rename_i h1
  have h1 : checkE bits l = 0 := Classical.not_not.1 h1
  obtain ⟨hl, hb1, hb2, hok⟩ := checkE_ok h1
  right
  left
  (conv => whnf)
  refine ⟨_, order_spec l room (by omega), ?_⟩
  rintro d rows ⟨rfl, ps, hp, hs, rfl⟩
  have hE : ordE bits l = (ps.foldl ddF []).map (·.r) := by unfold ordE; rw [if_neg (by omega), ordF_eq (dd_ord hp hs)]
  have hol2 : (ps.foldl ddF []).length ≤ 256 := by have := dd_len ps; have := hp.length_eq; simp [numb] at this; omega
  generalize ps.foldl ddF [] = o at hE hol2 ⊢
  have hol : (o.map Num.row).length = o.length := by simp
  (try (conv => whnf)); repeat' (first | refine Ok.seq ?_ | (refine Ok.region tok ?_; conv => whnf) | (refine Ok.region_draw tok follows (by kernel_rfl) ?_; conv => whnf) | (refine Ok.cond ?_; conv => whnf) | refine Ok.block ?_ | (refine Ok.skip ?_; conv => whnf) | (refine Ok.exit ?_; conv => whnf) | (refine Ok.ret ?_; conv => whnf) | (refine num_in (by omega) (by omega) ?_; conv => whnf) | (refine ix _ (by assumption) ?_; conv => whnf) | (refine ixI (by omega) (by assumption) ?_; conv => whnf) | (refine ix_new _ (by omega) fun _ _ => ?_; conv => whnf) | (refine ixI_new (by omega) (by omega) fun _ _ => ?_; conv => whnf) | (refine rd rfl (by assumption) ?_; conv => whnf) | (refine ⟨_, .inl ⟨rfl, rfl⟩, ?_⟩; conv => whnf) | (refine ⟨_, _, rfl, rfl, ?_⟩; conv => whnf) | (refine ⟨fun _ => ?_, fun _ => ?_⟩ <;> (conv => whnf) <;> (try (exfalso; omega))) | (refine And.intro (by first | omega | rfl | (simp; done) | (simp; omega)) ?_; conv => whnf) | (refine num_any ?_; conv => whnf) | fail)
  refine Ok.ghost 7 68 rfl ?_
  (conv => whnf)
  refine Ok.loopU [17, 18] [7, 19] 1 0 (fun (x : Nat × List Route) => [.own 0 x.2.length, .i .i64 (x.1 : Nat)]) (fun _ b => b) (fun (x : Nat × List Route) (_ : Vx.Rows) => [some (68, x.2.map Route.row)]) (fun (x : Nat × List Route) => x.1 ≤ o.length ∧ x.2 = (o.take x.1).map (·.r)) (fun (x : Nat × List Route) => o.length - x.1) ((0, [])) (⟨Nat.zero_le _, by simp⟩) ?_; (conv => whnf); refine ⟨by ((conv => whnf); first | rfl | simp [envCat, List.take_of_length_le, Route.row, nrow]), ?_⟩
  rintro ⟨k, acc⟩ ⟨hk, hacc⟩
  dsimp only at hk hacc ⊢
  have hal : acc.length = k := by rw [hacc]; simp; omega
  by_cases hkl : k < o.length
  · obtain ⟨x, hx⟩ : ∃ x, o[k]? = some x := ⟨_, List.getElem?_eq_getElem hkl⟩
    (try (conv => whnf)); repeat' (first | refine Ok.seq ?_ | (refine Ok.region tok ?_; conv => whnf) | (refine Ok.region_draw tok follows (by kernel_rfl) ?_; conv => whnf) | (refine Ok.cond ?_; conv => whnf) | refine Ok.block ?_ | (refine Ok.skip ?_; conv => whnf) | (refine Ok.exit ?_; conv => whnf) | (refine Ok.ret ?_; conv => whnf) | (refine num_in (by omega) (by omega) ?_; conv => whnf) | (refine ix _ (by assumption) ?_; conv => whnf) | (refine ixI (by omega) (by assumption) ?_; conv => whnf) | (refine ix_new _ (by omega) fun _ _ => ?_; conv => whnf) | (refine ixI_new (by omega) (by omega) fun _ _ => ?_; conv => whnf) | (refine rd rfl (by assumption) ?_; conv => whnf) | (refine ⟨_, .inl ⟨rfl, rfl⟩, ?_⟩; conv => whnf) | (refine ⟨_, _, rfl, rfl, ?_⟩; conv => whnf) | (refine ⟨fun _ => ?_, fun _ => ?_⟩ <;> (conv => whnf) <;> (try (exfalso; omega))) | (refine And.intro (by first | omega | rfl | (simp; done) | (simp; omega)) ?_; conv => whnf) | (refine num_any ?_; conv => whnf) | fail)
    refine ⟨(k + 1, acc ++ [x.r]), by dsimp only; omega, ⟨by dsimp only; omega, ?_⟩, ?_⟩
    · dsimp only
      rw [List.take_add_one, hx, hacc]
      simp
    · (conv => whnf); simp [envCat, Route.row]
  · have hkk : k = o.length := by omega
    subst hkk
    (try (conv => whnf)); repeat' (first | refine Ok.seq ?_ | (refine Ok.region tok ?_; conv => whnf) | (refine Ok.region_draw tok follows (by kernel_rfl) ?_; conv => whnf) | (refine Ok.cond ?_; conv => whnf) | refine Ok.block ?_ | (refine Ok.skip ?_; conv => whnf) | (refine Ok.exit ?_; conv => whnf) | (refine Ok.ret ?_; conv => whnf) | (refine num_in (by omega) (by omega) ?_; conv => whnf) | (refine ix _ (by assumption) ?_; conv => whnf) | (refine ixI (by omega) (by assumption) ?_; conv => whnf) | (refine ix_new _ (by omega) fun _ _ => ?_; conv => whnf) | (refine ixI_new (by omega) (by omega) fun _ _ => ?_; conv => whnf) | (refine rd rfl (by assumption) ?_; conv => whnf) | (refine ⟨_, .inl ⟨rfl, rfl⟩, ?_⟩; conv => whnf) | (refine ⟨_, _, rfl, rfl, ?_⟩; conv => whnf) | (refine ⟨fun _ => ?_, fun _ => ?_⟩ <;> (conv => whnf) <;> (try (exfalso; omega))) | (refine And.intro (by first | omega | rfl | (simp; done) | (simp; omega)) ?_; conv => whnf) | (refine num_any ?_; conv => whnf) | fail)
    refine Or.inr (Or.inl ?_); (conv => whnf)
    have ha : acc = ordE bits l := by rw [hacc, hE, List.take_length]
    rw [← ha, h1]
    refine ⟨rfl, ?_⟩
    simp [oneD]

def nrow (x : Num) : List D := x.r.row
set_option maxRecDepth 100000 in
theorem refOrderL_spec (l : List Route) (room : List (List D)) (hl : l.length ≤ 270) : FSpec Try.prog T 43 [.lst 68 (l.map Route.row) room] (fun d rows => rows = [] ∧ d = .lst 68 ((ordF l).map Route.row) []) := by
  have e0 : l.map Route.row = (numb l).map nrow := by
    simp only [numb, List.map_map]
    have : (fun x : Route × Nat => Route.row x.1) = Route.row ∘ Prod.fst := rfl
    show _ = List.map (fun x : Route × Nat => Route.row x.1) l.zipIdx
    rw [this, ← List.map_map, List.zipIdx_map_fst]
  have hnl : (numb l).length = l.length := by simp [numb]
  refine FSpec.of_ok tok Try.func43 rfl Try.call43 (by simp) ?_
  rw [e0]
  (try (conv => whnf)); repeat' (first | refine Ok.seq ?_ | (refine Ok.region tok ?_; conv => whnf) | (refine Ok.region_draw tok follows (by kernel_rfl) ?_; conv => whnf) | (refine Ok.cond ?_; conv => whnf) | refine Ok.block ?_ | (refine Ok.skip ?_; conv => whnf) | (refine Ok.exit ?_; conv => whnf) | (refine Ok.ret ?_; conv => whnf) | (refine num_in (by omega) (by omega) ?_; conv => whnf) | (refine ix _ (by assumption) ?_; conv => whnf) | (refine ixI (by omega) (by assumption) ?_; conv => whnf) | (refine ix_new _ (by omega) fun _ _ => ?_; conv => whnf) | (refine ixI_new (by omega) (by omega) fun _ _ => ?_; conv => whnf) | (refine rd rfl (by assumption) ?_; conv => whnf) | (refine ⟨_, .inl ⟨rfl, rfl⟩, ?_⟩; conv => whnf) | (refine ⟨_, _, rfl, rfl, ?_⟩; conv => whnf) | (refine ⟨fun _ => ?_, fun _ => ?_⟩ <;> (conv => whnf) <;> (try (exfalso; omega))) | (refine And.intro (by first | omega | rfl | (simp; done) | (simp; omega)) ?_; conv => whnf) | (refine num_any ?_; conv => whnf) | fail)
  refine Ok.ghost 4 68 rfl ?_
  (conv => whnf)
  refine Ok.pub 0 ?_
  (conv => whnf)
  refine Ok.loopU [] [3, 4] 2 0 (fun (x : List Num × List Num) => [.lst 68 (x.1.map nrow) [], .own 1 x.2.length]) (fun _ b => b) (fun (x : List Num × List Num) (_ : Vx.Rows) => [none, some (68, x.2.map nrow)]) (fun (x : List Num × List Num) => Sel l x.1 x.2 ∧ x.2.length + x.1.length ≤ l.length) (fun (x : List Num × List Num) => x.1.length) ((numb l, [])) (⟨Sel.start l, by simp [hnl]⟩) ?_; (conv => whnf); refine ⟨by ((conv => whnf); first | rfl | simp [envCat, List.take_of_length_le, Route.row, nrow]), ?_⟩
  rintro ⟨rest, out⟩ ⟨hS, hlen⟩
  dsimp only at hS hlen ⊢
  have hrl : (rest.map nrow).length = rest.length := by simp
  by_cases h0 : 0 < rest.length
  · (try (conv => whnf)); repeat' (first | refine Ok.seq ?_ | (refine Ok.region tok ?_; conv => whnf) | (refine Ok.region_draw tok follows (by kernel_rfl) ?_; conv => whnf) | (refine Ok.cond ?_; conv => whnf) | refine Ok.block ?_ | (refine Ok.skip ?_; conv => whnf) | (refine Ok.exit ?_; conv => whnf) | (refine Ok.ret ?_; conv => whnf) | (refine num_in (by omega) (by omega) ?_; conv => whnf) | (refine ix _ (by assumption) ?_; conv => whnf) | (refine ixI (by omega) (by assumption) ?_; conv => whnf) | (refine ix_new _ (by omega) fun _ _ => ?_; conv => whnf) | (refine ixI_new (by omega) (by omega) fun _ _ => ?_; conv => whnf) | (refine rd rfl (by assumption) ?_; conv => whnf) | (refine ⟨_, .inl ⟨rfl, rfl⟩, ?_⟩; conv => whnf) | (refine ⟨_, _, rfl, rfl, ?_⟩; conv => whnf) | (refine ⟨fun _ => ?_, fun _ => ?_⟩ <;> (conv => whnf) <;> (try (exfalso; omega))) | (refine And.intro (by first | omega | rfl | (simp; done) | (simp; omega)) ?_; conv => whnf) | (refine num_any ?_; conv => whnf) | fail)
    refine Ok.loopU [3, 4] [5, 6] 2 0 (fun (x : Nat × Nat) => [.i .i64 (x.1 : Nat), .i .i64 (x.2 : Nat)]) (fun _ b => b) (fun _ r => r) (fun (x : Nat × Nat) => x.2 ≤ rest.length ∧ x.1 < rest.length ∧ x.1 < x.2 ∧ ∀ j a b, j < x.2 → rest[j]? = some a → rest[x.1]? = some b → ¬ firstP a b) (fun (x : Nat × Nat) => rest.length - x.2) ((0, 1)) (⟨by dsimp only; omega, h0, by dsimp only; omega, fun j a b h1 h2 h3 => by dsimp only at h1 h3; obtain rfl : j = 0 := (by omega); rw [h2] at h3; cases h3; exact first_swo.irrefl _⟩) ?_; (conv => whnf); refine ⟨by ((conv => whnf); first | rfl | simp [envCat, List.take_of_length_le, Route.row, nrow]), ?_⟩
    rintro ⟨k, i⟩ ⟨hi, hk, hki, hmin⟩
    dsimp only at hi hk hki hmin ⊢
    obtain ⟨b, hb⟩ : ∃ b, rest[k]? = some b := ⟨_, List.getElem?_eq_getElem hk⟩
    by_cases hil : i < rest.length
    · obtain ⟨a, ha⟩ : ∃ a, rest[i]? = some a := ⟨_, List.getElem?_eq_getElem hil⟩
      have hat : b.at_ < a.at_ := by
        have h1 := List.pairwise_iff_getElem.1 hS.at_ k i hk hil hki
        rw [List.getElem?_eq_getElem hk] at hb
        rw [List.getElem?_eq_getElem hil] at ha
        cases hb
        cases ha
        exact h1
      have hfa : firstP a b ↔ aheadP a.r b.r := by
        unfold firstP aheadP
        split
        · rfl
        split
        · rfl
        split
        · rfl
        · constructor <;> intro h' <;> omega
      (try (conv => whnf)); repeat' (first | refine Ok.seq ?_ | (refine Ok.region tok ?_; conv => whnf) | (refine Ok.region_draw tok follows (by kernel_rfl) ?_; conv => whnf) | (refine Ok.cond ?_; conv => whnf) | refine Ok.block ?_ | (refine Ok.skip ?_; conv => whnf) | (refine Ok.exit ?_; conv => whnf) | (refine Ok.ret ?_; conv => whnf) | (refine num_in (by omega) (by omega) ?_; conv => whnf) | (refine ix _ (by assumption) ?_; conv => whnf) | (refine ixI (by omega) (by assumption) ?_; conv => whnf) | (refine ix_new _ (by omega) fun _ _ => ?_; conv => whnf) | (refine ixI_new (by omega) (by omega) fun _ _ => ?_; conv => whnf) | (refine Or.inl ?_; (conv => whnf); (repeat (refine And.intro (by first | omega | (simp; done) | (simp; omega)) ?_; (conv => whnf))); refine ⟨_, ahead_spec a.r b.r, rfl, ?_⟩; conv => whnf) | (refine ⟨_, ahead_spec a.r b.r, rfl, ?_⟩; conv => whnf) | (refine Or.inr (Or.inl ?_); (conv => whnf); (repeat (refine And.intro (by first | omega | (simp; done) | (simp; omega)) ?_; (conv => whnf))); refine ⟨_, ahead_spec a.r b.r, ?_⟩; rintro _ _ ⟨rfl, rfl⟩; conv => whnf) | (refine rd rfl (by assumption) ?_; conv => whnf) | (refine ⟨_, .inl ⟨rfl, rfl⟩, ?_⟩; conv => whnf) | (refine ⟨_, _, rfl, rfl, ?_⟩; conv => whnf) | (refine ⟨fun _ => ?_, fun _ => ?_⟩ <;> (conv => whnf) <;> (try (exfalso; omega))) | (refine And.intro (by first | omega | rfl | (simp; done) | (simp; omega)) ?_; conv => whnf) | (refine num_any ?_; conv => whnf) | fail)
      · rename_i hah
        refine ⟨(i, i + 1), by dsimp only; omega, ⟨by dsimp only; omega, hil, by dsimp only; omega, fun j c d h1 h2 h3 => ?_⟩, ?_⟩
        · dsimp only at h1 h3
          rw [ha] at h3
          cases h3
          by_cases hji : j = i
          · subst hji; rw [ha] at h2; cases h2; exact first_swo.irrefl _
          · have h4 := hmin j c b (by omega) h2 hb
            exact first_swo.trans _ _ _ (first_swo.asymm _ _ (hfa.2 hah)) h4
        · (conv => whnf); (first | rfl | simp [envCat, List.take_of_length_le, Route.row, nrow])
      · rename_i hah
        refine ⟨(k, i + 1), by dsimp only; omega, ⟨by dsimp only; omega, hk, by dsimp only; omega, fun j c d h1 h2 h3 => ?_⟩, ?_⟩
        · dsimp only at h1 h3
          by_cases hji : j = i
          · subst hji; rw [ha] at h2; cases h2; rw [hb] at h3; cases h3; exact fun h => hah (hfa.1 h)
          · exact hmin j c d (by omega) h2 h3
        · (conv => whnf); (first | rfl | simp [envCat, List.take_of_length_le, Route.row, nrow])
    · have hii : i = rest.length := by omega
      subst hii
      have hbm := List.mem_of_getElem? hb
      have hmin' : ∀ y ∈ rest, ¬ firstP y b := fun y hy => by
        obtain ⟨j, hj⟩ := List.getElem?_of_mem hy
        exact hmin j y b (List.getElem?_eq_some_iff.1 hj).1 hj hb
      (try (conv => whnf)); repeat' (first | refine Ok.seq ?_ | (refine Ok.region tok ?_; conv => whnf) | (refine Ok.region_draw tok follows (by kernel_rfl) ?_; conv => whnf) | (refine Ok.cond ?_; conv => whnf) | refine Ok.block ?_ | (refine Ok.skip ?_; conv => whnf) | (refine Ok.exit ?_; conv => whnf) | (refine Ok.ret ?_; conv => whnf) | (refine num_in (by omega) (by omega) ?_; conv => whnf) | (refine ix _ (by assumption) ?_; conv => whnf) | (refine ixI (by omega) (by assumption) ?_; conv => whnf) | (refine ix_new _ (by omega) fun _ _ => ?_; conv => whnf) | (refine ixI_new (by omega) (by omega) fun _ _ => ?_; conv => whnf) | (refine rd rfl (by assumption) ?_; conv => whnf) | (refine ⟨_, .inl ⟨rfl, rfl⟩, ?_⟩; conv => whnf) | (refine ⟨_, _, rfl, rfl, ?_⟩; conv => whnf) | (refine ⟨fun _ => ?_, fun _ => ?_⟩ <;> (conv => whnf) <;> (try (exfalso; omega))) | (refine And.intro (by first | omega | rfl | (simp; done) | (simp; omega)) ?_; conv => whnf) | (refine num_any ?_; conv => whnf) | fail)
      refine Ok.ghost 8 68 rfl ?_
      (conv => whnf)
      refine Ok.joinU [4] [8] 4 0 (fun (left : List Num) => [.own 3 left.length]) (fun _ b => b) (fun (left : List Num) (_ : Vx.Rows) => [none, some (68, (out ++ [b]).map nrow), some (68, [b.r.row]), some (68, left.map nrow)]) (fun e (left : List Num) => e = .exit 4 ∧ left = rest.filter (fun y => decide (y.r.len ≠ b.r.len ∨ y.r.value ≠ b.r.value))) ?_; (conv => whnf); refine And.intro ?_ ?_
      · refine Ok.loopU [3, 4, 7] [8, 9] 4 1 (fun (x : List Num × Nat) => [.own 3 x.1.length, .i .i64 (x.2 : Nat)]) (fun _ b => b) (fun (x : List Num × Nat) (_ : Vx.Rows) => [none, some (68, (out ++ [b]).map nrow), some (68, [b.r.row]), some (68, x.1.map nrow)]) (fun (x : List Num × Nat) => x.2 ≤ rest.length ∧ x.1 = (rest.take x.2).filter (fun y => decide (y.r.len ≠ b.r.len ∨ y.r.value ≠ b.r.value))) (fun (x : List Num × Nat) => rest.length - x.2) (([], 0)) (⟨Nat.zero_le _, by simp⟩) ?_; (conv => whnf); refine ⟨by ((conv => whnf); first | rfl | simp [envCat, List.take_of_length_le, Route.row, nrow]), ?_⟩
        rintro ⟨left, i⟩ ⟨hi, hleft⟩
        dsimp only at hi hleft ⊢
        have hll : left.length ≤ i := by rw [hleft]; refine Nat.le_trans (List.length_filter_le _ _) ?_; simp; omega
        by_cases hil : i < rest.length
        · obtain ⟨a, ha⟩ : ∃ a, rest[i]? = some a := ⟨_, List.getElem?_eq_getElem hil⟩
          have htk : rest.take (i + 1) = rest.take i ++ [a] := by rw [List.take_add_one, ha]; rfl
          (try (conv => whnf)); repeat' (first | refine Ok.seq ?_ | (refine Ok.region tok ?_; conv => whnf) | (refine Ok.region_draw tok follows (by kernel_rfl) ?_; conv => whnf) | (refine Ok.cond ?_; conv => whnf) | refine Ok.block ?_ | (refine Ok.skip ?_; conv => whnf) | (refine Ok.exit ?_; conv => whnf) | (refine Ok.ret ?_; conv => whnf) | (refine num_in (by omega) (by omega) ?_; conv => whnf) | (refine ix _ (by assumption) ?_; conv => whnf) | (refine ixI (by omega) (by assumption) ?_; conv => whnf) | (refine ix_new _ (by omega) fun _ _ => ?_; conv => whnf) | (refine ixI_new (by omega) (by omega) fun _ _ => ?_; conv => whnf) | (refine rd rfl (by assumption) ?_; conv => whnf) | (refine ⟨_, .inl ⟨rfl, rfl⟩, ?_⟩; conv => whnf) | (refine ⟨_, _, rfl, rfl, ?_⟩; conv => whnf) | (refine ⟨fun _ => ?_, fun _ => ?_⟩ <;> (conv => whnf) <;> (try (exfalso; omega))) | (refine And.intro (by first | omega | rfl | (simp; done) | (simp; omega)) ?_; conv => whnf) | (refine num_any ?_; conv => whnf) | fail)
          · rename_i hne
            refine ⟨(left ++ [a], i + 1), by dsimp only; omega, ⟨by dsimp only; omega, ?_⟩, ?_⟩
            · dsimp only; rw [htk, List.filter_append, hleft]; congr 1; simp [hne]
            · (conv => whnf); (first | rfl | simp [envCat, List.take_of_length_le, Route.row, nrow])
          · rename_i _ hne
            refine ⟨(left ++ [a], i + 1), by dsimp only; omega, ⟨by dsimp only; omega, ?_⟩, ?_⟩
            · dsimp only; rw [htk, List.filter_append, hleft]; congr 1; simp [hne]
            · (conv => whnf); (first | rfl | simp [envCat, List.take_of_length_le, Route.row, nrow])
          · rename_i hne1 hne2
            refine ⟨(left, i + 1), by dsimp only; omega, ⟨by dsimp only; omega, ?_⟩, ?_⟩
            · dsimp only; rw [htk, List.filter_append, hleft]; simp [Classical.not_not.1 hne1, Classical.not_not.1 hne2]
            · (conv => whnf); (first | rfl | simp [envCat, List.take_of_length_le, Route.row, nrow])
        · have hii : i = rest.length := by omega
          subst hii
          (try (conv => whnf)); repeat' (first | refine Ok.seq ?_ | (refine Ok.region tok ?_; conv => whnf) | (refine Ok.region_draw tok follows (by kernel_rfl) ?_; conv => whnf) | (refine Ok.cond ?_; conv => whnf) | refine Ok.block ?_ | (refine Ok.skip ?_; conv => whnf) | (refine Ok.exit ?_; conv => whnf) | (refine Ok.ret ?_; conv => whnf) | (refine num_in (by omega) (by omega) ?_; conv => whnf) | (refine ix _ (by assumption) ?_; conv => whnf) | (refine ixI (by omega) (by assumption) ?_; conv => whnf) | (refine ix_new _ (by omega) fun _ _ => ?_; conv => whnf) | (refine ixI_new (by omega) (by omega) fun _ _ => ?_; conv => whnf) | (refine rd rfl (by assumption) ?_; conv => whnf) | (refine ⟨_, .inl ⟨rfl, rfl⟩, ?_⟩; conv => whnf) | (refine ⟨_, _, rfl, rfl, ?_⟩; conv => whnf) | (refine ⟨fun _ => ?_, fun _ => ?_⟩ <;> (conv => whnf) <;> (try (exfalso; omega))) | (refine And.intro (by first | omega | rfl | (simp; done) | (simp; omega)) ?_; conv => whnf) | (refine num_any ?_; conv => whnf) | fail)
          refine ⟨left, ⟨rfl, by rw [hleft, List.take_length]⟩, ?_⟩
          (conv => whnf); (first | rfl | simp [envCat, List.take_of_length_le, Route.row, nrow])
      · rintro e left ⟨rfl, hleft⟩
        (conv => whnf)
        refine Ok.pub 3 ?_
        (try (conv => whnf)); repeat' (first | refine Ok.seq ?_ | (refine Ok.region tok ?_; conv => whnf) | (refine Ok.region_draw tok follows (by kernel_rfl) ?_; conv => whnf) | (refine Ok.cond ?_; conv => whnf) | refine Ok.block ?_ | (refine Ok.skip ?_; conv => whnf) | (refine Ok.exit ?_; conv => whnf) | (refine Ok.ret ?_; conv => whnf) | (refine num_in (by omega) (by omega) ?_; conv => whnf) | (refine ix _ (by assumption) ?_; conv => whnf) | (refine ixI (by omega) (by assumption) ?_; conv => whnf) | (refine ix_new _ (by omega) fun _ _ => ?_; conv => whnf) | (refine ixI_new (by omega) (by omega) fun _ _ => ?_; conv => whnf) | (refine rd rfl (by assumption) ?_; conv => whnf) | (refine ⟨_, .inl ⟨rfl, rfl⟩, ?_⟩; conv => whnf) | (refine ⟨_, _, rfl, rfl, ?_⟩; conv => whnf) | (refine ⟨fun _ => ?_, fun _ => ?_⟩ <;> (conv => whnf) <;> (try (exfalso; omega))) | (refine And.intro (by first | omega | rfl | (simp; done) | (simp; omega)) ?_; conv => whnf) | (refine num_any ?_; conv => whnf) | fail)
        have hsub : left.length < rest.length := by
          rw [hleft]
          exact List.length_filter_lt_length_iff_exists.2 ⟨b, hbm, by simp⟩
        refine ⟨(left, out ++ [b]), by dsimp only; omega, ⟨by dsimp only; rw [hleft]; exact hS.step hbm hmin', by dsimp only; simp; omega⟩, ?_⟩
        (conv => whnf); (first | rfl | simp [envCat, List.take_of_length_le, Route.row, nrow])
  · have hr : rest = [] := List.eq_nil_of_length_eq_zero (by omega)
    subst hr
    (try (conv => whnf)); repeat' (first | refine Ok.seq ?_ | (refine Ok.region tok ?_; conv => whnf) | (refine Ok.region_draw tok follows (by kernel_rfl) ?_; conv => whnf) | (refine Ok.cond ?_; conv => whnf) | refine Ok.block ?_ | (refine Ok.skip ?_; conv => whnf) | (refine Ok.exit ?_; conv => whnf) | (refine Ok.ret ?_; conv => whnf) | (refine num_in (by omega) (by omega) ?_; conv => whnf) | (refine ix _ (by assumption) ?_; conv => whnf) | (refine ixI (by omega) (by assumption) ?_; conv => whnf) | (refine ix_new _ (by omega) fun _ _ => ?_; conv => whnf) | (refine ixI_new (by omega) (by omega) fun _ _ => ?_; conv => whnf) | (refine rd rfl (by assumption) ?_; conv => whnf) | (refine ⟨_, .inl ⟨rfl, rfl⟩, ?_⟩; conv => whnf) | (refine ⟨_, _, rfl, rfl, ?_⟩; conv => whnf) | (refine ⟨fun _ => ?_, fun _ => ?_⟩ <;> (conv => whnf) <;> (try (exfalso; omega))) | (refine And.intro (by first | omega | rfl | (simp; done) | (simp; omega)) ?_; conv => whnf) | (refine num_any ?_; conv => whnf) | fail)
    refine Or.inl ?_; (conv => whnf)
    refine ⟨rfl, ?_⟩
    rw [ordF_eq hS.ord]
    simp [oneD, List.take_of_length_le, nrow]

set_option maxRecDepth 100000 in
theorem refOrder_spec (bits : Int) (l : List Route) (room : List (List D)) : FSpec Try.prog T 19 [.i .i64 bits, .lst 68 (l.map Route.row) room] (fun d rows => rows = [] ∧ d = .tup [.lst 68 ((ordE bits l).map Route.row) [], .i .i64 (checkE bits l)]) := by
  refine FSpec.of_ok tok Try.func19 rfl Try.call19 (by simp) ?_
  (try (conv => whnf)); repeat' (first | refine Ok.seq ?_ | (refine Ok.region tok ?_; conv => whnf) | (refine Ok.region_draw tok follows (by kernel_rfl) ?_; conv => whnf) | (refine Ok.cond ?_; conv => whnf) | refine Ok.block ?_ | (refine Ok.skip ?_; conv => whnf) | (refine Ok.exit ?_; conv => whnf) | (refine Ok.ret ?_; conv => whnf) | (refine num_in (by omega) (by omega) ?_; conv => whnf) | (refine ix _ (by assumption) ?_; conv => whnf) | (refine ixI (by omega) (by assumption) ?_; conv => whnf) | (refine ix_new _ (by omega) fun _ _ => ?_; conv => whnf) | (refine ixI_new (by omega) (by omega) fun _ _ => ?_; conv => whnf) | (refine Or.inl ?_; (conv => whnf); (repeat (refine And.intro (by first | omega | (simp; done) | (simp; omega)) ?_; (conv => whnf))); refine ⟨_, fit_spec bits l room, rfl, ?_⟩; conv => whnf) | (refine ⟨_, fit_spec bits l room, rfl, ?_⟩; conv => whnf) | (refine Or.inr (Or.inl ?_); (conv => whnf); (repeat (refine And.intro (by first | omega | (simp; done) | (simp; omega)) ?_; (conv => whnf))); refine ⟨_, fit_spec bits l room, ?_⟩; rintro _ _ ⟨rfl, rfl⟩; conv => whnf) | (refine rd rfl (by assumption) ?_; conv => whnf) | (refine ⟨_, .inl ⟨rfl, rfl⟩, ?_⟩; conv => whnf) | (refine ⟨_, _, rfl, rfl, ?_⟩; conv => whnf) | (refine ⟨fun _ => ?_, fun _ => ?_⟩ <;> (conv => whnf) <;> (try (exfalso; omega))) | (refine And.intro (by first | omega | rfl | (simp; done) | (simp; omega)) ?_; conv => whnf) | (refine num_any ?_; conv => whnf) | fail)
  · rename_i h1
    refine Or.inl ?_; (conv => whnf)
    simp [oneD, ordE, h1]
  rename_i h1
  have h1 : checkE bits l = 0 := Classical.not_not.1 h1
  obtain ⟨hl, hb1, hb2, hok⟩ := checkE_ok h1
  have hE : ordE bits l = ordF l := by unfold ordE; rw [if_neg (by omega)]
  (try (conv => whnf)); repeat' (first | refine Ok.seq ?_ | (refine Ok.region tok ?_; conv => whnf) | (refine Ok.region_draw tok follows (by kernel_rfl) ?_; conv => whnf) | (refine Ok.cond ?_; conv => whnf) | refine Ok.block ?_ | (refine Ok.skip ?_; conv => whnf) | (refine Ok.exit ?_; conv => whnf) | (refine Ok.ret ?_; conv => whnf) | (refine num_in (by omega) (by omega) ?_; conv => whnf) | (refine ix _ (by assumption) ?_; conv => whnf) | (refine ixI (by omega) (by assumption) ?_; conv => whnf) | (refine ix_new _ (by omega) fun _ _ => ?_; conv => whnf) | (refine ixI_new (by omega) (by omega) fun _ _ => ?_; conv => whnf) | (refine Or.inl ?_; (conv => whnf); (repeat (refine And.intro (by first | omega | (simp; done) | (simp; omega)) ?_; (conv => whnf))); refine ⟨_, refOrderL_spec l room (by omega), rfl, ?_⟩; conv => whnf) | (refine ⟨_, refOrderL_spec l room (by omega), rfl, ?_⟩; conv => whnf) | (refine Or.inr (Or.inl ?_); (conv => whnf); (repeat (refine And.intro (by first | omega | (simp; done) | (simp; omega)) ?_; (conv => whnf))); refine ⟨_, refOrderL_spec l room (by omega), ?_⟩; rintro _ _ ⟨rfl, rfl⟩; conv => whnf) | (refine rd rfl (by assumption) ?_; conv => whnf) | (refine ⟨_, .inl ⟨rfl, rfl⟩, ?_⟩; conv => whnf) | (refine ⟨_, _, rfl, rfl, ?_⟩; conv => whnf) | (refine ⟨fun _ => ?_, fun _ => ?_⟩ <;> (conv => whnf) <;> (try (exfalso; omega))) | (refine And.intro (by first | omega | rfl | (simp; done) | (simp; omega)) ?_; conv => whnf) | (refine num_any ?_; conv => whnf) | fail)
  refine Or.inl ?_; (conv => whnf)
  simp [oneD, hE, h1]

/-- The same routes, each with the Out of the one at its place from the end. -/
def chg (l : List Route) : List Route := (l.zip l.reverse).map fun p => { p.1 with out := p.2.out }
theorem chg_len (l : List Route) : (chg l).length = l.length := by simp [chg]
theorem chg_at {l : List Route} {k : Nat} {a b : Route} (ha : l[k]? = some a) (hb : l[l.length - 1 - k]? = some b) (hk : k < l.length) : (chg l)[k]? = some { a with out := b.out } := by
  have hr : l.reverse[k]? = some b := by rw [List.getElem?_reverse hk]; exact hb
  have hz : (l.zip l.reverse)[k]? = some (a, b) := by rw [List.getElem?_zip_eq_some]; exact ⟨ha, hr⟩
  simp [chg, hz]
theorem set_mid {α : Type} {m l : List α} {k : Nat} {x : α} (hm : m.length = k) (hk : k < l.length) : (m ++ l.drop k).set k x = m ++ [x] ++ l.drop (k + 1) := by
  rw [List.set_append_right _ _ (by omega), hm, Nat.sub_self, List.drop_eq_getElem_cons hk, List.set_cons_zero, List.append_assoc]
  rfl
theorem mid_at {α : Type} {m l : List α} {k : Nat} (hm : m.length = k) : (m ++ l.drop k)[k]? = l[k]? := by
  rw [List.getElem?_append_right (by omega), hm, Nat.sub_self]
  simp

set_option maxRecDepth 100000 in
theorem changed_spec (l : List Route) (rl : List (List D)) (hl : l.length ≤ 270) : FSpec Try.prog T 22 [.lst 68 (l.map Route.row) rl] (fun d rows => rows = [] ∧ d = .lst 68 ((chg l).map Route.row) []) := by
  have hml : (l.map Route.row).length = l.length := by simp
  refine FSpec.of_ok tok Try.func22 rfl Try.call22 (by simp) ?_
  (try (conv => whnf)); repeat' (first | refine Ok.seq ?_ | (refine Ok.region tok ?_; conv => whnf) | (refine Ok.region_draw tok follows (by kernel_rfl) ?_; conv => whnf) | (refine Ok.cond ?_; conv => whnf) | refine Ok.block ?_ | (refine Ok.skip ?_; conv => whnf) | (refine Ok.exit ?_; conv => whnf) | (refine Ok.ret ?_; conv => whnf) | (refine num_in (by omega) (by omega) ?_; conv => whnf) | (refine ix _ (by assumption) ?_; conv => whnf) | (refine ixI (by omega) (by assumption) ?_; conv => whnf) | (refine ix_new _ (by omega) fun _ _ => ?_; conv => whnf) | (refine ixI_new (by omega) (by omega) fun _ _ => ?_; conv => whnf) | (refine rd rfl (by assumption) ?_; conv => whnf) | (refine ⟨_, .inl ⟨rfl, rfl⟩, ?_⟩; conv => whnf) | (refine ⟨_, _, rfl, rfl, ?_⟩; conv => whnf) | (refine ⟨fun _ => ?_, fun _ => ?_⟩ <;> (conv => whnf) <;> (try (exfalso; omega))) | (refine And.intro (by first | omega | rfl | (simp; done) | (simp; omega)) ?_; conv => whnf) | (refine num_any ?_; conv => whnf) | fail)
  refine Ok.loopU [0, 3] [4] 1 0 (fun (k : Nat) => [.i .i64 (k : Nat)]) (fun _ b => b) (fun (k : Nat) (_ : Vx.Rows) => [some (68, ((chg l).take k ++ l.drop k).map Route.row)]) (fun (k : Nat) => k ≤ l.length) (fun (k : Nat) => l.length - k) (0) (Nat.zero_le _) ?_; (conv => whnf); refine ⟨by ((conv => whnf); first | rfl | simp [envCat, List.take_of_length_le, Route.row, nrow]), ?_⟩
  rintro k hk
  have hcl := chg_len l
  have htl : ((chg l).take k).length = k := by simp; omega
  have hl2 : (((chg l).take k ++ l.drop k).map Route.row).length = l.length := by simp; omega
  by_cases hkl : k < l.length
  · obtain ⟨a, ha⟩ : ∃ a, l[k]? = some a := ⟨_, List.getElem?_eq_getElem hkl⟩
    obtain ⟨b, hb⟩ : ∃ b, l[l.length - 1 - k]? = some b := ⟨_, List.getElem?_eq_getElem (by omega)⟩
    have e1 : (((l.map Route.row).length : Int) - 1 - k).toNat = l.length - 1 - k := by omega
    have hb' : l[(((l.map Route.row).length : Int) - 1 - k).toNat]? = some b := by rw [e1]; exact hb
    have ha' : ((chg l).take k ++ l.drop k)[k]? = some a := by rw [mid_at htl]; exact ha
    (try (conv => whnf)); repeat' (first | refine Ok.seq ?_ | (refine Ok.region tok ?_; conv => whnf) | (refine Ok.region_draw tok follows (by kernel_rfl) ?_; conv => whnf) | (refine Ok.cond ?_; conv => whnf) | refine Ok.block ?_ | (refine Ok.skip ?_; conv => whnf) | (refine Ok.exit ?_; conv => whnf) | (refine Ok.ret ?_; conv => whnf) | (refine num_in (by omega) (by omega) ?_; conv => whnf) | (refine ix _ (by assumption) ?_; conv => whnf) | (refine ixI (by omega) (by assumption) ?_; conv => whnf) | (refine ix_new _ (by omega) fun _ _ => ?_; conv => whnf) | (refine ixI_new (by omega) (by omega) fun _ _ => ?_; conv => whnf) | (refine rd rfl (by assumption) ?_; conv => whnf) | (refine ⟨_, .inl ⟨rfl, rfl⟩, ?_⟩; conv => whnf) | (refine ⟨_, _, rfl, rfl, ?_⟩; conv => whnf) | (refine ⟨fun _ => ?_, fun _ => ?_⟩ <;> (conv => whnf) <;> (try (exfalso; omega))) | (refine And.intro (by first | omega | rfl | (simp; done) | (simp; omega)) ?_; conv => whnf) | (refine num_any ?_; conv => whnf) | fail)
    refine st { a with out := b.out } ha' (by simp [Route.row]) (by simp [setCells, Route.row]) ?_
    (try (conv => whnf)); repeat' (first | refine Ok.seq ?_ | (refine Ok.region tok ?_; conv => whnf) | (refine Ok.region_draw tok follows (by kernel_rfl) ?_; conv => whnf) | (refine Ok.cond ?_; conv => whnf) | refine Ok.block ?_ | (refine Ok.skip ?_; conv => whnf) | (refine Ok.exit ?_; conv => whnf) | (refine Ok.ret ?_; conv => whnf) | (refine num_in (by omega) (by omega) ?_; conv => whnf) | (refine ix _ (by assumption) ?_; conv => whnf) | (refine ixI (by omega) (by assumption) ?_; conv => whnf) | (refine ix_new _ (by omega) fun _ _ => ?_; conv => whnf) | (refine ixI_new (by omega) (by omega) fun _ _ => ?_; conv => whnf) | (refine rd rfl (by assumption) ?_; conv => whnf) | (refine ⟨_, .inl ⟨rfl, rfl⟩, ?_⟩; conv => whnf) | (refine ⟨_, _, rfl, rfl, ?_⟩; conv => whnf) | (refine ⟨fun _ => ?_, fun _ => ?_⟩ <;> (conv => whnf) <;> (try (exfalso; omega))) | (refine And.intro (by first | omega | rfl | (simp; done) | (simp; omega)) ?_; conv => whnf) | (refine num_any ?_; conv => whnf) | fail)
    refine ⟨k + 1, by omega, by omega, ?_⟩
    have e2 : ((chg l).take k ++ l.drop k).set k { a with out := b.out } = (chg l).take (k + 1) ++ l.drop (k + 1) := by
      rw [set_mid htl hkl, List.take_add_one, chg_at ha hb hkl]; rfl
    rw [← e2]
    (conv => whnf); (first | rfl | simp [envCat, List.take_of_length_le, Route.row, nrow])
  · have hkk : k = l.length := by omega
    subst hkk
    (try (conv => whnf)); repeat' (first | refine Ok.seq ?_ | (refine Ok.region tok ?_; conv => whnf) | (refine Ok.region_draw tok follows (by kernel_rfl) ?_; conv => whnf) | (refine Ok.cond ?_; conv => whnf) | refine Ok.block ?_ | (refine Ok.skip ?_; conv => whnf) | (refine Ok.exit ?_; conv => whnf) | (refine Ok.ret ?_; conv => whnf) | (refine num_in (by omega) (by omega) ?_; conv => whnf) | (refine ix _ (by assumption) ?_; conv => whnf) | (refine ixI (by omega) (by assumption) ?_; conv => whnf) | (refine ix_new _ (by omega) fun _ _ => ?_; conv => whnf) | (refine ixI_new (by omega) (by omega) fun _ _ => ?_; conv => whnf) | (refine rd rfl (by assumption) ?_; conv => whnf) | (refine ⟨_, .inl ⟨rfl, rfl⟩, ?_⟩; conv => whnf) | (refine ⟨_, _, rfl, rfl, ?_⟩; conv => whnf) | (refine ⟨fun _ => ?_, fun _ => ?_⟩ <;> (conv => whnf) <;> (try (exfalso; omega))) | (refine And.intro (by first | omega | rfl | (simp; done) | (simp; omega)) ?_; conv => whnf) | (refine num_any ?_; conv => whnf) | fail)
    refine Or.inl ?_; (conv => whnf)
    refine ⟨rfl, ?_⟩
    rw [List.take_of_length_le (by omega), List.drop_of_length_le (Nat.le_refl _)]
    simp [oneD, List.take_of_length_le, hcl]

theorem alike_at (a : List Route) {ra rb sa sb : List (List D)} (ha : ra = a.map Route.row) (hb : rb = a.map Route.row) : FSpec Try.prog T 20 [.lst 68 ra sa, .lst 68 rb sb] (fun d _ => d = .tt) := by
  subst ha hb; exact (alike_spec _ _ _ _).tt rfl
theorem Order_at (bits : Int) (l : List Route) {rl sl : List (List D)} (h : rl = l.map Route.row) : FSpec Try.prog T 18 [.i .i64 bits, .lst 68 rl sl] (fun d rows => rows = [some (68, (ordE bits l).map Route.row)] ∧ d = .tup [.own 0 (ordE bits l).length, .i .i64 (checkE bits l)]) := by
  subst h; exact Order_spec _ _ _
theorem untouched_at (l : List Route) {rl sl rm sm : List (List D)} (h2 : l.length ≤ 270) (h : rl = l.map Route.row) (hs : sl = [(mk 91).row, (mk 92).row]) (hm : rm = l.map Route.row) : FSpec Try.prog T 21 [.lst 68 rl sl, .lst 68 rm sm] (fun d _ => d = .tt) := by
  subst h hs hm
  exact (untouched_spec l l sm (mk 91) (mk 92) rfl h2).tt ⟨rfl, rfl, rfl⟩
theorem orders_law (bits : Int) (l : List Route) (room : List (List D)) : FSpec Try.prog T 4 [.i .i64 bits, .lst 68 (l.map Route.row) room] (fun d _ => d = .b True) := by
  refine FSpec.of_ok tok Try.func4 rfl Try.call4 (by simp) ?_
  have hll : (l.map Route.row).length = l.length := by simp
  (try (conv => whnf)); repeat' (first | refine Ok.seq ?_ | (refine Ok.region tok ?_; conv => whnf) | (refine Ok.region_draw tok follows (by kernel_rfl) ?_; conv => whnf) | (refine Ok.cond ?_; conv => whnf) | refine Ok.block ?_ | (refine Ok.skip ?_; conv => whnf) | (refine Ok.exit ?_; conv => whnf) | (refine Ok.ret ?_; conv => whnf) | (refine num_in (by omega) (by omega) ?_; conv => whnf) | (refine ix _ (by assumption) ?_; conv => whnf) | (refine ixI (by omega) (by assumption) ?_; conv => whnf) | (refine ix_new _ (by omega) fun _ _ => ?_; conv => whnf) | (refine ixI_new (by omega) (by omega) fun _ _ => ?_; conv => whnf) | (refine rd rfl (by assumption) ?_; conv => whnf) | (refine ⟨_, .inl ⟨rfl, rfl⟩, ?_⟩; conv => whnf) | (refine ⟨_, _, rfl, rfl, ?_⟩; conv => whnf) | (refine ⟨fun _ => ?_, fun _ => ?_⟩ <;> (conv => whnf) <;> (try (exfalso; omega))) | (refine And.intro (by first | omega | rfl | (simp; done) | (simp; omega)) ?_; conv => whnf) | (refine num_any ?_; conv => whnf) | fail)
  · refine Or.inl ?_; (conv => whnf)
    rfl
  right
  left
  (conv => whnf)
  refine ⟨_, copied_spec l room (by omega), ?_⟩
  rintro d rows ⟨rfl, rfl⟩
  have hcl := chg_len l
  have e1 : ((l ++ [mk 91, mk 92]).map Route.row).take l.length = l.map Route.row := by simp
  have e2 : ((l ++ [mk 91, mk 92]).map Route.row).drop l.length = [(mk 91).row, (mk 92).row] := by simp
  have e3 : ((chg l ++ [mk 91, mk 92]).map Route.row).take l.length = (chg l).map Route.row := by rw [← hcl]; simp
  have e4 : ((chg l ++ [mk 91, mk 92]).map Route.row).drop l.length = [(mk 91).row, (mk 92).row] := by rw [← hcl]; simp
  (try (conv => whnf)); repeat' (first | refine Ok.seq ?_ | (refine Ok.region tok ?_; conv => whnf) | (refine Ok.region_draw tok follows (by kernel_rfl) ?_; conv => whnf) | (refine Ok.cond ?_; conv => whnf) | refine Ok.block ?_ | (refine Ok.skip ?_; conv => whnf) | (refine Ok.exit ?_; conv => whnf) | (refine Ok.ret ?_; conv => whnf) | (refine num_in (by omega) (by omega) ?_; conv => whnf) | (refine ix _ (by assumption) ?_; conv => whnf) | (refine ixI (by omega) (by assumption) ?_; conv => whnf) | (refine ix_new _ (by omega) fun _ _ => ?_; conv => whnf) | (refine ixI_new (by omega) (by omega) fun _ _ => ?_; conv => whnf) | (refine Or.inl ?_; (conv => whnf); (repeat (refine And.intro (by first | omega | (simp; done) | (simp; omega)) ?_; (conv => whnf))); refine ⟨_, refOrder_spec _ _ _, rfl, ?_⟩; conv => whnf) | (refine Or.inl ?_; (conv => whnf); (repeat (refine And.intro (by first | omega | (simp; done) | (simp; omega)) ?_; (conv => whnf))); refine ⟨_, num_spec _, rfl, ?_⟩; conv => whnf) | (refine Or.inl ?_; (conv => whnf); (repeat (refine And.intro (by first | omega | (simp; done) | (simp; omega)) ?_; (conv => whnf))); refine ⟨_, alike_at (ordE bits l) (take_all _ _) rfl, rfl, ?_⟩; conv => whnf) | (refine Or.inl ?_; (conv => whnf); (repeat (refine And.intro (by first | omega | (simp; done) | (simp; omega)) ?_; (conv => whnf))); refine ⟨_, untouched_at l (by omega) e1 e2 rfl, rfl, ?_⟩; conv => whnf) | (refine Or.inl ?_; (conv => whnf); (repeat (refine And.intro (by first | omega | (simp; done) | (simp; omega)) ?_; (conv => whnf))); refine ⟨_, changed_spec l room (by omega), rfl, ?_⟩; conv => whnf) | (refine ⟨_, refOrder_spec _ _ _, rfl, ?_⟩; conv => whnf) | (refine ⟨_, num_spec _, rfl, ?_⟩; conv => whnf) | (refine ⟨_, alike_at (ordE bits l) (take_all _ _) rfl, rfl, ?_⟩; conv => whnf) | (refine ⟨_, untouched_at l (by omega) e1 e2 rfl, rfl, ?_⟩; conv => whnf) | (refine ⟨_, changed_spec l room (by omega), rfl, ?_⟩; conv => whnf) | (refine Or.inr (Or.inl ?_); (conv => whnf); (repeat (refine And.intro (by first | omega | (simp; done) | (simp; omega)) ?_; (conv => whnf))); refine ⟨_, refOrder_spec _ _ _, ?_⟩; rintro _ _ ⟨rfl, rfl⟩; conv => whnf) | (refine Or.inr (Or.inl ?_); (conv => whnf); (repeat (refine And.intro (by first | omega | (simp; done) | (simp; omega)) ?_; (conv => whnf))); refine ⟨_, num_spec _, ?_⟩; rintro _ _ ⟨rfl, rfl⟩; conv => whnf) | (refine Or.inr (Or.inl ?_); (conv => whnf); (repeat (refine And.intro (by first | omega | (simp; done) | (simp; omega)) ?_; (conv => whnf))); refine ⟨_, alike_at (ordE bits l) (take_all _ _) rfl, ?_⟩; rintro _ _ ⟨rfl, rfl⟩; conv => whnf) | (refine Or.inr (Or.inl ?_); (conv => whnf); (repeat (refine And.intro (by first | omega | (simp; done) | (simp; omega)) ?_; (conv => whnf))); refine ⟨_, untouched_at l (by omega) e1 e2 rfl, ?_⟩; rintro _ _ ⟨rfl, rfl⟩; conv => whnf) | (refine Or.inr (Or.inl ?_); (conv => whnf); (repeat (refine And.intro (by first | omega | (simp; done) | (simp; omega)) ?_; (conv => whnf))); refine ⟨_, changed_spec l room (by omega), ?_⟩; rintro _ _ ⟨rfl, rfl⟩; conv => whnf) | (refine Or.inr (Or.inr (Or.inr ?_)); (conv => whnf); (repeat (refine And.intro (by first | omega | (simp; done) | (simp; omega)) ?_; (conv => whnf))); refine ⟨_, Order_at bits l e1, ?_⟩; rintro _ _ ⟨rfl, rfl⟩ <;> (refine And.intro (by simp [gRowsP, grounds, D.ground, Route.row, nrow]) ?_; conv => whnf)) | (refine Or.inr (Or.inr ?_); (conv => whnf); (repeat (refine And.intro (by first | omega | (simp; done) | (simp; omega)) ?_; (conv => whnf))); refine ⟨_, Order_at bits l e1, ?_⟩; rintro _ _ ⟨rfl, rfl⟩ <;> (refine And.intro (by simp [gRowsP, grounds, D.ground, Route.row, nrow]) ?_; conv => whnf)) | (refine rd rfl (by assumption) ?_; conv => whnf) | (refine ⟨_, .inl ⟨rfl, rfl⟩, ?_⟩; conv => whnf) | (refine ⟨_, _, rfl, rfl, ?_⟩; conv => whnf) | (refine ⟨fun _ => ?_, fun _ => ?_⟩ <;> (conv => whnf) <;> (try (exfalso; omega))) | (refine And.intro (by first | omega | rfl | (simp; done) | (simp; omega)) ?_; conv => whnf) | (refine num_any ?_; conv => whnf) | fail)
  refine Or.inr (Or.inr (Or.inl ?_)); (conv => whnf); refine ⟨_, _, Try.func23, rfl, Try.call23, ?_⟩; (conv => whnf)
  refine Ok.joinU [18, 23, 28] [] 2 0 (fun (x : Unit) => []) (fun _ b => b) (fun (x : Unit) (_ : Vx.Rows) => [some (68, (chg l ++ [mk 91, mk 92]).map Route.row), some (68, (ordE bits l).map Route.row)]) (fun e (x : Unit) => e = .normal) ?_; (conv => whnf); refine And.intro ?_ ?_
  · (try (conv => whnf)); repeat' (first | refine Ok.seq ?_ | (refine Ok.region tok ?_; conv => whnf) | (refine Ok.region_draw tok follows (by kernel_rfl) ?_; conv => whnf) | (refine Ok.cond ?_; conv => whnf) | refine Ok.block ?_ | (refine Ok.skip ?_; conv => whnf) | (refine Ok.exit ?_; conv => whnf) | (refine Ok.ret ?_; conv => whnf) | (refine num_in (by omega) (by omega) ?_; conv => whnf) | (refine ix _ (by assumption) ?_; conv => whnf) | (refine ixI (by omega) (by assumption) ?_; conv => whnf) | (refine ix_new _ (by omega) fun _ _ => ?_; conv => whnf) | (refine ixI_new (by omega) (by omega) fun _ _ => ?_; conv => whnf) | (refine rd rfl (by assumption) ?_; conv => whnf) | (refine ⟨_, .inl ⟨rfl, rfl⟩, ?_⟩; conv => whnf) | (refine ⟨_, _, rfl, rfl, ?_⟩; conv => whnf) | (refine ⟨fun _ => ?_, fun _ => ?_⟩ <;> (conv => whnf) <;> (try (exfalso; omega))) | (refine And.intro (by first | omega | rfl | (simp; done) | (simp; omega)) ?_; conv => whnf) | (refine num_any ?_; conv => whnf) | fail)
    refine Ok.loopU [0, 1, 18, 23, 28] [4] 2 0 (fun (k : Nat) => [.i .i64 (k : Nat)]) (fun _ b => b) (fun (k : Nat) (_ : Vx.Rows) => [some (68, (((chg l).take k ++ l.drop k) ++ [mk 91, mk 92]).map Route.row), some (68, (ordE bits l).map Route.row)]) (fun (k : Nat) => k ≤ l.length) (fun (k : Nat) => l.length - k) (0) (Nat.zero_le _) ?_; (conv => whnf); refine ⟨by ((conv => whnf); first | rfl | simp [envCat, List.take_of_length_le, Route.row, nrow]), ?_⟩
    rintro k hk
    have hcm : ((chg l).map Route.row).length = l.length := by simp [hcl]
    have htl : ((chg l).take k).length = k := by simp; omega
    have hl2 : ((((chg l).take k ++ l.drop k) ++ [mk 91, mk 92]).map Route.row).length = l.length + 2 := by simp; omega
    by_cases hkl : k < l.length
    · obtain ⟨a, ha⟩ : ∃ a, (chg l)[k]? = some a := ⟨_, List.getElem?_eq_getElem (by omega)⟩
      obtain ⟨b, hb⟩ : ∃ b, l[k]? = some b := ⟨_, List.getElem?_eq_getElem hkl⟩
      have hb' : (((chg l).take k ++ l.drop k) ++ [mk 91, mk 92])[k]? = some b := by
        rw [List.getElem?_append_left (by simp; omega), mid_at htl]; exact hb
      (try (conv => whnf)); repeat' (first | refine Ok.seq ?_ | (refine Ok.region tok ?_; conv => whnf) | (refine Ok.region_draw tok follows (by kernel_rfl) ?_; conv => whnf) | (refine Ok.cond ?_; conv => whnf) | refine Ok.block ?_ | (refine Ok.skip ?_; conv => whnf) | (refine Ok.exit ?_; conv => whnf) | (refine Ok.ret ?_; conv => whnf) | (refine num_in (by omega) (by omega) ?_; conv => whnf) | (refine ix _ (by assumption) ?_; conv => whnf) | (refine ixI (by omega) (by assumption) ?_; conv => whnf) | (refine ix_new _ (by omega) fun _ _ => ?_; conv => whnf) | (refine ixI_new (by omega) (by omega) fun _ _ => ?_; conv => whnf) | (refine rd rfl (by assumption) ?_; conv => whnf) | (refine ⟨_, .inl ⟨rfl, rfl⟩, ?_⟩; conv => whnf) | (refine ⟨_, _, rfl, rfl, ?_⟩; conv => whnf) | (refine ⟨fun _ => ?_, fun _ => ?_⟩ <;> (conv => whnf) <;> (try (exfalso; omega))) | (refine And.intro (by first | omega | rfl | (simp; done) | (simp; omega)) ?_; conv => whnf) | (refine num_any ?_; conv => whnf) | fail)
      refine st a hb' (by simp [Route.row]) (by simp [setCells, Route.row]) ?_
      (try (conv => whnf)); repeat' (first | refine Ok.seq ?_ | (refine Ok.region tok ?_; conv => whnf) | (refine Ok.region_draw tok follows (by kernel_rfl) ?_; conv => whnf) | (refine Ok.cond ?_; conv => whnf) | refine Ok.block ?_ | (refine Ok.skip ?_; conv => whnf) | (refine Ok.exit ?_; conv => whnf) | (refine Ok.ret ?_; conv => whnf) | (refine num_in (by omega) (by omega) ?_; conv => whnf) | (refine ix _ (by assumption) ?_; conv => whnf) | (refine ixI (by omega) (by assumption) ?_; conv => whnf) | (refine ix_new _ (by omega) fun _ _ => ?_; conv => whnf) | (refine ixI_new (by omega) (by omega) fun _ _ => ?_; conv => whnf) | (refine rd rfl (by assumption) ?_; conv => whnf) | (refine ⟨_, .inl ⟨rfl, rfl⟩, ?_⟩; conv => whnf) | (refine ⟨_, _, rfl, rfl, ?_⟩; conv => whnf) | (refine ⟨fun _ => ?_, fun _ => ?_⟩ <;> (conv => whnf) <;> (try (exfalso; omega))) | (refine And.intro (by first | omega | rfl | (simp; done) | (simp; omega)) ?_; conv => whnf) | (refine num_any ?_; conv => whnf) | fail)
      refine ⟨k + 1, by omega, by omega, ?_⟩
      have e5 : (((chg l).take k ++ l.drop k) ++ [mk 91, mk 92]).set k a = ((chg l).take (k + 1) ++ l.drop (k + 1)) ++ [mk 91, mk 92] := by
        rw [List.set_append_left _ _ (by simp; omega), set_mid htl hkl, List.take_add_one, ha]; rfl
      rw [← e5]
      (conv => whnf); (first | rfl | simp [envCat, List.take_of_length_le, Route.row, nrow])
    · have hkk : k = l.length := by omega
      subst hkk
      (try (conv => whnf)); repeat' (first | refine Ok.seq ?_ | (refine Ok.region tok ?_; conv => whnf) | (refine Ok.region_draw tok follows (by kernel_rfl) ?_; conv => whnf) | (refine Ok.cond ?_; conv => whnf) | refine Ok.block ?_ | (refine Ok.skip ?_; conv => whnf) | (refine Ok.exit ?_; conv => whnf) | (refine Ok.ret ?_; conv => whnf) | (refine num_in (by omega) (by omega) ?_; conv => whnf) | (refine ix _ (by assumption) ?_; conv => whnf) | (refine ixI (by omega) (by assumption) ?_; conv => whnf) | (refine ix_new _ (by omega) fun _ _ => ?_; conv => whnf) | (refine ixI_new (by omega) (by omega) fun _ _ => ?_; conv => whnf) | (refine rd rfl (by assumption) ?_; conv => whnf) | (refine ⟨_, .inl ⟨rfl, rfl⟩, ?_⟩; conv => whnf) | (refine ⟨_, _, rfl, rfl, ?_⟩; conv => whnf) | (refine ⟨fun _ => ?_, fun _ => ?_⟩ <;> (conv => whnf) <;> (try (exfalso; omega))) | (refine And.intro (by first | omega | rfl | (simp; done) | (simp; omega)) ?_; conv => whnf) | (refine num_any ?_; conv => whnf) | fail)
      refine ⟨(), rfl, ?_⟩
      have e6 : (chg l).take l.length ++ l.drop l.length = chg l := by
        rw [List.take_of_length_le (by omega), List.drop_of_length_le (Nat.le_refl _), List.append_nil]
      rw [e6]
      (conv => whnf); (first | rfl | simp [envCat, List.take_of_length_le, Route.row, nrow])
  · rintro e x rfl
    have hce : (chg l).length ≤ 270 := by omega
    (try (conv => whnf)); repeat' (first | refine Ok.seq ?_ | (refine Ok.region tok ?_; conv => whnf) | (refine Ok.region_draw tok follows (by kernel_rfl) ?_; conv => whnf) | (refine Ok.cond ?_; conv => whnf) | refine Ok.block ?_ | (refine Ok.skip ?_; conv => whnf) | (refine Ok.exit ?_; conv => whnf) | (refine Ok.ret ?_; conv => whnf) | (refine num_in (by omega) (by omega) ?_; conv => whnf) | (refine ix _ (by assumption) ?_; conv => whnf) | (refine ixI (by omega) (by assumption) ?_; conv => whnf) | (refine ix_new _ (by omega) fun _ _ => ?_; conv => whnf) | (refine ixI_new (by omega) (by omega) fun _ _ => ?_; conv => whnf) | (refine Or.inl ?_; (conv => whnf); (repeat (refine And.intro (by first | omega | (simp; done) | (simp; omega)) ?_; (conv => whnf))); refine ⟨_, refOrder_spec _ _ _, rfl, ?_⟩; conv => whnf) | (refine Or.inl ?_; (conv => whnf); (repeat (refine And.intro (by first | omega | (simp; done) | (simp; omega)) ?_; (conv => whnf))); refine ⟨_, num_spec _, rfl, ?_⟩; conv => whnf) | (refine Or.inl ?_; (conv => whnf); (repeat (refine And.intro (by first | omega | (simp; done) | (simp; omega)) ?_; (conv => whnf))); refine ⟨_, alike_at (ordE bits (chg l)) (take_all _ _) rfl, rfl, ?_⟩; conv => whnf) | (refine Or.inl ?_; (conv => whnf); (repeat (refine And.intro (by first | omega | (simp; done) | (simp; omega)) ?_; (conv => whnf))); refine ⟨_, untouched_at (chg l) hce e3 e4 rfl, rfl, ?_⟩; conv => whnf) | (refine ⟨_, refOrder_spec _ _ _, rfl, ?_⟩; conv => whnf) | (refine ⟨_, num_spec _, rfl, ?_⟩; conv => whnf) | (refine ⟨_, alike_at (ordE bits (chg l)) (take_all _ _) rfl, rfl, ?_⟩; conv => whnf) | (refine ⟨_, untouched_at (chg l) hce e3 e4 rfl, rfl, ?_⟩; conv => whnf) | (refine Or.inr (Or.inl ?_); (conv => whnf); (repeat (refine And.intro (by first | omega | (simp; done) | (simp; omega)) ?_; (conv => whnf))); refine ⟨_, refOrder_spec _ _ _, ?_⟩; rintro _ _ ⟨rfl, rfl⟩; conv => whnf) | (refine Or.inr (Or.inl ?_); (conv => whnf); (repeat (refine And.intro (by first | omega | (simp; done) | (simp; omega)) ?_; (conv => whnf))); refine ⟨_, num_spec _, ?_⟩; rintro _ _ ⟨rfl, rfl⟩; conv => whnf) | (refine Or.inr (Or.inl ?_); (conv => whnf); (repeat (refine And.intro (by first | omega | (simp; done) | (simp; omega)) ?_; (conv => whnf))); refine ⟨_, alike_at (ordE bits (chg l)) (take_all _ _) rfl, ?_⟩; rintro _ _ ⟨rfl, rfl⟩; conv => whnf) | (refine Or.inr (Or.inl ?_); (conv => whnf); (repeat (refine And.intro (by first | omega | (simp; done) | (simp; omega)) ?_; (conv => whnf))); refine ⟨_, untouched_at (chg l) hce e3 e4 rfl, ?_⟩; rintro _ _ ⟨rfl, rfl⟩; conv => whnf) | (refine Or.inr (Or.inr (Or.inr ?_)); (conv => whnf); (repeat (refine And.intro (by first | omega | (simp; done) | (simp; omega)) ?_; (conv => whnf))); refine ⟨_, Order_at bits (chg l) e3, ?_⟩; rintro _ _ ⟨rfl, rfl⟩ <;> (refine And.intro (by simp [gRowsP, grounds, D.ground, Route.row, nrow]) ?_; conv => whnf)) | (refine Or.inr (Or.inr ?_); (conv => whnf); (repeat (refine And.intro (by first | omega | (simp; done) | (simp; omega)) ?_; (conv => whnf))); refine ⟨_, Order_at bits (chg l) e3, ?_⟩; rintro _ _ ⟨rfl, rfl⟩ <;> (refine And.intro (by simp [gRowsP, grounds, D.ground, Route.row, nrow]) ?_; conv => whnf)) | (refine rd rfl (by assumption) ?_; conv => whnf) | (refine ⟨_, .inl ⟨rfl, rfl⟩, ?_⟩; conv => whnf) | (refine ⟨_, _, rfl, rfl, ?_⟩; conv => whnf) | (refine ⟨fun _ => ?_, fun _ => ?_⟩ <;> (conv => whnf) <;> (try (exfalso; omega))) | (refine And.intro (by first | omega | rfl | (simp; done) | (simp; omega)) ?_; conv => whnf) | (refine num_any ?_; conv => whnf) | fail)
    all_goals
      refine Or.inl ?_; (conv => whnf)
      first | rfl | exact tt_b
end Go.Proofs.Ytgelaefpbdfnfaa
