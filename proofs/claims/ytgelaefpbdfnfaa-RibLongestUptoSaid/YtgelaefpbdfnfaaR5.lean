/- RibLookups: every Lookup answers as the document says; the list that went in, and the room behind it, are as they were. -/
import Derived.Test.YtgelaefpbdfnfaaR4
import Derived.Test.YtgelaefpbdfnfaaVx14
namespace Go.Proofs.Ytgelaefpbdfnfaa
open Go Go.Vx

theorem dd_mem : ∀ (ps acc : List Num) (x : Num), x ∈ ps.foldl ddF acc → x ∈ acc ∨ x ∈ ps
  | [], acc, x, h => .inl h
  | p :: ps, acc, x, h => by
    rcases dd_mem ps _ x h with h | h
    · unfold ddF at h
      have key : x ∈ acc ++ [p] → x ∈ acc ∨ x ∈ p :: ps := fun h => by
        rcases List.mem_append.1 h with h | h
        · exact .inl h
        · simp at h; simp [h]
      split at h
      · split at h
        · exact .inl h
        · exact key h
      · exact key h
    · exact .inr (List.mem_cons_of_mem _ h)
theorem find_pick {bits v : Int} {l : List Route} {ps : List Num} (hp : ps.Perm (numb l)) (hs : ps.Pairwise (fun a b => ¬ firstP b a)) :
    (∀ x, ((ps.foldl ddF []).find? fun x => decide (v.fdiv (2 ^ (bits - x.r.len).toNat) = x.r.value.fdiv (2 ^ (bits - x.r.len).toNat))) = some x → IsPick bits l v x.at_) ∧
    (((ps.foldl ddF []).find? fun x => decide (v.fdiv (2 ^ (bits - x.r.len).toNat) = x.r.value.fdiv (2 ^ (bits - x.r.len).toNat))) = none → IsPick bits l v (-1)) := by
  rw [dd_find _ (fun a b h1 h2 => by simp only [h1, h2]) ps.length ps rfl]
  refine ⟨fun x hx => ?_, fun hn => .inl ⟨rfl, fun x hx hh => ?_⟩⟩
  · obtain ⟨h1, us, ws, rfl, h2⟩ := List.find?_eq_some_iff_append.1 hx
    refine .inr ⟨x, hp.subset (by simp), rfl, by simpa [hasR] using h1, fun y hy hhy => ?_⟩
    have hy' := hp.symm.subset hy
    rcases List.mem_append.1 hy' with hy' | hy'
    · have := h2 y hy'
      simp only [hasR] at hhy
      simp [hhy] at this
    · rcases List.mem_cons.1 hy' with rfl | hy'
      · exact first_swo.irrefl _
      · rw [List.pairwise_append] at hs
        exact (List.pairwise_cons.1 hs.2.1).1 y hy'
  · have := List.find?_eq_none.1 hn x (hp.symm.subset hx)
    simp only [hasR] at hh
    simp [hh] at this

set_option maxRecDepth 100000 in
theorem Lookup_spec (bits v : Int) (l : List Route) (room : List (List D)) : FSpec Try.prog T 24 [.i .i64 bits, .lst 68 (l.map Route.row) room, .i .i64 v] (fun d _ => d = .tup [.i .i64 (lookK bits l v), .i .i64 (lookE bits l v)]) := by
  refine FSpec.of_ok tok Try.func24 rfl Try.call24 (by simp) ?_
  (try (conv => whnf)); repeat' (first | refine Ok.seq ?_ | (refine Ok.region tok ?_; conv => whnf) | (refine Ok.region_draw tok follows (by kernel_rfl) ?_; conv => whnf) | (refine Ok.cond ?_; conv => whnf) | refine Ok.block ?_ | (refine Ok.skip ?_; conv => whnf) | (refine Ok.exit ?_; conv => whnf) | (refine Ok.ret ?_; conv => whnf) | (refine num_in (by omega) (by omega) ?_; conv => whnf) | (refine ix _ (by assumption) ?_; conv => whnf) | (refine ixI (by omega) (by assumption) ?_; conv => whnf) | (refine ix_new _ (by omega) fun _ _ => ?_; conv => whnf) | (refine ixI_new (by omega) (by omega) fun _ _ => ?_; conv => whnf) | (refine Or.inl ?_; (conv => whnf); (repeat (refine And.intro (by first | omega | (simp; done) | (simp; omega)) ?_; (conv => whnf))); refine ⟨_, check_spec bits l room, rfl, ?_⟩; conv => whnf) | (refine ⟨_, check_spec bits l room, rfl, ?_⟩; conv => whnf) | (refine Or.inr (Or.inl ?_); (conv => whnf); (repeat (refine And.intro (by first | omega | (simp; done) | (simp; omega)) ?_; (conv => whnf))); refine ⟨_, check_spec bits l room, ?_⟩; rintro _ _ ⟨rfl, rfl⟩; conv => whnf) | (refine rd rfl (by assumption) ?_; conv => whnf) | (refine ⟨_, .inl ⟨rfl, rfl⟩, ?_⟩; conv => whnf) | (refine ⟨_, _, rfl, rfl, ?_⟩; conv => whnf) | (refine ⟨fun _ => ?_, fun _ => ?_⟩ <;> (conv => whnf) <;> (try (exfalso; omega))) | (refine And.intro (by first | omega | rfl | (simp; done) | (simp; omega)) ?_; conv => whnf) | (refine num_any ?_; conv => whnf) | fail)
  · rename_i h1
    left
    (conv => whnf)
    simp [oneD, lookK, lookE, h1]
  · rename_i h1 h2
    have h1 : checkE bits l = 0 := Classical.not_not.1 h1
    left
    (conv => whnf)
    simp [oneD, lookK, lookE, h1, h2]
  rename_i h1 h2
  have h1 : checkE bits l = 0 := Classical.not_not.1 h1
  obtain ⟨hl, hb1, hb2, hok⟩ := checkE_ok h1
  have hm : min bits.toNat IntKind.i64.bits = bits.toNat := by show min bits.toNat 64 = _; omega
  (try (conv => whnf)); repeat' (first | refine Ok.seq ?_ | (refine Ok.region tok ?_; conv => whnf) | (refine Ok.region_draw tok follows (by kernel_rfl) ?_; conv => whnf) | (refine Ok.cond ?_; conv => whnf) | refine Ok.block ?_ | (refine Ok.skip ?_; conv => whnf) | (refine Ok.exit ?_; conv => whnf) | (refine Ok.ret ?_; conv => whnf) | (refine num_in (by omega) (by omega) ?_; conv => whnf) | (refine ix _ (by assumption) ?_; conv => whnf) | (refine ixI (by omega) (by assumption) ?_; conv => whnf) | (refine ix_new _ (by omega) fun _ _ => ?_; conv => whnf) | (refine ixI_new (by omega) (by omega) fun _ _ => ?_; conv => whnf) | (refine rd rfl (by assumption) ?_; conv => whnf) | (refine ⟨_, .inl ⟨rfl, rfl⟩, ?_⟩; conv => whnf) | (refine ⟨_, _, rfl, rfl, ?_⟩; conv => whnf) | (refine ⟨fun _ => ?_, fun _ => ?_⟩ <;> (conv => whnf) <;> (try (exfalso; omega))) | (refine And.intro (by first | omega | rfl | (simp; done) | (simp; omega)) ?_; conv => whnf) | (refine num_any ?_; conv => whnf) | fail)
  · rename_i h3
    rw [hm, ne_eq, shr_zero _ _ (by omega)] at h3
    left
    (conv => whnf)
    have : 2 ^ bits.toNat ≤ v := by omega
    simp [oneD, lookK, lookE, h1, this]
  rename_i h3
  rw [hm, ne_eq, shr_zero _ _ (by omega)] at h3
  have hE : lookE bits l v = 0 := by unfold lookE; rw [if_neg (by omega), if_neg (by omega)]
  right
  left
  (conv => whnf)
  refine ⟨_, order_spec l room (by omega), ?_⟩
  rintro d rows ⟨rfl, ps, hp, hs, rfl⟩
  obtain ⟨hf1, hf2⟩ := find_pick (bits := bits) (v := v) hp hs
  have hmem : ∀ x ∈ ps.foldl ddF [], okR bits x.r := fun x hx => by
    rcases dd_mem ps [] x hx with h | h
    · cases h
    · obtain ⟨j, hj, rfl⟩ := numb_mem (hp.subset h)
      exact hok _ (List.getElem_mem hj)
  have hol2 : (ps.foldl ddF []).length ≤ 256 := by have := dd_len ps; have := hp.length_eq; simp [numb] at this; omega
  generalize ps.foldl ddF [] = o at hf1 hf2 hmem hol2 ⊢
  have hol : (o.map Num.row).length = o.length := by simp
  (try (conv => whnf)); repeat' (first | refine Ok.seq ?_ | (refine Ok.region tok ?_; conv => whnf) | (refine Ok.region_draw tok follows (by kernel_rfl) ?_; conv => whnf) | (refine Ok.cond ?_; conv => whnf) | refine Ok.block ?_ | (refine Ok.skip ?_; conv => whnf) | (refine Ok.exit ?_; conv => whnf) | (refine Ok.ret ?_; conv => whnf) | (refine num_in (by omega) (by omega) ?_; conv => whnf) | (refine ix _ (by assumption) ?_; conv => whnf) | (refine ixI (by omega) (by assumption) ?_; conv => whnf) | (refine ix_new _ (by omega) fun _ _ => ?_; conv => whnf) | (refine ixI_new (by omega) (by omega) fun _ _ => ?_; conv => whnf) | (refine rd rfl (by assumption) ?_; conv => whnf) | (refine ⟨_, .inl ⟨rfl, rfl⟩, ?_⟩; conv => whnf) | (refine ⟨_, _, rfl, rfl, ?_⟩; conv => whnf) | (refine ⟨fun _ => ?_, fun _ => ?_⟩ <;> (conv => whnf) <;> (try (exfalso; omega))) | (refine And.intro (by first | omega | rfl | (simp; done) | (simp; omega)) ?_; conv => whnf) | (refine num_any ?_; conv => whnf) | fail)
  refine Ok.loopU [0, 2, 26, 27] [28] 0 0 (fun (k : Nat) => [.i .i64 (k : Nat)]) (fun _ b => b) (fun _ r => r) (fun (k : Nat) => k ≤ o.length ∧ ∀ x ∈ o.take k, ¬ hasR bits x.r v) (fun (k : Nat) => o.length - k) (0) (⟨Nat.zero_le _, by simp⟩) ?_; (conv => whnf); refine ⟨by ((conv => whnf); first | rfl | simp [envCat, List.take_of_length_le]), ?_⟩
  rintro k ⟨hk, ha⟩
  by_cases hkl : k < o.length
  · obtain ⟨x, hx⟩ : ∃ x, o[k]? = some x := ⟨_, List.getElem?_eq_getElem hkl⟩
    have hxm := hmem x (List.mem_of_getElem? hx)
    have hl1 := hxm.2.2.1
    have hl2 := hxm.2.2.2.1
    (try (conv => whnf)); repeat' (first | refine Ok.seq ?_ | (refine Ok.region tok ?_; conv => whnf) | (refine Ok.region_draw tok follows (by kernel_rfl) ?_; conv => whnf) | (refine Ok.cond ?_; conv => whnf) | refine Ok.block ?_ | (refine Ok.skip ?_; conv => whnf) | (refine Ok.exit ?_; conv => whnf) | (refine Ok.ret ?_; conv => whnf) | (refine num_in (by omega) (by omega) ?_; conv => whnf) | (refine ix _ (by assumption) ?_; conv => whnf) | (refine ixI (by omega) (by assumption) ?_; conv => whnf) | (refine ix_new _ (by omega) fun _ _ => ?_; conv => whnf) | (refine ixI_new (by omega) (by omega) fun _ _ => ?_; conv => whnf) | (refine Or.inl ?_; (conv => whnf); (repeat (refine And.intro (by first | omega | (simp; done) | (simp; omega)) ?_; (conv => whnf))); refine ⟨_, has_spec bits x.r v hb2 hl1 hl2, rfl, ?_⟩; conv => whnf) | (refine ⟨_, has_spec bits x.r v hb2 hl1 hl2, rfl, ?_⟩; conv => whnf) | (refine Or.inr (Or.inl ?_); (conv => whnf); (repeat (refine And.intro (by first | omega | (simp; done) | (simp; omega)) ?_; (conv => whnf))); refine ⟨_, has_spec bits x.r v hb2 hl1 hl2, ?_⟩; rintro _ _ ⟨rfl, rfl⟩; conv => whnf) | (refine rd rfl (by assumption) ?_; conv => whnf) | (refine ⟨_, .inl ⟨rfl, rfl⟩, ?_⟩; conv => whnf) | (refine ⟨_, _, rfl, rfl, ?_⟩; conv => whnf) | (refine ⟨fun _ => ?_, fun _ => ?_⟩ <;> (conv => whnf) <;> (try (exfalso; omega))) | (refine And.intro (by first | omega | rfl | (simp; done) | (simp; omega)) ?_; conv => whnf) | (refine num_any ?_; conv => whnf) | fail)
    · rename_i hh
      refine Or.inl ?_; (conv => whnf)
      have hfind : o.find? (fun x => decide (v.fdiv (2 ^ (bits - x.r.len).toNat) = x.r.value.fdiv (2 ^ (bits - x.r.len).toNat))) = some x := by
        refine List.find?_eq_some_iff_append.2 ⟨by simpa [hasR] using hh, o.take k, o.drop (k + 1), ?_, fun y hy => by simpa [hasR] using ha y hy⟩
        have := List.getElem?_eq_some_iff.1 hx
        rw [← this.2, List.getElem_cons_drop, List.take_append_drop]
      simp [oneD, lookK, hE, pick_eq (hf1 x hfind)]
    · rename_i hh
      refine ⟨k + 1, by omega, ⟨by omega, fun y hy => ?_⟩, ?_⟩
      · rw [List.take_add_one, hx] at hy
        rcases List.mem_append.1 hy with hy | hy
        · exact ha y hy
        · simp at hy; rw [hy]; exact hh
      · (conv => whnf); (first | rfl | simp [envCat, List.take_of_length_le])
  · have hkk : k = o.length := by omega
    subst hkk
    (try (conv => whnf)); repeat' (first | refine Ok.seq ?_ | (refine Ok.region tok ?_; conv => whnf) | (refine Ok.region_draw tok follows (by kernel_rfl) ?_; conv => whnf) | (refine Ok.cond ?_; conv => whnf) | refine Ok.block ?_ | (refine Ok.skip ?_; conv => whnf) | (refine Ok.exit ?_; conv => whnf) | (refine Ok.ret ?_; conv => whnf) | (refine num_in (by omega) (by omega) ?_; conv => whnf) | (refine ix _ (by assumption) ?_; conv => whnf) | (refine ixI (by omega) (by assumption) ?_; conv => whnf) | (refine ix_new _ (by omega) fun _ _ => ?_; conv => whnf) | (refine ixI_new (by omega) (by omega) fun _ _ => ?_; conv => whnf) | (refine rd rfl (by assumption) ?_; conv => whnf) | (refine ⟨_, .inl ⟨rfl, rfl⟩, ?_⟩; conv => whnf) | (refine ⟨_, _, rfl, rfl, ?_⟩; conv => whnf) | (refine ⟨fun _ => ?_, fun _ => ?_⟩ <;> (conv => whnf) <;> (try (exfalso; omega))) | (refine And.intro (by first | omega | rfl | (simp; done) | (simp; omega)) ?_; conv => whnf) | (refine num_any ?_; conv => whnf) | fail)
    refine Or.inl ?_; (conv => whnf)
    have hfind : o.find? (fun x => decide (v.fdiv (2 ^ (bits - x.r.len).toNat) = x.r.value.fdiv (2 ^ (bits - x.r.len).toNat))) = none := by
      rw [List.find?_eq_none]
      intro y hy
      simpa [hasR] using ha y (by simpa using hy)
    simp [oneD, lookK, hE, pick_eq (hf2 hfind)]

theorem lookups_law (bits : Int) (l : List Route) (room : List (List D)) (vs : List Int) (rv : List (List D)) : FSpec Try.prog T 5 [.i .i64 bits, .lst 68 (l.map Route.row) room, .lst 3 (vs.map fun v => [.i .i64 v]) rv] (fun d _ => d = .b True) := by
  refine FSpec.of_ok tok Try.func5 rfl Try.call5 (by simp) ?_
  have hll : (l.map Route.row).length = l.length := by simp
  have hvl : (vs.map fun v => [D.i .i64 v]).length = vs.length := by simp
  (try (conv => whnf)); repeat' (first | refine Ok.seq ?_ | (refine Ok.region tok ?_; conv => whnf) | (refine Ok.region_draw tok follows (by kernel_rfl) ?_; conv => whnf) | (refine Ok.cond ?_; conv => whnf) | refine Ok.block ?_ | (refine Ok.skip ?_; conv => whnf) | (refine Ok.exit ?_; conv => whnf) | (refine Ok.ret ?_; conv => whnf) | (refine num_in (by omega) (by omega) ?_; conv => whnf) | (refine ix _ (by assumption) ?_; conv => whnf) | (refine ixI (by omega) (by assumption) ?_; conv => whnf) | (refine ix_new _ (by omega) fun _ _ => ?_; conv => whnf) | (refine ixI_new (by omega) (by omega) fun _ _ => ?_; conv => whnf) | (refine rd rfl (by assumption) ?_; conv => whnf) | (refine ⟨_, .inl ⟨rfl, rfl⟩, ?_⟩; conv => whnf) | (refine ⟨_, _, rfl, rfl, ?_⟩; conv => whnf) | (refine ⟨fun _ => ?_, fun _ => ?_⟩ <;> (conv => whnf) <;> (try (exfalso; omega))) | (refine And.intro (by first | omega | rfl | (simp; done) | (simp; omega)) ?_; conv => whnf) | (refine num_any ?_; conv => whnf) | fail)
  · refine Or.inl ?_; (conv => whnf)
    rfl
  right
  left
  (conv => whnf)
  refine ⟨_, copied_spec l room (by omega), ?_⟩
  rintro d rows ⟨rfl, rfl⟩
  have e1 : ((l ++ [mk 91, mk 92]).map Route.row).take l.length = l.map Route.row := by simp
  have e2 : ((l ++ [mk 91, mk 92]).map Route.row).drop l.length = [(mk 91).row, (mk 92).row] := by simp
  have hL : ∀ v, FSpec Try.prog T 24 [.i .i64 bits, .lst 68 (((l ++ [mk 91, mk 92]).map Route.row).take l.length) (((l ++ [mk 91, mk 92]).map Route.row).drop l.length), .i .i64 v] (fun d _ => d = .tup [.i .i64 (lookK bits l v), .i .i64 (lookE bits l v)]) := fun v => by
    rw [e1]; exact Lookup_spec _ _ _ _
  have hU : FSpec Try.prog T 21 [.lst 68 (((l ++ [mk 91, mk 92]).map Route.row).take l.length) (((l ++ [mk 91, mk 92]).map Route.row).drop l.length), .lst 68 (l.map Route.row) room] (fun d _ => d = .b True) := by
    rw [e1, e2]
    have := untouched_spec l l room (mk 91) (mk 92) rfl (by omega)
    simpa using this
  (try (conv => whnf)); repeat' (first | refine Ok.seq ?_ | (refine Ok.region tok ?_; conv => whnf) | (refine Ok.region_draw tok follows (by kernel_rfl) ?_; conv => whnf) | (refine Ok.cond ?_; conv => whnf) | refine Ok.block ?_ | (refine Ok.skip ?_; conv => whnf) | (refine Ok.exit ?_; conv => whnf) | (refine Ok.ret ?_; conv => whnf) | (refine num_in (by omega) (by omega) ?_; conv => whnf) | (refine ix _ (by assumption) ?_; conv => whnf) | (refine ixI (by omega) (by assumption) ?_; conv => whnf) | (refine ix_new _ (by omega) fun _ _ => ?_; conv => whnf) | (refine ixI_new (by omega) (by omega) fun _ _ => ?_; conv => whnf) | (refine Or.inl ?_; (conv => whnf); (repeat (refine And.intro (by first | omega | (simp; done) | (simp; omega)) ?_; (conv => whnf))); refine ⟨_, hL _, rfl, ?_⟩; conv => whnf) | (refine Or.inl ?_; (conv => whnf); (repeat (refine And.intro (by first | omega | (simp; done) | (simp; omega)) ?_; (conv => whnf))); refine ⟨_, refLookup_spec _ _ _ _, rfl, ?_⟩; conv => whnf) | (refine Or.inl ?_; (conv => whnf); (repeat (refine And.intro (by first | omega | (simp; done) | (simp; omega)) ?_; (conv => whnf))); refine ⟨_, num_spec _, rfl, ?_⟩; conv => whnf) | (refine ⟨_, hL _, rfl, ?_⟩; conv => whnf) | (refine ⟨_, refLookup_spec _ _ _ _, rfl, ?_⟩; conv => whnf) | (refine ⟨_, num_spec _, rfl, ?_⟩; conv => whnf) | (refine Or.inr (Or.inl ?_); (conv => whnf); (repeat (refine And.intro (by first | omega | (simp; done) | (simp; omega)) ?_; (conv => whnf))); refine ⟨_, hL _, ?_⟩; rintro _ _ ⟨rfl, rfl⟩; conv => whnf) | (refine Or.inr (Or.inl ?_); (conv => whnf); (repeat (refine And.intro (by first | omega | (simp; done) | (simp; omega)) ?_; (conv => whnf))); refine ⟨_, refLookup_spec _ _ _ _, ?_⟩; rintro _ _ ⟨rfl, rfl⟩; conv => whnf) | (refine Or.inr (Or.inl ?_); (conv => whnf); (repeat (refine And.intro (by first | omega | (simp; done) | (simp; omega)) ?_; (conv => whnf))); refine ⟨_, num_spec _, ?_⟩; rintro _ _ ⟨rfl, rfl⟩; conv => whnf) | (refine rd rfl (by assumption) ?_; conv => whnf) | (refine ⟨_, .inl ⟨rfl, rfl⟩, ?_⟩; conv => whnf) | (refine ⟨_, _, rfl, rfl, ?_⟩; conv => whnf) | (refine ⟨fun _ => ?_, fun _ => ?_⟩ <;> (conv => whnf) <;> (try (exfalso; omega))) | (refine And.intro (by first | omega | rfl | (simp; done) | (simp; omega)) ?_; conv => whnf) | (refine num_any ?_; conv => whnf) | fail)
  refine Ok.loopU [0, 1, 2, 7] [12] 1 0 (fun (k : Nat) => [.i .i64 (k : Nat)]) (fun _ b => b) (fun _ r => r) (fun (k : Nat) => k ≤ vs.length) (fun (k : Nat) => vs.length - k) (0) (Nat.zero_le _) ?_; (conv => whnf); refine ⟨by ((conv => whnf); first | rfl | simp [envCat, List.take_of_length_le]), ?_⟩
  rintro k hk
  (try (conv => whnf)); repeat' (first | refine Ok.seq ?_ | (refine Ok.region tok ?_; conv => whnf) | (refine Ok.region_draw tok follows (by kernel_rfl) ?_; conv => whnf) | (refine Ok.cond ?_; conv => whnf) | refine Ok.block ?_ | (refine Ok.skip ?_; conv => whnf) | (refine Ok.exit ?_; conv => whnf) | (refine Ok.ret ?_; conv => whnf) | (refine num_in (by omega) (by omega) ?_; conv => whnf) | (refine ix _ (by assumption) ?_; conv => whnf) | (refine ixI (by omega) (by assumption) ?_; conv => whnf) | (refine ix_new _ (by omega) fun _ _ => ?_; conv => whnf) | (refine ixI_new (by omega) (by omega) fun _ _ => ?_; conv => whnf) | (refine Or.inl ?_; (conv => whnf); (repeat (refine And.intro (by first | omega | (simp; done) | (simp; omega)) ?_; (conv => whnf))); refine ⟨_, hL _, rfl, ?_⟩; conv => whnf) | (refine Or.inl ?_; (conv => whnf); (repeat (refine And.intro (by first | omega | (simp; done) | (simp; omega)) ?_; (conv => whnf))); refine ⟨_, refLookup_spec _ _ _ _, rfl, ?_⟩; conv => whnf) | (refine Or.inl ?_; (conv => whnf); (repeat (refine And.intro (by first | omega | (simp; done) | (simp; omega)) ?_; (conv => whnf))); refine ⟨_, num_spec _, rfl, ?_⟩; conv => whnf) | (refine Or.inl ?_; (conv => whnf); (repeat (refine And.intro (by first | omega | (simp; done) | (simp; omega)) ?_; (conv => whnf))); refine ⟨_, hU, rfl, ?_⟩; conv => whnf) | (refine ⟨_, hL _, rfl, ?_⟩; conv => whnf) | (refine ⟨_, refLookup_spec _ _ _ _, rfl, ?_⟩; conv => whnf) | (refine ⟨_, num_spec _, rfl, ?_⟩; conv => whnf) | (refine ⟨_, hU, rfl, ?_⟩; conv => whnf) | (refine Or.inr (Or.inl ?_); (conv => whnf); (repeat (refine And.intro (by first | omega | (simp; done) | (simp; omega)) ?_; (conv => whnf))); refine ⟨_, hL _, ?_⟩; rintro _ _ ⟨rfl, rfl⟩; conv => whnf) | (refine Or.inr (Or.inl ?_); (conv => whnf); (repeat (refine And.intro (by first | omega | (simp; done) | (simp; omega)) ?_; (conv => whnf))); refine ⟨_, refLookup_spec _ _ _ _, ?_⟩; rintro _ _ ⟨rfl, rfl⟩; conv => whnf) | (refine Or.inr (Or.inl ?_); (conv => whnf); (repeat (refine And.intro (by first | omega | (simp; done) | (simp; omega)) ?_; (conv => whnf))); refine ⟨_, num_spec _, ?_⟩; rintro _ _ ⟨rfl, rfl⟩; conv => whnf) | (refine Or.inr (Or.inl ?_); (conv => whnf); (repeat (refine And.intro (by first | omega | (simp; done) | (simp; omega)) ?_; (conv => whnf))); refine ⟨_, hU, ?_⟩; rintro _ _ ⟨rfl, rfl⟩; conv => whnf) | (refine rd rfl (by assumption) ?_; conv => whnf) | (refine ⟨_, .inl ⟨rfl, rfl⟩, ?_⟩; conv => whnf) | (refine ⟨_, _, rfl, rfl, ?_⟩; conv => whnf) | (refine ⟨fun _ => ?_, fun _ => ?_⟩ <;> (conv => whnf) <;> (try (exfalso; omega))) | (refine And.intro (by first | omega | rfl | (simp; done) | (simp; omega)) ?_; conv => whnf) | (refine num_any ?_; conv => whnf) | fail)
  all_goals first
    | (refine ⟨k + 1, by omega, by omega, ?_⟩; (conv => whnf); (first | rfl | simp [envCat, List.take_of_length_le]); done)
    | (refine Or.inl ?_; (conv => whnf); rfl)
end Go.Proofs.Ytgelaefpbdfnfaa
