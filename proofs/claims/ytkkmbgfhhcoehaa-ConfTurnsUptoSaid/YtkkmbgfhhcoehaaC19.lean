/- Networks with the free lists turned. -/
import Derived.Test.YtkkmbgfhhcoehaaC13
import Derived.Test.YtkkmbgfhhcoehaaC9
namespace Go.Proofs.Ytkkmbgfhhcoehaa
open Go Go.Vx
def rot {α : Type} (k : Nat) (l : List α) : List α := l.drop (k % l.length) ++ l.take (k % l.length)
theorem rot_len {α : Type} (k : Nat) (l : List α) : (rot k l).length = l.length := by
  unfold rot
  rw [List.length_append, List.length_drop, List.length_take]
  by_cases h : l.length = 0
  · simp [h]
  · have := Nat.mod_lt k (show 0 < l.length by omega)
    omega
theorem rot_at {α : Type} (k : Nat) (l : List α) {i : Nat} (hi : i < l.length) : (rot k l)[i]? = l[(i + k) % l.length]? := by
  unfold rot
  have hm := Nat.mod_lt k (show 0 < l.length by omega)
  rw [Nat.add_mod, Nat.mod_eq_of_lt hi]
  generalize k % l.length = m at hm
  by_cases h : i < l.length - m
  · rw [List.getElem?_append_left (by simpa using h), List.getElem?_drop, Nat.mod_eq_of_lt (by omega)]
    congr 1; omega
  · rw [List.getElem?_append_right (by simpa using h), List.length_drop, List.getElem?_take_of_lt (by omega), Nat.mod_eq_sub_mod (by omega), Nat.mod_eq_of_lt (by omega)]
    congr 1; omega
theorem rot_perm {α : Type} (k : Nat) (l : List α) : (rot k l).Perm l := by
  unfold rot
  exact List.perm_append_comm.trans (by rw [List.take_append_drop])
theorem rot_map {α β : Type} (f : α → β) (k : Nat) (l : List α) : (rot k l).map f = rot k (l.map f) := by
  unfold rot
  simp [List.map_drop, List.map_take]
theorem rem_at {α β : Type} (f : α → β) (l : List α) (i k : Nat) : (((i : Nat) : Int) + ((k : Nat) : Int)).tmod (((l.map f).length : Nat) : Int) = (((i + k) % l.length : Nat) : Int) := by
  rw [List.length_map]
  exact (Int.ofNat_tmod (i + k) l.length).symm
def ruleT (k : Nat) (r : Rule) : Rule := ⟨r.prio, ⟨rot k r.frm.l, []⟩, r.mtch, r.sets, r.to⟩
def boxT (k : Nat) (x : Box) : Box := ⟨x.name, ⟨x.ins.l, []⟩, ⟨x.outs.l, []⟩, ⟨x.guards.l.map lineC, []⟩, ⟨(rot k (x.rules.l.map ruleC)).map (ruleT k), []⟩, ⟨rot k x.owns.l, []⟩, ⟨rot k x.routes.l, []⟩⟩
set_option maxRecDepth 100000 in
theorem turnPrefixes_at (l : List Pfx) (kk : Nat) {rl sl : List (List D)} (hl : l.length ≤ 1048576) (hk : kk < 97) (h : rl = l.map Pfx.row) : FSpec Try.prog T 32 [.lst 83 rl sl, .i .i64 (kk : Nat)] (fun d rows => rows = [some (83, (rot kk l).map Pfx.row)] ∧ d = .own 0 l.length) := by
  subst h
  have hll : (l.map Pfx.row).length = l.length := by simp
  have hrl := rot_len kk l
  refine FSpec.of_ok tok Try.func32 rfl Try.call32 (by simp) ?_
  (try (conv => whnf)); repeat' (first | refine Ok.seq ?_ | (refine Ok.region tok ?_; conv => whnf) | (refine Ok.region_draw tok follows (by kernel_rfl) ?_; conv => whnf) | (refine Ok.cond ?_; conv => whnf) | refine Ok.block ?_ | (refine Ok.skip ?_; conv => whnf) | (refine Ok.exit ?_; conv => whnf) | (refine Ok.ret ?_; conv => whnf) | (refine num_in (by omega) (by omega) ?_; conv => whnf) | (refine ix _ (by assumption) ?_; conv => whnf) | (refine ixI (by omega) (by assumption) ?_; conv => whnf) | (refine ix_new _ (by omega) fun _ _ => ?_; conv => whnf) | (refine ixI_new (by omega) (by omega) fun _ _ => ?_; conv => whnf) | (refine rd rfl (by assumption) ?_; conv => whnf) | (refine ⟨_, .inl ⟨rfl, rfl⟩, ?_⟩; conv => whnf) | (refine ⟨_, _, rfl, rfl, ?_⟩; conv => whnf) | (refine ⟨fun _ => ?_, fun _ => ?_⟩ <;> (conv => whnf) <;> (try (exfalso; omega))) | (refine And.intro (by first | omega | rfl | (simp; done) | (simp; omega)) ?_; conv => whnf) | (refine num_any ?_; conv => whnf) | (refine ⟨_, rfl, ?_⟩; conv => whnf) | fail)
  refine Ok.ghost 5 83 rfl ?_
  (conv => whnf)
  refine Ok.loopU [0, 1] [5, 6] 1 0 (fun (i : Nat) => [.own 0 i, .i .i64 (i : Nat)]) (fun _ b => b) (fun (i : Nat) (_ : Vx.Rows) => [some (83, ((rot kk l).take i).map Pfx.row)]) (fun (i : Nat) => i ≤ l.length) (fun (i : Nat) => l.length - i) (0) (Nat.zero_le _) ?_; (conv => whnf); refine ⟨by ((conv => whnf); first | rfl | (simp [envCat, List.take_of_length_le, SI.row, Node.row, Pfx.row, Link.row, srow, Line.row, Rule.row, Box.row, Slc.row, Config.row, Ls.d, Function.comp_def]; done) | (simp [envCat, List.take_of_length_le, SI.row, Node.row, Pfx.row, Link.row, srow, Line.row, Rule.row, Box.row, Slc.row, Config.row, Ls.d, Function.comp_def]; rw [IntKind.wrap_i64]; omega)), ?_⟩
  rintro i hi
  have htl : (((rot kk l).take i).map Pfx.row).length = i := by simp; omega
  by_cases hil : i < l.length
  · obtain ⟨x, hx⟩ : ∃ x, (rot kk l)[i]? = some x := ⟨_, List.getElem?_eq_getElem (by omega)⟩
    have hx2 := hx
    rw [rot_at kk l hil] at hx2
    have hrem := rem_at Pfx.row l i kk
    have htk : (rot kk l).take (i + 1) = (rot kk l).take i ++ [x] := by rw [List.take_add_one, hx]; rfl
    (try (conv => whnf)); repeat' (first | refine Ok.seq ?_ | (refine Ok.region tok ?_; conv => whnf) | (refine ⟨_, (hrem).symm, ?_⟩; conv => whnf) | (refine Ok.region_draw tok follows (by kernel_rfl) ?_; conv => whnf) | (refine Ok.cond ?_; conv => whnf) | refine Ok.block ?_ | (refine Ok.skip ?_; conv => whnf) | (refine Ok.exit ?_; conv => whnf) | (refine Ok.ret ?_; conv => whnf) | (refine num_in (by omega) (by omega) ?_; conv => whnf) | (refine ix _ (by assumption) ?_; conv => whnf) | (refine ixI (by omega) (by assumption) ?_; conv => whnf) | (refine ix_new _ (by omega) fun _ _ => ?_; conv => whnf) | (refine ixI_new (by omega) (by omega) fun _ _ => ?_; conv => whnf) | (refine rd rfl (by assumption) ?_; conv => whnf) | (refine ⟨_, .inl ⟨rfl, rfl⟩, ?_⟩; conv => whnf) | (refine ⟨_, _, rfl, rfl, ?_⟩; conv => whnf) | (refine ⟨fun _ => ?_, fun _ => ?_⟩ <;> (conv => whnf) <;> (try (exfalso; omega))) | (refine And.intro (by first | omega | rfl | (simp; done) | (simp; omega)) ?_; conv => whnf) | (refine num_any ?_; conv => whnf) | (refine ⟨_, rfl, ?_⟩; conv => whnf) | fail)
    refine ⟨i + 1, by omega, by omega, ?_⟩
    rw [htk]
    (conv => whnf); simp [envCat, Pfx.row]; omega
  · obtain rfl : i = l.length := by omega
    rw [List.take_of_length_le (by omega)]
    (conv => whnf)
    (try (conv => whnf)); repeat' (first | refine Ok.seq ?_ | (refine Ok.region tok ?_; conv => whnf) | (refine Ok.region_draw tok follows (by kernel_rfl) ?_; conv => whnf) | (refine Ok.cond ?_; conv => whnf) | refine Ok.block ?_ | (refine Ok.skip ?_; conv => whnf) | (refine Ok.exit ?_; conv => whnf) | (refine Ok.ret ?_; conv => whnf) | (refine num_in (by omega) (by omega) ?_; conv => whnf) | (refine ix _ (by assumption) ?_; conv => whnf) | (refine ixI (by omega) (by assumption) ?_; conv => whnf) | (refine ix_new _ (by omega) fun _ _ => ?_; conv => whnf) | (refine ixI_new (by omega) (by omega) fun _ _ => ?_; conv => whnf) | (refine rd rfl (by assumption) ?_; conv => whnf) | (refine ⟨_, .inl ⟨rfl, rfl⟩, ?_⟩; conv => whnf) | (refine ⟨_, _, rfl, rfl, ?_⟩; conv => whnf) | (refine ⟨fun _ => ?_, fun _ => ?_⟩ <;> (conv => whnf) <;> (try (exfalso; omega))) | (refine And.intro (by first | omega | rfl | (simp; done) | (simp; omega)) ?_; conv => whnf) | (refine num_any ?_; conv => whnf) | (refine ⟨_, rfl, ?_⟩; conv => whnf) | fail)
    refine Or.inr (Or.inl ?_); (conv => whnf)
    exact ⟨rfl, rfl⟩
set_option maxRecDepth 100000 in
set_option maxHeartbeats 4000000 in
theorem turnRules_at (l : List Rule) (kk : Nat) {rl sl : List (List D)} (hl : l.length ≤ 1048576) (hok : ∀ x ∈ l, x.Ok) (hk : kk < 97) (h : rl = l.map Rule.row) : FSpec Try.prog T 31 [.lst 58 rl sl, .i .i64 (kk : Nat)] (fun d rows => rows = [some (58, ((rot kk l).map (ruleT kk)).map Rule.row)] ∧ d = .own 0 l.length) := by
  subst h
  have hll : (l.map Rule.row).length = l.length := by simp
  have hrl := rot_len kk l
  refine FSpec.of_ok tok Try.func31 rfl Try.call31 (by simp) ?_
  (try (conv => whnf)); repeat' (first | refine Ok.seq ?_ | (refine Ok.region tok ?_; conv => whnf) | (refine Ok.region_plan (id := 10) tok follows [(2, 12, [11, 10]), (7, 12, [11, 10, 9, 8]), (11, 12, []), (2, 13, [12, 11, 10]), (7, 13, [12, 11, 10, 9, 8]), (11, 13, [12]), (12, 13, [])] [.q 0, .q 1, .q 2, .q 3, .q 4, .q 5, .q 6, .q 7, .q 8, .q 9, .q 10, .q 11, .l 12, .l 13, .q 14] (by kernel_rfl) ?_; conv => whnf) | (refine Ok.region_draw tok follows (by kernel_rfl) ?_; conv => whnf) | (refine Ok.cond ?_; conv => whnf) | refine Ok.block ?_ | (refine Ok.skip ?_; conv => whnf) | (refine Ok.exit ?_; conv => whnf) | (refine Ok.ret ?_; conv => whnf) | (refine num_in (by omega) (by omega) ?_; conv => whnf) | (refine ix _ (by assumption) ?_; conv => whnf) | (refine ixI (by omega) (by assumption) ?_; conv => whnf) | (refine ix_new _ (by omega) fun _ _ => ?_; conv => whnf) | (refine ixI_new (by omega) (by omega) fun _ _ => ?_; conv => whnf) | (refine rd rfl (by assumption) ?_; conv => whnf) | (refine ⟨_, .inl ⟨rfl, rfl⟩, ?_⟩; conv => whnf) | (refine ⟨_, _, rfl, rfl, ?_⟩; conv => whnf) | (refine ⟨fun _ => ?_, fun _ => ?_⟩ <;> (conv => whnf) <;> (try (exfalso; omega))) | (refine And.intro (by first | omega | rfl | (simp; done) | (simp; omega)) ?_; conv => whnf) | (refine num_any ?_; conv => whnf) | (refine ⟨_, rfl, ?_⟩; conv => whnf) | fail)
  refine Ok.ghost 5 58 rfl ?_
  (conv => whnf)
  refine Ok.loopU [0, 1] [5, 6] 1 0 (fun (i : Nat) => [.own 0 i, .i .i64 (i : Nat)]) (fun _ b => b) (fun (i : Nat) (_ : Vx.Rows) => [some (58, (((rot kk l).map (ruleT kk)).take i).map Rule.row)]) (fun (i : Nat) => i ≤ l.length) (fun (i : Nat) => l.length - i) (0) (Nat.zero_le _) ?_; (conv => whnf); refine ⟨by ((conv => whnf); first | rfl | (simp [envCat, List.take_of_length_le, SI.row, Node.row, Pfx.row, Link.row, srow, Line.row, Rule.row, Box.row, Slc.row, Config.row, Ls.d, Function.comp_def]; done) | (simp [envCat, List.take_of_length_le, SI.row, Node.row, Pfx.row, Link.row, srow, Line.row, Rule.row, Box.row, Slc.row, Config.row, Ls.d, Function.comp_def]; rw [IntKind.wrap_i64]; omega)), ?_⟩
  rintro i hi
  have htl : ((((rot kk l).map (ruleT kk)).take i).map Rule.row).length = i := by simp; omega
  by_cases hil : i < l.length
  · obtain ⟨x, hx⟩ : ∃ x, (rot kk l)[i]? = some x := ⟨_, List.getElem?_eq_getElem (by omega)⟩
    have hx2 := hx
    rw [rot_at kk l hil] at hx2
    have hxo := hok x (List.mem_of_getElem? hx2)
    have hxl := hxo.frm
    have hfl : (x.frm.l.map srow).length = x.frm.l.length := by simp
    have hfr := rot_len kk x.frm.l
    have hrem := rem_at Rule.row l i kk
    have htk : ((rot kk l).map (ruleT kk)).take (i + 1) = ((rot kk l).map (ruleT kk)).take i ++ [ruleT kk x] := by rw [List.take_add_one, List.getElem?_map, hx]; rfl
    (try (conv => whnf)); repeat' (first | refine Ok.seq ?_ | (refine Ok.region tok ?_; conv => whnf) | (refine Ok.region_plan (id := 10) tok follows [(2, 12, [11, 10]), (7, 12, [11, 10, 9, 8]), (11, 12, []), (2, 13, [12, 11, 10]), (7, 13, [12, 11, 10, 9, 8]), (11, 13, [12]), (12, 13, [])] [.q 0, .q 1, .q 2, .q 3, .q 4, .q 5, .q 6, .q 7, .q 8, .q 9, .q 10, .q 11, .l 12, .l 13, .q 14] (by kernel_rfl) ?_; conv => whnf) | (refine ⟨_, (hrem).symm, ?_⟩; conv => whnf) | (refine Ok.region_draw tok follows (by kernel_rfl) ?_; conv => whnf) | (refine Ok.cond ?_; conv => whnf) | refine Ok.block ?_ | (refine Ok.skip ?_; conv => whnf) | (refine Ok.exit ?_; conv => whnf) | (refine Ok.ret ?_; conv => whnf) | (refine num_in (by omega) (by omega) ?_; conv => whnf) | (refine ix _ (by assumption) ?_; conv => whnf) | (refine ixI (by omega) (by assumption) ?_; conv => whnf) | (refine ix_new _ (by omega) fun _ _ => ?_; conv => whnf) | (refine ixI_new (by omega) (by omega) fun _ _ => ?_; conv => whnf) | (refine rd rfl (by assumption) ?_; conv => whnf) | (refine ⟨_, .inl ⟨rfl, rfl⟩, ?_⟩; conv => whnf) | (refine ⟨_, _, rfl, rfl, ?_⟩; conv => whnf) | (refine ⟨fun _ => ?_, fun _ => ?_⟩ <;> (conv => whnf) <;> (try (exfalso; omega))) | (refine And.intro (by first | omega | rfl | (simp; done) | (simp; omega)) ?_; conv => whnf) | (refine num_any ?_; conv => whnf) | (refine ⟨_, rfl, ?_⟩; conv => whnf) | fail)
    refine Ok.ghost 8 9 rfl ?_
    (conv => whnf)
    refine Ok.loopU [0, 1, 5, 6, 7] [8, 9] 2 1 (fun (j : Nat) => [.own 1 j, .i .i64 (j : Nat)]) (fun _ b => b) (fun (j : Nat) (_ : Vx.Rows) => [some (58, (((rot kk l).map (ruleT kk)).take i).map Rule.row), some (9, ((rot kk x.frm.l).take j).map srow)]) (fun (j : Nat) => j ≤ x.frm.l.length) (fun (j : Nat) => x.frm.l.length - j) (0) (Nat.zero_le _) ?_; (conv => whnf); refine ⟨by ((conv => whnf); first | rfl | (simp [envCat, List.take_of_length_le, SI.row, Node.row, Pfx.row, Link.row, srow, Line.row, Rule.row, Box.row, Slc.row, Config.row, Ls.d, Function.comp_def]; done) | (simp [envCat, List.take_of_length_le, SI.row, Node.row, Pfx.row, Link.row, srow, Line.row, Rule.row, Box.row, Slc.row, Config.row, Ls.d, Function.comp_def]; rw [IntKind.wrap_i64]; omega)), ?_⟩
    rintro j hj
    have htj : (((rot kk x.frm.l).take j).map srow).length = j := by simp; omega
    by_cases hjl : j < x.frm.l.length
    · obtain ⟨y, hy⟩ : ∃ x_1, (rot kk x.frm.l)[j]? = some x_1 := ⟨_, List.getElem?_eq_getElem (by omega)⟩
      have hy2 := hy
      rw [rot_at kk x.frm.l hjl] at hy2
      have hrem2 := rem_at srow x.frm.l j kk
      have htk2 : (rot kk x.frm.l).take (j + 1) = (rot kk x.frm.l).take j ++ [y] := by rw [List.take_add_one, hy]; rfl
      (try (conv => whnf)); repeat' (first | refine Ok.seq ?_ | (refine Ok.region tok ?_; conv => whnf) | (refine Ok.region_plan (id := 10) tok follows [(2, 12, [11, 10]), (7, 12, [11, 10, 9, 8]), (11, 12, []), (2, 13, [12, 11, 10]), (7, 13, [12, 11, 10, 9, 8]), (11, 13, [12]), (12, 13, [])] [.q 0, .q 1, .q 2, .q 3, .q 4, .q 5, .q 6, .q 7, .q 8, .q 9, .q 10, .q 11, .l 12, .l 13, .q 14] (by kernel_rfl) ?_; conv => whnf) | (refine ⟨_, (hrem2).symm, ?_⟩; conv => whnf) | (refine Ok.region_draw tok follows (by kernel_rfl) ?_; conv => whnf) | (refine Ok.cond ?_; conv => whnf) | refine Ok.block ?_ | (refine Ok.skip ?_; conv => whnf) | (refine Ok.exit ?_; conv => whnf) | (refine Ok.ret ?_; conv => whnf) | (refine num_in (by omega) (by omega) ?_; conv => whnf) | (refine ix _ (by assumption) ?_; conv => whnf) | (refine ixI (by omega) (by assumption) ?_; conv => whnf) | (refine ix_new _ (by omega) fun _ _ => ?_; conv => whnf) | (refine ixI_new (by omega) (by omega) fun _ _ => ?_; conv => whnf) | (refine rd rfl (by assumption) ?_; conv => whnf) | (refine ⟨_, .inl ⟨rfl, rfl⟩, ?_⟩; conv => whnf) | (refine ⟨_, _, rfl, rfl, ?_⟩; conv => whnf) | (refine ⟨fun _ => ?_, fun _ => ?_⟩ <;> (conv => whnf) <;> (try (exfalso; omega))) | (refine And.intro (by first | omega | rfl | (simp; done) | (simp; omega)) ?_; conv => whnf) | (refine num_any ?_; conv => whnf) | (refine ⟨_, rfl, ?_⟩; conv => whnf) | fail)
      refine ⟨j + 1, by omega, by omega, ?_⟩
      rw [htk2]
      (conv => whnf); simp [envCat, srow]; omega
    obtain rfl : j = x.frm.l.length := by omega
    rw [List.take_of_length_le (l := rot kk x.frm.l) (by omega)]
    (conv => whnf)
    (try (conv => whnf)); repeat' (first | refine Ok.seq ?_ | (refine Ok.region tok ?_; conv => whnf) | (refine Ok.region_plan (id := 10) tok follows [(2, 12, [11, 10]), (7, 12, [11, 10, 9, 8]), (11, 12, []), (2, 13, [12, 11, 10]), (7, 13, [12, 11, 10, 9, 8]), (11, 13, [12]), (12, 13, [])] [.q 0, .q 1, .q 2, .q 3, .q 4, .q 5, .q 6, .q 7, .q 8, .q 9, .q 10, .q 11, .l 12, .l 13, .q 14] (by kernel_rfl) ?_; conv => whnf) | (refine Ok.region_draw tok follows (by kernel_rfl) ?_; conv => whnf) | (refine Ok.cond ?_; conv => whnf) | refine Ok.block ?_ | (refine Ok.skip ?_; conv => whnf) | (refine Ok.exit ?_; conv => whnf) | (refine Ok.ret ?_; conv => whnf) | (refine num_in (by omega) (by omega) ?_; conv => whnf) | (refine ix _ (by assumption) ?_; conv => whnf) | (refine ixI (by omega) (by assumption) ?_; conv => whnf) | (refine ix_new _ (by omega) fun _ _ => ?_; conv => whnf) | (refine ixI_new (by omega) (by omega) fun _ _ => ?_; conv => whnf) | (refine rd rfl (by assumption) ?_; conv => whnf) | (refine ⟨_, .inl ⟨rfl, rfl⟩, ?_⟩; conv => whnf) | (refine ⟨_, _, rfl, rfl, ?_⟩; conv => whnf) | (refine ⟨fun _ => ?_, fun _ => ?_⟩ <;> (conv => whnf) <;> (try (exfalso; omega))) | (refine And.intro (by first | omega | rfl | (simp; done) | (simp; omega)) ?_; conv => whnf) | (refine num_any ?_; conv => whnf) | (refine ⟨_, rfl, ?_⟩; conv => whnf) | fail)
    refine ⟨i + 1, by omega, by omega, ?_⟩
    rw [htk]
    (conv => whnf); simp [envCat, ruleT, Rule.row, List.take_of_length_le, List.drop_of_length_le, hfr]; omega
  · obtain rfl : i = l.length := by omega
    rw [List.take_of_length_le (by simp; omega)]
    (conv => whnf)
    (try (conv => whnf)); repeat' (first | refine Ok.seq ?_ | (refine Ok.region tok ?_; conv => whnf) | (refine Ok.region_plan (id := 10) tok follows [(2, 12, [11, 10]), (7, 12, [11, 10, 9, 8]), (11, 12, []), (2, 13, [12, 11, 10]), (7, 13, [12, 11, 10, 9, 8]), (11, 13, [12]), (12, 13, [])] [.q 0, .q 1, .q 2, .q 3, .q 4, .q 5, .q 6, .q 7, .q 8, .q 9, .q 10, .q 11, .l 12, .l 13, .q 14] (by kernel_rfl) ?_; conv => whnf) | (refine Ok.region_draw tok follows (by kernel_rfl) ?_; conv => whnf) | (refine Ok.cond ?_; conv => whnf) | refine Ok.block ?_ | (refine Ok.skip ?_; conv => whnf) | (refine Ok.exit ?_; conv => whnf) | (refine Ok.ret ?_; conv => whnf) | (refine num_in (by omega) (by omega) ?_; conv => whnf) | (refine ix _ (by assumption) ?_; conv => whnf) | (refine ixI (by omega) (by assumption) ?_; conv => whnf) | (refine ix_new _ (by omega) fun _ _ => ?_; conv => whnf) | (refine ixI_new (by omega) (by omega) fun _ _ => ?_; conv => whnf) | (refine rd rfl (by assumption) ?_; conv => whnf) | (refine ⟨_, .inl ⟨rfl, rfl⟩, ?_⟩; conv => whnf) | (refine ⟨_, _, rfl, rfl, ?_⟩; conv => whnf) | (refine ⟨fun _ => ?_, fun _ => ?_⟩ <;> (conv => whnf) <;> (try (exfalso; omega))) | (refine And.intro (by first | omega | rfl | (simp; done) | (simp; omega)) ?_; conv => whnf) | (refine num_any ?_; conv => whnf) | (refine ⟨_, rfl, ?_⟩; conv => whnf) | fail)
    refine Or.inr (Or.inl ?_); (conv => whnf)
    exact ⟨rfl, rfl⟩
end Go.Proofs.Ytkkmbgfhhcoehaa
