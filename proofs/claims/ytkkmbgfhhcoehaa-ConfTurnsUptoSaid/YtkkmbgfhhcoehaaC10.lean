/- Copies with room behind: guards, rules, slices, boxes. -/
import Derived.Test.YtkkmbgfhhcoehaaC9
namespace Go.Proofs.Ytkkmbgfhhcoehaa
open Go Go.Vx
def rStrs : List (List D) := [srow mark1, srow mark2]
def rNodes : List (List D) := [Node.row ⟨4711, [], 0, 0, 0, 0, 0, []⟩, Node.row ⟨4712, [], 0, 0, 0, 0, 0, []⟩]
def rPfxs : List (List D) := [Pfx.row ⟨4711, 0, []⟩, Pfx.row ⟨4712, 0, []⟩]
def rSets : List (List D) := [SI.row ⟨[], 4711⟩, SI.row ⟨[], 4712⟩]
def lineR (x : Line) : Line := ⟨x.port, x.permit, ⟨x.mtch.l, rNodes⟩⟩
def line0 (s : Str) : Line := ⟨s, False, ⟨[], []⟩⟩
def ruleR (x : Rule) : Rule := ⟨x.prio, ⟨x.frm.l, rStrs⟩, ⟨x.mtch.l, rNodes⟩, ⟨x.sets.l, rSets⟩, ⟨x.to.l, rStrs⟩⟩
def rule0 (n : Int) : Rule := ⟨n, ⟨[], []⟩, ⟨[], []⟩, ⟨[], []⟩, ⟨[], []⟩⟩
theorem tk2 {α : Type} (f : α → List D) (l : List α) (a b : α) : ((l ++ [a, b]).map f).take l.length = l.map f := by simp
theorem dr2 {α : Type} (f : α → List D) (l : List α) (a b : α) : ((l ++ [a, b]).map f).drop l.length = [f a, f b] := by simp
set_option maxRecDepth 100000 in
set_option maxHeartbeats 4000000 in
theorem roomGuards_at (l : List Line) {rl sl : List (List D)} (hl : l.length ≤ 1048576) (hok : ∀ x ∈ l, x.Ok) (h : rl = l.map Line.row) : FSpec Try.prog T 36 [.lst 55 rl sl] (fun d rows => rows = [some (55, (l.map lineR ++ [line0 mark1, line0 mark2]).map Line.row)] ∧ d = .own 0 l.length) := by
  subst h
  have hll : (l.map Line.row).length = l.length := by simp
  refine FSpec.of_ok tok Try.func36 rfl Try.call36 (by simp) ?_
  (try (conv => whnf)); repeat' (first | refine Ok.seq ?_ | (refine Ok.region tok ?_; conv => whnf) | (refine Ok.region_draw tok follows (by kernel_rfl) ?_; conv => whnf) | (refine Ok.cond ?_; conv => whnf) | refine Ok.block ?_ | (refine Ok.skip ?_; conv => whnf) | (refine Ok.exit ?_; conv => whnf) | (refine Ok.ret ?_; conv => whnf) | (refine num_in (by omega) (by omega) ?_; conv => whnf) | (refine ix _ (by assumption) ?_; conv => whnf) | (refine ixI (by omega) (by assumption) ?_; conv => whnf) | (refine ix_new _ (by omega) fun _ _ => ?_; conv => whnf) | (refine ixI_new (by omega) (by omega) fun _ _ => ?_; conv => whnf) | (refine rd rfl (by assumption) ?_; conv => whnf) | (refine ⟨_, .inl ⟨rfl, rfl⟩, ?_⟩; conv => whnf) | (refine ⟨_, _, rfl, rfl, ?_⟩; conv => whnf) | (refine ⟨fun _ => ?_, fun _ => ?_⟩ <;> (conv => whnf) <;> (try (exfalso; omega))) | (refine And.intro (by first | omega | rfl | (simp; done) | (simp; omega)) ?_; conv => whnf) | (refine num_any ?_; conv => whnf) | (refine ⟨_, rfl, ?_⟩; conv => whnf) | fail)
  refine Ok.loopU [0, 3] [4] 1 0 (fun (k : Nat) => [.i .i64 (k : Nat)]) (fun _ b => b) (fun (k : Nat) (_ : Vx.Rows) => [some (55, ((l.map lineR).take k ++ List.replicate (l.length + 2 - k) (line0 [])).map Line.row)]) (fun (k : Nat) => k ≤ l.length) (fun (k : Nat) => l.length - k) (0) (Nat.zero_le _) ?_; (conv => whnf); refine ⟨by ((conv => whnf); first | rfl | (simp [envCat, List.take_of_length_le, SI.row, Node.row, Pfx.row, Link.row, srow, Line.row, Rule.row, Box.row, Slc.row, Config.row, Ls.d, line0, rule0]; done) | (simp [envCat, List.take_of_length_le, SI.row, Node.row, Pfx.row, Link.row, srow, Line.row, Rule.row, Box.row, Slc.row, Config.row, Ls.d, line0, rule0]; rw [IntKind.wrap_i64]; omega)), ?_⟩
  rintro k hk
  have htl : (((l.map lineR).take k ++ List.replicate (l.length + 2 - k) (line0 [])).map Line.row).length = l.length + 2 := by simp; omega
  by_cases hkl : k < l.length
  · obtain ⟨x, hx⟩ : ∃ x, l[k]? = some x := ⟨_, List.getElem?_eq_getElem hkl⟩
    have hxm : (l.map lineR)[k]? = some (lineR x) := by simp [hx]
    have hxo := hok x (List.mem_of_getElem? hx)
    obtain ⟨m, hm⟩ : ∃ m, l.length + 2 - k = m + 1 := ⟨l.length + 1 - k, by omega⟩
    rw [hm] at htl ⊢
    have hz : ((l.map lineR).take k ++ List.replicate (m + 1) (line0 []))[k]? = some (line0 []) := room_at (by simp; omega)
    have hs := room_set (z := line0 []) (m := m) hxm
    have hz2 : (((l.map lineR).take k ++ List.replicate (m + 1) (line0 [])).set k x)[k]? = some x := List.getElem?_set_self (by simp; omega)
    have hlen2 : ((((l.map lineR).take k ++ List.replicate (m + 1) (line0 [])).set k x).map Line.row).length = l.length + 2 := by simp; omega
    (conv => whnf)
    (try (conv => whnf)); repeat' (first | refine Ok.seq ?_ | (refine Ok.region tok ?_; conv => whnf) | (refine Ok.region_draw tok follows (by kernel_rfl) ?_; conv => whnf) | (refine Ok.cond ?_; conv => whnf) | refine Ok.block ?_ | (refine Ok.skip ?_; conv => whnf) | (refine Ok.exit ?_; conv => whnf) | (refine Ok.ret ?_; conv => whnf) | (refine num_in (by omega) (by omega) ?_; conv => whnf) | (refine ix _ (by assumption) ?_; conv => whnf) | (refine ixI (by omega) (by assumption) ?_; conv => whnf) | (refine ix_new _ (by omega) fun _ _ => ?_; conv => whnf) | (refine ixI_new (by omega) (by omega) fun _ _ => ?_; conv => whnf) | (refine rd rfl (by assumption) ?_; conv => whnf) | (refine ⟨_, .inl ⟨rfl, rfl⟩, ?_⟩; conv => whnf) | (refine ⟨_, _, rfl, rfl, ?_⟩; conv => whnf) | (refine ⟨fun _ => ?_, fun _ => ?_⟩ <;> (conv => whnf) <;> (try (exfalso; omega))) | (refine And.intro (by first | omega | rfl | (simp; done) | (simp; omega)) ?_; conv => whnf) | (refine num_any ?_; conv => whnf) | (refine ⟨_, rfl, ?_⟩; conv => whnf) | fail)
    refine st x hz (by simp [Line.row]) (by simp [setCells, Line.row]) ?_
    (try (conv => whnf)); repeat' (first | refine Ok.seq ?_ | (refine Ok.region tok ?_; conv => whnf) | (refine Ok.region_draw tok follows (by kernel_rfl) ?_; conv => whnf) | (refine Ok.cond ?_; conv => whnf) | refine Ok.block ?_ | (refine Ok.skip ?_; conv => whnf) | (refine Ok.exit ?_; conv => whnf) | (refine Ok.ret ?_; conv => whnf) | (refine num_in (by omega) (by omega) ?_; conv => whnf) | (refine ix _ (by assumption) ?_; conv => whnf) | (refine ixI (by omega) (by assumption) ?_; conv => whnf) | (refine ix_new _ (by omega) fun _ _ => ?_; conv => whnf) | (refine ixI_new (by omega) (by omega) fun _ _ => ?_; conv => whnf) | (refine rd rfl (by assumption) ?_; conv => whnf) | (refine ⟨_, .inl ⟨rfl, rfl⟩, ?_⟩; conv => whnf) | (refine ⟨_, _, rfl, rfl, ?_⟩; conv => whnf) | (refine ⟨fun _ => ?_, fun _ => ?_⟩ <;> (conv => whnf) <;> (try (exfalso; omega))) | (refine And.intro (by first | omega | rfl | (simp; done) | (simp; omega)) ?_; conv => whnf) | (refine num_any ?_; conv => whnf) | (refine ⟨_, rfl, ?_⟩; conv => whnf) | fail)
    right
    left
    (conv => whnf)
    refine ⟨_, roomNodes_at x.mtch.l hxo.mtch rfl, ?_⟩
    rintro d rows ⟨rfl, rfl⟩
    (try (conv => whnf)); repeat' (first | refine Ok.seq ?_ | (refine Ok.region tok ?_; conv => whnf) | (refine Ok.region_draw tok follows (by kernel_rfl) ?_; conv => whnf) | (refine Ok.cond ?_; conv => whnf) | refine Ok.block ?_ | (refine Ok.skip ?_; conv => whnf) | (refine Ok.exit ?_; conv => whnf) | (refine Ok.ret ?_; conv => whnf) | (refine num_in (by omega) (by omega) ?_; conv => whnf) | (refine ix _ (by assumption) ?_; conv => whnf) | (refine ixI (by omega) (by assumption) ?_; conv => whnf) | (refine ix_new _ (by omega) fun _ _ => ?_; conv => whnf) | (refine ixI_new (by omega) (by omega) fun _ _ => ?_; conv => whnf) | (refine rd rfl (by assumption) ?_; conv => whnf) | (refine ⟨_, .inl ⟨rfl, rfl⟩, ?_⟩; conv => whnf) | (refine ⟨_, _, rfl, rfl, ?_⟩; conv => whnf) | (refine ⟨fun _ => ?_, fun _ => ?_⟩ <;> (conv => whnf) <;> (try (exfalso; omega))) | (refine And.intro (by first | omega | rfl | (simp; done) | (simp; omega)) ?_; conv => whnf) | (refine num_any ?_; conv => whnf) | (refine ⟨_, rfl, ?_⟩; conv => whnf) | fail)
    refine st (lineR x) hz2 (by simp [Line.row]) (by rw [tk2, dr2]; rfl) ?_
    (try (conv => whnf)); repeat' (first | refine Ok.seq ?_ | (refine Ok.region tok ?_; conv => whnf) | (refine Ok.region_draw tok follows (by kernel_rfl) ?_; conv => whnf) | (refine Ok.cond ?_; conv => whnf) | refine Ok.block ?_ | (refine Ok.skip ?_; conv => whnf) | (refine Ok.exit ?_; conv => whnf) | (refine Ok.ret ?_; conv => whnf) | (refine num_in (by omega) (by omega) ?_; conv => whnf) | (refine ix _ (by assumption) ?_; conv => whnf) | (refine ixI (by omega) (by assumption) ?_; conv => whnf) | (refine ix_new _ (by omega) fun _ _ => ?_; conv => whnf) | (refine ixI_new (by omega) (by omega) fun _ _ => ?_; conv => whnf) | (refine rd rfl (by assumption) ?_; conv => whnf) | (refine ⟨_, .inl ⟨rfl, rfl⟩, ?_⟩; conv => whnf) | (refine ⟨_, _, rfl, rfl, ?_⟩; conv => whnf) | (refine ⟨fun _ => ?_, fun _ => ?_⟩ <;> (conv => whnf) <;> (try (exfalso; omega))) | (refine And.intro (by first | omega | rfl | (simp; done) | (simp; omega)) ?_; conv => whnf) | (refine num_any ?_; conv => whnf) | (refine ⟨_, rfl, ?_⟩; conv => whnf) | fail)
    refine ⟨k + 1, by omega, by omega, ?_⟩
    rw [show l.length + 2 - (k + 1) = m by omega, ← hs]
    (conv => whnf); simp [envCat]
  · obtain rfl : k = l.length := by omega
    have hlm : (l.map lineR).length = l.length := by simp
    rw [show l.length + 2 - l.length = 2 by omega, List.take_of_length_le (by omega)] at htl ⊢
    have h1 : (l.map lineR ++ List.replicate 2 (line0 []))[l.length]? = some (line0 []) := by simp
    have h2 : ((l.map lineR ++ List.replicate 2 (line0 [])).set l.length (line0 mark1))[l.length + 1]? = some (line0 []) := by
      rw [List.getElem?_set_ne (by omega)]; simp
    have htl2 : (((l.map lineR ++ List.replicate 2 (line0 [])).set l.length (line0 mark1)).map Line.row).length = l.length + 2 := by simp
    have e1 : ((((l.map Line.row).length : Nat) : Int)).toNat = l.length := by omega
    have e2 : ((((l.map Line.row).length : Nat) : Int) + 1).toNat = l.length + 1 := by omega
    have e3 := room_end (l := l.map lineR) (z := line0 []) (x := line0 mark1) (y := line0 mark2)
    rw [hlm] at e3
    (conv => whnf)
    (try (conv => whnf)); repeat' (first | refine Ok.seq ?_ | (refine Ok.region tok ?_; conv => whnf) | (refine Ok.region_draw tok follows (by kernel_rfl) ?_; conv => whnf) | (refine Ok.cond ?_; conv => whnf) | refine Ok.block ?_ | (refine Ok.skip ?_; conv => whnf) | (refine Ok.exit ?_; conv => whnf) | (refine Ok.ret ?_; conv => whnf) | (refine num_in (by omega) (by omega) ?_; conv => whnf) | (refine ix _ (by assumption) ?_; conv => whnf) | (refine ixI (by omega) (by assumption) ?_; conv => whnf) | (refine ix_new _ (by omega) fun _ _ => ?_; conv => whnf) | (refine ixI_new (by omega) (by omega) fun _ _ => ?_; conv => whnf) | (refine rd rfl (by assumption) ?_; conv => whnf) | (refine ⟨_, .inl ⟨rfl, rfl⟩, ?_⟩; conv => whnf) | (refine ⟨_, _, rfl, rfl, ?_⟩; conv => whnf) | (refine ⟨fun _ => ?_, fun _ => ?_⟩ <;> (conv => whnf) <;> (try (exfalso; omega))) | (refine And.intro (by first | omega | rfl | (simp; done) | (simp; omega)) ?_; conv => whnf) | (refine num_any ?_; conv => whnf) | (refine ⟨_, rfl, ?_⟩; conv => whnf) | fail)
    rw [e1]
    refine st (line0 mark1) h1 (by simp [Line.row]) (by simp [setCells, Line.row, line0, mark1]) ?_
    (try (conv => whnf)); repeat' (first | refine Ok.seq ?_ | (refine Ok.region tok ?_; conv => whnf) | (refine Ok.region_draw tok follows (by kernel_rfl) ?_; conv => whnf) | (refine Ok.cond ?_; conv => whnf) | refine Ok.block ?_ | (refine Ok.skip ?_; conv => whnf) | (refine Ok.exit ?_; conv => whnf) | (refine Ok.ret ?_; conv => whnf) | (refine num_in (by omega) (by omega) ?_; conv => whnf) | (refine ix _ (by assumption) ?_; conv => whnf) | (refine ixI (by omega) (by assumption) ?_; conv => whnf) | (refine ix_new _ (by omega) fun _ _ => ?_; conv => whnf) | (refine ixI_new (by omega) (by omega) fun _ _ => ?_; conv => whnf) | (refine rd rfl (by assumption) ?_; conv => whnf) | (refine ⟨_, .inl ⟨rfl, rfl⟩, ?_⟩; conv => whnf) | (refine ⟨_, _, rfl, rfl, ?_⟩; conv => whnf) | (refine ⟨fun _ => ?_, fun _ => ?_⟩ <;> (conv => whnf) <;> (try (exfalso; omega))) | (refine And.intro (by first | omega | rfl | (simp; done) | (simp; omega)) ?_; conv => whnf) | (refine num_any ?_; conv => whnf) | (refine ⟨_, rfl, ?_⟩; conv => whnf) | fail)
    rw [e2]
    refine st (line0 mark2) h2 (by simp [Line.row]) (by simp [setCells, Line.row, line0, mark2]) ?_
    rw [e3]
    (try (conv => whnf)); repeat' (first | refine Ok.seq ?_ | (refine Ok.region tok ?_; conv => whnf) | (refine Ok.region_draw tok follows (by kernel_rfl) ?_; conv => whnf) | (refine Ok.cond ?_; conv => whnf) | refine Ok.block ?_ | (refine Ok.skip ?_; conv => whnf) | (refine Ok.exit ?_; conv => whnf) | (refine Ok.ret ?_; conv => whnf) | (refine num_in (by omega) (by omega) ?_; conv => whnf) | (refine ix _ (by assumption) ?_; conv => whnf) | (refine ixI (by omega) (by assumption) ?_; conv => whnf) | (refine ix_new _ (by omega) fun _ _ => ?_; conv => whnf) | (refine ixI_new (by omega) (by omega) fun _ _ => ?_; conv => whnf) | (refine rd rfl (by assumption) ?_; conv => whnf) | (refine ⟨_, .inl ⟨rfl, rfl⟩, ?_⟩; conv => whnf) | (refine ⟨_, _, rfl, rfl, ?_⟩; conv => whnf) | (refine ⟨fun _ => ?_, fun _ => ?_⟩ <;> (conv => whnf) <;> (try (exfalso; omega))) | (refine And.intro (by first | omega | rfl | (simp; done) | (simp; omega)) ?_; conv => whnf) | (refine num_any ?_; conv => whnf) | (refine ⟨_, rfl, ?_⟩; conv => whnf) | fail)
    refine ⟨l.length, rfl, by show ((l.map Line.row).length : Int) = _; simp, by simp, ?_⟩
    (conv => whnf)
    (try (conv => whnf)); repeat' (first | refine Ok.seq ?_ | (refine Ok.region tok ?_; conv => whnf) | (refine Ok.region_draw tok follows (by kernel_rfl) ?_; conv => whnf) | (refine Ok.cond ?_; conv => whnf) | refine Ok.block ?_ | (refine Ok.skip ?_; conv => whnf) | (refine Ok.exit ?_; conv => whnf) | (refine Ok.ret ?_; conv => whnf) | (refine num_in (by omega) (by omega) ?_; conv => whnf) | (refine ix _ (by assumption) ?_; conv => whnf) | (refine ixI (by omega) (by assumption) ?_; conv => whnf) | (refine ix_new _ (by omega) fun _ _ => ?_; conv => whnf) | (refine ixI_new (by omega) (by omega) fun _ _ => ?_; conv => whnf) | (refine rd rfl (by assumption) ?_; conv => whnf) | (refine ⟨_, .inl ⟨rfl, rfl⟩, ?_⟩; conv => whnf) | (refine ⟨_, _, rfl, rfl, ?_⟩; conv => whnf) | (refine ⟨fun _ => ?_, fun _ => ?_⟩ <;> (conv => whnf) <;> (try (exfalso; omega))) | (refine And.intro (by first | omega | rfl | (simp; done) | (simp; omega)) ?_; conv => whnf) | (refine num_any ?_; conv => whnf) | (refine ⟨_, rfl, ?_⟩; conv => whnf) | fail)
    refine Or.inr (Or.inl ?_); (conv => whnf)
    exact ⟨rfl, rfl⟩
end Go.Proofs.Ytkkmbgfhhcoehaa
