/- Routes and their order: a heap of routes, and the list that comes out of it. -/
import Derived.Test.YtgelaefpbdfnfaaT
import Derived.Test.YtgelaefpbdfnfaaVh1
namespace Go.Proofs.Ytgelaefpbdfnfaa
open Go Go.Vx
structure Route where
  kind : Int
  value : Int
  len : Int
  out : Int
def Route.row (r : Route) : List D := [.i .i64 r.kind, .i .i64 r.value, .i .i64 r.len, .i .i64 r.out]
structure Num where
  r : Route
  at_ : Int
def Num.row (r : Num) : List D := [.i .i64 r.r.kind, .i .i64 r.r.value, .i .i64 r.r.len, .i .i64 r.r.out, .i .i64 r.at_]
def firstP (r s : Num) : Prop := if r.r.len ≠ s.r.len then s.r.len < r.r.len else if r.r.value ≠ s.r.value then r.r.value < s.r.value else if r.r.kind ≠ s.r.kind then r.r.kind < s.r.kind else r.at_ < s.at_

set_option maxRecDepth 100000 in
theorem first_spec (r s : Num) : FSpec Try.prog T 52 [.agg [], .agg r.row, .agg s.row] (fun d _ => d = .b (firstP r s)) := by
  refine FSpec.of_ok tok Try.func52 rfl Try.call52 (by simp) ?_
  repeat' (first | refine Ok.seq ?_ | (refine Ok.region tok ?_; conv => whnf) | (refine Ok.region_draw tok follows (by kernel_rfl) ?_; conv => whnf) | (refine Ok.cond ?_; conv => whnf) | refine Ok.block ?_ | (refine Ok.skip ?_; conv => whnf) | (refine Ok.exit ?_; conv => whnf) | (refine Ok.ret ?_; conv => whnf) | (refine num_in (by omega) (by omega) ?_; conv => whnf) | (refine ⟨fun _ => ?_, fun _ => ?_⟩) | (refine And.intro (by first | omega | rfl | (simp; done) | (simp; omega)) ?_; conv => whnf) | (refine num_any ?_; conv => whnf) | fail)
  all_goals left
  all_goals (conv => whnf)
  all_goals exact b_eq (by simp [firstP, *])

theorem idx_map {α : Type} (l : List α) (f : α → List D) (k : Nat) (h : k < l.length) : (l.map f)[((k : Nat) : Int).toNat]? = some (f l[k]) := by simp [h]
theorem first_swo : Hp.Swo firstP := by
  refine ⟨fun a => ?_, fun a b c => ?_, fun a b => ?_⟩
  · simp [firstP]
  · intro h1 h2
    unfold firstP at *
    split <;> split at h1 <;> split at h2 <;> (try split at h1) <;> (try split at h2) <;> (try split) <;> (try split at h1) <;> (try split at h2) <;> (try split) <;> omega
  · intro h1
    unfold firstP at *
    split <;> split at h1 <;> (try split at h1) <;> (try split) <;> (try split at h1) <;> (try split) <;> omega
theorem map_at {α : Type} {l : List α} {f : α → List D} {k : Nat} {a : α} (h : l[k]? = some a) : (l.map f)[k]? = some (f a) := by simp [h]
theorem half (i : Nat) (h : 0 < i) : ((i : Int) - 1).tdiv 2 = (((i - 1) / 2 : Nat) : Int) := by
  rw [Int.tdiv_eq_ediv_of_nonneg (by omega)]; omega
def numb (routes : List Route) : List Num := routes.zipIdx.map fun x => ⟨x.1, x.2⟩
theorem numb_take (routes : List Route) (k : Nat) (h : k < routes.length) : (numb routes).take (k + 1) = (numb routes).take k ++ [⟨routes[k], k⟩] := by
  rw [List.take_succ_eq_append_getElem (by simpa [numb] using h)]
  simp [numb]
def z5 : List D := [.i .i64 0, .i .i64 0, .i .i64 0, .i .i64 0, .i .i64 0]
def ddF (acc : List Num) (r : Num) : List Num := match acc.getLast? with
  | some q => if q.r.len = r.r.len ∧ q.r.value = r.r.value then acc else acc ++ [r]
  | none => acc ++ [r]

theorem dd_len : ∀ (ps : List Num), (ps.foldl ddF []).length ≤ ps.length := by
  have key : ∀ (ps acc : List Num), (ps.foldl ddF acc).length ≤ acc.length + ps.length := by
    intro ps
    induction ps with
    | nil => intro acc; simp
    | cons p ps ih =>
      intro acc
      have h1 : (ddF acc p).length ≤ acc.length + 1 := by
        unfold ddF
        split
        · split <;> simp
        · simp
      have := ih (ddF acc p)
      simp only [List.foldl_cons, List.length_cons]
      omega
  intro ps
  simpa using key ps []
set_option maxRecDepth 100000 in
theorem order_spec (routes : List Route) (room : List (List D)) (hlen : routes.length ≤ 270) : FSpec Try.prog T 41 [.lst 68 (routes.map Route.row) room]
    (fun d rows => rows = [] ∧ ∃ ps : List Num, ps.Perm (numb routes) ∧ ps.Pairwise (fun a b => ¬ firstP b a) ∧ d = .lst 73 ((ps.foldl ddF []).map Num.row) []) := by
  refine FSpec.of_ok tok Try.func41 rfl Try.call41 (by simp) ?_
  repeat' (first | refine Ok.seq ?_ | (refine Ok.region tok ?_; conv => whnf) | (refine Ok.region_draw tok follows (by kernel_rfl) ?_; conv => whnf) | (refine Ok.cond ?_; conv => whnf) | refine Ok.block ?_ | (refine Ok.skip ?_; conv => whnf) | (refine Ok.exit ?_; conv => whnf) | (refine Ok.ret ?_; conv => whnf) | (refine num_in (by omega) (by omega) ?_; conv => whnf) | fail)
  left
  repeat' (first | refine Ok.seq ?_ | (refine Ok.region tok ?_; conv => whnf) | (refine Ok.region_draw tok follows (by kernel_rfl) ?_; conv => whnf) | (refine Ok.cond ?_; conv => whnf) | refine Ok.block ?_ | (refine Ok.skip ?_; conv => whnf) | (refine Ok.exit ?_; conv => whnf) | (refine Ok.ret ?_; conv => whnf) | (refine num_in (by omega) (by omega) ?_; conv => whnf) | fail)
  refine Ok.ghostB 0 0 73 rfl rfl ?_
  (conv => whnf)
  refine Ok.loopK [0, 3, 12, 13, 14] 1 1 (fun x : Nat × List Num => ⟨[(0, .lst 68 (routes.map Route.row) room), (3, .bp 0 0), (12, .lst 68 (routes.map Route.row) room), (13, .i .i64 (routes.map Route.row).length), (14, .i .i64 (x.1 : Nat))],
    [[.own 0 x.2.length, .fn 52 [.agg []] []]], [some (73, x.2.map Num.row)], 65⟩) (fun x => x.1 ≤ routes.length ∧ x.2.Perm ((numb routes).take x.1) ∧ Hp.Heap firstP x.2) (fun x => routes.length - x.1) (0, []) ⟨Nat.zero_le _, by simp, fun j _ a b h => by simp at h⟩ ?_ ?_
  · (conv => whnf)
    rfl
  rintro ⟨k, ys⟩ ⟨hk, hp, hh⟩
  dsimp only
  repeat' (first | refine Ok.seq ?_ | (refine Ok.region tok ?_; conv => whnf) | (refine Ok.region_draw tok follows (by kernel_rfl) ?_; conv => whnf) | (refine Ok.cond ?_; conv => whnf) | refine Ok.block ?_ | (refine Ok.skip ?_; conv => whnf) | (refine Ok.exit ?_; conv => whnf) | (refine Ok.ret ?_; conv => whnf) | (refine num_in (by omega) (by omega) ?_; conv => whnf) | fail)
  refine ⟨fun h1 => ?_, fun h1 => ?_⟩
  · have h1' : k < routes.length := by simpa using h1
    repeat' (first | refine Ok.seq ?_ | (refine Ok.region tok ?_; conv => whnf) | (refine Ok.region_draw tok follows (by kernel_rfl) ?_; conv => whnf) | (refine Ok.cond ?_; conv => whnf) | refine Ok.block ?_ | (refine Ok.skip ?_; conv => whnf) | (refine Ok.exit ?_; conv => whnf) | (refine Ok.ret ?_; conv => whnf) | (refine num_in (by omega) (by omega) ?_; conv => whnf) | fail)
    refine ⟨by omega, _, idx_map _ _ _ h1', ?_⟩
    (conv => whnf)
    repeat' (first | refine Ok.seq ?_ | (refine Ok.region tok ?_; conv => whnf) | (refine Ok.region_draw tok follows (by kernel_rfl) ?_; conv => whnf) | (refine Ok.cond ?_; conv => whnf) | refine Ok.block ?_ | (refine Ok.skip ?_; conv => whnf) | (refine Ok.exit ?_; conv => whnf) | (refine Ok.ret ?_; conv => whnf) | (refine num_in (by omega) (by omega) ?_; conv => whnf) | fail)
    right
    right
    left
    (conv => whnf)
    refine ⟨_, _, Try.func53, rfl, Try.call53, ?_⟩
    (conv => whnf)
    refine Ok.joinK [74, 77, 86, 87, 88] 1 1 (fun zs : List Num => ⟨[(74, .lst 68 (routes.map Route.row) room), (77, .bp 0 0), (86, .lst 68 (routes.map Route.row) room), (87, .i .i64 (routes.map Route.row).length), (88, .i .i64 (k : Nat))],
      [[.own 0 zs.length, .fn 52 [.agg []] []]], [some (73, zs.map Num.row)], 74⟩) (fun e zs => (e = .normal ∨ e = .ret) ∧ zs.Perm (ys ++ [⟨routes[k], k⟩]) ∧ Hp.Heap firstP zs) ?_ ?_
    · repeat' (first | refine Ok.seq ?_ | (refine Ok.region tok ?_; conv => whnf) | (refine Ok.region_plan (id := 1) tok follows [(5, 6, []), (4, 7, []), (5, 7, [6]), (6, 7, []), (4, 10, []), (5, 10, []), (6, 10, []), (7, 10, [])] [.q 0, .q 1, .q 2, .q 3, .q 4, .q 5, .l 6, .l 7, .q 8, .q 9, .l 10] (by kernel_rfl) ?_; conv => whnf) | (refine Ok.region_plan (id := 6) tok follows [(3, 25, []), (8, 25, []), (13, 25, []), (16, 25, []), (20, 25, []), (23, 25, []), (3, 27, []), (8, 27, []), (13, 27, []), (16, 27, []), (20, 27, []), (23, 27, []), (25, 27, [])] [.q 0, .q 1, .q 2, .q 3, .q 4, .q 5, .q 6, .q 7, .q 8, .q 9, .q 10, .q 11, .q 12, .q 13, .q 14, .q 15, .q 16, .q 17, .q 18, .q 19, .q 20, .q 21, .q 22, .q 23, .q 24, .l 25, .q 26, .l 27] (by kernel_rfl) ?_; conv => whnf) | (refine Ok.region_draw tok follows (by kernel_rfl) ?_; conv => whnf) | (refine Ok.cond ?_; conv => whnf) | refine Ok.block ?_ | (refine Ok.skip ?_; conv => whnf) | (refine Ok.exit ?_; conv => whnf) | (refine Ok.ret ?_; conv => whnf) | (refine num_in (by omega) (by omega) ?_; conv => whnf) | fail)
      refine ⟨by simp, ?_⟩
      (conv => whnf)
      refine ⟨by simp, _, .inl ⟨rfl, rfl⟩, ?_⟩
      (conv => whnf)
      have hyl : ys.length ≤ k := by have := hp.length_eq; simp [numb] at this; omega
      have hzl : (ys ++ [(⟨routes[k], k⟩ : Num)]).length = ys.length + 1 := by simp
      refine ⟨by simp; omega, (ys ++ [(⟨routes[k], k⟩ : Num)]).map Num.row, (ys ++ [(⟨routes[k], k⟩ : Num)]).length, by simp [Num.row], by simp, ?_⟩
      (conv => whnf)
      generalize hz : ys ++ [(⟨routes[k], k⟩ : Num)] = zs at hzl ⊢
      repeat' (first | refine Ok.seq ?_ | (refine Ok.region tok ?_; conv => whnf) | (refine Ok.region_plan (id := 1) tok follows [(5, 6, []), (4, 7, []), (5, 7, [6]), (6, 7, []), (4, 10, []), (5, 10, []), (6, 10, []), (7, 10, [])] [.q 0, .q 1, .q 2, .q 3, .q 4, .q 5, .l 6, .l 7, .q 8, .q 9, .l 10] (by kernel_rfl) ?_; conv => whnf) | (refine Ok.region_plan (id := 6) tok follows [(3, 25, []), (8, 25, []), (13, 25, []), (16, 25, []), (20, 25, []), (23, 25, []), (3, 27, []), (8, 27, []), (13, 27, []), (16, 27, []), (20, 27, []), (23, 27, []), (25, 27, [])] [.q 0, .q 1, .q 2, .q 3, .q 4, .q 5, .q 6, .q 7, .q 8, .q 9, .q 10, .q 11, .q 12, .q 13, .q 14, .q 15, .q 16, .q 17, .q 18, .q 19, .q 20, .q 21, .q 22, .q 23, .q 24, .l 25, .q 26, .l 27] (by kernel_rfl) ?_; conv => whnf) | (refine Ok.region_draw tok follows (by kernel_rfl) ?_; conv => whnf) | (refine Ok.cond ?_; conv => whnf) | refine Ok.block ?_ | (refine Ok.skip ?_; conv => whnf) | (refine Ok.exit ?_; conv => whnf) | (refine Ok.ret ?_; conv => whnf) | (refine num_in (by omega) (by omega) ?_; conv => whnf) | fail)
      refine Ok.loopK [0, 4, 74, 77, 86, 87, 88] 1 1 (fun x : Nat × List Num => ⟨[(0, .bp 0 0), (4, .i .i64 (x.1 : Nat)), (74, .lst 68 (routes.map Route.row) room), (77, .bp 0 0), (86, .lst 68 (routes.map Route.row) room), (87, .i .i64 (routes.map Route.row).length), (88, .i .i64 (k : Nat))],
        [[.own 0 x.2.length, .fn 52 [.agg []] []]], [some (73, x.2.map Num.row)], 74⟩) (fun x => x.1 < x.2.length ∧ x.2.length ≤ k + 1 ∧ x.2.Perm zs ∧ Hp.HeapX firstP x.2 x.1) (fun x => x.1) (ys.length, zs) ⟨by dsimp only; omega, by dsimp only; omega, .refl _, by rw [← hz]; exact Hp.heapX_snoc hh _⟩ ?_ ?_
      · (conv => whnf)
        have e1 : ((zs.length : Int) - 1) = (ys.length : Nat) := by omega
        simp [e1]
      rintro ⟨i, us⟩ ⟨hi, hul, hup, hux⟩
      dsimp only at hi hul hup hux ⊢
      repeat' (first | refine Ok.seq ?_ | (refine Ok.region tok ?_; conv => whnf) | (refine Ok.region_plan (id := 1) tok follows [(5, 6, []), (4, 7, []), (5, 7, [6]), (6, 7, []), (4, 10, []), (5, 10, []), (6, 10, []), (7, 10, [])] [.q 0, .q 1, .q 2, .q 3, .q 4, .q 5, .l 6, .l 7, .q 8, .q 9, .l 10] (by kernel_rfl) ?_; conv => whnf) | (refine Ok.region_plan (id := 6) tok follows [(3, 25, []), (8, 25, []), (13, 25, []), (16, 25, []), (20, 25, []), (23, 25, []), (3, 27, []), (8, 27, []), (13, 27, []), (16, 27, []), (20, 27, []), (23, 27, []), (25, 27, [])] [.q 0, .q 1, .q 2, .q 3, .q 4, .q 5, .q 6, .q 7, .q 8, .q 9, .q 10, .q 11, .q 12, .q 13, .q 14, .q 15, .q 16, .q 17, .q 18, .q 19, .q 20, .q 21, .q 22, .q 23, .q 24, .l 25, .q 26, .l 27] (by kernel_rfl) ?_; conv => whnf) | (refine Ok.region_draw tok follows (by kernel_rfl) ?_; conv => whnf) | (refine Ok.cond ?_; conv => whnf) | refine Ok.block ?_ | (refine Ok.skip ?_; conv => whnf) | (refine Ok.exit ?_; conv => whnf) | (refine Ok.ret ?_; conv => whnf) | (refine num_in (by omega) (by omega) ?_; conv => whnf) | fail)
      refine ⟨fun h2 => ?_, fun h2 => ?_⟩
      · have h2' : 0 < i := by omega
        repeat' (first | refine Ok.seq ?_ | (refine Ok.region tok ?_; conv => whnf) | (refine Ok.region_plan (id := 1) tok follows [(5, 6, []), (4, 7, []), (5, 7, [6]), (6, 7, []), (4, 10, []), (5, 10, []), (6, 10, []), (7, 10, [])] [.q 0, .q 1, .q 2, .q 3, .q 4, .q 5, .l 6, .l 7, .q 8, .q 9, .l 10] (by kernel_rfl) ?_; conv => whnf) | (refine Ok.region_plan (id := 6) tok follows [(3, 25, []), (8, 25, []), (13, 25, []), (16, 25, []), (20, 25, []), (23, 25, []), (3, 27, []), (8, 27, []), (13, 27, []), (16, 27, []), (20, 27, []), (23, 27, []), (25, 27, [])] [.q 0, .q 1, .q 2, .q 3, .q 4, .q 5, .q 6, .q 7, .q 8, .q 9, .q 10, .q 11, .q 12, .q 13, .q 14, .q 15, .q 16, .q 17, .q 18, .q 19, .q 20, .q 21, .q 22, .q 23, .q 24, .l 25, .q 26, .l 27] (by kernel_rfl) ?_; conv => whnf) | (refine Ok.region_draw tok follows (by kernel_rfl) ?_; conv => whnf) | (refine Ok.cond ?_; conv => whnf) | refine Ok.block ?_ | (refine Ok.skip ?_; conv => whnf) | (refine Ok.exit ?_; conv => whnf) | (refine Ok.ret ?_; conv => whnf) | (refine num_in (by omega) (by omega) ?_; conv => whnf) | fail)
        refine ⟨by decide, ?_⟩
        obtain ⟨u, hu⟩ : ∃ u, u = (i - 1) / 2 := ⟨_, rfl⟩
        rw [half i h2', ← hu]
        refine num_in (by omega) (by omega) ?_
        (conv => whnf)
        obtain ⟨a, ha⟩ : ∃ a, us[i]? = some a := ⟨_, List.getElem?_eq_getElem hi⟩
        obtain ⟨b, hb⟩ : ∃ b, us[u]? = some b := ⟨_, List.getElem?_eq_getElem (by omega)⟩
        repeat' (first | refine Ok.seq ?_ | (refine Ok.region tok ?_; conv => whnf) | (refine Ok.region_plan (id := 1) tok follows [(5, 6, []), (4, 7, []), (5, 7, [6]), (6, 7, []), (4, 10, []), (5, 10, []), (6, 10, []), (7, 10, [])] [.q 0, .q 1, .q 2, .q 3, .q 4, .q 5, .l 6, .l 7, .q 8, .q 9, .l 10] (by kernel_rfl) ?_; conv => whnf) | (refine Ok.region_plan (id := 6) tok follows [(3, 25, []), (8, 25, []), (13, 25, []), (16, 25, []), (20, 25, []), (23, 25, []), (3, 27, []), (8, 27, []), (13, 27, []), (16, 27, []), (20, 27, []), (23, 27, []), (25, 27, [])] [.q 0, .q 1, .q 2, .q 3, .q 4, .q 5, .q 6, .q 7, .q 8, .q 9, .q 10, .q 11, .q 12, .q 13, .q 14, .q 15, .q 16, .q 17, .q 18, .q 19, .q 20, .q 21, .q 22, .q 23, .q 24, .l 25, .q 26, .l 27] (by kernel_rfl) ?_; conv => whnf) | (refine Ok.region_draw tok follows (by kernel_rfl) ?_; conv => whnf) | (refine Ok.cond ?_; conv => whnf) | refine Ok.block ?_ | (refine Ok.skip ?_; conv => whnf) | (refine Ok.exit ?_; conv => whnf) | (refine Ok.ret ?_; conv => whnf) | (refine num_in (by omega) (by omega) ?_; conv => whnf) | fail)
        refine ⟨by omega, by omega, by simp, ?_⟩
        repeat' (first | refine Ok.seq ?_ | (refine Ok.region tok ?_; conv => whnf) | (refine Ok.region_plan (id := 1) tok follows [(5, 6, []), (4, 7, []), (5, 7, [6]), (6, 7, []), (4, 10, []), (5, 10, []), (6, 10, []), (7, 10, [])] [.q 0, .q 1, .q 2, .q 3, .q 4, .q 5, .l 6, .l 7, .q 8, .q 9, .l 10] (by kernel_rfl) ?_; conv => whnf) | (refine Ok.region_plan (id := 6) tok follows [(3, 25, []), (8, 25, []), (13, 25, []), (16, 25, []), (20, 25, []), (23, 25, []), (3, 27, []), (8, 27, []), (13, 27, []), (16, 27, []), (20, 27, []), (23, 27, []), (25, 27, [])] [.q 0, .q 1, .q 2, .q 3, .q 4, .q 5, .q 6, .q 7, .q 8, .q 9, .q 10, .q 11, .q 12, .q 13, .q 14, .q 15, .q 16, .q 17, .q 18, .q 19, .q 20, .q 21, .q 22, .q 23, .q 24, .l 25, .q 26, .l 27] (by kernel_rfl) ?_; conv => whnf) | (refine Ok.region_draw tok follows (by kernel_rfl) ?_; conv => whnf) | (refine Ok.cond ?_; conv => whnf) | refine Ok.block ?_ | (refine Ok.skip ?_; conv => whnf) | (refine Ok.exit ?_; conv => whnf) | (refine Ok.ret ?_; conv => whnf) | (refine num_in (by omega) (by omega) ?_; conv => whnf) | fail)
        refine ⟨rfl, _, map_at ha, ?_⟩
        (conv => whnf)
        refine ⟨by omega, by omega, by simp, ?_⟩
        (conv => whnf)
        refine ⟨rfl, _, map_at hb, ?_⟩
        (conv => whnf)
        refine ⟨_, first_spec a b, rfl, ?_⟩
        (conv => whnf)
        repeat' (first | refine Ok.seq ?_ | (refine Ok.region tok ?_; conv => whnf) | (refine Ok.region_plan (id := 1) tok follows [(5, 6, []), (4, 7, []), (5, 7, [6]), (6, 7, []), (4, 10, []), (5, 10, []), (6, 10, []), (7, 10, [])] [.q 0, .q 1, .q 2, .q 3, .q 4, .q 5, .l 6, .l 7, .q 8, .q 9, .l 10] (by kernel_rfl) ?_; conv => whnf) | (refine Ok.region_plan (id := 6) tok follows [(3, 25, []), (8, 25, []), (13, 25, []), (16, 25, []), (20, 25, []), (23, 25, []), (3, 27, []), (8, 27, []), (13, 27, []), (16, 27, []), (20, 27, []), (23, 27, []), (25, 27, [])] [.q 0, .q 1, .q 2, .q 3, .q 4, .q 5, .q 6, .q 7, .q 8, .q 9, .q 10, .q 11, .q 12, .q 13, .q 14, .q 15, .q 16, .q 17, .q 18, .q 19, .q 20, .q 21, .q 22, .q 23, .q 24, .l 25, .q 26, .l 27] (by kernel_rfl) ?_; conv => whnf) | (refine Ok.region_draw tok follows (by kernel_rfl) ?_; conv => whnf) | (refine Ok.cond ?_; conv => whnf) | refine Ok.block ?_ | (refine Ok.skip ?_; conv => whnf) | (refine Ok.exit ?_; conv => whnf) | (refine Ok.ret ?_; conv => whnf) | (refine num_in (by omega) (by omega) ?_; conv => whnf) | fail)
        refine ⟨fun h3 => ?_, fun h3 => ?_⟩
        · repeat' (first | refine Ok.seq ?_ | (refine Ok.region tok ?_; conv => whnf) | (refine Ok.region_plan (id := 1) tok follows [(5, 6, []), (4, 7, []), (5, 7, [6]), (6, 7, []), (4, 10, []), (5, 10, []), (6, 10, []), (7, 10, [])] [.q 0, .q 1, .q 2, .q 3, .q 4, .q 5, .l 6, .l 7, .q 8, .q 9, .l 10] (by kernel_rfl) ?_; conv => whnf) | (refine Ok.region_plan (id := 6) tok follows [(3, 25, []), (8, 25, []), (13, 25, []), (16, 25, []), (20, 25, []), (23, 25, []), (3, 27, []), (8, 27, []), (13, 27, []), (16, 27, []), (20, 27, []), (23, 27, []), (25, 27, [])] [.q 0, .q 1, .q 2, .q 3, .q 4, .q 5, .q 6, .q 7, .q 8, .q 9, .q 10, .q 11, .q 12, .q 13, .q 14, .q 15, .q 16, .q 17, .q 18, .q 19, .q 20, .q 21, .q 22, .q 23, .q 24, .l 25, .q 26, .l 27] (by kernel_rfl) ?_; conv => whnf) | (refine Ok.region_draw tok follows (by kernel_rfl) ?_; conv => whnf) | (refine Ok.cond ?_; conv => whnf) | refine Ok.block ?_ | (refine Ok.skip ?_; conv => whnf) | (refine Ok.exit ?_; conv => whnf) | (refine Ok.ret ?_; conv => whnf) | (refine num_in (by omega) (by omega) ?_; conv => whnf) | fail)
          refine ⟨us, ⟨.inr rfl, hup, Hp.heapX_stop hux ha (by rw [← hu]; exact hb) h3⟩, ?_⟩
          (conv => whnf)
        · have h3 : firstP a b := Classical.not_not.1 h3
          have hne : i ≠ u := by omega
          have hb' : (us.set i b)[u]? = some b := by rw [List.getElem?_set_ne hne]; exact hb
          repeat' (first | refine Ok.seq ?_ | (refine Ok.region tok ?_; conv => whnf) | (refine Ok.region_plan (id := 1) tok follows [(5, 6, []), (4, 7, []), (5, 7, [6]), (6, 7, []), (4, 10, []), (5, 10, []), (6, 10, []), (7, 10, [])] [.q 0, .q 1, .q 2, .q 3, .q 4, .q 5, .l 6, .l 7, .q 8, .q 9, .l 10] (by kernel_rfl) ?_; conv => whnf) | (refine Ok.region_plan (id := 6) tok follows [(3, 25, []), (8, 25, []), (13, 25, []), (16, 25, []), (20, 25, []), (23, 25, []), (3, 27, []), (8, 27, []), (13, 27, []), (16, 27, []), (20, 27, []), (23, 27, []), (25, 27, [])] [.q 0, .q 1, .q 2, .q 3, .q 4, .q 5, .q 6, .q 7, .q 8, .q 9, .q 10, .q 11, .q 12, .q 13, .q 14, .q 15, .q 16, .q 17, .q 18, .q 19, .q 20, .q 21, .q 22, .q 23, .q 24, .l 25, .q 26, .l 27] (by kernel_rfl) ?_; conv => whnf) | (refine Ok.region_draw tok follows (by kernel_rfl) ?_; conv => whnf) | (refine Ok.cond ?_; conv => whnf) | refine Ok.block ?_ | (refine Ok.skip ?_; conv => whnf) | (refine Ok.exit ?_; conv => whnf) | (refine Ok.ret ?_; conv => whnf) | (refine num_in (by omega) (by omega) ?_; conv => whnf) | fail)
          refine ⟨by omega, by omega, by simp, ?_⟩
          (conv => whnf)
          refine ⟨rfl, _, map_at hb, ?_⟩
          (conv => whnf)
          refine ⟨by omega, by omega, by simp, ?_⟩
          (conv => whnf)
          refine ⟨rfl, _, map_at ha, ?_⟩
          (conv => whnf)
          refine ⟨by omega, by omega, by simp, ?_⟩
          (conv => whnf)
          refine ⟨_, map_at ha, by simp [Num.row], (us.set i b).map Num.row, by simp [setCells, Num.row, List.map_set], ?_⟩
          (conv => whnf)
          refine ⟨by omega, by omega, by simp, ?_⟩
          (conv => whnf)
          refine ⟨_, map_at hb', by simp [Num.row], (Hp.swp us i (u) a b).map Num.row, by simp [setCells, Num.row, List.map_set, Hp.swp], ?_⟩
          (conv => whnf)
          repeat' (first | refine Ok.seq ?_ | (refine Ok.region tok ?_; conv => whnf) | (refine Ok.region_plan (id := 1) tok follows [(5, 6, []), (4, 7, []), (5, 7, [6]), (6, 7, []), (4, 10, []), (5, 10, []), (6, 10, []), (7, 10, [])] [.q 0, .q 1, .q 2, .q 3, .q 4, .q 5, .l 6, .l 7, .q 8, .q 9, .l 10] (by kernel_rfl) ?_; conv => whnf) | (refine Ok.region_plan (id := 6) tok follows [(3, 25, []), (8, 25, []), (13, 25, []), (16, 25, []), (20, 25, []), (23, 25, []), (3, 27, []), (8, 27, []), (13, 27, []), (16, 27, []), (20, 27, []), (23, 27, []), (25, 27, [])] [.q 0, .q 1, .q 2, .q 3, .q 4, .q 5, .q 6, .q 7, .q 8, .q 9, .q 10, .q 11, .q 12, .q 13, .q 14, .q 15, .q 16, .q 17, .q 18, .q 19, .q 20, .q 21, .q 22, .q 23, .q 24, .l 25, .q 26, .l 27] (by kernel_rfl) ?_; conv => whnf) | (refine Ok.region_draw tok follows (by kernel_rfl) ?_; conv => whnf) | (refine Ok.cond ?_; conv => whnf) | refine Ok.block ?_ | (refine Ok.skip ?_; conv => whnf) | (refine Ok.exit ?_; conv => whnf) | (refine Ok.ret ?_; conv => whnf) | (refine num_in (by omega) (by omega) ?_; conv => whnf) | fail)
          refine ⟨(u, Hp.swp us i (u) a b), by dsimp only; omega, ⟨by rw [Hp.swp_length]; dsimp only; omega, by rw [Hp.swp_length]; exact hul, (Hp.swp_perm ha hb hne).trans hup, by rw [hu] at hb ⊢; exact Hp.heapX_up first_swo hux h2' ha hb h3⟩, ?_⟩
          (conv => whnf)
          simp [Hp.swp_length]
      · repeat' (first | refine Ok.seq ?_ | (refine Ok.region tok ?_; conv => whnf) | (refine Ok.region_plan (id := 1) tok follows [(5, 6, []), (4, 7, []), (5, 7, [6]), (6, 7, []), (4, 10, []), (5, 10, []), (6, 10, []), (7, 10, [])] [.q 0, .q 1, .q 2, .q 3, .q 4, .q 5, .l 6, .l 7, .q 8, .q 9, .l 10] (by kernel_rfl) ?_; conv => whnf) | (refine Ok.region_plan (id := 6) tok follows [(3, 25, []), (8, 25, []), (13, 25, []), (16, 25, []), (20, 25, []), (23, 25, []), (3, 27, []), (8, 27, []), (13, 27, []), (16, 27, []), (20, 27, []), (23, 27, []), (25, 27, [])] [.q 0, .q 1, .q 2, .q 3, .q 4, .q 5, .q 6, .q 7, .q 8, .q 9, .q 10, .q 11, .q 12, .q 13, .q 14, .q 15, .q 16, .q 17, .q 18, .q 19, .q 20, .q 21, .q 22, .q 23, .q 24, .l 25, .q 26, .l 27] (by kernel_rfl) ?_; conv => whnf) | (refine Ok.region_draw tok follows (by kernel_rfl) ?_; conv => whnf) | (refine Ok.cond ?_; conv => whnf) | refine Ok.block ?_ | (refine Ok.skip ?_; conv => whnf) | (refine Ok.exit ?_; conv => whnf) | (refine Ok.ret ?_; conv => whnf) | (refine num_in (by omega) (by omega) ?_; conv => whnf) | fail)
        have hi0 : i = 0 := by omega
        subst hi0
        refine ⟨us, ⟨.inl rfl, hup, Hp.heapX_zero hux⟩, ?_⟩
        (conv => whnf)
    · rintro e zs ⟨he, hp2, hh2⟩
      have hzl : zs.length = ys.length + 1 := by rw [hp2.length_eq]; simp
      rcases he with rfl | rfl
      all_goals
        (conv => whnf)
        repeat' (first | refine Ok.seq ?_ | (refine Ok.region tok ?_; conv => whnf) | (refine Ok.region_draw tok follows (by kernel_rfl) ?_; conv => whnf) | (refine Ok.cond ?_; conv => whnf) | refine Ok.block ?_ | (refine Ok.skip ?_; conv => whnf) | (refine Ok.exit ?_; conv => whnf) | (refine Ok.ret ?_; conv => whnf) | (refine num_in (by omega) (by omega) ?_; conv => whnf) | fail)
        refine ⟨(k + 1, zs), by dsimp only; omega, ⟨by dsimp only; omega, ?_, hh2⟩, ?_⟩
        · dsimp only at hp ⊢
          rw [numb_take _ _ h1']
          exact hp2.trans (hp.append_right _)
        · (conv => whnf)
          simp
  · have hkk : k = routes.length := by simp at h1; dsimp only at hk; omega
    subst hkk
    repeat' (first | refine Ok.seq ?_ | (refine Ok.region tok ?_; conv => whnf) | (refine Ok.region_draw tok follows (by kernel_rfl) ?_; conv => whnf) | (refine Ok.cond ?_; conv => whnf) | refine Ok.block ?_ | (refine Ok.skip ?_; conv => whnf) | (refine Ok.exit ?_; conv => whnf) | (refine Ok.ret ?_; conv => whnf) | (refine num_in (by omega) (by omega) ?_; conv => whnf) | fail)
    refine Ok.ghost 6 73 rfl ?_
    (conv => whnf)
    have hn0 : (numb routes).length = routes.length := by simp [numb]
    dsimp only at hp hh
    rw [List.take_of_length_le (by omega)] at hp
    refine Ok.loopK [3, 6, 25, 26] 2 1 (fun x : List Num × List Num => ⟨[(3, .bp 0 0), (6, .own 1 (x.2.foldl ddF []).length), (25, .i .i64 (routes.map Route.row).length), (26, .i .i64 (x.2.length : Nat))],
      [[.own 0 x.1.length, .fn 52 [.agg []] []]], [some (73, x.1.map Num.row), some (73, (x.2.foldl ddF []).map Num.row)], 65⟩) (fun x => (x.2 ++ x.1).Perm (numb routes) ∧ x.2.Pairwise (fun a b => ¬ firstP b a) ∧ (∀ a ∈ x.2, ∀ b ∈ x.1, ¬ firstP b a) ∧ Hp.Heap firstP x.1)
      (fun x => x.1.length) (ys, []) ⟨by simpa using hp, by simp, by simp, hh⟩ ?_ ?_
    · (conv => whnf); all_goals (first | rfl | simp)
    rintro ⟨us, ps⟩ ⟨hq, hs, hm, hu⟩
    dsimp only at hq hs hm hu ⊢
    have hql : ps.length + us.length = routes.length := by have := hq.length_eq; simp [numb] at this; omega
    repeat' (first | refine Ok.seq ?_ | (refine Ok.region tok ?_; conv => whnf) | (refine Ok.region_draw tok follows (by kernel_rfl) ?_; conv => whnf) | (refine Ok.cond ?_; conv => whnf) | refine Ok.block ?_ | (refine Ok.skip ?_; conv => whnf) | (refine Ok.exit ?_; conv => whnf) | (refine Ok.ret ?_; conv => whnf) | (refine num_in (by omega) (by omega) ?_; conv => whnf) | fail)
    refine ⟨fun h2 => ?_, fun h2 => ?_⟩
    · have hul : 0 < us.length := by simp at h2; omega
      repeat' (first | refine Ok.seq ?_ | (refine Ok.region tok ?_; conv => whnf) | (refine Ok.region_draw tok follows (by kernel_rfl) ?_; conv => whnf) | (refine Ok.cond ?_; conv => whnf) | refine Ok.block ?_ | (refine Ok.skip ?_; conv => whnf) | (refine Ok.exit ?_; conv => whnf) | (refine Ok.ret ?_; conv => whnf) | (refine num_in (by omega) (by omega) ?_; conv => whnf) | fail)
      right
      right
      left
      (conv => whnf)
      refine ⟨_, _, Try.func54, rfl, Try.call54, ?_⟩
      (conv => whnf)
      refine Ok.joinK [2, 111, 114, 133, 134] 2 2 (fun x : Num × List Num => ⟨[(2, .bp 1 0), (111, .bp 0 0), (114, .own 1 (ps.foldl ddF []).length), (133, .i .i64 (routes.map Route.row).length), (134, .i .i64 (ps.length : Nat))],
        [[.own 0 x.2.length, .fn 52 [.agg []] []], x.1.row], [some (73, x.2.map Num.row), some (73, (ps.foldl ddF []).map Num.row)], 108⟩) (fun e x => e = .ret ∧ (x.1 :: x.2).Perm us ∧ (∀ b ∈ us, ¬ firstP b x.1) ∧ Hp.Heap firstP x.2) ?_ ?_
      · obtain ⟨a, ha⟩ : ∃ a, us[0]? = some a := ⟨_, List.getElem?_eq_getElem hul⟩
        obtain ⟨b, hb⟩ : ∃ b, us[us.length - 1]? = some b := ⟨_, List.getElem?_eq_getElem (by omega)⟩
        repeat' (first | refine Ok.seq ?_ | (refine Ok.region tok ?_; conv => whnf) | (refine Ok.region_plan (id := 1) tok follows [(3, 13, []), (5, 13, []), (12, 13, [])] [.q 0, .q 1, .q 2, .q 3, .q 4, .q 5, .q 6, .q 7, .q 8, .q 9, .q 10, .q 11, .l 12, .l 13, .q 14] (by kernel_rfl) ?_; conv => whnf) | (refine Ok.region_plan (id := 2) tok follows [(3, 12, []), (7, 12, []), (10, 12, [])] [.q 0, .q 1, .q 2, .q 3, .q 4, .q 5, .q 6, .q 7, .q 8, .q 9, .q 10, .q 11, .l 12] (by kernel_rfl) ?_; conv => whnf) | (refine Ok.region_plan (id := 13) tok follows [(3, 25, []), (8, 25, []), (13, 25, []), (16, 25, []), (20, 25, []), (23, 25, []), (3, 27, []), (8, 27, []), (13, 27, []), (16, 27, []), (20, 27, []), (23, 27, []), (25, 27, [])] [.q 0, .q 1, .q 2, .q 3, .q 4, .q 5, .q 6, .q 7, .q 8, .q 9, .q 10, .q 11, .q 12, .q 13, .q 14, .q 15, .q 16, .q 17, .q 18, .q 19, .q 20, .q 21, .q 22, .q 23, .q 24, .l 25, .q 26, .l 27] (by kernel_rfl) ?_; conv => whnf) | (refine Ok.region_draw tok follows (by kernel_rfl) ?_; conv => whnf) | (refine Ok.cond ?_; conv => whnf) | refine Ok.block ?_ | (refine Ok.skip ?_; conv => whnf) | (refine Ok.exit ?_; conv => whnf) | (refine Ok.ret ?_; conv => whnf) | (refine num_in (by omega) (by omega) ?_; conv => whnf) | fail)
        refine ⟨by omega, by omega, by simp, ?_⟩
        (conv => whnf)
        refine ⟨rfl, _, map_at ha, ?_⟩
        (conv => whnf)
        repeat' (first | refine Ok.seq ?_ | (refine Ok.region tok ?_; conv => whnf) | (refine Ok.region_plan (id := 1) tok follows [(3, 13, []), (5, 13, []), (12, 13, [])] [.q 0, .q 1, .q 2, .q 3, .q 4, .q 5, .q 6, .q 7, .q 8, .q 9, .q 10, .q 11, .l 12, .l 13, .q 14] (by kernel_rfl) ?_; conv => whnf) | (refine Ok.region_plan (id := 2) tok follows [(3, 12, []), (7, 12, []), (10, 12, [])] [.q 0, .q 1, .q 2, .q 3, .q 4, .q 5, .q 6, .q 7, .q 8, .q 9, .q 10, .q 11, .l 12] (by kernel_rfl) ?_; conv => whnf) | (refine Ok.region_plan (id := 13) tok follows [(3, 25, []), (8, 25, []), (13, 25, []), (16, 25, []), (20, 25, []), (23, 25, []), (3, 27, []), (8, 27, []), (13, 27, []), (16, 27, []), (20, 27, []), (23, 27, []), (25, 27, [])] [.q 0, .q 1, .q 2, .q 3, .q 4, .q 5, .q 6, .q 7, .q 8, .q 9, .q 10, .q 11, .q 12, .q 13, .q 14, .q 15, .q 16, .q 17, .q 18, .q 19, .q 20, .q 21, .q 22, .q 23, .q 24, .l 25, .q 26, .l 27] (by kernel_rfl) ?_; conv => whnf) | (refine Ok.region_draw tok follows (by kernel_rfl) ?_; conv => whnf) | (refine Ok.cond ?_; conv => whnf) | refine Ok.block ?_ | (refine Ok.skip ?_; conv => whnf) | (refine Ok.exit ?_; conv => whnf) | (refine Ok.ret ?_; conv => whnf) | (refine num_in (by omega) (by omega) ?_; conv => whnf) | fail)
        refine ⟨by omega, by omega, by simp, ?_⟩
        (conv => whnf)
        have e1 : ((us.length : Int) - 1).toNat = us.length - 1 := by omega
        refine ⟨rfl, _, map_at (by rw [e1]; exact hb), ?_⟩
        (conv => whnf)
        refine ⟨by omega, by omega, by simp, ?_⟩
        (conv => whnf)
        refine ⟨_, map_at ha, by simp [Num.row], (us.set 0 b).map Num.row, by simp [setCells, Num.row, List.map_set], ?_⟩
        (conv => whnf)
        repeat' (first | refine Ok.seq ?_ | (refine Ok.region tok ?_; conv => whnf) | (refine Ok.region_plan (id := 1) tok follows [(3, 13, []), (5, 13, []), (12, 13, [])] [.q 0, .q 1, .q 2, .q 3, .q 4, .q 5, .q 6, .q 7, .q 8, .q 9, .q 10, .q 11, .l 12, .l 13, .q 14] (by kernel_rfl) ?_; conv => whnf) | (refine Ok.region_plan (id := 2) tok follows [(3, 12, []), (7, 12, []), (10, 12, [])] [.q 0, .q 1, .q 2, .q 3, .q 4, .q 5, .q 6, .q 7, .q 8, .q 9, .q 10, .q 11, .l 12] (by kernel_rfl) ?_; conv => whnf) | (refine Ok.region_plan (id := 13) tok follows [(3, 25, []), (8, 25, []), (13, 25, []), (16, 25, []), (20, 25, []), (23, 25, []), (3, 27, []), (8, 27, []), (13, 27, []), (16, 27, []), (20, 27, []), (23, 27, []), (25, 27, [])] [.q 0, .q 1, .q 2, .q 3, .q 4, .q 5, .q 6, .q 7, .q 8, .q 9, .q 10, .q 11, .q 12, .q 13, .q 14, .q 15, .q 16, .q 17, .q 18, .q 19, .q 20, .q 21, .q 22, .q 23, .q 24, .l 25, .q 26, .l 27] (by kernel_rfl) ?_; conv => whnf) | (refine Ok.region_draw tok follows (by kernel_rfl) ?_; conv => whnf) | (refine Ok.cond ?_; conv => whnf) | refine Ok.block ?_ | (refine Ok.skip ?_; conv => whnf) | (refine Ok.exit ?_; conv => whnf) | (refine Ok.ret ?_; conv => whnf) | (refine num_in (by omega) (by omega) ?_; conv => whnf) | fail)
        refine ⟨us.length - 1, rfl, by show ((us.length : Int) - 1) = _; omega, by simp, ?_⟩
        (conv => whnf)
        repeat' (first | refine Ok.seq ?_ | (refine Ok.region tok ?_; conv => whnf) | (refine Ok.region_plan (id := 1) tok follows [(3, 13, []), (5, 13, []), (12, 13, [])] [.q 0, .q 1, .q 2, .q 3, .q 4, .q 5, .q 6, .q 7, .q 8, .q 9, .q 10, .q 11, .l 12, .l 13, .q 14] (by kernel_rfl) ?_; conv => whnf) | (refine Ok.region_plan (id := 2) tok follows [(3, 12, []), (7, 12, []), (10, 12, [])] [.q 0, .q 1, .q 2, .q 3, .q 4, .q 5, .q 6, .q 7, .q 8, .q 9, .q 10, .q 11, .l 12] (by kernel_rfl) ?_; conv => whnf) | (refine Ok.region_plan (id := 13) tok follows [(3, 25, []), (8, 25, []), (13, 25, []), (16, 25, []), (20, 25, []), (23, 25, []), (3, 27, []), (8, 27, []), (13, 27, []), (16, 27, []), (20, 27, []), (23, 27, []), (25, 27, [])] [.q 0, .q 1, .q 2, .q 3, .q 4, .q 5, .q 6, .q 7, .q 8, .q 9, .q 10, .q 11, .q 12, .q 13, .q 14, .q 15, .q 16, .q 17, .q 18, .q 19, .q 20, .q 21, .q 22, .q 23, .q 24, .l 25, .q 26, .l 27] (by kernel_rfl) ?_; conv => whnf) | (refine Ok.region_draw tok follows (by kernel_rfl) ?_; conv => whnf) | (refine Ok.cond ?_; conv => whnf) | refine Ok.block ?_ | (refine Ok.skip ?_; conv => whnf) | (refine Ok.exit ?_; conv => whnf) | (refine Ok.ret ?_; conv => whnf) | (refine num_in (by omega) (by omega) ?_; conv => whnf) | fail)
        obtain ⟨vs, hvs⟩ : ∃ vs, vs = (us.set 0 b).take (us.length - 1) := ⟨_, rfl⟩
        have hvl : vs.length = us.length - 1 := by rw [hvs]; simp
        have hvp : (a :: vs).Perm us := by rw [hvs]; exact Hp.top_perm ha hb
        have hvd : Hp.HeapD firstP vs 0 := by rw [hvs]; exact Hp.heapD_top hu b
        have hmin : ∀ c ∈ us, ¬ firstP c a := fun c hc => let ⟨j, hj⟩ := List.getElem?_of_mem hc; Hp.heap_min first_swo hu ha j c hj
        refine Ok.trunc 0 0 0 rfl rfl rfl (vs.map Num.row) (by rw [hvs]; simp [List.map_take]) ?_
        (conv => whnf)
        refine Ok.loopK [0, 2, 3, 4, 5, 111, 114, 133, 134] 2 3 (fun x : Nat × List Num => ⟨[(0, .bp 0 0), (2, .bp 1 0), (3, .bp 2 0), (4, .i .i64 ((us.length : Int) - 1)), (5, .i .i64 (x.1 : Nat)), (111, .bp 0 0), (114, .own 1 (ps.foldl ddF []).length), (133, .i .i64 (routes.map Route.row).length), (134, .i .i64 (ps.length : Nat))],
          [[.own 0 (us.length - 1), .fn 52 [.agg []] []], z5, a.row], [some (73, x.2.map Num.row), some (73, (ps.foldl ddF []).map Num.row)], 108⟩) (fun x => x.2.Perm vs ∧ Hp.HeapD firstP x.2 x.1 ∧ (x.1 < x.2.length ∨ x.1 = 0)) (fun x => vs.length - x.1) (0, vs) ⟨.refl _, hvd, .inr rfl⟩ ?_ ?_
        · (conv => whnf); all_goals (first | rfl | simp)
        rintro ⟨i, xs⟩ ⟨hxp, hxd, hxi⟩
        dsimp only at hxp hxd hxi ⊢
        have hxl : xs.length = us.length - 1 := by rw [hxp.length_eq, hvl]
        have hps : routes.length ≤ 270 := hlen
        refine Ok.block ?_
        refine Ok.seq ?_
        refine Ok.region tok ?_
        (conv => whnf)
        refine Ok.seqK [0, 2, 3, 4, 5, 6, 111, 114, 133, 134] 2 3 (fun x : Nat => ⟨[(0, .bp 0 0), (2, .bp 1 0), (3, .bp 2 0), (4, .i .i64 ((us.length : Int) - 1)), (5, .i .i64 (i : Nat)), (6, .i .i64 (x : Nat)), (111, .bp 0 0), (114, .own 1 (ps.foldl ddF []).length), (133, .i .i64 (routes.map Route.row).length), (134, .i .i64 (ps.length : Nat))],
          [[.own 0 (us.length - 1), .fn 52 [.agg []] []], z5, a.row], [some (73, xs.map Num.row), some (73, (ps.foldl ddF []).map Num.row)], 108⟩)
          (fun x => (x = i ∨ 2 * i + 1 ≤ x ∧ x ≤ 2 * i + 2 ∧ x < xs.length ∧ ∀ c d, xs[i]? = some c → xs[x]? = some d → firstP d c) ∧ ∀ j c d, 2 * i + 1 ≤ j → j ≤ 2 * i + 2 → xs[j]? = some c → xs[x]? = some d → ¬ firstP c d) ?_ ?_
        · repeat' (first | refine Ok.seq ?_ | (refine Ok.region tok ?_; conv => whnf) | (refine Ok.region_plan (id := 1) tok follows [(3, 13, []), (5, 13, []), (12, 13, [])] [.q 0, .q 1, .q 2, .q 3, .q 4, .q 5, .q 6, .q 7, .q 8, .q 9, .q 10, .q 11, .l 12, .l 13, .q 14] (by kernel_rfl) ?_; conv => whnf) | (refine Ok.region_plan (id := 2) tok follows [(3, 12, []), (7, 12, []), (10, 12, [])] [.q 0, .q 1, .q 2, .q 3, .q 4, .q 5, .q 6, .q 7, .q 8, .q 9, .q 10, .q 11, .l 12] (by kernel_rfl) ?_; conv => whnf) | (refine Ok.region_plan (id := 13) tok follows [(3, 25, []), (8, 25, []), (13, 25, []), (16, 25, []), (20, 25, []), (23, 25, []), (3, 27, []), (8, 27, []), (13, 27, []), (16, 27, []), (20, 27, []), (23, 27, []), (25, 27, [])] [.q 0, .q 1, .q 2, .q 3, .q 4, .q 5, .q 6, .q 7, .q 8, .q 9, .q 10, .q 11, .q 12, .q 13, .q 14, .q 15, .q 16, .q 17, .q 18, .q 19, .q 20, .q 21, .q 22, .q 23, .q 24, .l 25, .q 26, .l 27] (by kernel_rfl) ?_; conv => whnf) | (refine Ok.region_draw tok follows (by kernel_rfl) ?_; conv => whnf) | (refine Ok.cond ?_; conv => whnf) | refine Ok.block ?_ | (refine Ok.skip ?_; conv => whnf) | (refine Ok.exit ?_; conv => whnf) | (refine Ok.ret ?_; conv => whnf) | (refine num_in (by omega) (by omega) ?_; conv => whnf) | fail)
          refine Ok.loopK [0, 2, 3, 4, 5, 6, 7, 111, 114, 133, 134] 2 3 (fun x : Nat × Nat => ⟨[(0, .bp 0 0), (2, .bp 1 0), (3, .bp 2 0), (4, .i .i64 ((us.length : Int) - 1)), (5, .i .i64 (i : Nat)), (6, .i .i64 (x.1 : Nat)), (7, .i .i64 (x.2 : Nat)), (111, .bp 0 0), (114, .own 1 (ps.foldl ddF []).length), (133, .i .i64 (routes.map Route.row).length), (134, .i .i64 (ps.length : Nat))],
            [[.own 0 (us.length - 1), .fn 52 [.agg []] []], z5, a.row], [some (73, xs.map Num.row), some (73, (ps.foldl ddF []).map Num.row)], 108⟩)
            (fun x => 2 * i + 1 ≤ x.2 ∧ x.2 ≤ 2 * i + 3 ∧ (x.1 = i ∨ 2 * i + 1 ≤ x.1 ∧ x.1 < x.2 ∧ x.1 < xs.length ∧ ∀ c d, xs[i]? = some c → xs[x.1]? = some d → firstP d c) ∧ ∀ j c d, 2 * i + 1 ≤ j → j < x.2 → xs[j]? = some c → xs[x.1]? = some d → ¬ firstP c d)
            (fun x => 2 * i + 3 - x.2) (i, 2 * i + 1) ⟨by dsimp only; omega, by dsimp only; omega, .inl rfl, fun j c d h1 h2 => absurd h2 (by dsimp only; omega)⟩ ?_ ?_
          · (conv => whnf); all_goals (first | rfl | simp)
          rintro ⟨x, y⟩ ⟨hy1, hy2, hx1, hx2⟩
          dsimp only at hy1 hy2 hx1 hx2 ⊢
          repeat' (first | refine Ok.seq ?_ | (refine Ok.region tok ?_; conv => whnf) | (refine Ok.region_plan (id := 1) tok follows [(3, 13, []), (5, 13, []), (12, 13, [])] [.q 0, .q 1, .q 2, .q 3, .q 4, .q 5, .q 6, .q 7, .q 8, .q 9, .q 10, .q 11, .l 12, .l 13, .q 14] (by kernel_rfl) ?_; conv => whnf) | (refine Ok.region_plan (id := 2) tok follows [(3, 12, []), (7, 12, []), (10, 12, [])] [.q 0, .q 1, .q 2, .q 3, .q 4, .q 5, .q 6, .q 7, .q 8, .q 9, .q 10, .q 11, .l 12] (by kernel_rfl) ?_; conv => whnf) | (refine Ok.region_plan (id := 13) tok follows [(3, 25, []), (8, 25, []), (13, 25, []), (16, 25, []), (20, 25, []), (23, 25, []), (3, 27, []), (8, 27, []), (13, 27, []), (16, 27, []), (20, 27, []), (23, 27, []), (25, 27, [])] [.q 0, .q 1, .q 2, .q 3, .q 4, .q 5, .q 6, .q 7, .q 8, .q 9, .q 10, .q 11, .q 12, .q 13, .q 14, .q 15, .q 16, .q 17, .q 18, .q 19, .q 20, .q 21, .q 22, .q 23, .q 24, .l 25, .q 26, .l 27] (by kernel_rfl) ?_; conv => whnf) | (refine Ok.region_draw tok follows (by kernel_rfl) ?_; conv => whnf) | (refine Ok.cond ?_; conv => whnf) | refine Ok.block ?_ | (refine Ok.skip ?_; conv => whnf) | (refine Ok.exit ?_; conv => whnf) | (refine Ok.ret ?_; conv => whnf) | (refine num_in (by omega) (by omega) ?_; conv => whnf) | fail)
          refine ⟨fun h3 => ?_, fun h3 => ?_⟩
          · repeat' (first | refine Ok.seq ?_ | (refine Ok.region tok ?_; conv => whnf) | (refine Ok.region_plan (id := 1) tok follows [(3, 13, []), (5, 13, []), (12, 13, [])] [.q 0, .q 1, .q 2, .q 3, .q 4, .q 5, .q 6, .q 7, .q 8, .q 9, .q 10, .q 11, .l 12, .l 13, .q 14] (by kernel_rfl) ?_; conv => whnf) | (refine Ok.region_plan (id := 2) tok follows [(3, 12, []), (7, 12, []), (10, 12, [])] [.q 0, .q 1, .q 2, .q 3, .q 4, .q 5, .q 6, .q 7, .q 8, .q 9, .q 10, .q 11, .l 12] (by kernel_rfl) ?_; conv => whnf) | (refine Ok.region_plan (id := 13) tok follows [(3, 25, []), (8, 25, []), (13, 25, []), (16, 25, []), (20, 25, []), (23, 25, []), (3, 27, []), (8, 27, []), (13, 27, []), (16, 27, []), (20, 27, []), (23, 27, []), (25, 27, [])] [.q 0, .q 1, .q 2, .q 3, .q 4, .q 5, .q 6, .q 7, .q 8, .q 9, .q 10, .q 11, .q 12, .q 13, .q 14, .q 15, .q 16, .q 17, .q 18, .q 19, .q 20, .q 21, .q 22, .q 23, .q 24, .l 25, .q 26, .l 27] (by kernel_rfl) ?_; conv => whnf) | (refine Ok.region_draw tok follows (by kernel_rfl) ?_; conv => whnf) | (refine Ok.cond ?_; conv => whnf) | refine Ok.block ?_ | (refine Ok.skip ?_; conv => whnf) | (refine Ok.exit ?_; conv => whnf) | (refine Ok.ret ?_; conv => whnf) | (refine num_in (by omega) (by omega) ?_; conv => whnf) | fail)
            refine ⟨fun h4 => ?_, fun h4 => ?_⟩
            · have hyl : y < xs.length := by omega
              have hxl2 : x < xs.length := by omega
              obtain ⟨c, hc⟩ : ∃ c, xs[y]? = some c := ⟨_, List.getElem?_eq_getElem hyl⟩
              obtain ⟨d, hd⟩ : ∃ d, xs[x]? = some d := ⟨_, List.getElem?_eq_getElem hxl2⟩
              repeat' (first | refine Ok.seq ?_ | (refine Ok.region tok ?_; conv => whnf) | (refine Ok.region_plan (id := 1) tok follows [(3, 13, []), (5, 13, []), (12, 13, [])] [.q 0, .q 1, .q 2, .q 3, .q 4, .q 5, .q 6, .q 7, .q 8, .q 9, .q 10, .q 11, .l 12, .l 13, .q 14] (by kernel_rfl) ?_; conv => whnf) | (refine Ok.region_plan (id := 2) tok follows [(3, 12, []), (7, 12, []), (10, 12, [])] [.q 0, .q 1, .q 2, .q 3, .q 4, .q 5, .q 6, .q 7, .q 8, .q 9, .q 10, .q 11, .l 12] (by kernel_rfl) ?_; conv => whnf) | (refine Ok.region_plan (id := 13) tok follows [(3, 25, []), (8, 25, []), (13, 25, []), (16, 25, []), (20, 25, []), (23, 25, []), (3, 27, []), (8, 27, []), (13, 27, []), (16, 27, []), (20, 27, []), (23, 27, []), (25, 27, [])] [.q 0, .q 1, .q 2, .q 3, .q 4, .q 5, .q 6, .q 7, .q 8, .q 9, .q 10, .q 11, .q 12, .q 13, .q 14, .q 15, .q 16, .q 17, .q 18, .q 19, .q 20, .q 21, .q 22, .q 23, .q 24, .l 25, .q 26, .l 27] (by kernel_rfl) ?_; conv => whnf) | (refine Ok.region_draw tok follows (by kernel_rfl) ?_; conv => whnf) | (refine Ok.cond ?_; conv => whnf) | refine Ok.block ?_ | (refine Ok.skip ?_; conv => whnf) | (refine Ok.exit ?_; conv => whnf) | (refine Ok.ret ?_; conv => whnf) | (refine num_in (by omega) (by omega) ?_; conv => whnf) | fail)
              refine ⟨by omega, by omega, by simp [hxl], ?_⟩
              (conv => whnf)
              refine ⟨rfl, _, map_at hc, ?_⟩
              (conv => whnf)
              refine ⟨by omega, by omega, by simp [hxl], ?_⟩
              (conv => whnf)
              refine ⟨rfl, _, map_at hd, ?_⟩
              (conv => whnf)
              refine ⟨_, first_spec c d, rfl, ?_⟩
              (conv => whnf)
              repeat' (first | refine Ok.seq ?_ | (refine Ok.region tok ?_; conv => whnf) | (refine Ok.region_plan (id := 1) tok follows [(3, 13, []), (5, 13, []), (12, 13, [])] [.q 0, .q 1, .q 2, .q 3, .q 4, .q 5, .q 6, .q 7, .q 8, .q 9, .q 10, .q 11, .l 12, .l 13, .q 14] (by kernel_rfl) ?_; conv => whnf) | (refine Ok.region_plan (id := 2) tok follows [(3, 12, []), (7, 12, []), (10, 12, [])] [.q 0, .q 1, .q 2, .q 3, .q 4, .q 5, .q 6, .q 7, .q 8, .q 9, .q 10, .q 11, .l 12] (by kernel_rfl) ?_; conv => whnf) | (refine Ok.region_plan (id := 13) tok follows [(3, 25, []), (8, 25, []), (13, 25, []), (16, 25, []), (20, 25, []), (23, 25, []), (3, 27, []), (8, 27, []), (13, 27, []), (16, 27, []), (20, 27, []), (23, 27, []), (25, 27, [])] [.q 0, .q 1, .q 2, .q 3, .q 4, .q 5, .q 6, .q 7, .q 8, .q 9, .q 10, .q 11, .q 12, .q 13, .q 14, .q 15, .q 16, .q 17, .q 18, .q 19, .q 20, .q 21, .q 22, .q 23, .q 24, .l 25, .q 26, .l 27] (by kernel_rfl) ?_; conv => whnf) | (refine Ok.region_draw tok follows (by kernel_rfl) ?_; conv => whnf) | (refine Ok.cond ?_; conv => whnf) | refine Ok.block ?_ | (refine Ok.skip ?_; conv => whnf) | (refine Ok.exit ?_; conv => whnf) | (refine Ok.ret ?_; conv => whnf) | (refine num_in (by omega) (by omega) ?_; conv => whnf) | fail)
              refine ⟨fun h5 => ?_, fun h5 => ?_⟩
              · repeat' (first | refine Ok.seq ?_ | (refine Ok.region tok ?_; conv => whnf) | (refine Ok.region_plan (id := 1) tok follows [(3, 13, []), (5, 13, []), (12, 13, [])] [.q 0, .q 1, .q 2, .q 3, .q 4, .q 5, .q 6, .q 7, .q 8, .q 9, .q 10, .q 11, .l 12, .l 13, .q 14] (by kernel_rfl) ?_; conv => whnf) | (refine Ok.region_plan (id := 2) tok follows [(3, 12, []), (7, 12, []), (10, 12, [])] [.q 0, .q 1, .q 2, .q 3, .q 4, .q 5, .q 6, .q 7, .q 8, .q 9, .q 10, .q 11, .l 12] (by kernel_rfl) ?_; conv => whnf) | (refine Ok.region_plan (id := 13) tok follows [(3, 25, []), (8, 25, []), (13, 25, []), (16, 25, []), (20, 25, []), (23, 25, []), (3, 27, []), (8, 27, []), (13, 27, []), (16, 27, []), (20, 27, []), (23, 27, []), (25, 27, [])] [.q 0, .q 1, .q 2, .q 3, .q 4, .q 5, .q 6, .q 7, .q 8, .q 9, .q 10, .q 11, .q 12, .q 13, .q 14, .q 15, .q 16, .q 17, .q 18, .q 19, .q 20, .q 21, .q 22, .q 23, .q 24, .l 25, .q 26, .l 27] (by kernel_rfl) ?_; conv => whnf) | (refine Ok.region_draw tok follows (by kernel_rfl) ?_; conv => whnf) | (refine Ok.cond ?_; conv => whnf) | refine Ok.block ?_ | (refine Ok.skip ?_; conv => whnf) | (refine Ok.exit ?_; conv => whnf) | (refine Ok.ret ?_; conv => whnf) | (refine num_in (by omega) (by omega) ?_; conv => whnf) | fail)
                refine ⟨(y, y + 1), by dsimp only; omega, ⟨by dsimp only; omega, by dsimp only; omega, .inr ⟨hy1, by dsimp only; omega, hyl, fun e f he hf => ?_⟩, fun j e f h6 h7 he hf => ?_⟩, ?_⟩
                · rw [hc] at hf
                  cases hf
                  rcases hx1 with rfl | ⟨_, _, _, hx3⟩
                  · rw [hd] at he; cases he; exact h5
                  · exact Classical.byContradiction fun hn => first_swo.trans _ _ _ (first_swo.asymm _ _ (hx3 e d he hd)) hn h5
                · rw [hc] at hf
                  cases hf
                  by_cases hj : j = y
                  · subst hj; rw [hc] at he; cases he; exact first_swo.irrefl _
                  · exact first_swo.trans _ _ _ (first_swo.asymm _ _ h5) (hx2 j e d h6 (by dsimp only at h7; omega) he hd)
                · (conv => whnf); all_goals (first | rfl | simp)
              · repeat' (first | refine Ok.seq ?_ | (refine Ok.region tok ?_; conv => whnf) | (refine Ok.region_plan (id := 1) tok follows [(3, 13, []), (5, 13, []), (12, 13, [])] [.q 0, .q 1, .q 2, .q 3, .q 4, .q 5, .q 6, .q 7, .q 8, .q 9, .q 10, .q 11, .l 12, .l 13, .q 14] (by kernel_rfl) ?_; conv => whnf) | (refine Ok.region_plan (id := 2) tok follows [(3, 12, []), (7, 12, []), (10, 12, [])] [.q 0, .q 1, .q 2, .q 3, .q 4, .q 5, .q 6, .q 7, .q 8, .q 9, .q 10, .q 11, .l 12] (by kernel_rfl) ?_; conv => whnf) | (refine Ok.region_plan (id := 13) tok follows [(3, 25, []), (8, 25, []), (13, 25, []), (16, 25, []), (20, 25, []), (23, 25, []), (3, 27, []), (8, 27, []), (13, 27, []), (16, 27, []), (20, 27, []), (23, 27, []), (25, 27, [])] [.q 0, .q 1, .q 2, .q 3, .q 4, .q 5, .q 6, .q 7, .q 8, .q 9, .q 10, .q 11, .q 12, .q 13, .q 14, .q 15, .q 16, .q 17, .q 18, .q 19, .q 20, .q 21, .q 22, .q 23, .q 24, .l 25, .q 26, .l 27] (by kernel_rfl) ?_; conv => whnf) | (refine Ok.region_draw tok follows (by kernel_rfl) ?_; conv => whnf) | (refine Ok.cond ?_; conv => whnf) | refine Ok.block ?_ | (refine Ok.skip ?_; conv => whnf) | (refine Ok.exit ?_; conv => whnf) | (refine Ok.ret ?_; conv => whnf) | (refine num_in (by omega) (by omega) ?_; conv => whnf) | fail)
                refine ⟨(x, y + 1), by dsimp only; omega, ⟨by dsimp only; omega, by dsimp only; omega, ?_, fun j e f h6 h7 he hf => ?_⟩, ?_⟩
                · rcases hx1 with h | ⟨h6, h7, h8, h9⟩
                  · exact .inl h
                  · exact .inr ⟨h6, by dsimp only; omega, h8, h9⟩
                · by_cases hj : j = y
                  · subst hj; rw [hc] at he; rw [hd] at hf; cases he; cases hf; exact h5
                  · exact hx2 j e f h6 (by dsimp only at h7; omega) he hf
                · (conv => whnf); all_goals (first | rfl | simp)
            · repeat' (first | refine Ok.seq ?_ | (refine Ok.region tok ?_; conv => whnf) | (refine Ok.region_plan (id := 1) tok follows [(3, 13, []), (5, 13, []), (12, 13, [])] [.q 0, .q 1, .q 2, .q 3, .q 4, .q 5, .q 6, .q 7, .q 8, .q 9, .q 10, .q 11, .l 12, .l 13, .q 14] (by kernel_rfl) ?_; conv => whnf) | (refine Ok.region_plan (id := 2) tok follows [(3, 12, []), (7, 12, []), (10, 12, [])] [.q 0, .q 1, .q 2, .q 3, .q 4, .q 5, .q 6, .q 7, .q 8, .q 9, .q 10, .q 11, .l 12] (by kernel_rfl) ?_; conv => whnf) | (refine Ok.region_plan (id := 13) tok follows [(3, 25, []), (8, 25, []), (13, 25, []), (16, 25, []), (20, 25, []), (23, 25, []), (3, 27, []), (8, 27, []), (13, 27, []), (16, 27, []), (20, 27, []), (23, 27, []), (25, 27, [])] [.q 0, .q 1, .q 2, .q 3, .q 4, .q 5, .q 6, .q 7, .q 8, .q 9, .q 10, .q 11, .q 12, .q 13, .q 14, .q 15, .q 16, .q 17, .q 18, .q 19, .q 20, .q 21, .q 22, .q 23, .q 24, .l 25, .q 26, .l 27] (by kernel_rfl) ?_; conv => whnf) | (refine Ok.region_draw tok follows (by kernel_rfl) ?_; conv => whnf) | (refine Ok.cond ?_; conv => whnf) | refine Ok.block ?_ | (refine Ok.skip ?_; conv => whnf) | (refine Ok.exit ?_; conv => whnf) | (refine Ok.ret ?_; conv => whnf) | (refine num_in (by omega) (by omega) ?_; conv => whnf) | fail)
              refine ⟨x, ⟨?_, fun j e f h6 h7 he hf => ?_⟩, ?_⟩
              · rcases hx1 with h | ⟨h6, h7, h8, h9⟩
                · exact .inl h
                · exact .inr ⟨h6, by omega, h8, h9⟩
              · have := (List.getElem?_eq_some_iff.1 he).1
                exact hx2 j e f h6 (by omega) he hf
              · (conv => whnf); all_goals (first | rfl | simp)
          · repeat' (first | refine Ok.seq ?_ | (refine Ok.region tok ?_; conv => whnf) | (refine Ok.region_plan (id := 1) tok follows [(3, 13, []), (5, 13, []), (12, 13, [])] [.q 0, .q 1, .q 2, .q 3, .q 4, .q 5, .q 6, .q 7, .q 8, .q 9, .q 10, .q 11, .l 12, .l 13, .q 14] (by kernel_rfl) ?_; conv => whnf) | (refine Ok.region_plan (id := 2) tok follows [(3, 12, []), (7, 12, []), (10, 12, [])] [.q 0, .q 1, .q 2, .q 3, .q 4, .q 5, .q 6, .q 7, .q 8, .q 9, .q 10, .q 11, .l 12] (by kernel_rfl) ?_; conv => whnf) | (refine Ok.region_plan (id := 13) tok follows [(3, 25, []), (8, 25, []), (13, 25, []), (16, 25, []), (20, 25, []), (23, 25, []), (3, 27, []), (8, 27, []), (13, 27, []), (16, 27, []), (20, 27, []), (23, 27, []), (25, 27, [])] [.q 0, .q 1, .q 2, .q 3, .q 4, .q 5, .q 6, .q 7, .q 8, .q 9, .q 10, .q 11, .q 12, .q 13, .q 14, .q 15, .q 16, .q 17, .q 18, .q 19, .q 20, .q 21, .q 22, .q 23, .q 24, .l 25, .q 26, .l 27] (by kernel_rfl) ?_; conv => whnf) | (refine Ok.region_draw tok follows (by kernel_rfl) ?_; conv => whnf) | (refine Ok.cond ?_; conv => whnf) | refine Ok.block ?_ | (refine Ok.skip ?_; conv => whnf) | (refine Ok.exit ?_; conv => whnf) | (refine Ok.ret ?_; conv => whnf) | (refine num_in (by omega) (by omega) ?_; conv => whnf) | fail)
            refine ⟨x, ⟨?_, fun j e f h6 h7 he hf => hx2 j e f h6 (by omega) he hf⟩, ?_⟩
            · rcases hx1 with h | ⟨h6, h7, h8, h9⟩
              · exact .inl h
              · exact .inr ⟨h6, by omega, h8, h9⟩
            · (conv => whnf); all_goals (first | rfl | simp)
        · intro x ⟨hx1, hx2⟩
          repeat' (first | refine Ok.seq ?_ | (refine Ok.region tok ?_; conv => whnf) | (refine Ok.region_plan (id := 1) tok follows [(3, 13, []), (5, 13, []), (12, 13, [])] [.q 0, .q 1, .q 2, .q 3, .q 4, .q 5, .q 6, .q 7, .q 8, .q 9, .q 10, .q 11, .l 12, .l 13, .q 14] (by kernel_rfl) ?_; conv => whnf) | (refine Ok.region_plan (id := 2) tok follows [(3, 12, []), (7, 12, []), (10, 12, [])] [.q 0, .q 1, .q 2, .q 3, .q 4, .q 5, .q 6, .q 7, .q 8, .q 9, .q 10, .q 11, .l 12] (by kernel_rfl) ?_; conv => whnf) | (refine Ok.region_plan (id := 13) tok follows [(3, 25, []), (8, 25, []), (13, 25, []), (16, 25, []), (20, 25, []), (23, 25, []), (3, 27, []), (8, 27, []), (13, 27, []), (16, 27, []), (20, 27, []), (23, 27, []), (25, 27, [])] [.q 0, .q 1, .q 2, .q 3, .q 4, .q 5, .q 6, .q 7, .q 8, .q 9, .q 10, .q 11, .q 12, .q 13, .q 14, .q 15, .q 16, .q 17, .q 18, .q 19, .q 20, .q 21, .q 22, .q 23, .q 24, .l 25, .q 26, .l 27] (by kernel_rfl) ?_; conv => whnf) | (refine Ok.region_draw tok follows (by kernel_rfl) ?_; conv => whnf) | (refine Ok.cond ?_; conv => whnf) | refine Ok.block ?_ | (refine Ok.skip ?_; conv => whnf) | (refine Ok.exit ?_; conv => whnf) | (refine Ok.ret ?_; conv => whnf) | (refine num_in (by omega) (by omega) ?_; conv => whnf) | fail)
          refine ⟨fun h3 => ?_, fun h3 => ?_⟩
          · have h3' : x = i := by omega
            subst h3'
            repeat' (first | refine Ok.seq ?_ | (refine Ok.region tok ?_; conv => whnf) | (refine Ok.region_plan (id := 1) tok follows [(3, 13, []), (5, 13, []), (12, 13, [])] [.q 0, .q 1, .q 2, .q 3, .q 4, .q 5, .q 6, .q 7, .q 8, .q 9, .q 10, .q 11, .l 12, .l 13, .q 14] (by kernel_rfl) ?_; conv => whnf) | (refine Ok.region_plan (id := 2) tok follows [(3, 12, []), (7, 12, []), (10, 12, [])] [.q 0, .q 1, .q 2, .q 3, .q 4, .q 5, .q 6, .q 7, .q 8, .q 9, .q 10, .q 11, .l 12] (by kernel_rfl) ?_; conv => whnf) | (refine Ok.region_plan (id := 13) tok follows [(3, 25, []), (8, 25, []), (13, 25, []), (16, 25, []), (20, 25, []), (23, 25, []), (3, 27, []), (8, 27, []), (13, 27, []), (16, 27, []), (20, 27, []), (23, 27, []), (25, 27, [])] [.q 0, .q 1, .q 2, .q 3, .q 4, .q 5, .q 6, .q 7, .q 8, .q 9, .q 10, .q 11, .q 12, .q 13, .q 14, .q 15, .q 16, .q 17, .q 18, .q 19, .q 20, .q 21, .q 22, .q 23, .q 24, .l 25, .q 26, .l 27] (by kernel_rfl) ?_; conv => whnf) | (refine Ok.region_draw tok follows (by kernel_rfl) ?_; conv => whnf) | (refine Ok.cond ?_; conv => whnf) | refine Ok.block ?_ | (refine Ok.skip ?_; conv => whnf) | (refine Ok.exit ?_; conv => whnf) | (refine Ok.ret ?_; conv => whnf) | (refine num_in (by omega) (by omega) ?_; conv => whnf) | fail)
            refine ⟨(a, xs), ⟨rfl, (hxp.cons a).trans hvp, hmin, ?_⟩, ?_⟩
            · by_cases hxl3 : x < xs.length
              · obtain ⟨c, hc⟩ : ∃ c, xs[x]? = some c := ⟨_, List.getElem?_eq_getElem hxl3⟩
                exact Hp.heapD_stop hxd hc fun j e h6 h7 he => hx2 j e c h6 h7 he hc
              · intro j hj e f he hf
                have := (List.getElem?_eq_some_iff.1 he).1
                dsimp only at this
                omega
            · (conv => whnf)
              simp [hxl, Num.row]
          · have h3' : x ≠ i := by omega
            obtain ⟨hx3, hx4, hx5, hx6⟩ := hx1.resolve_left h3'
            have hil : i < xs.length := by omega
            obtain ⟨c, hc⟩ : ∃ c, xs[i]? = some c := ⟨_, List.getElem?_eq_getElem hil⟩
            obtain ⟨d, hd⟩ : ∃ d, xs[x]? = some d := ⟨_, List.getElem?_eq_getElem hx5⟩
            have hd' : (xs.set i d)[x]? = some d := by rw [List.getElem?_set_ne (Ne.symm h3')]; exact hd
            repeat' (first | refine Ok.seq ?_ | (refine Ok.region tok ?_; conv => whnf) | (refine Ok.region_plan (id := 1) tok follows [(3, 13, []), (5, 13, []), (12, 13, [])] [.q 0, .q 1, .q 2, .q 3, .q 4, .q 5, .q 6, .q 7, .q 8, .q 9, .q 10, .q 11, .l 12, .l 13, .q 14] (by kernel_rfl) ?_; conv => whnf) | (refine Ok.region_plan (id := 2) tok follows [(3, 12, []), (7, 12, []), (10, 12, [])] [.q 0, .q 1, .q 2, .q 3, .q 4, .q 5, .q 6, .q 7, .q 8, .q 9, .q 10, .q 11, .l 12] (by kernel_rfl) ?_; conv => whnf) | (refine Ok.region_plan (id := 13) tok follows [(3, 25, []), (8, 25, []), (13, 25, []), (16, 25, []), (20, 25, []), (23, 25, []), (3, 27, []), (8, 27, []), (13, 27, []), (16, 27, []), (20, 27, []), (23, 27, []), (25, 27, [])] [.q 0, .q 1, .q 2, .q 3, .q 4, .q 5, .q 6, .q 7, .q 8, .q 9, .q 10, .q 11, .q 12, .q 13, .q 14, .q 15, .q 16, .q 17, .q 18, .q 19, .q 20, .q 21, .q 22, .q 23, .q 24, .l 25, .q 26, .l 27] (by kernel_rfl) ?_; conv => whnf) | (refine Ok.region_draw tok follows (by kernel_rfl) ?_; conv => whnf) | (refine Ok.cond ?_; conv => whnf) | refine Ok.block ?_ | (refine Ok.skip ?_; conv => whnf) | (refine Ok.exit ?_; conv => whnf) | (refine Ok.ret ?_; conv => whnf) | (refine num_in (by omega) (by omega) ?_; conv => whnf) | fail)
            refine ⟨by omega, by omega, by simp [hxl], ?_⟩
            (conv => whnf)
            refine ⟨rfl, _, map_at hd, ?_⟩
            (conv => whnf)
            refine ⟨by omega, by omega, by simp [hxl], ?_⟩
            (conv => whnf)
            refine ⟨rfl, _, map_at hc, ?_⟩
            (conv => whnf)
            refine ⟨by omega, by omega, by simp [hxl], ?_⟩
            (conv => whnf)
            refine ⟨_, map_at hc, by simp [Num.row], (xs.set i d).map Num.row, by simp [setCells, Num.row, List.map_set], ?_⟩
            (conv => whnf)
            refine ⟨by omega, by omega, by simp [hxl], ?_⟩
            (conv => whnf)
            refine ⟨_, map_at hd', by simp [Num.row], (Hp.swp xs i x c d).map Num.row, by simp [setCells, Num.row, List.map_set, Hp.swp], ?_⟩
            (conv => whnf)
            repeat' (first | refine Ok.seq ?_ | (refine Ok.region tok ?_; conv => whnf) | (refine Ok.region_plan (id := 1) tok follows [(3, 13, []), (5, 13, []), (12, 13, [])] [.q 0, .q 1, .q 2, .q 3, .q 4, .q 5, .q 6, .q 7, .q 8, .q 9, .q 10, .q 11, .l 12, .l 13, .q 14] (by kernel_rfl) ?_; conv => whnf) | (refine Ok.region_plan (id := 2) tok follows [(3, 12, []), (7, 12, []), (10, 12, [])] [.q 0, .q 1, .q 2, .q 3, .q 4, .q 5, .q 6, .q 7, .q 8, .q 9, .q 10, .q 11, .l 12] (by kernel_rfl) ?_; conv => whnf) | (refine Ok.region_plan (id := 13) tok follows [(3, 25, []), (8, 25, []), (13, 25, []), (16, 25, []), (20, 25, []), (23, 25, []), (3, 27, []), (8, 27, []), (13, 27, []), (16, 27, []), (20, 27, []), (23, 27, []), (25, 27, [])] [.q 0, .q 1, .q 2, .q 3, .q 4, .q 5, .q 6, .q 7, .q 8, .q 9, .q 10, .q 11, .q 12, .q 13, .q 14, .q 15, .q 16, .q 17, .q 18, .q 19, .q 20, .q 21, .q 22, .q 23, .q 24, .l 25, .q 26, .l 27] (by kernel_rfl) ?_; conv => whnf) | (refine Ok.region_draw tok follows (by kernel_rfl) ?_; conv => whnf) | (refine Ok.cond ?_; conv => whnf) | refine Ok.block ?_ | (refine Ok.skip ?_; conv => whnf) | (refine Ok.exit ?_; conv => whnf) | (refine Ok.ret ?_; conv => whnf) | (refine num_in (by omega) (by omega) ?_; conv => whnf) | fail)
            refine ⟨(x, Hp.swp xs i x c d), by dsimp only; omega, ⟨(Hp.swp_perm hc hd (Ne.symm h3')).trans hxp, Hp.heapD_down first_swo hxd hc hd hx3 hx4 (hx6 c d hc hd) fun j e h6 h7 he => hx2 j e d h6 h7 he hd, .inl (by rw [Hp.swp_length]; exact hx5)⟩, ?_⟩
            (conv => whnf); all_goals (first | rfl | simp)
      · rintro e ⟨b, zs⟩ ⟨he, hp2, hmin2, hh2⟩
        dsimp only at hp2 hmin2 hh2 ⊢
        subst he
        have hsl : (b :: zs).length = us.length := hp2.length_eq
        have hfold : (ps ++ [b]).foldl ddF [] = ddF (ps.foldl ddF []) b := by simp [List.foldl_append]
        have hol : (ps.foldl ddF []).length ≤ ps.length := dd_len ps
        have hI : ((ps ++ [b]) ++ zs).Perm (numb routes) ∧ (ps ++ [b]).Pairwise (fun a b => ¬ firstP b a) ∧ (∀ a ∈ ps ++ [b], ∀ c ∈ zs, ¬ firstP c a) ∧ Hp.Heap firstP zs := by
          have hbu : b ∈ us := hp2.subset (List.mem_cons_self ..)
          refine ⟨?_, ?_, ?_, hh2⟩
          · rw [List.append_assoc]
            exact (hp2.append_left ps).trans hq
          · rw [List.pairwise_append]
            exact ⟨hs, by simp, fun c hc d hd => by simp at hd; subst hd; exact hm c hc d hbu⟩
          · intro c hc d hd
            have hdu : d ∈ us := hp2.subset (List.mem_cons_of_mem _ hd)
            rcases List.mem_append.1 hc with hc | hc
            · exact hm c hc d hdu
            · simp at hc; subst hc; exact hmin2 d hdu
        generalize ho : ps.foldl ddF [] = o at hfold hol ⊢
        repeat' (first | refine Ok.seq ?_ | (refine Ok.region tok ?_; conv => whnf) | (refine Ok.region_draw tok follows (by kernel_rfl) ?_; conv => whnf) | (refine Ok.cond ?_; conv => whnf) | refine Ok.block ?_ | (refine Ok.skip ?_; conv => whnf) | (refine Ok.exit ?_; conv => whnf) | (refine Ok.ret ?_; conv => whnf) | (refine num_in (by omega) (by omega) ?_; conv => whnf) | fail)
        refine ⟨fun h5 => ?_, fun h5 => ?_⟩
        · obtain ⟨q, hqe⟩ : ∃ q, o[o.length - 1]? = some q := ⟨_, List.getElem?_eq_getElem (by omega)⟩
          have e2 : ((o.length : Int) - 1).toNat = o.length - 1 := by omega
          have hdd0 : ddF o b = if q.r.len = b.r.len ∧ q.r.value = b.r.value then o else o ++ [b] := by
            unfold ddF
            rw [List.getLast?_eq_getElem?, hqe]
          repeat' (first | refine Ok.seq ?_ | (refine Ok.region tok ?_; conv => whnf) | (refine Ok.region_draw tok follows (by kernel_rfl) ?_; conv => whnf) | (refine Ok.cond ?_; conv => whnf) | refine Ok.block ?_ | (refine Ok.skip ?_; conv => whnf) | (refine Ok.exit ?_; conv => whnf) | (refine Ok.ret ?_; conv => whnf) | (refine num_in (by omega) (by omega) ?_; conv => whnf) | fail)
          refine ⟨by omega, by omega, by simp, ?_⟩
          (conv => whnf)
          refine ⟨rfl, _, map_at (by rw [e2]; exact hqe), ?_⟩
          (conv => whnf)
          refine ⟨fun h6 => ?_, fun h6 => ?_⟩
          · repeat' (first | refine Ok.seq ?_ | (refine Ok.region tok ?_; conv => whnf) | (refine Ok.region_draw tok follows (by kernel_rfl) ?_; conv => whnf) | (refine Ok.cond ?_; conv => whnf) | refine Ok.block ?_ | (refine Ok.skip ?_; conv => whnf) | (refine Ok.exit ?_; conv => whnf) | (refine Ok.ret ?_; conv => whnf) | (refine num_in (by omega) (by omega) ?_; conv => whnf) | fail)
            refine ⟨by omega, by omega, by simp, ?_⟩
            (conv => whnf)
            refine ⟨rfl, _, map_at (by rw [e2]; exact hqe), ?_⟩
            (conv => whnf)
            repeat' (first | refine Ok.seq ?_ | (refine Ok.region tok ?_; conv => whnf) | (refine Ok.region_draw tok follows (by kernel_rfl) ?_; conv => whnf) | (refine Ok.cond ?_; conv => whnf) | refine Ok.block ?_ | (refine Ok.skip ?_; conv => whnf) | (refine Ok.exit ?_; conv => whnf) | (refine Ok.ret ?_; conv => whnf) | (refine num_in (by omega) (by omega) ?_; conv => whnf) | fail)
            refine ⟨fun h7 => ?_, fun h7 => ?_⟩
            · have hdd : ddF o b = o := by rw [hdd0, if_pos ⟨h6, h7⟩]
              repeat' (first | refine Ok.seq ?_ | (refine Ok.region tok ?_; conv => whnf) | (refine Ok.region_draw tok follows (by kernel_rfl) ?_; conv => whnf) | (refine Ok.cond ?_; conv => whnf) | refine Ok.block ?_ | (refine Ok.skip ?_; conv => whnf) | (refine Ok.exit ?_; conv => whnf) | (refine Ok.ret ?_; conv => whnf) | (refine num_in (by omega) (by omega) ?_; conv => whnf) | fail)
              refine ⟨(zs, ps ++ [b]), by dsimp only; simp at hsl; omega, hI, ?_⟩
              (conv => whnf)
              simp [hfold, hdd]
            · have hdd : ddF o b = o ++ [b] := by rw [hdd0, if_neg (fun h => h7 h.2)]
              repeat' (first | refine Ok.seq ?_ | (refine Ok.region tok ?_; conv => whnf) | (refine Ok.region_draw tok follows (by kernel_rfl) ?_; conv => whnf) | (refine Ok.cond ?_; conv => whnf) | refine Ok.block ?_ | (refine Ok.skip ?_; conv => whnf) | (refine Ok.exit ?_; conv => whnf) | (refine Ok.ret ?_; conv => whnf) | (refine num_in (by omega) (by omega) ?_; conv => whnf) | fail)
              refine ⟨by simp, ?_⟩
              (conv => whnf)
              refine ⟨by simp, _, .inl ⟨rfl, rfl⟩, ?_⟩
              (conv => whnf)
              refine ⟨by simp; omega, (o ++ [b]).map Num.row, (o ++ [b]).length, by simp [Num.row], by simp, ?_⟩
              (conv => whnf)
              repeat' (first | refine Ok.seq ?_ | (refine Ok.region tok ?_; conv => whnf) | (refine Ok.region_draw tok follows (by kernel_rfl) ?_; conv => whnf) | (refine Ok.cond ?_; conv => whnf) | refine Ok.block ?_ | (refine Ok.skip ?_; conv => whnf) | (refine Ok.exit ?_; conv => whnf) | (refine Ok.ret ?_; conv => whnf) | (refine num_in (by omega) (by omega) ?_; conv => whnf) | fail)
              refine ⟨(zs, ps ++ [b]), by dsimp only; simp at hsl; omega, hI, ?_⟩
              (conv => whnf)
              simp [hfold, hdd]

          · have hdd : ddF o b = o ++ [b] := by rw [hdd0, if_neg (fun h => h6 h.1)]
            repeat' (first | refine Ok.seq ?_ | (refine Ok.region tok ?_; conv => whnf) | (refine Ok.region_draw tok follows (by kernel_rfl) ?_; conv => whnf) | (refine Ok.cond ?_; conv => whnf) | refine Ok.block ?_ | (refine Ok.skip ?_; conv => whnf) | (refine Ok.exit ?_; conv => whnf) | (refine Ok.ret ?_; conv => whnf) | (refine num_in (by omega) (by omega) ?_; conv => whnf) | fail)
            refine ⟨by simp, ?_⟩
            (conv => whnf)
            refine ⟨by simp, _, .inl ⟨rfl, rfl⟩, ?_⟩
            (conv => whnf)
            refine ⟨by simp; omega, (o ++ [b]).map Num.row, (o ++ [b]).length, by simp [Num.row], by simp, ?_⟩
            (conv => whnf)
            repeat' (first | refine Ok.seq ?_ | (refine Ok.region tok ?_; conv => whnf) | (refine Ok.region_draw tok follows (by kernel_rfl) ?_; conv => whnf) | (refine Ok.cond ?_; conv => whnf) | refine Ok.block ?_ | (refine Ok.skip ?_; conv => whnf) | (refine Ok.exit ?_; conv => whnf) | (refine Ok.ret ?_; conv => whnf) | (refine num_in (by omega) (by omega) ?_; conv => whnf) | fail)
            refine ⟨(zs, ps ++ [b]), by dsimp only; simp at hsl; omega, hI, ?_⟩
            (conv => whnf)
            simp [hfold, hdd]

        · have hdd : ddF o b = o ++ [b] := by
            have : o = [] := List.eq_nil_of_length_eq_zero (by omega)
            subst this
            rfl
          repeat' (first | refine Ok.seq ?_ | (refine Ok.region tok ?_; conv => whnf) | (refine Ok.region_draw tok follows (by kernel_rfl) ?_; conv => whnf) | (refine Ok.cond ?_; conv => whnf) | refine Ok.block ?_ | (refine Ok.skip ?_; conv => whnf) | (refine Ok.exit ?_; conv => whnf) | (refine Ok.ret ?_; conv => whnf) | (refine num_in (by omega) (by omega) ?_; conv => whnf) | fail)
          refine ⟨by simp, ?_⟩
          (conv => whnf)
          refine ⟨by simp, _, .inl ⟨rfl, rfl⟩, ?_⟩
          (conv => whnf)
          refine ⟨by simp; omega, (o ++ [b]).map Num.row, (o ++ [b]).length, by simp [Num.row], by simp, ?_⟩
          (conv => whnf)
          repeat' (first | refine Ok.seq ?_ | (refine Ok.region tok ?_; conv => whnf) | (refine Ok.region_draw tok follows (by kernel_rfl) ?_; conv => whnf) | (refine Ok.cond ?_; conv => whnf) | refine Ok.block ?_ | (refine Ok.skip ?_; conv => whnf) | (refine Ok.exit ?_; conv => whnf) | (refine Ok.ret ?_; conv => whnf) | (refine num_in (by omega) (by omega) ?_; conv => whnf) | fail)
          refine ⟨(zs, ps ++ [b]), by dsimp only; simp at hsl; omega, hI, ?_⟩
          (conv => whnf)
          simp [hfold, hdd]

    · repeat' (first | refine Ok.seq ?_ | (refine Ok.region tok ?_; conv => whnf) | (refine Ok.region_draw tok follows (by kernel_rfl) ?_; conv => whnf) | (refine Ok.cond ?_; conv => whnf) | refine Ok.block ?_ | (refine Ok.skip ?_; conv => whnf) | (refine Ok.exit ?_; conv => whnf) | (refine Ok.ret ?_; conv => whnf) | (refine num_in (by omega) (by omega) ?_; conv => whnf) | fail)
      left
      (conv => whnf)
      have hus : us = [] := List.eq_nil_of_length_eq_zero (by simp at h2; omega)
      subst hus
      refine ⟨rfl, ps, by simpa using hq, hs, ?_⟩
      simp only [oneD]
      rw [List.take_of_length_le (by simp), List.drop_of_length_le (by simp)]
end Go.Proofs.Ytgelaefpbdfnfaa
