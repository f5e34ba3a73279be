/- The law's own checks: awake. -/
import Derived.Test.YtgelaefpbdfnfaaW6
import Derived.Test.YtgelaefpbdfnfaaRS6
namespace Go.Proofs.Ytgelaefpbdfnfaa
open Go Go.Vx

def exL : List Route := [⟨2, 8, 1, 2⟩, ⟨3, 8, 2, 3⟩, ⟨1, 8, 1, 1⟩, ⟨2, 0, 0, 5⟩, ⟨2, 8, 1, 4⟩]
def exS : List Route := [⟨2, 0, 0, 3⟩, ⟨2, 8, 1, 3⟩]
theorem numb_ex : numb exL = [⟨⟨2, 8, 1, 2⟩, 0⟩, ⟨⟨3, 8, 2, 3⟩, 1⟩, ⟨⟨1, 8, 1, 1⟩, 2⟩, ⟨⟨2, 0, 0, 5⟩, 3⟩, ⟨⟨2, 8, 1, 4⟩, 4⟩] := by simp [numb, exL]
theorem ord_exL : ordF exL = [⟨3, 8, 2, 3⟩, ⟨1, 8, 1, 1⟩, ⟨2, 0, 0, 5⟩] := by
  refine (ordF_eq (os := [⟨⟨3, 8, 2, 3⟩, 1⟩, ⟨⟨1, 8, 1, 1⟩, 2⟩, ⟨⟨2, 0, 0, 5⟩, 3⟩]) ⟨by simp [preLt], ?_, ?_⟩).trans rfl
  · rw [numb_ex]; simp [samePre, firstP]
  · rw [numb_ex]; simp [samePre]
theorem ordE_ex : ordE 4 exL = [⟨3, 8, 2, 3⟩, ⟨1, 8, 1, 1⟩, ⟨2, 0, 0, 5⟩] := by
  unfold ordE
  rw [if_neg (by decide), ord_exL]
theorem look_ex : lookK 4 exL 12 = 2 ∧ lookE 4 exL 12 = 0 := by
  have h : lookE 4 exL 12 = 0 := by decide
  refine ⟨?_, h⟩
  unfold lookK
  rw [if_neg (by omega)]
  refine pick_eq (.inr ⟨⟨⟨1, 8, 1, 1⟩, 2⟩, by simp [numb_ex], rfl, by decide, ?_⟩)
  rw [numb_ex]
  simp [hasR, firstP]
theorem far_ex : farE 2 [⟨0, 1, 7, 4⟩] [1] = [7, 0] ∧ fstE 2 [⟨0, 1, 7, 4⟩] [1] = [0, -1] ∧ graphE 2 [⟨0, 1, 7, 4⟩] [1] = 0 := by
  have h : graphE 2 [⟨0, 1, 7, 4⟩] [1] = 0 := by decide
  have hd : IsDist 2 [⟨0, 1, 7, 4⟩] [1] [7, 0] := by
    refine ⟨rfl, fun v x hv => ?_, by simp, by simp, fun v x hv h0 => ?_⟩
    · match v, hv with
      | 0, hv => simp at hv; omega
      | 1, hv => simp at hv; omega
    · match v, hv with
      | 0, hv => simp at hv; subst hv; exact .inr ⟨_, List.mem_singleton.2 rfl, rfl, 0, by simp, by omega, by simp⟩
      | 1, hv => simp at hv; subst hv; exact .inl ⟨rfl, by simp⟩
  have hf : IsFirst 2 [⟨0, 1, 7, 4⟩] [7, 0] [0, -1] 0 1 := by
    refine ⟨rfl, fun v x hv => ?_⟩
    match v, hv with
    | 0, hv => simp at hv; subst hv; exact .inr ⟨0, rfl, by omega, by omega, ⟨_, 7, 0, rfl, rfl, rfl, by omega, rfl, by simp⟩, fun j h1 h2 => by omega⟩
    | 1, hv =>
      simp at hv; subst hv
      refine .inl ⟨rfl, ?_⟩
      rintro i h1 h2 ⟨e, x, y, he, hfr, _⟩
      obtain rfl : i = 0 := by omega
      cases he
      cases hfr
  refine ⟨?_, ?_, h⟩
  · unfold farE
    rw [if_neg (by omega)]
    exact distF_eq (by simp) hd
  · unfold fstE
    rw [if_neg (by omega)]
    have := distF_eq (by simp) hd
    show firF 2 _ (distF 2 _ _) = _
    rw [this]
    exact firF_eq hf
theorem slim_ex : slimE 4 exS = [⟨2, 0, 0, 3⟩] ∧ checkE 4 exS = 0 := by
  have h : checkE 4 exS = 0 := by decide
  refine ⟨?_, h⟩
  have hn : numb exS = [⟨⟨2, 0, 0, 3⟩, 0⟩, ⟨⟨2, 8, 1, 3⟩, 1⟩] := by simp [numb, exS]
  have ho : ordF exS = [⟨2, 8, 1, 3⟩, ⟨2, 0, 0, 3⟩] := by
    refine (ordF_eq (os := [⟨⟨2, 8, 1, 3⟩, 1⟩, ⟨⟨2, 0, 0, 3⟩, 0⟩]) ⟨by simp [preLt], ?_, ?_⟩).trans rfl
    · rw [hn]; simp [samePre, firstP]
    · rw [hn]; simp [samePre]
  have hok : ∀ r ∈ [(⟨2, 8, 1, 3⟩ : Route), ⟨2, 0, 0, 3⟩], okR 4 r := by decide
  have hs : [(⟨2, 8, 1, 3⟩ : Route), ⟨2, 0, 0, 3⟩].Pairwise preR := by simp [preR]
  have h1 : ¬ Hal [(⟨2, 8, 1, 3⟩ : Route), ⟨2, 0, 0, 3⟩] 4 8 1 := by
    intro hh
    obtain ⟨r, hr, hl, _⟩ := hh 8 (by omega) (by decide) rfl
    simp at hr
    rcases hr with rfl | rfl <;> simp at hl
  have h2 : ¬ Hal [(⟨2, 8, 1, 3⟩ : Route), ⟨2, 0, 0, 3⟩] 4 0 0 := by
    intro hh
    obtain ⟨r, hr, hl, hq⟩ := hh 0 (by omega) (by decide) rfl
    simp at hr
    rcases hr with rfl | rfl
    · revert hq; unfold hasR; decide
    · simp at hl
  have hm : metF 4 [(⟨2, 8, 1, 3⟩ : Route), ⟨2, 0, 0, 3⟩] = [⟨2, 8, 1, 3⟩, ⟨2, 0, 0, 3⟩] := by
    unfold metF metG
    simp [h1, h2]
  have p0 : parF 4 [(⟨2, 8, 1, 3⟩ : Route), ⟨2, 0, 0, 3⟩] 0 ⟨2, 8, 1, 3⟩ = 1 := by
    refine parF_eq hok hs (.inr ⟨1, ⟨2, 0, 0, 3⟩, rfl, by decide, by decide, rfl, by simp [covR, hasR], ?_⟩)
    intro i r h1 h2 h3 _
    match i, h3 with
    | 0, h3 => omega
    | 1, h3 => cases h3; omega
  have p1 : parF 4 [(⟨2, 8, 1, 3⟩ : Route), ⟨2, 0, 0, 3⟩] 1 ⟨2, 0, 0, 3⟩ = -1 := by
    refine parF_eq hok hs (.inl ⟨rfl, ?_⟩)
    intro i r h1 h2 h3
    match i, h3 with
    | 0, h3 => cases h3; simp [covR]
    | 1, h3 => omega
  unfold slimE
  rw [if_neg (by omega), ho]
  unfold slimF
  rw [hm]
  have k0 : ¬ keepR 4 [(⟨2, 8, 1, 3⟩ : Route), ⟨2, 0, 0, 3⟩] 0 ⟨2, 8, 1, 3⟩ := by
    unfold keepR
    rw [p0]
    rintro (h | h)
    · omega
    · exact h _ rfl rfl
  have k1 : keepR 4 [(⟨2, 8, 1, 3⟩ : Route), ⟨2, 0, 0, 3⟩] 1 ⟨2, 0, 0, 3⟩ := by
    unfold keepR
    rw [p1]
    exact .inl (by omega)
  show keepF 4 _ 2 = _
  rw [keepF_succ_pos (k := 1) rfl k1, keepF_succ_neg (k := 0) rfl k0, keepF_zero]
  rfl

set_option maxRecDepth 100000 in
theorem example_spec : FSpec Try.prog T 50 [] (fun d rows => rows = [some (68, exL.map Route.row)] ∧ d = .own 0 5) := by
  refine FSpec.of_ok tok Try.func50 rfl Try.call50 (by simp) ?_
  (try (conv => whnf)); repeat' (first | refine Ok.seq ?_ | (refine Ok.region tok ?_; conv => whnf) | (refine Ok.region_draw tok follows (by kernel_rfl) ?_; conv => whnf) | (refine Ok.cond ?_; conv => whnf) | refine Ok.block ?_ | (refine Ok.skip ?_; conv => whnf) | (refine Ok.exit ?_; conv => whnf) | (refine Ok.ret ?_; conv => whnf) | (refine num_in (by omega) (by omega) ?_; conv => whnf) | (refine ix _ (by assumption) ?_; conv => whnf) | (refine ixI (by omega) (by assumption) ?_; conv => whnf) | (refine ix_new _ (by omega) fun _ _ => ?_; conv => whnf) | (refine ixI_new (by omega) (by omega) fun _ _ => ?_; conv => whnf) | (refine rd rfl (by assumption) ?_; conv => whnf) | (refine ⟨_, .inl ⟨rfl, rfl⟩, ?_⟩; conv => whnf) | (refine ⟨_, _, rfl, rfl, ?_⟩; conv => whnf) | (refine ⟨fun _ => ?_, fun _ => ?_⟩ <;> (conv => whnf) <;> (try (exfalso; omega))) | (refine And.intro (by first | omega | rfl | (simp; done) | (simp; omega)) ?_; conv => whnf) | (refine num_any ?_; conv => whnf) | (refine ⟨_, rfl, ?_⟩; conv => whnf) | fail)
  refine Or.inr (Or.inl ?_); (conv => whnf)
  exact ⟨rfl, rfl⟩
def exO : List Route := [⟨3, 8, 2, 3⟩, ⟨1, 8, 1, 1⟩, ⟨2, 0, 0, 5⟩]
theorem ordEx_at {rl sl : List (List D)} (h : rl = exL.map Route.row) : FSpec Try.prog T 18 [.i .i64 4, .lst 68 rl sl] (fun d rows => rows = [some (68, exO.map Route.row)] ∧ d = .tup [.own 0 3, .i .i64 0]) := by
  have := Order_at 4 exL (rl := rl) (sl := sl) h
  rw [ordE_ex, show checkE 4 exL = 0 by decide] at this
  exact this
theorem lookEx_at {rl sl : List (List D)} (h : rl = exL.map Route.row) : FSpec Try.prog T 24 [.i .i64 4, .lst 68 rl sl, .i .i64 12] (fun d _ => d = .tup [.i .i64 2, .i .i64 0]) := by
  subst h
  have := Lookup_spec 4 12 exL sl
  rw [look_ex.1, look_ex.2] at this
  exact this
theorem slimEx_at {rl sl : List (List D)} (h : rl = exS.map Route.row) : FSpec Try.prog T 26 [.i .i64 4, .lst 68 rl sl] (fun d rows => rows = [some (68, [(⟨2, 0, 0, 3⟩ : Route)].map Route.row)] ∧ d = .tup [.own 0 1, .i .i64 0]) := by
  have := Slim_at 4 exS (rows := rl) (room := sl) h
  rw [slim_ex.1, slim_ex.2] at this
  exact this
theorem shortEx_at {re se rd sd : List (List D)} (he : re = [(⟨0, 1, 7, 4⟩ : Edge)].map Edge.row) (hd : rd = [1].map irow) : FSpec Try.prog T 12 [.i .i64 2, .lst 34 re se, .lst 3 rd sd] (fun d rows => rows = [some (3, [7, 0].map irow), some (3, [0, -1].map irow)] ∧ d = .tup [.own 0 2, .own 1 2, .i .i64 0]) := by
  have := Shortest_at 2 [⟨0, 1, 7, 4⟩] [1] (re := re) (se := se) (rd := rd) (sd := sd) he hd
  rw [far_ex.1, far_ex.2.1, far_ex.2.2] at this
  exact this
set_option maxRecDepth 100000 in
set_option maxHeartbeats 4000000 in
theorem awake_spec : FSpec Try.prog T 28 [] (fun d _ => d = .tt) := by
  refine FSpec.tt (p := True) ?_ trivial
  refine FSpec.of_ok tok Try.func28 rfl Try.call28 (by simp) ?_
  have l1 : (exL.map Route.row).length = 5 := rfl
  have l2 : (exO.map Route.row).length = 3 := rfl
  (try (conv => whnf)); repeat' (first | refine Ok.seq ?_ | (refine Ok.region tok ?_; conv => whnf) | (refine Ok.region_draw tok follows (by kernel_rfl) ?_; conv => whnf) | (refine Ok.cond ?_; conv => whnf) | refine Ok.block ?_ | (refine Ok.skip ?_; conv => whnf) | (refine Ok.exit ?_; conv => whnf) | (refine Ok.ret ?_; conv => whnf) | (refine num_in (by omega) (by omega) ?_; conv => whnf) | (refine ix _ (by assumption) ?_; conv => whnf) | (refine ixI (by omega) (by assumption) ?_; conv => whnf) | (refine ix_new _ (by omega) fun _ _ => ?_; conv => whnf) | (refine ixI_new (by omega) (by omega) fun _ _ => ?_; conv => whnf) | (refine Or.inl ?_; (conv => whnf); (repeat (refine And.intro (by first | omega | (simp; done) | (simp; omega)) ?_; (conv => whnf))); refine ⟨_, lookEx_at rfl, rfl, ?_⟩; conv => whnf) | (refine ⟨_, lookEx_at rfl, rfl, ?_⟩; conv => whnf) | (refine Or.inr (Or.inl ?_); (conv => whnf); (repeat (refine And.intro (by first | omega | (simp; done) | (simp; omega)) ?_; (conv => whnf))); refine ⟨_, lookEx_at rfl, ?_⟩; rintro _ _ ⟨rfl, rfl⟩; conv => whnf) | (refine Or.inr (Or.inr (Or.inr ?_)); (conv => whnf); (repeat (refine And.intro (by first | omega | (simp; done) | (simp; omega)) ?_; (conv => whnf))); refine ⟨_, example_spec, ?_⟩; rintro _ _ ⟨rfl, rfl⟩ <;> (refine And.intro (by simp [gRowsP, grounds, D.ground, Route.row, irow, exO, exL]) ?_; conv => whnf)) | (refine Or.inr (Or.inr ?_); (conv => whnf); (repeat (refine And.intro (by first | omega | (simp; done) | (simp; omega)) ?_; (conv => whnf))); refine ⟨_, example_spec, ?_⟩; rintro _ _ ⟨rfl, rfl⟩ <;> (refine And.intro (by simp [gRowsP, grounds, D.ground, Route.row, irow, exO, exL]) ?_; conv => whnf)) | (refine Or.inr (Or.inr (Or.inr ?_)); (conv => whnf); (repeat (refine And.intro (by first | omega | (simp; done) | (simp; omega)) ?_; (conv => whnf))); refine ⟨_, ordEx_at rfl, ?_⟩; rintro _ _ ⟨rfl, rfl⟩ <;> (refine And.intro (by simp [gRowsP, grounds, D.ground, Route.row, irow, exO, exL]) ?_; conv => whnf)) | (refine Or.inr (Or.inr ?_); (conv => whnf); (repeat (refine And.intro (by first | omega | (simp; done) | (simp; omega)) ?_; (conv => whnf))); refine ⟨_, ordEx_at rfl, ?_⟩; rintro _ _ ⟨rfl, rfl⟩ <;> (refine And.intro (by simp [gRowsP, grounds, D.ground, Route.row, irow, exO, exL]) ?_; conv => whnf)) | (refine Or.inr (Or.inr (Or.inr ?_)); (conv => whnf); (repeat (refine And.intro (by first | omega | (simp; done) | (simp; omega)) ?_; (conv => whnf))); refine ⟨_, slimEx_at rfl, ?_⟩; rintro _ _ ⟨rfl, rfl⟩ <;> (refine And.intro (by simp [gRowsP, grounds, D.ground, Route.row, irow, exO, exL]) ?_; conv => whnf)) | (refine Or.inr (Or.inr ?_); (conv => whnf); (repeat (refine And.intro (by first | omega | (simp; done) | (simp; omega)) ?_; (conv => whnf))); refine ⟨_, slimEx_at rfl, ?_⟩; rintro _ _ ⟨rfl, rfl⟩ <;> (refine And.intro (by simp [gRowsP, grounds, D.ground, Route.row, irow, exO, exL]) ?_; conv => whnf)) | (refine Or.inr (Or.inr (Or.inr ?_)); (conv => whnf); (repeat (refine And.intro (by first | omega | (simp; done) | (simp; omega)) ?_; (conv => whnf))); refine ⟨_, shortEx_at rfl rfl, ?_⟩; rintro _ _ ⟨rfl, rfl⟩ <;> (refine And.intro (by simp [gRowsP, grounds, D.ground, Route.row, irow, exO, exL]) ?_; conv => whnf)) | (refine Or.inr (Or.inr ?_); (conv => whnf); (repeat (refine And.intro (by first | omega | (simp; done) | (simp; omega)) ?_; (conv => whnf))); refine ⟨_, shortEx_at rfl rfl, ?_⟩; rintro _ _ ⟨rfl, rfl⟩ <;> (refine And.intro (by simp [gRowsP, grounds, D.ground, Route.row, irow, exO, exL]) ?_; conv => whnf)) | (refine rd rfl (by assumption) ?_; conv => whnf) | (refine ⟨_, .inl ⟨rfl, rfl⟩, ?_⟩; conv => whnf) | (refine ⟨_, _, rfl, rfl, ?_⟩; conv => whnf) | (refine ⟨fun _ => ?_, fun _ => ?_⟩ <;> (conv => whnf) <;> (try (exfalso; omega))) | (refine And.intro (by first | omega | rfl | (simp; done) | (simp; omega)) ?_; conv => whnf) | (refine num_any ?_; conv => whnf) | (refine ⟨_, rfl, ?_⟩; conv => whnf) | fail)
  · refine Or.inl ?_; (conv => whnf)
    exact b_eq ⟨fun _ => trivial, fun _ => rfl⟩
  all_goals exact absurd rfl (by assumption)
end Go.Proofs.Ytgelaefpbdfnfaa
