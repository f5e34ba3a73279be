/- Where a value goes by a list: the walk; RibSame. -/
import Derived.Test.YtgelaefpbdfnfaaX7
namespace Go.Proofs.Ytgelaefpbdfnfaa
open Go Go.Vx

theorem ahead_iff {bits v : Int} {r s : Route} (hr : okR bits r) (hs : okR bits s) (h1 : hasR bits r v) (h2 : hasR bits s v) : aheadP r s ↔ s.len < r.len ∨ (r.len = s.len ∧ r.kind < s.kind) := by
  unfold aheadP
  by_cases h : r.len = s.len
  · have hv := has_same hr hs h h1 h2
    rw [if_neg (by omega), if_neg (by omega)]
    omega
  · rw [if_pos h]
    omega
set_option maxRecDepth 100000 in
set_option maxHeartbeats 4000000 in
theorem out_at {bits v k : Int} {l : List Route} {rows room : List (List D)} (hb2 : bits ≤ 32) (hl : l.length ≤ 256) (hok : ∀ r ∈ l, okR bits r) (hk : IsPick bits l v k) (he : rows = l.map Route.row) : FSpec Try.prog T 31 [.i .i64 bits, .lst 68 rows room, .i .i64 v] (fun d _ => d = .i .i64 (outK l k)) := by
  subst he
  have hll : (l.map Route.row).length = l.length := by simp
  refine FSpec.of_ok tok Try.func31 rfl Try.call31 (by simp) ?_
  (try (conv => whnf)); repeat' (first | refine Ok.seq ?_ | (refine Ok.region tok ?_; conv => whnf) | (refine Ok.region_draw tok follows (by kernel_rfl) ?_; conv => whnf) | (refine Ok.cond ?_; conv => whnf) | refine Ok.block ?_ | (refine Ok.skip ?_; conv => whnf) | (refine Ok.exit ?_; conv => whnf) | (refine Ok.ret ?_; conv => whnf) | (refine num_in (by omega) (by omega) ?_; conv => whnf) | (refine ix _ (by assumption) ?_; conv => whnf) | (refine ixI (by omega) (by assumption) ?_; conv => whnf) | (refine ix_new _ (by omega) fun _ _ => ?_; conv => whnf) | (refine ixI_new (by omega) (by omega) fun _ _ => ?_; conv => whnf) | (refine rd rfl (by assumption) ?_; conv => whnf) | (refine ⟨_, .inl ⟨rfl, rfl⟩, ?_⟩; conv => whnf) | (refine ⟨_, _, rfl, rfl, ?_⟩; conv => whnf) | (refine ⟨fun _ => ?_, fun _ => ?_⟩ <;> (conv => whnf) <;> (try (exfalso; omega))) | (refine And.intro (by first | omega | rfl | (simp; done) | (simp; omega)) ?_; conv => whnf) | (refine num_any ?_; conv => whnf) | (refine ⟨_, rfl, ?_⟩; conv => whnf) | fail)
  refine Ok.loopU [0, 1, 2] [7, 8] 0 0 (fun (x : Int × Nat) => [.i .i64 x.1, .i .i64 (x.2 : Nat)]) (fun _ b => b) (fun _ r => r) (fun (x : Int × Nat) => x.2 ≤ l.length ∧ Best bits l v x.2 x.1) (fun (x : Int × Nat) => l.length - x.2) ((-1, 0)) (⟨Nat.zero_le _, .inl ⟨rfl, fun j r h => by dsimp only at h; omega⟩⟩) ?_; (conv => whnf); refine ⟨by ((conv => whnf); first | rfl | (simp [envCat, List.take_of_length_le, Route.row, irow]; done) | (simp [envCat, List.take_of_length_le, Route.row, irow]; rw [IntKind.wrap_i64]; omega)), ?_⟩
  rintro ⟨b, i⟩ ⟨hi, hbest⟩
  dsimp only at hi hbest ⊢
  by_cases hil : i < l.length
  · obtain ⟨r, hr⟩ : ∃ r, l[i]? = some r := ⟨_, List.getElem?_eq_getElem hil⟩
    have hokr := hok r (List.mem_of_getElem? hr)
    by_cases hrv : hasR bits r v
    · rcases id hbest with ⟨rfl, _⟩ | ⟨kk, rk, rfl, hkk, hrk, hhk, _⟩
      · (try (conv => whnf)); repeat' (first | refine Ok.seq ?_ | (refine Ok.region tok ?_; conv => whnf) | (refine Ok.region_draw tok follows (by kernel_rfl) ?_; conv => whnf) | (refine Ok.cond ?_; conv => whnf) | refine Ok.block ?_ | (refine Ok.skip ?_; conv => whnf) | (refine Ok.exit ?_; conv => whnf) | (refine Ok.ret ?_; conv => whnf) | (refine num_in (by omega) (by omega) ?_; conv => whnf) | (refine ix _ (by assumption) ?_; conv => whnf) | (refine ixI (by omega) (by assumption) ?_; conv => whnf) | (refine ix_new _ (by omega) fun _ _ => ?_; conv => whnf) | (refine ixI_new (by omega) (by omega) fun _ _ => ?_; conv => whnf) | (refine Or.inl ?_; (conv => whnf); (repeat (refine And.intro (by first | omega | (simp; done) | (simp; omega)) ?_; (conv => whnf))); refine ⟨_, (hasL_spec bits r v hb2 hokr.2.2.1 hokr.2.2.2.1).tt hrv, rfl, ?_⟩; conv => whnf) | (refine ⟨_, (hasL_spec bits r v hb2 hokr.2.2.1 hokr.2.2.2.1).tt hrv, rfl, ?_⟩; conv => whnf) | (refine Or.inr (Or.inl ?_); (conv => whnf); (repeat (refine And.intro (by first | omega | (simp; done) | (simp; omega)) ?_; (conv => whnf))); refine ⟨_, (hasL_spec bits r v hb2 hokr.2.2.1 hokr.2.2.2.1).tt hrv, ?_⟩; rintro _ _ ⟨rfl, rfl⟩; conv => whnf) | (refine rd rfl (by assumption) ?_; conv => whnf) | (refine ⟨_, .inl ⟨rfl, rfl⟩, ?_⟩; conv => whnf) | (refine ⟨_, _, rfl, rfl, ?_⟩; conv => whnf) | (refine ⟨fun _ => ?_, fun _ => ?_⟩ <;> (conv => whnf) <;> (try (exfalso; omega))) | (refine And.intro (by first | omega | rfl | (simp; done) | (simp; omega)) ?_; conv => whnf) | (refine num_any ?_; conv => whnf) | (refine ⟨_, rfl, ?_⟩; conv => whnf) | fail)
        refine ⟨((i : Nat), i + 1), by dsimp only; omega, ⟨by dsimp only; omega, hbest.take hr hrv (.inl (by omega))⟩, ?_⟩
        (conv => whnf); (first | rfl | simp [envCat, List.take_of_length_le, Route.row, irow])
      · have hah := ahead_iff hokr (hok rk (List.mem_of_getElem? hrk)) hrv hhk
        (try (conv => whnf)); repeat' (first | refine Ok.seq ?_ | (refine Ok.region tok ?_; conv => whnf) | (refine Ok.region_draw tok follows (by kernel_rfl) ?_; conv => whnf) | (refine Ok.cond ?_; conv => whnf) | refine Ok.block ?_ | (refine Ok.skip ?_; conv => whnf) | (refine Ok.exit ?_; conv => whnf) | (refine Ok.ret ?_; conv => whnf) | (refine num_in (by omega) (by omega) ?_; conv => whnf) | (refine ix _ (by assumption) ?_; conv => whnf) | (refine ixI (by omega) (by assumption) ?_; conv => whnf) | (refine ix_new _ (by omega) fun _ _ => ?_; conv => whnf) | (refine ixI_new (by omega) (by omega) fun _ _ => ?_; conv => whnf) | (refine Or.inl ?_; (conv => whnf); (repeat (refine And.intro (by first | omega | (simp; done) | (simp; omega)) ?_; (conv => whnf))); refine ⟨_, (hasL_spec bits r v hb2 hokr.2.2.1 hokr.2.2.2.1).tt hrv, rfl, ?_⟩; conv => whnf) | (refine ⟨_, (hasL_spec bits r v hb2 hokr.2.2.1 hokr.2.2.2.1).tt hrv, rfl, ?_⟩; conv => whnf) | (refine Or.inr (Or.inl ?_); (conv => whnf); (repeat (refine And.intro (by first | omega | (simp; done) | (simp; omega)) ?_; (conv => whnf))); refine ⟨_, (hasL_spec bits r v hb2 hokr.2.2.1 hokr.2.2.2.1).tt hrv, ?_⟩; rintro _ _ ⟨rfl, rfl⟩; conv => whnf) | (refine rd rfl (by assumption) ?_; conv => whnf) | (refine ⟨_, .inl ⟨rfl, rfl⟩, ?_⟩; conv => whnf) | (refine ⟨_, _, rfl, rfl, ?_⟩; conv => whnf) | (refine ⟨fun _ => ?_, fun _ => ?_⟩ <;> (conv => whnf) <;> (try (exfalso; omega))) | (refine And.intro (by first | omega | rfl | (simp; done) | (simp; omega)) ?_; conv => whnf) | (refine num_any ?_; conv => whnf) | (refine ⟨_, rfl, ?_⟩; conv => whnf) | fail)
        all_goals first
          | (refine ⟨((i : Nat), i + 1), by dsimp only; omega, ⟨by dsimp only; omega, hbest.take hr hrv (.inr ⟨kk, rk, rfl, hrk, hah.2 (by omega)⟩)⟩, ?_⟩; (conv => whnf); (first | rfl | simp [envCat, List.take_of_length_le, Route.row, irow]))
          | (refine ⟨((kk : Nat), i + 1), by dsimp only; omega, ⟨by dsimp only; omega, hbest.skip hr (.inr ⟨kk, rk, rfl, hrk, fun h => by have := hah.1 h; omega⟩)⟩, ?_⟩; (conv => whnf); (first | rfl | simp [envCat, List.take_of_length_le, Route.row, irow]))
    · (try (conv => whnf)); repeat' (first | refine Ok.seq ?_ | (refine Ok.region tok ?_; conv => whnf) | (refine Ok.region_draw tok follows (by kernel_rfl) ?_; conv => whnf) | (refine Ok.cond ?_; conv => whnf) | refine Ok.block ?_ | (refine Ok.skip ?_; conv => whnf) | (refine Ok.exit ?_; conv => whnf) | (refine Ok.ret ?_; conv => whnf) | (refine num_in (by omega) (by omega) ?_; conv => whnf) | (refine ix _ (by assumption) ?_; conv => whnf) | (refine ixI (by omega) (by assumption) ?_; conv => whnf) | (refine ix_new _ (by omega) fun _ _ => ?_; conv => whnf) | (refine ixI_new (by omega) (by omega) fun _ _ => ?_; conv => whnf) | (refine Or.inl ?_; (conv => whnf); (repeat (refine And.intro (by first | omega | (simp; done) | (simp; omega)) ?_; (conv => whnf))); refine ⟨_, (hasL_spec bits r v hb2 hokr.2.2.1 hokr.2.2.2.1).ff hrv, rfl, ?_⟩; conv => whnf) | (refine ⟨_, (hasL_spec bits r v hb2 hokr.2.2.1 hokr.2.2.2.1).ff hrv, rfl, ?_⟩; conv => whnf) | (refine Or.inr (Or.inl ?_); (conv => whnf); (repeat (refine And.intro (by first | omega | (simp; done) | (simp; omega)) ?_; (conv => whnf))); refine ⟨_, (hasL_spec bits r v hb2 hokr.2.2.1 hokr.2.2.2.1).ff hrv, ?_⟩; rintro _ _ ⟨rfl, rfl⟩; conv => whnf) | (refine rd rfl (by assumption) ?_; conv => whnf) | (refine ⟨_, .inl ⟨rfl, rfl⟩, ?_⟩; conv => whnf) | (refine ⟨_, _, rfl, rfl, ?_⟩; conv => whnf) | (refine ⟨fun _ => ?_, fun _ => ?_⟩ <;> (conv => whnf) <;> (try (exfalso; omega))) | (refine And.intro (by first | omega | rfl | (simp; done) | (simp; omega)) ?_; conv => whnf) | (refine num_any ?_; conv => whnf) | (refine ⟨_, rfl, ?_⟩; conv => whnf) | fail)
      refine ⟨(b, i + 1), by dsimp only; omega, ⟨by dsimp only; omega, hbest.skip hr (.inl hrv)⟩, ?_⟩
      (conv => whnf); (first | rfl | simp [envCat, List.take_of_length_le, Route.row, irow])
  · obtain rfl : i = l.length := by omega
    obtain rfl := hbest.pick.uniq hk
    rcases hbest with ⟨rfl, _⟩ | ⟨kk, rk, rfl, hkk, hrk, _, _⟩
    · (try (conv => whnf)); repeat' (first | refine Ok.seq ?_ | (refine Ok.region tok ?_; conv => whnf) | (refine Ok.region_draw tok follows (by kernel_rfl) ?_; conv => whnf) | (refine Ok.cond ?_; conv => whnf) | refine Ok.block ?_ | (refine Ok.skip ?_; conv => whnf) | (refine Ok.exit ?_; conv => whnf) | (refine Ok.ret ?_; conv => whnf) | (refine num_in (by omega) (by omega) ?_; conv => whnf) | (refine ix _ (by assumption) ?_; conv => whnf) | (refine ixI (by omega) (by assumption) ?_; conv => whnf) | (refine ix_new _ (by omega) fun _ _ => ?_; conv => whnf) | (refine ixI_new (by omega) (by omega) fun _ _ => ?_; conv => whnf) | (refine rd rfl (by assumption) ?_; conv => whnf) | (refine ⟨_, .inl ⟨rfl, rfl⟩, ?_⟩; conv => whnf) | (refine ⟨_, _, rfl, rfl, ?_⟩; conv => whnf) | (refine ⟨fun _ => ?_, fun _ => ?_⟩ <;> (conv => whnf) <;> (try (exfalso; omega))) | (refine And.intro (by first | omega | rfl | (simp; done) | (simp; omega)) ?_; conv => whnf) | (refine num_any ?_; conv => whnf) | (refine ⟨_, rfl, ?_⟩; conv => whnf) | fail)
      refine Or.inl ?_; (conv => whnf)
      rfl
    · have : outK l (kk : Int) = rk.out := by unfold outK; rw [if_neg (by omega), Int.toNat_natCast, hrk]
      rw [this]
      (try (conv => whnf)); repeat' (first | refine Ok.seq ?_ | (refine Ok.region tok ?_; conv => whnf) | (refine Ok.region_draw tok follows (by kernel_rfl) ?_; conv => whnf) | (refine Ok.cond ?_; conv => whnf) | refine Ok.block ?_ | (refine Ok.skip ?_; conv => whnf) | (refine Ok.exit ?_; conv => whnf) | (refine Ok.ret ?_; conv => whnf) | (refine num_in (by omega) (by omega) ?_; conv => whnf) | (refine ix _ (by assumption) ?_; conv => whnf) | (refine ixI (by omega) (by assumption) ?_; conv => whnf) | (refine ix_new _ (by omega) fun _ _ => ?_; conv => whnf) | (refine ixI_new (by omega) (by omega) fun _ _ => ?_; conv => whnf) | (refine rd rfl (by assumption) ?_; conv => whnf) | (refine ⟨_, .inl ⟨rfl, rfl⟩, ?_⟩; conv => whnf) | (refine ⟨_, _, rfl, rfl, ?_⟩; conv => whnf) | (refine ⟨fun _ => ?_, fun _ => ?_⟩ <;> (conv => whnf) <;> (try (exfalso; omega))) | (refine And.intro (by first | omega | rfl | (simp; done) | (simp; omega)) ?_; conv => whnf) | (refine num_any ?_; conv => whnf) | (refine ⟨_, rfl, ?_⟩; conv => whnf) | fail)
      refine Or.inl ?_; (conv => whnf)
      rfl
theorem out_to {bits v w : Int} {l : List Route} {rows room : List (List D)} (hb2 : bits ≤ 32) (hl : l.length ≤ 256) (hok : ∀ r ∈ l, okR bits r) (hw : outK l (pick bits l v) = w) (he : rows = l.map Route.row) : FSpec Try.prog T 31 [.i .i64 bits, .lst 68 rows room, .i .i64 v] (fun d _ => d = .i .i64 w) := by
  subst hw
  exact out_at hb2 hl hok (pick_ex bits l v) he

theorem pts_in {bits : Int} {l : List Route} (hok : ∀ r ∈ l, okR bits r) {v : Int} (h : v ∈ ptsF bits l) : 0 ≤ v ∧ v < 2 ^ bits.toNat := by
  unfold ptsF at h
  rcases List.mem_cons.1 h with rfl | h
  · exact ⟨by omega, Int.pow_pos (by omega)⟩
  · obtain ⟨r, hr, hv⟩ := List.mem_flatMap.1 h
    have h0 := (hok r hr).2.2.2.2.2.2
    have hp : (0 : Int) < 2 ^ (bits - r.len).toNat := Int.pow_pos (by omega)
    unfold ptF at hv
    split at hv
    · simp at hv
      rcases hv with rfl | rfl
      · exact ⟨h0.1, h0.2.1⟩
      · exact ⟨by omega, by assumption⟩
    · simp at hv
      subst hv
      exact ⟨h0.1, h0.2.1⟩
structure Outs (bits : Int) (l o : List Route) : Prop where
  ok : ∀ r ∈ o, okR bits r
  srt : o.Pairwise preR
  len : o.length ≤ l.length
  sub : ∀ r ∈ o, r ∈ l
  sok : ∀ r ∈ slimF bits o, okR bits r
  ssrt : (slimF bits o).Pairwise preR
  slen : (slimF bits o).length ≤ o.length
  all : ∀ v, outK o (pick bits o v) = outK l (pick bits l v)
  slim : ∀ v, 0 ≤ v → v < 2 ^ bits.toNat → outK (slimF bits o) (pick bits (slimF bits o) v) = outK l (pick bits l v)
theorem outs_ok {bits : Int} {l : List Route} (h : checkE bits l = 0) : Outs bits l (ordF l) := by
  obtain ⟨hl, hb1, hb2, hok⟩ := checkE_ok h
  obtain ⟨os, hos⟩ := ord_ex l
  have e := ordF_eq hos
  rw [e]
  have o1 := ord_ok hos hok
  have o2 := ord_pre hos
  obtain ⟨m1, m2, m3⟩ := metF_ok o1 o2
  have hall : ∀ v, OutIs bits (os.map (·.r)) v (outK l (pick bits l v)) := fun v => pick_out hok hos (pick_ex bits l v)
  refine ⟨o1, o2, by simpa using ord_len hos, fun r hr => ?_, fun r hr => m1 r (keep_sub hr), keep_pre m2, Nat.le_trans (keepF_len _ _ _) m3, fun v => OutIs.uniq o1 o2 (pick_out1 (pick_ex _ _ _)) (hall v), fun v h0 h1 => ?_⟩
  · obtain ⟨x, hx, rfl⟩ := List.mem_map.1 hr
    obtain ⟨j, hj, hjx⟩ := numb_mem (hos.best x hx).1
    rw [hjx]
    exact List.getElem_mem hj
  · exact OutIs.uniq (fun r hr => m1 r (keep_sub hr)) (keep_pre m2) (pick_out1 (pick_ex _ _ _)) (slim_out o1 o2 h0 h1 (hall v))

set_option maxRecDepth 100000 in
set_option maxHeartbeats 4000000 in
theorem same_law (bits : Int) (l : List Route) (room : List (List D)) : FSpec Try.prog T 8 [.i .i64 bits, .lst 68 (l.map Route.row) room] (fun d _ => d = .b True) := by
  refine FSpec.of_ok tok Try.func8 rfl Try.call8 (by simp) ?_
  have hll : (l.map Route.row).length = l.length := by simp
  have hs := Order_at bits l (rl := l.map Route.row) (sl := room) rfl
  have ht := Slim_at bits l (rows := l.map Route.row) (room := room) rfl
  by_cases h1 : checkE bits l = 0
  · obtain ⟨hl, hb1, hb2, hok⟩ := checkE_ok h1
    have hO := outs_ok h1
    have hoE : ordE bits l = ordF l := by unfold ordE; rw [if_neg (by omega)]
    have hsE : slimE bits l = slimF bits (ordF l) := by unfold slimE; rw [if_neg (by omega)]
    rw [hoE, h1] at hs
    rw [hsE, h1] at ht
    generalize ordF l = o at hO hs ht
    generalize hsl : slimF bits o = s at ht
    have hol : (o.map Route.row).length = o.length := by simp
    have hsll : (s.map Route.row).length = s.length := by simp
    have ho1 := hO.len
    have hs1 := hO.slen
    rw [hsl] at hs1
    have hpm : ((ptsF bits l).map irow).length = (ptsF bits l).length := by simp
    have hpl := ptsF_len bits l
    (try (conv => whnf)); repeat' (first | refine Ok.seq ?_ | (refine Ok.region tok ?_; conv => whnf) | (refine Ok.region_draw tok follows (by kernel_rfl) ?_; conv => whnf) | (refine Ok.cond ?_; conv => whnf) | refine Ok.block ?_ | (refine Ok.skip ?_; conv => whnf) | (refine Ok.exit ?_; conv => whnf) | (refine Ok.ret ?_; conv => whnf) | (refine num_in (by omega) (by omega) ?_; conv => whnf) | (refine ix _ (by assumption) ?_; conv => whnf) | (refine ixI (by omega) (by assumption) ?_; conv => whnf) | (refine ix_new _ (by omega) fun _ _ => ?_; conv => whnf) | (refine ixI_new (by omega) (by omega) fun _ _ => ?_; conv => whnf) | (refine Or.inl ?_; (conv => whnf); (repeat (refine And.intro (by first | omega | (simp; done) | (simp; omega)) ?_; (conv => whnf))); refine ⟨_, awake_spec, rfl, ?_⟩; conv => whnf) | (refine ⟨_, awake_spec, rfl, ?_⟩; conv => whnf) | (refine Or.inr (Or.inl ?_); (conv => whnf); (repeat (refine And.intro (by first | omega | (simp; done) | (simp; omega)) ?_; (conv => whnf))); refine ⟨_, awake_spec, ?_⟩; rintro _ _ ⟨rfl, rfl⟩; conv => whnf) | (refine Or.inr (Or.inr (Or.inr ?_)); (conv => whnf); (repeat (refine And.intro (by first | omega | (simp; done) | (simp; omega)) ?_; (conv => whnf))); refine ⟨_, hs, ?_⟩; rintro _ _ ⟨rfl, rfl⟩ <;> (refine And.intro (by simp [gRowsP, grounds, D.ground, Route.row, irow]) ?_; conv => whnf)) | (refine Or.inr (Or.inr ?_); (conv => whnf); (repeat (refine And.intro (by first | omega | (simp; done) | (simp; omega)) ?_; (conv => whnf))); refine ⟨_, hs, ?_⟩; rintro _ _ ⟨rfl, rfl⟩ <;> (refine And.intro (by simp [gRowsP, grounds, D.ground, Route.row, irow]) ?_; conv => whnf)) | (refine Or.inr (Or.inr (Or.inr ?_)); (conv => whnf); (repeat (refine And.intro (by first | omega | (simp; done) | (simp; omega)) ?_; (conv => whnf))); refine ⟨_, ht, ?_⟩; rintro _ _ ⟨rfl, rfl⟩ <;> (refine And.intro (by simp [gRowsP, grounds, D.ground, Route.row, irow]) ?_; conv => whnf)) | (refine Or.inr (Or.inr ?_); (conv => whnf); (repeat (refine And.intro (by first | omega | (simp; done) | (simp; omega)) ?_; (conv => whnf))); refine ⟨_, ht, ?_⟩; rintro _ _ ⟨rfl, rfl⟩ <;> (refine And.intro (by simp [gRowsP, grounds, D.ground, Route.row, irow]) ?_; conv => whnf)) | (refine Or.inr (Or.inr (Or.inr ?_)); (conv => whnf); (repeat (refine And.intro (by first | omega | (simp; done) | (simp; omega)) ?_; (conv => whnf))); refine ⟨_, points_at hb1 hb2 hl hok rfl, ?_⟩; rintro _ _ ⟨rfl, rfl⟩ <;> (refine And.intro (by simp [gRowsP, grounds, D.ground, Route.row, irow]) ?_; conv => whnf)) | (refine Or.inr (Or.inr ?_); (conv => whnf); (repeat (refine And.intro (by first | omega | (simp; done) | (simp; omega)) ?_; (conv => whnf))); refine ⟨_, points_at hb1 hb2 hl hok rfl, ?_⟩; rintro _ _ ⟨rfl, rfl⟩ <;> (refine And.intro (by simp [gRowsP, grounds, D.ground, Route.row, irow]) ?_; conv => whnf)) | (refine rd rfl (by assumption) ?_; conv => whnf) | (refine ⟨_, .inl ⟨rfl, rfl⟩, ?_⟩; conv => whnf) | (refine ⟨_, _, rfl, rfl, ?_⟩; conv => whnf) | (refine ⟨fun _ => ?_, fun _ => ?_⟩ <;> (conv => whnf) <;> (try (exfalso; omega))) | (refine And.intro (by first | omega | rfl | (simp; done) | (simp; omega)) ?_; conv => whnf) | (refine num_any ?_; conv => whnf) | (refine ⟨_, rfl, ?_⟩; conv => whnf) | fail)
    · refine Or.inl ?_; (conv => whnf)
      rfl
    refine Ok.loopU [0, 1, 5, 7, 9] [10] 3 0 (fun (i : Nat) => [.i .i64 (i : Nat)]) (fun _ b => b) (fun (i : Nat) (_ : Vx.Rows) => [some (68, o.map Route.row), some (68, s.map Route.row), some (3, (ptsF bits l).map irow)]) (fun (i : Nat) => i ≤ (ptsF bits l).length) (fun (i : Nat) => (ptsF bits l).length - i) (0) (Nat.zero_le _) ?_; (conv => whnf); refine ⟨by ((conv => whnf); first | rfl | (simp [envCat, List.take_of_length_le, Route.row, irow]; done) | (simp [envCat, List.take_of_length_le, Route.row, irow]; rw [IntKind.wrap_i64]; omega)), ?_⟩
    rintro i hi
    by_cases hip : i < (ptsF bits l).length
    · obtain ⟨v, hv⟩ : ∃ x, (ptsF bits l)[i]? = some x := ⟨_, List.getElem?_eq_getElem hip⟩
      obtain ⟨hv0, hv1⟩ := pts_in hok (List.mem_of_getElem? hv)
      have ha := hO.all v
      have hb := hO.slim v hv0 hv1
      have hsok := hO.sok
      rw [hsl] at hb hsok
      (try (conv => whnf)); repeat' (first | refine Ok.seq ?_ | (refine Ok.region tok ?_; conv => whnf) | (refine Ok.region_draw tok follows (by kernel_rfl) ?_; conv => whnf) | (refine Ok.cond ?_; conv => whnf) | refine Ok.block ?_ | (refine Ok.skip ?_; conv => whnf) | (refine Ok.exit ?_; conv => whnf) | (refine Ok.ret ?_; conv => whnf) | (refine num_in (by omega) (by omega) ?_; conv => whnf) | (refine ix _ (by assumption) ?_; conv => whnf) | (refine ixI (by omega) (by assumption) ?_; conv => whnf) | (refine ix_new _ (by omega) fun _ _ => ?_; conv => whnf) | (refine ixI_new (by omega) (by omega) fun _ _ => ?_; conv => whnf) | (refine Or.inl ?_; (conv => whnf); (repeat (refine And.intro (by first | omega | (simp; done) | (simp; omega)) ?_; (conv => whnf))); refine ⟨_, out_to hb2 hl hok rfl rfl, rfl, ?_⟩; conv => whnf) | (refine Or.inl ?_; (conv => whnf); (repeat (refine And.intro (by first | omega | (simp; done) | (simp; omega)) ?_; (conv => whnf))); refine ⟨_, out_to hb2 (by omega) hO.ok ha (take_all _ _), rfl, ?_⟩; conv => whnf) | (refine Or.inl ?_; (conv => whnf); (repeat (refine And.intro (by first | omega | (simp; done) | (simp; omega)) ?_; (conv => whnf))); refine ⟨_, out_to hb2 (by omega) hsok hb (take_all _ _), rfl, ?_⟩; conv => whnf) | (refine ⟨_, out_to hb2 hl hok rfl rfl, rfl, ?_⟩; conv => whnf) | (refine ⟨_, out_to hb2 (by omega) hO.ok ha (take_all _ _), rfl, ?_⟩; conv => whnf) | (refine ⟨_, out_to hb2 (by omega) hsok hb (take_all _ _), rfl, ?_⟩; conv => whnf) | (refine Or.inr (Or.inl ?_); (conv => whnf); (repeat (refine And.intro (by first | omega | (simp; done) | (simp; omega)) ?_; (conv => whnf))); refine ⟨_, out_to hb2 hl hok rfl rfl, ?_⟩; rintro _ _ ⟨rfl, rfl⟩; conv => whnf) | (refine Or.inr (Or.inl ?_); (conv => whnf); (repeat (refine And.intro (by first | omega | (simp; done) | (simp; omega)) ?_; (conv => whnf))); refine ⟨_, out_to hb2 (by omega) hO.ok ha (take_all _ _), ?_⟩; rintro _ _ ⟨rfl, rfl⟩; conv => whnf) | (refine Or.inr (Or.inl ?_); (conv => whnf); (repeat (refine And.intro (by first | omega | (simp; done) | (simp; omega)) ?_; (conv => whnf))); refine ⟨_, out_to hb2 (by omega) hsok hb (take_all _ _), ?_⟩; rintro _ _ ⟨rfl, rfl⟩; conv => whnf) | (refine rd rfl (by assumption) ?_; conv => whnf) | (refine ⟨_, .inl ⟨rfl, rfl⟩, ?_⟩; conv => whnf) | (refine ⟨_, _, rfl, rfl, ?_⟩; conv => whnf) | (refine ⟨fun _ => ?_, fun _ => ?_⟩ <;> (conv => whnf) <;> (try (exfalso; omega))) | (refine And.intro (by first | omega | rfl | (simp; done) | (simp; omega)) ?_; conv => whnf) | (refine num_any ?_; conv => whnf) | (refine ⟨_, rfl, ?_⟩; conv => whnf) | fail)
      refine ⟨i + 1, by omega, by omega, ?_⟩
      (conv => whnf); (first | rfl | simp [envCat, List.take_of_length_le, Route.row, irow])
    · (try (conv => whnf)); repeat' (first | refine Ok.seq ?_ | (refine Ok.region tok ?_; conv => whnf) | (refine Ok.region_draw tok follows (by kernel_rfl) ?_; conv => whnf) | (refine Ok.cond ?_; conv => whnf) | refine Ok.block ?_ | (refine Ok.skip ?_; conv => whnf) | (refine Ok.exit ?_; conv => whnf) | (refine Ok.ret ?_; conv => whnf) | (refine num_in (by omega) (by omega) ?_; conv => whnf) | (refine ix _ (by assumption) ?_; conv => whnf) | (refine ixI (by omega) (by assumption) ?_; conv => whnf) | (refine ix_new _ (by omega) fun _ _ => ?_; conv => whnf) | (refine ixI_new (by omega) (by omega) fun _ _ => ?_; conv => whnf) | (refine rd rfl (by assumption) ?_; conv => whnf) | (refine ⟨_, .inl ⟨rfl, rfl⟩, ?_⟩; conv => whnf) | (refine ⟨_, _, rfl, rfl, ?_⟩; conv => whnf) | (refine ⟨fun _ => ?_, fun _ => ?_⟩ <;> (conv => whnf) <;> (try (exfalso; omega))) | (refine And.intro (by first | omega | rfl | (simp; done) | (simp; omega)) ?_; conv => whnf) | (refine num_any ?_; conv => whnf) | (refine ⟨_, rfl, ?_⟩; conv => whnf) | fail)
      refine Or.inl ?_; (conv => whnf)
      exact b_eq ⟨fun _ => trivial, fun _ => by omega⟩
  · have hoE : ordE bits l = [] := by unfold ordE; rw [if_pos h1]
    have hsE : slimE bits l = [] := by unfold slimE; rw [if_pos h1]
    rw [hoE] at hs
    rw [hsE] at ht
    (try (conv => whnf)); repeat' (first | refine Ok.seq ?_ | (refine Ok.region tok ?_; conv => whnf) | (refine Ok.region_draw tok follows (by kernel_rfl) ?_; conv => whnf) | (refine Ok.cond ?_; conv => whnf) | refine Ok.block ?_ | (refine Ok.skip ?_; conv => whnf) | (refine Ok.exit ?_; conv => whnf) | (refine Ok.ret ?_; conv => whnf) | (refine num_in (by omega) (by omega) ?_; conv => whnf) | (refine ix _ (by assumption) ?_; conv => whnf) | (refine ixI (by omega) (by assumption) ?_; conv => whnf) | (refine ix_new _ (by omega) fun _ _ => ?_; conv => whnf) | (refine ixI_new (by omega) (by omega) fun _ _ => ?_; conv => whnf) | (refine Or.inl ?_; (conv => whnf); (repeat (refine And.intro (by first | omega | (simp; done) | (simp; omega)) ?_; (conv => whnf))); refine ⟨_, awake_spec, rfl, ?_⟩; conv => whnf) | (refine ⟨_, awake_spec, rfl, ?_⟩; conv => whnf) | (refine Or.inr (Or.inl ?_); (conv => whnf); (repeat (refine And.intro (by first | omega | (simp; done) | (simp; omega)) ?_; (conv => whnf))); refine ⟨_, awake_spec, ?_⟩; rintro _ _ ⟨rfl, rfl⟩; conv => whnf) | (refine Or.inr (Or.inr (Or.inr ?_)); (conv => whnf); (repeat (refine And.intro (by first | omega | (simp; done) | (simp; omega)) ?_; (conv => whnf))); refine ⟨_, hs, ?_⟩; rintro _ _ ⟨rfl, rfl⟩ <;> (refine And.intro (by simp [gRowsP, grounds, D.ground, Route.row, irow]) ?_; conv => whnf)) | (refine Or.inr (Or.inr ?_); (conv => whnf); (repeat (refine And.intro (by first | omega | (simp; done) | (simp; omega)) ?_; (conv => whnf))); refine ⟨_, hs, ?_⟩; rintro _ _ ⟨rfl, rfl⟩ <;> (refine And.intro (by simp [gRowsP, grounds, D.ground, Route.row, irow]) ?_; conv => whnf)) | (refine Or.inr (Or.inr (Or.inr ?_)); (conv => whnf); (repeat (refine And.intro (by first | omega | (simp; done) | (simp; omega)) ?_; (conv => whnf))); refine ⟨_, ht, ?_⟩; rintro _ _ ⟨rfl, rfl⟩ <;> (refine And.intro (by simp [gRowsP, grounds, D.ground, Route.row, irow]) ?_; conv => whnf)) | (refine Or.inr (Or.inr ?_); (conv => whnf); (repeat (refine And.intro (by first | omega | (simp; done) | (simp; omega)) ?_; (conv => whnf))); refine ⟨_, ht, ?_⟩; rintro _ _ ⟨rfl, rfl⟩ <;> (refine And.intro (by simp [gRowsP, grounds, D.ground, Route.row, irow]) ?_; conv => whnf)) | (refine rd rfl (by assumption) ?_; conv => whnf) | (refine ⟨_, .inl ⟨rfl, rfl⟩, ?_⟩; conv => whnf) | (refine ⟨_, _, rfl, rfl, ?_⟩; conv => whnf) | (refine ⟨fun _ => ?_, fun _ => ?_⟩ <;> (conv => whnf) <;> (try (exfalso; omega))) | (refine And.intro (by first | omega | rfl | (simp; done) | (simp; omega)) ?_; conv => whnf) | (refine num_any ?_; conv => whnf) | (refine ⟨_, rfl, ?_⟩; conv => whnf) | fail)
    all_goals first
      | exact absurd rfl (by assumption)
      | (refine Or.inl ?_; (conv => whnf); rfl)
      | (refine Or.inl ?_; (conv => whnf); exact b_eq ⟨fun _ => trivial, fun _ => rfl⟩)
theorem same_row (B : Nat) : ∃ ls, shapes T 9 [3, 36] = some ls ∧ ∀ xs, TyAs T B [3, 36] ls xs → FSpec Try.prog T 8 xs (fun d _ => d = .b True) := by
  refine ⟨_, rfl, fun xs h => ?_⟩
  obtain ⟨_, _, rfl, h0, h⟩ := as_cons h
  obtain ⟨_, _, rfl, h1, h⟩ := as_cons h
  obtain rfl := as_nil h
  obtain ⟨bits, rfl, _⟩ := int_of (leaf h0 rfl)
  obtain ⟨l, room, rfl, _⟩ := lst_of (leaf h1 rfl) route_of
  exact same_law _ _ _
end Go.Proofs.Ytgelaefpbdfnfaa
