/- The walks and the plain laws that a law of spaces needs, part 5 of 7. -/
import Derived.Test.YtaiondckookpiaaGreatDoorPXD
import Derived.Tactics
import Derived.Tactics2
set_option linter.unusedVariables false
set_option linter.unusedSimpArgs false
namespace Go.Proofs.YtaiondckookpiaaGreatDoor
open Go Go.Vx
set_option maxHeartbeats 4000000 in
theorem size_at (bits : Int) (l : List TR) {rl room : List (List D)} (hl : l.length ≤ 1048576) (hok : ∀ x ∈ l, x.t.less.length ≤ 1048576) (h : rl = l.map trow) : FSpec Tryz.prog T 60 [.agg [.i .i64 bits, .lst 112 rl room]] (fun d _ => d = .i .i64 (szT (l.map TR.t) : Nat)) := by
  subst h
  have hll : (l.map trow).length = l.length := by simp
  refine FSpec.of_ok tok Tryz.func60 rfl Tryz.call60 (by simp) ?_
  (try (conv => whnf)); repeat' (first | refine Ok.seq ?_ | refine OkL.cons ?_ | ((first | refine Ok.region tok ?_ | refine Ok.region_draw tok follows (by kernel_rfl) ?_ | refine Ok.cond ?_); conv => whnf) | refine Ok.block ?_ | ((first | refine Ok.skip ?_ | refine Ok.exit ?_ | refine Ok.ret ?_ | refine nI ?_ | refine ix _ (by assumption) ?_ | refine ixI (by omega) (by assumption) ?_ | refine ix_new _ (by omega) fun _ _ => ?_ | refine ixI_new (by omega) (by omega) fun _ _ => ?_ | refine ⟨_, by assumption, ?_⟩ | refine Alt2.l (aI ?_) | refine Alt2.r (aI ?_)); conv => whnf) | (refine Ok.scope ?_) | ((first | refine Ok.label ?_ | refine rd rfl (by assumption) ?_ | refine ⟨_, .inl ⟨rfl, rfl⟩, ?_⟩ | refine ⟨_, _, rfl, rfl, ?_⟩); conv => whnf) | (refine ⟨fun _ => ?_, fun _ => ?_⟩ <;> (conv => whnf) <;> (try (exfalso; omega))) | ((first | refine aJ ?_ | refine num_any ?_ | refine ⟨_, rfl, ?_⟩); conv => whnf) | fail)
  refine Ok.loopU [7, 8] [3, 9] 0 1 (fun (i : Nat) => [.i .i64 (szT ((l.take i).map TR.t) : Nat), .i .i64 (i : Nat)]) (fun _ b => b) (fun _ r => r) (fun (i : Nat) => i ≤ l.length) (fun (i : Nat) => l.length - i) (0) (Nat.zero_le _) ?_; (conv => whnf); refine ⟨by ((conv => whnf); first | rfl | (simp [envCat, List.take_of_length_le, cells9, crow, trow]; done) | (simp [envCat, List.take_of_length_le, cells9, crow, trow]; rw [IntKind.wrap_i64]; omega)), ?_⟩
  rintro i hi
  have hs : szT ((l.take i).map TR.t) ≤ 1048576 * 1048577 := by
    refine Nat.le_trans (szT_le fun t ht => ?_) (Nat.mul_le_mul_right _ (by simp; omega))
    obtain ⟨x, hx, rfl⟩ := List.mem_map.1 ht
    exact hok x (List.mem_of_mem_take hx)
  (conv => whnf)
  by_cases hil : i < l.length
  · obtain ⟨x, hx⟩ : ∃ x, l[i]? = some x := ⟨_, List.getElem?_eq_getElem hil⟩
    have hxo := hok x (List.mem_of_getElem? hx)
    have hxl : (x.t.less.map crow).length = x.t.less.length := by simp
    have hnx : szT ((l.take (i + 1)).map TR.t) = szT ((l.take i).map TR.t) + (1 + x.t.less.length) := by rw [take_snoc hx, List.map_append]; exact szT_snoc _ _
    generalize szT ((l.take i).map TR.t) = S at *
    (try (conv => whnf)); repeat' (first | refine Ok.seq ?_ | refine OkL.cons ?_ | ((first | refine Ok.region tok ?_ | refine Ok.region_draw tok follows (by kernel_rfl) ?_ | refine Ok.cond ?_); conv => whnf) | refine Ok.block ?_ | ((first | refine Ok.skip ?_ | refine Ok.exit ?_ | refine Ok.ret ?_ | refine nI ?_ | refine ix _ (by assumption) ?_ | refine ixI (by omega) (by assumption) ?_ | refine ix_new _ (by omega) fun _ _ => ?_ | refine ixI_new (by omega) (by omega) fun _ _ => ?_ | refine ⟨_, by assumption, ?_⟩ | refine Alt2.l (aI ?_) | refine Alt2.r (aI ?_)); conv => whnf) | (refine Ok.scope ?_) | ((first | refine Ok.label ?_ | refine rd rfl (by assumption) ?_ | refine ⟨_, .inl ⟨rfl, rfl⟩, ?_⟩ | refine ⟨_, _, rfl, rfl, ?_⟩); conv => whnf) | (refine ⟨fun _ => ?_, fun _ => ?_⟩ <;> (conv => whnf) <;> (try (exfalso; omega))) | ((first | refine aJ ?_ | refine num_any ?_ | refine ⟨_, rfl, ?_⟩); conv => whnf) | fail)
    refine ⟨i + 1, by omega, by omega, ?_⟩
    rw [hnx]
    (conv => whnf)
    simp [envCat]
  · have hie : i = l.length := by omega
    subst hie
    rw [List.take_length]
    (try (conv => whnf)); repeat' (first | refine Ok.seq ?_ | refine OkL.cons ?_ | ((first | refine Ok.region tok ?_ | refine Ok.region_draw tok follows (by kernel_rfl) ?_ | refine Ok.cond ?_); conv => whnf) | refine Ok.block ?_ | ((first | refine Ok.skip ?_ | refine Ok.exit ?_ | refine Ok.ret ?_ | refine nI ?_ | refine ix _ (by assumption) ?_ | refine ixI (by omega) (by assumption) ?_ | refine ix_new _ (by omega) fun _ _ => ?_ | refine ixI_new (by omega) (by omega) fun _ _ => ?_ | refine ⟨_, by assumption, ?_⟩ | refine Alt2.l (aI ?_) | refine Alt2.r (aI ?_)); conv => whnf) | (refine Ok.scope ?_) | ((first | refine Ok.label ?_ | refine rd rfl (by assumption) ?_ | refine ⟨_, .inl ⟨rfl, rfl⟩, ?_⟩ | refine ⟨_, _, rfl, rfl, ?_⟩); conv => whnf) | (refine ⟨fun _ => ?_, fun _ => ?_⟩ <;> (conv => whnf) <;> (try (exfalso; omega))) | ((first | refine aJ ?_ | refine num_any ?_ | refine ⟨_, rfl, ?_⟩); conv => whnf) | fail)
    refine Or.inl ?_; (conv => whnf)
    rfl
theorem grG_map {α β : Type} (f : α → β) (R : β → β → Prop) (l : List α) : (grG (fun a b => R (f a) (f b)) l).map f = grG R (l.map f) := by
  have step : ∀ (k : List α) (x : α), (addG (fun a b => R (f a) (f b)) k x).map f = addG R (k.map f) (f x) := by
    intro k x
    by_cases h : ∃ y ∈ k, R (f x) (f y)
    · rw [addG_in h, addG_in (by obtain ⟨y, h1, h2⟩ := h; exact ⟨f y, List.mem_map_of_mem h1, h2⟩)]
    · have h1 : ∀ y ∈ k, ¬ R (f x) (f y) := fun y hy h2 => h ⟨y, hy, h2⟩
      rw [addG_out (R := fun a b => R (f a) (f b)) h1, addG_out (R := R) (by
        intro y hy
        obtain ⟨z, hz, rfl⟩ := List.mem_map.1 hy
        exact h1 z hz)]
      rw [List.map_append, List.filter_map]
      rfl
  have go : ∀ (l k : List α), (l.foldl (addG (fun a b => R (f a) (f b))) k).map f = (l.map f).foldl (addG R) (k.map f) := by
    intro l
    induction l with
    | nil => intro k; rfl
    | cons x l ih => intro k; rw [List.foldl_cons, ih, step]; rfl
  exact go l []
theorem grG_len {α : Type} (R : α → α → Prop) (l : List α) : (grG R l).length ≤ l.length := by
  have step : ∀ (k : List α) (x : α), (addG R k x).length ≤ k.length + 1 := by
    intro k x
    by_cases h : ∃ y ∈ k, R x y
    · rw [addG_in h]; omega
    · rw [addG_out (fun y hy h2 => h ⟨y, hy, h2⟩), List.length_append]
      exact Nat.add_le_add_right (List.length_filter_le _ _) 1
  have go : ∀ (l k : List α), (l.foldl (addG R) k).length ≤ k.length + l.length := by
    intro l
    induction l with
    | nil => intro k; simp
    | cons x l ih =>
      intro k
      have h1 := ih (addG R k x)
      have h2 := step k x
      simp only [List.foldl_cons, List.length_cons]
      omega
  show (l.foldl (addG R) []).length ≤ l.length
  have := go l []
  simpa using this
def passedV : Value := .iface 154 (.agg #[])
structure TO (n : Nat) (x : TR) : Prop where
  tn : TN x
  ok : x.t.Ok n
set_option maxRecDepth 100000 in
set_option maxHeartbeats 8000000 in
theorem form_at (bits : Int) (n : Nat) (l : List TR) {rl room : List (List D)} (hl : l.length ≤ 1048576) (hok : ∀ x ∈ l, TO n x) (h : rl = l.map trow) (hsz : szT (formT (l.map TR.t)) ≤ 128) :
    FSpec Tryz.prog T 65 [.i .i64 bits, .lst 112 rl room] (fun d rows => ∃ (ks : List TR) (rm : List (List D)), d = .agg [.i .i64 bits, .lst 112 (ks.map trow) rm] ∧ rows = [] ∧ ks.map TR.t = formT (l.map TR.t) ∧ ∀ x ∈ ks, x ∈ l) := by
  subst h
  refine FSpec.of_ok tok Tryz.func65 rfl Tryz.call65 (by simp) ?_
  refine Ok.seq ?_
  (refine Ok.region tok ?_; conv => whnf)
  refine Ok.seq ?_
  (refine Ok.region tok ?_; conv => whnf)
  right
  left
  (conv => whnf)
  refine ⟨_, greatestT_at l hl (fun x hx => (hok x hx).tn) rfl, ?_⟩
  rintro d rows ⟨W, hW, rfl, rfl⟩
  have hWk := hW.n
  have hWt := hW.tk
  rw [List.take_length] at hWk hWt
  have hKl : (grG covR l).map TR.t = grG covT (l.map TR.t) := grG_map TR.t covT l
  have hKm : ∀ x ∈ grG covR l, x ∈ l := grG_sub covR l
  have hKn := grG_len covR l
  have hWw := hW.w
  have hkp : (W.map trow).length = W.length := by simp
  generalize grG covR l = K at *
  have hkeys : ∀ x ∈ (W.map trow).take K.length, ∃ l, x[10]? = some (.s l) := by
    intro x hx
    obtain ⟨y, _, rfl⟩ := List.mem_map.1 (List.mem_of_mem_take hx)
    exact ⟨y.t.key, rfl⟩
  have htk : (W.map trow).take K.length = K.map trow := by rw [← List.map_take, hWt]
  (conv => whnf)
  refine Ok.seq ?_
  refine Ok.sortSlice tok sort_term (by (conv => whnf); exact ⟨rfl, rfl⟩) rfl rfl rfl (by rw [hkp]; exact hWk) rfl (by decide) (by decide) hkeys (by omega) ?_
  intro ys hperm hup
  rw [htk] at hperm
  obtain ⟨ks, hks, rfl⟩ := perm_map_ex hperm _ rfl
  have hkl : ks.length = K.length := hks.length_eq
  have hsort : (ks.map TR.t).Pairwise fun t u => Op.bytesLess u.key t.key ≠ true := by
    unfold RowsUp at hup
    rw [List.pairwise_map] at hup ⊢
    refine hup.imp fun {a b} h => ?_
    have h2 := h a.t.key b.t.key rfl rfl
    rw [h2]
    decide
  have hform : ks.map TR.t = formT (l.map TR.t) := formT_eq (n := n) (fun t ht => by
    obtain ⟨x, hx, rfl⟩ := List.mem_map.1 ht
    exact (hok x hx).ok) (by rw [← hKl]; exact hks.map _) hsort
  have hmem : ∀ x ∈ ks, x ∈ l := fun x hx => hKm x (hks.mem_iff.1 hx)
  have hrow : ((ks.map trow ++ (W.map trow).drop K.length).take K.length) = ks.map trow := by
    rw [← hkl]
    exact List.take_left' (by simp)
  have hrl : (ks.map trow ++ (W.map trow).drop K.length).length = W.length := by simp; omega
  clear hup hperm hkeys
  rw [← hform] at hsz
  (conv => whnf)
  (try (conv => whnf)); repeat' (first | refine Ok.seq ?_ | refine OkL.cons ?_ | ((first | refine Ok.region tok ?_ | refine Ok.region_draw tok follows (by kernel_rfl) ?_ | refine Ok.cond ?_); conv => whnf) | refine Ok.block ?_ | ((first | refine Ok.skip ?_ | refine Ok.exit ?_ | refine Ok.ret ?_ | refine nI ?_ | refine ix _ (by assumption) ?_ | refine ixI (by omega) (by assumption) ?_ | refine ix_new _ (by omega) fun _ _ => ?_ | refine ixI_new (by omega) (by omega) fun _ _ => ?_ | refine ⟨_, by assumption, ?_⟩); conv => whnf) | (refine Or.inl ?_; (conv => whnf); (repeat (refine aI ?_; conv => whnf)); refine ⟨_, size_at bits ks (by omega) (fun x hx => (hok x (hmem x hx)).tn.n) hrow, rfl, ?_⟩; conv => whnf) | (refine ⟨_, size_at bits ks (by omega) (fun x hx => (hok x (hmem x hx)).tn.n) hrow, rfl, ?_⟩; conv => whnf) | (refine Or.inr (Or.inl ?_); (conv => whnf); (repeat (refine aI ?_; conv => whnf)); refine ⟨_, size_at bits ks (by omega) (fun x hx => (hok x (hmem x hx)).tn.n) hrow, ?_⟩; rintro _ _ ⟨rfl, rfl⟩; conv => whnf) | ((first | refine Alt2.l (aI ?_) | refine Alt2.r (aI ?_)); conv => whnf) | (refine Ok.scope ?_) | ((first | refine Ok.label ?_ | refine rd rfl (by assumption) ?_ | refine ⟨_, .inl ⟨rfl, rfl⟩, ?_⟩ | refine ⟨_, _, rfl, rfl, ?_⟩); conv => whnf) | (refine ⟨fun _ => ?_, fun _ => ?_⟩ <;> (conv => whnf) <;> (try (exfalso; omega))) | ((first | refine aJ ?_ | refine num_any ?_ | refine ⟨_, rfl, ?_⟩); conv => whnf) | fail)
  refine Or.inl ?_; (conv => whnf)
  rw [hrow]
  exact ⟨ks, _, rfl, rfl, hform, hmem⟩
set_option maxRecDepth 100000 in
set_option maxHeartbeats 8000000 in
theorem form_pan (bits : Int) (n : Nat) (l : List TR) {rl room : List (List D)} (hl : l.length ≤ 1048576) (hok : ∀ x ∈ l, TO n x) (h : rl = l.map trow) (hsz : 128 < szT (formT (l.map TR.t))) :
    PSpec Tryz.prog T 65 [.i .i64 bits, .lst 112 rl room] passedV := by
  subst h
  refine PSpec.of_ok Tryz.func65 rfl Tryz.call65 (by simp) ?_
  refine Ok.seq ?_
  (refine Ok.region tok ?_; conv => whnf)
  refine Ok.seq ?_
  (refine Ok.region tok ?_; conv => whnf)
  right
  left
  (conv => whnf)
  refine ⟨_, greatestT_at l hl (fun x hx => (hok x hx).tn) rfl, ?_⟩
  rintro d rows ⟨W, hW, rfl, rfl⟩
  have hWk := hW.n
  have hWt := hW.tk
  rw [List.take_length] at hWk hWt
  have hKl : (grG covR l).map TR.t = grG covT (l.map TR.t) := grG_map TR.t covT l
  have hKm : ∀ x ∈ grG covR l, x ∈ l := grG_sub covR l
  have hKn := grG_len covR l
  have hWw := hW.w
  have hkp : (W.map trow).length = W.length := by simp
  generalize grG covR l = K at *
  have hkeys : ∀ x ∈ (W.map trow).take K.length, ∃ l, x[10]? = some (.s l) := by
    intro x hx
    obtain ⟨y, _, rfl⟩ := List.mem_map.1 (List.mem_of_mem_take hx)
    exact ⟨y.t.key, rfl⟩
  have htk : (W.map trow).take K.length = K.map trow := by rw [← List.map_take, hWt]
  (conv => whnf)
  refine Ok.seq ?_
  refine Ok.sortSlice tok sort_term (by (conv => whnf); exact ⟨rfl, rfl⟩) rfl rfl rfl (by rw [hkp]; exact hWk) rfl (by decide) (by decide) hkeys (by omega) ?_
  intro ys hperm hup
  rw [htk] at hperm
  obtain ⟨ks, hks, rfl⟩ := perm_map_ex hperm _ rfl
  have hkl : ks.length = K.length := hks.length_eq
  have hsort : (ks.map TR.t).Pairwise fun t u => Op.bytesLess u.key t.key ≠ true := by
    unfold RowsUp at hup
    rw [List.pairwise_map] at hup ⊢
    refine hup.imp fun {a b} h => ?_
    have h2 := h a.t.key b.t.key rfl rfl
    rw [h2]
    decide
  have hform : ks.map TR.t = formT (l.map TR.t) := formT_eq (n := n) (fun t ht => by
    obtain ⟨x, hx, rfl⟩ := List.mem_map.1 ht
    exact (hok x hx).ok) (by rw [← hKl]; exact hks.map _) hsort
  have hmem : ∀ x ∈ ks, x ∈ l := fun x hx => hKm x (hks.mem_iff.1 hx)
  have hrow : ((ks.map trow ++ (W.map trow).drop K.length).take K.length) = ks.map trow := by
    rw [← hkl]
    exact List.take_left' (by simp)
  have hrl : (ks.map trow ++ (W.map trow).drop K.length).length = W.length := by simp; omega
  clear hup hperm hkeys
  rw [← hform] at hsz
  (conv => whnf)
  (try (conv => whnf)); repeat' (first | (refine Ok.region_throw (fun _ => by kernel_rfl) (by kernel_rfl) (by decide) (by decide) ?_) | refine Ok.seq ?_ | refine OkL.cons ?_ | ((first | refine Ok.region tok ?_ | refine Ok.region_draw tok follows (by kernel_rfl) ?_ | refine Ok.cond ?_); conv => whnf) | refine Ok.block ?_ | ((first | refine Ok.skip ?_ | refine Ok.exit ?_ | refine Ok.ret ?_ | refine nI ?_ | refine ix _ (by assumption) ?_ | refine ixI (by omega) (by assumption) ?_ | refine ix_new _ (by omega) fun _ _ => ?_ | refine ixI_new (by omega) (by omega) fun _ _ => ?_ | refine ⟨_, by assumption, ?_⟩); conv => whnf) | (refine Or.inl ?_; (conv => whnf); (repeat (refine aI ?_; conv => whnf)); refine ⟨_, size_at bits ks (by omega) (fun x hx => (hok x (hmem x hx)).tn.n) hrow, rfl, ?_⟩; conv => whnf) | (refine ⟨_, size_at bits ks (by omega) (fun x hx => (hok x (hmem x hx)).tn.n) hrow, rfl, ?_⟩; conv => whnf) | (refine Or.inr (Or.inl ?_); (conv => whnf); (repeat (refine aI ?_; conv => whnf)); refine ⟨_, size_at bits ks (by omega) (fun x hx => (hok x (hmem x hx)).tn.n) hrow, ?_⟩; rintro _ _ ⟨rfl, rfl⟩; conv => whnf) | ((first | refine Alt2.l (aI ?_) | refine Alt2.r (aI ?_)); conv => whnf) | (refine Ok.scope ?_) | ((first | refine Ok.label ?_ | refine rd rfl (by assumption) ?_ | refine ⟨_, .inl ⟨rfl, rfl⟩, ?_⟩ | refine ⟨_, _, rfl, rfl, ?_⟩); conv => whnf) | (refine ⟨fun _ => ?_, fun _ => ?_⟩ <;> (conv => whnf) <;> (try (exfalso; omega))) | ((first | refine aJ ?_ | refine num_any ?_ | refine ⟨_, rfl, ?_⟩); conv => whnf) | fail)
  rfl
end Go.Proofs.YtaiondckookpiaaGreatDoor
namespace Go.Proofs.YtaiondckookpiaaGreatDoor
open Go Go.Vx
@[reducible] def srow (s : Str) : List D := [.s s]
noncomputable def PK (p : Str) (less : List Str) : List Str := (metL p less).foldl (putG inL blt) []
open Classical in
theorem putG_len {α : Type} (R L : α → α → Prop) (k : List α) (c : α) : (putG R L k c).length ≤ k.length + 1 := by
  unfold putG
  split
  · omega
  · rw [(insG_perm L c _).length_eq, List.length_cons]
    exact Nat.add_le_add_right (List.length_filter_le _ _) 1
theorem PK_len (p : Str) (less : List Str) (i : Nat) : (PK p (less.take i)).length ≤ i := by
  have go : ∀ (l k : List Str), (l.foldl (putG inL blt) k).length ≤ k.length + l.length := by
    intro l
    induction l with
    | nil => intro k; simp
    | cons x l ih =>
      intro k
      have h1 := ih (putG inL blt k x)
      have h2 := putG_len inL blt k x
      simp only [List.foldl_cons, List.length_cons]
      omega
  have h1 := go (metL p (less.take i)) []
  have h2 := metL_le p (less.take i)
  have h3 := List.length_take_le i less
  unfold PK
  simp only [List.length_nil] at h1
  omega
theorem PK_mem {p : Str} {less : List Str} {c : Str} (h : c ∈ PK p less) : c ∈ metL p less :=
  (putG_fold (R := inL) (L := blt) inL_refl (fun _ _ _ => inL_trans) blt_trans blt_total (metL p less)).1.sub c h
theorem termT_pk0 {p : Str} {less : List Str} (h : PK p less = [p]) : termT p less = none := by
  unfold PK at h
  unfold termT
  simp only
  rw [if_pos h]
theorem termT_pk1 {p : Str} {less : List Str} (h : PK p less ≠ [p]) : termT p less = some ⟨p, PK p less⟩ := by
  unfold PK at h
  unfold termT
  simp only
  rw [if_neg h]
  rfl
@[reducible] def drow (x : TR) : List D := [.s x.t.p, .lst 9 (x.t.less.map srow) x.room]
end Go.Proofs.YtaiondckookpiaaGreatDoor
namespace Go.Proofs.YtaiondckookpiaaGreatDoor
open Go Go.Vx
theorem tTail_nil : tTail [] = [] := rfl
theorem szS_eq (l : List Term) : szT l = szS l := rfl
structure SpOk (n : Nat) (l : List TR) : Prop where
  n256 : n ≤ 256
  size : szS (l.map TR.t) ≤ 1048576
  wide : ∀ x ∈ l, x.t.wide n
  pos : l ≠ [] → 0 < n
theorem SpOk.nil {n : Nat} (h : n ≤ 256) : SpOk n [] := ⟨h, by simp [szS], by simp, fun h => absurd rfl h⟩
theorem SpOk.len {n : Nat} {l : List TR} (h : SpOk n l) : l.length ≤ 1048576 := by
  have h1 := szS_len (l.map TR.t)
  have h2 := h.size
  rw [List.length_map] at h1
  omega
theorem SpOk.less {n : Nat} {l : List TR} (h : SpOk n l) {x : TR} (hx : x ∈ l) : x.t.less.length ≤ 1048576 := by
  have h1 := szS_mem (List.mem_map_of_mem (f := TR.t) hx)
  have h2 := h.size
  omega
theorem SpOk.w256 {n : Nat} {l : List TR} (h : SpOk n l) : ∀ t ∈ l.map TR.t, t.p.length ≤ 256 ∧ ∀ m ∈ t.less, m.length ≤ 256 := by
  intro t ht
  obtain ⟨x, hx, rfl⟩ := List.mem_map.1 ht
  have h1 := h.wide x hx
  have h2 := h.n256
  exact ⟨by rw [h1.1]; exact h2, fun m hm => by rw [h1.2 m hm]; exact h2⟩
theorem SpOk.sep {n : Nat} {l : List TR} (h : SpOk n l) (i : Nat) : (sepT ((l.map TR.t).take i)).length ≤ 257 * 1048576 := by
  have h1 := sepT_len (l := (l.map TR.t).take i) fun t ht => h.w256 t (List.mem_of_mem_take ht)
  have h2 := szS_take (l.map TR.t) i
  have h3 := h.size
  omega
theorem SpOk.pre {n : Nat} {l : List TR} (h : SpOk n l) (i : Nat) : (preT (l.map TR.t) i).length ≤ 257 * 1048576 + 1 := by
  unfold preT
  split
  · simp
  · have := h.sep i
    rw [List.length_append, List.length_singleton]
    omega
theorem SpOk.tail {n : Nat} {l : List TR} (h : SpOk n l) {x : TR} (hx : x ∈ l) (j : Nat) : (tTail (x.t.less.take j)).length ≤ 257 * 1048576 := by
  have h1 := tTail_len (l := x.t.less.take j) fun m hm => (h.w256 x.t (List.mem_map_of_mem hx)).2 m (List.mem_of_mem_take hm)
  have h2 := h.less hx
  have h3 : (x.t.less.take j).length ≤ x.t.less.length := by simp; omega
  omega
theorem bits_at (b : Int) (d : D) (hd : ∃ e r m, d = .lst e r m) : FSpec Tryz.prog T 58 [.agg [.i .i64 b, d]] (fun r _ => r = .i .i64 b) := by
  obtain ⟨e, r, m, rfl⟩ := hd
  refine FSpec.of_ok tok Tryz.func58 rfl Tryz.call58 (by simp) ?_
  (try (conv => whnf)); repeat' (first | refine Ok.seq ?_ | refine OkL.cons ?_ | ((first | refine Ok.region tok ?_ | refine Ok.region_draw tok follows (by kernel_rfl) ?_ | refine Ok.cond ?_); conv => whnf) | refine Ok.block ?_ | ((first | refine Ok.skip ?_ | refine Ok.exit ?_ | refine Ok.ret ?_ | refine nI ?_ | refine ix _ (by assumption) ?_ | refine ixI (by omega) (by assumption) ?_ | refine ix_new _ (by omega) fun _ _ => ?_ | refine ixI_new (by omega) (by omega) fun _ _ => ?_ | refine ⟨_, by assumption, ?_⟩ | refine Alt2.l (aI ?_) | refine Alt2.r (aI ?_)); conv => whnf) | (refine Ok.scope ?_) | ((first | refine Ok.label ?_ | refine rd rfl (by assumption) ?_ | refine ⟨_, .inl ⟨rfl, rfl⟩, ?_⟩ | refine ⟨_, _, rfl, rfl, ?_⟩); conv => whnf) | (refine ⟨fun _ => ?_, fun _ => ?_⟩ <;> (conv => whnf) <;> (try (exfalso; omega))) | ((first | refine aJ ?_ | refine num_any ?_ | refine ⟨_, rfl, ?_⟩); conv => whnf) | fail)
  refine Or.inl ?_; (conv => whnf)
  rfl
def noneB (b : Int) : Int := if b < 1 ∨ 256 < b then 0 else b
theorem none_at (b : Int) : FSpec Tryz.prog T 54 [.i .i64 b] (fun r rows => r = .agg [.i .i64 (noneB b), .lst 112 [] []] ∧ rows = []) := by
  refine FSpec.of_ok tok Tryz.func54 rfl Tryz.call54 (by simp) ?_
  (try (conv => whnf)); repeat' (first | refine Ok.seq ?_ | refine OkL.cons ?_ | ((first | refine Ok.region tok ?_ | refine Ok.region_draw tok follows (by kernel_rfl) ?_ | refine Ok.cond ?_); conv => whnf) | refine Ok.block ?_ | ((first | refine Ok.skip ?_ | refine Ok.exit ?_ | refine Ok.ret ?_ | refine nI ?_ | refine ix _ (by assumption) ?_ | refine ixI (by omega) (by assumption) ?_ | refine ix_new _ (by omega) fun _ _ => ?_ | refine ixI_new (by omega) (by omega) fun _ _ => ?_ | refine ⟨_, by assumption, ?_⟩ | refine Alt2.l (aI ?_) | refine Alt2.r (aI ?_)); conv => whnf) | (refine Ok.scope ?_) | ((first | refine Ok.label ?_ | refine rd rfl (by assumption) ?_ | refine ⟨_, .inl ⟨rfl, rfl⟩, ?_⟩ | refine ⟨_, _, rfl, rfl, ?_⟩); conv => whnf) | (refine ⟨fun _ => ?_, fun _ => ?_⟩ <;> (conv => whnf) <;> (try (exfalso; omega))) | ((first | refine aJ ?_ | refine num_any ?_ | refine ⟨_, rfl, ?_⟩); conv => whnf) | fail)
  all_goals
    refine Or.inl ?_; (conv => whnf)
    refine ⟨?_, rfl⟩
    unfold noneB
    first | rw [if_pos (by omega)]; rfl | rw [if_neg (by omega)]; rfl
end Go.Proofs.YtaiondckookpiaaGreatDoor
namespace Go.Proofs.YtaiondckookpiaaGreatDoor
open Go Go.Vx
def bcl (i : Nat) : D := match i with | 0 => .nilB 146 | _ + 1 => .bp 1 0
set_option maxRecDepth 100000 in
set_option maxHeartbeats 16000000 in
theorem text2_at (n : Nat) (l : List TR) {rl room : List (List D)} (hok : SpOk n l) (h : rl = l.map trow) : FSpec Tryz.prog T 59 [.agg [.i .i64 (n : Int), .lst 112 rl room]] (fun d _ => d = .s (textS (l.map TR.t))) := by
  subst h
  have hll : (l.map trow).length = l.length := by simp
  have hln := hok.len
  have hn := hok.n256
  refine FSpec.of_ok tok Tryz.func59 rfl Tryz.call59 (by simp) ?_
  (try (conv => whnf)); repeat' (first | refine Ok.seq ?_ | refine OkL.cons ?_ | ((first | refine Ok.region tok ?_ | refine Ok.region_draw tok follows (by kernel_rfl) ?_ | refine Ok.cond ?_); conv => whnf) | refine Ok.block ?_ | ((first | refine Ok.skip ?_ | refine Ok.exit ?_ | refine Ok.ret ?_ | refine nI ?_ | refine ix _ (by assumption) ?_ | refine ixI (by omega) (by assumption) ?_ | refine ix_new _ (by omega) fun _ _ => ?_ | refine ixI_new (by omega) (by omega) fun _ _ => ?_ | refine ⟨_, by assumption, ?_⟩ | refine Alt2.l (aI ?_) | refine Alt2.r (aI ?_)); conv => whnf) | (refine Ok.scope ?_) | ((first | refine Ok.label ?_ | refine rd rfl (by assumption) ?_ | refine ⟨_, .inl ⟨rfl, rfl⟩, ?_⟩ | refine ⟨_, _, rfl, rfl, ?_⟩); conv => whnf) | (refine ⟨fun _ => ?_, fun _ => ?_⟩ <;> (conv => whnf) <;> (try (exfalso; omega))) | ((first | refine aJ ?_ | refine num_any ?_ | refine ⟨_, rfl, ?_⟩); conv => whnf) | fail)
  · rename_i h
    refine Or.inl ?_; (conv => whnf)
    have : l = [] := List.eq_nil_of_length_eq_zero (by omega)
    subst this
    unfold textS
    rw [if_pos (by rfl)]
    rfl
  · rename_i h
    have hne : l.map TR.t ≠ [] := fun e => h (by have := congrArg List.length e; simp at this; simp [this])
    have hl0 : l ≠ [] := fun e => hne (by rw [e]; rfl)
    have hpos := hok.pos hl0
    refine Ok.ghostB 1 1 5 rfl rfl ?_
    (conv => whnf)
    refine Ok.loopU [1, 3, 12, 13] [14] 1 2 (fun (i : Nat) => [.i .i64 (i : Nat)]) (fun (i : Nat) (_ : List (List D)) => [[.i .i64 (n : Int), .lst 112 (l.map trow) room], [bcl i, .own 0 (sepT ((l.map TR.t).take i)).length]]) (fun (i : Nat) (_ : Vx.Rows) => [some (5, (sepT ((l.map TR.t).take i)).map bcell)]) (fun (i : Nat) => i ≤ l.length) (fun (i : Nat) => l.length - i) (0) (Nat.zero_le _) ?_; (conv => whnf); refine ⟨by ((conv => whnf); first | rfl | (simp [envCat, List.take_of_length_le, srow, drow, trow, bcell, sepT_nil, tTail_nil]; done) | (simp [envCat, List.take_of_length_le, srow, drow, trow, bcell, sepT_nil, tTail_nil]; rw [IntKind.wrap_i64]; omega)), ?_⟩
    rintro i hi
    have hsl := hok.sep i
    have hsm : ((sepT ((l.map TR.t).take i)).map bcell).length = (sepT ((l.map TR.t).take i)).length := List.length_map _
    by_cases hil : i < l.length
    · obtain ⟨x, hx⟩ : ∃ x, l[i]? = some x := ⟨_, List.getElem?_eq_getElem hil⟩
      have hxm := List.mem_of_getElem? hx
      have hxw := hok.wide x hxm
      have hpl : x.t.p.length ≤ 256 := by rw [hxw.1]; exact hn
      have hxl : (x.t.less.map crow).length = x.t.less.length := by simp
      have hxn := hok.less hxm
      have hxt : (l.map TR.t)[i]? = some x.t := by simp [hx]
      have hstep := sepT_step hxt
      have hpre := hok.pre i
      have hkl : x.t.key.length = n * (x.t.less.length + 1) := key_len hxw.1 hxw.2
      have hkb : n * (x.t.less.length + 1) ≤ 256 * 1048577 := Nat.mul_le_mul hn (by omega)
      have hkn : n ≤ n * (x.t.less.length + 1) := Nat.le_mul_of_pos_right n (by omega)
      have hkh : x.t.p = (x.t.key.take n).drop 0 := by rw [List.drop_zero]; exact (key_head hxw.1).symm
      have hka : ∀ (j : Nat) (m : Str), x.t.less[j]? = some m → m = (x.t.key.take (n * (j + 1) + n)).drop (n * (j + 1)) := fun j m hm => (key_at hxw.1 hxw.2 hm).symm
      by_cases hi0 : i = 0
      · have hp0 : preT (l.map TR.t) i = [] := by rw [hi0]; rfl
        have hs0 : sepT ((l.map TR.t).take i) = [] := by rw [hi0]; rfl
        have hb0 : bcl i = .nilB 146 := by rw [hi0]; rfl
        rw [hs0] at hsl hsm ⊢
        rw [hb0]
        rw [hp0] at hpre hstep
        (conv => whnf)
        (try (conv => whnf)); repeat' (first | ((refine And.intro byteT ?_); (conv => whnf)) | refine Ok.seq ?_ | refine OkL.cons ?_ | ((first | refine Ok.region tok ?_ | refine Ok.region_draw tok follows (by kernel_rfl) ?_ | refine Ok.cond ?_); conv => whnf) | refine Ok.block ?_ | ((first | refine Ok.skip ?_ | refine Ok.exit ?_ | refine Ok.ret ?_ | refine nI ?_ | refine ix _ (by assumption) ?_ | refine ixI (by omega) (by assumption) ?_ | refine ix_new _ (by omega) fun _ _ => ?_ | refine ixI_new (by omega) (by omega) fun _ _ => ?_ | refine ⟨_, by assumption, ?_⟩ | refine Alt2.l (aI ?_) | refine Alt2.r (aI ?_)); conv => whnf) | (refine Ok.scope ?_) | ((first | refine Ok.label ?_ | refine rd rfl (by assumption) ?_ | refine ⟨_, .inl ⟨rfl, rfl⟩, ?_⟩ | refine ⟨_, _, rfl, rfl, ?_⟩); conv => whnf) | (refine ⟨fun _ => ?_, fun _ => ?_⟩ <;> (conv => whnf) <;> (try (exfalso; omega))) | ((first | refine aJ ?_ | refine num_any ?_ | refine ⟨_, rfl, ?_⟩); conv => whnf) | fail)
        refine Or.inr (Or.inr (Or.inl ?_)); (conv => whnf); refine ⟨_, _, Tryz.func110, rfl, Tryz.call110, ?_⟩; (conv => whnf)
        (try (conv => whnf)); repeat' (first | ((refine And.intro byteT ?_); (conv => whnf)) | refine Ok.seq ?_ | refine OkL.cons ?_ | ((first | refine Ok.region tok ?_ | refine Ok.region_draw tok follows (by kernel_rfl) ?_ | refine Ok.cond ?_); conv => whnf) | refine Ok.block ?_ | ((first | refine Ok.skip ?_ | refine Ok.exit ?_ | refine Ok.ret ?_ | refine nI ?_ | refine ix _ (by assumption) ?_ | refine ixI (by omega) (by assumption) ?_ | refine ix_new _ (by omega) fun _ _ => ?_ | refine ixI_new (by omega) (by omega) fun _ _ => ?_ | refine ⟨_, by assumption, ?_⟩ | refine Alt2.l (aI ?_) | refine Alt2.r (aI ?_)); conv => whnf) | (refine Ok.scope ?_) | ((first | refine Ok.label ?_ | refine rd rfl (by assumption) ?_ | refine ⟨_, .inl ⟨rfl, rfl⟩, ?_⟩ | refine ⟨_, _, rfl, rfl, ?_⟩); conv => whnf) | (refine ⟨fun _ => ?_, fun _ => ?_⟩ <;> (conv => whnf) <;> (try (exfalso; omega))) | ((first | refine aJ ?_ | refine num_any ?_ | refine ⟨_, rfl, ?_⟩); conv => whnf) | fail)
        refine Or.inr (Or.inr (Or.inr (Or.inr ?_)))
        (conv => whnf)
        refine effW_fresh copyAt rfl ?_
        (conv => whnf)
        (try (conv => whnf)); repeat' (first | ((refine And.intro byteT ?_); (conv => whnf)) | refine Ok.seq ?_ | refine OkL.cons ?_ | ((first | refine Ok.region tok ?_ | refine Ok.region_draw tok follows (by kernel_rfl) ?_ | refine Ok.cond ?_); conv => whnf) | refine Ok.block ?_ | ((first | refine Ok.skip ?_ | refine Ok.exit ?_ | refine Ok.ret ?_ | refine nI ?_ | refine ix _ (by assumption) ?_ | refine ixI (by omega) (by assumption) ?_ | refine ix_new _ (by omega) fun _ _ => ?_ | refine ixI_new (by omega) (by omega) fun _ _ => ?_ | refine ⟨_, by assumption, ?_⟩ | refine Alt2.l (aI ?_) | refine Alt2.r (aI ?_)); conv => whnf) | (refine Ok.scope ?_) | ((first | refine Ok.label ?_ | refine rd rfl (by assumption) ?_ | refine ⟨_, .inl ⟨rfl, rfl⟩, ?_⟩ | refine ⟨_, _, rfl, rfl, ?_⟩); conv => whnf) | (refine ⟨fun _ => ?_, fun _ => ?_⟩ <;> (conv => whnf) <;> (try (exfalso; omega))) | ((first | refine aJ ?_ | refine num_any ?_ | refine ⟨_, rfl, ?_⟩); conv => whnf) | fail)
        refine Ok.loopU [1, 3, 5, 12, 13, 14] [6] 1 3 (fun (j : Nat) => [.i .i64 (n * (j + 1) : Nat)]) (fun (j : Nat) (_ : List (List D)) => [[.i .i64 (n : Int), .lst 112 (l.map trow) room], [.bp 1 0, .own 0 (([] : Str) ++ x.t.p ++ tTail (x.t.less.take j)).length], trow x]) (fun (j : Nat) (_ : Vx.Rows) => [some (5, (([] : Str) ++ x.t.p ++ tTail (x.t.less.take j)).map bcell)]) (fun (j : Nat) => j ≤ x.t.less.length) (fun (j : Nat) => x.t.less.length - j) (0) (Nat.zero_le _) ?_; (conv => whnf); refine ⟨by ((conv => whnf); first | rfl | (simp [envCat, List.take_of_length_le, srow, drow, trow, bcell, sepT_nil, tTail_nil]; done) | (simp [envCat, List.take_of_length_le, srow, drow, trow, bcell, sepT_nil, tTail_nil]; rw [IntKind.wrap_i64]; omega)), ?_⟩
        rintro j hj
        have htl := hok.tail hxm j
        have hFl : (([] : Str) ++ x.t.p ++ tTail (x.t.less.take j)).length ≤ 257 * 1048576 + 1 + 256 + 257 * 1048576 := by rw [List.length_append, List.length_append]; omega
        have hFm : ((([] : Str) ++ x.t.p ++ tTail (x.t.less.take j)).map bcell).length = (([] : Str) ++ x.t.p ++ tTail (x.t.less.take j)).length := List.length_map _
        have hjn : n * (j + 1 + 1) = n * (j + 1) + n := Nat.mul_succ n (j + 1)
        (conv => whnf)
        by_cases hjl : j < x.t.less.length
        · obtain ⟨m, hm⟩ : ∃ m, x.t.less[j]? = some m := ⟨_, List.getElem?_eq_getElem hjl⟩
          have hml : m.length ≤ 256 := by rw [hxw.2 m (List.mem_of_getElem? hm)]; exact hn
          have hts := tTail_snoc hm
          have hj2 : n * (j + 1) + n ≤ n * (x.t.less.length + 1) := by rw [← hjn]; exact Nat.mul_le_mul_left n (by omega)
          have hma := hka j m hm
          generalize hF : ([] : Str) ++ x.t.p ++ tTail (x.t.less.take j) = F at *
          have hF2 : ((F ++ [45]).map bcell).length = (F ++ [45]).length := List.length_map _
          generalize hJ : n * (j + 1) = J at *
          (try (conv => whnf)); repeat' (first | ((refine And.intro byteT ?_); (conv => whnf)) | refine Ok.seq ?_ | refine OkL.cons ?_ | ((first | refine Ok.region tok ?_ | refine Ok.region_draw tok follows (by kernel_rfl) ?_ | refine Ok.cond ?_); conv => whnf) | refine Ok.block ?_ | ((first | refine Ok.skip ?_ | refine Ok.exit ?_ | refine Ok.ret ?_ | refine nI ?_ | refine ix _ (by assumption) ?_ | refine ixI (by omega) (by assumption) ?_ | refine ix_new _ (by omega) fun _ _ => ?_ | refine ixI_new (by omega) (by omega) fun _ _ => ?_ | refine ⟨_, by assumption, ?_⟩ | refine Alt2.l (aI ?_) | refine Alt2.r (aI ?_)); conv => whnf) | (refine Ok.scope ?_) | ((first | refine Ok.label ?_ | refine rd rfl (by assumption) ?_ | refine ⟨_, .inl ⟨rfl, rfl⟩, ?_⟩ | refine ⟨_, _, rfl, rfl, ?_⟩); conv => whnf) | (refine ⟨fun _ => ?_, fun _ => ?_⟩ <;> (conv => whnf) <;> (try (exfalso; omega))) | ((first | refine aJ ?_ | refine num_any ?_ | refine ⟨_, rfl, ?_⟩); conv => whnf) | fail)
          refine Or.inr (Or.inr (Or.inl ?_)); (conv => whnf); refine ⟨_, _, Tryz.func109, rfl, Tryz.call109, ?_⟩; (conv => whnf)
          (try (conv => whnf)); repeat' (first | ((refine And.intro byteT ?_); (conv => whnf)) | refine Ok.seq ?_ | refine OkL.cons ?_ | ((first | refine Ok.region tok ?_ | refine Ok.region_draw tok follows (by kernel_rfl) ?_ | refine Ok.cond ?_); conv => whnf) | refine Ok.block ?_ | ((first | refine Ok.skip ?_ | refine Ok.exit ?_ | refine Ok.ret ?_ | refine nI ?_ | refine ix _ (by assumption) ?_ | refine ixI (by omega) (by assumption) ?_ | refine ix_new _ (by omega) fun _ _ => ?_ | refine ixI_new (by omega) (by omega) fun _ _ => ?_ | refine ⟨_, by assumption, ?_⟩ | refine Alt2.l (aI ?_) | refine Alt2.r (aI ?_)); conv => whnf) | (refine Ok.scope ?_) | ((first | refine Ok.label ?_ | refine rd rfl (by assumption) ?_ | refine ⟨_, .inl ⟨rfl, rfl⟩, ?_⟩ | refine ⟨_, _, rfl, rfl, ?_⟩); conv => whnf) | (refine ⟨fun _ => ?_, fun _ => ?_⟩ <;> (conv => whnf) <;> (try (exfalso; omega))) | ((first | refine aJ ?_ | refine num_any ?_ | refine ⟨_, rfl, ?_⟩); conv => whnf) | fail)
          refine Or.inr (Or.inr (Or.inr (Or.inr ?_)))
          (conv => whnf)
          refine effW_used copyAt rfl ?_
          (conv => whnf)
          (try (conv => whnf)); repeat' (first | ((refine And.intro byteT ?_); (conv => whnf)) | refine Ok.seq ?_ | refine OkL.cons ?_ | ((first | refine Ok.region tok ?_ | refine Ok.region_draw tok follows (by kernel_rfl) ?_ | refine Ok.cond ?_); conv => whnf) | refine Ok.block ?_ | ((first | refine Ok.skip ?_ | refine Ok.exit ?_ | refine Ok.ret ?_ | refine nI ?_ | refine ix _ (by assumption) ?_ | refine ixI (by omega) (by assumption) ?_ | refine ix_new _ (by omega) fun _ _ => ?_ | refine ixI_new (by omega) (by omega) fun _ _ => ?_ | refine ⟨_, by assumption, ?_⟩ | refine Alt2.l (aI ?_) | refine Alt2.r (aI ?_)); conv => whnf) | (refine Ok.scope ?_) | ((first | refine Ok.label ?_ | refine rd rfl (by assumption) ?_ | refine ⟨_, .inl ⟨rfl, rfl⟩, ?_⟩ | refine ⟨_, _, rfl, rfl, ?_⟩); conv => whnf) | (refine ⟨fun _ => ?_, fun _ => ?_⟩ <;> (conv => whnf) <;> (try (exfalso; omega))) | ((first | refine aJ ?_ | refine num_any ?_ | refine ⟨_, rfl, ?_⟩); conv => whnf) | fail)
          try refine ⟨J, J + n, rfl, (by show ((J : Nat) : Int) + (n : Int) = ((J + n : Nat) : Int); omega), by omega, by omega, m, hma, ?_⟩
          (try (conv => whnf)); repeat' (first | ((refine And.intro byteT ?_); (conv => whnf)) | refine Ok.seq ?_ | refine OkL.cons ?_ | ((first | refine Ok.region tok ?_ | refine Ok.region_draw tok follows (by kernel_rfl) ?_ | refine Ok.cond ?_); conv => whnf) | refine Ok.block ?_ | ((first | refine Ok.skip ?_ | refine Ok.exit ?_ | refine Ok.ret ?_ | refine nI ?_ | refine ix _ (by assumption) ?_ | refine ixI (by omega) (by assumption) ?_ | refine ix_new _ (by omega) fun _ _ => ?_ | refine ixI_new (by omega) (by omega) fun _ _ => ?_ | refine ⟨_, by assumption, ?_⟩ | refine Alt2.l (aI ?_) | refine Alt2.r (aI ?_)); conv => whnf) | (refine Ok.scope ?_) | ((first | refine Ok.label ?_ | refine rd rfl (by assumption) ?_ | refine ⟨_, .inl ⟨rfl, rfl⟩, ?_⟩ | refine ⟨_, _, rfl, rfl, ?_⟩); conv => whnf) | (refine ⟨fun _ => ?_, fun _ => ?_⟩ <;> (conv => whnf) <;> (try (exfalso; omega))) | ((first | refine aJ ?_ | refine num_any ?_ | refine ⟨_, rfl, ?_⟩); conv => whnf) | fail)
          refine Or.inr (Or.inr (Or.inl ?_)); (conv => whnf); refine ⟨_, _, Tryz.func110, rfl, Tryz.call110, ?_⟩; (conv => whnf)
          (try (conv => whnf)); repeat' (first | ((refine And.intro byteT ?_); (conv => whnf)) | refine Ok.seq ?_ | refine OkL.cons ?_ | ((first | refine Ok.region tok ?_ | refine Ok.region_draw tok follows (by kernel_rfl) ?_ | refine Ok.cond ?_); conv => whnf) | refine Ok.block ?_ | ((first | refine Ok.skip ?_ | refine Ok.exit ?_ | refine Ok.ret ?_ | refine nI ?_ | refine ix _ (by assumption) ?_ | refine ixI (by omega) (by assumption) ?_ | refine ix_new _ (by omega) fun _ _ => ?_ | refine ixI_new (by omega) (by omega) fun _ _ => ?_ | refine ⟨_, by assumption, ?_⟩ | refine Alt2.l (aI ?_) | refine Alt2.r (aI ?_)); conv => whnf) | (refine Ok.scope ?_) | ((first | refine Ok.label ?_ | refine rd rfl (by assumption) ?_ | refine ⟨_, .inl ⟨rfl, rfl⟩, ?_⟩ | refine ⟨_, _, rfl, rfl, ?_⟩); conv => whnf) | (refine ⟨fun _ => ?_, fun _ => ?_⟩ <;> (conv => whnf) <;> (try (exfalso; omega))) | ((first | refine aJ ?_ | refine num_any ?_ | refine ⟨_, rfl, ?_⟩); conv => whnf) | fail)
          refine Or.inr (Or.inr (Or.inr (Or.inr ?_)))
          (conv => whnf)
          refine effW_used copyAt rfl ?_
          (conv => whnf)
          (try (conv => whnf)); repeat' (first | ((refine And.intro byteT ?_); (conv => whnf)) | refine Ok.seq ?_ | refine OkL.cons ?_ | ((first | refine Ok.region tok ?_ | refine Ok.region_draw tok follows (by kernel_rfl) ?_ | refine Ok.cond ?_); conv => whnf) | refine Ok.block ?_ | ((first | refine Ok.skip ?_ | refine Ok.exit ?_ | refine Ok.ret ?_ | refine nI ?_ | refine ix _ (by assumption) ?_ | refine ixI (by omega) (by assumption) ?_ | refine ix_new _ (by omega) fun _ _ => ?_ | refine ixI_new (by omega) (by omega) fun _ _ => ?_ | refine ⟨_, by assumption, ?_⟩ | refine Alt2.l (aI ?_) | refine Alt2.r (aI ?_)); conv => whnf) | (refine Ok.scope ?_) | ((first | refine Ok.label ?_ | refine rd rfl (by assumption) ?_ | refine ⟨_, .inl ⟨rfl, rfl⟩, ?_⟩ | refine ⟨_, _, rfl, rfl, ?_⟩); conv => whnf) | (refine ⟨fun _ => ?_, fun _ => ?_⟩ <;> (conv => whnf) <;> (try (exfalso; omega))) | ((first | refine aJ ?_ | refine num_any ?_ | refine ⟨_, rfl, ?_⟩); conv => whnf) | fail)
          refine ⟨j + 1, by omega, by omega, ?_⟩
          rw [hjn, hts, ← List.append_assoc, ← List.append_assoc, hF]
          (conv => whnf)
          simp [envCat, bcell]
        · have hje : j = x.t.less.length := by omega
          subst hje
          rw [List.take_length]
          (try (conv => whnf)); repeat' (first | refine Ok.seq ?_ | refine OkL.cons ?_ | ((first | refine Ok.region tok ?_ | refine Ok.region_draw tok follows (by kernel_rfl) ?_ | refine Ok.cond ?_); conv => whnf) | refine Ok.block ?_ | ((first | refine Ok.skip ?_ | refine Ok.exit ?_ | refine Ok.ret ?_ | refine nI ?_ | refine ix _ (by assumption) ?_ | refine ixI (by omega) (by assumption) ?_ | refine ix_new _ (by omega) fun _ _ => ?_ | refine ixI_new (by omega) (by omega) fun _ _ => ?_ | refine ⟨_, by assumption, ?_⟩ | refine Alt2.l (aI ?_) | refine Alt2.r (aI ?_)); conv => whnf) | (refine Ok.scope ?_) | ((first | refine Ok.label ?_ | refine rd rfl (by assumption) ?_ | refine ⟨_, .inl ⟨rfl, rfl⟩, ?_⟩ | refine ⟨_, _, rfl, rfl, ?_⟩); conv => whnf) | (refine ⟨fun _ => ?_, fun _ => ?_⟩ <;> (conv => whnf) <;> (try (exfalso; omega))) | ((first | refine aJ ?_ | refine num_any ?_ | refine ⟨_, rfl, ?_⟩); conv => whnf) | fail)
          refine ⟨i + 1, by omega, by omega, ?_⟩
          rw [hstep]
          unfold ttxt
          rw [← List.append_assoc]
          (conv => whnf)
          rfl
      · have hp0 : preT (l.map TR.t) i = sepT ((l.map TR.t).take i) ++ [43] := by unfold preT; rw [if_neg hi0]
        have hb0 : bcl i = .bp 1 0 := by cases i with | zero => exact absurd rfl hi0 | succ k => rfl
        rw [hb0]
        rw [hp0] at hpre hstep
        have hpre2 : ((sepT ((l.map TR.t).take i) ++ [43]).map bcell).length = (sepT ((l.map TR.t).take i) ++ [43]).length := List.length_map _
        (conv => whnf)
        (try (conv => whnf)); repeat' (first | ((refine And.intro byteT ?_); (conv => whnf)) | refine Ok.seq ?_ | refine OkL.cons ?_ | ((first | refine Ok.region tok ?_ | refine Ok.region_draw tok follows (by kernel_rfl) ?_ | refine Ok.cond ?_); conv => whnf) | refine Ok.block ?_ | ((first | refine Ok.skip ?_ | refine Ok.exit ?_ | refine Ok.ret ?_ | refine nI ?_ | refine ix _ (by assumption) ?_ | refine ixI (by omega) (by assumption) ?_ | refine ix_new _ (by omega) fun _ _ => ?_ | refine ixI_new (by omega) (by omega) fun _ _ => ?_ | refine ⟨_, by assumption, ?_⟩ | refine Alt2.l (aI ?_) | refine Alt2.r (aI ?_)); conv => whnf) | (refine Ok.scope ?_) | ((first | refine Ok.label ?_ | refine rd rfl (by assumption) ?_ | refine ⟨_, .inl ⟨rfl, rfl⟩, ?_⟩ | refine ⟨_, _, rfl, rfl, ?_⟩); conv => whnf) | (refine ⟨fun _ => ?_, fun _ => ?_⟩ <;> (conv => whnf) <;> (try (exfalso; omega))) | ((first | refine aJ ?_ | refine num_any ?_ | refine ⟨_, rfl, ?_⟩); conv => whnf) | fail)
        refine Or.inr (Or.inr (Or.inl ?_)); (conv => whnf); refine ⟨_, _, Tryz.func109, rfl, Tryz.call109, ?_⟩; (conv => whnf)
        (try (conv => whnf)); repeat' (first | ((refine And.intro byteT ?_); (conv => whnf)) | refine Ok.seq ?_ | refine OkL.cons ?_ | ((first | refine Ok.region tok ?_ | refine Ok.region_draw tok follows (by kernel_rfl) ?_ | refine Ok.cond ?_); conv => whnf) | refine Ok.block ?_ | ((first | refine Ok.skip ?_ | refine Ok.exit ?_ | refine Ok.ret ?_ | refine nI ?_ | refine ix _ (by assumption) ?_ | refine ixI (by omega) (by assumption) ?_ | refine ix_new _ (by omega) fun _ _ => ?_ | refine ixI_new (by omega) (by omega) fun _ _ => ?_ | refine ⟨_, by assumption, ?_⟩ | refine Alt2.l (aI ?_) | refine Alt2.r (aI ?_)); conv => whnf) | (refine Ok.scope ?_) | ((first | refine Ok.label ?_ | refine rd rfl (by assumption) ?_ | refine ⟨_, .inl ⟨rfl, rfl⟩, ?_⟩ | refine ⟨_, _, rfl, rfl, ?_⟩); conv => whnf) | (refine ⟨fun _ => ?_, fun _ => ?_⟩ <;> (conv => whnf) <;> (try (exfalso; omega))) | ((first | refine aJ ?_ | refine num_any ?_ | refine ⟨_, rfl, ?_⟩); conv => whnf) | fail)
        refine Or.inr (Or.inr (Or.inr (Or.inr ?_)))
        (conv => whnf)
        refine effW_used copyAt rfl ?_
        (conv => whnf)
        (try (conv => whnf)); repeat' (first | ((refine And.intro byteT ?_); (conv => whnf)) | refine Ok.seq ?_ | refine OkL.cons ?_ | ((first | refine Ok.region tok ?_ | refine Ok.region_draw tok follows (by kernel_rfl) ?_ | refine Ok.cond ?_); conv => whnf) | refine Ok.block ?_ | ((first | refine Ok.skip ?_ | refine Ok.exit ?_ | refine Ok.ret ?_ | refine nI ?_ | refine ix _ (by assumption) ?_ | refine ixI (by omega) (by assumption) ?_ | refine ix_new _ (by omega) fun _ _ => ?_ | refine ixI_new (by omega) (by omega) fun _ _ => ?_ | refine ⟨_, by assumption, ?_⟩ | refine Alt2.l (aI ?_) | refine Alt2.r (aI ?_)); conv => whnf) | (refine Ok.scope ?_) | ((first | refine Ok.label ?_ | refine rd rfl (by assumption) ?_ | refine ⟨_, .inl ⟨rfl, rfl⟩, ?_⟩ | refine ⟨_, _, rfl, rfl, ?_⟩); conv => whnf) | (refine ⟨fun _ => ?_, fun _ => ?_⟩ <;> (conv => whnf) <;> (try (exfalso; omega))) | ((first | refine aJ ?_ | refine num_any ?_ | refine ⟨_, rfl, ?_⟩); conv => whnf) | fail)
        refine Or.inr (Or.inr (Or.inl ?_)); (conv => whnf); refine ⟨_, _, Tryz.func110, rfl, Tryz.call110, ?_⟩; (conv => whnf)
        (try (conv => whnf)); repeat' (first | ((refine And.intro byteT ?_); (conv => whnf)) | refine Ok.seq ?_ | refine OkL.cons ?_ | ((first | refine Ok.region tok ?_ | refine Ok.region_draw tok follows (by kernel_rfl) ?_ | refine Ok.cond ?_); conv => whnf) | refine Ok.block ?_ | ((first | refine Ok.skip ?_ | refine Ok.exit ?_ | refine Ok.ret ?_ | refine nI ?_ | refine ix _ (by assumption) ?_ | refine ixI (by omega) (by assumption) ?_ | refine ix_new _ (by omega) fun _ _ => ?_ | refine ixI_new (by omega) (by omega) fun _ _ => ?_ | refine ⟨_, by assumption, ?_⟩ | refine Alt2.l (aI ?_) | refine Alt2.r (aI ?_)); conv => whnf) | (refine Ok.scope ?_) | ((first | refine Ok.label ?_ | refine rd rfl (by assumption) ?_ | refine ⟨_, .inl ⟨rfl, rfl⟩, ?_⟩ | refine ⟨_, _, rfl, rfl, ?_⟩); conv => whnf) | (refine ⟨fun _ => ?_, fun _ => ?_⟩ <;> (conv => whnf) <;> (try (exfalso; omega))) | ((first | refine aJ ?_ | refine num_any ?_ | refine ⟨_, rfl, ?_⟩); conv => whnf) | fail)
        refine Or.inr (Or.inr (Or.inr (Or.inr ?_)))
        (conv => whnf)
        refine effW_used copyAt rfl ?_
        (conv => whnf)
        (try (conv => whnf)); repeat' (first | ((refine And.intro byteT ?_); (conv => whnf)) | refine Ok.seq ?_ | refine OkL.cons ?_ | ((first | refine Ok.region tok ?_ | refine Ok.region_draw tok follows (by kernel_rfl) ?_ | refine Ok.cond ?_); conv => whnf) | refine Ok.block ?_ | ((first | refine Ok.skip ?_ | refine Ok.exit ?_ | refine Ok.ret ?_ | refine nI ?_ | refine ix _ (by assumption) ?_ | refine ixI (by omega) (by assumption) ?_ | refine ix_new _ (by omega) fun _ _ => ?_ | refine ixI_new (by omega) (by omega) fun _ _ => ?_ | refine ⟨_, by assumption, ?_⟩ | refine Alt2.l (aI ?_) | refine Alt2.r (aI ?_)); conv => whnf) | (refine Ok.scope ?_) | ((first | refine Ok.label ?_ | refine rd rfl (by assumption) ?_ | refine ⟨_, .inl ⟨rfl, rfl⟩, ?_⟩ | refine ⟨_, _, rfl, rfl, ?_⟩); conv => whnf) | (refine ⟨fun _ => ?_, fun _ => ?_⟩ <;> (conv => whnf) <;> (try (exfalso; omega))) | ((first | refine aJ ?_ | refine num_any ?_ | refine ⟨_, rfl, ?_⟩); conv => whnf) | fail)
        refine Ok.loopU [1, 3, 5, 12, 13, 14] [6] 1 3 (fun (j : Nat) => [.i .i64 (n * (j + 1) : Nat)]) (fun (j : Nat) (_ : List (List D)) => [[.i .i64 (n : Int), .lst 112 (l.map trow) room], [.bp 1 0, .own 0 ((sepT ((l.map TR.t).take i) ++ [43]) ++ x.t.p ++ tTail (x.t.less.take j)).length], trow x]) (fun (j : Nat) (_ : Vx.Rows) => [some (5, ((sepT ((l.map TR.t).take i) ++ [43]) ++ x.t.p ++ tTail (x.t.less.take j)).map bcell)]) (fun (j : Nat) => j ≤ x.t.less.length) (fun (j : Nat) => x.t.less.length - j) (0) (Nat.zero_le _) ?_; (conv => whnf); refine ⟨by ((conv => whnf); first | rfl | (simp [envCat, List.take_of_length_le, srow, drow, trow, bcell, sepT_nil, tTail_nil]; done) | (simp [envCat, List.take_of_length_le, srow, drow, trow, bcell, sepT_nil, tTail_nil]; rw [IntKind.wrap_i64]; omega)), ?_⟩
        rintro j hj
        have htl := hok.tail hxm j
        have hFl : ((sepT ((l.map TR.t).take i) ++ [43]) ++ x.t.p ++ tTail (x.t.less.take j)).length ≤ 257 * 1048576 + 1 + 256 + 257 * 1048576 := by rw [List.length_append, List.length_append]; omega
        have hFm : (((sepT ((l.map TR.t).take i) ++ [43]) ++ x.t.p ++ tTail (x.t.less.take j)).map bcell).length = ((sepT ((l.map TR.t).take i) ++ [43]) ++ x.t.p ++ tTail (x.t.less.take j)).length := List.length_map _
        have hjn : n * (j + 1 + 1) = n * (j + 1) + n := Nat.mul_succ n (j + 1)
        (conv => whnf)
        by_cases hjl : j < x.t.less.length
        · obtain ⟨m, hm⟩ : ∃ m, x.t.less[j]? = some m := ⟨_, List.getElem?_eq_getElem hjl⟩
          have hml : m.length ≤ 256 := by rw [hxw.2 m (List.mem_of_getElem? hm)]; exact hn
          have hts := tTail_snoc hm
          have hj2 : n * (j + 1) + n ≤ n * (x.t.less.length + 1) := by rw [← hjn]; exact Nat.mul_le_mul_left n (by omega)
          have hma := hka j m hm
          generalize hF : (sepT ((l.map TR.t).take i) ++ [43]) ++ x.t.p ++ tTail (x.t.less.take j) = F at *
          have hF2 : ((F ++ [45]).map bcell).length = (F ++ [45]).length := List.length_map _
          generalize hJ : n * (j + 1) = J at *
          (try (conv => whnf)); repeat' (first | ((refine And.intro byteT ?_); (conv => whnf)) | refine Ok.seq ?_ | refine OkL.cons ?_ | ((first | refine Ok.region tok ?_ | refine Ok.region_draw tok follows (by kernel_rfl) ?_ | refine Ok.cond ?_); conv => whnf) | refine Ok.block ?_ | ((first | refine Ok.skip ?_ | refine Ok.exit ?_ | refine Ok.ret ?_ | refine nI ?_ | refine ix _ (by assumption) ?_ | refine ixI (by omega) (by assumption) ?_ | refine ix_new _ (by omega) fun _ _ => ?_ | refine ixI_new (by omega) (by omega) fun _ _ => ?_ | refine ⟨_, by assumption, ?_⟩ | refine Alt2.l (aI ?_) | refine Alt2.r (aI ?_)); conv => whnf) | (refine Ok.scope ?_) | ((first | refine Ok.label ?_ | refine rd rfl (by assumption) ?_ | refine ⟨_, .inl ⟨rfl, rfl⟩, ?_⟩ | refine ⟨_, _, rfl, rfl, ?_⟩); conv => whnf) | (refine ⟨fun _ => ?_, fun _ => ?_⟩ <;> (conv => whnf) <;> (try (exfalso; omega))) | ((first | refine aJ ?_ | refine num_any ?_ | refine ⟨_, rfl, ?_⟩); conv => whnf) | fail)
          refine Or.inr (Or.inr (Or.inl ?_)); (conv => whnf); refine ⟨_, _, Tryz.func109, rfl, Tryz.call109, ?_⟩; (conv => whnf)
          (try (conv => whnf)); repeat' (first | ((refine And.intro byteT ?_); (conv => whnf)) | refine Ok.seq ?_ | refine OkL.cons ?_ | ((first | refine Ok.region tok ?_ | refine Ok.region_draw tok follows (by kernel_rfl) ?_ | refine Ok.cond ?_); conv => whnf) | refine Ok.block ?_ | ((first | refine Ok.skip ?_ | refine Ok.exit ?_ | refine Ok.ret ?_ | refine nI ?_ | refine ix _ (by assumption) ?_ | refine ixI (by omega) (by assumption) ?_ | refine ix_new _ (by omega) fun _ _ => ?_ | refine ixI_new (by omega) (by omega) fun _ _ => ?_ | refine ⟨_, by assumption, ?_⟩ | refine Alt2.l (aI ?_) | refine Alt2.r (aI ?_)); conv => whnf) | (refine Ok.scope ?_) | ((first | refine Ok.label ?_ | refine rd rfl (by assumption) ?_ | refine ⟨_, .inl ⟨rfl, rfl⟩, ?_⟩ | refine ⟨_, _, rfl, rfl, ?_⟩); conv => whnf) | (refine ⟨fun _ => ?_, fun _ => ?_⟩ <;> (conv => whnf) <;> (try (exfalso; omega))) | ((first | refine aJ ?_ | refine num_any ?_ | refine ⟨_, rfl, ?_⟩); conv => whnf) | fail)
          refine Or.inr (Or.inr (Or.inr (Or.inr ?_)))
          (conv => whnf)
          refine effW_used copyAt rfl ?_
          (conv => whnf)
          (try (conv => whnf)); repeat' (first | ((refine And.intro byteT ?_); (conv => whnf)) | refine Ok.seq ?_ | refine OkL.cons ?_ | ((first | refine Ok.region tok ?_ | refine Ok.region_draw tok follows (by kernel_rfl) ?_ | refine Ok.cond ?_); conv => whnf) | refine Ok.block ?_ | ((first | refine Ok.skip ?_ | refine Ok.exit ?_ | refine Ok.ret ?_ | refine nI ?_ | refine ix _ (by assumption) ?_ | refine ixI (by omega) (by assumption) ?_ | refine ix_new _ (by omega) fun _ _ => ?_ | refine ixI_new (by omega) (by omega) fun _ _ => ?_ | refine ⟨_, by assumption, ?_⟩ | refine Alt2.l (aI ?_) | refine Alt2.r (aI ?_)); conv => whnf) | (refine Ok.scope ?_) | ((first | refine Ok.label ?_ | refine rd rfl (by assumption) ?_ | refine ⟨_, .inl ⟨rfl, rfl⟩, ?_⟩ | refine ⟨_, _, rfl, rfl, ?_⟩); conv => whnf) | (refine ⟨fun _ => ?_, fun _ => ?_⟩ <;> (conv => whnf) <;> (try (exfalso; omega))) | ((first | refine aJ ?_ | refine num_any ?_ | refine ⟨_, rfl, ?_⟩); conv => whnf) | fail)
          try refine ⟨J, J + n, rfl, (by show ((J : Nat) : Int) + (n : Int) = ((J + n : Nat) : Int); omega), by omega, by omega, m, hma, ?_⟩
          (try (conv => whnf)); repeat' (first | ((refine And.intro byteT ?_); (conv => whnf)) | refine Ok.seq ?_ | refine OkL.cons ?_ | ((first | refine Ok.region tok ?_ | refine Ok.region_draw tok follows (by kernel_rfl) ?_ | refine Ok.cond ?_); conv => whnf) | refine Ok.block ?_ | ((first | refine Ok.skip ?_ | refine Ok.exit ?_ | refine Ok.ret ?_ | refine nI ?_ | refine ix _ (by assumption) ?_ | refine ixI (by omega) (by assumption) ?_ | refine ix_new _ (by omega) fun _ _ => ?_ | refine ixI_new (by omega) (by omega) fun _ _ => ?_ | refine ⟨_, by assumption, ?_⟩ | refine Alt2.l (aI ?_) | refine Alt2.r (aI ?_)); conv => whnf) | (refine Ok.scope ?_) | ((first | refine Ok.label ?_ | refine rd rfl (by assumption) ?_ | refine ⟨_, .inl ⟨rfl, rfl⟩, ?_⟩ | refine ⟨_, _, rfl, rfl, ?_⟩); conv => whnf) | (refine ⟨fun _ => ?_, fun _ => ?_⟩ <;> (conv => whnf) <;> (try (exfalso; omega))) | ((first | refine aJ ?_ | refine num_any ?_ | refine ⟨_, rfl, ?_⟩); conv => whnf) | fail)
          refine Or.inr (Or.inr (Or.inl ?_)); (conv => whnf); refine ⟨_, _, Tryz.func110, rfl, Tryz.call110, ?_⟩; (conv => whnf)
          (try (conv => whnf)); repeat' (first | ((refine And.intro byteT ?_); (conv => whnf)) | refine Ok.seq ?_ | refine OkL.cons ?_ | ((first | refine Ok.region tok ?_ | refine Ok.region_draw tok follows (by kernel_rfl) ?_ | refine Ok.cond ?_); conv => whnf) | refine Ok.block ?_ | ((first | refine Ok.skip ?_ | refine Ok.exit ?_ | refine Ok.ret ?_ | refine nI ?_ | refine ix _ (by assumption) ?_ | refine ixI (by omega) (by assumption) ?_ | refine ix_new _ (by omega) fun _ _ => ?_ | refine ixI_new (by omega) (by omega) fun _ _ => ?_ | refine ⟨_, by assumption, ?_⟩ | refine Alt2.l (aI ?_) | refine Alt2.r (aI ?_)); conv => whnf) | (refine Ok.scope ?_) | ((first | refine Ok.label ?_ | refine rd rfl (by assumption) ?_ | refine ⟨_, .inl ⟨rfl, rfl⟩, ?_⟩ | refine ⟨_, _, rfl, rfl, ?_⟩); conv => whnf) | (refine ⟨fun _ => ?_, fun _ => ?_⟩ <;> (conv => whnf) <;> (try (exfalso; omega))) | ((first | refine aJ ?_ | refine num_any ?_ | refine ⟨_, rfl, ?_⟩); conv => whnf) | fail)
          refine Or.inr (Or.inr (Or.inr (Or.inr ?_)))
          (conv => whnf)
          refine effW_used copyAt rfl ?_
          (conv => whnf)
          (try (conv => whnf)); repeat' (first | ((refine And.intro byteT ?_); (conv => whnf)) | refine Ok.seq ?_ | refine OkL.cons ?_ | ((first | refine Ok.region tok ?_ | refine Ok.region_draw tok follows (by kernel_rfl) ?_ | refine Ok.cond ?_); conv => whnf) | refine Ok.block ?_ | ((first | refine Ok.skip ?_ | refine Ok.exit ?_ | refine Ok.ret ?_ | refine nI ?_ | refine ix _ (by assumption) ?_ | refine ixI (by omega) (by assumption) ?_ | refine ix_new _ (by omega) fun _ _ => ?_ | refine ixI_new (by omega) (by omega) fun _ _ => ?_ | refine ⟨_, by assumption, ?_⟩ | refine Alt2.l (aI ?_) | refine Alt2.r (aI ?_)); conv => whnf) | (refine Ok.scope ?_) | ((first | refine Ok.label ?_ | refine rd rfl (by assumption) ?_ | refine ⟨_, .inl ⟨rfl, rfl⟩, ?_⟩ | refine ⟨_, _, rfl, rfl, ?_⟩); conv => whnf) | (refine ⟨fun _ => ?_, fun _ => ?_⟩ <;> (conv => whnf) <;> (try (exfalso; omega))) | ((first | refine aJ ?_ | refine num_any ?_ | refine ⟨_, rfl, ?_⟩); conv => whnf) | fail)
          refine ⟨j + 1, by omega, by omega, ?_⟩
          rw [hjn, hts, ← List.append_assoc, ← List.append_assoc, hF]
          (conv => whnf)
          simp [envCat, bcell]
        · have hje : j = x.t.less.length := by omega
          subst hje
          rw [List.take_length]
          (try (conv => whnf)); repeat' (first | refine Ok.seq ?_ | refine OkL.cons ?_ | ((first | refine Ok.region tok ?_ | refine Ok.region_draw tok follows (by kernel_rfl) ?_ | refine Ok.cond ?_); conv => whnf) | refine Ok.block ?_ | ((first | refine Ok.skip ?_ | refine Ok.exit ?_ | refine Ok.ret ?_ | refine nI ?_ | refine ix _ (by assumption) ?_ | refine ixI (by omega) (by assumption) ?_ | refine ix_new _ (by omega) fun _ _ => ?_ | refine ixI_new (by omega) (by omega) fun _ _ => ?_ | refine ⟨_, by assumption, ?_⟩ | refine Alt2.l (aI ?_) | refine Alt2.r (aI ?_)); conv => whnf) | (refine Ok.scope ?_) | ((first | refine Ok.label ?_ | refine rd rfl (by assumption) ?_ | refine ⟨_, .inl ⟨rfl, rfl⟩, ?_⟩ | refine ⟨_, _, rfl, rfl, ?_⟩); conv => whnf) | (refine ⟨fun _ => ?_, fun _ => ?_⟩ <;> (conv => whnf) <;> (try (exfalso; omega))) | ((first | refine aJ ?_ | refine num_any ?_ | refine ⟨_, rfl, ?_⟩); conv => whnf) | fail)
          refine ⟨i + 1, by omega, by omega, ?_⟩
          rw [hstep]
          unfold ttxt
          rw [← List.append_assoc]
          (conv => whnf)
          rfl
    · have hie : i = l.length := by omega
      subst hie
      rw [List.take_of_length_le (by simp)] at hsl hsm ⊢
      have hbl : bcl l.length = .bp 1 0 := by
        have := List.length_pos_iff.2 hl0
        cases hh : l.length with
        | zero => omega
        | succ k => rfl
      rw [hbl]
      (conv => whnf)
      have htne : sepT (l.map TR.t) ≠ [] := by
        obtain ⟨x, hx⟩ : ∃ x, l[l.length - 1]? = some x := ⟨_, List.getElem?_eq_getElem (by have := List.length_pos_iff.2 hl0; omega)⟩
        have hxt : (l.map TR.t)[l.length - 1]? = some x.t := by simp [hx]
        have h1 := sepT_step hxt
        rw [show l.length - 1 + 1 = l.length by have := List.length_pos_iff.2 hl0; omega, List.take_of_length_le (by simp)] at h1
        rw [h1]
        intro e
        have h2 := (List.append_eq_nil_iff.1 (List.append_eq_nil_iff.1 e).2).1
        have h3 := (hok.wide x (List.mem_of_getElem? hx)).1
        rw [h2] at h3
        simp at h3
        omega
      (try (conv => whnf)); repeat' (first | refine Ok.seq ?_ | refine OkL.cons ?_ | ((first | refine Ok.region tok ?_ | refine Ok.region_draw tok follows (by kernel_rfl) ?_ | refine Ok.cond ?_); conv => whnf) | refine Ok.block ?_ | ((first | refine Ok.skip ?_ | refine Ok.exit ?_ | refine Ok.ret ?_ | refine nI ?_ | refine ix _ (by assumption) ?_ | refine ixI (by omega) (by assumption) ?_ | refine ix_new _ (by omega) fun _ _ => ?_ | refine ixI_new (by omega) (by omega) fun _ _ => ?_ | refine ⟨_, by assumption, ?_⟩ | refine Alt2.l (aI ?_) | refine Alt2.r (aI ?_)); conv => whnf) | (refine Ok.scope ?_) | ((first | refine Ok.label ?_ | refine rd rfl (by assumption) ?_ | refine ⟨_, .inl ⟨rfl, rfl⟩, ?_⟩ | refine ⟨_, _, rfl, rfl, ?_⟩); conv => whnf) | (refine ⟨fun _ => ?_, fun _ => ?_⟩ <;> (conv => whnf) <;> (try (exfalso; omega))) | ((first | refine aJ ?_ | refine num_any ?_ | refine ⟨_, rfl, ?_⟩); conv => whnf) | fail)
      refine Or.inr (Or.inr (Or.inr (Or.inr ?_)))
      (conv => whnf)
      refine effW_of_effK (effK_string strAt rfl rfl rfl (by rw [hsm]; exact Nat.le_refl _) (take_all bcell _) htne ?_)
      (conv => whnf)
      (try (conv => whnf)); repeat' (first | refine Ok.seq ?_ | refine OkL.cons ?_ | ((first | refine Ok.region tok ?_ | refine Ok.region_draw tok follows (by kernel_rfl) ?_ | refine Ok.cond ?_); conv => whnf) | refine Ok.block ?_ | ((first | refine Ok.skip ?_ | refine Ok.exit ?_ | refine Ok.ret ?_ | refine nI ?_ | refine ix _ (by assumption) ?_ | refine ixI (by omega) (by assumption) ?_ | refine ix_new _ (by omega) fun _ _ => ?_ | refine ixI_new (by omega) (by omega) fun _ _ => ?_ | refine ⟨_, by assumption, ?_⟩ | refine Alt2.l (aI ?_) | refine Alt2.r (aI ?_)); conv => whnf) | (refine Ok.scope ?_) | ((first | refine Ok.label ?_ | refine rd rfl (by assumption) ?_ | refine ⟨_, .inl ⟨rfl, rfl⟩, ?_⟩ | refine ⟨_, _, rfl, rfl, ?_⟩); conv => whnf) | (refine ⟨fun _ => ?_, fun _ => ?_⟩ <;> (conv => whnf) <;> (try (exfalso; omega))) | ((first | refine aJ ?_ | refine num_any ?_ | refine ⟨_, rfl, ?_⟩); conv => whnf) | fail)
      refine Or.inl ?_; (conv => whnf)
      unfold textS
      rw [if_neg hne]
      rfl
end Go.Proofs.YtaiondckookpiaaGreatDoor
namespace Go.Proofs.YtaiondckookpiaaGreatDoor
open Go Go.Vx
theorem cutL_len (c : UInt8) : ∀ l : Str, (cutL c l).length ≤ l.length + 1
  | [] => by simp [cutL]
  | b :: r => by
    have ih := cutL_len c r
    unfold cutL
    split
    · simp; omega
    · split
      · rename_i h; rw [h] at ih; simp at ih ⊢; omega
      · simp
theorem cutL_mem (c : UInt8) : ∀ {l p : Str}, p ∈ cutL c l → p.length ≤ l.length
  | [], p, h => by simp [cutL] at h; simp [h]
  | b :: r, p, h => by
    unfold cutL at h
    split at h
    · rcases List.mem_cons.1 h with rfl | h
      · simp
      · have := cutL_mem c h; simp; omega
    · split at h
      · rename_i x t hx
        rcases List.mem_cons.1 h with rfl | h
        · have : x ∈ cutL c r := by rw [hx]; simp
          have := cutL_mem c this
          simp; omega
        · have : p ∈ cutL c r := by rw [hx]; simp [h]
          have := cutL_mem c this
          simp; omega
      · simp at h; subst h; simp
theorem cut_more {c b : UInt8} {s : Str} {i f : Nat} (hf : f ≤ i) (hi : s[i]? = some b) (hb : b ≠ c) (hno : c ∉ (s.take i).drop f) : c ∉ (s.take (i + 1)).drop f := by
  obtain ⟨hl, e⟩ := List.getElem?_eq_some_iff.1 hi
  rw [take_snoc hi, List.drop_append_of_le_length (by simp; omega)]
  intro h
  rcases List.mem_append.1 h with h | h
  · exact hno h
  · simp at h; exact hb h.symm
def pieces (s : Str) : List (List Str) := (cutL 43 s).map (cutL 45)
def OkW (n : Int) (w : Str) : Prop := (w.length : Int) = n ∧ okC w
def OkP (n : Int) (ms : List (List Str)) : Prop := ∀ m ∈ ms, ∀ w ∈ m, OkW n w
def cntP (ms : List (List Str)) : Nat := (ms.map List.length).sum
noncomputable def trm (m : List Str) : Option Term := termT (m.headD []) m.tail
noncomputable def trms (ms : List (List Str)) : List Term := ms.filterMap trm
open Classical in
noncomputable def parO (b : Int) (s : Str) : Int × Int × List Term :=
  if 33024 < s.length then (2, 0, []) else if b < 1 ∨ 256 < b then (1, 0, []) else if s = [110, 111, 110, 101] then (0, b, [])
  else if ¬ OkP b (pieces s) then (20, 0, []) else if 128 < cntP (pieces s) then (3, 0, []) else (0, b, formT (trms (pieces s)))
theorem cntP_take {ms : List (List Str)} {i : Nat} {m : List Str} (h : ms[i]? = some m) : cntP (ms.take (i + 1)) = cntP (ms.take i) + m.length := by
  rw [take_snoc h]; simp [cntP]
theorem cntP_le {ms : List (List Str)} {k : Nat} (h : ∀ m ∈ ms, m.length ≤ k) (i : Nat) : cntP (ms.take i) ≤ ms.length * k := by
  have go : ∀ ms : List (List Str), (∀ m ∈ ms, m.length ≤ k) → cntP ms ≤ ms.length * k := by
    intro ms
    induction ms with
    | nil => intro _; simp [cntP]
    | cons m ms ih =>
      intro h
      have h1 := ih fun x hx => h x (by simp [hx])
      have h2 := h m (by simp)
      simp only [cntP, List.map_cons, List.sum_cons, List.length_cons] at h1 ⊢
      rw [Nat.add_mul]; omega
  refine Nat.le_trans (go _ fun m hm => h m (List.mem_of_mem_take hm)) (Nat.mul_le_mul_right _ (by simp; omega))
theorem trms_some {ms : List (List Str)} {i : Nat} {m : List Str} {t : Term} (h : ms[i]? = some m) (ht : trm m = some t) : trms (ms.take (i + 1)) = trms (ms.take i) ++ [t] := by
  rw [take_snoc h]; simp [trms, ht]
theorem trms_none {ms : List (List Str)} {i : Nat} {m : List Str} (h : ms[i]? = some m) (ht : trm m = none) : trms (ms.take (i + 1)) = trms (ms.take i) := by
  rw [take_snoc h]; simp [trms, ht]
theorem pieces_len (s : Str) : (pieces s).length ≤ s.length + 1 := by
  unfold pieces; rw [List.length_map]; exact cutL_len _ _
theorem pieces_mem {s : Str} {m : List Str} (h : m ∈ pieces s) : m ≠ [] ∧ m.length ≤ s.length + 1 ∧ ∀ w ∈ m, w.length ≤ s.length := by
  obtain ⟨p, hp, rfl⟩ := List.mem_map.1 h
  have h1 := cutL_mem _ hp
  have h2 := cutL_len 45 p
  exact ⟨cutL_ne _ _, by omega, fun w hw => Nat.le_trans (cutL_mem _ hw) h1⟩
theorem szT_sub {l k : List Term} (h : l.Sublist k) : szT l ≤ szT k := by
  induction h with
  | slnil => exact Nat.le_refl _
  | cons a _ ih => simp only [szT, List.map_cons, List.sum_cons] at ih ⊢; omega
  | cons_cons a _ ih => simp only [szT, List.map_cons, List.sum_cons] at ih ⊢; omega
theorem szT_perm {l k : List Term} (h : l.Perm k) : szT l = szT k := (h.map _).sum_nat
theorem grG_sublist {α : Type} (R : α → α → Prop) (l : List α) : (grG R l).Sublist l := by
  have go : ∀ (l k l0 : List α), k.Sublist l0 → (l.foldl (addG R) k).Sublist (l0 ++ l) := by
    intro l
    induction l with
    | nil => intro k l0 h; simpa using h
    | cons x l ih =>
      intro k l0 h
      have hx : (addG R k x).Sublist (l0 ++ [x]) := by
        unfold addG
        split
        · exact h.trans (List.sublist_append_left _ _)
        · exact (List.filter_sublist.trans h).append (List.Sublist.refl _)
      have := ih _ _ hx
      simpa [List.append_assoc] using this
  have h := go l [] [] (List.Sublist.refl _)
  rw [List.nil_append] at h
  exact h
theorem szT_form (l : List Term) : szT (formT l) ≤ szT l := by
  unfold formT
  rw [szT_perm (srt_perm aheadT _)]
  exact szT_sub (grG_sublist _ _)
theorem termT_sz {p : Str} {less : List Str} {t : Term} (h : termT p less = some t) : t.less.length ≤ less.length := by
  by_cases hk : PK p less = [p]
  · rw [termT_pk0 hk] at h; cases h
  · rw [termT_pk1 hk] at h
    cases h
    have := PK_len p less less.length
    rwa [List.take_length] at this
theorem trm_sz {m : List Str} {t : Term} (hm : m ≠ []) (h : trm m = some t) : 1 + t.less.length ≤ m.length := by
  have := termT_sz h
  cases m with
  | nil => exact absurd rfl hm
  | cons a m => simp at this ⊢; omega
theorem szT_trms {ms : List (List Str)} (h : ∀ m ∈ ms, m ≠ []) : szT (trms ms) ≤ cntP ms := by
  induction ms with
  | nil => simp [trms, szT, cntP]
  | cons m ms ih =>
    have h1 := ih fun x hx => h x (by simp [hx])
    unfold trms cntP at *
    cases ht : trm m with
    | none => rw [List.filterMap_cons_none ht]; simp; omega
    | some t =>
      rw [List.filterMap_cons_some ht]
      have := trm_sz (h m (by simp)) ht
      simp only [szT, List.map_cons, List.sum_cons] at h1 ⊢
      omega
structure GoodT (n : Nat) (t : Term) : Prop where
  ok : t.Ok n
  p : CN t.p
  less : ∀ m ∈ t.less, CN m
theorem metL_mem {p : Str} {less : List Str} {m : Str} (h : m ∈ metL p less) : ∃ x ∈ less, meetT x p = some m := by
  obtain ⟨x, hx, hm⟩ := List.mem_filterMap.1 h
  exact ⟨x, hx, hm⟩
theorem termT_good {p : Str} {less : List Str} {t : Term} {n : Nat} (hp : CN p) (hn : p.length = n) (hl : ∀ m ∈ less, CT m) (h : termT p less = some t) : GoodT n t ∧ t.p = p := by
  have h0 := termT_ok hp.2 h
  subst hn
  refine ⟨⟨h0.1, by rw [h0.2]; exact hp, fun m hm => ?_⟩, h0.2⟩
  by_cases hk : PK p less = [p]
  · rw [termT_pk0 hk] at h; cases h
  · rw [termT_pk1 hk] at h
    cases h
    obtain ⟨x, hx, hm2⟩ := metL_mem (PK_mem hm)
    have h3 := meetT_ct hm2 (hl x hx) hp.1
    exact ⟨h3.1, fun e => h3.2.2 (List.eq_nil_of_length_eq_zero (by rw [← h3.2.1, e]; rfl))⟩
structure Fine (n : Int) (ts : List Term) : Prop where
  n0 : 0 ≤ n
  n1 : n ≤ 256
  good : ∀ t ∈ ts, GoodT n.toNat t
  sz : szT ts ≤ 128
theorem Fine.nil {n : Int} (h0 : 0 ≤ n) (h1 : n ≤ 256) : Fine n [] := ⟨h0, h1, by simp, by simp [szT]⟩
theorem szT_len (l : List Term) : l.length ≤ szT l := szS_len l
theorem szT_mem {l : List Term} {t : Term} (h : t ∈ l) : 1 + t.less.length ≤ szT l := szS_mem h
theorem Fine.len {n : Int} {ts : List Term} (h : Fine n ts) : ts.length ≤ 128 := Nat.le_trans (szT_len _) h.sz
theorem Fine.less {n : Int} {ts : List Term} (h : Fine n ts) {t : Term} (ht : t ∈ ts) : t.less.length ≤ 127 := by
  have := szT_mem ht
  have := h.sz
  omega
theorem GoodT.tn {n : Nat} {x : TR} (h : GoodT n x.t) (hl : x.t.less.length ≤ 1048576) : TN x := ⟨h.p, h.less, hl⟩
theorem GoodT.to {n : Nat} {x : TR} (h : GoodT n x.t) (hl : x.t.less.length ≤ 1048576) : TO n x := ⟨h.tn hl, h.ok⟩
theorem mem_of_map {l : List TR} {ts : List Term} (e : l.map TR.t = ts) {x : TR} (hx : x ∈ l) : x.t ∈ ts := by rw [← e]; exact List.mem_map_of_mem hx
theorem Fine.to {n : Int} {ts : List Term} (h : Fine n ts) {l : List TR} (e : l.map TR.t = ts) : ∀ x ∈ l, TO n.toNat x := fun x hx =>
  (h.good _ (mem_of_map e hx)).to (Nat.le_trans (h.less (mem_of_map e hx)) (by decide))
theorem Fine.sp {n : Int} {ts : List Term} (h : Fine n ts) {l : List TR} (e : l.map TR.t = ts) : SpOk n.toNat l := by
  refine ⟨by have := h.n1; omega, ?_, fun x hx => (h.good _ (mem_of_map e hx)).ok.wide, fun hne => ?_⟩
  · rw [← szS_eq, e]; exact Nat.le_trans h.sz (by decide)
  · cases l with
    | nil => exact absurd rfl hne
    | cons x l => exact (h.good _ (mem_of_map e (List.mem_cons_self ..))).ok.pos
theorem Fine.form {n : Int} {l : List Term} (h0 : 0 ≤ n) (h1 : n ≤ 256) (hg : ∀ t ∈ l, GoodT n.toNat t) (hs : szT (formT l) ≤ 128) : Fine n (formT l) :=
  ⟨h0, h1, fun t ht => hg t (formT_mem ht), hs⟩
theorem headD_mem {m : List Str} (h : m ≠ []) : m.headD [] ∈ m := by
  cases m with
  | nil => exact absurd rfl h
  | cons a m => simp
theorem trms_good {n : Int} {ms : List (List Str)} (h : ∀ m ∈ ms, m ≠ []) (ho : OkP n ms) : ∀ t ∈ trms ms, GoodT n.toNat t := by
  intro t ht
  obtain ⟨m, hm, hmt⟩ := List.mem_filterMap.1 ht
  have h1 := ho m hm _ (headD_mem (h m hm))
  exact (termT_good ⟨h1.2.1, h1.2.2⟩ (by have := h1.1; omega) (fun w hw => (ho m hm w (List.mem_of_mem_tail hw)).2.1) hmt).1
theorem parO_fine (b : Int) (s : Str) : Fine (parO b s).2.1 (parO b s).2.2 := by
  unfold parO
  split
  · exact .nil (by decide) (by decide)
  · split
    · exact .nil (by decide) (by decide)
    · rename_i hb
      split
      · exact .nil (by show 0 ≤ b; omega) (by show b ≤ 256; omega)
      · split
        · exact .nil (by decide) (by decide)
        · rename_i ho
          split
          · exact .nil (by decide) (by decide)
          · rename_i hc
            refine .form (by show 0 ≤ b; omega) (by show b ≤ 256; omega) (trms_good (fun m hm => (pieces_mem hm).1) (Classical.not_not.1 ho)) ?_
            have := szT_form (trms (pieces s))
            have := szT_trms (ms := pieces s) fun m hm => (pieces_mem hm).1
            omega
end Go.Proofs.YtaiondckookpiaaGreatDoor
namespace Go.Proofs.YtaiondckookpiaaGreatDoor
open Go Go.Vx
theorem parO_long {b : Int} {s : Str} (h : 33024 < s.length) : parO b s = (2, 0, []) := by unfold parO; rw [if_pos h]
theorem parO_arg {b : Int} {s : Str} (h : ¬ 33024 < s.length) (h2 : b < 1 ∨ 256 < b) : parO b s = (1, 0, []) := by unfold parO; rw [if_neg h, if_pos h2]
theorem parO_none {b : Int} {s : Str} (h : ¬ 33024 < s.length) (h2 : ¬ (b < 1 ∨ 256 < b)) (h3 : s = [110, 111, 110, 101]) : parO b s = (0, b, []) := by unfold parO; rw [if_neg h, if_neg h2, if_pos h3]
theorem parO_word {b : Int} {s : Str} (h : ¬ 33024 < s.length) (h2 : ¬ (b < 1 ∨ 256 < b)) (h3 : ¬ s = [110, 111, 110, 101]) (h4 : ¬ OkP b (pieces s)) : parO b s = (20, 0, []) := by
  unfold parO; rw [if_neg h, if_neg h2, if_neg h3, if_pos h4]
theorem parO_many {b : Int} {s : Str} (h : ¬ 33024 < s.length) (h2 : ¬ (b < 1 ∨ 256 < b)) (h3 : ¬ s = [110, 111, 110, 101]) (h4 : OkP b (pieces s)) (h5 : 128 < cntP (pieces s)) : parO b s = (3, 0, []) := by
  unfold parO; rw [if_neg h, if_neg h2, if_neg h3, if_neg (fun q => q h4), if_pos h5]
theorem parO_form {b : Int} {s : Str} (h : ¬ 33024 < s.length) (h2 : ¬ (b < 1 ∨ 256 < b)) (h3 : ¬ s = [110, 111, 110, 101]) (h4 : OkP b (pieces s)) (h5 : ¬ 128 < cntP (pieces s)) : parO b s = (0, b, formT (trms (pieces s))) := by
  unfold parO; rw [if_neg h, if_neg h2, if_neg h3, if_neg (fun q => q h4), if_neg h5]
theorem okP_take {b : Int} {ms : List (List Str)} {i : Nat} {m : List Str} (h : ms[i]? = some m) (h1 : OkP b (ms.take i)) (h2 : ∀ w ∈ m, OkW b w) : OkP b (ms.take (i + 1)) := by
  intro x hx
  rw [take_snoc h] at hx
  rcases List.mem_append.1 hx with hx | hx
  · exact h1 x hx
  · simp at hx; subst hx; exact h2
theorem pieces_get {s : Str} {i : Nat} {x : Str} (h : (cutL 43 s)[i]? = some x) : (pieces s)[i]? = some (cutL 45 x) := by unfold pieces; rw [List.getElem?_map, h]; rfl
theorem pieces_all {s : Str} : (pieces s).take (cutL 43 s).length = pieces s := List.take_of_length_le (by simp [pieces])
def DSp (n : Int) (ts : List Term) (d : D) : Prop := ∃ (ks : List TR) (rm : List (List D)), d = .agg [.i .i64 n, .lst 120 (ks.map drow) rm] ∧ ks.map TR.t = ts
def DOut (o : Int × Int × List Term) (d : D) (rows : Vx.Rows) : Prop := rows = [] ∧ ∃ a, d = .tup [a, .i .i64 o.1] ∧ DSp o.2.1 o.2.2 a
theorem DSp.nil (n : Int) : DSp n [] (.agg [.i .i64 n, .lst 120 [] []]) := ⟨[], [], rfl, rfl⟩
end Go.Proofs.YtaiondckookpiaaGreatDoor
namespace Go.Proofs.YtaiondckookpiaaGreatDoor
open Go Go.Vx Go.RowKit
theorem ours_nil (w : World) : Calls Tryz.prog 64 #[.nilIface] w fun e w' => e = .returned (.bool false) ∧ w' = w := by
  go_enter Tryz.func64, Tryz.ntmps64
  go_wp2
  go_ret
  exact ⟨rfl, rfl⟩
theorem as_passed (w : World) : (Instr.typeAssert (.iface 154 (.agg #[])) 20 154 true).run Tryz.prog w = .ok (.tuple #[.agg #[], .bool true]) w := by kernel_rfl
set_option maxRecDepth 100000 in
theorem ours_passed (w : World) : Calls Tryz.prog 64 #[.iface 154 (.agg #[])] w fun e w' => e = .returned (.bool true) ∧ Ext w w' := by
  go_enter Tryz.func64, Tryz.ntmps64
  go_wp2_with (rw [as_passed])
  go_ret
  exact ⟨rfl, Ext.alloc _ _⟩
theorem run_store2 {t : TypeId} {p : Addr} {w w' : World} {z : List Value} {x y : Operand} {a : Act} {dst : Option Nat} {type : TypeId} {pos : String} {after : Array Edge} (hsz : ∀ w, (sizeOf t).run Tryz.prog w = .ok z.length w) (hx : a.eval x = .pointer (some p)) (hy : (a.eval y).cells = z.toArray) (h : (storeCells p z).run Tryz.prog w = .ok () w') :
    (execOp a.eval ⟨dst, .store t x y, type, pos, after, none⟩).run Tryz.prog w = .ok .skip w' := by
  simp [execOp, Instr.storeAt, hx, hy, Instr.sureAddr, storeVar, hsz, h]
theorem run_build2 {e : Operand → Value} {dst : Option Nat} {type : TypeId} {pos : String} {after : Array Edge} {w : World} : (execOp e ⟨dst, .build 24 #[], type, pos, after, none⟩).run Tryz.prog w = .ok (.value (.agg #[.int .i64 0, .slice none 0 0])) w := by
  have h : (Instr.build 24 #[]).run Tryz.prog w = .ok (.agg #[.int .i64 0, .slice none 0 0]) w := by kernel_rfl
  simp [execOp, h]
theorem idle_parse (p q : Addr) (w : World) : CallsD Tryz.prog 99 #[.pointer (some p), .pointer (some q)] .returning w fun e u' w' => e = .returned (.tuple #[]) ∧ u' = .returning ∧ Ext w w' := by
  refine callsD_of_wpS Tryz.func99 rfl fun c₀ cs hu => ?_
  apply wpS_seq
  apply wpS_region
  simp [wpOpsS, go_sem, recoverD, hu, Tryz.ntmps99, Exit.thenS]
  refine (ours_nil w).mono ?_
  rintro e w' ⟨rfl, rfl⟩
  refine wpS_cond (t := false) (by simp [Act.eval, Act.put, Array.replicate]) ?_
  simp only [Bool.false_eq_true, if_false]
  refine wpS_of_wp (wp_skip ?_)
  cases c₀
  simp_all [bodyPostS, results, Tryz.results99]
  exact Ext.refl _
theorem caught_parse (p q : Addr) (w : World) {R : Ending → FrameMode → World → Prop} (h : ∀ w1, Ext w w1 → ∃ w2, (storeCells p [.int .i64 0, .slice none 0 0]).run Tryz.prog w1 = .ok () w2 ∧ ∃ w3, (storeCells q [.int .i64 3]).run Tryz.prog w2 = .ok () w3)
    (hR : ∀ w1 w2 w3, Ext w w1 → (storeCells p [.int .i64 0, .slice none 0 0]).run Tryz.prog w1 = .ok () w2 → (storeCells q [.int .i64 3]).run Tryz.prog w2 = .ok () w3 → R (.returned (.tuple #[])) (.panicking [{ v := .iface 154 (.agg #[]), recovered := true }]) w3) :
    CallsD Tryz.prog 99 #[.pointer (some p), .pointer (some q)] (.panicking [{ v := .iface 154 (.agg #[]), recovered := false }]) w R := by
  refine callsD_of_wpS Tryz.func99 rfl fun c₀ cs hu => ?_
  apply wpS_seq
  apply wpS_region
  simp [wpOpsS, go_sem, recoverD, hu, Tryz.ntmps99, Exit.thenS]
  refine (ours_passed w).mono ?_
  rintro e w1 ⟨rfl, hx⟩
  obtain ⟨w2, h1, w3, h2⟩ := h w1 hx
  have hr := hR w1 w2 w3 hx h1 h2
  refine wpS_cond (t := true) (by simp [Act.eval, Act.put, Array.replicate]) ?_
  simp only [if_true]
  refine wpS_of_wp ?_
  refine wp_region_lit ?_
  unfold wpList
  rw [if_pos (by simp [Region.wanted])]
  left
  unfold Oper.wp
  rw [run_build2]
  show wpList _ _ _ [_, _] (Act.put _ (some 4) _) w1
  unfold wpList
  rw [if_pos (by simp [Region.wanted])]
  left
  unfold Oper.wp
  rw [run_store2 (p := p) (z := [.int .i64 0, .slice none 0 0]) (fun w => by kernel_rfl) (by simp [Act.eval, Act.put, Array.replicate]) (by simp [Act.eval, Act.put, Array.replicate, Value.cells]) h1]
  show wpList _ _ _ [_] _ w2
  unfold wpList
  rw [if_pos (by simp [Region.wanted])]
  left
  unfold Oper.wp
  rw [run_store2 (p := q) (z := [.int .i64 3]) (fun w => by kernel_rfl) (by simp [Act.eval, Act.put, Array.replicate]) (by simp [Act.eval, Value.cells]) h2]
  show bodyPostS _ _ _ _ _ .normal _ _ w3
  cases c₀
  simp_all [bodyPostS, results, Tryz.results99]
  try exact rfl
theorem def_parse : DefSpec Tryz.prog 99 (.iface 154 (.agg #[])) [.int .i64 0, .slice none 0 0] [.int .i64 3] :=
  ⟨Tryz.call99, idle_parse, fun p q w h => caught_parse p q w h fun _ _ _ hx h1 h2 => ⟨rfl, rfl, _, _, hx, h1, h2⟩⟩
theorem idle_expand (p q : Addr) (w : World) : CallsD Tryz.prog 90 #[.pointer (some p), .pointer (some q)] .returning w fun e u' w' => e = .returned (.tuple #[]) ∧ u' = .returning ∧ Ext w w' := by
  refine callsD_of_wpS Tryz.func90 rfl fun c₀ cs hu => ?_
  apply wpS_seq
  apply wpS_region
  simp [wpOpsS, go_sem, recoverD, hu, Tryz.ntmps90, Exit.thenS]
  refine (ours_nil w).mono ?_
  rintro e w' ⟨rfl, rfl⟩
  refine wpS_cond (t := false) (by simp [Act.eval, Act.put, Array.replicate]) ?_
  simp only [Bool.false_eq_true, if_false]
  refine wpS_of_wp (wp_skip ?_)
  cases c₀
  simp_all [bodyPostS, results, Tryz.results90]
  exact Ext.refl _
theorem caught_expand (p q : Addr) (w : World) {R : Ending → FrameMode → World → Prop} (h : ∀ w1, Ext w w1 → ∃ w2, (storeCells p [.slice none 0 0]).run Tryz.prog w1 = .ok () w2 ∧ ∃ w3, (storeCells q [.int .i64 3]).run Tryz.prog w2 = .ok () w3)
    (hR : ∀ w1 w2 w3, Ext w w1 → (storeCells p [.slice none 0 0]).run Tryz.prog w1 = .ok () w2 → (storeCells q [.int .i64 3]).run Tryz.prog w2 = .ok () w3 → R (.returned (.tuple #[])) (.panicking [{ v := .iface 154 (.agg #[]), recovered := true }]) w3) :
    CallsD Tryz.prog 90 #[.pointer (some p), .pointer (some q)] (.panicking [{ v := .iface 154 (.agg #[]), recovered := false }]) w R := by
  refine callsD_of_wpS Tryz.func90 rfl fun c₀ cs hu => ?_
  apply wpS_seq
  apply wpS_region
  simp [wpOpsS, go_sem, recoverD, hu, Tryz.ntmps90, Exit.thenS]
  refine (ours_passed w).mono ?_
  rintro e w1 ⟨rfl, hx⟩
  obtain ⟨w2, h1, w3, h2⟩ := h w1 hx
  have hr := hR w1 w2 w3 hx h1 h2
  refine wpS_cond (t := true) (by simp [Act.eval, Act.put, Array.replicate]) ?_
  simp only [if_true]
  refine wpS_of_wp ?_
  refine wp_region_lit ?_
  unfold wpList
  rw [if_pos (by simp [Region.wanted])]
  left
  unfold Oper.wp
  rw [run_store2 (p := p) (z := [.slice none 0 0]) (fun w => by kernel_rfl) (by simp [Act.eval, Act.put, Array.replicate]) (by simp [Act.eval, Act.put, Array.replicate, Value.cells]) h1]
  show wpList _ _ _ [_] _ w2
  unfold wpList
  rw [if_pos (by simp [Region.wanted])]
  left
  unfold Oper.wp
  rw [run_store2 (p := q) (z := [.int .i64 3]) (fun w => by kernel_rfl) (by simp [Act.eval, Act.put, Array.replicate]) (by simp [Act.eval, Value.cells]) h2]
  show bodyPostS _ _ _ _ _ .normal _ _ w3
  cases c₀
  simp_all [bodyPostS, results, Tryz.results90]
  try exact rfl
theorem def_expand : DefSpec Tryz.prog 90 (.iface 154 (.agg #[])) [.slice none 0 0] [.int .i64 3] :=
  ⟨Tryz.call90, idle_expand, fun p q w h => caught_expand p q w h fun _ _ _ hx h1 h2 => ⟨rfl, rfl, _, _, hx, h1, h2⟩⟩
end Go.Proofs.YtaiondckookpiaaGreatDoor
namespace Go.Proofs.YtaiondckookpiaaGreatDoor
open Go Go.Vx Go.Shelf
def PSp (n : Int) (ts : List Term) (d : D) : Prop := ∃ (ks : List TR) (rm : List (List D)), d = .agg [.i .i64 n, .lst 112 (ks.map trow) rm] ∧ ks.map TR.t = ts
def POut (o : Int × Int × List Term) (d : D) (rows : Vx.Rows) : Prop := rows = [] ∧ ∃ a, d = .tup [a, .i .i64 o.1] ∧ PSp o.2.1 o.2.2 a
theorem PSp.nil (n : Int) : PSp n [] (.agg [.i .i64 n, .lst 112 [] []]) := ⟨[], [], rfl, rfl⟩
theorem splitAt (t : Str) (c : UInt8) (h : t.length < 4294967281) : FSpec Tryz.prog T 100 [.s t, .s [c]] fun d rows => d = .own 0 (cutL c t).length ∧ rows = [some (9, (cutL c t).map srow)] :=
  split_at Tryz.vxSplit (by kernel_rfl) Tryz.call100 rfl t c h
theorem perr_of {t : Str} (h : okC t) : perr t = 0 := by unfold perr; rw [if_neg (by have := h.1.len; omega), if_pos h]
theorem perr_not {t : Str} (h : ¬ okC t) : perr t ≠ 0 := by
  unfold perr
  split
  · decide
  · decide
theorem lrows {lss : List LR} {ms : List (List Str)} {i : Nat} {m : List Str} (h : lss.map LR.l = ms) (hm : ms[i]? = some m) : ∃ rm, lss[i]? = some ⟨m, rm⟩ := by
  subst h
  rw [List.getElem?_map] at hm
  obtain ⟨x, hx, rfl⟩ := Option.map_eq_some_iff.1 hm
  exact ⟨x.room, hx⟩
set_option maxRecDepth 100000 in
set_option maxHeartbeats 8000000 in
theorem parse2_at (b : Int) (s : Str) : FSpec Tryz.prog T 44 [.i .i64 b, .s s] (POut (parO b s)) := by
  refine FSpec.of_deferK 7 tok Tryz.func44 rfl Tryz.call44 (by simp) def_parse (zd1 := [.i .i64 0, .nilS]) (zd2 := [.i .i64 3]) rfl rfl (by simp [Value.oneCell']) (by simp [Value.oneCell']) rfl ?_
  by_cases hlong : 33024 < s.length
  · rw [parO_long hlong]
    (try (conv => whnf)); repeat' (first | refine Ok.seq ?_ | refine OkL.cons ?_ | ((first | refine Ok.region tok ?_ | refine Ok.region_tree (id := 31) tok follows [(2, 6, []), (5, 6, []), (2, 11, []), (5, 11, []), (6, 11, []), (10, 11, [])] (.q 0 (.q 1 (.q 2 (.q 3 (.q 4 (.alt 5 (.alt 6 (.q 7 (.q 8 (.q 9 (.l 10 (.l 11 (.q 12 .nil)))))) (.alt 10 (.l 6 (.q 7 (.q 8 (.q 9 (.l 11 (.q 12 .nil)))))) .nil)) (.alt 10 (.l 5 (.l 6 (.q 7 (.q 8 (.q 9 (.l 11 (.q 12 .nil))))))) .nil))))))) (by kernel_rfl) ?_ | refine Ok.region_draw tok follows (by kernel_rfl) ?_ | refine Ok.cond ?_); conv => whnf) | refine Ok.block ?_ | ((first | refine Ok.skip ?_ | refine Ok.exit ?_ | refine Ok.ret ?_ | refine nI ?_ | refine ix _ (by assumption) ?_ | refine ixI (by omega) (by assumption) ?_ | refine ix_new _ (by omega) fun _ _ => ?_ | refine ixI_new (by omega) (by omega) fun _ _ => ?_ | refine ⟨_, by assumption, ?_⟩ | refine Alt2.l (aI ?_) | refine Alt2.r (aI ?_)); conv => whnf) | (refine Ok.scope ?_) | ((first | refine Ok.label ?_ | refine rd rfl (by assumption) ?_ | refine ⟨_, .inl ⟨rfl, rfl⟩, ?_⟩ | refine ⟨_, _, rfl, rfl, ?_⟩); conv => whnf) | (refine ⟨fun _ => ?_, fun _ => ?_⟩ <;> (conv => whnf) <;> (try (exfalso; omega))) | ((first | refine aJ ?_ | refine num_any ?_ | refine ⟨_, rfl, ?_⟩); conv => whnf) | (exact True.intro) | (refine And.intro ?_ ?_ <;> (conv => whnf)) | fail)
    refine Or.inl ?_; (conv => whnf)
    exact ⟨rfl, _, rfl, PSp.nil 0⟩
  by_cases hb : b < 1 ∨ 256 < b
  · rw [parO_arg hlong hb]
    (try (conv => whnf)); repeat' (first | refine Ok.seq ?_ | refine OkL.cons ?_ | ((first | refine Ok.region tok ?_ | refine Ok.region_tree (id := 31) tok follows [(2, 6, []), (5, 6, []), (2, 11, []), (5, 11, []), (6, 11, []), (10, 11, [])] (.q 0 (.q 1 (.q 2 (.q 3 (.q 4 (.alt 5 (.alt 6 (.q 7 (.q 8 (.q 9 (.l 10 (.l 11 (.q 12 .nil)))))) (.alt 10 (.l 6 (.q 7 (.q 8 (.q 9 (.l 11 (.q 12 .nil)))))) .nil)) (.alt 10 (.l 5 (.l 6 (.q 7 (.q 8 (.q 9 (.l 11 (.q 12 .nil))))))) .nil))))))) (by kernel_rfl) ?_ | refine Ok.region_draw tok follows (by kernel_rfl) ?_ | refine Ok.cond ?_); conv => whnf) | refine Ok.block ?_ | ((first | refine Ok.skip ?_ | refine Ok.exit ?_ | refine Ok.ret ?_ | refine nI ?_ | refine ix _ (by assumption) ?_ | refine ixI (by omega) (by assumption) ?_ | refine ix_new _ (by omega) fun _ _ => ?_ | refine ixI_new (by omega) (by omega) fun _ _ => ?_ | refine ⟨_, by assumption, ?_⟩ | refine Alt2.l (aI ?_) | refine Alt2.r (aI ?_)); conv => whnf) | (refine Ok.scope ?_) | ((first | refine Ok.label ?_ | refine rd rfl (by assumption) ?_ | refine ⟨_, .inl ⟨rfl, rfl⟩, ?_⟩ | refine ⟨_, _, rfl, rfl, ?_⟩); conv => whnf) | (refine ⟨fun _ => ?_, fun _ => ?_⟩ <;> (conv => whnf) <;> (try (exfalso; omega))) | ((first | refine aJ ?_ | refine num_any ?_ | refine ⟨_, rfl, ?_⟩); conv => whnf) | (exact True.intro) | (refine And.intro ?_ ?_ <;> (conv => whnf)) | fail)
    all_goals
      refine Or.inl ?_; (conv => whnf)
      exact ⟨rfl, _, rfl, PSp.nil 0⟩
  have hnb : noneB b = b := by unfold noneB; rw [if_neg hb]
  have hnone := none_at b
  rw [hnb] at hnone
  by_cases hnn : s = [110, 111, 110, 101]
  · rw [parO_none hlong hb hnn]
    (try (conv => whnf)); repeat' (first | refine Ok.seq ?_ | refine OkL.cons ?_ | ((first | refine Ok.region tok ?_ | refine Ok.region_tree (id := 31) tok follows [(2, 6, []), (5, 6, []), (2, 11, []), (5, 11, []), (6, 11, []), (10, 11, [])] (.q 0 (.q 1 (.q 2 (.q 3 (.q 4 (.alt 5 (.alt 6 (.q 7 (.q 8 (.q 9 (.l 10 (.l 11 (.q 12 .nil)))))) (.alt 10 (.l 6 (.q 7 (.q 8 (.q 9 (.l 11 (.q 12 .nil)))))) .nil)) (.alt 10 (.l 5 (.l 6 (.q 7 (.q 8 (.q 9 (.l 11 (.q 12 .nil))))))) .nil))))))) (by kernel_rfl) ?_ | refine Ok.region_draw tok follows (by kernel_rfl) ?_ | refine Ok.cond ?_); conv => whnf) | refine Ok.block ?_ | ((first | refine Ok.skip ?_ | refine Ok.exit ?_ | refine Ok.ret ?_ | refine nI ?_ | refine ix _ (by assumption) ?_ | refine ixI (by omega) (by assumption) ?_ | refine ix_new _ (by omega) fun _ _ => ?_ | refine ixI_new (by omega) (by omega) fun _ _ => ?_ | refine ⟨_, by assumption, ?_⟩); conv => whnf) | (refine Or.inr (Or.inl ?_); (conv => whnf); (repeat (refine aI ?_; conv => whnf)); refine ⟨_, hnone, ?_⟩; rintro _ _ ⟨rfl, rfl⟩ <;> (conv => whnf)) | ((first | refine Alt2.l (aI ?_) | refine Alt2.r (aI ?_)); conv => whnf) | (refine Ok.scope ?_) | ((first | refine Ok.label ?_ | refine rd rfl (by assumption) ?_ | refine ⟨_, .inl ⟨rfl, rfl⟩, ?_⟩ | refine ⟨_, _, rfl, rfl, ?_⟩); conv => whnf) | (refine ⟨fun _ => ?_, fun _ => ?_⟩ <;> (conv => whnf) <;> (try (exfalso; omega))) | ((first | refine aJ ?_ | refine num_any ?_ | refine ⟨_, rfl, ?_⟩); conv => whnf) | (exact True.intro) | (refine And.intro ?_ ?_ <;> (conv => whnf)) | fail)
    · refine Or.inl ?_; (conv => whnf)
      exact ⟨rfl, _, rfl, PSp.nil b⟩
    · exact absurd hnn (by assumption)
  have hLn := cutL_len 43 s
  have hLl : ((cutL 43 s).map srow).length = (cutL 43 s).length := by simp
  have hLm : ∀ x ∈ cutL 43 s, x.length ≤ s.length := fun x hx => cutL_mem 43 hx
  have hcl : ∀ i, cntP ((pieces s).take i) ≤ (pieces s).length * (s.length + 1) := cntP_le fun m hm => (pieces_mem hm).2.1
  have hpl := pieces_len s
  have hmul : (pieces s).length * (s.length + 1) ≤ 33025 * 33025 := Nat.mul_le_mul (by omega) (by omega)
  (try (conv => whnf)); repeat' (first | refine Ok.seq ?_ | refine OkL.cons ?_ | ((first | refine Ok.region tok ?_ | refine Ok.region_tree (id := 31) tok follows [(2, 6, []), (5, 6, []), (2, 11, []), (5, 11, []), (6, 11, []), (10, 11, [])] (.q 0 (.q 1 (.q 2 (.q 3 (.q 4 (.alt 5 (.alt 6 (.q 7 (.q 8 (.q 9 (.l 10 (.l 11 (.q 12 .nil)))))) (.alt 10 (.l 6 (.q 7 (.q 8 (.q 9 (.l 11 (.q 12 .nil)))))) .nil)) (.alt 10 (.l 5 (.l 6 (.q 7 (.q 8 (.q 9 (.l 11 (.q 12 .nil))))))) .nil))))))) (by kernel_rfl) ?_ | refine Ok.region_draw tok follows (by kernel_rfl) ?_ | refine Ok.cond ?_); conv => whnf) | refine Ok.block ?_ | ((first | refine Ok.skip ?_ | refine Ok.exit ?_ | refine Ok.ret ?_ | refine nI ?_ | refine ix _ (by assumption) ?_ | refine ixI (by omega) (by assumption) ?_ | refine ix_new _ (by omega) fun _ _ => ?_ | refine ixI_new (by omega) (by omega) fun _ _ => ?_ | refine ⟨_, by assumption, ?_⟩); conv => whnf) | (refine Or.inr (Or.inl ?_); (conv => whnf); (repeat (refine aI ?_; conv => whnf)); refine ⟨_, hnone, ?_⟩; rintro _ _ ⟨rfl, rfl⟩ <;> (conv => whnf)) | ((first | refine Alt2.l (aI ?_) | refine Alt2.r (aI ?_)); conv => whnf) | (refine Ok.scope ?_) | ((first | refine Ok.label ?_ | refine rd rfl (by assumption) ?_ | refine ⟨_, .inl ⟨rfl, rfl⟩, ?_⟩ | refine ⟨_, _, rfl, rfl, ?_⟩); conv => whnf) | (refine ⟨fun _ => ?_, fun _ => ?_⟩ <;> (conv => whnf) <;> (try (exfalso; omega))) | ((first | refine aJ ?_ | refine num_any ?_ | refine ⟨_, rfl, ?_⟩); conv => whnf) | (exact True.intro) | (refine And.intro ?_ ?_ <;> (conv => whnf)) | fail)
  · exact absurd (by assumption) hnn
  refine OkL.nil ?_
  (conv => whnf)
  refine ⟨0, 1, rfl, rfl, by decide, by decide, by decide, rfl, ?_⟩
  have hsp : ∀ t : Str, ∀ c : UInt8, t.length ≤ s.length → FSpec Tryz.prog T 100 [.s t, .s [c]] fun d rows => d = .own 0 (cutL c t).length ∧ rows = [some (9, (cutL c t).map srow)] := fun t c h => splitAt t c (by omega)
  (try (conv => whnf)); repeat' (first | refine Ok.seq ?_ | refine OkL.cons ?_ | ((first | refine Ok.region tok ?_ | refine Ok.region_tree (id := 31) tok follows [(2, 6, []), (5, 6, []), (2, 11, []), (5, 11, []), (6, 11, []), (10, 11, [])] (.q 0 (.q 1 (.q 2 (.q 3 (.q 4 (.alt 5 (.alt 6 (.q 7 (.q 8 (.q 9 (.l 10 (.l 11 (.q 12 .nil)))))) (.alt 10 (.l 6 (.q 7 (.q 8 (.q 9 (.l 11 (.q 12 .nil)))))) .nil)) (.alt 10 (.l 5 (.l 6 (.q 7 (.q 8 (.q 9 (.l 11 (.q 12 .nil))))))) .nil))))))) (by kernel_rfl) ?_ | refine Ok.region_draw tok follows (by kernel_rfl) ?_ | refine Ok.cond ?_); conv => whnf) | refine Ok.block ?_ | ((first | refine Ok.skip ?_ | refine Ok.exit ?_ | refine Ok.ret ?_ | refine nI ?_ | refine ix _ (by assumption) ?_ | refine ixI (by omega) (by assumption) ?_ | refine ix_new _ (by omega) fun _ _ => ?_ | refine ixI_new (by omega) (by omega) fun _ _ => ?_ | refine ⟨_, by assumption, ?_⟩); conv => whnf) | (refine Or.inl ?_; (conv => whnf); (repeat (refine aI ?_; conv => whnf)); refine ⟨_, hsp s 43 (Nat.le_refl _), rfl, ?_⟩; conv => whnf) | (refine ⟨_, hsp s 43 (Nat.le_refl _), rfl, ?_⟩; conv => whnf) | (refine Or.inr (Or.inl ?_); (conv => whnf); (repeat (refine aI ?_; conv => whnf)); refine ⟨_, hsp s 43 (Nat.le_refl _), ?_⟩; rintro _ _ ⟨rfl, rfl⟩; conv => whnf) | ((first | refine Alt2.l (aI ?_) | refine Alt2.r (aI ?_)); conv => whnf) | (refine Ok.scope ?_) | ((first | refine Ok.label ?_ | refine rd rfl (by assumption) ?_ | refine ⟨_, .inl ⟨rfl, rfl⟩, ?_⟩ | refine ⟨_, _, rfl, rfl, ?_⟩); conv => whnf) | (refine ⟨fun _ => ?_, fun _ => ?_⟩ <;> (conv => whnf) <;> (try (exfalso; omega))) | ((first | refine aJ ?_ | refine num_any ?_ | refine ⟨_, rfl, ?_⟩); conv => whnf) | (exact True.intro) | (refine And.intro ?_ ?_ <;> (conv => whnf)) | fail)
  refine Ok.ghost 6 58 rfl ?_
  (conv => whnf)
  refine Ok.loopU [0, 4, 5, 37, 38] [6, 7, 39] 2 2 (fun (x : Nat × List LR) => [.own 1 x.2.length, .i .i64 (cntP ((pieces s).take x.1) : Nat), .i .i64 (x.1 : Nat)]) (fun _ b => b) (fun (x : Nat × List LR) (_ : Vx.Rows) => [some (9, (cutL 43 s).map srow), some (58, x.2.map lrow)]) (fun (x : Nat × List LR) => x.1 ≤ (cutL 43 s).length ∧ x.2.map LR.l = (pieces s).take x.1 ∧ OkP b ((pieces s).take x.1)) (fun (x : Nat × List LR) => (cutL 43 s).length - x.1) ((0, [])) (⟨Nat.zero_le _, by simp, by simp [OkP]⟩) ?_; (conv => whnf); refine ⟨by ((conv => whnf); first | rfl | (simp [envCat, List.take_of_length_le, crow, trow]; done) | (simp [envCat, List.take_of_length_le, crow, trow]; rw [IntKind.wrap_i64]; omega)), ?_⟩
  rintro ⟨i, lss⟩ ⟨hi, hls, hok⟩
  dsimp only at hi hls hok ⊢
  have hlsl : (lss.map lrow).length = lss.length := by simp
  have hlsn : lss.length ≤ 40000 := by
    have := congrArg List.length hls
    simp at this
    omega
  have hci := hcl i
  (conv => whnf)
  by_cases hil : i < (cutL 43 s).length
  · obtain ⟨x, hx⟩ : ∃ x, (cutL 43 s)[i]? = some x := ⟨_, List.getElem?_eq_getElem hil⟩
    have hpx := pieces_get hx
    have hxl := hLm x (List.mem_of_getElem? hx)
    have hnx := cntP_take hpx
    have hml := cutL_len 45 x
    have hmm : ((cutL 45 x).map srow).length = (cutL 45 x).length := by simp
    have hokx := okP_take (b := b) hpx hok
    have hwl : ∀ w ∈ cutL 45 x, w.length ≤ x.length := fun w hw => cutL_mem 45 hw
    have hbad : ∀ w ∈ cutL 45 x, ¬ OkW b w → ¬ OkP b (pieces s) := fun w hw h q => h (q _ (List.mem_of_getElem? hpx) w hw)
    have hsx := hsp x 45 hxl
    generalize cntP ((pieces s).take i) = K at *
    generalize hM : cutL 45 x = M at *
    (try (conv => whnf)); repeat' (first | refine Ok.seq ?_ | refine OkL.cons ?_ | ((first | refine Ok.region tok ?_ | refine Ok.region_tree (id := 31) tok follows [(2, 6, []), (5, 6, []), (2, 11, []), (5, 11, []), (6, 11, []), (10, 11, [])] (.q 0 (.q 1 (.q 2 (.q 3 (.q 4 (.alt 5 (.alt 6 (.q 7 (.q 8 (.q 9 (.l 10 (.l 11 (.q 12 .nil)))))) (.alt 10 (.l 6 (.q 7 (.q 8 (.q 9 (.l 11 (.q 12 .nil)))))) .nil)) (.alt 10 (.l 5 (.l 6 (.q 7 (.q 8 (.q 9 (.l 11 (.q 12 .nil))))))) .nil))))))) (by kernel_rfl) ?_ | refine Ok.region_draw tok follows (by kernel_rfl) ?_ | refine Ok.cond ?_); conv => whnf) | refine Ok.block ?_ | ((first | refine Ok.skip ?_ | refine Ok.exit ?_ | refine Ok.ret ?_ | refine nI ?_ | refine ix _ (by assumption) ?_ | refine ixI (by omega) (by assumption) ?_ | refine ix_new _ (by omega) fun _ _ => ?_ | refine ixI_new (by omega) (by omega) fun _ _ => ?_ | refine ⟨_, by assumption, ?_⟩); conv => whnf) | (refine Or.inl ?_; (conv => whnf); (repeat (refine aI ?_; conv => whnf)); refine ⟨_, hsx, rfl, ?_⟩; conv => whnf) | (refine ⟨_, hsx, rfl, ?_⟩; conv => whnf) | (refine Or.inr (Or.inl ?_); (conv => whnf); (repeat (refine aI ?_; conv => whnf)); refine ⟨_, hsx, ?_⟩; rintro _ _ ⟨rfl, rfl⟩; conv => whnf) | ((first | refine Alt2.l (aI ?_) | refine Alt2.r (aI ?_)); conv => whnf) | (refine Ok.scope ?_) | ((first | refine Ok.label ?_ | refine rd rfl (by assumption) ?_ | refine ⟨_, .inl ⟨rfl, rfl⟩, ?_⟩ | refine ⟨_, _, rfl, rfl, ?_⟩); conv => whnf) | (refine ⟨fun _ => ?_, fun _ => ?_⟩ <;> (conv => whnf) <;> (try (exfalso; omega))) | ((first | refine aJ ?_ | refine num_any ?_ | refine ⟨_, rfl, ?_⟩); conv => whnf) | (exact True.intro) | (refine And.intro ?_ ?_ <;> (conv => whnf)) | fail)
    refine Ok.ghost 10 46 rfl ?_
    (conv => whnf)
    refine Ok.loopU [0, 4, 5, 6, 7, 37, 38, 39, 44, 45] [10, 46] 4 2 (fun (j : Nat) => [.own 3 j, .i .i64 (j : Nat)]) (fun _ b => b) (fun (j : Nat) (_ : Vx.Rows) => [some (9, (cutL 43 s).map srow), some (58, lss.map lrow), some (9, M.map srow), some (46, (M.take j).map crow)]) (fun (j : Nat) => j ≤ M.length ∧ ∀ w ∈ M.take j, OkW b w) (fun (j : Nat) => M.length - j) (0) (⟨Nat.zero_le _, by simp⟩) ?_; (conv => whnf); refine ⟨by ((conv => whnf); first | rfl | (simp [envCat, List.take_of_length_le, crow, trow]; done) | (simp [envCat, List.take_of_length_le, crow, trow]; rw [IntKind.wrap_i64]; omega)), ?_⟩
    rintro j ⟨hj, hw⟩
    have hjm : ((M.take j).map crow).length = j := by simp; omega
    (conv => whnf)
    by_cases hjl : j < M.length
    · obtain ⟨y, hy⟩ : ∃ y, M[j]? = some y := ⟨_, List.getElem?_eq_getElem hjl⟩
      have hyI : M[((j : Nat) : Int).toNat]? = some y := hy
      have hym := List.mem_of_getElem? hy
      have hyl := hwl y hym
      have hpy := parse_at y
      by_cases hgood : OkW b y
      · have hg1 := hgood.1
        rw [zer_of hgood.2, perr_of hgood.2] at hpy
        (try (conv => whnf)); repeat' (first | refine Ok.seq ?_ | refine OkL.cons ?_ | ((first | refine Ok.region tok ?_ | refine Ok.region_tree (id := 31) tok follows [(2, 6, []), (5, 6, []), (2, 11, []), (5, 11, []), (6, 11, []), (10, 11, [])] (.q 0 (.q 1 (.q 2 (.q 3 (.q 4 (.alt 5 (.alt 6 (.q 7 (.q 8 (.q 9 (.l 10 (.l 11 (.q 12 .nil)))))) (.alt 10 (.l 6 (.q 7 (.q 8 (.q 9 (.l 11 (.q 12 .nil)))))) .nil)) (.alt 10 (.l 5 (.l 6 (.q 7 (.q 8 (.q 9 (.l 11 (.q 12 .nil))))))) .nil))))))) (by kernel_rfl) ?_ | refine Ok.region_draw tok follows (by kernel_rfl) ?_ | refine Ok.cond ?_); conv => whnf) | refine Ok.block ?_ | ((first | refine Ok.skip ?_ | refine Ok.exit ?_ | refine Ok.ret ?_ | refine nI ?_ | refine ix _ (by assumption) ?_ | refine ixI (by omega) (by assumption) ?_ | refine ix_new _ (by omega) fun _ _ => ?_ | refine ixI_new (by omega) (by omega) fun _ _ => ?_ | refine ⟨_, by assumption, ?_⟩); conv => whnf) | (refine Or.inr (Or.inl ?_); (conv => whnf); (repeat (refine aI ?_; conv => whnf)); refine ⟨_, hpy, ?_⟩; rintro _ _ ⟨rfl, rfl⟩ <;> (conv => whnf)) | ((first | refine Alt2.l (aI ?_) | refine Alt2.r (aI ?_)); conv => whnf) | (refine Ok.scope ?_) | ((first | refine Ok.label ?_ | refine rd rfl (by assumption) ?_ | refine ⟨_, .inl ⟨rfl, rfl⟩, ?_⟩ | refine ⟨_, _, rfl, rfl, ?_⟩); conv => whnf) | (refine ⟨fun _ => ?_, fun _ => ?_⟩ <;> (conv => whnf) <;> (try (exfalso; omega))) | ((first | refine aJ ?_ | refine num_any ?_ | refine ⟨_, rfl, ?_⟩); conv => whnf) | (exact True.intro) | (refine And.intro ?_ ?_ <;> (conv => whnf)) | fail)
        refine ⟨j + 1, by omega, ⟨by omega, fun w hw2 => ?_⟩, ?_⟩
        · rw [take_snoc hy] at hw2
          rcases List.mem_append.1 hw2 with h | h
          · exact hw w h
          · simp at h; rw [h]; exact hgood
        · rw [take_snoc hy]
          (conv => whnf)
          simp [envCat]
          omega
      · have hno := hbad y hym hgood
        by_cases hoc : okC y
        · have hne : (y.length : Int) ≠ b := fun e => hgood ⟨e, hoc⟩
          rw [perr_of hoc] at hpy
          (try (conv => whnf)); repeat' (first | refine Ok.seq ?_ | refine OkL.cons ?_ | ((first | refine Ok.region tok ?_ | refine Ok.region_tree (id := 31) tok follows [(2, 6, []), (5, 6, []), (2, 11, []), (5, 11, []), (6, 11, []), (10, 11, [])] (.q 0 (.q 1 (.q 2 (.q 3 (.q 4 (.alt 5 (.alt 6 (.q 7 (.q 8 (.q 9 (.l 10 (.l 11 (.q 12 .nil)))))) (.alt 10 (.l 6 (.q 7 (.q 8 (.q 9 (.l 11 (.q 12 .nil)))))) .nil)) (.alt 10 (.l 5 (.l 6 (.q 7 (.q 8 (.q 9 (.l 11 (.q 12 .nil))))))) .nil))))))) (by kernel_rfl) ?_ | refine Ok.region_draw tok follows (by kernel_rfl) ?_ | refine Ok.cond ?_); conv => whnf) | refine Ok.block ?_ | ((first | refine Ok.skip ?_ | refine Ok.exit ?_ | refine Ok.ret ?_ | refine nI ?_ | refine ix _ (by assumption) ?_ | refine ixI (by omega) (by assumption) ?_ | refine ix_new _ (by omega) fun _ _ => ?_ | refine ixI_new (by omega) (by omega) fun _ _ => ?_ | refine ⟨_, by assumption, ?_⟩); conv => whnf) | (refine Or.inr (Or.inl ?_); (conv => whnf); (repeat (refine aI ?_; conv => whnf)); refine ⟨_, hpy, ?_⟩; rintro _ _ ⟨rfl, rfl⟩ <;> (conv => whnf)) | ((first | refine Alt2.l (aI ?_) | refine Alt2.r (aI ?_)); conv => whnf) | (refine Ok.scope ?_) | ((first | refine Ok.label ?_ | refine rd rfl (by assumption) ?_ | refine ⟨_, .inl ⟨rfl, rfl⟩, ?_⟩ | refine ⟨_, _, rfl, rfl, ?_⟩); conv => whnf) | (refine ⟨fun _ => ?_, fun _ => ?_⟩ <;> (conv => whnf) <;> (try (exfalso; omega))) | ((first | refine aJ ?_ | refine num_any ?_ | refine ⟨_, rfl, ?_⟩); conv => whnf) | (exact True.intro) | (refine And.intro ?_ ?_ <;> (conv => whnf)) | fail)
          all_goals first
            | (rw [parO_word hlong hb hnn hno]
               refine Or.inl ?_; (conv => whnf)
               exact ⟨rfl, _, rfl, PSp.nil 0⟩)
            | (exfalso; omega)
        · have hpe := perr_not hoc
          generalize perr y = E at *
          (try (conv => whnf)); repeat' (first | refine Ok.seq ?_ | refine OkL.cons ?_ | ((first | refine Ok.region tok ?_ | refine Ok.region_tree (id := 31) tok follows [(2, 6, []), (5, 6, []), (2, 11, []), (5, 11, []), (6, 11, []), (10, 11, [])] (.q 0 (.q 1 (.q 2 (.q 3 (.q 4 (.alt 5 (.alt 6 (.q 7 (.q 8 (.q 9 (.l 10 (.l 11 (.q 12 .nil)))))) (.alt 10 (.l 6 (.q 7 (.q 8 (.q 9 (.l 11 (.q 12 .nil)))))) .nil)) (.alt 10 (.l 5 (.l 6 (.q 7 (.q 8 (.q 9 (.l 11 (.q 12 .nil))))))) .nil))))))) (by kernel_rfl) ?_ | refine Ok.region_draw tok follows (by kernel_rfl) ?_ | refine Ok.cond ?_); conv => whnf) | refine Ok.block ?_ | ((first | refine Ok.skip ?_ | refine Ok.exit ?_ | refine Ok.ret ?_ | refine nI ?_ | refine ix _ (by assumption) ?_ | refine ixI (by omega) (by assumption) ?_ | refine ix_new _ (by omega) fun _ _ => ?_ | refine ixI_new (by omega) (by omega) fun _ _ => ?_ | refine ⟨_, by assumption, ?_⟩); conv => whnf) | (refine Or.inr (Or.inl ?_); (conv => whnf); (repeat (refine aI ?_; conv => whnf)); refine ⟨_, hpy, ?_⟩; rintro _ _ ⟨rfl, rfl⟩ <;> (conv => whnf)) | ((first | refine Alt2.l (aI ?_) | refine Alt2.r (aI ?_)); conv => whnf) | (refine Ok.scope ?_) | ((first | refine Ok.label ?_ | refine rd rfl (by assumption) ?_ | refine ⟨_, .inl ⟨rfl, rfl⟩, ?_⟩ | refine ⟨_, _, rfl, rfl, ?_⟩); conv => whnf) | (refine ⟨fun _ => ?_, fun _ => ?_⟩ <;> (conv => whnf) <;> (try (exfalso; omega))) | ((first | refine aJ ?_ | refine num_any ?_ | refine ⟨_, rfl, ?_⟩); conv => whnf) | (exact True.intro) | (refine And.intro ?_ ?_ <;> (conv => whnf)) | fail)
          all_goals first
            | (rw [parO_word hlong hb hnn hno]
               refine Or.inl ?_; (conv => whnf)
               exact ⟨rfl, _, rfl, PSp.nil 0⟩)
            | (exfalso; omega)
    · have hje : j = M.length := by omega
      subst hje
      rw [List.take_length] at hw hjm ⊢
      have hok2 := hokx hw
      refine Ok.pub 3 ?_
      (conv => whnf)
      (try (conv => whnf)); repeat' (first | refine Ok.seq ?_ | refine OkL.cons ?_ | ((first | refine Ok.region tok ?_ | refine Ok.region_tree (id := 31) tok follows [(2, 6, []), (5, 6, []), (2, 11, []), (5, 11, []), (6, 11, []), (10, 11, [])] (.q 0 (.q 1 (.q 2 (.q 3 (.q 4 (.alt 5 (.alt 6 (.q 7 (.q 8 (.q 9 (.l 10 (.l 11 (.q 12 .nil)))))) (.alt 10 (.l 6 (.q 7 (.q 8 (.q 9 (.l 11 (.q 12 .nil)))))) .nil)) (.alt 10 (.l 5 (.l 6 (.q 7 (.q 8 (.q 9 (.l 11 (.q 12 .nil))))))) .nil))))))) (by kernel_rfl) ?_ | refine Ok.region_draw tok follows (by kernel_rfl) ?_ | refine Ok.cond ?_); conv => whnf) | refine Ok.block ?_ | ((first | refine Ok.skip ?_ | refine Ok.exit ?_ | refine Ok.ret ?_ | refine nI ?_ | refine ix _ (by assumption) ?_ | refine ixI (by omega) (by assumption) ?_ | refine ix_new _ (by omega) fun _ _ => ?_ | refine ixI_new (by omega) (by omega) fun _ _ => ?_ | refine ⟨_, by assumption, ?_⟩ | refine Alt2.l (aI ?_) | refine Alt2.r (aI ?_)); conv => whnf) | (refine Ok.scope ?_) | ((first | refine Ok.label ?_ | refine rd rfl (by assumption) ?_ | refine ⟨_, .inl ⟨rfl, rfl⟩, ?_⟩ | refine ⟨_, _, rfl, rfl, ?_⟩); conv => whnf) | (refine ⟨fun _ => ?_, fun _ => ?_⟩ <;> (conv => whnf) <;> (try (exfalso; omega))) | ((first | refine aJ ?_ | refine num_any ?_ | refine ⟨_, rfl, ?_⟩); conv => whnf) | (exact True.intro) | (refine And.intro ?_ ?_ <;> (conv => whnf)) | fail)
      refine ⟨(i + 1, lss ++ [⟨M, List.drop M.length (M.map crow)⟩]), by dsimp only; omega, ⟨by dsimp only; omega, ?_, hok2⟩, ?_⟩
      · dsimp only
        rw [List.map_append, hls, take_snoc hpx]
        rfl
      · dsimp only
        rw [hnx]
        (conv => whnf)
        simp [envCat, List.take_of_length_le]
        rw [IntKind.wrap_i64] <;> omega
  · have hie : i = (cutL 43 s).length := by omega
    subst hie
    rw [pieces_all] at hok hci hls
    rw [pieces_all]
    have hgood := trms_good (n := b) (fun m hm => (pieces_mem hm).1) hok
    have hne : ∀ m ∈ pieces s, m ≠ [] := fun m hm => (pieces_mem hm).1
    have hlsL : lss.length = (cutL 43 s).length := by
      have := congrArg List.length hls
      simp [pieces] at this
      exact this
    by_cases hmany : 128 < cntP (pieces s)
    · rw [parO_many hlong hb hnn hok hmany]
      (try (conv => whnf)); repeat' (first | refine Ok.seq ?_ | refine OkL.cons ?_ | ((first | refine Ok.region tok ?_ | refine Ok.region_tree (id := 31) tok follows [(2, 6, []), (5, 6, []), (2, 11, []), (5, 11, []), (6, 11, []), (10, 11, [])] (.q 0 (.q 1 (.q 2 (.q 3 (.q 4 (.alt 5 (.alt 6 (.q 7 (.q 8 (.q 9 (.l 10 (.l 11 (.q 12 .nil)))))) (.alt 10 (.l 6 (.q 7 (.q 8 (.q 9 (.l 11 (.q 12 .nil)))))) .nil)) (.alt 10 (.l 5 (.l 6 (.q 7 (.q 8 (.q 9 (.l 11 (.q 12 .nil))))))) .nil))))))) (by kernel_rfl) ?_ | refine Ok.region_draw tok follows (by kernel_rfl) ?_ | refine Ok.cond ?_); conv => whnf) | refine Ok.block ?_ | ((first | refine Ok.skip ?_ | refine Ok.exit ?_ | refine Ok.ret ?_ | refine nI ?_ | refine ix _ (by assumption) ?_ | refine ixI (by omega) (by assumption) ?_ | refine ix_new _ (by omega) fun _ _ => ?_ | refine ixI_new (by omega) (by omega) fun _ _ => ?_ | refine ⟨_, by assumption, ?_⟩ | refine Alt2.l (aI ?_) | refine Alt2.r (aI ?_)); conv => whnf) | (refine Ok.scope ?_) | ((first | refine Ok.label ?_ | refine rd rfl (by assumption) ?_ | refine ⟨_, .inl ⟨rfl, rfl⟩, ?_⟩ | refine ⟨_, _, rfl, rfl, ?_⟩); conv => whnf) | (refine ⟨fun _ => ?_, fun _ => ?_⟩ <;> (conv => whnf) <;> (try (exfalso; omega))) | ((first | refine aJ ?_ | refine num_any ?_ | refine ⟨_, rfl, ?_⟩); conv => whnf) | (exact True.intro) | (refine And.intro ?_ ?_ <;> (conv => whnf)) | fail)
      · refine Or.inl ?_; (conv => whnf)
        exact ⟨rfl, _, rfl, PSp.nil 0⟩
      all_goals exact absurd hmany (by omega)
    · rw [parO_form hlong hb hnn hok hmany]
      have hsz := szT_trms hne
      (try (conv => whnf)); repeat' (first | refine Ok.seq ?_ | refine OkL.cons ?_ | ((first | refine Ok.region tok ?_ | refine Ok.cond ?_); conv => whnf) | refine Ok.block ?_ | ((first | refine Ok.skip ?_ | refine Ok.exit ?_ | refine Ok.ret ?_ | refine nI ?_ | refine ix _ (by assumption) ?_ | refine ixI (by omega) (by assumption) ?_ | refine ix_new _ (by omega) fun _ _ => ?_ | refine ixI_new (by omega) (by omega) fun _ _ => ?_ | refine ⟨_, by assumption, ?_⟩ | refine Alt2.l (aI ?_) | refine Alt2.r (aI ?_)); conv => whnf) | (refine Ok.scope ?_) | ((first | refine Ok.label ?_ | refine rd rfl (by assumption) ?_ | refine ⟨_, .inl ⟨rfl, rfl⟩, ?_⟩ | refine ⟨_, _, rfl, rfl, ?_⟩); conv => whnf) | (refine ⟨fun _ => ?_, fun _ => ?_⟩ <;> (conv => whnf) <;> (try (exfalso; omega))) | ((first | refine aJ ?_ | refine num_any ?_ | refine ⟨_, rfl, ?_⟩); conv => whnf) | fail)
      refine Ok.ghost 15 112 rfl ?_
      (conv => whnf)
      refine Ok.loopU [0, 4, 5, 81, 82] [15, 83] 3 2 (fun (x : Nat × List TR) => [.own 2 x.2.length, .i .i64 (x.1 : Nat)]) (fun _ b => b) (fun (x : Nat × List TR) (_ : Vx.Rows) => [some (9, (cutL 43 s).map srow), some (58, lss.map lrow), some (112, x.2.map trow)]) (fun (x : Nat × List TR) => x.1 ≤ (cutL 43 s).length ∧ x.2.map TR.t = trms ((pieces s).take x.1) ∧ x.2.length ≤ x.1) (fun (x : Nat × List TR) => (cutL 43 s).length - x.1) ((0, [])) (⟨Nat.zero_le _, by simp [trms], by simp⟩) ?_; (conv => whnf); refine ⟨by ((conv => whnf); first | rfl | (simp [envCat, List.take_of_length_le, crow, trow]; done) | (simp [envCat, List.take_of_length_le, crow, trow]; rw [IntKind.wrap_i64]; omega)), ?_⟩
      rintro ⟨i, l⟩ ⟨hi, hl, hll⟩
      dsimp only at hi hl hll ⊢
      have hlm : (l.map trow).length = l.length := by simp
      (conv => whnf)
      by_cases hil : i < (cutL 43 s).length
      · obtain ⟨x, hx⟩ : ∃ x, (cutL 43 s)[i]? = some x := ⟨_, List.getElem?_eq_getElem hil⟩
        have hpx := pieces_get hx
        have hxl := hLm x (List.mem_of_getElem? hx)
        have hml := cutL_len 45 x
        have hoks := hok _ (List.mem_of_getElem? hpx)
        obtain ⟨p, less, hm⟩ : ∃ p less, cutL 45 x = p :: less := by
          cases h : cutL 45 x with
          | nil => exact absurd h (cutL_ne _ _)
          | cons a l => exact ⟨a, l, rfl⟩
        rw [hm] at hpx hml hoks
        simp at hml
        obtain ⟨rm1, hlx⟩ := lrows hls hpx
        have hp := hoks p (by simp)
        have hlo : ∀ m ∈ less, CT m := fun m h => (hoks m (by simp [h])).2.1
        have hlm2 : (less.map crow).length = less.length := by simp
        have hsl : ∀ rm : List (List D), List.drop 1 (List.take (List.map crow (p :: less)).length (List.map crow (p :: less) ++ rm)) = less.map crow := fun rm => by
          rw [List.take_left' rfl]
          rfl
        have hnew : ∀ rl room, rl = List.map lrow [⟨less, List.drop (List.map crow (p :: less)).length (List.map crow (p :: less) ++ rm1)⟩] → FSpec Tryz.prog T 72 [.agg (crow p), .lst 58 rl room] (NewT p less) := fun rl room h => by
          have := newTerm_at p [⟨less, List.drop (List.map crow (p :: less)).length (List.map crow (p :: less) ++ rm1)⟩] (room := room) ⟨hp.2.1, hp.2.2⟩ (by simpa using hlo) (by simp [allL]; omega) (by simp) h
          rwa [show allL [⟨less, List.drop (List.map crow (p :: less)).length (List.map crow (p :: less) ++ rm1)⟩] = less by simp [allL]] at this
        (try (conv => whnf)); repeat' (first | refine Ok.seq ?_ | refine OkL.cons ?_ | ((first | refine Ok.region tok ?_ | refine Ok.region_tree (id := 31) tok follows [(2, 6, []), (5, 6, []), (2, 11, []), (5, 11, []), (6, 11, []), (10, 11, [])] (.q 0 (.q 1 (.q 2 (.q 3 (.q 4 (.alt 5 (.alt 6 (.q 7 (.q 8 (.q 9 (.l 10 (.l 11 (.q 12 .nil)))))) (.alt 10 (.l 6 (.q 7 (.q 8 (.q 9 (.l 11 (.q 12 .nil)))))) .nil)) (.alt 10 (.l 5 (.l 6 (.q 7 (.q 8 (.q 9 (.l 11 (.q 12 .nil))))))) .nil))))))) (by kernel_rfl) ?_ | refine Ok.region_draw tok follows (by kernel_rfl) ?_ | refine Ok.cond ?_); conv => whnf) | refine Ok.block ?_ | ((first | refine Ok.skip ?_ | refine Ok.exit ?_ | refine Ok.ret ?_ | refine nI ?_ | refine ix _ (by assumption) ?_ | refine ixI (by omega) (by assumption) ?_ | refine ix_new _ (by omega) fun _ _ => ?_ | refine ixI_new (by omega) (by omega) fun _ _ => ?_ | refine ⟨_, by assumption, ?_⟩); conv => whnf) | (refine Or.inr (Or.inl ?_); (conv => whnf); (repeat (refine aI ?_; conv => whnf)); refine ⟨_, hnew _ _ (by simp only [hsl]; rfl) , ?_⟩; rintro _ _ ⟨rfl, (⟨ht, rfl⟩ | ⟨t, rm3, ht, rfl⟩)⟩ <;> (conv => whnf)) | ((first | refine Alt2.l (aI ?_) | refine Alt2.r (aI ?_)); conv => whnf) | (refine Ok.scope ?_) | ((first | refine Ok.label ?_ | refine rd rfl (by assumption) ?_ | refine ⟨_, .inl ⟨rfl, rfl⟩, ?_⟩ | refine ⟨_, _, rfl, rfl, ?_⟩); conv => whnf) | (refine ⟨fun _ => ?_, fun _ => ?_⟩ <;> (conv => whnf) <;> (try (exfalso; omega))) | ((first | refine aJ ?_ | refine num_any ?_ | refine ⟨_, rfl, ?_⟩); conv => whnf) | (exact True.intro) | (refine And.intro ?_ ?_ <;> (conv => whnf)) | fail)
        all_goals first
          | (rename_i h; exact absurd trivial h)
          | (refine ⟨(i + 1, l), by dsimp only; omega, ⟨by dsimp only; omega, by dsimp only; rw [trms_none hpx (show trm (p :: less) = none from ht)]; exact hl, by dsimp only; omega⟩, ?_⟩
             (conv => whnf)
             rfl)
          | (refine ⟨(i + 1, l ++ [⟨t, rm3⟩]), by dsimp only; omega, ⟨by dsimp only; omega, by dsimp only; rw [trms_some hpx (show trm (p :: less) = some t from ht), List.map_append, hl]; rfl, by simp; omega⟩, ?_⟩
             (conv => whnf)
             simp [envCat])
      · have hie : i = (cutL 43 s).length := by omega
        subst hie
        rw [pieces_all] at hl
        have hto : ∀ x ∈ l, TO b.toNat x := fun x hx => (hgood _ (mem_of_map hl hx)).to (by
          have := szT_mem (mem_of_map hl hx)
          omega)
        have hll2 : l.length ≤ 1048576 := by
          have := szT_len (trms (pieces s))
          rw [← hl, List.length_map] at this
          omega
        have hsz2 : szT (formT (l.map TR.t)) ≤ 128 := by
          rw [hl]
          have := szT_form (trms (pieces s))
          omega
        have htk : List.take l.length (l.map trow) = l.map trow := List.take_of_length_le (by simp)
        (try (conv => whnf)); repeat' (first | refine Ok.seq ?_ | refine OkL.cons ?_ | ((first | refine Ok.region tok ?_ | refine Ok.region_tree (id := 31) tok follows [(2, 6, []), (5, 6, []), (2, 11, []), (5, 11, []), (6, 11, []), (10, 11, [])] (.q 0 (.q 1 (.q 2 (.q 3 (.q 4 (.alt 5 (.alt 6 (.q 7 (.q 8 (.q 9 (.l 10 (.l 11 (.q 12 .nil)))))) (.alt 10 (.l 6 (.q 7 (.q 8 (.q 9 (.l 11 (.q 12 .nil)))))) .nil)) (.alt 10 (.l 5 (.l 6 (.q 7 (.q 8 (.q 9 (.l 11 (.q 12 .nil))))))) .nil))))))) (by kernel_rfl) ?_ | refine Ok.region_draw tok follows (by kernel_rfl) ?_ | refine Ok.cond ?_); conv => whnf) | refine Ok.block ?_ | ((first | refine Ok.skip ?_ | refine Ok.exit ?_ | refine Ok.ret ?_ | refine nI ?_ | refine ix _ (by assumption) ?_ | refine ixI (by omega) (by assumption) ?_ | refine ix_new _ (by omega) fun _ _ => ?_ | refine ixI_new (by omega) (by omega) fun _ _ => ?_ | refine ⟨_, by assumption, ?_⟩); conv => whnf) | (refine Or.inr (Or.inl ?_); (conv => whnf); (repeat (refine aI ?_; conv => whnf)); refine ⟨_, form_at b b.toNat l hll2 hto htk hsz2 , ?_⟩; rintro _ _ ⟨ks, rm4, rfl, rfl, hks, hkm⟩ <;> (conv => whnf)) | ((first | refine Alt2.l (aI ?_) | refine Alt2.r (aI ?_)); conv => whnf) | (refine Ok.scope ?_) | ((first | refine Ok.label ?_ | refine rd rfl (by assumption) ?_ | refine ⟨_, .inl ⟨rfl, rfl⟩, ?_⟩ | refine ⟨_, _, rfl, rfl, ?_⟩); conv => whnf) | (refine ⟨fun _ => ?_, fun _ => ?_⟩ <;> (conv => whnf) <;> (try (exfalso; omega))) | ((first | refine aJ ?_ | refine num_any ?_ | refine ⟨_, rfl, ?_⟩); conv => whnf) | (exact True.intro) | (refine And.intro ?_ ?_ <;> (conv => whnf)) | fail)
        refine Or.inl ?_; (conv => whnf)
        exact ⟨rfl, _, rfl, ks, rm4, rfl, by rw [hks, hl]⟩
end Go.Proofs.YtaiondckookpiaaGreatDoor
namespace Go.Proofs.YtaiondckookpiaaGreatDoor
open Go Go.Vx
theorem Fine.cast {n : Int} {ts : List Term} (h : Fine n ts) : ((n.toNat : Nat) : Int) = n := by have := h.n0; omega
theorem Fine.mlen {n : Int} {ts : List Term} (h : Fine n ts) {l : List TR} (e : l.map TR.t = ts) : l.length ≤ 1048576 := by
  have := h.len
  rw [← e, List.length_map] at this
  omega
theorem Fine.mless {n : Int} {ts : List Term} (h : Fine n ts) {l : List TR} (e : l.map TR.t = ts) : ∀ x ∈ l, x.t.less.length ≤ 1048576 := fun x hx => Nat.le_trans (h.less (mem_of_map e hx)) (by decide)
end Go.Proofs.YtaiondckookpiaaGreatDoor
namespace Go.Proofs.YtaiondckookpiaaGreatDoor
open Go Go.Vx
def bndO (n : Int) (l : List Term) : Int × Int × List Term := if szT l ≤ 128 then (0, n, l) else (3, 0, [])
def fitP (n m : Int) : Prop := n = m ∧ 0 < n
theorem fits2_at (n m : Int) : FSpec Tryz.prog T 62 [.i .i64 n, .i .i64 m] (fun r _ => r = .b (fitP n m)) := by
  refine FSpec.of_ok tok Tryz.func62 rfl Tryz.call62 (by simp) ?_
  (try (conv => whnf)); repeat' (first | refine Ok.seq ?_ | refine OkL.cons ?_ | ((first | refine Ok.region tok ?_ | refine Ok.region_draw tok follows (by kernel_rfl) ?_ | refine Ok.cond ?_); conv => whnf) | refine Ok.block ?_ | ((first | refine Ok.skip ?_ | refine Ok.exit ?_ | refine Ok.ret ?_ | refine nI ?_ | refine ix _ (by assumption) ?_ | refine ixI (by omega) (by assumption) ?_ | refine ix_new _ (by omega) fun _ _ => ?_ | refine ixI_new (by omega) (by omega) fun _ _ => ?_ | refine ⟨_, by assumption, ?_⟩ | refine Alt2.l (aI ?_) | refine Alt2.r (aI ?_)); conv => whnf) | (refine Ok.scope ?_) | ((first | refine Ok.label ?_ | refine rd rfl (by assumption) ?_ | refine ⟨_, .inl ⟨rfl, rfl⟩, ?_⟩ | refine ⟨_, _, rfl, rfl, ?_⟩); conv => whnf) | (refine ⟨fun _ => ?_, fun _ => ?_⟩ <;> (conv => whnf) <;> (try (exfalso; omega))) | ((first | refine aJ ?_ | refine num_any ?_ | refine ⟨_, rfl, ?_⟩); conv => whnf) | fail)
  · rename_i h
    refine Or.inl ?_; (conv => whnf)
    exact congrArg D.b (propext ⟨fun h2 => ⟨h, h2⟩, fun h2 => h2.2⟩)
  · rename_i h
    refine Or.inl ?_; (conv => whnf)
    show D.b False = _
    exact congrArg D.b (propext ⟨fun h2 => h2.elim, fun h2 => h h2.1⟩)
theorem bndO_fine {n : Int} {l : List Term} (h0 : 0 ≤ n) (h1 : n ≤ 256) (hg : ∀ t ∈ l, GoodT n.toNat t) : Fine (bndO n (formT l)).2.1 (bndO n (formT l)).2.2 := by
  unfold bndO
  split
  · rename_i h; exact .form h0 h1 hg h
  · exact .nil (by decide) (by decide)
theorem bndO_le {n : Int} {l : List Term} (h : szT l ≤ 128) : bndO n l = (0, n, l) := if_pos h
theorem bndO_gt {n : Int} {l : List Term} (h : 128 < szT l) : bndO n l = (3, 0, []) := if_neg (by omega)
theorem DOut.form {n : Int} {l : List Term} {ks : List TR} {rm : List (List D)} (e : ks.map TR.t = formT l) (h : szT (ks.map TR.t) ≤ 128) : DOut (bndO n (formT l)) (.tup [.agg [.i .i64 n, .lst 120 (ks.map drow) rm], .i .i64 0]) [] := by
  rw [bndO_le (by rw [← e]; exact h)]
  exact ⟨rfl, _, rfl, ks, rm, rfl, e⟩
end Go.Proofs.YtaiondckookpiaaGreatDoor
namespace Go.Proofs.YtaiondckookpiaaGreatDoor
open Go Go.Vx
theorem GoodT.len {n : Nat} {t : Term} (h : GoodT n t) : t.p.length = n := h.ok.p
theorem fm_some {α β : Type} {f : α → Option β} {l : List α} {i : Nat} {a : α} {b : β} (h : l[i]? = some a) (hb : f a = some b) : (l.take (i + 1)).filterMap f = (l.take i).filterMap f ++ [b] := by
  rw [take_snoc h]; simp [hb]
theorem fm_none {α β : Type} {f : α → Option β} {l : List α} {i : Nat} {a : α} (h : l[i]? = some a) (hb : f a = none) : (l.take (i + 1)).filterMap f = (l.take i).filterMap f := by
  rw [take_snoc h]; simp [hb]
theorem tr_get {ks : List TR} {ts : List Term} {i : Nat} {x : TR} (e : ks.map TR.t = ts) (h : ks[i]? = some x) : ts[i]? = some x.t := by rw [← e, List.getElem?_map, h]; rfl
end Go.Proofs.YtaiondckookpiaaGreatDoor
namespace Go.Proofs.YtaiondckookpiaaGreatDoor
open Go Go.Vx
theorem drop_get {α : Type} {l : List α} {i : Nat} {x : α} (h : l[i]? = some x) : l.drop i = x :: l.drop (i + 1) := by
  obtain ⟨hl, e⟩ := List.getElem?_eq_some_iff.1 h
  rw [List.drop_eq_getElem_cons hl, e]
end Go.Proofs.YtaiondckookpiaaGreatDoor
namespace Go.Proofs.YtaiondckookpiaaGreatDoor
open Go Go.Vx Go.RowKit
theorem idle_before (p q : Addr) (w : World) : CallsD Tryz.prog 82 #[.pointer (some p), .pointer (some q)] .returning w fun e u' w' => e = .returned (.tuple #[]) ∧ u' = .returning ∧ Ext w w' := by
  refine callsD_of_wpS Tryz.func82 rfl fun c₀ cs hu => ?_
  apply wpS_seq
  apply wpS_region
  simp [wpOpsS, go_sem, recoverD, hu, Tryz.ntmps82, Exit.thenS]
  refine (ours_nil w).mono ?_
  rintro e w' ⟨rfl, rfl⟩
  refine wpS_cond (t := false) (by simp [Act.eval, Act.put, Array.replicate]) ?_
  simp only [Bool.false_eq_true, if_false]
  refine wpS_of_wp (wp_skip ?_)
  cases c₀
  simp_all [bodyPostS, results, Tryz.results82]
  exact Ext.refl _
theorem caught_before (p q : Addr) (w : World) {R : Ending → FrameMode → World → Prop} (h : ∀ w1, Ext w w1 → ∃ w2, (storeCells p [.int .i64 0, .slice none 0 0]).run Tryz.prog w1 = .ok () w2 ∧ ∃ w3, (storeCells q [.int .i64 3]).run Tryz.prog w2 = .ok () w3)
    (hR : ∀ w1 w2 w3, Ext w w1 → (storeCells p [.int .i64 0, .slice none 0 0]).run Tryz.prog w1 = .ok () w2 → (storeCells q [.int .i64 3]).run Tryz.prog w2 = .ok () w3 → R (.returned (.tuple #[])) (.panicking [{ v := .iface 154 (.agg #[]), recovered := true }]) w3) :
    CallsD Tryz.prog 82 #[.pointer (some p), .pointer (some q)] (.panicking [{ v := .iface 154 (.agg #[]), recovered := false }]) w R := by
  refine callsD_of_wpS Tryz.func82 rfl fun c₀ cs hu => ?_
  apply wpS_seq
  apply wpS_region
  simp [wpOpsS, go_sem, recoverD, hu, Tryz.ntmps82, Exit.thenS]
  refine (ours_passed w).mono ?_
  rintro e w1 ⟨rfl, hx⟩
  obtain ⟨w2, h1, w3, h2⟩ := h w1 hx
  have hr := hR w1 w2 w3 hx h1 h2
  refine wpS_cond (t := true) (by simp [Act.eval, Act.put, Array.replicate]) ?_
  simp only [if_true]
  refine wpS_of_wp ?_
  refine wp_region_lit ?_
  unfold wpList
  rw [if_pos (by simp [Region.wanted])]
  left
  unfold Oper.wp
  rw [run_build2]
  show wpList _ _ _ [_, _] (Act.put _ (some 4) _) w1
  unfold wpList
  rw [if_pos (by simp [Region.wanted])]
  left
  unfold Oper.wp
  rw [run_store2 (p := p) (z := [.int .i64 0, .slice none 0 0]) (fun w => by kernel_rfl) (by simp [Act.eval, Act.put, Array.replicate]) (by simp [Act.eval, Act.put, Array.replicate, Value.cells]) h1]
  show wpList _ _ _ [_] _ w2
  unfold wpList
  rw [if_pos (by simp [Region.wanted])]
  left
  unfold Oper.wp
  rw [run_store2 (p := q) (z := [.int .i64 3]) (fun w => by kernel_rfl) (by simp [Act.eval, Act.put, Array.replicate]) (by simp [Act.eval, Value.cells]) h2]
  show bodyPostS _ _ _ _ _ .normal _ _ w3
  cases c₀
  simp_all [bodyPostS, results, Tryz.results82]
  try exact rfl
theorem def_before : DefSpec Tryz.prog 82 (.iface 154 (.agg #[])) [.int .i64 0, .slice none 0 0] [.int .i64 3] :=
  ⟨Tryz.call82, idle_before, fun p q w h => caught_before p q w h fun _ _ _ hx h1 h2 => ⟨rfl, rfl, _, _, hx, h1, h2⟩⟩
theorem idle_after (p q : Addr) (w : World) : CallsD Tryz.prog 94 #[.pointer (some p), .pointer (some q)] .returning w fun e u' w' => e = .returned (.tuple #[]) ∧ u' = .returning ∧ Ext w w' := by
  refine callsD_of_wpS Tryz.func94 rfl fun c₀ cs hu => ?_
  apply wpS_seq
  apply wpS_region
  simp [wpOpsS, go_sem, recoverD, hu, Tryz.ntmps94, Exit.thenS]
  refine (ours_nil w).mono ?_
  rintro e w' ⟨rfl, rfl⟩
  refine wpS_cond (t := false) (by simp [Act.eval, Act.put, Array.replicate]) ?_
  simp only [Bool.false_eq_true, if_false]
  refine wpS_of_wp (wp_skip ?_)
  cases c₀
  simp_all [bodyPostS, results, Tryz.results94]
  exact Ext.refl _
theorem caught_after (p q : Addr) (w : World) {R : Ending → FrameMode → World → Prop} (h : ∀ w1, Ext w w1 → ∃ w2, (storeCells p [.int .i64 0, .slice none 0 0]).run Tryz.prog w1 = .ok () w2 ∧ ∃ w3, (storeCells q [.int .i64 3]).run Tryz.prog w2 = .ok () w3)
    (hR : ∀ w1 w2 w3, Ext w w1 → (storeCells p [.int .i64 0, .slice none 0 0]).run Tryz.prog w1 = .ok () w2 → (storeCells q [.int .i64 3]).run Tryz.prog w2 = .ok () w3 → R (.returned (.tuple #[])) (.panicking [{ v := .iface 154 (.agg #[]), recovered := true }]) w3) :
    CallsD Tryz.prog 94 #[.pointer (some p), .pointer (some q)] (.panicking [{ v := .iface 154 (.agg #[]), recovered := false }]) w R := by
  refine callsD_of_wpS Tryz.func94 rfl fun c₀ cs hu => ?_
  apply wpS_seq
  apply wpS_region
  simp [wpOpsS, go_sem, recoverD, hu, Tryz.ntmps94, Exit.thenS]
  refine (ours_passed w).mono ?_
  rintro e w1 ⟨rfl, hx⟩
  obtain ⟨w2, h1, w3, h2⟩ := h w1 hx
  have hr := hR w1 w2 w3 hx h1 h2
  refine wpS_cond (t := true) (by simp [Act.eval, Act.put, Array.replicate]) ?_
  simp only [if_true]
  refine wpS_of_wp ?_
  refine wp_region_lit ?_
  unfold wpList
  rw [if_pos (by simp [Region.wanted])]
  left
  unfold Oper.wp
  rw [run_build2]
  show wpList _ _ _ [_, _] (Act.put _ (some 4) _) w1
  unfold wpList
  rw [if_pos (by simp [Region.wanted])]
  left
  unfold Oper.wp
  rw [run_store2 (p := p) (z := [.int .i64 0, .slice none 0 0]) (fun w => by kernel_rfl) (by simp [Act.eval, Act.put, Array.replicate]) (by simp [Act.eval, Act.put, Array.replicate, Value.cells]) h1]
  show wpList _ _ _ [_] _ w2
  unfold wpList
  rw [if_pos (by simp [Region.wanted])]
  left
  unfold Oper.wp
  rw [run_store2 (p := q) (z := [.int .i64 3]) (fun w => by kernel_rfl) (by simp [Act.eval, Act.put, Array.replicate]) (by simp [Act.eval, Value.cells]) h2]
  show bodyPostS _ _ _ _ _ .normal _ _ w3
  cases c₀
  simp_all [bodyPostS, results, Tryz.results94]
  try exact rfl
theorem def_after : DefSpec Tryz.prog 94 (.iface 154 (.agg #[])) [.int .i64 0, .slice none 0 0] [.int .i64 3] :=
  ⟨Tryz.call94, idle_after, fun p q w h => caught_after p q w h fun _ _ _ hx h1 h2 => ⟨rfl, rfl, _, _, hx, h1, h2⟩⟩
end Go.Proofs.YtaiondckookpiaaGreatDoor
namespace Go.Proofs.YtaiondckookpiaaGreatDoor
open Go Go.Vx
@[reducible] def w4 (f : Nat → Bool) : List D := [.i .u64 ((wof f 0).toNat : Int), .i .u64 ((wof f 1).toNat : Int), .i .u64 ((wof f 2).toNat : Int), .i .u64 ((wof f 3).toNat : Int)]
set_option maxHeartbeats 4000000 in
theorem at_one (f : Nat → Bool) (i : Nat) (hi : i < 256) : FSpec Tryz.prog T 89 [.ep (w4 f), .i .i64 (i : Int)] (fun d rows => d = .b (f i = true) ∧ rows = []) := by
  refine FSpec.of_ok tok Tryz.func89 rfl Tryz.call89 (by simp) ?_
  obtain ⟨q, r, hqr, hr, hq⟩ := split64 i (by omega)
  have hrem := rem64 hqr hr
  have hquo := quo64 hqr hr (by omega)
  have hrr : ((r : Nat) : Int) = ((r : Nat) : Int) ∧ r < 64 := ⟨rfl, hr⟩
  have hca := at_word (f := f) hqr hr
  rcases hq with rfl | rfl | rfl | rfl
  all_goals
    (try (conv => whnf)); repeat' (first | ((with_reducible_and_instances (first | refine nShr (by assumption) ?_ | refine nShl1' rfl (by assumption) ?_ | refine nAnd ?_ | refine nOr ?_ | refine nXor ?_ | refine nAndNot ?_ | refine nAnd1' rfl ?_)); conv => whnf) | refine Ok.seq ?_ | refine OkL.cons ?_ | ((first | refine Ok.region tok ?_ | refine ⟨_, (hquo.symm).symm, ?_⟩ | refine ⟨_, (hrem.symm).symm, ?_⟩ | refine Ok.region_draw tok follows (by kernel_rfl) ?_ | refine Ok.cond ?_); conv => whnf) | refine Ok.block ?_ | ((first | refine Ok.skip ?_ | refine Ok.exit ?_ | refine Ok.ret ?_ | refine nI ?_ | refine ix _ (by assumption) ?_ | refine ixI (by omega) (by assumption) ?_ | refine ix_new _ (by omega) fun _ _ => ?_ | refine ixI_new (by omega) (by omega) fun _ _ => ?_ | refine ⟨_, by assumption, ?_⟩ | refine Alt2.l (aI ?_) | refine Alt2.r (aI ?_)); conv => whnf) | (refine Ok.scope ?_) | ((first | refine Ok.label ?_ | refine rd rfl (by assumption) ?_ | refine ⟨_, .inl ⟨rfl, rfl⟩, ?_⟩ | refine ⟨_, _, rfl, rfl, ?_⟩); conv => whnf) | (refine ⟨fun _ => ?_, fun _ => ?_⟩ <;> (conv => whnf) <;> (try (exfalso; omega))) | ((first | refine aJ ?_ | refine num_any ?_ | refine ⟨_, rfl, ?_⟩); conv => whnf) | fail)
    refine Or.inl ?_; (conv => whnf)
    exact ⟨congrArg D.b (propext hca), rfl⟩
set_option maxHeartbeats 4000000 in
theorem at_two (f g : Nat → Bool) (i : Nat) (hi : i < 256) : FSpec Tryz.prog T 89 [.ep (w4 f ++ w4 g), .i .i64 (i : Int)] (fun d rows => d = .b (f i = true) ∧ rows = []) := by
  refine FSpec.of_ok tok Tryz.func89 rfl Tryz.call89 (by simp) ?_
  obtain ⟨q, r, hqr, hr, hq⟩ := split64 i (by omega)
  have hrem := rem64 hqr hr
  have hquo := quo64 hqr hr (by omega)
  have hrr : ((r : Nat) : Int) = ((r : Nat) : Int) ∧ r < 64 := ⟨rfl, hr⟩
  have hca := at_word (f := f) hqr hr
  rcases hq with rfl | rfl | rfl | rfl
  all_goals
    (try (conv => whnf)); repeat' (first | ((with_reducible_and_instances (first | refine nShr (by assumption) ?_ | refine nShl1' rfl (by assumption) ?_ | refine nAnd ?_ | refine nOr ?_ | refine nXor ?_ | refine nAndNot ?_ | refine nAnd1' rfl ?_)); conv => whnf) | refine Ok.seq ?_ | refine OkL.cons ?_ | ((first | refine Ok.region tok ?_ | refine ⟨_, (hquo.symm).symm, ?_⟩ | refine ⟨_, (hrem.symm).symm, ?_⟩ | refine Ok.region_draw tok follows (by kernel_rfl) ?_ | refine Ok.cond ?_); conv => whnf) | refine Ok.block ?_ | ((first | refine Ok.skip ?_ | refine Ok.exit ?_ | refine Ok.ret ?_ | refine nI ?_ | refine ix _ (by assumption) ?_ | refine ixI (by omega) (by assumption) ?_ | refine ix_new _ (by omega) fun _ _ => ?_ | refine ixI_new (by omega) (by omega) fun _ _ => ?_ | refine ⟨_, by assumption, ?_⟩ | refine Alt2.l (aI ?_) | refine Alt2.r (aI ?_)); conv => whnf) | (refine Ok.scope ?_) | ((first | refine Ok.label ?_ | refine rd rfl (by assumption) ?_ | refine ⟨_, .inl ⟨rfl, rfl⟩, ?_⟩ | refine ⟨_, _, rfl, rfl, ?_⟩); conv => whnf) | (refine ⟨fun _ => ?_, fun _ => ?_⟩ <;> (conv => whnf) <;> (try (exfalso; omega))) | ((first | refine aJ ?_ | refine num_any ?_ | refine ⟨_, rfl, ?_⟩); conv => whnf) | fail)
    refine Or.inl ?_; (conv => whnf)
    exact ⟨congrArg D.b (propext hca), rfl⟩
theorem ints_crow (c : Str) : ∀ d ∈ crow c, ∃ k n, d = .i k n := by
  intro d hd
  simp only [List.mem_cons, List.not_mem_nil, or_false] at hd
  rcases hd with rfl | rfl | rfl | rfl | rfl | rfl | rfl | rfl | rfl <;> exact ⟨_, _, rfl⟩
theorem pk2 {box : List (List D)} {a b x y : D} (h1 : Pk box a x) (h2 : Pk box b y) : ∀ (j : Nat) d e, [a, b][j]? = some d → [x, y][j]? = some e → Pk box d e := by
  intro j d e hd he
  match j, hd, he with
  | 0, hd, he => cases hd; cases he; exact h1
  | 1, hd, he => cases hd; cases he; exact h2
  | j + 2, hd, _ => simp at hd
def hasC (c h : Str) : Prop := c ≠ [] ∧ h.length = c.length ∧ (∀ b ∈ h, b = 48 ∨ b = 49) ∧ inL h c
set_option maxHeartbeats 4000000 in
theorem has_at (c h : Str) (hc : CT c) : FSpec Tryz.prog T 124 [.agg (crow c), .s h] (fun r _ => r = .b (hasC c h)) := by
  have hcl := hc.len
  refine FSpec.of_ok tok Tryz.func124 rfl Tryz.call124 (by simp) ?_
  (try (conv => whnf)); repeat' (first | ((with_reducible_and_instances (first | refine nShr (by assumption) ?_ | refine nShl1' rfl (by assumption) ?_ | refine nAnd ?_ | refine nOr ?_ | refine nXor ?_ | refine nAndNot ?_ | refine nAnd1' rfl ?_)); conv => whnf) | refine Ok.seq ?_ | refine OkL.cons ?_ | ((first | refine Ok.region tok ?_ | refine Ok.region_plan (id := 8) tok follows [(2, 6, [3])] [.q 0, .q 1, .l 2, .q 3, .q 4, .q 5, .q 7, .q 8, .q 9, .q 10, .l 6, .q 11, .q 12] (by kernel_rfl) ?_ | refine Ok.region_draw tok follows (by kernel_rfl) ?_ | refine Ok.cond ?_); conv => whnf) | refine Ok.block ?_ | ((first | refine Ok.skip ?_ | refine Ok.exit ?_ | refine Ok.ret ?_ | refine nI ?_ | refine ix _ (by assumption) ?_ | refine ixI (by omega) (by assumption) ?_ | refine ix_new _ (by omega) fun _ _ => ?_ | refine ixI_new (by omega) (by omega) fun _ _ => ?_ | refine ⟨_, by assumption, ?_⟩ | refine Alt2.l (aI ?_) | refine Alt2.r (aI ?_)); conv => whnf) | (refine Ok.scope ?_) | ((first | refine Ok.label ?_ | refine rd rfl (by assumption) ?_ | refine ⟨_, .inl ⟨rfl, rfl⟩, ?_⟩ | refine ⟨_, _, rfl, rfl, ?_⟩); conv => whnf) | (refine ⟨fun _ => ?_, fun _ => ?_⟩ <;> (conv => whnf) <;> (try (exfalso; omega))) | ((first | refine aJ ?_ | refine num_any ?_ | refine ⟨_, rfl, ?_⟩); conv => whnf) | fail)
  · rename_i h0
    refine Or.inl ?_; (conv => whnf)
    show D.b False = _
    exact congrArg D.b (propext ⟨fun q => q.elim, fun q => q.1 (List.eq_nil_of_length_eq_zero (by omega))⟩)
  · rename_i h0 h1
    refine Or.inl ?_; (conv => whnf)
    show D.b False = _
    exact congrArg D.b (propext ⟨fun q => q.elim, fun q => by have := q.2.1; omega⟩)
  rename_i h0 h1
  have hl : h.length = c.length := by omega
  have hne : c ≠ [] := fun e => h0 (by rw [e]; rfl)
  refine Ok.loopU [1, 2, 17] [18] 0 1 (fun (i : Nat) => [.i .i64 (i : Nat)]) (fun _ b => b) (fun _ r => r) (fun (i : Nat) => i ≤ c.length ∧ (∀ (k : Nat) a b, k < i → h[k]? = some a → c[k]? = some b → (a = 48 ∨ a = 49) ∧ (b = 120 ∨ b = a))) (fun (i : Nat) => c.length - i) (0) (⟨Nat.zero_le _, fun k _ _ hk => absurd hk (by omega)⟩) ?_; (conv => whnf); refine ⟨by ((conv => whnf); first | rfl | (simp [envCat, List.take_of_length_le, cells9, crow, trow]; done) | (simp [envCat, List.take_of_length_le, cells9, crow, trow]; rw [IntKind.wrap_i64]; omega)), ?_⟩
  rintro i ⟨hi, hall⟩
  (conv => whnf)
  by_cases hil : i < c.length
  · obtain ⟨a, ha⟩ : ∃ a, h[i]? = some a := ⟨_, List.getElem?_eq_getElem (by omega)⟩
    obtain ⟨b, hb⟩ : ∃ b, c[i]? = some b := ⟨_, List.getElem?_eq_getElem hil⟩
    have haI : h[((i : Nat) : Int).toNat]? = some a := ha
    have s1 := at_two (car c) (one c) i (by omega)
    have s2 := at_one (one c) i (by omega)
    have miss : ¬ ((a = 48 ∨ a = 49) ∧ (b = 120 ∨ b = a)) → ¬ hasC c h := fun hm q => hm ⟨q.2.2.1 a (List.mem_of_getElem? ha), (inL_iff.1 q.2.2.2).2 i a b ha hb⟩
    have step : (a = 48 ∨ a = 49) ∧ (b = 120 ∨ b = a) → ∀ (k : Nat) x y, k < i + 1 → h[k]? = some x → c[k]? = some y → (x = 48 ∨ x = 49) ∧ (y = 120 ∨ y = x) := fun hm k x y hk hx hy => by
      by_cases hki : k = i
      · subst hki
        rw [ha] at hx
        rw [hb] at hy
        cases hx
        cases hy
        exact hm
      · exact hall k x y (by omega) hx hy
    by_cases hd : a = 48 ∨ a = 49
    · have hbc := hc.cub b (List.mem_of_getElem? hb)
      rw [(at_b hb).1] at s1
      rw [(at_b hb).2] at s2
      rcases hbc with rfl | rfl | rfl <;> rcases hd with rfl | rfl
      all_goals
        (try (conv => whnf)); repeat' (first | ((with_reducible_and_instances (first | refine nShr (by assumption) ?_ | refine nShl1' rfl (by assumption) ?_ | refine nAnd ?_ | refine nOr ?_ | refine nXor ?_ | refine nAndNot ?_ | refine nAnd1' rfl ?_)); conv => whnf) | refine Ok.seq ?_ | refine OkL.cons ?_ | ((first | refine Ok.region tok ?_ | refine Ok.region_plan (id := 8) tok follows [(2, 6, [3])] [.q 0, .q 1, .l 2, .q 3, .q 4, .q 5, .q 7, .q 8, .q 9, .q 10, .l 6, .q 11, .q 12] (by kernel_rfl) ?_ | refine Ok.region_draw tok follows (by kernel_rfl) ?_ | refine Ok.cond ?_); conv => whnf) | refine Ok.block ?_ | ((first | refine Ok.skip ?_ | refine Ok.exit ?_ | refine Ok.ret ?_ | refine nI ?_ | refine ix _ (by assumption) ?_ | refine ixI (by omega) (by assumption) ?_ | refine ix_new _ (by omega) fun _ _ => ?_ | refine ixI_new (by omega) (by omega) fun _ _ => ?_ | refine ⟨_, by assumption, ?_⟩); conv => whnf) | (refine Or.inr (Or.inr (Or.inr ?_)); (conv => whnf); refine effK.peek (by rfl) (pk2 (.bp _ _ ( crow c) rfl (fun d hd => ints_crow _ d (List.mem_of_mem_drop hd))) (.i _ _)) (s1 ) ?_; rintro _ _ ⟨rfl, rfl⟩; (refine And.intro (by simp [gRowsP, grounds, D.ground]) ?_; conv => whnf)) | (refine Or.inr (Or.inr (Or.inr ?_)); (conv => whnf); refine effK.peek (by rfl) (pk2 (.bp _ _ ( crow c) rfl (fun d hd => ints_crow _ d (List.mem_of_mem_drop hd))) (.i _ _)) (s2 ) ?_; rintro _ _ ⟨rfl, rfl⟩; (refine And.intro (by simp [gRowsP, grounds, D.ground]) ?_; conv => whnf)) | ((first | refine Alt2.l (aI ?_) | refine Alt2.r (aI ?_)); conv => whnf) | (refine Ok.scope ?_) | ((first | refine Ok.label ?_ | refine rd rfl (by assumption) ?_ | refine ⟨_, .inl ⟨rfl, rfl⟩, ?_⟩ | refine ⟨_, _, rfl, rfl, ?_⟩); conv => whnf) | (refine ⟨fun _ => ?_, fun _ => ?_⟩ <;> (conv => whnf) <;> (try (exfalso; omega))) | ((first | refine aJ ?_ | refine num_any ?_ | refine ⟨_, rfl, ?_⟩); conv => whnf) | fail)
        all_goals first
          | contradiction
          | (refine ⟨i + 1, by omega, ⟨by omega, step (by decide)⟩, ?_⟩
             (conv => whnf)
             rfl)
          | (refine Or.inl ?_; (conv => whnf)
             show D.b False = _
             exact congrArg D.b (propext ⟨fun q => q.elim, fun q => miss (by decide) q⟩))
    · have hb3 := u8_ne (fun e => hd (.inl e) : a ≠ 48)
      have hb4 := u8_ne (fun e => hd (.inr e) : a ≠ 49)
      rw [show (((48 : UInt8).toNat : Nat) : Int) = 48 from rfl] at hb3
      rw [show (((49 : UInt8).toNat : Nat) : Int) = 49 from rfl] at hb4
      (try (conv => whnf)); repeat' (first | ((with_reducible_and_instances (first | refine nShr (by assumption) ?_ | refine nShl1' rfl (by assumption) ?_ | refine nAnd ?_ | refine nOr ?_ | refine nXor ?_ | refine nAndNot ?_ | refine nAnd1' rfl ?_)); conv => whnf) | refine Ok.seq ?_ | refine OkL.cons ?_ | ((first | refine Ok.region tok ?_ | refine Ok.region_plan (id := 8) tok follows [(2, 6, [3])] [.q 0, .q 1, .l 2, .q 3, .q 4, .q 5, .q 7, .q 8, .q 9, .q 10, .l 6, .q 11, .q 12] (by kernel_rfl) ?_ | refine Ok.region_draw tok follows (by kernel_rfl) ?_ | refine Ok.cond ?_); conv => whnf) | refine Ok.block ?_ | ((first | refine Ok.skip ?_ | refine Ok.exit ?_ | refine Ok.ret ?_ | refine nI ?_ | refine ix _ (by assumption) ?_ | refine ixI (by omega) (by assumption) ?_ | refine ix_new _ (by omega) fun _ _ => ?_ | refine ixI_new (by omega) (by omega) fun _ _ => ?_ | refine ⟨_, by assumption, ?_⟩); conv => whnf) | (refine Or.inr (Or.inr (Or.inr ?_)); (conv => whnf); refine effK.peek (by rfl) (pk2 (.bp _ _ ( crow c) rfl (fun d hd => ints_crow _ d (List.mem_of_mem_drop hd))) (.i _ _)) (s1 ) ?_; rintro _ _ ⟨rfl, rfl⟩; (refine And.intro (by simp [gRowsP, grounds, D.ground]) ?_; conv => whnf)) | (refine Or.inr (Or.inr (Or.inr ?_)); (conv => whnf); refine effK.peek (by rfl) (pk2 (.bp _ _ ( crow c) rfl (fun d hd => ints_crow _ d (List.mem_of_mem_drop hd))) (.i _ _)) (s2 ) ?_; rintro _ _ ⟨rfl, rfl⟩; (refine And.intro (by simp [gRowsP, grounds, D.ground]) ?_; conv => whnf)) | ((first | refine Alt2.l (aI ?_) | refine Alt2.r (aI ?_)); conv => whnf) | (refine Ok.scope ?_) | ((first | refine Ok.label ?_ | refine rd rfl (by assumption) ?_ | refine ⟨_, .inl ⟨rfl, rfl⟩, ?_⟩ | refine ⟨_, _, rfl, rfl, ?_⟩); conv => whnf) | (refine ⟨fun _ => ?_, fun _ => ?_⟩ <;> (conv => whnf) <;> (try (exfalso; omega))) | ((first | refine aJ ?_ | refine num_any ?_ | refine ⟨_, rfl, ?_⟩); conv => whnf) | fail)
      all_goals first
        | contradiction
        | (refine Or.inl ?_; (conv => whnf)
           show D.b False = _
           exact congrArg D.b (propext ⟨fun q => q.elim, fun q => miss (fun m => hd m.1) q⟩))
  · have hie : i = c.length := by omega
    subst hie
    (try (conv => whnf)); repeat' (first | ((with_reducible_and_instances (first | refine nShr (by assumption) ?_ | refine nShl1' rfl (by assumption) ?_ | refine nAnd ?_ | refine nOr ?_ | refine nXor ?_ | refine nAndNot ?_ | refine nAnd1' rfl ?_)); conv => whnf) | refine Ok.seq ?_ | refine OkL.cons ?_ | ((first | refine Ok.region tok ?_ | refine Ok.region_plan (id := 8) tok follows [(2, 6, [3])] [.q 0, .q 1, .l 2, .q 3, .q 4, .q 5, .q 7, .q 8, .q 9, .q 10, .l 6, .q 11, .q 12] (by kernel_rfl) ?_ | refine Ok.region_draw tok follows (by kernel_rfl) ?_ | refine Ok.cond ?_); conv => whnf) | refine Ok.block ?_ | ((first | refine Ok.skip ?_ | refine Ok.exit ?_ | refine Ok.ret ?_ | refine nI ?_ | refine ix _ (by assumption) ?_ | refine ixI (by omega) (by assumption) ?_ | refine ix_new _ (by omega) fun _ _ => ?_ | refine ixI_new (by omega) (by omega) fun _ _ => ?_ | refine ⟨_, by assumption, ?_⟩ | refine Alt2.l (aI ?_) | refine Alt2.r (aI ?_)); conv => whnf) | (refine Ok.scope ?_) | ((first | refine Ok.label ?_ | refine rd rfl (by assumption) ?_ | refine ⟨_, .inl ⟨rfl, rfl⟩, ?_⟩ | refine ⟨_, _, rfl, rfl, ?_⟩); conv => whnf) | (refine ⟨fun _ => ?_, fun _ => ?_⟩ <;> (conv => whnf) <;> (try (exfalso; omega))) | ((first | refine aJ ?_ | refine num_any ?_ | refine ⟨_, rfl, ?_⟩); conv => whnf) | fail)
    refine Or.inl ?_; (conv => whnf)
    show D.b True = _
    refine congrArg D.b (propext ⟨fun _ => ⟨hne, hl, fun b hb => ?_, inL_iff.2 ⟨hl, fun k x y hx hy => (hall k x y (by have := (List.getElem?_eq_some_iff.1 hy).1; omega) hx hy).2⟩⟩, fun _ => trivial⟩)
    obtain ⟨k, hk⟩ := List.getElem?_of_mem hb
    have hkl := (List.getElem?_eq_some_iff.1 hk).1
    exact (hall k b _ (by omega) hk (List.getElem?_eq_getElem (by omega))).1
end Go.Proofs.YtaiondckookpiaaGreatDoor
namespace Go.Proofs.YtaiondckookpiaaGreatDoor
open Go Go.Vx
def termHas (t : Term) (h : Str) : Prop := hasC t.p h ∧ ∀ m ∈ t.less, ¬ hasC m h
def hasS (ts : List Term) (h : Str) : Prop := ∃ t ∈ ts, termHas t h
set_option maxHeartbeats 4000000 in
theorem termHas_at (x : TR) (hx : TN x) (h : Str) : FSpec Tryz.prog T 76 [.agg (trow x), .s h] (fun r _ => r = .b (termHas x.t h)) := by
  have hn := hx.n
  have hll : (x.t.less.map crow).length = x.t.less.length := by simp
  refine FSpec.of_ok tok Tryz.func76 rfl Tryz.call76 (by simp) ?_
  (try (conv => whnf)); repeat' (first | refine Ok.seq ?_ | refine OkL.cons ?_ | ((first | refine Ok.region tok ?_ | refine Ok.region_draw tok follows (by kernel_rfl) ?_ | refine Ok.cond ?_); conv => whnf) | refine Ok.block ?_ | ((first | refine Ok.skip ?_ | refine Ok.exit ?_ | refine Ok.ret ?_ | refine nI ?_ | refine ix _ (by assumption) ?_ | refine ixI (by omega) (by assumption) ?_ | refine ix_new _ (by omega) fun _ _ => ?_ | refine ixI_new (by omega) (by omega) fun _ _ => ?_ | refine ⟨_, by assumption, ?_⟩); conv => whnf) | (refine Or.inl ?_; (conv => whnf); (repeat (refine aI ?_; conv => whnf)); refine ⟨_, has_at x.t.p h hx.p.1, rfl, ?_⟩; conv => whnf) | (refine ⟨_, has_at x.t.p h hx.p.1, rfl, ?_⟩; conv => whnf) | (refine Or.inr (Or.inl ?_); (conv => whnf); (repeat (refine aI ?_; conv => whnf)); refine ⟨_, has_at x.t.p h hx.p.1, ?_⟩; rintro _ _ ⟨rfl, rfl⟩; conv => whnf) | ((first | refine Alt2.l (aI ?_) | refine Alt2.r (aI ?_)); conv => whnf) | (refine Ok.scope ?_) | ((first | refine Ok.label ?_ | refine rd rfl (by assumption) ?_ | refine ⟨_, .inl ⟨rfl, rfl⟩, ?_⟩ | refine ⟨_, _, rfl, rfl, ?_⟩); conv => whnf) | (refine ⟨fun _ => ?_, fun _ => ?_⟩ <;> (conv => whnf) <;> (try (exfalso; omega))) | ((first | refine aJ ?_ | refine num_any ?_ | refine ⟨_, rfl, ?_⟩); conv => whnf) | fail)
  · rename_i h0
    refine Or.inl ?_; (conv => whnf)
    show D.b False = _
    exact congrArg D.b (propext ⟨fun q => q.elim, fun q => h0 q.1⟩)
  rename_i h0
  have hp := Classical.not_not.1 h0
  refine Ok.loopU [1, 13, 14] [15] 0 1 (fun (i : Nat) => [.i .i64 (i : Nat)]) (fun _ b => b) (fun _ r => r) (fun (i : Nat) => i ≤ x.t.less.length ∧ ∀ m ∈ x.t.less.take i, ¬ hasC m h) (fun (i : Nat) => x.t.less.length - i) (0) (⟨Nat.zero_le _, by simp⟩) ?_; (conv => whnf); refine ⟨by ((conv => whnf); first | rfl | (simp [envCat, List.take_of_length_le, crow, trow, srow, drow]; done) | (simp [envCat, List.take_of_length_le, crow, trow, srow, drow]; rw [IntKind.wrap_i64]; omega)), ?_⟩
  rintro i ⟨hi, hno⟩
  (conv => whnf)
  by_cases hil : i < x.t.less.length
  · obtain ⟨m, hm⟩ : ∃ m, x.t.less[i]? = some m := ⟨_, List.getElem?_eq_getElem hil⟩
    have hmc := hx.less m (List.mem_of_getElem? hm)
    (try (conv => whnf)); repeat' (first | refine Ok.seq ?_ | refine OkL.cons ?_ | ((first | refine Ok.region tok ?_ | refine Ok.region_draw tok follows (by kernel_rfl) ?_ | refine Ok.cond ?_); conv => whnf) | refine Ok.block ?_ | ((first | refine Ok.skip ?_ | refine Ok.exit ?_ | refine Ok.ret ?_ | refine nI ?_ | refine ix _ (by assumption) ?_ | refine ixI (by omega) (by assumption) ?_ | refine ix_new _ (by omega) fun _ _ => ?_ | refine ixI_new (by omega) (by omega) fun _ _ => ?_ | refine ⟨_, by assumption, ?_⟩); conv => whnf) | (refine Or.inl ?_; (conv => whnf); (repeat (refine aI ?_; conv => whnf)); refine ⟨_, has_at m h hmc.1, rfl, ?_⟩; conv => whnf) | (refine ⟨_, has_at m h hmc.1, rfl, ?_⟩; conv => whnf) | (refine Or.inr (Or.inl ?_); (conv => whnf); (repeat (refine aI ?_; conv => whnf)); refine ⟨_, has_at m h hmc.1, ?_⟩; rintro _ _ ⟨rfl, rfl⟩; conv => whnf) | ((first | refine Alt2.l (aI ?_) | refine Alt2.r (aI ?_)); conv => whnf) | (refine Ok.scope ?_) | ((first | refine Ok.label ?_ | refine rd rfl (by assumption) ?_ | refine ⟨_, .inl ⟨rfl, rfl⟩, ?_⟩ | refine ⟨_, _, rfl, rfl, ?_⟩); conv => whnf) | (refine ⟨fun _ => ?_, fun _ => ?_⟩ <;> (conv => whnf) <;> (try (exfalso; omega))) | ((first | refine aJ ?_ | refine num_any ?_ | refine ⟨_, rfl, ?_⟩); conv => whnf) | fail)
    · rename_i h1
      refine Or.inl ?_; (conv => whnf)
      show D.b False = _
      exact congrArg D.b (propext ⟨fun q => q.elim, fun q => q.2 m (List.mem_of_getElem? hm) h1⟩)
    · rename_i h1
      refine ⟨i + 1, by omega, ⟨by omega, fun z hz => ?_⟩, ?_⟩
      · rw [take_snoc hm] at hz
        rcases List.mem_append.1 hz with hz | hz
        · exact hno z hz
        · simp at hz; rw [hz]; exact h1
      · (conv => whnf)
        rfl
  · have hie : i = x.t.less.length := by omega
    subst hie
    rw [List.take_length] at hno
    (try (conv => whnf)); repeat' (first | refine Ok.seq ?_ | refine OkL.cons ?_ | ((first | refine Ok.region tok ?_ | refine Ok.region_draw tok follows (by kernel_rfl) ?_ | refine Ok.cond ?_); conv => whnf) | refine Ok.block ?_ | ((first | refine Ok.skip ?_ | refine Ok.exit ?_ | refine Ok.ret ?_ | refine nI ?_ | refine ix _ (by assumption) ?_ | refine ixI (by omega) (by assumption) ?_ | refine ix_new _ (by omega) fun _ _ => ?_ | refine ixI_new (by omega) (by omega) fun _ _ => ?_ | refine ⟨_, by assumption, ?_⟩ | refine Alt2.l (aI ?_) | refine Alt2.r (aI ?_)); conv => whnf) | (refine Ok.scope ?_) | ((first | refine Ok.label ?_ | refine rd rfl (by assumption) ?_ | refine ⟨_, .inl ⟨rfl, rfl⟩, ?_⟩ | refine ⟨_, _, rfl, rfl, ?_⟩); conv => whnf) | (refine ⟨fun _ => ?_, fun _ => ?_⟩ <;> (conv => whnf) <;> (try (exfalso; omega))) | ((first | refine aJ ?_ | refine num_any ?_ | refine ⟨_, rfl, ?_⟩); conv => whnf) | fail)
    refine Or.inl ?_; (conv => whnf)
    show D.b True = _
    exact congrArg D.b (propext ⟨fun _ => ⟨hp, hno⟩, fun _ => trivial⟩)
set_option maxHeartbeats 4000000 in
theorem hasS_at {n : Int} {ts : List Term} (hf : Fine n ts) (ks : List TR) (rm : List (List D)) (h1 : ks.map TR.t = ts) (h : Str) : FSpec Tryz.prog T 23 [.agg [.i .i64 n, .lst 112 (ks.map trow) rm], .s h] (fun r _ => r = .b (hasS ts h)) := by
  have hll : (ks.map trow).length = ks.length := by simp
  have hkl := hf.mlen h1
  refine FSpec.of_ok tok Tryz.func23 rfl Tryz.call23 (by simp) ?_
  (try (conv => whnf)); repeat' (first | refine Ok.seq ?_ | refine OkL.cons ?_ | ((first | refine Ok.region tok ?_ | refine Ok.region_draw tok follows (by kernel_rfl) ?_ | refine Ok.cond ?_); conv => whnf) | refine Ok.block ?_ | ((first | refine Ok.skip ?_ | refine Ok.exit ?_ | refine Ok.ret ?_ | refine nI ?_ | refine ix _ (by assumption) ?_ | refine ixI (by omega) (by assumption) ?_ | refine ix_new _ (by omega) fun _ _ => ?_ | refine ixI_new (by omega) (by omega) fun _ _ => ?_ | refine ⟨_, by assumption, ?_⟩ | refine Alt2.l (aI ?_) | refine Alt2.r (aI ?_)); conv => whnf) | (refine Ok.scope ?_) | ((first | refine Ok.label ?_ | refine rd rfl (by assumption) ?_ | refine ⟨_, .inl ⟨rfl, rfl⟩, ?_⟩ | refine ⟨_, _, rfl, rfl, ?_⟩); conv => whnf) | (refine ⟨fun _ => ?_, fun _ => ?_⟩ <;> (conv => whnf) <;> (try (exfalso; omega))) | ((first | refine aJ ?_ | refine num_any ?_ | refine ⟨_, rfl, ?_⟩); conv => whnf) | fail)
  refine Ok.loopU [1, 8, 9] [10] 0 1 (fun (i : Nat) => [.i .i64 (i : Nat)]) (fun _ b => b) (fun _ r => r) (fun (i : Nat) => i ≤ ks.length ∧ ∀ x ∈ ks.take i, ¬ termHas x.t h) (fun (i : Nat) => ks.length - i) (0) (⟨Nat.zero_le _, by simp⟩) ?_; (conv => whnf); refine ⟨by ((conv => whnf); first | rfl | (simp [envCat, List.take_of_length_le, crow, trow, srow, drow]; done) | (simp [envCat, List.take_of_length_le, crow, trow, srow, drow]; rw [IntKind.wrap_i64]; omega)), ?_⟩
  rintro i ⟨hi, hno⟩
  (conv => whnf)
  by_cases hil : i < ks.length
  · obtain ⟨x, hx⟩ : ∃ x, ks[i]? = some x := ⟨_, List.getElem?_eq_getElem hil⟩
    have hxm := List.mem_of_getElem? hx
    (try (conv => whnf)); repeat' (first | refine Ok.seq ?_ | refine OkL.cons ?_ | ((first | refine Ok.region tok ?_ | refine Ok.region_draw tok follows (by kernel_rfl) ?_ | refine Ok.cond ?_); conv => whnf) | refine Ok.block ?_ | ((first | refine Ok.skip ?_ | refine Ok.exit ?_ | refine Ok.ret ?_ | refine nI ?_ | refine ix _ (by assumption) ?_ | refine ixI (by omega) (by assumption) ?_ | refine ix_new _ (by omega) fun _ _ => ?_ | refine ixI_new (by omega) (by omega) fun _ _ => ?_ | refine ⟨_, by assumption, ?_⟩); conv => whnf) | (refine Or.inl ?_; (conv => whnf); (repeat (refine aI ?_; conv => whnf)); refine ⟨_, termHas_at x (hf.to h1 x hxm).tn h, rfl, ?_⟩; conv => whnf) | (refine ⟨_, termHas_at x (hf.to h1 x hxm).tn h, rfl, ?_⟩; conv => whnf) | (refine Or.inr (Or.inl ?_); (conv => whnf); (repeat (refine aI ?_; conv => whnf)); refine ⟨_, termHas_at x (hf.to h1 x hxm).tn h, ?_⟩; rintro _ _ ⟨rfl, rfl⟩; conv => whnf) | ((first | refine Alt2.l (aI ?_) | refine Alt2.r (aI ?_)); conv => whnf) | (refine Ok.scope ?_) | ((first | refine Ok.label ?_ | refine rd rfl (by assumption) ?_ | refine ⟨_, .inl ⟨rfl, rfl⟩, ?_⟩ | refine ⟨_, _, rfl, rfl, ?_⟩); conv => whnf) | (refine ⟨fun _ => ?_, fun _ => ?_⟩ <;> (conv => whnf) <;> (try (exfalso; omega))) | ((first | refine aJ ?_ | refine num_any ?_ | refine ⟨_, rfl, ?_⟩); conv => whnf) | fail)
    · rename_i h2
      refine Or.inl ?_; (conv => whnf)
      show D.b True = _
      exact congrArg D.b (propext ⟨fun _ => ⟨x.t, mem_of_map h1 hxm, h2⟩, fun _ => trivial⟩)
    · rename_i h2
      refine ⟨i + 1, by omega, ⟨by omega, fun z hz => ?_⟩, ?_⟩
      · rw [take_snoc hx] at hz
        rcases List.mem_append.1 hz with hz | hz
        · exact hno z hz
        · simp at hz; rw [hz]; exact h2
      · (conv => whnf)
        rfl
  · have hie : i = ks.length := by omega
    subst hie
    rw [List.take_length] at hno
    (try (conv => whnf)); repeat' (first | refine Ok.seq ?_ | refine OkL.cons ?_ | ((first | refine Ok.region tok ?_ | refine Ok.region_draw tok follows (by kernel_rfl) ?_ | refine Ok.cond ?_); conv => whnf) | refine Ok.block ?_ | ((first | refine Ok.skip ?_ | refine Ok.exit ?_ | refine Ok.ret ?_ | refine nI ?_ | refine ix _ (by assumption) ?_ | refine ixI (by omega) (by assumption) ?_ | refine ix_new _ (by omega) fun _ _ => ?_ | refine ixI_new (by omega) (by omega) fun _ _ => ?_ | refine ⟨_, by assumption, ?_⟩ | refine Alt2.l (aI ?_) | refine Alt2.r (aI ?_)); conv => whnf) | (refine Ok.scope ?_) | ((first | refine Ok.label ?_ | refine rd rfl (by assumption) ?_ | refine ⟨_, .inl ⟨rfl, rfl⟩, ?_⟩ | refine ⟨_, _, rfl, rfl, ?_⟩); conv => whnf) | (refine ⟨fun _ => ?_, fun _ => ?_⟩ <;> (conv => whnf) <;> (try (exfalso; omega))) | ((first | refine aJ ?_ | refine num_any ?_ | refine ⟨_, rfl, ?_⟩); conv => whnf) | fail)
    refine Or.inl ?_; (conv => whnf)
    show D.b False = _
    refine congrArg D.b (propext ⟨fun q => q.elim, fun ⟨t, ht, q⟩ => ?_⟩)
    rw [← h1] at ht
    obtain ⟨x, hx, rfl⟩ := List.mem_map.1 ht
    exact hno x hx q
end Go.Proofs.YtaiondckookpiaaGreatDoor
namespace Go.Proofs.YtaiondckookpiaaGreatDoor
open Go Go.Vx
def bef1 (a b : UInt8) : UInt8 := if b = 120 then a else 120
def befL (c r : Str) : Str := List.zipWith bef1 c r
def beforeT (c r : Str) : Option Str := if (meetT c r).isSome then some (befL c r) else none
theorem beforeT_some {c r x : Str} (h : beforeT c r = some x) : (meetT c r).isSome = true ∧ x = befL c r := by
  unfold beforeT at h
  split at h
  · rename_i h1; cases h; exact ⟨h1, rfl⟩
  · cases h
theorem befL_len {c r : Str} (h : r.length = c.length) : (befL c r).length = c.length := by simp [befL, h]
theorem befL_get {c r : Str} {i : Nat} {a b : UInt8} (ha : c[i]? = some a) (hb : r[i]? = some b) : (befL c r)[i]? = some (bef1 a b) := by
  simp [befL, List.getElem?_zipWith, ha, hb]
theorem befL_bits {c r : Str} (h : r.length = c.length) (hr : CT r) (i : Nat) : car (befL c r) i = (car c i && !car r i) ∧ one (befL c r) i = (one c i && !car r i) := by
  by_cases hi : i < c.length
  · have e1 := List.getElem?_eq_getElem hi
    have e2 := List.getElem?_eq_getElem (show i < r.length by omega)
    have e3 := befL_get e1 e2
    rw [(at_b e1).1, (at_b e1).2, (at_b e2).1, (at_b e3).1, (at_b e3).2]
    have := hr.cub _ (List.getElem_mem (show i < r.length by omega))
    generalize r[i] = b at this
    rcases this with rfl | rfl | rfl <;> simp [bef1, dig]
  · have h1 := at_out (t := c) (i := i) (by omega)
    have h2 := at_out (t := befL c r) (i := i) (by rw [befL_len h]; omega)
    rw [h1.1, h1.2, h2.1, h2.2]
    simp
theorem wof_andNot {f g h : Nat → Bool} (e : ∀ i, h i = (f i && !g i)) (k : Nat) : wof h k = wof f k &&& ~~~ wof g k := by
  refine BitVec.eq_of_getLsbD_eq fun i hi => ?_
  rw [BitVec.getLsbD_and, BitVec.getLsbD_not, wof_get _ _ _ hi, wof_get _ _ _ hi, wof_get _ _ _ hi, e]
  simp [hi]
def bw (w : Nat) (f g : Nat → Bool) (k : Nat) : BitVec 64 := if k < w then wof f k &&& ~~~ wof g k else wof f k
@[reducible] def bcells (n w : Nat) (c d : Str) : List D := [.i .i64 (n : Int), .i .u64 ((bw w (car c) (car d) 0).toNat : Int), .i .u64 ((bw w (car c) (car d) 1).toNat : Int), .i .u64 ((bw w (car c) (car d) 2).toNat : Int), .i .u64 ((bw w (car c) (car d) 3).toNat : Int), .i .u64 ((bw w (one c) (car d) 0).toNat : Int), .i .u64 ((bw w (one c) (car d) 1).toNat : Int), .i .u64 ((bw w (one c) (car d) 2).toNat : Int), .i .u64 ((bw w (one c) (car d) 3).toNat : Int)]
theorem bcells_end {c d : Str} (h : d.length = c.length) (hd : CT d) : bcells c.length 4 c d = crow (befL c d) := by
  simp only [bcells, crow, cells9, bw, wof_andNot (fun i => (befL_bits h hd i).1), wof_andNot (fun i => (befL_bits h hd i).2), befL_len h]
  rfl
theorem befL_ct {c r : Str} (hc : CT c) (h : r.length = c.length) : CT (befL c r) := by
  refine ⟨by rw [befL_len h]; exact hc.len, fun b hb => ?_⟩
  obtain ⟨k, hk⟩ := List.getElem?_of_mem hb
  have hkl : k < c.length := by have := (List.getElem?_eq_some_iff.1 hk).1; rw [befL_len h] at this; exact this
  have e1 := List.getElem?_eq_getElem hkl
  have e2 := List.getElem?_eq_getElem (show k < r.length by omega)
  rw [befL_get e1 e2] at hk
  cases hk
  unfold bef1
  split
  · exact hc.cub _ (List.getElem_mem hkl)
  · simp
theorem bf_none {c d : Str} (h : ¬ (meetT c d).isSome = true) : (D.tup [.agg [.i .i64 0, .i .u64 0, .i .u64 0, .i .u64 0, .i .u64 0, .i .u64 0, .i .u64 0, .i .u64 0, .i .u64 0], .b False]) = .tup [.agg (crow ((beforeT c d).getD [])), .b ((beforeT c d).isSome = true)] := by
  unfold beforeT
  rw [if_neg h]
  simp [crow_nil]
set_option maxHeartbeats 4000000 in
theorem before_at (c d : Str) (hc : CT c) (hd : CT d) : FSpec Tryz.prog T 83 [.agg (crow c), .agg (crow d)] (fun r rows => r = .tup [.agg (crow ((beforeT c d).getD [])), .b ((beforeT c d).isSome = true)] ∧ rows = []) := by
  refine FSpec.of_ok tok Tryz.func83 rfl Tryz.call83 (by simp) ?_
  (try (conv => whnf)); repeat' (first | ((with_reducible_and_instances (first | refine nShr (by assumption) ?_ | refine nShl1' rfl (by assumption) ?_ | refine nAnd ?_ | refine nOr ?_ | refine nXor ?_ | refine nAndNot ?_ | refine nAnd1' rfl ?_)); conv => whnf) | refine Ok.seq ?_ | refine OkL.cons ?_ | ((first | refine Ok.region tok ?_ | refine Ok.region_plan (id := 7) tok follows [(3, 11, []), (7, 11, [])] [.q 0, .q 1, .q 2, .q 3, .q 4, .q 5, .q 6, .q 7, .q 8, .q 9, .q 10, .l 11] (by kernel_rfl) ?_ | refine Ok.region_plan (id := 8) tok follows [(3, 11, []), (7, 11, [])] [.q 0, .q 1, .q 2, .q 3, .q 4, .q 5, .q 6, .q 7, .q 8, .q 9, .q 10, .l 11] (by kernel_rfl) ?_ | refine Ok.region_draw tok follows (by kernel_rfl) ?_ | refine Ok.cond ?_); conv => whnf) | refine Ok.block ?_ | ((first | refine Ok.skip ?_ | refine Ok.exit ?_ | refine Ok.ret ?_ | refine nI ?_ | refine ix _ (by assumption) ?_ | refine ixI (by omega) (by assumption) ?_ | refine ix_new _ (by omega) fun _ _ => ?_ | refine ixI_new (by omega) (by omega) fun _ _ => ?_ | refine ⟨_, by assumption, ?_⟩); conv => whnf) | (refine Or.inl ?_; (conv => whnf); (repeat (refine aI ?_; conv => whnf)); refine ⟨_, meet_at c d hc hd, rfl, ?_⟩; conv => whnf) | (refine ⟨_, meet_at c d hc hd, rfl, ?_⟩; conv => whnf) | (refine Or.inr (Or.inl ?_); (conv => whnf); (repeat (refine aI ?_; conv => whnf)); refine ⟨_, meet_at c d hc hd, ?_⟩; rintro _ _ ⟨rfl, rfl⟩; conv => whnf) | ((first | refine Alt2.l (aI ?_) | refine Alt2.r (aI ?_)); conv => whnf) | (refine Ok.scope ?_) | ((first | refine Ok.label ?_ | refine rd rfl (by assumption) ?_ | refine ⟨_, .inl ⟨rfl, rfl⟩, ?_⟩ | refine ⟨_, _, rfl, rfl, ?_⟩); conv => whnf) | (refine ⟨fun _ => ?_, fun _ => ?_⟩ <;> (conv => whnf) <;> (try (exfalso; omega))) | ((first | refine aJ ?_ | refine num_any ?_ | refine ⟨_, rfl, ?_⟩); conv => whnf) | fail)
  · rename_i h
    refine Or.inl ?_; (conv => whnf)
    exact ⟨bf_none h, rfl⟩
  · rename_i h
    have h := Classical.not_not.1 h
    have hl : d.length = c.length := by
      obtain ⟨m, hm⟩ := Option.isSome_iff_exists.1 h
      rw [meetT_eq (meetT_ct hm hc hd).2.2] at hm
      have := meetL_len hm
      omega
    refine Ok.loopU [2, 3, 4] [18] 0 3 (fun (w : Nat) => [.i .i64 (w : Nat)]) (fun (w : Nat) (_ : List (List D)) => [bcells c.length w c d, crow d, [.i .i64 0, .i .u64 0, .i .u64 0, .i .u64 0, .i .u64 0, .i .u64 0, .i .u64 0, .i .u64 0, .i .u64 0]]) (fun _ r => r) (fun (w : Nat) => w ≤ 4) (fun (w : Nat) => 4 - w) (0) (by omega) ?_; (conv => whnf); refine ⟨by ((conv => whnf); first | rfl | (simp [envCat, List.take_of_length_le, cells9, bcells, bcell, crow]; done) | (simp [envCat, List.take_of_length_le, cells9, bcells, bcell, crow]; rw [IntKind.wrap_i64]; omega)), ?_⟩
    rintro w hw
    (conv => whnf)
    by_cases hw4 : w = 4
    · subst hw4
      (try (conv => whnf)); repeat' (first | ((with_reducible_and_instances (first | refine nShr (by assumption) ?_ | refine nShl1' rfl (by assumption) ?_ | refine nAnd ?_ | refine nOr ?_ | refine nXor ?_ | refine nAndNot ?_ | refine nAnd1' rfl ?_)); conv => whnf) | refine Ok.seq ?_ | refine OkL.cons ?_ | ((first | refine Ok.region tok ?_ | refine Ok.region_plan (id := 7) tok follows [(3, 11, []), (7, 11, [])] [.q 0, .q 1, .q 2, .q 3, .q 4, .q 5, .q 6, .q 7, .q 8, .q 9, .q 10, .l 11] (by kernel_rfl) ?_ | refine Ok.region_plan (id := 8) tok follows [(3, 11, []), (7, 11, [])] [.q 0, .q 1, .q 2, .q 3, .q 4, .q 5, .q 6, .q 7, .q 8, .q 9, .q 10, .l 11] (by kernel_rfl) ?_ | refine Ok.region_draw tok follows (by kernel_rfl) ?_ | refine Ok.cond ?_); conv => whnf) | refine Ok.block ?_ | ((first | refine Ok.skip ?_ | refine Ok.exit ?_ | refine Ok.ret ?_ | refine nI ?_ | refine ix _ (by assumption) ?_ | refine ixI (by omega) (by assumption) ?_ | refine ix_new _ (by omega) fun _ _ => ?_ | refine ixI_new (by omega) (by omega) fun _ _ => ?_ | refine ⟨_, by assumption, ?_⟩ | refine Alt2.l (aI ?_) | refine Alt2.r (aI ?_)); conv => whnf) | (refine Ok.scope ?_) | ((first | refine Ok.label ?_ | refine rd rfl (by assumption) ?_ | refine ⟨_, .inl ⟨rfl, rfl⟩, ?_⟩ | refine ⟨_, _, rfl, rfl, ?_⟩); conv => whnf) | (refine ⟨fun _ => ?_, fun _ => ?_⟩ <;> (conv => whnf) <;> (try (exfalso; omega))) | ((first | refine aJ ?_ | refine num_any ?_ | refine ⟨_, rfl, ?_⟩); conv => whnf) | fail)
      refine Or.inl ?_; (conv => whnf)
      refine ⟨?_, rfl⟩
      unfold beforeT
      rw [if_pos h]
      show D.tup [.agg (bcells c.length 4 c d), .b True] = _
      rw [bcells_end hl hd]
      simp
    · rcases (by omega : w = 0 ∨ w = 1 ∨ w = 2 ∨ w = 3) with rfl | rfl | rfl | rfl
      · (try (conv => whnf)); repeat' (first | ((with_reducible_and_instances (first | refine nShr (by assumption) ?_ | refine nShl1' rfl (by assumption) ?_ | refine nAnd ?_ | refine nOr ?_ | refine nXor ?_ | refine nAndNot ?_ | refine nAnd1' rfl ?_)); conv => whnf) | refine Ok.seq ?_ | refine OkL.cons ?_ | ((first | refine Ok.region tok ?_ | refine Ok.region_plan (id := 7) tok follows [(3, 11, []), (7, 11, [])] [.q 0, .q 1, .q 2, .q 3, .q 4, .q 5, .q 6, .q 7, .q 8, .q 9, .q 10, .l 11] (by kernel_rfl) ?_ | refine Ok.region_plan (id := 8) tok follows [(3, 11, []), (7, 11, [])] [.q 0, .q 1, .q 2, .q 3, .q 4, .q 5, .q 6, .q 7, .q 8, .q 9, .q 10, .l 11] (by kernel_rfl) ?_ | refine Ok.region_draw tok follows (by kernel_rfl) ?_ | refine Ok.cond ?_); conv => whnf) | refine Ok.block ?_ | ((first | refine Ok.skip ?_ | refine Ok.exit ?_ | refine Ok.ret ?_ | refine nI ?_ | refine ix _ (by assumption) ?_ | refine ixI (by omega) (by assumption) ?_ | refine ix_new _ (by omega) fun _ _ => ?_ | refine ixI_new (by omega) (by omega) fun _ _ => ?_ | refine ⟨_, by assumption, ?_⟩ | refine Alt2.l (aI ?_) | refine Alt2.r (aI ?_)); conv => whnf) | (refine Ok.scope ?_) | ((first | refine Ok.label ?_ | refine rd rfl (by assumption) ?_ | refine ⟨_, .inl ⟨rfl, rfl⟩, ?_⟩ | refine ⟨_, _, rfl, rfl, ?_⟩); conv => whnf) | (refine ⟨fun _ => ?_, fun _ => ?_⟩ <;> (conv => whnf) <;> (try (exfalso; omega))) | ((first | refine aJ ?_ | refine num_any ?_ | refine ⟨_, rfl, ?_⟩); conv => whnf) | fail)
        refine ⟨1, by omega, by omega, ?_⟩
        (conv => whnf)
        rfl
      · (try (conv => whnf)); repeat' (first | ((with_reducible_and_instances (first | refine nShr (by assumption) ?_ | refine nShl1' rfl (by assumption) ?_ | refine nAnd ?_ | refine nOr ?_ | refine nXor ?_ | refine nAndNot ?_ | refine nAnd1' rfl ?_)); conv => whnf) | refine Ok.seq ?_ | refine OkL.cons ?_ | ((first | refine Ok.region tok ?_ | refine Ok.region_plan (id := 7) tok follows [(3, 11, []), (7, 11, [])] [.q 0, .q 1, .q 2, .q 3, .q 4, .q 5, .q 6, .q 7, .q 8, .q 9, .q 10, .l 11] (by kernel_rfl) ?_ | refine Ok.region_plan (id := 8) tok follows [(3, 11, []), (7, 11, [])] [.q 0, .q 1, .q 2, .q 3, .q 4, .q 5, .q 6, .q 7, .q 8, .q 9, .q 10, .l 11] (by kernel_rfl) ?_ | refine Ok.region_draw tok follows (by kernel_rfl) ?_ | refine Ok.cond ?_); conv => whnf) | refine Ok.block ?_ | ((first | refine Ok.skip ?_ | refine Ok.exit ?_ | refine Ok.ret ?_ | refine nI ?_ | refine ix _ (by assumption) ?_ | refine ixI (by omega) (by assumption) ?_ | refine ix_new _ (by omega) fun _ _ => ?_ | refine ixI_new (by omega) (by omega) fun _ _ => ?_ | refine ⟨_, by assumption, ?_⟩ | refine Alt2.l (aI ?_) | refine Alt2.r (aI ?_)); conv => whnf) | (refine Ok.scope ?_) | ((first | refine Ok.label ?_ | refine rd rfl (by assumption) ?_ | refine ⟨_, .inl ⟨rfl, rfl⟩, ?_⟩ | refine ⟨_, _, rfl, rfl, ?_⟩); conv => whnf) | (refine ⟨fun _ => ?_, fun _ => ?_⟩ <;> (conv => whnf) <;> (try (exfalso; omega))) | ((first | refine aJ ?_ | refine num_any ?_ | refine ⟨_, rfl, ?_⟩); conv => whnf) | fail)
        refine ⟨2, by omega, by omega, ?_⟩
        (conv => whnf)
        rfl
      · (try (conv => whnf)); repeat' (first | ((with_reducible_and_instances (first | refine nShr (by assumption) ?_ | refine nShl1' rfl (by assumption) ?_ | refine nAnd ?_ | refine nOr ?_ | refine nXor ?_ | refine nAndNot ?_ | refine nAnd1' rfl ?_)); conv => whnf) | refine Ok.seq ?_ | refine OkL.cons ?_ | ((first | refine Ok.region tok ?_ | refine Ok.region_plan (id := 7) tok follows [(3, 11, []), (7, 11, [])] [.q 0, .q 1, .q 2, .q 3, .q 4, .q 5, .q 6, .q 7, .q 8, .q 9, .q 10, .l 11] (by kernel_rfl) ?_ | refine Ok.region_plan (id := 8) tok follows [(3, 11, []), (7, 11, [])] [.q 0, .q 1, .q 2, .q 3, .q 4, .q 5, .q 6, .q 7, .q 8, .q 9, .q 10, .l 11] (by kernel_rfl) ?_ | refine Ok.region_draw tok follows (by kernel_rfl) ?_ | refine Ok.cond ?_); conv => whnf) | refine Ok.block ?_ | ((first | refine Ok.skip ?_ | refine Ok.exit ?_ | refine Ok.ret ?_ | refine nI ?_ | refine ix _ (by assumption) ?_ | refine ixI (by omega) (by assumption) ?_ | refine ix_new _ (by omega) fun _ _ => ?_ | refine ixI_new (by omega) (by omega) fun _ _ => ?_ | refine ⟨_, by assumption, ?_⟩ | refine Alt2.l (aI ?_) | refine Alt2.r (aI ?_)); conv => whnf) | (refine Ok.scope ?_) | ((first | refine Ok.label ?_ | refine rd rfl (by assumption) ?_ | refine ⟨_, .inl ⟨rfl, rfl⟩, ?_⟩ | refine ⟨_, _, rfl, rfl, ?_⟩); conv => whnf) | (refine ⟨fun _ => ?_, fun _ => ?_⟩ <;> (conv => whnf) <;> (try (exfalso; omega))) | ((first | refine aJ ?_ | refine num_any ?_ | refine ⟨_, rfl, ?_⟩); conv => whnf) | fail)
        refine ⟨3, by omega, by omega, ?_⟩
        (conv => whnf)
        rfl
      · (try (conv => whnf)); repeat' (first | ((with_reducible_and_instances (first | refine nShr (by assumption) ?_ | refine nShl1' rfl (by assumption) ?_ | refine nAnd ?_ | refine nOr ?_ | refine nXor ?_ | refine nAndNot ?_ | refine nAnd1' rfl ?_)); conv => whnf) | refine Ok.seq ?_ | refine OkL.cons ?_ | ((first | refine Ok.region tok ?_ | refine Ok.region_plan (id := 7) tok follows [(3, 11, []), (7, 11, [])] [.q 0, .q 1, .q 2, .q 3, .q 4, .q 5, .q 6, .q 7, .q 8, .q 9, .q 10, .l 11] (by kernel_rfl) ?_ | refine Ok.region_plan (id := 8) tok follows [(3, 11, []), (7, 11, [])] [.q 0, .q 1, .q 2, .q 3, .q 4, .q 5, .q 6, .q 7, .q 8, .q 9, .q 10, .l 11] (by kernel_rfl) ?_ | refine Ok.region_draw tok follows (by kernel_rfl) ?_ | refine Ok.cond ?_); conv => whnf) | refine Ok.block ?_ | ((first | refine Ok.skip ?_ | refine Ok.exit ?_ | refine Ok.ret ?_ | refine nI ?_ | refine ix _ (by assumption) ?_ | refine ixI (by omega) (by assumption) ?_ | refine ix_new _ (by omega) fun _ _ => ?_ | refine ixI_new (by omega) (by omega) fun _ _ => ?_ | refine ⟨_, by assumption, ?_⟩ | refine Alt2.l (aI ?_) | refine Alt2.r (aI ?_)); conv => whnf) | (refine Ok.scope ?_) | ((first | refine Ok.label ?_ | refine rd rfl (by assumption) ?_ | refine ⟨_, .inl ⟨rfl, rfl⟩, ?_⟩ | refine ⟨_, _, rfl, rfl, ?_⟩); conv => whnf) | (refine ⟨fun _ => ?_, fun _ => ?_⟩ <;> (conv => whnf) <;> (try (exfalso; omega))) | ((first | refine aJ ?_ | refine num_any ?_ | refine ⟨_, rfl, ?_⟩); conv => whnf) | fail)
        refine ⟨4, by omega, by omega, ?_⟩
        (conv => whnf)
        rfl
end Go.Proofs.YtaiondckookpiaaGreatDoor
namespace Go.Proofs.YtaiondckookpiaaGreatDoor
open Go Go.Vx
theorem hasC_in {c d h : Str} (hc : hasC c h) (hi : inL c d) : hasC d h := by
  obtain ⟨h1, h2, h3, h4⟩ := hc
  have hl := inL_len hi
  exact ⟨fun e => h1 (List.eq_nil_of_length_eq_zero (by rw [hl, e]; rfl)), by omega, h3, inL_trans h4 hi⟩
theorem hasC_meet {c d m h : Str} (hm : meetT c d = some m) : hasC m h ↔ hasC c h ∧ hasC d h := by
  have hne : c ≠ [] := fun e => by rw [e] at hm; simp [meetT] at hm
  rw [meetT_eq hne] at hm
  have hi := meetL_in hm
  have hl := meetL_len hm
  constructor
  · intro hh
    exact ⟨hasC_in hh hi.1, hasC_in hh hi.2⟩
  · rintro ⟨h1, h2⟩
    obtain ⟨m', hm', hi'⟩ := meetL_glb h1.2.2.2 h2.2.2.2
    rw [hm] at hm'
    cases hm'
    exact ⟨fun e => hne (List.eq_nil_of_length_eq_zero (by rw [hl.1, e]; rfl)), by rw [h1.2.1, hl.1], h1.2.2.1, hi'⟩
theorem hasC_meets {c d h : Str} (h1 : hasC c h) (h2 : hasC d h) : ∃ m, meetT c d = some m ∧ hasC m h := by
  obtain ⟨m, hm, _⟩ := meetL_glb h1.2.2.2 h2.2.2.2
  have := (meetT_eq h1.1).trans hm
  exact ⟨m, this, (hasC_meet this).2 ⟨h1, h2⟩⟩
theorem termHas_cov {t u : Term} {h : Str} (hc : covT t u) (ht : termHas t h) : termHas u h := by
  refine ⟨hasC_in ht.1 hc.1.2, fun m hm hh => ?_⟩
  obtain ⟨c, hcm, hch⟩ := hasC_meets hh ht.1
  obtain ⟨n, hn, hcn⟩ := hc.2 m hm c hcm
  exact ht.2 n hn (hasC_in hch hcn.2)
theorem hasS_form {n : Nat} {l : List Term} (hl : ∀ t ∈ l, t.Ok n) (h : Str) : hasS (formT l) h ↔ hasS l h := by
  have ha := grG_anti covT_trans l fun t ht => covT_refl (hl t ht)
  constructor
  · rintro ⟨t, ht, hh⟩
    exact ⟨t, formT_mem ht, hh⟩
  · rintro ⟨t, ht, hh⟩
    obtain ⟨u, hu, hc⟩ := ha.cov t ht
    exact ⟨u, (srt_perm aheadT _).mem_iff.2 hu, termHas_cov hc hh⟩
def rawHas (p : Str) (less : List Str) (h : Str) : Prop := hasC p h ∧ ∀ m ∈ less, ¬ hasC m h
theorem PK_has {p : Str} {less : List Str} {h : Str} (hp : hasC p h) : (∃ m ∈ PK p less, hasC m h) ↔ ∃ m ∈ less, hasC m h := by
  have hb := (putG_fold (R := inL) (L := blt) inL_refl (fun _ _ _ => inL_trans) blt_trans blt_total (metL p less)).1
  constructor
  · rintro ⟨m, hm, hh⟩
    obtain ⟨x, hx, hxm⟩ := metL_mem (hb.sub m hm)
    exact ⟨x, hx, ((hasC_meet hxm).1 hh).1⟩
  · rintro ⟨m, hm, hh⟩
    obtain ⟨c, hc, hch⟩ := hasC_meets hh hp
    obtain ⟨y, hy, hcy⟩ := hb.cov c (List.mem_filterMap.2 ⟨m, hm, hc⟩)
    exact ⟨y, hy, hasC_in hch hcy⟩
theorem termT_has {p : Str} {less : List Str} (h : Str) : (∃ t, termT p less = some t ∧ termHas t h) ↔ rawHas p less h := by
  by_cases hk : PK p less = [p]
  · rw [termT_pk0 hk]
    constructor
    · rintro ⟨t, ht, _⟩; cases ht
    · rintro ⟨h1, h2⟩
      obtain ⟨m, hm, hh⟩ := (PK_has (less := less) h1).1 ⟨p, by rw [hk]; simp, h1⟩
      exact absurd hh (h2 m hm)
  · rw [termT_pk1 hk]
    constructor
    · rintro ⟨t, ht, h1, h2⟩
      cases ht
      exact ⟨h1, fun m hm hh => by
        obtain ⟨y, hy, hyh⟩ := (PK_has (less := less) h1).2 ⟨m, hm, hh⟩
        exact h2 y hy hyh⟩
    · rintro ⟨h1, h2⟩
      exact ⟨_, rfl, h1, fun m hm hh => by
        obtain ⟨y, hy, hyh⟩ := (PK_has (less := less) h1).1 ⟨m, hm, hh⟩
        exact h2 y hy hyh⟩
theorem bndO_zero {n : Int} {l : List Term} (h : (bndO n l).1 = 0) : bndO n l = (0, n, l) := by
  unfold bndO at h ⊢
  split
  · rfl
  · rename_i hh; rw [if_neg hh] at h; cases h
def saidM (m : List Str) (h : Str) : Prop := rawHas (m.headD []) m.tail h
def saidP (ms : List (List Str)) (h : Str) : Prop := ∃ m ∈ ms, saidM m h
theorem trms_has {ms : List (List Str)} (h : Str) : hasS (trms ms) h ↔ saidP ms h := by
  constructor
  · rintro ⟨t, ht, hh⟩
    obtain ⟨m, hm, htm⟩ := List.mem_filterMap.1 ht
    exact ⟨m, hm, (termT_has h).1 ⟨t, htm, hh⟩⟩
  · rintro ⟨m, hm, hh⟩
    obtain ⟨t, ht, hth⟩ := (termT_has h).2 hh
    exact ⟨t, List.mem_filterMap.2 ⟨m, hm, ht⟩, hth⟩
end Go.Proofs.YtaiondckookpiaaGreatDoor
namespace Go.Proofs.YtaiondckookpiaaGreatDoor
open Go Go.Vx
noncomputable def bef1T (r : Str) (t : Term) : Option Term := (beforeT t.p r).bind fun p => termT p (t.less.filterMap fun m => beforeT m r)
noncomputable def befs (r : Str) (ts : List Term) : List Term := ts.filterMap (bef1T r)
open Classical in
noncomputable def befO (n : Int) (ts : List Term) (r : Str) : Int × Int × List Term := if fitP n (r.length : Int) then (0, n, formT (befs r ts)) else (11, 0, [])
theorem befO_fit {n : Int} {ts : List Term} {r : Str} (h : fitP n (r.length : Int)) : befO n ts r = (0, n, formT (befs r ts)) := if_pos h
theorem befO_not {n : Int} {ts : List Term} {r : Str} (h : ¬ fitP n (r.length : Int)) : befO n ts r = (11, 0, []) := if_neg h
theorem beforeT_cn {c r x : Str} (hc : CN c) (hl : r.length = c.length) (h : beforeT c r = some x) : CN x ∧ x.length = c.length := by
  obtain ⟨_, rfl⟩ := beforeT_some h
  have h1 := befL_len hl
  exact ⟨⟨befL_ct hc.1 hl, fun e => hc.2 (List.eq_nil_of_length_eq_zero (by rw [← h1, e]; rfl))⟩, h1⟩
theorem befs_good {n : Nat} {ts : List Term} {r : Str} (h : ∀ t ∈ ts, GoodT n t) (hr : r.length = n) : ∀ t ∈ befs r ts, GoodT n t := by
  intro t ht
  obtain ⟨a, ha, hb⟩ := List.mem_filterMap.1 ht
  unfold bef1T at hb
  obtain ⟨p, hp, hb⟩ := Option.bind_eq_some_iff.1 hb
  have hga := h a ha
  obtain ⟨h1, h2⟩ := beforeT_cn hga.p (by rw [hr, hga.ok.p]) hp
  refine (termT_good h1 (by rw [h2, hga.ok.p]) (fun m hm => ?_) hb).1
  obtain ⟨x, hx, hxm⟩ := List.mem_filterMap.1 hm
  exact (beforeT_cn (hga.less x hx) (by rw [hr, hga.ok.wide.2 x hx]) hxm).1.1
theorem bef1T_sz {r : Str} {a t : Term} (h : bef1T r a = some t) : t.less.length ≤ a.less.length := by
  unfold bef1T at h
  obtain ⟨p, hp, hb⟩ := Option.bind_eq_some_iff.1 h
  exact Nat.le_trans (termT_sz hb) (List.length_filterMap_le _ _)
theorem befs_sz (r : Str) : ∀ ts : List Term, szT (befs r ts) ≤ szT ts
  | [] => Nat.le_refl _
  | a :: ts => by
    have h1 := befs_sz r ts
    unfold befs at h1 ⊢
    cases hb : bef1T r a with
    | none =>
      rw [List.filterMap_cons_none hb]
      simp only [szT, List.map_cons, List.sum_cons] at h1 ⊢
      omega
    | some t =>
      rw [List.filterMap_cons_some hb]
      have := bef1T_sz hb
      simp only [szT, List.map_cons, List.sum_cons] at h1 ⊢
      omega
theorem befO_fine {n : Int} {ts : List Term} {r : Str} (hf : Fine n ts) : Fine (befO n ts r).2.1 (befO n ts r).2.2 := by
  by_cases h : fitP n (r.length : Int)
  · rw [befO_fit h]
    exact .form hf.n0 hf.n1 (befs_good hf.good (by have h1 := h.1; have h2 := h.2; show r.length = n.toNat; omega)) (Nat.le_trans (szT_form _) (Nat.le_trans (befs_sz r ts) hf.sz))
  · rw [befO_not h]; exact .nil (by decide) (by decide)
end Go.Proofs.YtaiondckookpiaaGreatDoor
namespace Go.Proofs.YtaiondckookpiaaGreatDoor
open Go Go.Vx
theorem bef1T_none {r : Str} {t : Term} (h : beforeT t.p r = none) : bef1T r t = none := by unfold bef1T; rw [h]; rfl
theorem bef1T_some {r : Str} {t : Term} {p : Str} (h : beforeT t.p r = some p) : bef1T r t = termT p (t.less.filterMap fun m => beforeT m r) := by unfold bef1T; rw [h]; rfl
end Go.Proofs.YtaiondckookpiaaGreatDoor
namespace Go.Proofs.YtaiondckookpiaaGreatDoor
open Go Go.Vx
set_option maxRecDepth 100000 in
set_option maxHeartbeats 8000000 in
theorem before2_at {n : Int} {ts : List Term} (hf : Fine n ts) (ks : List TR) (rm : List (List D)) (h1 : ks.map TR.t = ts) (r : Str) (hr : CT r) :
    FSpec Tryz.prog T 27 [.agg [.i .i64 n, .lst 112 (ks.map trow) rm], .agg (crow r)] (POut (befO n ts r)) := by
  have hfit := fits2_at n (r.length : Int)
  have htx := text_at r hr
  have hl1 : ks.length = ts.length := by rw [← h1, List.length_map]
  have hm1 : (ks.map trow).length = ts.length := by simp [hl1]
  have hk1 := hf.len
  have hn0 := hf.n0
  have hrl := hr.len
  refine FSpec.of_deferK 3 tok Tryz.func27 rfl Tryz.call27 (by simp) def_before (zd1 := [.i .i64 0, .nilS]) (zd2 := [.i .i64 3]) rfl rfl (by simp [Value.oneCell']) (by simp [Value.oneCell']) rfl ?_
  by_cases hfp : fitP n (r.length : Int)
  · have hnr := hfp.1
    have hn1 := hfp.2
    rw [befO_fit hfp]
    (try (conv => whnf)); repeat' (first | refine Ok.seq ?_ | refine OkL.cons ?_ | ((first | refine Ok.region tok ?_ | refine Ok.region_draw tok follows (by kernel_rfl) ?_ | refine Ok.cond ?_); conv => whnf) | refine Ok.block ?_ | ((first | refine Ok.skip ?_ | refine Ok.exit ?_ | refine Ok.ret ?_ | refine nI ?_ | refine ix _ (by assumption) ?_ | refine ixI (by omega) (by assumption) ?_ | refine ix_new _ (by omega) fun _ _ => ?_ | refine ixI_new (by omega) (by omega) fun _ _ => ?_ | refine ⟨_, by assumption, ?_⟩); conv => whnf) | (refine Or.inl ?_; (conv => whnf); (repeat (refine aI ?_; conv => whnf)); refine ⟨_, htx, rfl, ?_⟩; conv => whnf) | (refine Or.inl ?_; (conv => whnf); (repeat (refine aI ?_; conv => whnf)); refine ⟨_, hfit, rfl, ?_⟩; conv => whnf) | ((first | refine ⟨_, htx, rfl, ?_⟩ | refine ⟨_, hfit, rfl, ?_⟩); conv => whnf) | (refine Or.inr (Or.inl ?_); (conv => whnf); (repeat (refine aI ?_; conv => whnf)); refine ⟨_, htx, ?_⟩; rintro _ _ ⟨rfl, rfl⟩; conv => whnf) | (refine Or.inr (Or.inl ?_); (conv => whnf); (repeat (refine aI ?_; conv => whnf)); refine ⟨_, hfit, ?_⟩; rintro _ _ ⟨rfl, rfl⟩; conv => whnf) | ((first | refine Alt2.l (aI ?_) | refine Alt2.r (aI ?_)); conv => whnf) | (refine Ok.scope ?_) | ((first | refine Ok.label ?_ | refine rd rfl (by assumption) ?_ | refine ⟨_, .inl ⟨rfl, rfl⟩, ?_⟩ | refine ⟨_, _, rfl, rfl, ?_⟩); conv => whnf) | (refine ⟨fun _ => ?_, fun _ => ?_⟩ <;> (conv => whnf) <;> (try (exfalso; omega))) | ((first | refine aJ ?_ | refine num_any ?_ | refine ⟨_, rfl, ?_⟩); conv => whnf) | fail)
    · exact absurd hfp (by assumption)
    refine OkL.nil ?_
    (conv => whnf)
    refine ⟨2, 3, rfl, rfl, by decide, by decide, by decide, rfl, ?_⟩
    (try (conv => whnf)); repeat' (first | refine Ok.seq ?_ | refine OkL.cons ?_ | ((first | refine Ok.region tok ?_ | refine Ok.region_draw tok follows (by kernel_rfl) ?_ | refine Ok.cond ?_); conv => whnf) | refine Ok.block ?_ | ((first | refine Ok.skip ?_ | refine Ok.exit ?_ | refine Ok.ret ?_ | refine nI ?_ | refine ix _ (by assumption) ?_ | refine ixI (by omega) (by assumption) ?_ | refine ix_new _ (by omega) fun _ _ => ?_ | refine ixI_new (by omega) (by omega) fun _ _ => ?_ | refine ⟨_, by assumption, ?_⟩ | refine Alt2.l (aI ?_) | refine Alt2.r (aI ?_)); conv => whnf) | (refine Ok.scope ?_) | ((first | refine Ok.label ?_ | refine rd rfl (by assumption) ?_ | refine ⟨_, .inl ⟨rfl, rfl⟩, ?_⟩ | refine ⟨_, _, rfl, rfl, ?_⟩); conv => whnf) | (refine ⟨fun _ => ?_, fun _ => ?_⟩ <;> (conv => whnf) <;> (try (exfalso; omega))) | ((first | refine aJ ?_ | refine num_any ?_ | refine ⟨_, rfl, ?_⟩); conv => whnf) | fail)
    refine Ok.ghost 6 112 rfl ?_
    (conv => whnf)
    refine Ok.loopU [2, 3, 4, 5, 28, 29, 79, 80] [6, 30] 1 4 (fun (x : Nat × List TR) => [.own 0 x.2.length, .i .i64 (x.1 : Nat)]) (fun _ b => b) (fun (x : Nat × List TR) (_ : Vx.Rows) => [some (112, x.2.map trow)]) (fun (x : Nat × List TR) => x.1 ≤ ts.length ∧ x.2.map TR.t = befs r (ts.take x.1) ∧ x.2.length ≤ x.1) (fun (x : Nat × List TR) => ts.length - x.1) ((0, [])) (⟨Nat.zero_le _, by simp [befs], by simp⟩) ?_; (conv => whnf); refine ⟨by ((conv => whnf); first | rfl | (simp [envCat, List.take_of_length_le, crow, trow, srow, drow]; done) | (simp [envCat, List.take_of_length_le, crow, trow, srow, drow]; rw [IntKind.wrap_i64]; omega)), ?_⟩
    rintro ⟨i, l⟩ ⟨hi, hl, hll⟩
    dsimp only at hi hl hll ⊢
    have hlm : (l.map trow).length = l.length := by simp
    (conv => whnf)
    by_cases hil : i < ts.length
    · obtain ⟨a, ha⟩ : ∃ a, ks[i]? = some a := ⟨_, List.getElem?_eq_getElem (by omega)⟩
      have haI : ks[((i : Nat) : Int).toNat]? = some a := ha
      have hat := tr_get h1 ha
      have hag := hf.good _ (List.mem_of_getElem? hat)
      have hal := hf.less (List.mem_of_getElem? hat)
      have hal2 : (a.t.less.map crow).length = a.t.less.length := by simp
      have hapl := hag.ok.p
      have hal3 := hag.p.1.len
      have hb1 := before_at a.t.p r hag.p.1 hr
      cases hbt : beforeT a.t.p r with
      | none =>
        rw [hbt] at hb1
        have hno := bef1T_none hbt
        (try (conv => whnf)); repeat' (first | refine Ok.seq ?_ | refine OkL.cons ?_ | ((first | refine Ok.region tok ?_ | refine Ok.region_draw tok follows (by kernel_rfl) ?_ | refine Ok.cond ?_); conv => whnf) | refine Ok.block ?_ | ((first | refine Ok.skip ?_ | refine Ok.exit ?_ | refine Ok.ret ?_ | refine nI ?_ | refine ix _ (by assumption) ?_ | refine ixI (by omega) (by assumption) ?_ | refine ix_new _ (by omega) fun _ _ => ?_ | refine ixI_new (by omega) (by omega) fun _ _ => ?_ | refine ⟨_, by assumption, ?_⟩); conv => whnf) | (refine Or.inr (Or.inl ?_); (conv => whnf); (repeat (refine aI ?_; conv => whnf)); refine ⟨_, hb1, ?_⟩; rintro _ _ ⟨rfl, rfl⟩ <;> (conv => whnf)) | ((first | refine Alt2.l (aI ?_) | refine Alt2.r (aI ?_)); conv => whnf) | (refine Ok.scope ?_) | ((first | refine Ok.label ?_ | refine rd rfl (by assumption) ?_ | refine ⟨_, .inl ⟨rfl, rfl⟩, ?_⟩ | refine ⟨_, _, rfl, rfl, ?_⟩); conv => whnf) | (refine ⟨fun _ => ?_, fun _ => ?_⟩ <;> (conv => whnf) <;> (try (exfalso; omega))) | ((first | refine aJ ?_ | refine num_any ?_ | refine ⟨_, rfl, ?_⟩); conv => whnf) | fail)
        · refine ⟨(i + 1, l), by dsimp only; omega, ⟨by dsimp only; omega, by dsimp only; unfold befs at hl ⊢; rw [fm_none hat hno]; exact hl, by dsimp only; omega⟩, ?_⟩
          (conv => whnf)
          rfl
        all_goals (rename_i h; exact absurd (fun q => by cases q) h)
      | some p =>
        rw [hbt] at hb1
        have hsm := bef1T_some hbt
        obtain ⟨hpc, hpl⟩ := beforeT_cn hag.p (show r.length = a.t.p.length by omega) hbt
        (try (conv => whnf)); repeat' (first | refine Ok.seq ?_ | refine OkL.cons ?_ | ((first | refine Ok.region tok ?_ | refine Ok.region_draw tok follows (by kernel_rfl) ?_ | refine Ok.cond ?_); conv => whnf) | refine Ok.block ?_ | ((first | refine Ok.skip ?_ | refine Ok.exit ?_ | refine Ok.ret ?_ | refine nI ?_ | refine ix _ (by assumption) ?_ | refine ixI (by omega) (by assumption) ?_ | refine ix_new _ (by omega) fun _ _ => ?_ | refine ixI_new (by omega) (by omega) fun _ _ => ?_ | refine ⟨_, by assumption, ?_⟩); conv => whnf) | (refine Or.inr (Or.inl ?_); (conv => whnf); (repeat (refine aI ?_; conv => whnf)); refine ⟨_, hb1, ?_⟩; rintro _ _ ⟨rfl, rfl⟩ <;> (conv => whnf)) | ((first | refine Alt2.l (aI ?_) | refine Alt2.r (aI ?_)); conv => whnf) | (refine Ok.scope ?_) | ((first | refine Ok.label ?_ | refine rd rfl (by assumption) ?_ | refine ⟨_, .inl ⟨rfl, rfl⟩, ?_⟩ | refine ⟨_, _, rfl, rfl, ?_⟩); conv => whnf) | (refine ⟨fun _ => ?_, fun _ => ?_⟩ <;> (conv => whnf) <;> (try (exfalso; omega))) | ((first | refine aJ ?_ | refine num_any ?_ | refine ⟨_, rfl, ?_⟩); conv => whnf) | fail)
        · rename_i h
          exact absurd rfl h
        refine Ok.ghost 11 46 rfl ?_
        (conv => whnf)
        refine Ok.loopU [2, 3, 4, 5, 6, 9, 28, 29, 30, 44, 45, 79, 80] [11, 46] 2 6 (fun (x : Nat × List Str) => [.own 1 x.2.length, .i .i64 (x.1 : Nat)]) (fun _ b => b) (fun (x : Nat × List Str) (_ : Vx.Rows) => [some (112, l.map trow), some (46, x.2.map crow)]) (fun (x : Nat × List Str) => x.1 ≤ a.t.less.length ∧ x.2 = (a.t.less.take x.1).filterMap (fun m => beforeT m r) ∧ x.2.length ≤ x.1) (fun (x : Nat × List Str) => a.t.less.length - x.1) ((0, [])) (⟨Nat.zero_le _, by simp, by simp⟩) ?_; (conv => whnf); refine ⟨by ((conv => whnf); first | rfl | (simp [envCat, List.take_of_length_le, crow, trow, srow, drow]; done) | (simp [envCat, List.take_of_length_le, crow, trow, srow, drow]; rw [IntKind.wrap_i64]; omega)), ?_⟩
        rintro ⟨j, ms⟩ ⟨hj, hms, hmsl⟩
        dsimp only at hj hms hmsl ⊢
        have hmm : (ms.map crow).length = ms.length := by simp
        (conv => whnf)
        by_cases hjl : j < a.t.less.length
        · obtain ⟨m, hm⟩ : ∃ m, a.t.less[j]? = some m := ⟨_, List.getElem?_eq_getElem hjl⟩
          have hmI : a.t.less[((j : Nat) : Int).toNat]? = some m := hm
          have hmc := hag.less m (List.mem_of_getElem? hm)
          have hml := hag.ok.wide.2 m (List.mem_of_getElem? hm)
          have hb2 := before_at m r hmc.1 hr
          cases hbm : beforeT m r with
          | none =>
            rw [hbm] at hb2
            (try (conv => whnf)); repeat' (first | refine Ok.seq ?_ | refine OkL.cons ?_ | ((first | refine Ok.region tok ?_ | refine Ok.region_draw tok follows (by kernel_rfl) ?_ | refine Ok.cond ?_); conv => whnf) | refine Ok.block ?_ | ((first | refine Ok.skip ?_ | refine Ok.exit ?_ | refine Ok.ret ?_ | refine nI ?_ | refine ix _ (by assumption) ?_ | refine ixI (by omega) (by assumption) ?_ | refine ix_new _ (by omega) fun _ _ => ?_ | refine ixI_new (by omega) (by omega) fun _ _ => ?_ | refine ⟨_, by assumption, ?_⟩); conv => whnf) | (refine Or.inr (Or.inl ?_); (conv => whnf); (repeat (refine aI ?_; conv => whnf)); refine ⟨_, hb2, ?_⟩; rintro _ _ ⟨rfl, rfl⟩ <;> (conv => whnf)) | ((first | refine Alt2.l (aI ?_) | refine Alt2.r (aI ?_)); conv => whnf) | (refine Ok.scope ?_) | ((first | refine Ok.label ?_ | refine rd rfl (by assumption) ?_ | refine ⟨_, .inl ⟨rfl, rfl⟩, ?_⟩ | refine ⟨_, _, rfl, rfl, ?_⟩); conv => whnf) | (refine ⟨fun _ => ?_, fun _ => ?_⟩ <;> (conv => whnf) <;> (try (exfalso; omega))) | ((first | refine aJ ?_ | refine num_any ?_ | refine ⟨_, rfl, ?_⟩); conv => whnf) | fail)
            all_goals first
              | (rename_i h; cases h)
              | (refine ⟨(j + 1, ms), by dsimp only; omega, ⟨by dsimp only; omega, by dsimp only; rw [fm_none hm hbm]; exact hms, by dsimp only; omega⟩, ?_⟩
                 (conv => whnf)
                 rfl)
          | some q =>
            rw [hbm] at hb2
            (try (conv => whnf)); repeat' (first | refine Ok.seq ?_ | refine OkL.cons ?_ | ((first | refine Ok.region tok ?_ | refine Ok.region_draw tok follows (by kernel_rfl) ?_ | refine Ok.cond ?_); conv => whnf) | refine Ok.block ?_ | ((first | refine Ok.skip ?_ | refine Ok.exit ?_ | refine Ok.ret ?_ | refine nI ?_ | refine ix _ (by assumption) ?_ | refine ixI (by omega) (by assumption) ?_ | refine ix_new _ (by omega) fun _ _ => ?_ | refine ixI_new (by omega) (by omega) fun _ _ => ?_ | refine ⟨_, by assumption, ?_⟩); conv => whnf) | (refine Or.inr (Or.inl ?_); (conv => whnf); (repeat (refine aI ?_; conv => whnf)); refine ⟨_, hb2, ?_⟩; rintro _ _ ⟨rfl, rfl⟩ <;> (conv => whnf)) | ((first | refine Alt2.l (aI ?_) | refine Alt2.r (aI ?_)); conv => whnf) | (refine Ok.scope ?_) | ((first | refine Ok.label ?_ | refine rd rfl (by assumption) ?_ | refine ⟨_, .inl ⟨rfl, rfl⟩, ?_⟩ | refine ⟨_, _, rfl, rfl, ?_⟩); conv => whnf) | (refine ⟨fun _ => ?_, fun _ => ?_⟩ <;> (conv => whnf) <;> (try (exfalso; omega))) | ((first | refine aJ ?_ | refine num_any ?_ | refine ⟨_, rfl, ?_⟩); conv => whnf) | fail)
            all_goals first
              | (rename_i h; exact absurd rfl h)
              | (rename_i h; exact absurd trivial h)
              | (refine ⟨(j + 1, ms ++ [q]), by dsimp only; omega, ⟨by dsimp only; omega, by dsimp only; rw [fm_some hm hbm, hms], by simp; omega⟩, ?_⟩
                 (conv => whnf)
                 simp [envCat])
        · have hje : j = a.t.less.length := by omega
          subst hje
          rw [List.take_length] at hms
          subst hms
          have hnew : ∀ rl room, rl = List.map lrow [⟨a.t.less.filterMap (fun m => beforeT m r), []⟩] → FSpec Tryz.prog T 72 [.agg (crow p), .lst 58 rl room] (NewT p (a.t.less.filterMap fun m => beforeT m r)) := fun rl room h => by
            have := newTerm_at p [⟨a.t.less.filterMap (fun m => beforeT m r), []⟩] (room := room) hpc (by
              intro x hx m hm
              simp at hx
              subst hx
              obtain ⟨y, hy, hyx⟩ := List.mem_filterMap.1 hm
              exact (beforeT_cn (hag.less y hy) (by have := hag.ok.wide.2 y hy; omega) hyx).1.1) (by simp [allL]; omega) (by simp) h
            rwa [show allL [⟨a.t.less.filterMap (fun m => beforeT m r), []⟩] = a.t.less.filterMap (fun m => beforeT m r) by simp [allL]] at this
          (try (conv => whnf)); repeat' (first | refine Ok.seq ?_ | refine OkL.cons ?_ | ((first | refine Ok.region tok ?_ | refine Ok.region_draw tok follows (by kernel_rfl) ?_ | refine Ok.cond ?_); conv => whnf) | refine Ok.block ?_ | ((first | refine Ok.skip ?_ | refine Ok.exit ?_ | refine Ok.ret ?_ | refine nI ?_ | refine ix _ (by assumption) ?_ | refine ixI (by omega) (by assumption) ?_ | refine ix_new _ (by omega) fun _ _ => ?_ | refine ixI_new (by omega) (by omega) fun _ _ => ?_ | refine ⟨_, by assumption, ?_⟩); conv => whnf) | (refine Or.inr (Or.inl ?_); (conv => whnf); (repeat (refine aI ?_; conv => whnf)); refine ⟨_, hnew _ _ (by simp [lrow, List.take_of_length_le, List.drop_of_length_le]) , ?_⟩; rintro _ _ ⟨rfl, (⟨ht, rfl⟩ | ⟨t, rm4, ht, rfl⟩)⟩ <;> (conv => whnf)) | ((first | refine Alt2.l (aI ?_) | refine Alt2.r (aI ?_)); conv => whnf) | (refine Ok.scope ?_) | ((first | refine Ok.label ?_ | refine rd rfl (by assumption) ?_ | refine ⟨_, .inl ⟨rfl, rfl⟩, ?_⟩ | refine ⟨_, _, rfl, rfl, ?_⟩); conv => whnf) | (refine ⟨fun _ => ?_, fun _ => ?_⟩ <;> (conv => whnf) <;> (try (exfalso; omega))) | ((first | refine aJ ?_ | refine num_any ?_ | refine ⟨_, rfl, ?_⟩); conv => whnf) | fail)
          all_goals first
            | (rename_i h; exact absurd rfl h)
            | (rename_i h; exact absurd trivial h)
            | (refine ⟨(i + 1, l), by dsimp only; omega, ⟨by dsimp only; omega, by dsimp only; unfold befs at hl ⊢; rw [fm_none hat (hsm.trans ht)]; exact hl, by dsimp only; omega⟩, ?_⟩
               (conv => whnf)
               rfl)
            | (refine ⟨(i + 1, l ++ [⟨t, rm4⟩]), by dsimp only; omega, ⟨by dsimp only; omega, by dsimp only; unfold befs at hl ⊢; rw [fm_some hat (hsm.trans ht), List.map_append, hl]; rfl, by simp; omega⟩, ?_⟩
               (conv => whnf)
               simp [envCat])
            | trace_state
    · have hie : i = ts.length := by omega
      subst hie
      rw [List.take_length] at hl
      have hgood := befs_good hf.good (r := r) (show r.length = n.toNat by omega)
      have hsz : szT (formT (l.map TR.t)) ≤ 128 := by rw [hl]; exact Nat.le_trans (szT_form _) (Nat.le_trans (befs_sz r ts) hf.sz)
      have hle : ∀ x ∈ l, x.t.less.length ≤ 1048576 := fun x hx => by
        have h2 := mem_of_map hl hx
        obtain ⟨b, hb, hbb⟩ := List.mem_filterMap.1 h2
        have := bef1T_sz hbb
        have := hf.less hb
        omega
      have hto : ∀ x ∈ l, TO n.toNat x := fun x hx => (hgood _ (mem_of_map hl hx)).to (hle x hx)
      have htk : List.take l.length (l.map trow) = l.map trow := List.take_of_length_le (by simp)
      rw [← hl]
      (try (conv => whnf)); repeat' (first | refine Ok.seq ?_ | refine OkL.cons ?_ | ((first | refine Ok.region tok ?_ | refine Ok.region_draw tok follows (by kernel_rfl) ?_ | refine Ok.cond ?_); conv => whnf) | refine Ok.block ?_ | ((first | refine Ok.skip ?_ | refine Ok.exit ?_ | refine Ok.ret ?_ | refine nI ?_ | refine ix _ (by assumption) ?_ | refine ixI (by omega) (by assumption) ?_ | refine ix_new _ (by omega) fun _ _ => ?_ | refine ixI_new (by omega) (by omega) fun _ _ => ?_ | refine ⟨_, by assumption, ?_⟩); conv => whnf) | (refine Or.inr (Or.inl ?_); (conv => whnf); (repeat (refine aI ?_; conv => whnf)); refine ⟨_, form_at n n.toNat l (by omega) hto htk hsz , ?_⟩; rintro _ _ ⟨ks3, rm3, rfl, rfl, hks3, hkm⟩ <;> (conv => whnf)) | ((first | refine Alt2.l (aI ?_) | refine Alt2.r (aI ?_)); conv => whnf) | (refine Ok.scope ?_) | ((first | refine Ok.label ?_ | refine rd rfl (by assumption) ?_ | refine ⟨_, .inl ⟨rfl, rfl⟩, ?_⟩ | refine ⟨_, _, rfl, rfl, ?_⟩); conv => whnf) | (refine ⟨fun _ => ?_, fun _ => ?_⟩ <;> (conv => whnf) <;> (try (exfalso; omega))) | ((first | refine aJ ?_ | refine num_any ?_ | refine ⟨_, rfl, ?_⟩); conv => whnf) | fail)
      refine Or.inl ?_; (conv => whnf)
      exact ⟨rfl, _, rfl, ks3, rm3, rfl, hks3⟩
  · rw [befO_not hfp]
    (try (conv => whnf)); repeat' (first | refine Ok.seq ?_ | refine OkL.cons ?_ | ((first | refine Ok.region tok ?_ | refine Ok.region_draw tok follows (by kernel_rfl) ?_ | refine Ok.cond ?_); conv => whnf) | refine Ok.block ?_ | ((first | refine Ok.skip ?_ | refine Ok.exit ?_ | refine Ok.ret ?_ | refine nI ?_ | refine ix _ (by assumption) ?_ | refine ixI (by omega) (by assumption) ?_ | refine ix_new _ (by omega) fun _ _ => ?_ | refine ixI_new (by omega) (by omega) fun _ _ => ?_ | refine ⟨_, by assumption, ?_⟩); conv => whnf) | (refine Or.inl ?_; (conv => whnf); (repeat (refine aI ?_; conv => whnf)); refine ⟨_, htx, rfl, ?_⟩; conv => whnf) | (refine Or.inl ?_; (conv => whnf); (repeat (refine aI ?_; conv => whnf)); refine ⟨_, hfit, rfl, ?_⟩; conv => whnf) | ((first | refine ⟨_, htx, rfl, ?_⟩ | refine ⟨_, hfit, rfl, ?_⟩); conv => whnf) | (refine Or.inr (Or.inl ?_); (conv => whnf); (repeat (refine aI ?_; conv => whnf)); refine ⟨_, htx, ?_⟩; rintro _ _ ⟨rfl, rfl⟩; conv => whnf) | (refine Or.inr (Or.inl ?_); (conv => whnf); (repeat (refine aI ?_; conv => whnf)); refine ⟨_, hfit, ?_⟩; rintro _ _ ⟨rfl, rfl⟩; conv => whnf) | ((first | refine Alt2.l (aI ?_) | refine Alt2.r (aI ?_)); conv => whnf) | (refine Ok.scope ?_) | ((first | refine Ok.label ?_ | refine rd rfl (by assumption) ?_ | refine ⟨_, .inl ⟨rfl, rfl⟩, ?_⟩ | refine ⟨_, _, rfl, rfl, ?_⟩); conv => whnf) | (refine ⟨fun _ => ?_, fun _ => ?_⟩ <;> (conv => whnf) <;> (try (exfalso; omega))) | ((first | refine aJ ?_ | refine num_any ?_ | refine ⟨_, rfl, ?_⟩); conv => whnf) | fail)
    · refine Or.inl ?_; (conv => whnf)
      exact ⟨rfl, _, rfl, PSp.nil 0⟩
    · rename_i h
      exact absurd hfp h
end Go.Proofs.YtaiondckookpiaaGreatDoor
namespace Go.Vx
open Go.RowKit
section
variable {P : Program} {T : Tab} {l : Nat} {x : List D} {n : Nat} {Q : Exit → List (Nat × D) → Prop} {s : St}
structure OkO (P : Program) (T : Tab) (l : Nat) (x : List D) (n : Nat) (c : Code) (Q : Exit → List (Nat × D) → Prop) (s : St) : Prop where
  run : ∀ (B : Nat) J Jp, Yields P T l B [x] J Jp → (∀ V W, ¬ J (some 1) V W) → ∀ (V : Vw) (a0 : Act) (w0 : World) (env : List (Nat × D)), J (some 0) V w0 → PureS (szOf T) B V env n a0 w0 →
    ∀ (V' : Vw) (μ : List Nat) (ω : List Value) (a : Act) (w : World), Sim (szOf T) w0 ⟨V, fun _ => undef, a0.defers, []⟩ V' μ ω s a w → c.wp P (yPost P T B J Jp n fun e g env => g = none ∧ Q e env) a w
theorem OkO.seq {c y : Code} (h : Ok P T c (thenQ (OkO P T l x n y Q) (fun _ _ => False)) s) : OkO P T l x n (.seq c y) Q s := by
  refine ⟨fun B J Jp hY h1 V a0 w0 env hJ hp V' μ ω a w hS => wp_seq (wp_mono (h.run w0 _ V' μ ω a w hS) ?_)⟩
  rintro e a' w' ⟨s', V2, μ', ω', hq, hS2⟩
  cases e with
  | normal => exact OkO.run hq B J Jp hY h1 V a0 w0 env hJ hp V2 μ' ω' a' w' hS2
  | _ => exact False.elim hq
def thenO (N : List (Nat × D) → Prop) (Q : Exit → List (Nat × D) → Prop) : Exit → List (Nat × D) → Prop
  | .normal, env => N env
  | e, env => Q e env
def blockO (id : Nat) (Q : Exit → List (Nat × D) → Prop) : Exit → List (Nat × D) → Prop
  | .exit id', env => match Nat.beq id' id with | true => Q .normal env | false => Q (.exit id') env
  | e, env => Q e env
theorem OkO.block {id : Nat} {c : Code} (h : OkO P T l x n c (blockO id Q) s) : OkO P T l x n (.block id c) Q s := by
  refine ⟨fun B J Jp hY h1 V a0 w0 env hJ hp V' μ ω a w hS => wp_block (wp_mono (h.run B J Jp hY h1 V a0 w0 env hJ hp V' μ ω a w hS) ?_)⟩
  rintro e a' w' (⟨g', env', V', ⟨rfl, hk⟩, h1, h2⟩ | ⟨ch, rfl, h⟩)
  · cases e with
    | exit id' =>
      simp only [blockO] at hk
      simp only [Exit.inBlock]
      split at hk
      · rename_i hb
        rw [if_pos (beq_nat_true hb)]
        exact .inl ⟨none, env', V', ⟨rfl, hk⟩, h1, h2⟩
      · rename_i hb
        rw [if_neg (by rintro rfl; rw [Nat.beq_refl] at hb; cases hb)]
        exact .inl ⟨none, env', V', ⟨rfl, hk⟩, h1, h2⟩
    | _ => exact .inl ⟨none, env', V', ⟨rfl, hk⟩, h1, h2⟩
  · exact .inr ⟨ch, rfl, h⟩
theorem OkO.loop {c : Code} (h : OkO P T l x n c (thenO (fun _ => False) Q) s) : OkO P T l x n (.loop c) Q s := by
  refine ⟨fun B J Jp hY h1 V a0 w0 env hJ hp V' μ ω a w hS => wp_loop_at (fun k a1 w1 => k = 0 ∧ a1 = a ∧ w1 = w) ?_ ⟨rfl, rfl, rfl⟩⟩
  rintro k a1 w1 ⟨rfl, rfl, rfl⟩
  refine wp_mono (h.run B J Jp hY h1 V a0 w0 env hJ hp V' μ ω _ _ hS) ?_
  rintro e a' w' (⟨g', env', V', ⟨rfl, hk⟩, h1, h2⟩ | ⟨ch, rfl, h⟩)
  · cases e with
    | normal => exact False.elim hk
    | _ => exact .inl ⟨none, env', V', ⟨rfl, hk⟩, h1, h2⟩
  · exact .inr ⟨ch, rfl, h⟩
def yCallO (P : Program) (T : Tab) (l n : Nat) (ops r : List Oper) (x : List D) (Q : Exit → List (Nat × D) → Prop) (o : Oper) (s : St) : Prop :=
  match o.guard with
  | some _ => False
  | none => match o.op with
    | .call { callee := .value (.tmp t), args, argTypes := _ } => s.get (.tmp t) = .yld l ∧ s.gets args.toList = x ∧ imms x = true ∧ purK n s fun env' =>
        putK ⟨env', [], [], n⟩ o.dst .ff fun s => vops P T ops r s fun s' => purK n s' (Q .normal)
    | _ => False
theorem OkO.yreg (hT : TOk P T) {id : Nat} {ops : List Oper} (j : Nat) (h : vopsCut P T ops j ops s (yCallO P T l n ops (ops.drop (j + 1)) x Q)) :
    OkO P T l x n (.region id ops.toArray false) Q s := by
  refine ⟨fun B J Jp hY h1 V a0 w0 env hJ hp V' μ ω a w hS0 => (wpIn_wide (n := 0)).1 ?_⟩
  show Code.wpIn (fen none) 0 P _ _ a w
  refine wpIn_region_lit (vopsCutIn_sound hT j ops _ V' μ ω a w _ hS0 h ?_)
  intro o r s V1 μ1 ω1 a1 w1 hr hk hS1
  have hr2 : ops.drop (j + 1) = r := by rw [← List.drop_drop, hr]; rfl
  rw [hr2] at hk
  obtain ⟨dst, op, type, pos, after, guard⟩ := o
  unfold yCallO at hk
  split at hk
  · exact hk.elim
  rename_i hg
  dsimp only at hg
  subst hg
  split at hk
  case h_2 => exact hk.elim
  rename_i t args ats hop
  dsimp only at hop
  subst hop
  obtain ⟨hyl, hgs, him, hk⟩ := hk
  have hev : a1.eval (.tmp t) = .func (.yield l) #[] #[] := by have := hS1.get (.tmp t); rw [hyl] at this; exact this.yld_
  obtain ⟨env', hk2, hp1⟩ := hp.after hS1 hk
  have hJ1 := hY.grow _ _ _ _ _ hJ hS1.mem.below hS1.mem.vle hS1.mem.vok (fresh_of hS1.mem rfl)
  obtain ⟨ms, e1, e2, e3⟩ := hp1.marks
  have hvals := hS1.gets args.toList
  rw [hgs] at hvals
  obtain ⟨fn, tmps, assign, body, hyi, hround⟩ := hY.round 0 x V1 w1 (args.toList.map a1.eval) rfl hJ1 hvals.1 (fun i v d h1 h2 => immD_ri (hvals.2 i v d h1 h2) (imms_at him i d h2)) (keptOf ms) (fun y hy => by
    obtain ⟨D, hD, rfl⟩ := List.mem_map.1 hy
    exact ⟨(e3 D hD).1, (e3 D hD).2, fun _ _ _ e => by cases e⟩)
  unfold wpListIn
  rw [if_pos (by simp [Region.wanted])]
  refine ⟨fun _ _ => trivial, ?_⟩
  have hrun : (execOp a1.eval ⟨dst, .call ⟨.value (.tmp t), args, ats⟩, type, pos, after, none⟩).run P w1 = .ok (.round l fn tmps assign body) w1 := by
    have ha : (args.toList.map a1.eval).toArray = args.map a1.eval := by apply Array.ext'; simp
    rw [ha] at hyi
    simp only [execOp, resolve, hev, Deferred.ofValue, Sem.run_bind, Sem.run_pure, Result.andThen_ok]
    simp [invoke, go_sem, hyi]
  have hsem : ∀ o, Oper.semAt (fen none).round a1.eval o = execOp a1.eval o := fun o => Oper.semAt_none _ _
  rw [hsem, hrun]
  refine ⟨(fun hh => by cases hh), ?_⟩
  refine RoundIn.mono hround ?_
  rintro e W' ⟨hE, h⟩
  have hmk : ∃ ms : List Nat, a1.defers = ms.map mkD ∧ ms.Nodup ∧ ∀ D ∈ ms, B ≤ D ∧ W'.heap[D]? = some (.deferred (some [])) := ⟨ms, e1, e2, fun D hD => ⟨(e3 D hD).1, hE (D, _) (List.mem_map.2 ⟨D, hD, rfl⟩)⟩⟩
  rcases h with ⟨V2, hle, ⟨rfl, hJ2⟩ | ⟨rfl, hJ2⟩⟩ | ⟨c, rfl, hJp⟩
  · exact absurd hJ2 (h1 _ _)
  · have hp2 : PureS (szOf T) B V2 env' n a1 W' := ⟨hp1.tmps, hmk, hY.size _ _ _ hJ2, hY.vok _ _ _ hJ2, fun t => (hp1.env t).mono hle (.refl _) (.refl _)⟩
    obtain ⟨s3, hq3, hS3⟩ := putK_sound hp2.sim (.imm _ _ .ff) hk2
    refine vopsIn_sound hT r s3 V2 [] [] _ W' _ hS3 hq3 ?_
    intro s4 V4 μ4 ω4 a4 w4 hk4 hS4
    obtain ⟨env5, hk5, hp5⟩ := hp2.after (a' := a4) (w' := w4) hS4 hk4
    exact .inl ⟨none, env5, V4, ⟨rfl, hk5⟩, hY.grow _ _ _ _ _ hJ2 hS4.mem.below hS4.mem.vle hS4.mem.vok (fresh_of hS4.mem rfl), hp5⟩
  · exact .inr ⟨c, rfl, hJp, hmk⟩
end
end Go.Vx
namespace Go.Proofs.YtaiondckookpiaaGreatDoor
open Go Go.Vx
def ov1 (a b : UInt8) : UInt8 := if a = 120 then b else a
def curL (c d : Str) (i : Nat) : Str := List.zipWith ov1 (c.take i) (d.take i) ++ c.drop i
def pcT (c d : Str) (j : Nat) : Option Str :=
  match c[j]?, d[j]? with
  | some a, some b => if a = 120 ∧ b ≠ 120 then some ((curL c d j).set j (97 - b)) else none
  | _, _ => none
def pcsT (c d : Str) (i : Nat) : List Str := (List.range i).filterMap (pcT c d)
def splitT (c d : Str) : List Str := if (meetT c d).isSome then pcsT c d c.length else [c]
theorem pcsT_some {c d : Str} {i : Nat} {x : Str} (h : pcT c d i = some x) : pcsT c d (i + 1) = pcsT c d i ++ [x] := by
  unfold pcsT; rw [List.range_succ, List.filterMap_append]; simp [h]
theorem pcsT_none {c d : Str} {i : Nat} (h : pcT c d i = none) : pcsT c d (i + 1) = pcsT c d i := by
  unfold pcsT; rw [List.range_succ, List.filterMap_append]; simp [h]
theorem pcT_at {c d : Str} {j : Nat} {a b : UInt8} (ha : c[j]? = some a) (hb : d[j]? = some b) : pcT c d j = if a = 120 ∧ b ≠ 120 then some ((curL c d j).set j (97 - b)) else none := by
  unfold pcT; rw [ha, hb]
theorem curL_len {c d : Str} (hl : d.length = c.length) (i : Nat) : (curL c d i).length = c.length := by simp [curL]; omega
theorem curL_at {c d : Str} {i : Nat} {a : UInt8} (ha : c[i]? = some a) (hd : i < d.length) : (curL c d i)[i]? = some a := by
  have hi : i < c.length := (List.getElem?_eq_some_iff.1 ha).1
  have hl : (List.zipWith ov1 (c.take i) (d.take i)).length = i := by simp; omega
  unfold curL
  rw [List.getElem?_append_right (by omega), hl, Nat.sub_self, List.getElem?_drop]
  exact ha
theorem curL_succ {c d : Str} {i : Nat} {a b : UInt8} (ha : c[i]? = some a) (hb : d[i]? = some b) : curL c d (i + 1) = (curL c d i).set i (ov1 a b) := by
  have hi : i < c.length := (List.getElem?_eq_some_iff.1 ha).1
  have hi2 : i < d.length := (List.getElem?_eq_some_iff.1 hb).1
  have hl : (List.zipWith ov1 (c.take i) (d.take i)).length = i := by simp; omega
  unfold curL
  rw [List.set_append, if_neg (by omega), hl, Nat.sub_self, List.drop_eq_getElem_cons hi, List.set_cons_zero, take_snoc ha, take_snoc hb]
  rw [List.zipWith_append (by simp; omega)]
  simp
theorem curL_zero (c d : Str) : curL c d 0 = c := by simp [curL]
theorem set_self {l : Str} {i : Nat} {a : UInt8} (h : l[i]? = some a) : l.set i a = l := by
  have hi := (List.getElem?_eq_some_iff.1 h).1
  apply List.ext_getElem?
  intro k
  by_cases hk : k = i
  · subst hk; rw [List.getElem?_set_self hi, h]
  · rw [List.getElem?_set_ne (Ne.symm hk)]
theorem curL_same {c d : Str} {i : Nat} {a b : UInt8} (ha : c[i]? = some a) (hb : d[i]? = some b) (h : ¬ (a = 120 ∧ b ≠ 120)) : curL c d (i + 1) = curL c d i := by
  rw [curL_succ ha hb, show ov1 a b = a by
    unfold ov1
    split
    · rename_i he
      by_cases hb2 : b = 120
      · rw [hb2, he]
      · exact absurd ⟨he, hb2⟩ h
    · rfl]
  exact set_self (curL_at ha (List.getElem?_eq_some_iff.1 hb).1)
theorem ct_set {l : Str} {i : Nat} {b : UInt8} (h : CT l) (hb : b = 48 ∨ b = 49 ∨ b = 120) : CT (l.set i b) := by
  refine ⟨by rw [List.length_set]; exact h.len, fun x hx => ?_⟩
  rcases List.mem_or_eq_of_mem_set hx with hx | rfl
  · exact h.cub x hx
  · exact hb
theorem ov1_cub {a b : UInt8} (ha : a = 48 ∨ a = 49 ∨ a = 120) (hb : b = 48 ∨ b = 49 ∨ b = 120) : ov1 a b = 48 ∨ ov1 a b = 49 ∨ ov1 a b = 120 := by
  unfold ov1; split
  · exact hb
  · exact ha
theorem curL_ct {c d : Str} (hc : CT c) (hd : CT d) (hl : d.length = c.length) (i : Nat) : CT (curL c d i) := by
  induction i with
  | zero => rw [curL_zero]; exact hc
  | succ i ih =>
    by_cases hi : i < c.length
    · have ha := List.getElem?_eq_getElem hi
      have hb := List.getElem?_eq_getElem (show i < d.length by omega)
      rw [curL_succ ha hb]
      exact ct_set ih (ov1_cub (hc.cub _ (List.mem_of_getElem? ha)) (hd.cub _ (List.mem_of_getElem? hb)))
    · rw [show curL c d (i + 1) = curL c d i by
        unfold curL
        rw [List.take_of_length_le (show c.length ≤ i + 1 by omega), List.take_of_length_le (show d.length ≤ i + 1 by omega), List.take_of_length_le (show c.length ≤ i by omega), List.take_of_length_le (show d.length ≤ i by omega), List.drop_of_length_le (show c.length ≤ i + 1 by omega), List.drop_of_length_le (show c.length ≤ i by omega)]]
      exact ih
theorem opp_cub {b : UInt8} (hb : b = 48 ∨ b = 49 ∨ b = 120) (h : b ≠ 120) : 97 - b = 48 ∨ 97 - b = 49 ∨ 97 - b = 120 := by
  rcases hb with rfl | rfl | rfl
  · right; left; rfl
  · left; rfl
  · exact absurd rfl h
theorem pcsT_cn {c d : Str} (hc : CN c) (hd : CT d) (hl : d.length = c.length) (i : Nat) : ∀ x ∈ pcsT c d i, CN x ∧ x.length = c.length := by
  intro x hx
  obtain ⟨j, _, hj⟩ := List.mem_filterMap.1 hx
  unfold pcT at hj
  split at hj
  · rename_i a b ha hb
    split at hj
    · rename_i hab
      cases hj
      have h1 := curL_len hl j
      refine ⟨⟨ct_set (curL_ct hc.1 hd hl j) (opp_cub (hd.cub _ (List.mem_of_getElem? hb)) hab.2), fun e => hc.2 ?_⟩, by rw [List.length_set]; exact h1⟩
      have := congrArg List.length e
      rw [List.length_set, h1] at this
      exact List.eq_nil_of_length_eq_zero (by simpa using this)
    · cases hj
  · cases hj
theorem splitT_cn {c d : Str} (hc : CN c) (hd : CT d) : ∀ x ∈ splitT c d, CN x ∧ x.length = c.length := by
  intro x hx
  unfold splitT at hx
  split at hx
  · rename_i h
    obtain ⟨m, hm⟩ := Option.isSome_iff_exists.1 h
    rw [meetT_eq hc.2] at hm
    have := meetL_len hm
    exact pcsT_cn hc hd (by omega) _ x hx
  · simp at hx; subst hx; exact ⟨hc, rfl⟩
theorem pcsT_len (c d : Str) (i : Nat) : (pcsT c d i).length ≤ i := by
  have := List.length_filterMap_le (pcT c d) (List.range i)
  simpa [pcsT] using this
theorem splitT_len {c d : Str} (hc : c.length ≤ 256) : (splitT c d).length ≤ 256 := by
  unfold splitT
  split
  · exact Nat.le_trans (pcsT_len _ _ _) hc
  · simp
end Go.Proofs.YtaiondckookpiaaGreatDoor
namespace Go.Proofs.YtaiondckookpiaaGreatDoor
open Go Go.Vx
theorem car_set {l : Str} {i : Nat} {b : UInt8} (h : l[i]? = some 120) (hb : dig b = true) (j : Nat) : car (l.set i b) j = (car l j || decide (j = i)) := by
  have hi := (List.getElem?_eq_some_iff.1 h).1
  by_cases hj : j = i
  · subst hj
    have h2 : (l.set j b)[j]? = some b := List.getElem?_set_self hi
    rw [(at_b h2).1, hb]
    simp
  · have : (l.set i b)[j]? = l[j]? := List.getElem?_set_ne (Ne.symm hj)
    simp only [car, this, hj, decide_false, Bool.or_false]
theorem one_set {l : Str} {i : Nat} (h : l[i]? = some 120) (j : Nat) : one (l.set i 49) j = (one l j || decide (j = i)) := by
  have hi := (List.getElem?_eq_some_iff.1 h).1
  by_cases hj : j = i
  · subst hj
    have h2 : (l.set j 49)[j]? = some 49 := List.getElem?_set_self hi
    rw [(at_b h2).2]
    simp
  · have : (l.set i 49)[j]? = l[j]? := List.getElem?_set_ne (Ne.symm hj)
    simp only [one, this, hj, decide_false, Bool.or_false]
theorem one_set0 {l : Str} {i : Nat} (h : l[i]? = some 120) (j : Nat) : one (l.set i 48) j = one l j := by
  have hi := (List.getElem?_eq_some_iff.1 h).1
  by_cases hj : j = i
  · subst hj
    have h2 : (l.set j 48)[j]? = some 48 := List.getElem?_set_self hi
    rw [(at_b h2).2, (at_b h).2]
    rfl
  · have : (l.set i 48)[j]? = l[j]? := List.getElem?_set_ne (Ne.symm hj)
    simp only [one, this]
end Go.Proofs.YtaiondckookpiaaGreatDoor
