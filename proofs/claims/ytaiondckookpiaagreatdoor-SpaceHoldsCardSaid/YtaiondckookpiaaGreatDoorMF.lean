/- A term's and a space's form by the program; the document's cubes. -/
import Derived.Test.YtaiondckookpiaaGreatDoorME
import Derived.Test.YtaiondckookpiaaGreatDoorMD
import Derived.Test.YtaiondckookpiaaGreatDoorMC
set_option linter.unusedVariables false
set_option linter.unusedSimpArgs false
/- A term's form: newTerm. -/
namespace Go.Proofs.YtaiondckookpiaaGreatDoor
open Go Go.Vx
structure LR where
  l : List Str
  room : List (List D)
@[reducible] def lrow (x : LR) : List D := [.lst 46 (x.l.map crow) x.room]
def allL (lss : List LR) : List Str := (lss.map LR.l).flatten
theorem allL_take {lss : List LR} {i : Nat} {x : LR} (h : lss[i]? = some x) : allL (lss.take (i + 1)) = allL (lss.take i) ++ x.l := by
  unfold allL
  rw [take_snoc h]
  simp
theorem allL_le (lss : List LR) (i : Nat) : (allL (lss.take i)).length ≤ (allL lss).length := by
  unfold allL
  conv => rhs; rw [← List.take_append_drop i lss]
  rw [List.map_append, List.flatten_append, List.length_append]
  omega
theorem allL_le2 {lss : List LR} {i : Nat} {x : LR} (h : lss[i]? = some x) (j : Nat) : (allL (lss.take i) ++ x.l.take j).length ≤ (allL lss).length := by
  have h1 := allL_le lss (i + 1)
  rw [allL_take h] at h1
  simp at h1 ⊢
  omega
@[reducible] def trow2 (x : Str × Str) : List D := [.i .i64 (x.1.length : Int), .i .u64 ((wof (car x.1) 0).toNat : Int), .i .u64 ((wof (car x.1) 1).toNat : Int), .i .u64 ((wof (car x.1) 2).toNat : Int), .i .u64 ((wof (car x.1) 3).toNat : Int), .i .u64 ((wof (one x.1) 0).toNat : Int), .i .u64 ((wof (one x.1) 1).toNat : Int), .i .u64 ((wof (one x.1) 2).toNat : Int), .i .u64 ((wof (one x.1) 3).toNat : Int), .s x.2]
def dup (c : Str) : Str × Str := (c, c)
theorem take_all2 {α : Type} {l : List α} {n : Nat} (h : l.length = n) : l.take n = l := List.take_of_length_le (by omega)
theorem drop_all2 {α : Type} {l : List α} {n : Nat} (h : l.length = n) : l.drop n = [] := List.drop_of_length_le (by omega)
def kf (p : Str) (ks : List Str) (i : Nat) : Str := p ++ (ks.take i).flatten
theorem kf_zero (p : Str) (ks : List Str) : kf p ks 0 = p := by simp [kf]
theorem kf_step {p : Str} {ks : List Str} {i : Nat} {c : Str} (h : ks[i]? = some c) : kf p ks (i + 1) = kf p ks i ++ c := by
  unfold kf
  rw [take_snoc h]
  simp
theorem kf_len {p : Str} {ks : List Str} {i n : Nat} (hp : p.length ≤ 256) (h : ∀ c ∈ ks, c.length ≤ 256) (hi : i ≤ n) : (kf p ks i).length ≤ 256 + n * 256 := by
  have h1 := flat_len (l := ks.take i) (n := 256) fun x hx => h x (List.mem_of_mem_take hx)
  have h2 : (ks.take i).length * 256 ≤ n * 256 := Nat.mul_le_mul_right _ (by simp; omega)
  unfold kf
  rw [List.length_append]
  omega
theorem kf_key {p : Str} {ks : List Str} {n : Nat} (h : ks.length = n) : Term.key ⟨p, ks⟩ = kf p ks n := by
  unfold kf Term.key
  rw [← h, List.take_length]
theorem kf_ne {p : Str} {ks : List Str} {n : Nat} (h : p ≠ []) : kf p ks n ≠ [] := fun e => h (List.append_eq_nil_iff.1 e).1
theorem byteT : ByteT Tryz.prog 5 := by unfold ByteT; kernel_rfl
@[reducible] def tzero : List D := [.i .i64 0, .i .u64 0, .i .u64 0, .i .u64 0, .i .u64 0, .i .u64 0, .i .u64 0, .i .u64 0, .i .u64 0, .nilS, .s []]
def NewT (p : Str) (less : List Str) (d : D) (rows : Vx.Rows) : Prop :=
  rows = [] ∧ ((termT p less = none ∧ d = .tup [.agg (trow ⟨⟨[], []⟩, []⟩), .b False]) ∨ ∃ t rm, termT p less = some t ∧ d = .tup [.agg (trow ⟨t, rm⟩), .b True])
set_option maxRecDepth 100000 in
set_option maxHeartbeats 8000000 in
theorem newTerm_at (p : Str) (lss : List LR) {rl room : List (List D)} (hp : CN p) (hok : ∀ x ∈ lss, ∀ m ∈ x.l, CT m) (hn : (allL lss).length ≤ 100000) (h1 : lss.length ≤ 100000) (h : rl = lss.map lrow) :
    FSpec Tryz.prog T 72 [.agg (crow p), .lst 58 rl room] (NewT p (allL lss)) := by
  subst h
  have hll : (lss.map lrow).length = lss.length := by simp
  refine FSpec.of_ok tok Tryz.func72 rfl Tryz.call72 (by simp) ?_
  (try (conv => whnf)); repeat' (first | refine Ok.seq ?_ | (refine Ok.region tok ?_; conv => whnf) | (refine Ok.cond ?_; conv => whnf) | refine Ok.block ?_ | (refine Ok.skip ?_; conv => whnf) | (refine Ok.exit ?_; conv => whnf) | (refine Ok.ret ?_; conv => whnf) | (refine num_in (by omega) (by omega) ?_; conv => whnf) | (refine ix _ (by assumption) ?_; conv => whnf) | (refine ixI (by omega) (by assumption) ?_; conv => whnf) | (refine ix_new _ (by omega) fun _ _ => ?_; conv => whnf) | (refine ixI_new (by omega) (by omega) fun _ _ => ?_; conv => whnf) | (refine ⟨_, by assumption, ?_⟩; conv => whnf) | (refine Alt2.l (And.intro (by first | omega | (simp; done) | (simp; omega)) ?_); conv => whnf) | (refine Alt2.r (And.intro (by first | omega | (simp; done) | (simp; omega)) ?_); conv => whnf) | (refine Ok.scope ?_) | (refine Ok.label ?_; conv => whnf) | (refine rd rfl (by assumption) ?_; conv => whnf) | (refine ⟨_, .inl ⟨rfl, rfl⟩, ?_⟩; conv => whnf) | (refine ⟨_, _, rfl, rfl, ?_⟩; conv => whnf) | (refine ⟨fun _ => ?_, fun _ => ?_⟩ <;> (conv => whnf) <;> (try (exfalso; omega))) | (refine And.intro (by first | omega | rfl | (simp; done) | (simp; omega)) ?_; conv => whnf) | (refine num_any ?_; conv => whnf) | (refine ⟨_, rfl, ?_⟩; conv => whnf) | fail)
  refine Ok.ghost 6 46 rfl ?_
  (conv => whnf)
  refine Ok.loopU [2, 4, 21, 22] [6, 23] 1 2 (fun (i : Nat) => [.own 0 (metL p (allL (lss.take i))).length, .i .i64 (i : Nat)]) (fun _ b => b) (fun (i : Nat) (_ : Vx.Rows) => [some (46, (metL p (allL (lss.take i))).map crow)]) (fun (i : Nat) => i ≤ lss.length) (fun (i : Nat) => lss.length - i) (0) (Nat.zero_le _) ?_; (conv => whnf); refine ⟨by ((conv => whnf); first | rfl | (simp [envCat, List.take_of_length_le, cells9, crow, trow2, kf_zero]; done) | (simp [envCat, List.take_of_length_le, cells9, crow, trow2, kf_zero]; rw [IntKind.wrap_i64]; omega)), ?_⟩
  rintro i hi
  (conv => whnf)
  by_cases hil : i < lss.length
  · obtain ⟨x, hx⟩ : ∃ x, lss[i]? = some x := ⟨_, List.getElem?_eq_getElem hil⟩
    have hxo := hok x (List.mem_of_getElem? hx)
    have hxl : (x.l.map crow).length = x.l.length := by simp
    have hat := allL_take hx
    have hxl2 : x.l.length ≤ 100000 := by have := allL_le2 hx x.l.length; rw [List.take_length, List.length_append] at this; omega
    (try (conv => whnf)); repeat' (first | refine Ok.seq ?_ | (refine Ok.region tok ?_; conv => whnf) | (refine Ok.region_plan (id := 24) tok follows [(5, 6, []), (0, 9, []), (4, 9, []), (5, 9, [6]), (6, 9, []), (0, 12, []), (2, 12, []), (4, 12, []), (5, 12, []), (6, 12, []), (9, 12, [])] [.q 0, .q 1, .q 2, .q 3, .q 4, .q 5, .l 6, .q 7, .q 8, .l 9, .q 10, .q 11, .l 12] (by kernel_rfl) ?_; conv => whnf) | (refine Ok.region_plan (id := 35) tok follows [(0, 4, []), (2, 4, [])] [.q 0, .q 1, .l 2, .q 3, .l 4, .q 5] (by kernel_rfl) ?_; conv => whnf) | (refine Ok.region_draw tok follows (by kernel_rfl) ?_; conv => whnf) | (refine Ok.cond ?_; conv => whnf) | refine Ok.block ?_ | (refine Ok.skip ?_; conv => whnf) | (refine Ok.exit ?_; conv => whnf) | (refine Ok.ret ?_; conv => whnf) | (refine num_in (by omega) (by omega) ?_; conv => whnf) | (refine ix _ (by assumption) ?_; conv => whnf) | (refine ixI (by omega) (by assumption) ?_; conv => whnf) | (refine ix_new _ (by omega) fun _ _ => ?_; conv => whnf) | (refine ixI_new (by omega) (by omega) fun _ _ => ?_; conv => whnf) | (refine ⟨_, by assumption, ?_⟩; conv => whnf) | (refine Alt2.l (And.intro (by first | omega | (simp; done) | (simp; omega)) ?_); conv => whnf) | (refine Alt2.r (And.intro (by first | omega | (simp; done) | (simp; omega)) ?_); conv => whnf) | (refine Ok.scope ?_) | (refine Ok.label ?_; conv => whnf) | (refine rd rfl (by assumption) ?_; conv => whnf) | (refine ⟨_, .inl ⟨rfl, rfl⟩, ?_⟩; conv => whnf) | (refine ⟨_, _, rfl, rfl, ?_⟩; conv => whnf) | (refine ⟨fun _ => ?_, fun _ => ?_⟩ <;> (conv => whnf) <;> (try (exfalso; omega))) | (refine And.intro (by first | omega | rfl | (simp; done) | (simp; omega)) ?_; conv => whnf) | (refine num_any ?_; conv => whnf) | (refine ⟨_, rfl, ?_⟩; conv => whnf) | fail)
    refine Ok.loopU [2, 4, 21, 22, 23, 27, 28] [6, 29] 1 2 (fun (j : Nat) => [.own 0 (metL p (allL (lss.take i) ++ x.l.take j)).length, .i .i64 (j : Nat)]) (fun _ b => b) (fun (j : Nat) (_ : Vx.Rows) => [some (46, (metL p (allL (lss.take i) ++ x.l.take j)).map crow)]) (fun (j : Nat) => j ≤ x.l.length) (fun (j : Nat) => x.l.length - j) (0) (Nat.zero_le _) ?_; (conv => whnf); refine ⟨by ((conv => whnf); first | rfl | (simp [envCat, List.take_of_length_le, cells9, crow, trow2, kf_zero]; done) | (simp [envCat, List.take_of_length_le, cells9, crow, trow2, kf_zero]; rw [IntKind.wrap_i64]; omega)), ?_⟩
    rintro j hj
    have hle := allL_le2 hx j
    have hle2 := metL_le p (allL (lss.take i) ++ x.l.take j)
    generalize hM : metL p (allL (lss.take i) ++ x.l.take j) = M at *
    have hMl : (M.map crow).length = M.length := by simp
    (conv => whnf)
    by_cases hjl : j < x.l.length
    · obtain ⟨m, hm⟩ : ∃ m, x.l[j]? = some m := ⟨_, List.getElem?_eq_getElem hjl⟩
      have hmo := hxo m (List.mem_of_getElem? hm)
      have hsp := meet_at m p hmo hp.1
      have hnext : metL p (allL (lss.take i) ++ x.l.take (j + 1)) = M ++ metL p [m] := by rw [take_snoc hm, ← List.append_assoc, metL_app, hM]
      cases hmt : meetT m p with
      | none =>
        rw [hmt] at hsp
        (try (conv => whnf)); repeat' (first | refine Ok.seq ?_ | (refine Ok.region tok ?_; conv => whnf) | (refine Ok.region_plan (id := 24) tok follows [(5, 6, []), (0, 9, []), (4, 9, []), (5, 9, [6]), (6, 9, []), (0, 12, []), (2, 12, []), (4, 12, []), (5, 12, []), (6, 12, []), (9, 12, [])] [.q 0, .q 1, .q 2, .q 3, .q 4, .q 5, .l 6, .q 7, .q 8, .l 9, .q 10, .q 11, .l 12] (by kernel_rfl) ?_; conv => whnf) | (refine Ok.region_plan (id := 35) tok follows [(0, 4, []), (2, 4, [])] [.q 0, .q 1, .l 2, .q 3, .l 4, .q 5] (by kernel_rfl) ?_; conv => whnf) | (refine Ok.region_draw tok follows (by kernel_rfl) ?_; conv => whnf) | (refine Ok.cond ?_; conv => whnf) | refine Ok.block ?_ | (refine Ok.skip ?_; conv => whnf) | (refine Ok.exit ?_; conv => whnf) | (refine Ok.ret ?_; conv => whnf) | (refine num_in (by omega) (by omega) ?_; conv => whnf) | (refine ix _ (by assumption) ?_; conv => whnf) | (refine ixI (by omega) (by assumption) ?_; conv => whnf) | (refine ix_new _ (by omega) fun _ _ => ?_; conv => whnf) | (refine ixI_new (by omega) (by omega) fun _ _ => ?_; conv => whnf) | (refine ⟨_, by assumption, ?_⟩; conv => whnf) | (refine Or.inl ?_; (conv => whnf); (repeat (refine And.intro (by first | omega | (simp; done) | (simp; omega)) ?_; (conv => whnf))); refine ⟨_, hsp, rfl, ?_⟩; conv => whnf) | (refine ⟨_, hsp, rfl, ?_⟩; conv => whnf) | (refine Or.inr (Or.inl ?_); (conv => whnf); (repeat (refine And.intro (by first | omega | (simp; done) | (simp; omega)) ?_; (conv => whnf))); refine ⟨_, hsp, ?_⟩; rintro _ _ ⟨rfl, rfl⟩; conv => whnf) | (refine Alt2.l (And.intro (by first | omega | (simp; done) | (simp; omega)) ?_); conv => whnf) | (refine Alt2.r (And.intro (by first | omega | (simp; done) | (simp; omega)) ?_); conv => whnf) | (refine Ok.scope ?_) | (refine Ok.label ?_; conv => whnf) | (refine rd rfl (by assumption) ?_; conv => whnf) | (refine ⟨_, .inl ⟨rfl, rfl⟩, ?_⟩; conv => whnf) | (refine ⟨_, _, rfl, rfl, ?_⟩; conv => whnf) | (refine ⟨fun _ => ?_, fun _ => ?_⟩ <;> (conv => whnf) <;> (try (exfalso; omega))) | (refine And.intro (by first | omega | rfl | (simp; done) | (simp; omega)) ?_; conv => whnf) | (refine num_any ?_; conv => whnf) | (refine ⟨_, rfl, ?_⟩; conv => whnf) | fail)
        · rename_i h2
          exact absurd h2 (by simp)
        · refine ⟨j + 1, by omega, by omega, ?_⟩
          rw [hnext, metL_none hmt, List.append_nil]
          (conv => whnf)
          rfl
      | some c =>
        rw [hmt] at hsp
        (try (conv => whnf)); repeat' (first | refine Ok.seq ?_ | (refine Ok.region tok ?_; conv => whnf) | (refine Ok.region_plan (id := 24) tok follows [(5, 6, []), (0, 9, []), (4, 9, []), (5, 9, [6]), (6, 9, []), (0, 12, []), (2, 12, []), (4, 12, []), (5, 12, []), (6, 12, []), (9, 12, [])] [.q 0, .q 1, .q 2, .q 3, .q 4, .q 5, .l 6, .q 7, .q 8, .l 9, .q 10, .q 11, .l 12] (by kernel_rfl) ?_; conv => whnf) | (refine Ok.region_plan (id := 35) tok follows [(0, 4, []), (2, 4, [])] [.q 0, .q 1, .l 2, .q 3, .l 4, .q 5] (by kernel_rfl) ?_; conv => whnf) | (refine Ok.region_draw tok follows (by kernel_rfl) ?_; conv => whnf) | (refine Ok.cond ?_; conv => whnf) | refine Ok.block ?_ | (refine Ok.skip ?_; conv => whnf) | (refine Ok.exit ?_; conv => whnf) | (refine Ok.ret ?_; conv => whnf) | (refine num_in (by omega) (by omega) ?_; conv => whnf) | (refine ix _ (by assumption) ?_; conv => whnf) | (refine ixI (by omega) (by assumption) ?_; conv => whnf) | (refine ix_new _ (by omega) fun _ _ => ?_; conv => whnf) | (refine ixI_new (by omega) (by omega) fun _ _ => ?_; conv => whnf) | (refine ⟨_, by assumption, ?_⟩; conv => whnf) | (refine Or.inl ?_; (conv => whnf); (repeat (refine And.intro (by first | omega | (simp; done) | (simp; omega)) ?_; (conv => whnf))); refine ⟨_, hsp, rfl, ?_⟩; conv => whnf) | (refine ⟨_, hsp, rfl, ?_⟩; conv => whnf) | (refine Or.inr (Or.inl ?_); (conv => whnf); (repeat (refine And.intro (by first | omega | (simp; done) | (simp; omega)) ?_; (conv => whnf))); refine ⟨_, hsp, ?_⟩; rintro _ _ ⟨rfl, rfl⟩; conv => whnf) | (refine Alt2.l (And.intro (by first | omega | (simp; done) | (simp; omega)) ?_); conv => whnf) | (refine Alt2.r (And.intro (by first | omega | (simp; done) | (simp; omega)) ?_); conv => whnf) | (refine Ok.scope ?_) | (refine Ok.label ?_; conv => whnf) | (refine rd rfl (by assumption) ?_; conv => whnf) | (refine ⟨_, .inl ⟨rfl, rfl⟩, ?_⟩; conv => whnf) | (refine ⟨_, _, rfl, rfl, ?_⟩; conv => whnf) | (refine ⟨fun _ => ?_, fun _ => ?_⟩ <;> (conv => whnf) <;> (try (exfalso; omega))) | (refine And.intro (by first | omega | rfl | (simp; done) | (simp; omega)) ?_; conv => whnf) | (refine num_any ?_; conv => whnf) | (refine ⟨_, rfl, ?_⟩; conv => whnf) | fail)
        · refine ⟨j + 1, by omega, by omega, ?_⟩
          rw [hnext, metL_some hmt]
          (conv => whnf)
          simp [envCat]
        · rename_i h2
          exact absurd rfl h2
    · have hje : j = x.l.length := by omega
      subst hje
      (try (conv => whnf)); repeat' (first | refine Ok.seq ?_ | (refine Ok.region tok ?_; conv => whnf) | (refine Ok.region_plan (id := 24) tok follows [(5, 6, []), (0, 9, []), (4, 9, []), (5, 9, [6]), (6, 9, []), (0, 12, []), (2, 12, []), (4, 12, []), (5, 12, []), (6, 12, []), (9, 12, [])] [.q 0, .q 1, .q 2, .q 3, .q 4, .q 5, .l 6, .q 7, .q 8, .l 9, .q 10, .q 11, .l 12] (by kernel_rfl) ?_; conv => whnf) | (refine Ok.region_plan (id := 35) tok follows [(0, 4, []), (2, 4, [])] [.q 0, .q 1, .l 2, .q 3, .l 4, .q 5] (by kernel_rfl) ?_; conv => whnf) | (refine Ok.region_draw tok follows (by kernel_rfl) ?_; conv => whnf) | (refine Ok.cond ?_; conv => whnf) | refine Ok.block ?_ | (refine Ok.skip ?_; conv => whnf) | (refine Ok.exit ?_; conv => whnf) | (refine Ok.ret ?_; conv => whnf) | (refine num_in (by omega) (by omega) ?_; conv => whnf) | (refine ix _ (by assumption) ?_; conv => whnf) | (refine ixI (by omega) (by assumption) ?_; conv => whnf) | (refine ix_new _ (by omega) fun _ _ => ?_; conv => whnf) | (refine ixI_new (by omega) (by omega) fun _ _ => ?_; conv => whnf) | (refine ⟨_, by assumption, ?_⟩; conv => whnf) | (refine Alt2.l (And.intro (by first | omega | (simp; done) | (simp; omega)) ?_); conv => whnf) | (refine Alt2.r (And.intro (by first | omega | (simp; done) | (simp; omega)) ?_); conv => whnf) | (refine Ok.scope ?_) | (refine Ok.label ?_; conv => whnf) | (refine rd rfl (by assumption) ?_; conv => whnf) | (refine ⟨_, .inl ⟨rfl, rfl⟩, ?_⟩; conv => whnf) | (refine ⟨_, _, rfl, rfl, ?_⟩; conv => whnf) | (refine ⟨fun _ => ?_, fun _ => ?_⟩ <;> (conv => whnf) <;> (try (exfalso; omega))) | (refine And.intro (by first | omega | rfl | (simp; done) | (simp; omega)) ?_; conv => whnf) | (refine num_any ?_; conv => whnf) | (refine ⟨_, rfl, ?_⟩; conv => whnf) | fail)
      refine ⟨i + 1, by omega, by omega, ?_⟩
      rw [hat]
      rw [List.take_length] at hM
      rw [hM]
      (conv => whnf)
      rfl
  · have hie : i = lss.length := by omega
    subst hie
    rw [List.take_length]
    generalize hM : metL p (allL lss) = M
    have hML : M.length ≤ 100000 := by have := metL_le p (allL lss); rw [hM] at this; omega
    have hMl : (M.map crow).length = M.length := by simp
    have hMok : ∀ c ∈ M, CN c ∧ c.length = p.length := by
      intro c hc
      rw [← hM] at hc
      obtain ⟨m, hm1, hm2⟩ := List.mem_filterMap.1 hc
      have hmc : CT m := by
        unfold allL at hm1
        obtain ⟨y, hy1, hy2⟩ := List.mem_flatten.1 hm1
        obtain ⟨z, hz1, rfl⟩ := List.mem_map.1 hy1
        exact hok z hz1 m hy2
      have h3 := meetT_ct hm2 hmc hp.1
      have h4 := meetL_len ((meetT_eq h3.2.2).symm.trans hm2)
      exact ⟨⟨h3.1, fun e => hp.2 (by rw [e] at h4; exact List.eq_nil_of_length_eq_zero (by simpa using h4.2))⟩, h4.2.symm⟩
    (try (conv => whnf)); repeat' (first | refine Ok.seq ?_ | (refine Ok.region tok ?_; conv => whnf) | (refine Ok.region_plan (id := 24) tok follows [(5, 6, []), (0, 9, []), (4, 9, []), (5, 9, [6]), (6, 9, []), (0, 12, []), (2, 12, []), (4, 12, []), (5, 12, []), (6, 12, []), (9, 12, [])] [.q 0, .q 1, .q 2, .q 3, .q 4, .q 5, .l 6, .q 7, .q 8, .l 9, .q 10, .q 11, .l 12] (by kernel_rfl) ?_; conv => whnf) | (refine Ok.region_plan (id := 35) tok follows [(0, 4, []), (2, 4, [])] [.q 0, .q 1, .l 2, .q 3, .l 4, .q 5] (by kernel_rfl) ?_; conv => whnf) | (refine Ok.region_draw tok follows (by kernel_rfl) ?_; conv => whnf) | (refine Ok.cond ?_; conv => whnf) | refine Ok.block ?_ | (refine Ok.skip ?_; conv => whnf) | (refine Ok.exit ?_; conv => whnf) | (refine Ok.ret ?_; conv => whnf) | (refine num_in (by omega) (by omega) ?_; conv => whnf) | (refine ix _ (by assumption) ?_; conv => whnf) | (refine ixI (by omega) (by assumption) ?_; conv => whnf) | (refine ix_new _ (by omega) fun _ _ => ?_; conv => whnf) | (refine ixI_new (by omega) (by omega) fun _ _ => ?_; conv => whnf) | (refine ⟨_, by assumption, ?_⟩; conv => whnf) | (refine Or.inr (Or.inr (Or.inr (Or.inl ?_))); (conv => whnf); (repeat (refine And.intro (by first | omega | (simp; done) | (simp; omega)) ?_; (conv => whnf))); refine ⟨_, greatestC_at M (by omega) (fun c hc => (hMok c hc).1) (take_all crow M) , ?_⟩; rintro _ _ ⟨W, hW, rfl, rfl⟩ <;> (refine And.intro (by simp [gRowsP, grounds, D.ground, cells9, crow, trow2, kf_zero]) ?_; conv => whnf)) | (refine Or.inr (Or.inr (Or.inl ?_)); (conv => whnf); (repeat (refine And.intro (by first | omega | (simp; done) | (simp; omega)) ?_; (conv => whnf))); refine ⟨_, greatestC_at M (by omega) (fun c hc => (hMok c hc).1) (take_all crow M) , ?_⟩; rintro _ _ ⟨W, hW, rfl, rfl⟩ <;> (refine And.intro (by simp [gRowsP, grounds, D.ground, cells9, crow, trow2, kf_zero]) ?_; conv => whnf)) | (refine Alt2.l (And.intro (by first | omega | (simp; done) | (simp; omega)) ?_); conv => whnf) | (refine Alt2.r (And.intro (by first | omega | (simp; done) | (simp; omega)) ?_); conv => whnf) | (refine Ok.scope ?_) | (refine Ok.label ?_; conv => whnf) | (refine rd rfl (by assumption) ?_; conv => whnf) | (refine ⟨_, .inl ⟨rfl, rfl⟩, ?_⟩; conv => whnf) | (refine ⟨_, _, rfl, rfl, ?_⟩; conv => whnf) | (refine ⟨fun _ => ?_, fun _ => ?_⟩ <;> (conv => whnf) <;> (try (exfalso; omega))) | (refine And.intro (by first | omega | rfl | (simp; done) | (simp; omega)) ?_; conv => whnf) | (refine num_any ?_; conv => whnf) | (refine ⟨_, rfl, ?_⟩; conv => whnf) | fail)
    have hWk := hW.n
    have hWt := hW.tk
    have hWw := hW.w
    rw [List.take_length] at hWk hWt
    have hKM : ∀ c ∈ grG inL M, c ∈ M := grG_sub inL M
    have hvoid : p ∈ grG inL M → termT p (allL lss) = none := fun h => termT_void (by rw [hM]; exact h)
    have hsome : ∀ ks : List Str, p ∉ grG inL M → ks.Perm (grG inL M) → ks.Pairwise (fun t u => Op.bytesLess u t ≠ true) → termT p (allL lss) = some ⟨p, ks⟩ := fun ks h1 h2 h3 => termT_some (by rw [hM]; exact h1) (by rw [hM]; exact h2) h3
    generalize hK : grG inL M = K at *
    have hKok : ∀ c ∈ K, CN c ∧ c.length = p.length := fun c hc => hMok c (hKM c hc)
    have hKl : K.length ≤ 100000 := by omega
    have hWl : (W.map crow).length = W.length := by simp
    have hWg : ∀ i, i < K.length → W[i]? = K[i]? := fun i hi => by
      have := congrArg (fun z : List Str => z[i]?) hWt
      simp only [List.getElem?_take, if_pos hi] at this
      exact this
    refine Ok.loopU [2, 4, 6, 48, 49] [50] 2 2 (fun (i : Nat) => [.i .i64 (i : Nat)]) (fun _ b => b) (fun _ r => r) (fun (i : Nat) => i ≤ K.length ∧ ∀ m ∈ K.take i, m ≠ p) (fun (i : Nat) => K.length - i) (0) (⟨Nat.zero_le _, by simp⟩) ?_; (conv => whnf); refine ⟨by ((conv => whnf); first | rfl | (simp [envCat, List.take_of_length_le, cells9, crow, trow2, kf_zero]; done) | (simp [envCat, List.take_of_length_le, cells9, crow, trow2, kf_zero]; rw [IntKind.wrap_i64]; omega)), ?_⟩
    rintro i ⟨hi2, hne⟩
    (conv => whnf)
    by_cases hil2 : i < K.length
    · obtain ⟨c, hc⟩ : ∃ c, K[i]? = some c := ⟨_, List.getElem?_eq_getElem hil2⟩
      have hWi : W[((i : Nat) : Int).toNat]? = some c := by rw [toNat_cast, hWg i hil2, hc]
      have hcK := hKok c (List.mem_of_getElem? hc)
      (try (conv => whnf)); repeat' (first | refine Ok.seq ?_ | (refine Ok.region tok ?_; conv => whnf) | (refine Ok.region_plan (id := 24) tok follows [(5, 6, []), (0, 9, []), (4, 9, []), (5, 9, [6]), (6, 9, []), (0, 12, []), (2, 12, []), (4, 12, []), (5, 12, []), (6, 12, []), (9, 12, [])] [.q 0, .q 1, .q 2, .q 3, .q 4, .q 5, .l 6, .q 7, .q 8, .l 9, .q 10, .q 11, .l 12] (by kernel_rfl) ?_; conv => whnf) | (refine Ok.region_plan (id := 35) tok follows [(0, 4, []), (2, 4, [])] [.q 0, .q 1, .l 2, .q 3, .l 4, .q 5] (by kernel_rfl) ?_; conv => whnf) | (refine Ok.region_draw tok follows (by kernel_rfl) ?_; conv => whnf) | (refine Ok.cond ?_; conv => whnf) | refine Ok.block ?_ | (refine Ok.skip ?_; conv => whnf) | (refine Ok.exit ?_; conv => whnf) | (refine Ok.ret ?_; conv => whnf) | (refine num_in (by omega) (by omega) ?_; conv => whnf) | (refine ix _ (by assumption) ?_; conv => whnf) | (refine ixI (by omega) (by assumption) ?_; conv => whnf) | (refine ix_new _ (by omega) fun _ _ => ?_; conv => whnf) | (refine ixI_new (by omega) (by omega) fun _ _ => ?_; conv => whnf) | (refine ⟨_, by assumption, ?_⟩; conv => whnf) | (refine Alt2.l (And.intro (by first | omega | (simp; done) | (simp; omega)) ?_); conv => whnf) | (refine Alt2.r (And.intro (by first | omega | (simp; done) | (simp; omega)) ?_); conv => whnf) | (refine Ok.scope ?_) | (refine Ok.label ?_; conv => whnf) | (refine rd rfl (by assumption) ?_; conv => whnf) | (refine ⟨_, .inl ⟨rfl, rfl⟩, ?_⟩; conv => whnf) | (refine ⟨_, _, rfl, rfl, ?_⟩; conv => whnf) | (refine ⟨fun _ => ?_, fun _ => ?_⟩ <;> (conv => whnf) <;> (try (exfalso; omega))) | (refine And.intro (by first | omega | rfl | (simp; done) | (simp; omega)) ?_; conv => whnf) | (refine num_any ?_; conv => whnf) | (refine ⟨_, rfl, ?_⟩; conv => whnf) | fail)
      refine ⟨_, eqCube, by kernel_rfl, ?_⟩
      (conv => whnf)
      (try (conv => whnf)); repeat' (first | refine Ok.seq ?_ | (refine Ok.region tok ?_; conv => whnf) | (refine Ok.region_plan (id := 24) tok follows [(5, 6, []), (0, 9, []), (4, 9, []), (5, 9, [6]), (6, 9, []), (0, 12, []), (2, 12, []), (4, 12, []), (5, 12, []), (6, 12, []), (9, 12, [])] [.q 0, .q 1, .q 2, .q 3, .q 4, .q 5, .l 6, .q 7, .q 8, .l 9, .q 10, .q 11, .l 12] (by kernel_rfl) ?_; conv => whnf) | (refine Ok.region_plan (id := 35) tok follows [(0, 4, []), (2, 4, [])] [.q 0, .q 1, .l 2, .q 3, .l 4, .q 5] (by kernel_rfl) ?_; conv => whnf) | (refine Ok.region_draw tok follows (by kernel_rfl) ?_; conv => whnf) | (refine Ok.cond ?_; conv => whnf) | refine Ok.block ?_ | (refine Ok.skip ?_; conv => whnf) | (refine Ok.exit ?_; conv => whnf) | (refine Ok.ret ?_; conv => whnf) | (refine num_in (by omega) (by omega) ?_; conv => whnf) | (refine ix _ (by assumption) ?_; conv => whnf) | (refine ixI (by omega) (by assumption) ?_; conv => whnf) | (refine ix_new _ (by omega) fun _ _ => ?_; conv => whnf) | (refine ixI_new (by omega) (by omega) fun _ _ => ?_; conv => whnf) | (refine ⟨_, by assumption, ?_⟩; conv => whnf) | (refine Alt2.l (And.intro (by first | omega | (simp; done) | (simp; omega)) ?_); conv => whnf) | (refine Alt2.r (And.intro (by first | omega | (simp; done) | (simp; omega)) ?_); conv => whnf) | (refine Ok.scope ?_) | (refine Ok.label ?_; conv => whnf) | (refine rd rfl (by assumption) ?_; conv => whnf) | (refine ⟨_, .inl ⟨rfl, rfl⟩, ?_⟩; conv => whnf) | (refine ⟨_, _, rfl, rfl, ?_⟩; conv => whnf) | (refine ⟨fun _ => ?_, fun _ => ?_⟩ <;> (conv => whnf) <;> (try (exfalso; omega))) | (refine And.intro (by first | omega | rfl | (simp; done) | (simp; omega)) ?_; conv => whnf) | (refine num_any ?_; conv => whnf) | (refine ⟨_, rfl, ?_⟩; conv => whnf) | fail)
      · rename_i he
        refine Or.inl ?_; (conv => whnf)
        refine ⟨rfl, .inl ⟨hvoid ?_, ?_⟩⟩
        · rw [← crow_inj hcK.1.1 hp.1 he]
          exact List.mem_of_getElem? hc
        · simp [oneD, Term.key]
      · rename_i he
        refine ⟨i + 1, by omega, ⟨by omega, fun z hz => ?_⟩, ?_⟩
        · rw [take_snoc hc] at hz
          rcases List.mem_append.1 hz with hz | hz
          · exact hne z hz
          · simp at hz
            rw [hz]
            intro e
            rw [e] at he
            exact he (eqDs_self p)
        · (conv => whnf)
          rfl
    · have hie2 : i = K.length := by omega
      subst hie2
      rw [List.take_length] at hne
      have hpK : p ∉ K := fun h => hne p h rfl
      (try (conv => whnf)); repeat' (first | refine Ok.seq ?_ | (refine Ok.region tok ?_; conv => whnf) | (refine Ok.region_plan (id := 24) tok follows [(5, 6, []), (0, 9, []), (4, 9, []), (5, 9, [6]), (6, 9, []), (0, 12, []), (2, 12, []), (4, 12, []), (5, 12, []), (6, 12, []), (9, 12, [])] [.q 0, .q 1, .q 2, .q 3, .q 4, .q 5, .l 6, .q 7, .q 8, .l 9, .q 10, .q 11, .l 12] (by kernel_rfl) ?_; conv => whnf) | (refine Ok.region_plan (id := 35) tok follows [(0, 4, []), (2, 4, [])] [.q 0, .q 1, .l 2, .q 3, .l 4, .q 5] (by kernel_rfl) ?_; conv => whnf) | (refine Ok.region_draw tok follows (by kernel_rfl) ?_; conv => whnf) | (refine Ok.cond ?_; conv => whnf) | refine Ok.block ?_ | (refine Ok.skip ?_; conv => whnf) | (refine Ok.exit ?_; conv => whnf) | (refine Ok.ret ?_; conv => whnf) | (refine num_in (by omega) (by omega) ?_; conv => whnf) | (refine ix _ (by assumption) ?_; conv => whnf) | (refine ixI (by omega) (by assumption) ?_; conv => whnf) | (refine ix_new _ (by omega) fun _ _ => ?_; conv => whnf) | (refine ixI_new (by omega) (by omega) fun _ _ => ?_; conv => whnf) | (refine ⟨_, by assumption, ?_⟩; conv => whnf) | (refine Alt2.l (And.intro (by first | omega | (simp; done) | (simp; omega)) ?_); conv => whnf) | (refine Alt2.r (And.intro (by first | omega | (simp; done) | (simp; omega)) ?_); conv => whnf) | (refine Ok.scope ?_) | (refine Ok.label ?_; conv => whnf) | (refine rd rfl (by assumption) ?_; conv => whnf) | (refine ⟨_, .inl ⟨rfl, rfl⟩, ?_⟩; conv => whnf) | (refine ⟨_, _, rfl, rfl, ?_⟩; conv => whnf) | (refine ⟨fun _ => ?_, fun _ => ?_⟩ <;> (conv => whnf) <;> (try (exfalso; omega))) | (refine And.intro (by first | omega | rfl | (simp; done) | (simp; omega)) ?_; conv => whnf) | (refine num_any ?_; conv => whnf) | (refine ⟨_, rfl, ?_⟩; conv => whnf) | fail)
      refine Ok.loopU [2, 4, 6, 15, 62, 63] [64] 3 3 (fun (i : Nat) => [.i .i64 (i : Nat)]) (fun _ b => b) (fun (i : Nat) (_ : Vx.Rows) => [some (46, M.map crow), some (46, W.map crow), some (164, ((K.map dup).take i ++ List.replicate (K.length - i) ([], [])).map trow2)]) (fun (i : Nat) => i ≤ K.length) (fun (i : Nat) => K.length - i) (0) (Nat.zero_le _) ?_; (conv => whnf); refine ⟨by ((conv => whnf); first | rfl | (simp [envCat, List.take_of_length_le, cells9, crow, trow2, kf_zero]; done) | (simp [envCat, List.take_of_length_le, cells9, crow, trow2, kf_zero]; rw [IntKind.wrap_i64]; omega)), ?_⟩
      rintro i hi3
      have hdl : (K.map dup).length = K.length := by simp
      have hrl : ((K.map dup).take i ++ List.replicate (K.length - i) (([], []) : Str × Str)).length = K.length := by simp; omega
      have hrl2 : (((K.map dup).take i ++ List.replicate (K.length - i) (([], []) : Str × Str)).map trow2).length = K.length := by rw [List.length_map, hrl]
      (conv => whnf)
      by_cases hil3 : i < K.length
      · obtain ⟨c, hc⟩ : ∃ c, K[i]? = some c := ⟨_, List.getElem?_eq_getElem hil3⟩
        have hWi : W[((i : Nat) : Int).toNat]? = some c := by rw [toNat_cast, hWg i hil3, hc]
        have hcK := hKok c (List.mem_of_getElem? hc)
        have hdi : (K.map dup)[i]? = some (dup c) := by simp [hc]
        have hz := room_at2 (ks := K.map dup) (i := i) (([], []) : Str × Str) hdl (by omega)
        have hst := room_set2 (z := (([], []) : Str × Str)) hdl hdi
        generalize hL : (K.map dup).take i ++ List.replicate (K.length - i) (([], []) : Str × Str) = L at *
        have hL2 : ∀ y : Str × Str, (L.set i y)[i]? = some y := fun y => List.getElem?_set_self (by omega)
        have hL3 : ∀ y : Str × Str, ((L.set i y).map trow2).length = K.length := fun y => by simp [hrl]
        (try (conv => whnf)); repeat' (first | refine Ok.seq ?_ | (refine Ok.region tok ?_; conv => whnf) | (refine Ok.region_plan (id := 24) tok follows [(5, 6, []), (0, 9, []), (4, 9, []), (5, 9, [6]), (6, 9, []), (0, 12, []), (2, 12, []), (4, 12, []), (5, 12, []), (6, 12, []), (9, 12, [])] [.q 0, .q 1, .q 2, .q 3, .q 4, .q 5, .l 6, .q 7, .q 8, .l 9, .q 10, .q 11, .l 12] (by kernel_rfl) ?_; conv => whnf) | (refine Ok.region_plan (id := 35) tok follows [(0, 4, []), (2, 4, [])] [.q 0, .q 1, .l 2, .q 3, .l 4, .q 5] (by kernel_rfl) ?_; conv => whnf) | (refine Ok.region_draw tok follows (by kernel_rfl) ?_; conv => whnf) | (refine Ok.cond ?_; conv => whnf) | refine Ok.block ?_ | (refine Ok.skip ?_; conv => whnf) | (refine Ok.exit ?_; conv => whnf) | (refine Ok.ret ?_; conv => whnf) | (refine num_in (by omega) (by omega) ?_; conv => whnf) | (refine ix _ (by assumption) ?_; conv => whnf) | (refine ixI (by omega) (by assumption) ?_; conv => whnf) | (refine ix_new _ (by omega) fun _ _ => ?_; conv => whnf) | (refine ixI_new (by omega) (by omega) fun _ _ => ?_; conv => whnf) | (refine ⟨_, by assumption, ?_⟩; conv => whnf) | (refine Or.inl ?_; (conv => whnf); (repeat (refine And.intro (by first | omega | (simp; done) | (simp; omega)) ?_; (conv => whnf))); refine ⟨_, text_at c hcK.1.1, rfl, ?_⟩; conv => whnf) | (refine ⟨_, text_at c hcK.1.1, rfl, ?_⟩; conv => whnf) | (refine Or.inr (Or.inl ?_); (conv => whnf); (repeat (refine And.intro (by first | omega | (simp; done) | (simp; omega)) ?_; (conv => whnf))); refine ⟨_, text_at c hcK.1.1, ?_⟩; rintro _ _ ⟨rfl, rfl⟩; conv => whnf) | (refine Alt2.l (And.intro (by first | omega | (simp; done) | (simp; omega)) ?_); conv => whnf) | (refine Alt2.r (And.intro (by first | omega | (simp; done) | (simp; omega)) ?_); conv => whnf) | (refine Ok.scope ?_) | (refine Ok.label ?_; conv => whnf) | (refine rd rfl (by assumption) ?_; conv => whnf) | (refine ⟨_, .inl ⟨rfl, rfl⟩, ?_⟩; conv => whnf) | (refine ⟨_, _, rfl, rfl, ?_⟩; conv => whnf) | (refine ⟨fun _ => ?_, fun _ => ?_⟩ <;> (conv => whnf) <;> (try (exfalso; omega))) | (refine And.intro (by first | omega | rfl | (simp; done) | (simp; omega)) ?_; conv => whnf) | (refine num_any ?_; conv => whnf) | (refine ⟨_, rfl, ?_⟩; conv => whnf) | fail)
        refine st (c, []) hz (by simp) (by simp [setCells]) ?_
        rw [toNat_cast]
        (try (conv => whnf)); repeat' (first | refine Ok.seq ?_ | (refine Ok.region tok ?_; conv => whnf) | (refine Ok.region_plan (id := 24) tok follows [(5, 6, []), (0, 9, []), (4, 9, []), (5, 9, [6]), (6, 9, []), (0, 12, []), (2, 12, []), (4, 12, []), (5, 12, []), (6, 12, []), (9, 12, [])] [.q 0, .q 1, .q 2, .q 3, .q 4, .q 5, .l 6, .q 7, .q 8, .l 9, .q 10, .q 11, .l 12] (by kernel_rfl) ?_; conv => whnf) | (refine Ok.region_plan (id := 35) tok follows [(0, 4, []), (2, 4, [])] [.q 0, .q 1, .l 2, .q 3, .l 4, .q 5] (by kernel_rfl) ?_; conv => whnf) | (refine Ok.region_draw tok follows (by kernel_rfl) ?_; conv => whnf) | (refine Ok.cond ?_; conv => whnf) | refine Ok.block ?_ | (refine Ok.skip ?_; conv => whnf) | (refine Ok.exit ?_; conv => whnf) | (refine Ok.ret ?_; conv => whnf) | (refine num_in (by omega) (by omega) ?_; conv => whnf) | (refine ix _ (by assumption) ?_; conv => whnf) | (refine ixI (by omega) (by assumption) ?_; conv => whnf) | (refine ix_new _ (by omega) fun _ _ => ?_; conv => whnf) | (refine ixI_new (by omega) (by omega) fun _ _ => ?_; conv => whnf) | (refine ⟨_, by assumption, ?_⟩; conv => whnf) | (refine Or.inl ?_; (conv => whnf); (repeat (refine And.intro (by first | omega | (simp; done) | (simp; omega)) ?_; (conv => whnf))); refine ⟨_, text_at c hcK.1.1, rfl, ?_⟩; conv => whnf) | (refine ⟨_, text_at c hcK.1.1, rfl, ?_⟩; conv => whnf) | (refine Or.inr (Or.inl ?_); (conv => whnf); (repeat (refine And.intro (by first | omega | (simp; done) | (simp; omega)) ?_; (conv => whnf))); refine ⟨_, text_at c hcK.1.1, ?_⟩; rintro _ _ ⟨rfl, rfl⟩; conv => whnf) | (refine Alt2.l (And.intro (by first | omega | (simp; done) | (simp; omega)) ?_); conv => whnf) | (refine Alt2.r (And.intro (by first | omega | (simp; done) | (simp; omega)) ?_); conv => whnf) | (refine Ok.scope ?_) | (refine Ok.label ?_; conv => whnf) | (refine rd rfl (by assumption) ?_; conv => whnf) | (refine ⟨_, .inl ⟨rfl, rfl⟩, ?_⟩; conv => whnf) | (refine ⟨_, _, rfl, rfl, ?_⟩; conv => whnf) | (refine ⟨fun _ => ?_, fun _ => ?_⟩ <;> (conv => whnf) <;> (try (exfalso; omega))) | (refine And.intro (by first | omega | rfl | (simp; done) | (simp; omega)) ?_; conv => whnf) | (refine num_any ?_; conv => whnf) | (refine ⟨_, rfl, ?_⟩; conv => whnf) | fail)
        refine st (c, c) (hL2 (c, [])) (by simp) (by simp [setCells]) ?_
        rw [toNat_cast, set_set_same, show ((c, c) : Str × Str) = dup c from rfl, hst]
        (try (conv => whnf)); repeat' (first | refine Ok.seq ?_ | (refine Ok.region tok ?_; conv => whnf) | (refine Ok.region_plan (id := 24) tok follows [(5, 6, []), (0, 9, []), (4, 9, []), (5, 9, [6]), (6, 9, []), (0, 12, []), (2, 12, []), (4, 12, []), (5, 12, []), (6, 12, []), (9, 12, [])] [.q 0, .q 1, .q 2, .q 3, .q 4, .q 5, .l 6, .q 7, .q 8, .l 9, .q 10, .q 11, .l 12] (by kernel_rfl) ?_; conv => whnf) | (refine Ok.region_plan (id := 35) tok follows [(0, 4, []), (2, 4, [])] [.q 0, .q 1, .l 2, .q 3, .l 4, .q 5] (by kernel_rfl) ?_; conv => whnf) | (refine Ok.region_draw tok follows (by kernel_rfl) ?_; conv => whnf) | (refine Ok.cond ?_; conv => whnf) | refine Ok.block ?_ | (refine Ok.skip ?_; conv => whnf) | (refine Ok.exit ?_; conv => whnf) | (refine Ok.ret ?_; conv => whnf) | (refine num_in (by omega) (by omega) ?_; conv => whnf) | (refine ix _ (by assumption) ?_; conv => whnf) | (refine ixI (by omega) (by assumption) ?_; conv => whnf) | (refine ix_new _ (by omega) fun _ _ => ?_; conv => whnf) | (refine ixI_new (by omega) (by omega) fun _ _ => ?_; conv => whnf) | (refine ⟨_, by assumption, ?_⟩; conv => whnf) | (refine Alt2.l (And.intro (by first | omega | (simp; done) | (simp; omega)) ?_); conv => whnf) | (refine Alt2.r (And.intro (by first | omega | (simp; done) | (simp; omega)) ?_); conv => whnf) | (refine Ok.scope ?_) | (refine Ok.label ?_; conv => whnf) | (refine rd rfl (by assumption) ?_; conv => whnf) | (refine ⟨_, .inl ⟨rfl, rfl⟩, ?_⟩; conv => whnf) | (refine ⟨_, _, rfl, rfl, ?_⟩; conv => whnf) | (refine ⟨fun _ => ?_, fun _ => ?_⟩ <;> (conv => whnf) <;> (try (exfalso; omega))) | (refine And.intro (by first | omega | rfl | (simp; done) | (simp; omega)) ?_; conv => whnf) | (refine num_any ?_; conv => whnf) | (refine ⟨_, rfl, ?_⟩; conv => whnf) | fail)
        refine ⟨i + 1, by omega, by omega, ?_⟩
        (conv => whnf)
        rfl
      · have hie3 : i = K.length := by omega
        subst hie3
        rw [Nat.sub_self, List.replicate_zero, List.append_nil, List.take_of_length_le (by simp)]
        have hkeys : ∀ x ∈ ((K.map dup).map trow2).take K.length, ∃ l, x[9]? = some (.s l) := by
          intro x hx
          obtain ⟨y, _, rfl⟩ := List.mem_map.1 (List.mem_of_mem_take hx)
          exact ⟨y.2, rfl⟩
        have hdl2 : K.length ≤ ((K.map dup).map trow2).length := by simp
        (try (conv => whnf)); repeat' (first | (refine Ok.sortSlice tok sort_told (by (conv => whnf); exact ⟨rfl, rfl⟩) rfl rfl rfl hdl2 rfl (by decide) (by decide) hkeys (by omega) ?_) | refine Ok.seq ?_ | (refine Ok.region tok ?_; conv => whnf) | (refine Ok.region_plan (id := 24) tok follows [(5, 6, []), (0, 9, []), (4, 9, []), (5, 9, [6]), (6, 9, []), (0, 12, []), (2, 12, []), (4, 12, []), (5, 12, []), (6, 12, []), (9, 12, [])] [.q 0, .q 1, .q 2, .q 3, .q 4, .q 5, .l 6, .q 7, .q 8, .l 9, .q 10, .q 11, .l 12] (by kernel_rfl) ?_; conv => whnf) | (refine Ok.region_plan (id := 35) tok follows [(0, 4, []), (2, 4, [])] [.q 0, .q 1, .l 2, .q 3, .l 4, .q 5] (by kernel_rfl) ?_; conv => whnf) | (refine Ok.region_draw tok follows (by kernel_rfl) ?_; conv => whnf) | (refine Ok.cond ?_; conv => whnf) | refine Ok.block ?_ | (refine Ok.skip ?_; conv => whnf) | (refine Ok.exit ?_; conv => whnf) | (refine Ok.ret ?_; conv => whnf) | (refine num_in (by omega) (by omega) ?_; conv => whnf) | (refine ix _ (by assumption) ?_; conv => whnf) | (refine ixI (by omega) (by assumption) ?_; conv => whnf) | (refine ix_new _ (by omega) fun _ _ => ?_; conv => whnf) | (refine ixI_new (by omega) (by omega) fun _ _ => ?_; conv => whnf) | (refine ⟨_, by assumption, ?_⟩; conv => whnf) | (refine Alt2.l (And.intro (by first | omega | (simp; done) | (simp; omega)) ?_); conv => whnf) | (refine Alt2.r (And.intro (by first | omega | (simp; done) | (simp; omega)) ?_); conv => whnf) | (refine Ok.scope ?_) | (refine Ok.label ?_; conv => whnf) | (refine rd rfl (by assumption) ?_; conv => whnf) | (refine ⟨_, .inl ⟨rfl, rfl⟩, ?_⟩; conv => whnf) | (refine ⟨_, _, rfl, rfl, ?_⟩; conv => whnf) | (refine ⟨fun _ => ?_, fun _ => ?_⟩ <;> (conv => whnf) <;> (try (exfalso; omega))) | (refine And.intro (by first | omega | rfl | (simp; done) | (simp; omega)) ?_; conv => whnf) | (refine num_any ?_; conv => whnf) | (refine ⟨_, rfl, ?_⟩; conv => whnf) | fail)
        intro ys hperm hup
        rw [take_all2 (by simp : ((K.map dup).map trow2).length = K.length)] at hperm
        rw [drop_all2 (by simp : ((K.map dup).map trow2).length = K.length), List.append_nil]
        obtain ⟨zs, hz1, rfl⟩ := perm_map_ex hperm _ rfl
        obtain ⟨ks, hks, rfl⟩ := perm_map_ex hz1 _ rfl
        have hsort : ks.Pairwise fun t u => Op.bytesLess u t ≠ true := by
          unfold RowsUp at hup
          rw [List.pairwise_map, List.pairwise_map] at hup
          refine hup.imp fun {a b} h => ?_
          have h2 := h a b rfl rfl
          rw [h2]
          decide
        have hterm := hsome ks hpK hks hsort
        have hkl : ks.length = K.length := hks.length_eq
        have hkok : ∀ c ∈ ks, CN c ∧ c.length = p.length := fun c hc => hKok c (hks.mem_iff.1 hc)
        clear hup hperm hz1 hsort hsome hvoid hkeys
        have hpl := hp.1.len
        (conv => whnf)
        refine Ok.seq ?_
        (refine Ok.region tok ?_; conv => whnf)
        refine Ok.ghostB 3 1 5 rfl rfl ?_
        (conv => whnf)
        (try (conv => whnf)); repeat' (first | refine Ok.seq ?_ | (refine Ok.region tok ?_; conv => whnf) | (refine Ok.region_plan (id := 24) tok follows [(5, 6, []), (0, 9, []), (4, 9, []), (5, 9, [6]), (6, 9, []), (0, 12, []), (2, 12, []), (4, 12, []), (5, 12, []), (6, 12, []), (9, 12, [])] [.q 0, .q 1, .q 2, .q 3, .q 4, .q 5, .l 6, .q 7, .q 8, .l 9, .q 10, .q 11, .l 12] (by kernel_rfl) ?_; conv => whnf) | (refine Ok.region_plan (id := 35) tok follows [(0, 4, []), (2, 4, [])] [.q 0, .q 1, .l 2, .q 3, .l 4, .q 5] (by kernel_rfl) ?_; conv => whnf) | (refine Ok.region_draw tok follows (by kernel_rfl) ?_; conv => whnf) | (refine Ok.cond ?_; conv => whnf) | refine Ok.block ?_ | (refine Ok.skip ?_; conv => whnf) | (refine Ok.exit ?_; conv => whnf) | (refine Ok.ret ?_; conv => whnf) | (refine num_in (by omega) (by omega) ?_; conv => whnf) | (refine ix _ (by assumption) ?_; conv => whnf) | (refine ixI (by omega) (by assumption) ?_; conv => whnf) | (refine ix_new _ (by omega) fun _ _ => ?_; conv => whnf) | (refine ixI_new (by omega) (by omega) fun _ _ => ?_; conv => whnf) | (refine ⟨_, by assumption, ?_⟩; conv => whnf) | (refine Or.inl ?_; (conv => whnf); (repeat (refine And.intro (by first | omega | (simp; done) | (simp; omega)) ?_; (conv => whnf))); refine ⟨_, text_at p hp.1, rfl, ?_⟩; conv => whnf) | (refine ⟨_, text_at p hp.1, rfl, ?_⟩; conv => whnf) | (refine Or.inr (Or.inl ?_); (conv => whnf); (repeat (refine And.intro (by first | omega | (simp; done) | (simp; omega)) ?_; (conv => whnf))); refine ⟨_, text_at p hp.1, ?_⟩; rintro _ _ ⟨rfl, rfl⟩; conv => whnf) | (refine Alt2.l (And.intro (by first | omega | (simp; done) | (simp; omega)) ?_); conv => whnf) | (refine Alt2.r (And.intro (by first | omega | (simp; done) | (simp; omega)) ?_); conv => whnf) | (refine Ok.scope ?_) | (refine Ok.label ?_; conv => whnf) | (refine rd rfl (by assumption) ?_; conv => whnf) | (refine ⟨_, .inl ⟨rfl, rfl⟩, ?_⟩; conv => whnf) | (refine ⟨_, _, rfl, rfl, ?_⟩; conv => whnf) | (refine ⟨fun _ => ?_, fun _ => ?_⟩ <;> (conv => whnf) <;> (try (exfalso; omega))) | (refine And.intro (by first | omega | rfl | (simp; done) | (simp; omega)) ?_; conv => whnf) | (refine num_any ?_; conv => whnf) | (refine ⟨_, rfl, ?_⟩; conv => whnf) | fail)
        refine Or.inr (Or.inr (Or.inl ?_)); (conv => whnf); refine ⟨_, _, Tryz.func110, rfl, Tryz.call110, ?_⟩; (conv => whnf)
        (try (conv => whnf)); repeat' (first | refine Ok.seq ?_ | (refine Ok.region tok ?_; conv => whnf) | (refine Ok.region_plan (id := 24) tok follows [(5, 6, []), (0, 9, []), (4, 9, []), (5, 9, [6]), (6, 9, []), (0, 12, []), (2, 12, []), (4, 12, []), (5, 12, []), (6, 12, []), (9, 12, [])] [.q 0, .q 1, .q 2, .q 3, .q 4, .q 5, .l 6, .q 7, .q 8, .l 9, .q 10, .q 11, .l 12] (by kernel_rfl) ?_; conv => whnf) | (refine Ok.region_plan (id := 35) tok follows [(0, 4, []), (2, 4, [])] [.q 0, .q 1, .l 2, .q 3, .l 4, .q 5] (by kernel_rfl) ?_; conv => whnf) | (refine Ok.region_draw tok follows (by kernel_rfl) ?_; conv => whnf) | (refine Ok.cond ?_; conv => whnf) | refine Ok.block ?_ | (refine Ok.skip ?_; conv => whnf) | (refine Ok.exit ?_; conv => whnf) | (refine Ok.ret ?_; conv => whnf) | (refine num_in (by omega) (by omega) ?_; conv => whnf) | (refine ix _ (by assumption) ?_; conv => whnf) | (refine ixI (by omega) (by assumption) ?_; conv => whnf) | (refine ix_new _ (by omega) fun _ _ => ?_; conv => whnf) | (refine ixI_new (by omega) (by omega) fun _ _ => ?_; conv => whnf) | (refine ⟨_, by assumption, ?_⟩; conv => whnf) | (refine Alt2.l (And.intro (by first | omega | (simp; done) | (simp; omega)) ?_); conv => whnf) | (refine Alt2.r (And.intro (by first | omega | (simp; done) | (simp; omega)) ?_); conv => whnf) | (refine Ok.scope ?_) | (refine Ok.label ?_; conv => whnf) | (refine rd rfl (by assumption) ?_; conv => whnf) | (refine ⟨_, .inl ⟨rfl, rfl⟩, ?_⟩; conv => whnf) | (refine ⟨_, _, rfl, rfl, ?_⟩; conv => whnf) | (refine ⟨fun _ => ?_, fun _ => ?_⟩ <;> (conv => whnf) <;> (try (exfalso; omega))) | (refine And.intro (by first | omega | rfl | (simp; done) | (simp; omega)) ?_; conv => whnf) | (refine num_any ?_; conv => whnf) | (refine ⟨_, rfl, ?_⟩; conv => whnf) | fail)
        refine Or.inr (Or.inr (Or.inr (Or.inr ?_)))
        (conv => whnf)
        refine effW_fresh copyAt rfl ?_
        (conv => whnf)
        (try (conv => whnf)); repeat' (first | ((refine And.intro byteT ?_); (conv => whnf)) | refine Ok.seq ?_ | (refine Ok.region tok ?_; conv => whnf) | (refine Ok.region_plan (id := 24) tok follows [(5, 6, []), (0, 9, []), (4, 9, []), (5, 9, [6]), (6, 9, []), (0, 12, []), (2, 12, []), (4, 12, []), (5, 12, []), (6, 12, []), (9, 12, [])] [.q 0, .q 1, .q 2, .q 3, .q 4, .q 5, .l 6, .q 7, .q 8, .l 9, .q 10, .q 11, .l 12] (by kernel_rfl) ?_; conv => whnf) | (refine Ok.region_plan (id := 35) tok follows [(0, 4, []), (2, 4, [])] [.q 0, .q 1, .l 2, .q 3, .l 4, .q 5] (by kernel_rfl) ?_; conv => whnf) | (refine Ok.region_draw tok follows (by kernel_rfl) ?_; conv => whnf) | (refine Ok.cond ?_; conv => whnf) | refine Ok.block ?_ | (refine Ok.skip ?_; conv => whnf) | (refine Ok.exit ?_; conv => whnf) | (refine Ok.ret ?_; conv => whnf) | (refine num_in (by omega) (by omega) ?_; conv => whnf) | (refine ix _ (by assumption) ?_; conv => whnf) | (refine ixI (by omega) (by assumption) ?_; conv => whnf) | (refine ix_new _ (by omega) fun _ _ => ?_; conv => whnf) | (refine ixI_new (by omega) (by omega) fun _ _ => ?_; conv => whnf) | (refine ⟨_, by assumption, ?_⟩; conv => whnf) | (refine Alt2.l (And.intro (by first | omega | (simp; done) | (simp; omega)) ?_); conv => whnf) | (refine Alt2.r (And.intro (by first | omega | (simp; done) | (simp; omega)) ?_); conv => whnf) | (refine Ok.scope ?_) | (refine Ok.label ?_; conv => whnf) | (refine rd rfl (by assumption) ?_; conv => whnf) | (refine ⟨_, .inl ⟨rfl, rfl⟩, ?_⟩; conv => whnf) | (refine ⟨_, _, rfl, rfl, ?_⟩; conv => whnf) | (refine ⟨fun _ => ?_, fun _ => ?_⟩ <;> (conv => whnf) <;> (try (exfalso; omega))) | (refine And.intro (by first | omega | rfl | (simp; done) | (simp; omega)) ?_; conv => whnf) | (refine num_any ?_; conv => whnf) | (refine ⟨_, rfl, ?_⟩; conv => whnf) | fail)
        refine Ok.loopU [2, 4, 6, 18, 88, 89] [90] 4 4 (fun (i : Nat) => [.i .i64 (i : Nat)]) (fun (i : Nat) (_ : List (List D)) => [crow p, tzero, [.own 2 K.length], [.bp 3 0, .own 3 (kf p ks i).length]]) (fun (i : Nat) (_ : Vx.Rows) => [some (46, M.map crow), some (46, (ks.take i ++ W.drop i).map crow), some (164, (ks.map dup).map trow2), some (5, (kf p ks i).map bcell)]) (fun (i : Nat) => i ≤ K.length) (fun (i : Nat) => K.length - i) (0) (Nat.zero_le _) ?_; (conv => whnf); refine ⟨by ((conv => whnf); first | rfl | (simp [envCat, List.take_of_length_le, cells9, crow, trow2, kf_zero]; done) | (simp [envCat, List.take_of_length_le, cells9, crow, trow2, kf_zero]; rw [IntKind.wrap_i64]; omega)), ?_⟩
        rintro i hi4
        have hfl : (kf p ks i).length ≤ 256 + 100000 * 256 := kf_len hpl (fun c hc => (hkok c hc).1.1.len) (by omega)
        have hbl : ((kf p ks i).map bcell).length = (kf p ks i).length := List.length_map _
        have htl : ((ks.map dup).map trow2).length = K.length := by simp [hkl]
        have hml : ((ks.take i ++ W.drop i).map crow).length = W.length := by simp; omega
        have hml2 : ∀ y, (((ks.take i ++ W.drop i).set i y).map crow).length = W.length := fun y => by simp; omega
        (conv => whnf)
        by_cases hil4 : i < K.length
        · obtain ⟨c, hc⟩ : ∃ c, ks[i]? = some c := ⟨_, List.getElem?_eq_getElem (by omega)⟩
          have hco := hkok c (List.mem_of_getElem? hc)
          have hcl := hco.1.1.len
          have hdi : (ks.map dup)[((i : Nat) : Int).toNat]? = some (dup c) := by simp [hc]
          obtain ⟨y, hy⟩ := over_at (ks := ks) (W := W) (i := i) (by omega) (by omega)
          have hst := over_set (W := W) hc (by omega)
          have hnx := kf_step (p := p) hc
          (try (conv => whnf)); repeat' (first | refine Ok.seq ?_ | (refine Ok.region tok ?_; conv => whnf) | (refine Ok.region_plan (id := 24) tok follows [(5, 6, []), (0, 9, []), (4, 9, []), (5, 9, [6]), (6, 9, []), (0, 12, []), (2, 12, []), (4, 12, []), (5, 12, []), (6, 12, []), (9, 12, [])] [.q 0, .q 1, .q 2, .q 3, .q 4, .q 5, .l 6, .q 7, .q 8, .l 9, .q 10, .q 11, .l 12] (by kernel_rfl) ?_; conv => whnf) | (refine Ok.region_plan (id := 35) tok follows [(0, 4, []), (2, 4, [])] [.q 0, .q 1, .l 2, .q 3, .l 4, .q 5] (by kernel_rfl) ?_; conv => whnf) | (refine Ok.region_draw tok follows (by kernel_rfl) ?_; conv => whnf) | (refine Ok.cond ?_; conv => whnf) | refine Ok.block ?_ | (refine Ok.skip ?_; conv => whnf) | (refine Ok.exit ?_; conv => whnf) | (refine Ok.ret ?_; conv => whnf) | (refine num_in (by omega) (by omega) ?_; conv => whnf) | (refine ix _ (by assumption) ?_; conv => whnf) | (refine ixI (by omega) (by assumption) ?_; conv => whnf) | (refine ix_new _ (by omega) fun _ _ => ?_; conv => whnf) | (refine ixI_new (by omega) (by omega) fun _ _ => ?_; conv => whnf) | (refine ⟨_, by assumption, ?_⟩; conv => whnf) | (refine Alt2.l (And.intro (by first | omega | (simp; done) | (simp; omega)) ?_); conv => whnf) | (refine Alt2.r (And.intro (by first | omega | (simp; done) | (simp; omega)) ?_); conv => whnf) | (refine Ok.scope ?_) | (refine Ok.label ?_; conv => whnf) | (refine rd rfl (by assumption) ?_; conv => whnf) | (refine ⟨_, .inl ⟨rfl, rfl⟩, ?_⟩; conv => whnf) | (refine ⟨_, _, rfl, rfl, ?_⟩; conv => whnf) | (refine ⟨fun _ => ?_, fun _ => ?_⟩ <;> (conv => whnf) <;> (try (exfalso; omega))) | (refine And.intro (by first | omega | rfl | (simp; done) | (simp; omega)) ?_; conv => whnf) | (refine num_any ?_; conv => whnf) | (refine ⟨_, rfl, ?_⟩; conv => whnf) | fail)
          refine st c hy (by simp) (by simp [setCells, dup]) ?_
          rw [toNat_cast]
          (try (conv => whnf)); repeat' (first | refine Ok.seq ?_ | (refine Ok.region tok ?_; conv => whnf) | (refine Ok.region_plan (id := 24) tok follows [(5, 6, []), (0, 9, []), (4, 9, []), (5, 9, [6]), (6, 9, []), (0, 12, []), (2, 12, []), (4, 12, []), (5, 12, []), (6, 12, []), (9, 12, [])] [.q 0, .q 1, .q 2, .q 3, .q 4, .q 5, .l 6, .q 7, .q 8, .l 9, .q 10, .q 11, .l 12] (by kernel_rfl) ?_; conv => whnf) | (refine Ok.region_plan (id := 35) tok follows [(0, 4, []), (2, 4, [])] [.q 0, .q 1, .l 2, .q 3, .l 4, .q 5] (by kernel_rfl) ?_; conv => whnf) | (refine Ok.region_draw tok follows (by kernel_rfl) ?_; conv => whnf) | (refine Ok.cond ?_; conv => whnf) | refine Ok.block ?_ | (refine Ok.skip ?_; conv => whnf) | (refine Ok.exit ?_; conv => whnf) | (refine Ok.ret ?_; conv => whnf) | (refine num_in (by omega) (by omega) ?_; conv => whnf) | (refine ix _ (by assumption) ?_; conv => whnf) | (refine ixI (by omega) (by assumption) ?_; conv => whnf) | (refine ix_new _ (by omega) fun _ _ => ?_; conv => whnf) | (refine ixI_new (by omega) (by omega) fun _ _ => ?_; conv => whnf) | (refine ⟨_, by assumption, ?_⟩; conv => whnf) | (refine Alt2.l (And.intro (by first | omega | (simp; done) | (simp; omega)) ?_); conv => whnf) | (refine Alt2.r (And.intro (by first | omega | (simp; done) | (simp; omega)) ?_); conv => whnf) | (refine Ok.scope ?_) | (refine Ok.label ?_; conv => whnf) | (refine rd rfl (by assumption) ?_; conv => whnf) | (refine ⟨_, .inl ⟨rfl, rfl⟩, ?_⟩; conv => whnf) | (refine ⟨_, _, rfl, rfl, ?_⟩; conv => whnf) | (refine ⟨fun _ => ?_, fun _ => ?_⟩ <;> (conv => whnf) <;> (try (exfalso; omega))) | (refine And.intro (by first | omega | rfl | (simp; done) | (simp; omega)) ?_; conv => whnf) | (refine num_any ?_; conv => whnf) | (refine ⟨_, rfl, ?_⟩; conv => whnf) | fail)
          refine Or.inr (Or.inr (Or.inl ?_)); (conv => whnf); refine ⟨_, _, Tryz.func110, rfl, Tryz.call110, ?_⟩; (conv => whnf)
          (try (conv => whnf)); repeat' (first | refine Ok.seq ?_ | (refine Ok.region tok ?_; conv => whnf) | (refine Ok.region_plan (id := 24) tok follows [(5, 6, []), (0, 9, []), (4, 9, []), (5, 9, [6]), (6, 9, []), (0, 12, []), (2, 12, []), (4, 12, []), (5, 12, []), (6, 12, []), (9, 12, [])] [.q 0, .q 1, .q 2, .q 3, .q 4, .q 5, .l 6, .q 7, .q 8, .l 9, .q 10, .q 11, .l 12] (by kernel_rfl) ?_; conv => whnf) | (refine Ok.region_plan (id := 35) tok follows [(0, 4, []), (2, 4, [])] [.q 0, .q 1, .l 2, .q 3, .l 4, .q 5] (by kernel_rfl) ?_; conv => whnf) | (refine Ok.region_draw tok follows (by kernel_rfl) ?_; conv => whnf) | (refine Ok.cond ?_; conv => whnf) | refine Ok.block ?_ | (refine Ok.skip ?_; conv => whnf) | (refine Ok.exit ?_; conv => whnf) | (refine Ok.ret ?_; conv => whnf) | (refine num_in (by omega) (by omega) ?_; conv => whnf) | (refine ix _ (by assumption) ?_; conv => whnf) | (refine ixI (by omega) (by assumption) ?_; conv => whnf) | (refine ix_new _ (by omega) fun _ _ => ?_; conv => whnf) | (refine ixI_new (by omega) (by omega) fun _ _ => ?_; conv => whnf) | (refine ⟨_, by assumption, ?_⟩; conv => whnf) | (refine Alt2.l (And.intro (by first | omega | (simp; done) | (simp; omega)) ?_); conv => whnf) | (refine Alt2.r (And.intro (by first | omega | (simp; done) | (simp; omega)) ?_); conv => whnf) | (refine Ok.scope ?_) | (refine Ok.label ?_; conv => whnf) | (refine rd rfl (by assumption) ?_; conv => whnf) | (refine ⟨_, .inl ⟨rfl, rfl⟩, ?_⟩; conv => whnf) | (refine ⟨_, _, rfl, rfl, ?_⟩; conv => whnf) | (refine ⟨fun _ => ?_, fun _ => ?_⟩ <;> (conv => whnf) <;> (try (exfalso; omega))) | (refine And.intro (by first | omega | rfl | (simp; done) | (simp; omega)) ?_; conv => whnf) | (refine num_any ?_; conv => whnf) | (refine ⟨_, rfl, ?_⟩; conv => whnf) | fail)
          refine Or.inr (Or.inr (Or.inr (Or.inr ?_)))
          (conv => whnf)
          refine effW_used copyAt rfl ?_
          (conv => whnf)
          have hdc : (dup c).2.length ≤ 256 := hcl
          (try (conv => whnf)); repeat' (first | ((refine And.intro byteT ?_); (conv => whnf)) | refine Ok.seq ?_ | (refine Ok.region tok ?_; conv => whnf) | (refine Ok.region_plan (id := 24) tok follows [(5, 6, []), (0, 9, []), (4, 9, []), (5, 9, [6]), (6, 9, []), (0, 12, []), (2, 12, []), (4, 12, []), (5, 12, []), (6, 12, []), (9, 12, [])] [.q 0, .q 1, .q 2, .q 3, .q 4, .q 5, .l 6, .q 7, .q 8, .l 9, .q 10, .q 11, .l 12] (by kernel_rfl) ?_; conv => whnf) | (refine Ok.region_plan (id := 35) tok follows [(0, 4, []), (2, 4, [])] [.q 0, .q 1, .l 2, .q 3, .l 4, .q 5] (by kernel_rfl) ?_; conv => whnf) | (refine Ok.region_draw tok follows (by kernel_rfl) ?_; conv => whnf) | (refine Ok.cond ?_; conv => whnf) | refine Ok.block ?_ | (refine Ok.skip ?_; conv => whnf) | (refine Ok.exit ?_; conv => whnf) | (refine Ok.ret ?_; conv => whnf) | (refine num_in (by omega) (by omega) ?_; conv => whnf) | (refine ix _ (by assumption) ?_; conv => whnf) | (refine ixI (by omega) (by assumption) ?_; conv => whnf) | (refine ix_new _ (by omega) fun _ _ => ?_; conv => whnf) | (refine ixI_new (by omega) (by omega) fun _ _ => ?_; conv => whnf) | (refine ⟨_, by assumption, ?_⟩; conv => whnf) | (refine Alt2.l (And.intro (by first | omega | (simp; done) | (simp; omega)) ?_); conv => whnf) | (refine Alt2.r (And.intro (by first | omega | (simp; done) | (simp; omega)) ?_); conv => whnf) | (refine Ok.scope ?_) | (refine Ok.label ?_; conv => whnf) | (refine rd rfl (by assumption) ?_; conv => whnf) | (refine ⟨_, .inl ⟨rfl, rfl⟩, ?_⟩; conv => whnf) | (refine ⟨_, _, rfl, rfl, ?_⟩; conv => whnf) | (refine ⟨fun _ => ?_, fun _ => ?_⟩ <;> (conv => whnf) <;> (try (exfalso; omega))) | (refine And.intro (by first | omega | rfl | (simp; done) | (simp; omega)) ?_; conv => whnf) | (refine num_any ?_; conv => whnf) | (refine ⟨_, rfl, ?_⟩; conv => whnf) | fail)
          refine ⟨i + 1, by omega, by omega, ?_⟩
          rw [← hst, hnx]
          (conv => whnf)
          simp [envCat, dup]
        · have hie4 : i = K.length := by omega
          subst hie4
          (try (conv => whnf)); repeat' (first | refine Ok.seq ?_ | (refine Ok.region tok ?_; conv => whnf) | (refine Ok.region_plan (id := 24) tok follows [(5, 6, []), (0, 9, []), (4, 9, []), (5, 9, [6]), (6, 9, []), (0, 12, []), (2, 12, []), (4, 12, []), (5, 12, []), (6, 12, []), (9, 12, [])] [.q 0, .q 1, .q 2, .q 3, .q 4, .q 5, .l 6, .q 7, .q 8, .l 9, .q 10, .q 11, .l 12] (by kernel_rfl) ?_; conv => whnf) | (refine Ok.region_plan (id := 35) tok follows [(0, 4, []), (2, 4, [])] [.q 0, .q 1, .l 2, .q 3, .l 4, .q 5] (by kernel_rfl) ?_; conv => whnf) | (refine Ok.region_draw tok follows (by kernel_rfl) ?_; conv => whnf) | (refine Ok.cond ?_; conv => whnf) | refine Ok.block ?_ | (refine Ok.skip ?_; conv => whnf) | (refine Ok.exit ?_; conv => whnf) | (refine Ok.ret ?_; conv => whnf) | (refine num_in (by omega) (by omega) ?_; conv => whnf) | (refine ix _ (by assumption) ?_; conv => whnf) | (refine ixI (by omega) (by assumption) ?_; conv => whnf) | (refine ix_new _ (by omega) fun _ _ => ?_; conv => whnf) | (refine ixI_new (by omega) (by omega) fun _ _ => ?_; conv => whnf) | (refine ⟨_, by assumption, ?_⟩; conv => whnf) | (refine Alt2.l (And.intro (by first | omega | (simp; done) | (simp; omega)) ?_); conv => whnf) | (refine Alt2.r (And.intro (by first | omega | (simp; done) | (simp; omega)) ?_); conv => whnf) | (refine Ok.scope ?_) | (refine Ok.label ?_; conv => whnf) | (refine rd rfl (by assumption) ?_; conv => whnf) | (refine ⟨_, .inl ⟨rfl, rfl⟩, ?_⟩; conv => whnf) | (refine ⟨_, _, rfl, rfl, ?_⟩; conv => whnf) | (refine ⟨fun _ => ?_, fun _ => ?_⟩ <;> (conv => whnf) <;> (try (exfalso; omega))) | (refine And.intro (by first | omega | rfl | (simp; done) | (simp; omega)) ?_; conv => whnf) | (refine num_any ?_; conv => whnf) | (refine ⟨_, rfl, ?_⟩; conv => whnf) | fail)
          have hkey := kf_key (p := p) hkl
          have hne0 : kf p ks K.length ≠ [] := kf_ne hp.2
          have htk : ((ks.take K.length ++ W.drop K.length).map crow).take K.length = ks.map crow := by
            rw [← hkl, List.take_length, List.map_append]
            exact List.take_left' (by simp)
          refine Or.inr (Or.inr (Or.inr ?_))
          (conv => whnf)
          refine effK_string strAt rfl rfl rfl (by rw [hbl]; exact Nat.le_refl _) (take_all bcell _) hne0 ?_
          (conv => whnf)
          (try (conv => whnf)); repeat' (first | refine Ok.seq ?_ | (refine Ok.region tok ?_; conv => whnf) | (refine Ok.region_plan (id := 24) tok follows [(5, 6, []), (0, 9, []), (4, 9, []), (5, 9, [6]), (6, 9, []), (0, 12, []), (2, 12, []), (4, 12, []), (5, 12, []), (6, 12, []), (9, 12, [])] [.q 0, .q 1, .q 2, .q 3, .q 4, .q 5, .l 6, .q 7, .q 8, .l 9, .q 10, .q 11, .l 12] (by kernel_rfl) ?_; conv => whnf) | (refine Ok.region_plan (id := 35) tok follows [(0, 4, []), (2, 4, [])] [.q 0, .q 1, .l 2, .q 3, .l 4, .q 5] (by kernel_rfl) ?_; conv => whnf) | (refine Ok.region_draw tok follows (by kernel_rfl) ?_; conv => whnf) | (refine Ok.cond ?_; conv => whnf) | refine Ok.block ?_ | (refine Ok.skip ?_; conv => whnf) | (refine Ok.exit ?_; conv => whnf) | (refine Ok.ret ?_; conv => whnf) | (refine num_in (by omega) (by omega) ?_; conv => whnf) | (refine ix _ (by assumption) ?_; conv => whnf) | (refine ixI (by omega) (by assumption) ?_; conv => whnf) | (refine ix_new _ (by omega) fun _ _ => ?_; conv => whnf) | (refine ixI_new (by omega) (by omega) fun _ _ => ?_; conv => whnf) | (refine ⟨_, by assumption, ?_⟩; conv => whnf) | (refine Alt2.l (And.intro (by first | omega | (simp; done) | (simp; omega)) ?_); conv => whnf) | (refine Alt2.r (And.intro (by first | omega | (simp; done) | (simp; omega)) ?_); conv => whnf) | (refine Ok.scope ?_) | (refine Ok.label ?_; conv => whnf) | (refine rd rfl (by assumption) ?_; conv => whnf) | (refine ⟨_, .inl ⟨rfl, rfl⟩, ?_⟩; conv => whnf) | (refine ⟨_, _, rfl, rfl, ?_⟩; conv => whnf) | (refine ⟨fun _ => ?_, fun _ => ?_⟩ <;> (conv => whnf) <;> (try (exfalso; omega))) | (refine And.intro (by first | omega | rfl | (simp; done) | (simp; omega)) ?_; conv => whnf) | (refine num_any ?_; conv => whnf) | (refine ⟨_, rfl, ?_⟩; conv => whnf) | fail)
          refine Or.inl ?_; (conv => whnf)
          refine ⟨rfl, .inr ⟨⟨p, ks⟩, ((ks.take K.length ++ W.drop K.length).map crow).drop K.length, hterm, ?_⟩⟩
          rw [htk]
          simp only [oneD, trow, hkey]
end Go.Proofs.YtaiondckookpiaaGreatDoor
/- A space's form: Size, form. -/
namespace Go.Proofs.YtaiondckookpiaaGreatDoor
open Go Go.Vx
def szT (l : List Term) : Nat := (l.map fun t => 1 + t.less.length).sum
theorem szT_snoc (l : List Term) (t : Term) : szT (l ++ [t]) = szT l + (1 + t.less.length) := by simp [szT]
theorem szT_le {l : List Term} (h : ∀ t ∈ l, t.less.length ≤ 1048576) : szT l ≤ l.length * 1048577 := by
  induction l with
  | nil => simp [szT]
  | cons t l ih =>
    have h1 := ih fun x hx => h x (by simp [hx])
    have h2 := h t (by simp)
    simp only [szT, List.map_cons, List.sum_cons, List.length_cons] at h1 ⊢
    rw [Nat.add_mul]
    omega
set_option maxHeartbeats 4000000 in
theorem size_at (bits : Int) (l : List TR) {rl room : List (List D)} (hl : l.length ≤ 1048576) (hok : ∀ x ∈ l, x.t.less.length ≤ 1048576) (h : rl = l.map trow) : FSpec Tryz.prog T 60 [.agg [.i .i64 bits, .lst 112 rl room]] (fun d _ => d = .i .i64 (szT (l.map TR.t) : Nat)) := by
  subst h
  have hll : (l.map trow).length = l.length := by simp
  refine FSpec.of_ok tok Tryz.func60 rfl Tryz.call60 (by simp) ?_
  (try (conv => whnf)); repeat' (first | refine Ok.seq ?_ | (refine Ok.region tok ?_; conv => whnf) | (refine Ok.region_draw tok follows (by kernel_rfl) ?_; conv => whnf) | (refine Ok.cond ?_; conv => whnf) | refine Ok.block ?_ | (refine Ok.skip ?_; conv => whnf) | (refine Ok.exit ?_; conv => whnf) | (refine Ok.ret ?_; conv => whnf) | (refine num_in (by omega) (by omega) ?_; conv => whnf) | (refine ix _ (by assumption) ?_; conv => whnf) | (refine ixI (by omega) (by assumption) ?_; conv => whnf) | (refine ix_new _ (by omega) fun _ _ => ?_; conv => whnf) | (refine ixI_new (by omega) (by omega) fun _ _ => ?_; conv => whnf) | (refine ⟨_, by assumption, ?_⟩; conv => whnf) | (refine Alt2.l (And.intro (by first | omega | (simp; done) | (simp; omega)) ?_); conv => whnf) | (refine Alt2.r (And.intro (by first | omega | (simp; done) | (simp; omega)) ?_); conv => whnf) | (refine Ok.scope ?_) | (refine Ok.label ?_; conv => whnf) | (refine rd rfl (by assumption) ?_; conv => whnf) | (refine ⟨_, .inl ⟨rfl, rfl⟩, ?_⟩; conv => whnf) | (refine ⟨_, _, rfl, rfl, ?_⟩; conv => whnf) | (refine ⟨fun _ => ?_, fun _ => ?_⟩ <;> (conv => whnf) <;> (try (exfalso; omega))) | (refine And.intro (by first | omega | rfl | (simp; done) | (simp; omega)) ?_; conv => whnf) | (refine num_any ?_; conv => whnf) | (refine ⟨_, rfl, ?_⟩; conv => whnf) | fail)
  refine Ok.loopU [7, 8] [3, 9] 0 1 (fun (i : Nat) => [.i .i64 (szT ((l.take i).map TR.t) : Nat), .i .i64 (i : Nat)]) (fun _ b => b) (fun _ r => r) (fun (i : Nat) => i ≤ l.length) (fun (i : Nat) => l.length - i) (0) (Nat.zero_le _) ?_; (conv => whnf); refine ⟨by ((conv => whnf); first | rfl | (simp [envCat, List.take_of_length_le, cells9, crow, trow]; done) | (simp [envCat, List.take_of_length_le, cells9, crow, trow]; rw [IntKind.wrap_i64]; omega)), ?_⟩
  rintro i hi
  have hs : szT ((l.take i).map TR.t) ≤ 1048576 * 1048577 := by
    refine Nat.le_trans (szT_le fun t ht => ?_) (Nat.mul_le_mul_right _ (by simp; omega))
    obtain ⟨x, hx, rfl⟩ := List.mem_map.1 ht
    exact hok x (List.mem_of_mem_take hx)
  (conv => whnf)
  by_cases hil : i < l.length
  · obtain ⟨x, hx⟩ : ∃ x, l[i]? = some x := ⟨_, List.getElem?_eq_getElem hil⟩
    have hxo := hok x (List.mem_of_getElem? hx)
    have hxl : (x.t.less.map crow).length = x.t.less.length := by simp
    have hnx : szT ((l.take (i + 1)).map TR.t) = szT ((l.take i).map TR.t) + (1 + x.t.less.length) := by rw [take_snoc hx, List.map_append]; exact szT_snoc _ _
    generalize szT ((l.take i).map TR.t) = S at *
    (try (conv => whnf)); repeat' (first | refine Ok.seq ?_ | (refine Ok.region tok ?_; conv => whnf) | (refine Ok.region_draw tok follows (by kernel_rfl) ?_; conv => whnf) | (refine Ok.cond ?_; conv => whnf) | refine Ok.block ?_ | (refine Ok.skip ?_; conv => whnf) | (refine Ok.exit ?_; conv => whnf) | (refine Ok.ret ?_; conv => whnf) | (refine num_in (by omega) (by omega) ?_; conv => whnf) | (refine ix _ (by assumption) ?_; conv => whnf) | (refine ixI (by omega) (by assumption) ?_; conv => whnf) | (refine ix_new _ (by omega) fun _ _ => ?_; conv => whnf) | (refine ixI_new (by omega) (by omega) fun _ _ => ?_; conv => whnf) | (refine ⟨_, by assumption, ?_⟩; conv => whnf) | (refine Alt2.l (And.intro (by first | omega | (simp; done) | (simp; omega)) ?_); conv => whnf) | (refine Alt2.r (And.intro (by first | omega | (simp; done) | (simp; omega)) ?_); conv => whnf) | (refine Ok.scope ?_) | (refine Ok.label ?_; conv => whnf) | (refine rd rfl (by assumption) ?_; conv => whnf) | (refine ⟨_, .inl ⟨rfl, rfl⟩, ?_⟩; conv => whnf) | (refine ⟨_, _, rfl, rfl, ?_⟩; conv => whnf) | (refine ⟨fun _ => ?_, fun _ => ?_⟩ <;> (conv => whnf) <;> (try (exfalso; omega))) | (refine And.intro (by first | omega | rfl | (simp; done) | (simp; omega)) ?_; conv => whnf) | (refine num_any ?_; conv => whnf) | (refine ⟨_, rfl, ?_⟩; conv => whnf) | fail)
    refine ⟨i + 1, by omega, by omega, ?_⟩
    rw [hnx]
    (conv => whnf)
    simp [envCat]
  · have hie : i = l.length := by omega
    subst hie
    rw [List.take_length]
    (try (conv => whnf)); repeat' (first | refine Ok.seq ?_ | (refine Ok.region tok ?_; conv => whnf) | (refine Ok.region_draw tok follows (by kernel_rfl) ?_; conv => whnf) | (refine Ok.cond ?_; conv => whnf) | refine Ok.block ?_ | (refine Ok.skip ?_; conv => whnf) | (refine Ok.exit ?_; conv => whnf) | (refine Ok.ret ?_; conv => whnf) | (refine num_in (by omega) (by omega) ?_; conv => whnf) | (refine ix _ (by assumption) ?_; conv => whnf) | (refine ixI (by omega) (by assumption) ?_; conv => whnf) | (refine ix_new _ (by omega) fun _ _ => ?_; conv => whnf) | (refine ixI_new (by omega) (by omega) fun _ _ => ?_; conv => whnf) | (refine ⟨_, by assumption, ?_⟩; conv => whnf) | (refine Alt2.l (And.intro (by first | omega | (simp; done) | (simp; omega)) ?_); conv => whnf) | (refine Alt2.r (And.intro (by first | omega | (simp; done) | (simp; omega)) ?_); conv => whnf) | (refine Ok.scope ?_) | (refine Ok.label ?_; conv => whnf) | (refine rd rfl (by assumption) ?_; conv => whnf) | (refine ⟨_, .inl ⟨rfl, rfl⟩, ?_⟩; conv => whnf) | (refine ⟨_, _, rfl, rfl, ?_⟩; conv => whnf) | (refine ⟨fun _ => ?_, fun _ => ?_⟩ <;> (conv => whnf) <;> (try (exfalso; omega))) | (refine And.intro (by first | omega | rfl | (simp; done) | (simp; omega)) ?_; conv => whnf) | (refine num_any ?_; conv => whnf) | (refine ⟨_, rfl, ?_⟩; conv => whnf) | fail)
    refine Or.inl ?_; (conv => whnf)
    rfl
theorem grG_map {α β : Type} (f : α → β) (R : β → β → Prop) (l : List α) : (grG (fun a b => R (f a) (f b)) l).map f = grG R (l.map f) := by
  have step : ∀ (k : List α) (x : α), (addG (fun a b => R (f a) (f b)) k x).map f = addG R (k.map f) (f x) := by
    intro k x
    by_cases h : ∃ y ∈ k, R (f x) (f y)
    · rw [addG_in h, addG_in (by obtain ⟨y, h1, h2⟩ := h; exact ⟨f y, List.mem_map_of_mem h1, h2⟩)]
    · have h1 : ∀ y ∈ k, ¬ R (f x) (f y) := fun y hy h2 => h ⟨y, hy, h2⟩
      rw [addG_out (R := fun a b => R (f a) (f b)) h1, addG_out (R := R) (by
        intro y hy
        obtain ⟨z, hz, rfl⟩ := List.mem_map.1 hy
        exact h1 z hz)]
      rw [List.map_append, List.filter_map]
      rfl
  have go : ∀ (l k : List α), (l.foldl (addG (fun a b => R (f a) (f b))) k).map f = (l.map f).foldl (addG R) (k.map f) := by
    intro l
    induction l with
    | nil => intro k; rfl
    | cons x l ih => intro k; rw [List.foldl_cons, ih, step]; rfl
  exact go l []
theorem grG_len {α : Type} (R : α → α → Prop) (l : List α) : (grG R l).length ≤ l.length := by
  have step : ∀ (k : List α) (x : α), (addG R k x).length ≤ k.length + 1 := by
    intro k x
    by_cases h : ∃ y ∈ k, R x y
    · rw [addG_in h]; omega
    · rw [addG_out (fun y hy h2 => h ⟨y, hy, h2⟩), List.length_append]
      exact Nat.add_le_add_right (List.length_filter_le _ _) 1
  have go : ∀ (l k : List α), (l.foldl (addG R) k).length ≤ k.length + l.length := by
    intro l
    induction l with
    | nil => intro k; simp
    | cons x l ih =>
      intro k
      have h1 := ih (addG R k x)
      have h2 := step k x
      simp only [List.foldl_cons, List.length_cons]
      omega
  show (l.foldl (addG R) []).length ≤ l.length
  have := go l []
  simpa using this
def passedV : Value := .iface 154 (.agg #[])
structure TO (n : Nat) (x : TR) : Prop where
  tn : TN x
  ok : x.t.Ok n
set_option maxRecDepth 100000 in
set_option maxHeartbeats 8000000 in
theorem form_at (bits : Int) (n : Nat) (l : List TR) {rl room : List (List D)} (hl : l.length ≤ 1048576) (hok : ∀ x ∈ l, TO n x) (h : rl = l.map trow) (hsz : szT (formT (l.map TR.t)) ≤ 128) :
    FSpec Tryz.prog T 65 [.i .i64 bits, .lst 112 rl room] (fun d rows => ∃ (ks : List TR) (rm : List (List D)), d = .agg [.i .i64 bits, .lst 112 (ks.map trow) rm] ∧ rows = [] ∧ ks.map TR.t = formT (l.map TR.t) ∧ ∀ x ∈ ks, x ∈ l) := by
  subst h
  refine FSpec.of_ok tok Tryz.func65 rfl Tryz.call65 (by simp) ?_
  refine Ok.seq ?_
  (refine Ok.region tok ?_; conv => whnf)
  refine Ok.seq ?_
  (refine Ok.region tok ?_; conv => whnf)
  right
  left
  (conv => whnf)
  refine ⟨_, greatestT_at l hl (fun x hx => (hok x hx).tn) rfl, ?_⟩
  rintro d rows ⟨W, hW, rfl, rfl⟩
  have hWk := hW.n
  have hWt := hW.tk
  rw [List.take_length] at hWk hWt
  have hKl : (grG covR l).map TR.t = grG covT (l.map TR.t) := grG_map TR.t covT l
  have hKm : ∀ x ∈ grG covR l, x ∈ l := grG_sub covR l
  have hKn := grG_len covR l
  have hWw := hW.w
  have hkp : (W.map trow).length = W.length := by simp
  generalize grG covR l = K at *
  have hkeys : ∀ x ∈ (W.map trow).take K.length, ∃ l, x[10]? = some (.s l) := by
    intro x hx
    obtain ⟨y, _, rfl⟩ := List.mem_map.1 (List.mem_of_mem_take hx)
    exact ⟨y.t.key, rfl⟩
  have htk : (W.map trow).take K.length = K.map trow := by rw [← List.map_take, hWt]
  (conv => whnf)
  refine Ok.seq ?_
  refine Ok.sortSlice tok sort_term (by (conv => whnf); exact ⟨rfl, rfl⟩) rfl rfl rfl (by rw [hkp]; exact hWk) rfl (by decide) (by decide) hkeys (by omega) ?_
  intro ys hperm hup
  rw [htk] at hperm
  obtain ⟨ks, hks, rfl⟩ := perm_map_ex hperm _ rfl
  have hkl : ks.length = K.length := hks.length_eq
  have hsort : (ks.map TR.t).Pairwise fun t u => Op.bytesLess u.key t.key ≠ true := by
    unfold RowsUp at hup
    rw [List.pairwise_map] at hup ⊢
    refine hup.imp fun {a b} h => ?_
    have h2 := h a.t.key b.t.key rfl rfl
    rw [h2]
    decide
  have hform : ks.map TR.t = formT (l.map TR.t) := formT_eq (n := n) (fun t ht => by
    obtain ⟨x, hx, rfl⟩ := List.mem_map.1 ht
    exact (hok x hx).ok) (by rw [← hKl]; exact hks.map _) hsort
  have hmem : ∀ x ∈ ks, x ∈ l := fun x hx => hKm x (hks.mem_iff.1 hx)
  have hrow : ((ks.map trow ++ (W.map trow).drop K.length).take K.length) = ks.map trow := by
    rw [← hkl]
    exact List.take_left' (by simp)
  have hrl : (ks.map trow ++ (W.map trow).drop K.length).length = W.length := by simp; omega
  clear hup hperm hkeys
  rw [← hform] at hsz
  (conv => whnf)
  (try (conv => whnf)); repeat' (first | refine Ok.seq ?_ | (refine Ok.region tok ?_; conv => whnf) | (refine Ok.region_draw tok follows (by kernel_rfl) ?_; conv => whnf) | (refine Ok.cond ?_; conv => whnf) | refine Ok.block ?_ | (refine Ok.skip ?_; conv => whnf) | (refine Ok.exit ?_; conv => whnf) | (refine Ok.ret ?_; conv => whnf) | (refine num_in (by omega) (by omega) ?_; conv => whnf) | (refine ix _ (by assumption) ?_; conv => whnf) | (refine ixI (by omega) (by assumption) ?_; conv => whnf) | (refine ix_new _ (by omega) fun _ _ => ?_; conv => whnf) | (refine ixI_new (by omega) (by omega) fun _ _ => ?_; conv => whnf) | (refine ⟨_, by assumption, ?_⟩; conv => whnf) | (refine Or.inl ?_; (conv => whnf); (repeat (refine And.intro (by first | omega | (simp; done) | (simp; omega)) ?_; (conv => whnf))); refine ⟨_, size_at bits ks (by omega) (fun x hx => (hok x (hmem x hx)).tn.n) hrow, rfl, ?_⟩; conv => whnf) | (refine ⟨_, size_at bits ks (by omega) (fun x hx => (hok x (hmem x hx)).tn.n) hrow, rfl, ?_⟩; conv => whnf) | (refine Or.inr (Or.inl ?_); (conv => whnf); (repeat (refine And.intro (by first | omega | (simp; done) | (simp; omega)) ?_; (conv => whnf))); refine ⟨_, size_at bits ks (by omega) (fun x hx => (hok x (hmem x hx)).tn.n) hrow, ?_⟩; rintro _ _ ⟨rfl, rfl⟩; conv => whnf) | (refine Alt2.l (And.intro (by first | omega | (simp; done) | (simp; omega)) ?_); conv => whnf) | (refine Alt2.r (And.intro (by first | omega | (simp; done) | (simp; omega)) ?_); conv => whnf) | (refine Ok.scope ?_) | (refine Ok.label ?_; conv => whnf) | (refine rd rfl (by assumption) ?_; conv => whnf) | (refine ⟨_, .inl ⟨rfl, rfl⟩, ?_⟩; conv => whnf) | (refine ⟨_, _, rfl, rfl, ?_⟩; conv => whnf) | (refine ⟨fun _ => ?_, fun _ => ?_⟩ <;> (conv => whnf) <;> (try (exfalso; omega))) | (refine And.intro (by first | omega | rfl | (simp; done) | (simp; omega)) ?_; conv => whnf) | (refine num_any ?_; conv => whnf) | (refine ⟨_, rfl, ?_⟩; conv => whnf) | fail)
  refine Or.inl ?_; (conv => whnf)
  rw [hrow]
  exact ⟨ks, _, rfl, rfl, hform, hmem⟩
set_option maxRecDepth 100000 in
set_option maxHeartbeats 8000000 in
theorem form_pan (bits : Int) (n : Nat) (l : List TR) {rl room : List (List D)} (hl : l.length ≤ 1048576) (hok : ∀ x ∈ l, TO n x) (h : rl = l.map trow) (hsz : 128 < szT (formT (l.map TR.t))) :
    PSpec Tryz.prog T 65 [.i .i64 bits, .lst 112 rl room] passedV := by
  subst h
  refine PSpec.of_ok Tryz.func65 rfl Tryz.call65 (by simp) ?_
  refine Ok.seq ?_
  (refine Ok.region tok ?_; conv => whnf)
  refine Ok.seq ?_
  (refine Ok.region tok ?_; conv => whnf)
  right
  left
  (conv => whnf)
  refine ⟨_, greatestT_at l hl (fun x hx => (hok x hx).tn) rfl, ?_⟩
  rintro d rows ⟨W, hW, rfl, rfl⟩
  have hWk := hW.n
  have hWt := hW.tk
  rw [List.take_length] at hWk hWt
  have hKl : (grG covR l).map TR.t = grG covT (l.map TR.t) := grG_map TR.t covT l
  have hKm : ∀ x ∈ grG covR l, x ∈ l := grG_sub covR l
  have hKn := grG_len covR l
  have hWw := hW.w
  have hkp : (W.map trow).length = W.length := by simp
  generalize grG covR l = K at *
  have hkeys : ∀ x ∈ (W.map trow).take K.length, ∃ l, x[10]? = some (.s l) := by
    intro x hx
    obtain ⟨y, _, rfl⟩ := List.mem_map.1 (List.mem_of_mem_take hx)
    exact ⟨y.t.key, rfl⟩
  have htk : (W.map trow).take K.length = K.map trow := by rw [← List.map_take, hWt]
  (conv => whnf)
  refine Ok.seq ?_
  refine Ok.sortSlice tok sort_term (by (conv => whnf); exact ⟨rfl, rfl⟩) rfl rfl rfl (by rw [hkp]; exact hWk) rfl (by decide) (by decide) hkeys (by omega) ?_
  intro ys hperm hup
  rw [htk] at hperm
  obtain ⟨ks, hks, rfl⟩ := perm_map_ex hperm _ rfl
  have hkl : ks.length = K.length := hks.length_eq
  have hsort : (ks.map TR.t).Pairwise fun t u => Op.bytesLess u.key t.key ≠ true := by
    unfold RowsUp at hup
    rw [List.pairwise_map] at hup ⊢
    refine hup.imp fun {a b} h => ?_
    have h2 := h a.t.key b.t.key rfl rfl
    rw [h2]
    decide
  have hform : ks.map TR.t = formT (l.map TR.t) := formT_eq (n := n) (fun t ht => by
    obtain ⟨x, hx, rfl⟩ := List.mem_map.1 ht
    exact (hok x hx).ok) (by rw [← hKl]; exact hks.map _) hsort
  have hmem : ∀ x ∈ ks, x ∈ l := fun x hx => hKm x (hks.mem_iff.1 hx)
  have hrow : ((ks.map trow ++ (W.map trow).drop K.length).take K.length) = ks.map trow := by
    rw [← hkl]
    exact List.take_left' (by simp)
  have hrl : (ks.map trow ++ (W.map trow).drop K.length).length = W.length := by simp; omega
  clear hup hperm hkeys
  rw [← hform] at hsz
  (conv => whnf)
  (try (conv => whnf)); repeat' (first | (refine Ok.region_throw (fun _ => by kernel_rfl) (by kernel_rfl) (by decide) (by decide) ?_) | refine Ok.seq ?_ | (refine Ok.region tok ?_; conv => whnf) | (refine Ok.region_draw tok follows (by kernel_rfl) ?_; conv => whnf) | (refine Ok.cond ?_; conv => whnf) | refine Ok.block ?_ | (refine Ok.skip ?_; conv => whnf) | (refine Ok.exit ?_; conv => whnf) | (refine Ok.ret ?_; conv => whnf) | (refine num_in (by omega) (by omega) ?_; conv => whnf) | (refine ix _ (by assumption) ?_; conv => whnf) | (refine ixI (by omega) (by assumption) ?_; conv => whnf) | (refine ix_new _ (by omega) fun _ _ => ?_; conv => whnf) | (refine ixI_new (by omega) (by omega) fun _ _ => ?_; conv => whnf) | (refine ⟨_, by assumption, ?_⟩; conv => whnf) | (refine Or.inl ?_; (conv => whnf); (repeat (refine And.intro (by first | omega | (simp; done) | (simp; omega)) ?_; (conv => whnf))); refine ⟨_, size_at bits ks (by omega) (fun x hx => (hok x (hmem x hx)).tn.n) hrow, rfl, ?_⟩; conv => whnf) | (refine ⟨_, size_at bits ks (by omega) (fun x hx => (hok x (hmem x hx)).tn.n) hrow, rfl, ?_⟩; conv => whnf) | (refine Or.inr (Or.inl ?_); (conv => whnf); (repeat (refine And.intro (by first | omega | (simp; done) | (simp; omega)) ?_; (conv => whnf))); refine ⟨_, size_at bits ks (by omega) (fun x hx => (hok x (hmem x hx)).tn.n) hrow, ?_⟩; rintro _ _ ⟨rfl, rfl⟩; conv => whnf) | (refine Alt2.l (And.intro (by first | omega | (simp; done) | (simp; omega)) ?_); conv => whnf) | (refine Alt2.r (And.intro (by first | omega | (simp; done) | (simp; omega)) ?_); conv => whnf) | (refine Ok.scope ?_) | (refine Ok.label ?_; conv => whnf) | (refine rd rfl (by assumption) ?_; conv => whnf) | (refine ⟨_, .inl ⟨rfl, rfl⟩, ?_⟩; conv => whnf) | (refine ⟨_, _, rfl, rfl, ?_⟩; conv => whnf) | (refine ⟨fun _ => ?_, fun _ => ?_⟩ <;> (conv => whnf) <;> (try (exfalso; omega))) | (refine And.intro (by first | omega | rfl | (simp; done) | (simp; omega)) ?_; conv => whnf) | (refine num_any ?_; conv => whnf) | (refine ⟨_, rfl, ?_⟩; conv => whnf) | fail)
  rfl
end Go.Proofs.YtaiondckookpiaaGreatDoor
/- The document's cubes: meet, inside, put, term. -/
namespace Go.Proofs.YtaiondckookpiaaGreatDoor
open Go Go.Vx
@[reducible] def srow (s : Str) : List D := [.s s]
set_option maxHeartbeats 4000000 in
theorem rmeet_at (c d : Str) (hc : c.length ≤ 100000) : FSpec Tryz.prog T 73 [.s c, .s d] (fun r rows => r = .tup [.s ((meetT c d).getD []), .b ((meetT c d).isSome = true)] ∧ rows = []) := by
  refine FSpec.of_ok tok Tryz.func73 rfl Tryz.call73 (by simp) ?_
  have hnone : meetT c d = none → (D.tup [.s [], .b False]) = .tup [.s ((meetT c d).getD []), .b ((meetT c d).isSome = true)] := fun h => by rw [h]; simp
  (try (conv => whnf)); repeat' (first | refine Ok.seq ?_ | (refine Ok.region tok ?_; conv => whnf) | (refine Ok.region_draw tok follows (by kernel_rfl) ?_; conv => whnf) | (refine Ok.cond ?_; conv => whnf) | refine Ok.block ?_ | (refine Ok.skip ?_; conv => whnf) | (refine Ok.exit ?_; conv => whnf) | (refine Ok.ret ?_; conv => whnf) | (refine num_in (by omega) (by omega) ?_; conv => whnf) | (refine ix _ (by assumption) ?_; conv => whnf) | (refine ixI (by omega) (by assumption) ?_; conv => whnf) | (refine ix_new _ (by omega) fun _ _ => ?_; conv => whnf) | (refine ixI_new (by omega) (by omega) fun _ _ => ?_; conv => whnf) | (refine ⟨_, by assumption, ?_⟩; conv => whnf) | (refine Alt2.l (And.intro (by first | omega | (simp; done) | (simp; omega)) ?_); conv => whnf) | (refine Alt2.r (And.intro (by first | omega | (simp; done) | (simp; omega)) ?_); conv => whnf) | (refine Ok.scope ?_) | (refine Ok.label ?_; conv => whnf) | (refine rd rfl (by assumption) ?_; conv => whnf) | (refine ⟨_, .inl ⟨rfl, rfl⟩, ?_⟩; conv => whnf) | (refine ⟨_, _, rfl, rfl, ?_⟩; conv => whnf) | (refine ⟨fun _ => ?_, fun _ => ?_⟩ <;> (conv => whnf) <;> (try (exfalso; omega))) | (refine And.intro (by first | omega | rfl | (simp; done) | (simp; omega)) ?_; conv => whnf) | (refine num_any ?_; conv => whnf) | (refine ⟨_, rfl, ?_⟩; conv => whnf) | fail)
  · rename_i h
    refine Or.inl ?_; (conv => whnf)
    refine ⟨hnone ?_, rfl⟩
    unfold meetT
    split
    · rfl
    · cases hm : meetL c d with
      | none => rfl
      | some m => have := meetL_len hm; omega
  · rename_i h h2
    refine Or.inl ?_; (conv => whnf)
    refine ⟨hnone ?_, rfl⟩
    unfold meetT
    rw [if_pos (List.eq_nil_of_length_eq_zero (by omega))]
  · rename_i h h2
    have hl : c.length = d.length := by omega
    have hne : c ≠ [] := fun e => by rw [e] at h2; simp at h2
    refine Ok.loopU [0, 1, 6] [7] 1 0 (fun (x : Nat × Str) => [.i .i64 (x.1 : Nat)]) (fun _ b => b) (fun (x : Nat × Str) (_ : Vx.Rows) => [some (5, (x.2 ++ List.replicate (c.length - x.1) 0).map bcell)]) (fun (x : Nat × Str) => x.1 ≤ c.length ∧ meetL (c.take x.1) (d.take x.1) = some x.2) (fun (x : Nat × Str) => c.length - x.1) ((0, [])) (⟨Nat.zero_le _, by simp [meetL]⟩) ?_; (conv => whnf); refine ⟨by ((conv => whnf); first | rfl | (simp [envCat, List.take_of_length_le, bcell, srow]; done) | (simp [envCat, List.take_of_length_le, bcell, srow]; rw [IntKind.wrap_i64]; omega)), ?_⟩
    rintro ⟨i, m⟩ ⟨hi, hm⟩
    dsimp only at hi hm ⊢
    have hml : m.length = i := by have := meetL_len hm; simp at this; omega
    have hrl : (m ++ List.replicate (c.length - i) (0 : UInt8)).length = c.length := by simp; omega
    have hrl2 : ((m ++ List.replicate (c.length - i) (0 : UInt8)).map bcell).length = c.length := by rw [List.length_map, hrl]
    (conv => whnf)
    by_cases hil : i < c.length
    · obtain ⟨a, ha⟩ : ∃ a, c[i]? = some a := ⟨_, List.getElem?_eq_getElem hil⟩
      obtain ⟨b, hb⟩ : ∃ b, d[i]? = some b := ⟨_, List.getElem?_eq_getElem (by omega)⟩
      have haI : c[((i : Nat) : Int).toNat]? = some a := ha
      have hbI : d[((i : Nat) : Int).toNat]? = some b := hb
      have hz := fill2_at hml hil
      have hs2 := fun b y => fill2_set (b := b) (y := y) hml hil
      have hs1 := fun b => fill2_set1 (b := b) hml hil
      generalize hL : m ++ List.replicate (c.length - i) (0 : UInt8) = L at *
      have hL2 : ∀ y : UInt8, (L.set i y)[i]? = some y := fun y => List.getElem?_set_self (by omega)
      have hL3 : ∀ y : UInt8, ((L.set i y).map bcell).length = c.length := fun y => by simp [hrl]
      by_cases hx : a = 120
      · subst hx
        have hn : (((120 : UInt8).toNat : Nat) : Int) = 120 := rfl
        have hst := meetL_step ha hb hm (show meet1 120 b = some b from rfl)
        (try (conv => whnf)); repeat' (first | refine Ok.seq ?_ | (refine Ok.region tok ?_; conv => whnf) | (refine Ok.region_draw tok follows (by kernel_rfl) ?_; conv => whnf) | (refine Ok.cond ?_; conv => whnf) | refine Ok.block ?_ | (refine Ok.skip ?_; conv => whnf) | (refine Ok.exit ?_; conv => whnf) | (refine Ok.ret ?_; conv => whnf) | (refine num_in (by omega) (by omega) ?_; conv => whnf) | (refine ix _ (by assumption) ?_; conv => whnf) | (refine ixI (by omega) (by assumption) ?_; conv => whnf) | (refine ix_new _ (by omega) fun _ _ => ?_; conv => whnf) | (refine ixI_new (by omega) (by omega) fun _ _ => ?_; conv => whnf) | (refine ⟨_, by assumption, ?_⟩; conv => whnf) | (refine Alt2.l (And.intro (by first | omega | (simp; done) | (simp; omega)) ?_); conv => whnf) | (refine Alt2.r (And.intro (by first | omega | (simp; done) | (simp; omega)) ?_); conv => whnf) | (refine Ok.scope ?_) | (refine Ok.label ?_; conv => whnf) | (refine rd rfl (by assumption) ?_; conv => whnf) | (refine ⟨_, .inl ⟨rfl, rfl⟩, ?_⟩; conv => whnf) | (refine ⟨_, _, rfl, rfl, ?_⟩; conv => whnf) | (refine ⟨fun _ => ?_, fun _ => ?_⟩ <;> (conv => whnf) <;> (try (exfalso; omega))) | (refine And.intro (by first | omega | rfl | (simp; done) | (simp; omega)) ?_; conv => whnf) | (refine num_any ?_; conv => whnf) | (refine ⟨_, rfl, ?_⟩; conv => whnf) | fail)
        refine st 120 hz (by simp [bcell]) (by simp [setCells, bcell]) ?_
        rw [toNat_cast]
        (try (conv => whnf)); repeat' (first | refine Ok.seq ?_ | (refine Ok.region tok ?_; conv => whnf) | (refine Ok.region_draw tok follows (by kernel_rfl) ?_; conv => whnf) | (refine Ok.cond ?_; conv => whnf) | refine Ok.block ?_ | (refine Ok.skip ?_; conv => whnf) | (refine Ok.exit ?_; conv => whnf) | (refine Ok.ret ?_; conv => whnf) | (refine num_in (by omega) (by omega) ?_; conv => whnf) | (refine ix _ (by assumption) ?_; conv => whnf) | (refine ixI (by omega) (by assumption) ?_; conv => whnf) | (refine ix_new _ (by omega) fun _ _ => ?_; conv => whnf) | (refine ixI_new (by omega) (by omega) fun _ _ => ?_; conv => whnf) | (refine ⟨_, by assumption, ?_⟩; conv => whnf) | (refine Alt2.l (And.intro (by first | omega | (simp; done) | (simp; omega)) ?_); conv => whnf) | (refine Alt2.r (And.intro (by first | omega | (simp; done) | (simp; omega)) ?_); conv => whnf) | (refine Ok.scope ?_) | (refine Ok.label ?_; conv => whnf) | (refine rd rfl (by assumption) ?_; conv => whnf) | (refine ⟨_, .inl ⟨rfl, rfl⟩, ?_⟩; conv => whnf) | (refine ⟨_, _, rfl, rfl, ?_⟩; conv => whnf) | (refine ⟨fun _ => ?_, fun _ => ?_⟩ <;> (conv => whnf) <;> (try (exfalso; omega))) | (refine And.intro (by first | omega | rfl | (simp; done) | (simp; omega)) ?_; conv => whnf) | (refine num_any ?_; conv => whnf) | (refine ⟨_, rfl, ?_⟩; conv => whnf) | fail)
        refine st b (hL2 120) (by simp [bcell]) (by simp [setCells, bcell]) ?_
        rw [toNat_cast, hs2]
        (try (conv => whnf)); repeat' (first | refine Ok.seq ?_ | (refine Ok.region tok ?_; conv => whnf) | (refine Ok.region_draw tok follows (by kernel_rfl) ?_; conv => whnf) | (refine Ok.cond ?_; conv => whnf) | refine Ok.block ?_ | (refine Ok.skip ?_; conv => whnf) | (refine Ok.exit ?_; conv => whnf) | (refine Ok.ret ?_; conv => whnf) | (refine num_in (by omega) (by omega) ?_; conv => whnf) | (refine ix _ (by assumption) ?_; conv => whnf) | (refine ixI (by omega) (by assumption) ?_; conv => whnf) | (refine ix_new _ (by omega) fun _ _ => ?_; conv => whnf) | (refine ixI_new (by omega) (by omega) fun _ _ => ?_; conv => whnf) | (refine ⟨_, by assumption, ?_⟩; conv => whnf) | (refine Alt2.l (And.intro (by first | omega | (simp; done) | (simp; omega)) ?_); conv => whnf) | (refine Alt2.r (And.intro (by first | omega | (simp; done) | (simp; omega)) ?_); conv => whnf) | (refine Ok.scope ?_) | (refine Ok.label ?_; conv => whnf) | (refine rd rfl (by assumption) ?_; conv => whnf) | (refine ⟨_, .inl ⟨rfl, rfl⟩, ?_⟩; conv => whnf) | (refine ⟨_, _, rfl, rfl, ?_⟩; conv => whnf) | (refine ⟨fun _ => ?_, fun _ => ?_⟩ <;> (conv => whnf) <;> (try (exfalso; omega))) | (refine And.intro (by first | omega | rfl | (simp; done) | (simp; omega)) ?_; conv => whnf) | (refine num_any ?_; conv => whnf) | (refine ⟨_, rfl, ?_⟩; conv => whnf) | fail)
        refine ⟨(i + 1, m ++ [b]), by dsimp only; omega, ⟨by dsimp only; omega, hst⟩, ?_⟩
        (conv => whnf)
        rfl
      · have hx2 := u8_ne hx
        rw [show (((120 : UInt8).toNat : Nat) : Int) = 120 from rfl] at hx2
        by_cases hb1 : b = 120 ∨ b = a
        · have hst := meetL_step ha hb hm (show meet1 a b = some a by unfold meet1; rw [if_neg hx, if_pos hb1])
          have hb3 : ((b.toNat : Nat) : Int) = 120 ∨ ((b.toNat : Nat) : Int) = ((a.toNat : Nat) : Int) := by
            rcases hb1 with rfl | rfl
            · exact .inl rfl
            · exact .inr rfl
          (try (conv => whnf)); repeat' (first | refine Ok.seq ?_ | (refine Ok.region tok ?_; conv => whnf) | (refine Ok.region_draw tok follows (by kernel_rfl) ?_; conv => whnf) | (refine Ok.cond ?_; conv => whnf) | refine Ok.block ?_ | (refine Ok.skip ?_; conv => whnf) | (refine Ok.exit ?_; conv => whnf) | (refine Ok.ret ?_; conv => whnf) | (refine num_in (by omega) (by omega) ?_; conv => whnf) | (refine ix _ (by assumption) ?_; conv => whnf) | (refine ixI (by omega) (by assumption) ?_; conv => whnf) | (refine ix_new _ (by omega) fun _ _ => ?_; conv => whnf) | (refine ixI_new (by omega) (by omega) fun _ _ => ?_; conv => whnf) | (refine ⟨_, by assumption, ?_⟩; conv => whnf) | (refine Alt2.l (And.intro (by first | omega | (simp; done) | (simp; omega)) ?_); conv => whnf) | (refine Alt2.r (And.intro (by first | omega | (simp; done) | (simp; omega)) ?_); conv => whnf) | (refine Ok.scope ?_) | (refine Ok.label ?_; conv => whnf) | (refine rd rfl (by assumption) ?_; conv => whnf) | (refine ⟨_, .inl ⟨rfl, rfl⟩, ?_⟩; conv => whnf) | (refine ⟨_, _, rfl, rfl, ?_⟩; conv => whnf) | (refine ⟨fun _ => ?_, fun _ => ?_⟩ <;> (conv => whnf) <;> (try (exfalso; omega))) | (refine And.intro (by first | omega | rfl | (simp; done) | (simp; omega)) ?_; conv => whnf) | (refine num_any ?_; conv => whnf) | (refine ⟨_, rfl, ?_⟩; conv => whnf) | fail)
          refine st a hz (by simp [bcell]) (by simp [setCells, bcell]) ?_
          rw [toNat_cast, hs1]
          (try (conv => whnf)); repeat' (first | refine Ok.seq ?_ | (refine Ok.region tok ?_; conv => whnf) | (refine Ok.region_draw tok follows (by kernel_rfl) ?_; conv => whnf) | (refine Ok.cond ?_; conv => whnf) | refine Ok.block ?_ | (refine Ok.skip ?_; conv => whnf) | (refine Ok.exit ?_; conv => whnf) | (refine Ok.ret ?_; conv => whnf) | (refine num_in (by omega) (by omega) ?_; conv => whnf) | (refine ix _ (by assumption) ?_; conv => whnf) | (refine ixI (by omega) (by assumption) ?_; conv => whnf) | (refine ix_new _ (by omega) fun _ _ => ?_; conv => whnf) | (refine ixI_new (by omega) (by omega) fun _ _ => ?_; conv => whnf) | (refine ⟨_, by assumption, ?_⟩; conv => whnf) | (refine Alt2.l (And.intro (by first | omega | (simp; done) | (simp; omega)) ?_); conv => whnf) | (refine Alt2.r (And.intro (by first | omega | (simp; done) | (simp; omega)) ?_); conv => whnf) | (refine Ok.scope ?_) | (refine Ok.label ?_; conv => whnf) | (refine rd rfl (by assumption) ?_; conv => whnf) | (refine ⟨_, .inl ⟨rfl, rfl⟩, ?_⟩; conv => whnf) | (refine ⟨_, _, rfl, rfl, ?_⟩; conv => whnf) | (refine ⟨fun _ => ?_, fun _ => ?_⟩ <;> (conv => whnf) <;> (try (exfalso; omega))) | (refine And.intro (by first | omega | rfl | (simp; done) | (simp; omega)) ?_; conv => whnf) | (refine num_any ?_; conv => whnf) | (refine ⟨_, rfl, ?_⟩; conv => whnf) | fail)
          all_goals
            refine ⟨(i + 1, m ++ [a]), by dsimp only; omega, ⟨by dsimp only; omega, hst⟩, ?_⟩
            (conv => whnf)
            rfl
        · have hst := meetL_stop ha hb (show meet1 a b = none by unfold meet1; rw [if_neg hx, if_neg hb1])
          have hb3 := u8_ne (fun e => hb1 (.inl e) : b ≠ 120)
          have hb4 := u8_ne (fun e => hb1 (.inr e) : b ≠ a)
          rw [show (((120 : UInt8).toNat : Nat) : Int) = 120 from rfl] at hb3
          (try (conv => whnf)); repeat' (first | refine Ok.seq ?_ | (refine Ok.region tok ?_; conv => whnf) | (refine Ok.region_draw tok follows (by kernel_rfl) ?_; conv => whnf) | (refine Ok.cond ?_; conv => whnf) | refine Ok.block ?_ | (refine Ok.skip ?_; conv => whnf) | (refine Ok.exit ?_; conv => whnf) | (refine Ok.ret ?_; conv => whnf) | (refine num_in (by omega) (by omega) ?_; conv => whnf) | (refine ix _ (by assumption) ?_; conv => whnf) | (refine ixI (by omega) (by assumption) ?_; conv => whnf) | (refine ix_new _ (by omega) fun _ _ => ?_; conv => whnf) | (refine ixI_new (by omega) (by omega) fun _ _ => ?_; conv => whnf) | (refine ⟨_, by assumption, ?_⟩; conv => whnf) | (refine Alt2.l (And.intro (by first | omega | (simp; done) | (simp; omega)) ?_); conv => whnf) | (refine Alt2.r (And.intro (by first | omega | (simp; done) | (simp; omega)) ?_); conv => whnf) | (refine Ok.scope ?_) | (refine Ok.label ?_; conv => whnf) | (refine rd rfl (by assumption) ?_; conv => whnf) | (refine ⟨_, .inl ⟨rfl, rfl⟩, ?_⟩; conv => whnf) | (refine ⟨_, _, rfl, rfl, ?_⟩; conv => whnf) | (refine ⟨fun _ => ?_, fun _ => ?_⟩ <;> (conv => whnf) <;> (try (exfalso; omega))) | (refine And.intro (by first | omega | rfl | (simp; done) | (simp; omega)) ?_; conv => whnf) | (refine num_any ?_; conv => whnf) | (refine ⟨_, rfl, ?_⟩; conv => whnf) | fail)
          refine st a hz (by simp [bcell]) (by simp [setCells, bcell]) ?_
          rw [toNat_cast, hs1]
          (try (conv => whnf)); repeat' (first | refine Ok.seq ?_ | (refine Ok.region tok ?_; conv => whnf) | (refine Ok.region_draw tok follows (by kernel_rfl) ?_; conv => whnf) | (refine Ok.cond ?_; conv => whnf) | refine Ok.block ?_ | (refine Ok.skip ?_; conv => whnf) | (refine Ok.exit ?_; conv => whnf) | (refine Ok.ret ?_; conv => whnf) | (refine num_in (by omega) (by omega) ?_; conv => whnf) | (refine ix _ (by assumption) ?_; conv => whnf) | (refine ixI (by omega) (by assumption) ?_; conv => whnf) | (refine ix_new _ (by omega) fun _ _ => ?_; conv => whnf) | (refine ixI_new (by omega) (by omega) fun _ _ => ?_; conv => whnf) | (refine ⟨_, by assumption, ?_⟩; conv => whnf) | (refine Alt2.l (And.intro (by first | omega | (simp; done) | (simp; omega)) ?_); conv => whnf) | (refine Alt2.r (And.intro (by first | omega | (simp; done) | (simp; omega)) ?_); conv => whnf) | (refine Ok.scope ?_) | (refine Ok.label ?_; conv => whnf) | (refine rd rfl (by assumption) ?_; conv => whnf) | (refine ⟨_, .inl ⟨rfl, rfl⟩, ?_⟩; conv => whnf) | (refine ⟨_, _, rfl, rfl, ?_⟩; conv => whnf) | (refine ⟨fun _ => ?_, fun _ => ?_⟩ <;> (conv => whnf) <;> (try (exfalso; omega))) | (refine And.intro (by first | omega | rfl | (simp; done) | (simp; omega)) ?_; conv => whnf) | (refine num_any ?_; conv => whnf) | (refine ⟨_, rfl, ?_⟩; conv => whnf) | fail)
          all_goals
            refine Or.inl ?_; (conv => whnf)
            refine ⟨hnone ?_, rfl⟩
            rw [meetT_eq hne, hst]
    · have hie : i = c.length := by omega
      subst hie
      rw [List.take_length, hl, List.take_length] at hm
      rw [Nat.sub_self, List.replicate_zero, List.append_nil]
      (try (conv => whnf)); repeat' (first | refine Ok.seq ?_ | (refine Ok.region tok ?_; conv => whnf) | (refine Ok.region_draw tok follows (by kernel_rfl) ?_; conv => whnf) | (refine Ok.cond ?_; conv => whnf) | refine Ok.block ?_ | (refine Ok.skip ?_; conv => whnf) | (refine Ok.exit ?_; conv => whnf) | (refine Ok.ret ?_; conv => whnf) | (refine num_in (by omega) (by omega) ?_; conv => whnf) | (refine ix _ (by assumption) ?_; conv => whnf) | (refine ixI (by omega) (by assumption) ?_; conv => whnf) | (refine ix_new _ (by omega) fun _ _ => ?_; conv => whnf) | (refine ixI_new (by omega) (by omega) fun _ _ => ?_; conv => whnf) | (refine ⟨_, by assumption, ?_⟩; conv => whnf) | (refine Alt2.l (And.intro (by first | omega | (simp; done) | (simp; omega)) ?_); conv => whnf) | (refine Alt2.r (And.intro (by first | omega | (simp; done) | (simp; omega)) ?_); conv => whnf) | (refine Ok.scope ?_) | (refine Ok.label ?_; conv => whnf) | (refine rd rfl (by assumption) ?_; conv => whnf) | (refine ⟨_, .inl ⟨rfl, rfl⟩, ?_⟩; conv => whnf) | (refine ⟨_, _, rfl, rfl, ?_⟩; conv => whnf) | (refine ⟨fun _ => ?_, fun _ => ?_⟩ <;> (conv => whnf) <;> (try (exfalso; omega))) | (refine And.intro (by first | omega | rfl | (simp; done) | (simp; omega)) ?_; conv => whnf) | (refine num_any ?_; conv => whnf) | (refine ⟨_, rfl, ?_⟩; conv => whnf) | fail)
      refine ⟨m, by rw [← hml]; exact take_all bcell m, ?_⟩
      (try (conv => whnf)); repeat' (first | refine Ok.seq ?_ | (refine Ok.region tok ?_; conv => whnf) | (refine Ok.region_draw tok follows (by kernel_rfl) ?_; conv => whnf) | (refine Ok.cond ?_; conv => whnf) | refine Ok.block ?_ | (refine Ok.skip ?_; conv => whnf) | (refine Ok.exit ?_; conv => whnf) | (refine Ok.ret ?_; conv => whnf) | (refine num_in (by omega) (by omega) ?_; conv => whnf) | (refine ix _ (by assumption) ?_; conv => whnf) | (refine ixI (by omega) (by assumption) ?_; conv => whnf) | (refine ix_new _ (by omega) fun _ _ => ?_; conv => whnf) | (refine ixI_new (by omega) (by omega) fun _ _ => ?_; conv => whnf) | (refine ⟨_, by assumption, ?_⟩; conv => whnf) | (refine Alt2.l (And.intro (by first | omega | (simp; done) | (simp; omega)) ?_); conv => whnf) | (refine Alt2.r (And.intro (by first | omega | (simp; done) | (simp; omega)) ?_); conv => whnf) | (refine Ok.scope ?_) | (refine Ok.label ?_; conv => whnf) | (refine rd rfl (by assumption) ?_; conv => whnf) | (refine ⟨_, .inl ⟨rfl, rfl⟩, ?_⟩; conv => whnf) | (refine ⟨_, _, rfl, rfl, ?_⟩; conv => whnf) | (refine ⟨fun _ => ?_, fun _ => ?_⟩ <;> (conv => whnf) <;> (try (exfalso; omega))) | (refine And.intro (by first | omega | rfl | (simp; done) | (simp; omega)) ?_; conv => whnf) | (refine num_any ?_; conv => whnf) | (refine ⟨_, rfl, ?_⟩; conv => whnf) | fail)
      refine Or.inl ?_; (conv => whnf)
      refine ⟨?_, rfl⟩
      rw [meetT_eq hne, hm]
      simp [oneD]
set_option maxHeartbeats 4000000 in
theorem rinside_at (c d : Str) (hc : c.length ≤ 100000) : FSpec Tryz.prog T 78 [.s c, .s d] (fun r _ => r = .b (inT c d)) := by
  refine FSpec.of_ok tok Tryz.func78 rfl Tryz.call78 (by simp) ?_
  (try (conv => whnf)); repeat' (first | refine Ok.seq ?_ | (refine Ok.region tok ?_; conv => whnf) | (refine Ok.region_draw tok follows (by kernel_rfl) ?_; conv => whnf) | (refine Ok.cond ?_; conv => whnf) | refine Ok.block ?_ | (refine Ok.skip ?_; conv => whnf) | (refine Ok.exit ?_; conv => whnf) | (refine Ok.ret ?_; conv => whnf) | (refine num_in (by omega) (by omega) ?_; conv => whnf) | (refine ix _ (by assumption) ?_; conv => whnf) | (refine ixI (by omega) (by assumption) ?_; conv => whnf) | (refine ix_new _ (by omega) fun _ _ => ?_; conv => whnf) | (refine ixI_new (by omega) (by omega) fun _ _ => ?_; conv => whnf) | (refine ⟨_, by assumption, ?_⟩; conv => whnf) | (refine Alt2.l (And.intro (by first | omega | (simp; done) | (simp; omega)) ?_); conv => whnf) | (refine Alt2.r (And.intro (by first | omega | (simp; done) | (simp; omega)) ?_); conv => whnf) | (refine Ok.scope ?_) | (refine Ok.label ?_; conv => whnf) | (refine rd rfl (by assumption) ?_; conv => whnf) | (refine ⟨_, .inl ⟨rfl, rfl⟩, ?_⟩; conv => whnf) | (refine ⟨_, _, rfl, rfl, ?_⟩; conv => whnf) | (refine ⟨fun _ => ?_, fun _ => ?_⟩ <;> (conv => whnf) <;> (try (exfalso; omega))) | (refine And.intro (by first | omega | rfl | (simp; done) | (simp; omega)) ?_; conv => whnf) | (refine num_any ?_; conv => whnf) | (refine ⟨_, rfl, ?_⟩; conv => whnf) | fail)
  · rename_i h
    refine Or.inl ?_; (conv => whnf)
    show D.b False = _
    exact congrArg D.b (propext ⟨fun h => h.elim, fun h2 => by have := inL_len h2.2; omega⟩)
  · rename_i h h2
    refine Or.inl ?_; (conv => whnf)
    show D.b False = _
    exact congrArg D.b (propext ⟨fun h => h.elim, fun h3 => h3.1 (List.eq_nil_of_length_eq_zero (by omega))⟩)
  · rename_i h h2
    have hl : c.length = d.length := by omega
    have hne : c ≠ [] := fun e => by rw [e] at h2; simp at h2
    refine Ok.loopU [0, 1] [5] 0 0 (fun (i : Nat) => [.i .i64 (i : Nat)]) (fun _ b => b) (fun _ r => r) (fun (i : Nat) => i ≤ c.length ∧ ∀ (k : Nat) a b, k < i → c[k]? = some a → d[k]? = some b → b = 120 ∨ b = a) (fun (i : Nat) => c.length - i) (0) (⟨Nat.zero_le _, fun k _ _ hk => absurd hk (by omega)⟩) ?_; (conv => whnf); refine ⟨by ((conv => whnf); first | rfl | (simp [envCat, List.take_of_length_le, bcell, srow]; done) | (simp [envCat, List.take_of_length_le, bcell, srow]; rw [IntKind.wrap_i64]; omega)), ?_⟩
    rintro i ⟨hi, hall⟩
    (conv => whnf)
    by_cases hil : i < c.length
    · obtain ⟨a, ha⟩ : ∃ a, c[i]? = some a := ⟨_, List.getElem?_eq_getElem hil⟩
      obtain ⟨b, hb⟩ : ∃ b, d[i]? = some b := ⟨_, List.getElem?_eq_getElem (by omega)⟩
      have haI : c[((i : Nat) : Int).toNat]? = some a := ha
      have hbI : d[((i : Nat) : Int).toNat]? = some b := hb
      have step : (b = 120 ∨ b = a) → ∀ (k : Nat) x y, k < i + 1 → c[k]? = some x → d[k]? = some y → y = 120 ∨ y = x := fun hh k x y hk hx hy => by
        by_cases hki : k = i
        · subst hki
          rw [ha] at hx
          rw [hb] at hy
          cases hx
          cases hy
          exact hh
        · exact hall k x y (by omega) hx hy
      by_cases hb1 : b = 120 ∨ b = a
      · have hb3 : ((b.toNat : Nat) : Int) = 120 ∨ ((b.toNat : Nat) : Int) = ((a.toNat : Nat) : Int) := by
          rcases hb1 with rfl | rfl
          · exact .inl rfl
          · exact .inr rfl
        (try (conv => whnf)); repeat' (first | refine Ok.seq ?_ | (refine Ok.region tok ?_; conv => whnf) | (refine Ok.region_draw tok follows (by kernel_rfl) ?_; conv => whnf) | (refine Ok.cond ?_; conv => whnf) | refine Ok.block ?_ | (refine Ok.skip ?_; conv => whnf) | (refine Ok.exit ?_; conv => whnf) | (refine Ok.ret ?_; conv => whnf) | (refine num_in (by omega) (by omega) ?_; conv => whnf) | (refine ix _ (by assumption) ?_; conv => whnf) | (refine ixI (by omega) (by assumption) ?_; conv => whnf) | (refine ix_new _ (by omega) fun _ _ => ?_; conv => whnf) | (refine ixI_new (by omega) (by omega) fun _ _ => ?_; conv => whnf) | (refine ⟨_, by assumption, ?_⟩; conv => whnf) | (refine Alt2.l (And.intro (by first | omega | (simp; done) | (simp; omega)) ?_); conv => whnf) | (refine Alt2.r (And.intro (by first | omega | (simp; done) | (simp; omega)) ?_); conv => whnf) | (refine Ok.scope ?_) | (refine Ok.label ?_; conv => whnf) | (refine rd rfl (by assumption) ?_; conv => whnf) | (refine ⟨_, .inl ⟨rfl, rfl⟩, ?_⟩; conv => whnf) | (refine ⟨_, _, rfl, rfl, ?_⟩; conv => whnf) | (refine ⟨fun _ => ?_, fun _ => ?_⟩ <;> (conv => whnf) <;> (try (exfalso; omega))) | (refine And.intro (by first | omega | rfl | (simp; done) | (simp; omega)) ?_; conv => whnf) | (refine num_any ?_; conv => whnf) | (refine ⟨_, rfl, ?_⟩; conv => whnf) | fail)
        all_goals
          refine ⟨i + 1, by omega, ⟨by omega, step hb1⟩, ?_⟩
          (conv => whnf)
          rfl
      · have hb3 := u8_ne (fun e => hb1 (.inl e) : b ≠ 120)
        have hb4 := u8_ne (fun e => hb1 (.inr e) : b ≠ a)
        rw [show (((120 : UInt8).toNat : Nat) : Int) = 120 from rfl] at hb3
        (try (conv => whnf)); repeat' (first | refine Ok.seq ?_ | (refine Ok.region tok ?_; conv => whnf) | (refine Ok.region_draw tok follows (by kernel_rfl) ?_; conv => whnf) | (refine Ok.cond ?_; conv => whnf) | refine Ok.block ?_ | (refine Ok.skip ?_; conv => whnf) | (refine Ok.exit ?_; conv => whnf) | (refine Ok.ret ?_; conv => whnf) | (refine num_in (by omega) (by omega) ?_; conv => whnf) | (refine ix _ (by assumption) ?_; conv => whnf) | (refine ixI (by omega) (by assumption) ?_; conv => whnf) | (refine ix_new _ (by omega) fun _ _ => ?_; conv => whnf) | (refine ixI_new (by omega) (by omega) fun _ _ => ?_; conv => whnf) | (refine ⟨_, by assumption, ?_⟩; conv => whnf) | (refine Alt2.l (And.intro (by first | omega | (simp; done) | (simp; omega)) ?_); conv => whnf) | (refine Alt2.r (And.intro (by first | omega | (simp; done) | (simp; omega)) ?_); conv => whnf) | (refine Ok.scope ?_) | (refine Ok.label ?_; conv => whnf) | (refine rd rfl (by assumption) ?_; conv => whnf) | (refine ⟨_, .inl ⟨rfl, rfl⟩, ?_⟩; conv => whnf) | (refine ⟨_, _, rfl, rfl, ?_⟩; conv => whnf) | (refine ⟨fun _ => ?_, fun _ => ?_⟩ <;> (conv => whnf) <;> (try (exfalso; omega))) | (refine And.intro (by first | omega | rfl | (simp; done) | (simp; omega)) ?_; conv => whnf) | (refine num_any ?_; conv => whnf) | (refine ⟨_, rfl, ?_⟩; conv => whnf) | fail)
        all_goals
          refine Or.inl ?_; (conv => whnf)
          show D.b False = _
          exact congrArg D.b (propext ⟨fun h => h.elim, fun h3 => hb1 ((inL_iff.1 h3.2).2 i a b ha hb)⟩)
    · have hie : i = c.length := by omega
      subst hie
      (try (conv => whnf)); repeat' (first | refine Ok.seq ?_ | (refine Ok.region tok ?_; conv => whnf) | (refine Ok.region_draw tok follows (by kernel_rfl) ?_; conv => whnf) | (refine Ok.cond ?_; conv => whnf) | refine Ok.block ?_ | (refine Ok.skip ?_; conv => whnf) | (refine Ok.exit ?_; conv => whnf) | (refine Ok.ret ?_; conv => whnf) | (refine num_in (by omega) (by omega) ?_; conv => whnf) | (refine ix _ (by assumption) ?_; conv => whnf) | (refine ixI (by omega) (by assumption) ?_; conv => whnf) | (refine ix_new _ (by omega) fun _ _ => ?_; conv => whnf) | (refine ixI_new (by omega) (by omega) fun _ _ => ?_; conv => whnf) | (refine ⟨_, by assumption, ?_⟩; conv => whnf) | (refine Alt2.l (And.intro (by first | omega | (simp; done) | (simp; omega)) ?_); conv => whnf) | (refine Alt2.r (And.intro (by first | omega | (simp; done) | (simp; omega)) ?_); conv => whnf) | (refine Ok.scope ?_) | (refine Ok.label ?_; conv => whnf) | (refine rd rfl (by assumption) ?_; conv => whnf) | (refine ⟨_, .inl ⟨rfl, rfl⟩, ?_⟩; conv => whnf) | (refine ⟨_, _, rfl, rfl, ?_⟩; conv => whnf) | (refine ⟨fun _ => ?_, fun _ => ?_⟩ <;> (conv => whnf) <;> (try (exfalso; omega))) | (refine And.intro (by first | omega | rfl | (simp; done) | (simp; omega)) ?_; conv => whnf) | (refine num_any ?_; conv => whnf) | (refine ⟨_, rfl, ?_⟩; conv => whnf) | fail)
      refine Or.inl ?_; (conv => whnf)
      show D.b True = _
      exact congrArg D.b (propext ⟨fun _ => ⟨hne, inL_iff.2 ⟨hl, fun k x y hx hy => hall k x y (List.getElem?_eq_some_iff.1 hx).1 hx hy⟩⟩, fun _ => trivial⟩)
theorem inTL {c d : Str} (h : c ≠ []) : inT c d = inL c d := propext ⟨fun h => h.2, fun k => ⟨h, k⟩⟩
def RN (n : Nat) (c : Str) : Prop := c ≠ [] ∧ c.length ≤ n
set_option maxHeartbeats 8000000 in
theorem rput_at (l : List Str) (c : Str) {rl rm : List (List D)} (hl : l.length ≤ 100000) (hok : ∀ x ∈ l, x ≠ [] ∧ x.length ≤ 100000) (hc : c ≠ []) (hcl : c.length ≤ 100000) (h : rl = l.map srow) :
    FSpec Tryz.prog T 123 [.lst 9 rl rm, .s c] (fun d rows => ∃ rm', d = .lst 9 ((putG inL blt l c).map srow) rm' ∧ rows = []) := by
  subst h
  have hll : (l.map srow).length = l.length := by simp
  refine FSpec.of_ok tok Tryz.func123 rfl Tryz.call123 (by simp) ?_
  (try (conv => whnf)); repeat' (first | refine Ok.seq ?_ | (refine Ok.region tok ?_; conv => whnf) | (refine Ok.region_draw tok follows (by kernel_rfl) ?_; conv => whnf) | (refine Ok.cond ?_; conv => whnf) | refine Ok.block ?_ | (refine Ok.skip ?_; conv => whnf) | (refine Ok.exit ?_; conv => whnf) | (refine Ok.ret ?_; conv => whnf) | (refine num_in (by omega) (by omega) ?_; conv => whnf) | (refine ix _ (by assumption) ?_; conv => whnf) | (refine ixI (by omega) (by assumption) ?_; conv => whnf) | (refine ix_new _ (by omega) fun _ _ => ?_; conv => whnf) | (refine ixI_new (by omega) (by omega) fun _ _ => ?_; conv => whnf) | (refine ⟨_, by assumption, ?_⟩; conv => whnf) | (refine Alt2.l (And.intro (by first | omega | (simp; done) | (simp; omega)) ?_); conv => whnf) | (refine Alt2.r (And.intro (by first | omega | (simp; done) | (simp; omega)) ?_); conv => whnf) | (refine Ok.scope ?_) | (refine Ok.label ?_; conv => whnf) | (refine rd rfl (by assumption) ?_; conv => whnf) | (refine ⟨_, .inl ⟨rfl, rfl⟩, ?_⟩; conv => whnf) | (refine ⟨_, _, rfl, rfl, ?_⟩; conv => whnf) | (refine ⟨fun _ => ?_, fun _ => ?_⟩ <;> (conv => whnf) <;> (try (exfalso; omega))) | (refine And.intro (by first | omega | rfl | (simp; done) | (simp; omega)) ?_; conv => whnf) | (refine num_any ?_; conv => whnf) | (refine ⟨_, rfl, ?_⟩; conv => whnf) | fail)
  refine Ok.loopU [0, 1] [5] 0 0 (fun (i : Nat) => [.i .i64 (i : Nat)]) (fun _ b => b) (fun _ r => r) (fun (i : Nat) => i ≤ l.length ∧ ∀ x ∈ l.take i, ¬ inL c x) (fun (i : Nat) => l.length - i) (0) (⟨Nat.zero_le _, by simp⟩) ?_; (conv => whnf); refine ⟨by ((conv => whnf); first | rfl | (simp [envCat, List.take_of_length_le, bcell, srow]; done) | (simp [envCat, List.take_of_length_le, bcell, srow]; rw [IntKind.wrap_i64]; omega)), ?_⟩
  rintro i ⟨hi, hno⟩
  (conv => whnf)
  by_cases hil : i < l.length
  · obtain ⟨x, hx⟩ : ∃ x, l[i]? = some x := ⟨_, List.getElem?_eq_getElem hil⟩
    have hsp := rinside_at c x hcl
    rw [inTL hc] at hsp
    (try (conv => whnf)); repeat' (first | refine Ok.seq ?_ | (refine Ok.region tok ?_; conv => whnf) | (refine Ok.region_draw tok follows (by kernel_rfl) ?_; conv => whnf) | (refine Ok.cond ?_; conv => whnf) | refine Ok.block ?_ | (refine Ok.skip ?_; conv => whnf) | (refine Ok.exit ?_; conv => whnf) | (refine Ok.ret ?_; conv => whnf) | (refine num_in (by omega) (by omega) ?_; conv => whnf) | (refine ix _ (by assumption) ?_; conv => whnf) | (refine ixI (by omega) (by assumption) ?_; conv => whnf) | (refine ix_new _ (by omega) fun _ _ => ?_; conv => whnf) | (refine ixI_new (by omega) (by omega) fun _ _ => ?_; conv => whnf) | (refine ⟨_, by assumption, ?_⟩; conv => whnf) | (refine Or.inl ?_; (conv => whnf); (repeat (refine And.intro (by first | omega | (simp; done) | (simp; omega)) ?_; (conv => whnf))); refine ⟨_, hsp, rfl, ?_⟩; conv => whnf) | (refine ⟨_, hsp, rfl, ?_⟩; conv => whnf) | (refine Or.inr (Or.inl ?_); (conv => whnf); (repeat (refine And.intro (by first | omega | (simp; done) | (simp; omega)) ?_; (conv => whnf))); refine ⟨_, hsp, ?_⟩; rintro _ _ ⟨rfl, rfl⟩; conv => whnf) | (refine Alt2.l (And.intro (by first | omega | (simp; done) | (simp; omega)) ?_); conv => whnf) | (refine Alt2.r (And.intro (by first | omega | (simp; done) | (simp; omega)) ?_); conv => whnf) | (refine Ok.scope ?_) | (refine Ok.label ?_; conv => whnf) | (refine rd rfl (by assumption) ?_; conv => whnf) | (refine ⟨_, .inl ⟨rfl, rfl⟩, ?_⟩; conv => whnf) | (refine ⟨_, _, rfl, rfl, ?_⟩; conv => whnf) | (refine ⟨fun _ => ?_, fun _ => ?_⟩ <;> (conv => whnf) <;> (try (exfalso; omega))) | (refine And.intro (by first | omega | rfl | (simp; done) | (simp; omega)) ?_; conv => whnf) | (refine num_any ?_; conv => whnf) | (refine ⟨_, rfl, ?_⟩; conv => whnf) | fail)
    · rename_i hin
      refine Or.inl ?_; (conv => whnf)
      refine ⟨rm, ?_, rfl⟩
      rw [putG_in ⟨x, List.mem_of_getElem? hx, hin⟩]
      rfl
    · rename_i hin
      refine ⟨i + 1, by omega, ⟨by omega, fun z hz => ?_⟩, ?_⟩
      · rw [take_snoc hx] at hz
        rcases List.mem_append.1 hz with hz | hz
        · exact hno z hz
        · simp at hz; rw [hz]; exact hin
      · (conv => whnf)
        rfl
  · have hie : i = l.length := by omega
    subst hie
    rw [List.take_length] at hno
    have hno2 : ¬ ∃ y ∈ l, inL c y := fun ⟨y, hy, h⟩ => hno y hy h
    (try (conv => whnf)); repeat' (first | refine Ok.seq ?_ | (refine Ok.region tok ?_; conv => whnf) | (refine Ok.region_draw tok follows (by kernel_rfl) ?_; conv => whnf) | (refine Ok.cond ?_; conv => whnf) | refine Ok.block ?_ | (refine Ok.skip ?_; conv => whnf) | (refine Ok.exit ?_; conv => whnf) | (refine Ok.ret ?_; conv => whnf) | (refine num_in (by omega) (by omega) ?_; conv => whnf) | (refine ix _ (by assumption) ?_; conv => whnf) | (refine ixI (by omega) (by assumption) ?_; conv => whnf) | (refine ix_new _ (by omega) fun _ _ => ?_; conv => whnf) | (refine ixI_new (by omega) (by omega) fun _ _ => ?_; conv => whnf) | (refine ⟨_, by assumption, ?_⟩; conv => whnf) | (refine Alt2.l (And.intro (by first | omega | (simp; done) | (simp; omega)) ?_); conv => whnf) | (refine Alt2.r (And.intro (by first | omega | (simp; done) | (simp; omega)) ?_); conv => whnf) | (refine Ok.scope ?_) | (refine Ok.label ?_; conv => whnf) | (refine rd rfl (by assumption) ?_; conv => whnf) | (refine ⟨_, .inl ⟨rfl, rfl⟩, ?_⟩; conv => whnf) | (refine ⟨_, _, rfl, rfl, ?_⟩; conv => whnf) | (refine ⟨fun _ => ?_, fun _ => ?_⟩ <;> (conv => whnf) <;> (try (exfalso; omega))) | (refine And.intro (by first | omega | rfl | (simp; done) | (simp; omega)) ?_; conv => whnf) | (refine num_any ?_; conv => whnf) | (refine ⟨_, rfl, ?_⟩; conv => whnf) | fail)
    refine Ok.ghost 6 9 rfl ?_
    (conv => whnf)
    refine Ok.asB 7 rfl ?_
    (conv => whnf)
    refine Ok.loopU [0, 1] [6, 7, 8] 1 0 (fun (x : Nat × List Str × Prop) => [.own 0 x.2.1.length, .b x.2.2, .i .i64 (x.1 : Nat)]) (fun _ b => b) (fun (x : Nat × List Str × Prop) (_ : Vx.Rows) => [some (9, x.2.1.map srow)]) (fun (x : Nat × List Str × Prop) => x.1 ≤ l.length ∧ PutSt inL blt l c x.1 x.2.1 x.2.2 ∧ x.2.1.length ≤ 2 * x.1) (fun (x : Nat × List Str × Prop) => l.length - x.1) ((0, [], False)) (⟨Nat.zero_le _, PutSt.zero, by simp⟩) ?_; (conv => whnf); refine ⟨by ((conv => whnf); first | rfl | (simp [envCat, List.take_of_length_le, bcell, srow]; done) | (simp [envCat, List.take_of_length_le, bcell, srow]; rw [IntKind.wrap_i64]; omega)), ?_⟩
    rintro ⟨i, m, dn⟩ ⟨hi, hP, hml⟩
    dsimp only at hi hP hml ⊢
    have hmm : (m.map srow).length = m.length := by simp
    (conv => whnf)
    by_cases hil : i < l.length
    · obtain ⟨x, hx⟩ : ∃ x, l[i]? = some x := ⟨_, List.getElem?_eq_getElem hil⟩
      have hxo := hok x (List.mem_of_getElem? hx)
      have hsp := rinside_at x c hxo.2
      rw [inTL hxo.1] at hsp
      by_cases hin : inL x c
      · have hP2 := hP.skip hx hin
        (try (conv => whnf)); repeat' (first | refine Ok.seq ?_ | (refine Ok.region tok ?_; conv => whnf) | (refine Ok.region_draw tok follows (by kernel_rfl) ?_; conv => whnf) | (refine Ok.cond ?_; conv => whnf) | refine Ok.block ?_ | (refine Ok.skip ?_; conv => whnf) | (refine Ok.exit ?_; conv => whnf) | (refine Ok.ret ?_; conv => whnf) | (refine num_in (by omega) (by omega) ?_; conv => whnf) | (refine ix _ (by assumption) ?_; conv => whnf) | (refine ixI (by omega) (by assumption) ?_; conv => whnf) | (refine ix_new _ (by omega) fun _ _ => ?_; conv => whnf) | (refine ixI_new (by omega) (by omega) fun _ _ => ?_; conv => whnf) | (refine ⟨_, by assumption, ?_⟩; conv => whnf) | (refine Or.inl ?_; (conv => whnf); (repeat (refine And.intro (by first | omega | (simp; done) | (simp; omega)) ?_; (conv => whnf))); refine ⟨_, hsp, rfl, ?_⟩; conv => whnf) | (refine ⟨_, hsp, rfl, ?_⟩; conv => whnf) | (refine Or.inr (Or.inl ?_); (conv => whnf); (repeat (refine And.intro (by first | omega | (simp; done) | (simp; omega)) ?_; (conv => whnf))); refine ⟨_, hsp, ?_⟩; rintro _ _ ⟨rfl, rfl⟩; conv => whnf) | (refine Alt2.l (And.intro (by first | omega | (simp; done) | (simp; omega)) ?_); conv => whnf) | (refine Alt2.r (And.intro (by first | omega | (simp; done) | (simp; omega)) ?_); conv => whnf) | (refine Ok.scope ?_) | (refine Ok.label ?_; conv => whnf) | (refine rd rfl (by assumption) ?_; conv => whnf) | (refine ⟨_, .inl ⟨rfl, rfl⟩, ?_⟩; conv => whnf) | (refine ⟨_, _, rfl, rfl, ?_⟩; conv => whnf) | (refine ⟨fun _ => ?_, fun _ => ?_⟩ <;> (conv => whnf) <;> (try (exfalso; omega))) | (refine And.intro (by first | omega | rfl | (simp; done) | (simp; omega)) ?_; conv => whnf) | (refine num_any ?_; conv => whnf) | (refine ⟨_, rfl, ?_⟩; conv => whnf) | fail)
        · refine ⟨(i + 1, m, dn), by dsimp only; omega, ⟨by dsimp only; omega, hP2, by dsimp only; omega⟩, ?_⟩
          (conv => whnf)
          rfl
        all_goals exact absurd hin (by assumption)
      · (try (conv => whnf)); repeat' (first | (refine Ok.asB' 7 rfl ?_) | refine Ok.seq ?_ | (refine Ok.region tok ?_; conv => whnf) | (refine Ok.region_draw tok follows (by kernel_rfl) ?_; conv => whnf) | (refine Ok.cond ?_; conv => whnf) | refine Ok.block ?_ | (refine Ok.skip ?_; conv => whnf) | (refine Ok.exit ?_; conv => whnf) | (refine Ok.ret ?_; conv => whnf) | (refine num_in (by omega) (by omega) ?_; conv => whnf) | (refine ix _ (by assumption) ?_; conv => whnf) | (refine ixI (by omega) (by assumption) ?_; conv => whnf) | (refine ix_new _ (by omega) fun _ _ => ?_; conv => whnf) | (refine ixI_new (by omega) (by omega) fun _ _ => ?_; conv => whnf) | (refine ⟨_, by assumption, ?_⟩; conv => whnf) | (refine Or.inl ?_; (conv => whnf); (repeat (refine And.intro (by first | omega | (simp; done) | (simp; omega)) ?_; (conv => whnf))); refine ⟨_, hsp, rfl, ?_⟩; conv => whnf) | (refine ⟨_, hsp, rfl, ?_⟩; conv => whnf) | (refine Or.inr (Or.inl ?_); (conv => whnf); (repeat (refine And.intro (by first | omega | (simp; done) | (simp; omega)) ?_; (conv => whnf))); refine ⟨_, hsp, ?_⟩; rintro _ _ ⟨rfl, rfl⟩; conv => whnf) | (refine Alt2.l (And.intro (by first | omega | (simp; done) | (simp; omega)) ?_); conv => whnf) | (refine Alt2.r (And.intro (by first | omega | (simp; done) | (simp; omega)) ?_); conv => whnf) | (refine Ok.scope ?_) | (refine Ok.label ?_; conv => whnf) | (refine rd rfl (by assumption) ?_; conv => whnf) | (refine ⟨_, .inl ⟨rfl, rfl⟩, ?_⟩; conv => whnf) | (refine ⟨_, _, rfl, rfl, ?_⟩; conv => whnf) | (refine ⟨fun _ => ?_, fun _ => ?_⟩ <;> (conv => whnf) <;> (try (exfalso; omega))) | (refine And.intro (by first | omega | rfl | (simp; done) | (simp; omega)) ?_; conv => whnf) | (refine num_any ?_; conv => whnf) | (refine ⟨_, rfl, ?_⟩; conv => whnf) | fail)
        · exact absurd (by assumption) hin
        · rename_i hdn hlt
          refine ⟨(i + 1, m ++ [c] ++ [x], True), by dsimp only; omega, ⟨by dsimp only; omega, hP.new hx hin hdn hlt, by simp; omega⟩, ?_⟩
          (conv => whnf)
          simp [envCat]
        · rename_i hdn hlt
          refine ⟨(i + 1, m ++ [x], dn), by dsimp only; omega, ⟨by dsimp only; omega, hP.old hx hin (.inr hlt), by simp; omega⟩, ?_⟩
          (conv => whnf)
          simp [envCat]
        · rename_i hdn
          refine ⟨(i + 1, m ++ [x], dn), by dsimp only; omega, ⟨by dsimp only; omega, hP.old hx hin (.inl (Classical.not_not.1 hdn)), by simp; omega⟩, ?_⟩
          (conv => whnf)
          simp [envCat]
    · have hie2 : i = l.length := by omega
      subst hie2
      have hfin := hP.fin hno2
      (try (conv => whnf)); repeat' (first | refine Ok.seq ?_ | (refine Ok.region tok ?_; conv => whnf) | (refine Ok.region_draw tok follows (by kernel_rfl) ?_; conv => whnf) | (refine Ok.cond ?_; conv => whnf) | refine Ok.block ?_ | (refine Ok.skip ?_; conv => whnf) | (refine Ok.exit ?_; conv => whnf) | (refine Ok.ret ?_; conv => whnf) | (refine num_in (by omega) (by omega) ?_; conv => whnf) | (refine ix _ (by assumption) ?_; conv => whnf) | (refine ixI (by omega) (by assumption) ?_; conv => whnf) | (refine ix_new _ (by omega) fun _ _ => ?_; conv => whnf) | (refine ixI_new (by omega) (by omega) fun _ _ => ?_; conv => whnf) | (refine ⟨_, by assumption, ?_⟩; conv => whnf) | (refine Alt2.l (And.intro (by first | omega | (simp; done) | (simp; omega)) ?_); conv => whnf) | (refine Alt2.r (And.intro (by first | omega | (simp; done) | (simp; omega)) ?_); conv => whnf) | (refine Ok.scope ?_) | (refine Ok.label ?_; conv => whnf) | (refine rd rfl (by assumption) ?_; conv => whnf) | (refine ⟨_, .inl ⟨rfl, rfl⟩, ?_⟩; conv => whnf) | (refine ⟨_, _, rfl, rfl, ?_⟩; conv => whnf) | (refine ⟨fun _ => ?_, fun _ => ?_⟩ <;> (conv => whnf) <;> (try (exfalso; omega))) | (refine And.intro (by first | omega | rfl | (simp; done) | (simp; omega)) ?_; conv => whnf) | (refine num_any ?_; conv => whnf) | (refine ⟨_, rfl, ?_⟩; conv => whnf) | fail)
      · rename_i hdn
        rw [if_neg hdn] at hfin
        refine Or.inl ?_; (conv => whnf)
        refine ⟨[], ?_, rfl⟩
        rw [hfin, List.take_length, List.drop_length, List.map_append]
        rfl
      · rename_i hdn
        rw [if_pos (Classical.not_not.1 hdn)] at hfin
        refine Or.inl ?_; (conv => whnf)
        refine ⟨[], ?_, rfl⟩
        rw [hfin, List.take_of_length_le (by simp), List.drop_of_length_le (by simp)]
        rfl
noncomputable def PK (p : Str) (less : List Str) : List Str := (metL p less).foldl (putG inL blt) []
theorem PK_none {p m : Str} {less : List Str} {i : Nat} (h : less[i]? = some m) (hm : meetT m p = none) : PK p (less.take (i + 1)) = PK p (less.take i) := by
  unfold PK
  rw [take_snoc h, metL_app, metL_none hm, List.append_nil]
theorem PK_some {p m c : Str} {less : List Str} {i : Nat} (h : less[i]? = some m) (hm : meetT m p = some c) : PK p (less.take (i + 1)) = putG inL blt (PK p (less.take i)) c := by
  unfold PK
  rw [take_snoc h, metL_app, metL_some hm, List.foldl_append]
  rfl
open Classical in
theorem putG_len {α : Type} (R L : α → α → Prop) (k : List α) (c : α) : (putG R L k c).length ≤ k.length + 1 := by
  unfold putG
  split
  · omega
  · rw [(insG_perm L c _).length_eq, List.length_cons]
    exact Nat.add_le_add_right (List.length_filter_le _ _) 1
theorem PK_len (p : Str) (less : List Str) (i : Nat) : (PK p (less.take i)).length ≤ i := by
  have go : ∀ (l k : List Str), (l.foldl (putG inL blt) k).length ≤ k.length + l.length := by
    intro l
    induction l with
    | nil => intro k; simp
    | cons x l ih =>
      intro k
      have h1 := ih (putG inL blt k x)
      have h2 := putG_len inL blt k x
      simp only [List.foldl_cons, List.length_cons]
      omega
  have h1 := go (metL p (less.take i)) []
  have h2 := metL_le p (less.take i)
  have h3 := List.length_take_le i less
  unfold PK
  simp only [List.length_nil] at h1
  omega
theorem PK_mem {p : Str} {less : List Str} {c : Str} (h : c ∈ PK p less) : c ∈ metL p less :=
  (putG_fold (R := inL) (L := blt) inL_refl (fun _ _ _ => inL_trans) blt_trans blt_total (metL p less)).1.sub c h
theorem metL_wide {p : Str} {less : List Str} {c : Str} (h : c ∈ metL p less) : c.length = p.length := by
  obtain ⟨m, _, hm⟩ := List.mem_filterMap.1 h
  unfold meetT at hm
  split at hm
  · cases hm
  · exact (meetL_len hm).2.symm
theorem termT_pk0 {p : Str} {less : List Str} (h : PK p less = [p]) : termT p less = none := by
  unfold PK at h
  unfold termT
  simp only
  rw [if_pos h]
theorem termT_pk1 {p : Str} {less : List Str} (h : PK p less ≠ [p]) : termT p less = some ⟨p, PK p less⟩ := by
  unfold PK at h
  unfold termT
  simp only
  rw [if_neg h]
  rfl
theorem one_is {α : Type} {l : List α} {x y : α} (h1 : l.length = 1) (h2 : l[0]? = some x) : l = [y] ↔ x = y := by
  match l, h1 with
  | [z], _ => simp at h2; subst h2; simp
@[reducible] def drow (x : TR) : List D := [.s x.t.p, .lst 9 (x.t.less.map srow) x.room]
def RTerm (p : Str) (less : List Str) (d : D) (rows : Vx.Rows) : Prop :=
  rows = [] ∧ ((termT p less = none ∧ d = .tup [.agg (drow ⟨⟨[], []⟩, []⟩), .b False]) ∨ ∃ t rm, termT p less = some t ∧ d = .tup [.agg (drow ⟨t, rm⟩), .b True])
set_option maxHeartbeats 8000000 in
theorem rterm_at (p : Str) (less : List Str) {rl rm : List (List D)} (hp : p ≠ []) (hpl : p.length ≤ 256) (hl : less.length ≤ 100000) (hok : ∀ m ∈ less, m.length ≤ 256) (h : rl = less.map srow) :
    FSpec Tryz.prog T 74 [.s p, .lst 9 rl rm] (RTerm p less) := by
  subst h
  have hll : (less.map srow).length = less.length := by simp
  refine FSpec.of_ok tok Tryz.func74 rfl Tryz.call74 (by simp) ?_
  (try (conv => whnf)); repeat' (first | refine Ok.seq ?_ | (refine Ok.region tok ?_; conv => whnf) | (refine Ok.cond ?_; conv => whnf) | refine Ok.block ?_ | (refine Ok.skip ?_; conv => whnf) | (refine Ok.exit ?_; conv => whnf) | (refine Ok.ret ?_; conv => whnf) | (refine num_in (by omega) (by omega) ?_; conv => whnf) | (refine ix _ (by assumption) ?_; conv => whnf) | (refine ixI (by omega) (by assumption) ?_; conv => whnf) | (refine ix_new _ (by omega) fun _ _ => ?_; conv => whnf) | (refine ixI_new (by omega) (by omega) fun _ _ => ?_; conv => whnf) | (refine ⟨_, by assumption, ?_⟩; conv => whnf) | (refine Alt2.l (And.intro (by first | omega | (simp; done) | (simp; omega)) ?_); conv => whnf) | (refine Alt2.r (And.intro (by first | omega | (simp; done) | (simp; omega)) ?_); conv => whnf) | (refine Ok.scope ?_) | (refine Ok.label ?_; conv => whnf) | (refine rd rfl (by assumption) ?_; conv => whnf) | (refine ⟨_, .inl ⟨rfl, rfl⟩, ?_⟩; conv => whnf) | (refine ⟨_, _, rfl, rfl, ?_⟩; conv => whnf) | (refine ⟨fun _ => ?_, fun _ => ?_⟩ <;> (conv => whnf) <;> (try (exfalso; omega))) | (refine And.intro (by first | omega | rfl | (simp; done) | (simp; omega)) ?_; conv => whnf) | (refine num_any ?_; conv => whnf) | (refine ⟨_, rfl, ?_⟩; conv => whnf) | fail)
  refine Ok.nilC 1 1 9 rfl rfl ?_
  (conv => whnf)
  refine Ok.loopU [0, 1, 4, 6] [7] 0 2 (fun (x : Nat × List (List D)) => [.i .i64 (x.1 : Nat)]) (fun (x : Nat × List (List D)) (_ : List (List D)) => [[.s [], .nilS], [.s p, .lst 9 ((PK p (less.take x.1)).map srow) x.2]]) (fun _ r => r) (fun (x : Nat × List (List D)) => x.1 ≤ less.length) (fun (x : Nat × List (List D)) => less.length - x.1) ((0, [])) (Nat.zero_le _) ?_; (conv => whnf); refine ⟨by ((conv => whnf); first | rfl | (simp [envCat, List.take_of_length_le, bcell, srow]; done) | (simp [envCat, List.take_of_length_le, bcell, srow]; rw [IntKind.wrap_i64]; omega)), ?_⟩
  rintro ⟨i, rm1⟩ hi
  dsimp only at hi ⊢
  have hkl := PK_len p less i
  have hkm : ∀ x ∈ PK p (less.take i), x ≠ [] ∧ x.length ≤ 100000 := fun x hx => by
    have := metL_wide (PK_mem hx)
    exact ⟨fun e => hp (List.eq_nil_of_length_eq_zero (by rw [← this, e]; rfl)), by omega⟩
  (conv => whnf)
  by_cases hil : i < less.length
  · obtain ⟨m, hm⟩ : ∃ m, less[i]? = some m := ⟨_, List.getElem?_eq_getElem hil⟩
    have hmo := hok m (List.mem_of_getElem? hm)
    have hsp := rmeet_at m p (by omega)
    cases hmt : meetT m p with
    | none =>
      rw [hmt] at hsp
      (try (conv => whnf)); repeat' (first | refine Ok.seq ?_ | (refine Ok.region tok ?_; conv => whnf) | (refine Ok.region_draw tok follows (by kernel_rfl) ?_; conv => whnf) | (refine Ok.cond ?_; conv => whnf) | refine Ok.block ?_ | (refine Ok.skip ?_; conv => whnf) | (refine Ok.exit ?_; conv => whnf) | (refine Ok.ret ?_; conv => whnf) | (refine num_in (by omega) (by omega) ?_; conv => whnf) | (refine ix _ (by assumption) ?_; conv => whnf) | (refine ixI (by omega) (by assumption) ?_; conv => whnf) | (refine ix_new _ (by omega) fun _ _ => ?_; conv => whnf) | (refine ixI_new (by omega) (by omega) fun _ _ => ?_; conv => whnf) | (refine ⟨_, by assumption, ?_⟩; conv => whnf) | (refine Or.inr (Or.inl ?_); (conv => whnf); (repeat (refine And.intro (by first | omega | (simp; done) | (simp; omega)) ?_; (conv => whnf))); refine ⟨_, hsp, ?_⟩; rintro _ _ ⟨rfl, rfl⟩ <;> (conv => whnf)) | (refine Alt2.l (And.intro (by first | omega | (simp; done) | (simp; omega)) ?_); conv => whnf) | (refine Alt2.r (And.intro (by first | omega | (simp; done) | (simp; omega)) ?_); conv => whnf) | (refine Ok.scope ?_) | (refine Ok.label ?_; conv => whnf) | (refine rd rfl (by assumption) ?_; conv => whnf) | (refine ⟨_, .inl ⟨rfl, rfl⟩, ?_⟩; conv => whnf) | (refine ⟨_, _, rfl, rfl, ?_⟩; conv => whnf) | (refine ⟨fun _ => ?_, fun _ => ?_⟩ <;> (conv => whnf) <;> (try (exfalso; omega))) | (refine And.intro (by first | omega | rfl | (simp; done) | (simp; omega)) ?_; conv => whnf) | (refine num_any ?_; conv => whnf) | (refine ⟨_, rfl, ?_⟩; conv => whnf) | fail)
      · rename_i h2
        exact absurd h2 (by simp)
      · refine ⟨(i + 1, rm1), by dsimp only; omega, by dsimp only; omega, ?_⟩
        dsimp only
        rw [PK_none hm hmt]
        (conv => whnf)
        rfl
    | some c =>
      rw [hmt] at hsp
      have hcw : c ≠ [] ∧ c.length ≤ 100000 := by
        unfold meetT at hmt
        split at hmt
        · cases hmt
        · have := meetL_len hmt
          exact ⟨fun e => hp (List.eq_nil_of_length_eq_zero (by rw [this.2, e]; rfl)), by omega⟩
      (try (conv => whnf)); repeat' (first | refine Ok.seq ?_ | (refine Ok.region tok ?_; conv => whnf) | (refine Ok.region_draw tok follows (by kernel_rfl) ?_; conv => whnf) | (refine Ok.cond ?_; conv => whnf) | refine Ok.block ?_ | (refine Ok.skip ?_; conv => whnf) | (refine Ok.exit ?_; conv => whnf) | (refine Ok.ret ?_; conv => whnf) | (refine num_in (by omega) (by omega) ?_; conv => whnf) | (refine ix _ (by assumption) ?_; conv => whnf) | (refine ixI (by omega) (by assumption) ?_; conv => whnf) | (refine ix_new _ (by omega) fun _ _ => ?_; conv => whnf) | (refine ixI_new (by omega) (by omega) fun _ _ => ?_; conv => whnf) | (refine ⟨_, by assumption, ?_⟩; conv => whnf) | (refine Or.inr (Or.inl ?_); (conv => whnf); (repeat (refine And.intro (by first | omega | (simp; done) | (simp; omega)) ?_; (conv => whnf))); refine ⟨_, hsp, ?_⟩; rintro _ _ ⟨rfl, rfl⟩ <;> (conv => whnf)) | (refine Or.inr (Or.inl ?_); (conv => whnf); (repeat (refine And.intro (by first | omega | (simp; done) | (simp; omega)) ?_; (conv => whnf))); refine ⟨_, rput_at (PK p (less.take i)) c (by omega) hkm hcw.1 hcw.2 rfl , ?_⟩; rintro _ _ ⟨rm2, rfl, rfl⟩ <;> (conv => whnf)) | (refine Alt2.l (And.intro (by first | omega | (simp; done) | (simp; omega)) ?_); conv => whnf) | (refine Alt2.r (And.intro (by first | omega | (simp; done) | (simp; omega)) ?_); conv => whnf) | (refine Ok.scope ?_) | (refine Ok.label ?_; conv => whnf) | (refine rd rfl (by assumption) ?_; conv => whnf) | (refine ⟨_, .inl ⟨rfl, rfl⟩, ?_⟩; conv => whnf) | (refine ⟨_, _, rfl, rfl, ?_⟩; conv => whnf) | (refine ⟨fun _ => ?_, fun _ => ?_⟩ <;> (conv => whnf) <;> (try (exfalso; omega))) | (refine And.intro (by first | omega | rfl | (simp; done) | (simp; omega)) ?_; conv => whnf) | (refine num_any ?_; conv => whnf) | (refine ⟨_, rfl, ?_⟩; conv => whnf) | fail)
      · rename_i rm2
        refine ⟨(i + 1, rm2), by dsimp only; omega, by dsimp only; omega, ?_⟩
        dsimp only
        rw [PK_some hm hmt]
        (conv => whnf)
        rfl
      · rename_i h2
        exact absurd rfl h2
  · have hie : i = less.length := by omega
    subst hie
    rw [List.take_length] at hkl ⊢
    have ht0 := termT_pk0 (p := p) (less := less)
    have ht1 := termT_pk1 (p := p) (less := less)
    generalize PK p less = K at *
    have hKl : (K.map srow).length = K.length := by simp
    (try (conv => whnf)); repeat' (first | refine Ok.seq ?_ | (refine Ok.region tok ?_; conv => whnf) | (refine Ok.region_draw tok follows (by kernel_rfl) ?_; conv => whnf) | (refine Ok.cond ?_; conv => whnf) | refine Ok.block ?_ | (refine Ok.skip ?_; conv => whnf) | (refine Ok.exit ?_; conv => whnf) | (refine Ok.ret ?_; conv => whnf) | (refine num_in (by omega) (by omega) ?_; conv => whnf) | (refine ix _ (by assumption) ?_; conv => whnf) | (refine ixI (by omega) (by assumption) ?_; conv => whnf) | (refine ix_new _ (by omega) fun _ _ => ?_; conv => whnf) | (refine ixI_new (by omega) (by omega) fun _ _ => ?_; conv => whnf) | (refine ⟨_, by assumption, ?_⟩; conv => whnf) | (refine Alt2.l (And.intro (by first | omega | (simp; done) | (simp; omega)) ?_); conv => whnf) | (refine Alt2.r (And.intro (by first | omega | (simp; done) | (simp; omega)) ?_); conv => whnf) | (refine Ok.scope ?_) | (refine Ok.label ?_; conv => whnf) | (refine rd rfl (by assumption) ?_; conv => whnf) | (refine ⟨_, .inl ⟨rfl, rfl⟩, ?_⟩; conv => whnf) | (refine ⟨_, _, rfl, rfl, ?_⟩; conv => whnf) | (refine ⟨fun _ => ?_, fun _ => ?_⟩ <;> (conv => whnf) <;> (try (exfalso; omega))) | (refine And.intro (by first | omega | rfl | (simp; done) | (simp; omega)) ?_; conv => whnf) | (refine num_any ?_; conv => whnf) | (refine ⟨_, rfl, ?_⟩; conv => whnf) | fail)
    · rename_i h1 x hx hxp
      have h1' : K.length = 1 := by omega
      refine Or.inl ?_; (conv => whnf)
      refine ⟨rfl, .inl ⟨ht0 ((one_is h1' hx).2 hxp), rfl⟩⟩
    · rename_i h1 x hx hxp
      have h1' : K.length = 1 := by omega
      refine Or.inl ?_; (conv => whnf)
      exact ⟨rfl, .inr ⟨_, rm1, ht1 (fun e => hxp ((one_is h1' hx).1 e)), rfl⟩⟩
    · rename_i h1
      refine Or.inl ?_; (conv => whnf)
      exact ⟨rfl, .inr ⟨_, rm1, ht1 (fun e => by rw [e] at h1; simp at h1), rfl⟩⟩
end Go.Proofs.YtaiondckookpiaaGreatDoor
