/- The walks and the plain laws that a law of spaces needs, part 6 of 6. -/
import Derived.Test.YtaiondckookpiaaDoorPQE
set_option linter.unusedVariables false
set_option linter.unusedSimpArgs false
namespace Go.Proofs.YtaiondckookpiaaDoor
open Go Go.Vx
set_option maxHeartbeats 8000000 in
theorem split_at (c d : Str) (hc : CN c) (hd : CT d) : FSpec Tryd.prog T 83 [.agg (crow c), .agg (crow d)] (fun r rows => ∃ rm, r = .lst 69 ((splitT c d).map crow) rm ∧ rows = []) := by
  have hcl := hc.1.len
  have hm := meet_at c d hc.1 hd
  refine FSpec.of_ok tok Tryd.func83 rfl Tryd.call83 (by simp) ?_
  by_cases hs : (meetT c d).isSome = true
  · have hl : d.length = c.length := by
      obtain ⟨m, hm⟩ := Option.isSome_iff_exists.1 hs
      rw [meetT_eq hc.2] at hm
      have := meetL_len hm
      omega
    (try (conv => whnf)); repeat' (first | ((with_reducible_and_instances (first | refine nShr (by assumption) ?_ | refine nShl1' rfl (by assumption) ?_ | refine nAnd ?_ | refine nOr ?_ | refine nXor ?_ | refine nAndNot ?_ | refine nAnd1' rfl ?_)); conv => whnf) | refine Ok.seq ?_ | refine OkL.cons ?_ | ((first | refine Ok.region tok ?_ | refine Ok.region_draw tok follows (by kernel_rfl) ?_ | refine Ok.cond ?_); conv => whnf) | refine Ok.block ?_ | ((first | refine Ok.skip ?_ | refine Ok.exit ?_ | refine Ok.ret ?_ | refine nI ?_ | refine ix _ (by assumption) ?_ | refine ixI (by omega) (by assumption) ?_ | refine ix_new _ (by omega) fun _ _ => ?_ | refine ixI_new (by omega) (by omega) fun _ _ => ?_ | refine ⟨_, by assumption, ?_⟩); conv => whnf) | (refine Or.inr (Or.inl ?_); (conv => whnf); (repeat (refine aI ?_; conv => whnf)); refine ⟨_, hm, ?_⟩; rintro _ _ ⟨rfl, rfl⟩ <;> (conv => whnf)) | ((first | refine Alt2.l (aI ?_) | refine Alt2.r (aI ?_)); conv => whnf) | (refine Ok.scope ?_) | ((first | refine Ok.label ?_ | refine rd rfl (by assumption) ?_ | refine ⟨_, .inl ⟨rfl, rfl⟩, ?_⟩ | refine ⟨_, _, rfl, rfl, ?_⟩); conv => whnf) | (refine ⟨fun _ => ?_, fun _ => ?_⟩ <;> (conv => whnf) <;> (try (exfalso; omega))) | ((first | refine aJ ?_ | refine num_any ?_ | refine ⟨_, rfl, ?_⟩); conv => whnf) | fail)
    · exact absurd hs (by assumption)
    refine Ok.ghost 7 69 rfl ?_
    (conv => whnf)
    have e0 : crow c = crow (curL c d 0) := by rw [curL_zero]
    have hll : ((List.length c : Nat) : Int) = ((List.length (curL c d 0) : Nat) : Int) := by rw [curL_zero]
    refine Ok.loopU [2, 3, 21] [7, 22] 1 3 (fun (i : Nat) => [.own 0 (pcsT c d i).length, .i .i64 (i : Nat)]) (fun (i : Nat) (_ : List (List D)) => [crow (curL c d i), crow d, crow ((meetT c d).getD [])]) (fun (i : Nat) (_ : Vx.Rows) => [some (69, (pcsT c d i).map crow)]) (fun (i : Nat) => i ≤ c.length) (fun (i : Nat) => c.length - i) (0) (Nat.zero_le _) ?_; (conv => whnf); refine ⟨by ((conv => whnf); first | rfl | (simp [envCat, List.take_of_length_le, cells9, crow]; done) | (simp [envCat, List.take_of_length_le, cells9, crow]; rw [IntKind.wrap_i64]; omega)), ?_⟩
    rintro i hi
    have hcu := curL_len hl i
    have hct := curL_ct hc.1 hd hl i
    have hpl := pcsT_len c d i
    have hpm : ((pcsT c d i).map crow).length = (pcsT c d i).length := by simp
    (conv => whnf)
    by_cases hil : i < c.length
    · obtain ⟨a, ha⟩ : ∃ a, c[i]? = some a := ⟨_, List.getElem?_eq_getElem hil⟩
      obtain ⟨b, hb⟩ : ∃ b, d[i]? = some b := ⟨_, List.getElem?_eq_getElem (by omega)⟩
      have hz := curL_at ha (show i < d.length by omega)
      have hac := hc.1.cub a (List.mem_of_getElem? ha)
      have hbc := hd.cub b (List.mem_of_getElem? hb)
      have hpc := pcT_at ha hb
      have hsu := curL_succ ha hb
      have hsm := fun h => curL_same ha hb h
      generalize hL : curL c d i = L at *
      generalize hQ : pcsT c d i = Q at *
      have s1 := at_two (car L) (one L) i (by omega)
      have s2 := at_two (car d) (one d) i (by omega)
      have s3 := at_one (one d) i (by omega)
      rw [(at_b hz).1] at s1
      rw [(at_b hb).1] at s2
      rw [(at_b hb).2] at s3
      obtain ⟨q, r, hqr, hr, hq⟩ := split64 i (by omega)
      have hrem := rem64 hqr hr
      have hquo := quo64 hqr hr (by omega)
      have hrr : ((r : Nat) : Int) = ((r : Nat) : Int) ∧ r < 64 := ⟨rfl, hr⟩
      by_cases hab : a = 120 ∧ b ≠ 120
      · obtain ⟨rfl, hb2⟩ := hab
        rw [if_pos ⟨rfl, hb2⟩] at hpc
        have hsn := pcsT_some hpc
        rw [hQ] at hsn
        rw [show ov1 120 b = b from rfl] at hsu
        rcases hbc with rfl | rfl | rfl
        · rw [show (97 : UInt8) - 48 = 49 from rfl] at hsn
          have k := put_word (f := car L) (g := car (L.set i 48)) hqr hr (car_set hz rfl)
          have k' := put_word (f := car L) (g := car (L.set i 49)) hqr hr (car_set hz rfl)
          have o := fun k => wof_ext (f := one (L.set i 48)) (g := one L) (k := k) fun j _ => one_set0 hz _
          have o' := put_word (f := one L) (g := one (L.set i 49)) hqr hr (one_set hz)
          rcases hq with rfl | rfl | rfl | rfl
          all_goals
            (try (conv => whnf)); repeat' (first | ((with_reducible_and_instances (first | refine nShr (by assumption) ?_ | refine nShl1' rfl (by assumption) ?_ | refine nAnd ?_ | refine nOr ?_ | refine nXor ?_ | refine nAndNot ?_ | refine nAnd1' rfl ?_)); conv => whnf) | refine Ok.seq ?_ | refine OkL.cons ?_ | ((first | refine Ok.region tok ?_ | refine Ok.region_draw tok follows (by kernel_rfl) ?_ | refine Ok.cond ?_); conv => whnf) | refine Ok.block ?_ | ((first | refine Ok.skip ?_ | refine Ok.exit ?_ | refine Ok.ret ?_ | refine nI ?_ | refine ix _ (by assumption) ?_ | refine ixI (by omega) (by assumption) ?_ | refine ix_new _ (by omega) fun _ _ => ?_ | refine ixI_new (by omega) (by omega) fun _ _ => ?_ | refine ⟨_, by assumption, ?_⟩); conv => whnf) | (refine Or.inr (Or.inr (Or.inr (Or.inr ?_))); (conv => whnf); refine effW.of (effK.peek (by rfl) (pk2 (.bp _ _ ( crow L) rfl (fun d hd => ints_crow _ d (List.mem_of_mem_drop hd))) (.i _ _)) (s1 ) ?_); rintro _ _ ⟨rfl, rfl⟩; (refine And.intro (by simp [gRowsP, grounds, D.ground]) ?_; conv => whnf)) | (refine Or.inr (Or.inr (Or.inr ?_)); (conv => whnf); refine effK.peek (by rfl) (pk2 (.bp _ _ ( crow L) rfl (fun d hd => ints_crow _ d (List.mem_of_mem_drop hd))) (.i _ _)) (s1 ) ?_; rintro _ _ ⟨rfl, rfl⟩; (refine And.intro (by simp [gRowsP, grounds, D.ground]) ?_; conv => whnf)) | (refine Or.inr (Or.inr (Or.inr (Or.inr ?_))); (conv => whnf); refine effW.of (effK.peek (by rfl) (pk2 (.bp _ _ ( crow d) rfl (fun d hd => ints_crow _ d (List.mem_of_mem_drop hd))) (.i _ _)) (s2 ) ?_); rintro _ _ ⟨rfl, rfl⟩; (refine And.intro (by simp [gRowsP, grounds, D.ground]) ?_; conv => whnf)) | (refine Or.inr (Or.inr (Or.inr ?_)); (conv => whnf); refine effK.peek (by rfl) (pk2 (.bp _ _ ( crow d) rfl (fun d hd => ints_crow _ d (List.mem_of_mem_drop hd))) (.i _ _)) (s2 ) ?_; rintro _ _ ⟨rfl, rfl⟩; (refine And.intro (by simp [gRowsP, grounds, D.ground]) ?_; conv => whnf)) | ((first | refine Alt2.l (aI ?_) | refine Alt2.r (aI ?_)); conv => whnf) | (refine Ok.scope ?_) | ((first | refine Ok.label ?_ | refine rd rfl (by assumption) ?_ | refine ⟨_, .inl ⟨rfl, rfl⟩, ?_⟩ | refine ⟨_, _, rfl, rfl, ?_⟩); conv => whnf) | (refine ⟨fun _ => ?_, fun _ => ?_⟩ <;> (conv => whnf) <;> (try (exfalso; omega))) | ((first | refine aJ ?_ | refine num_any ?_ | refine ⟨_, rfl, ?_⟩); conv => whnf) | fail)
            all_goals first
              | contradiction
              | skip
            refine Or.inr (Or.inr (Or.inl ?_)); (conv => whnf); refine ⟨_, _, Tryd.func70, rfl, Tryd.call70, ?_⟩; (conv => whnf)
            (try (conv => whnf)); repeat' (first | ((with_reducible_and_instances (first | refine nShr (by assumption) ?_ | refine nShl1' rfl (by assumption) ?_ | refine nAnd ?_ | refine nOr ?_ | refine nXor ?_ | refine nAndNot ?_ | refine nAnd1' rfl ?_)); conv => whnf) | refine Ok.seq ?_ | refine OkL.cons ?_ | ((first | refine Ok.region tok ?_ | refine Ok.region_plan (id := 0) tok follows [(5, 12, [])] [.q 0, .q 1, .q 2, .q 3, .q 4, .q 5, .q 6, .q 7, .q 8, .q 9, .q 10, .q 11, .l 12] (by kernel_rfl) ?_ | refine ⟨_, (hquo.symm).symm, ?_⟩ | refine ⟨_, (hrem.symm).symm, ?_⟩ | refine Ok.region_draw tok follows (by kernel_rfl) ?_ | refine Ok.cond ?_); conv => whnf) | refine Ok.block ?_ | ((first | refine Ok.skip ?_ | refine Ok.exit ?_ | refine Ok.ret ?_ | refine nI ?_ | refine ix _ (by assumption) ?_ | refine ixI (by omega) (by assumption) ?_ | refine ix_new _ (by omega) fun _ _ => ?_ | refine ixI_new (by omega) (by omega) fun _ _ => ?_ | refine ⟨_, by assumption, ?_⟩); conv => whnf) | (refine Or.inr (Or.inr (Or.inr (Or.inr ?_))); (conv => whnf); refine effW.of (effK.peek (by rfl) (pk2 (.bp _ _ ( crow d) rfl (fun d hd => ints_crow _ d (List.mem_of_mem_drop hd))) (.i _ _)) (s3 ) ?_); rintro _ _ ⟨rfl, rfl⟩; (refine And.intro (by simp [gRowsP, grounds, D.ground]) ?_; conv => whnf)) | (refine Or.inr (Or.inr (Or.inr ?_)); (conv => whnf); refine effK.peek (by rfl) (pk2 (.bp _ _ ( crow d) rfl (fun d hd => ints_crow _ d (List.mem_of_mem_drop hd))) (.i _ _)) (s3 ) ?_; rintro _ _ ⟨rfl, rfl⟩; (refine And.intro (by simp [gRowsP, grounds, D.ground]) ?_; conv => whnf)) | ((first | refine Alt2.l (aI ?_) | refine Alt2.r (aI ?_)); conv => whnf) | (refine Ok.scope ?_) | ((first | refine Ok.label ?_ | refine rd rfl (by assumption) ?_ | refine ⟨_, .inl ⟨rfl, rfl⟩, ?_⟩ | refine ⟨_, _, rfl, rfl, ?_⟩); conv => whnf) | (refine ⟨fun _ => ?_, fun _ => ?_⟩ <;> (conv => whnf) <;> (try (exfalso; omega))) | ((first | refine aJ ?_ | refine num_any ?_ | refine ⟨_, rfl, ?_⟩); conv => whnf) | fail)
            all_goals first
              | contradiction
              | skip
            refine Or.inr (Or.inr (Or.inl ?_)); (conv => whnf); refine ⟨_, _, Tryd.func70, rfl, Tryd.call70, ?_⟩; (conv => whnf)
            (try (conv => whnf)); repeat' (first | ((with_reducible_and_instances (first | refine nShr (by assumption) ?_ | refine nShl1' rfl (by assumption) ?_ | refine nAnd ?_ | refine nOr ?_ | refine nXor ?_ | refine nAndNot ?_ | refine nAnd1' rfl ?_)); conv => whnf) | refine Ok.seq ?_ | refine OkL.cons ?_ | ((first | refine Ok.region tok ?_ | refine Ok.region_plan (id := 0) tok follows [(5, 12, [])] [.q 0, .q 1, .q 2, .q 3, .q 4, .q 5, .q 6, .q 7, .q 8, .q 9, .q 10, .q 11, .l 12] (by kernel_rfl) ?_ | refine ⟨_, (hquo.symm).symm, ?_⟩ | refine ⟨_, (hrem.symm).symm, ?_⟩ | refine Ok.region_draw tok follows (by kernel_rfl) ?_ | refine Ok.cond ?_); conv => whnf) | refine Ok.block ?_ | ((first | refine Ok.skip ?_ | refine Ok.exit ?_ | refine Ok.ret ?_ | refine nI ?_ | refine ix _ (by assumption) ?_ | refine ixI (by omega) (by assumption) ?_ | refine ix_new _ (by omega) fun _ _ => ?_ | refine ixI_new (by omega) (by omega) fun _ _ => ?_ | refine ⟨_, by assumption, ?_⟩ | refine Alt2.l (aI ?_) | refine Alt2.r (aI ?_)); conv => whnf) | (refine Ok.scope ?_) | ((first | refine Ok.label ?_ | refine rd rfl (by assumption) ?_ | refine ⟨_, .inl ⟨rfl, rfl⟩, ?_⟩ | refine ⟨_, _, rfl, rfl, ?_⟩); conv => whnf) | (refine ⟨fun _ => ?_, fun _ => ?_⟩ <;> (conv => whnf) <;> (try (exfalso; omega))) | ((first | refine aJ ?_ | refine num_any ?_ | refine ⟨_, rfl, ?_⟩); conv => whnf) | fail)
            refine ⟨i + 1, by omega, by omega, ?_⟩
            rw [hsu, hsn]
            have a0 := (k 0).trans (by first | exact if_pos rfl | exact if_neg (by decide))
            have a1 := (k 1).trans (by first | exact if_pos rfl | exact if_neg (by decide))
            have a2 := (k 2).trans (by first | exact if_pos rfl | exact if_neg (by decide))
            have a3 := (k 3).trans (by first | exact if_pos rfl | exact if_neg (by decide))
            have b0 := o 0
            have b1 := o 1
            have b2 := o 2
            have b3 := o 3
            have e0 := (k' 0).trans (by first | exact if_pos rfl | exact if_neg (by decide))
            have e1 := (k' 1).trans (by first | exact if_pos rfl | exact if_neg (by decide))
            have e2 := (k' 2).trans (by first | exact if_pos rfl | exact if_neg (by decide))
            have e3 := (k' 3).trans (by first | exact if_pos rfl | exact if_neg (by decide))
            have f0 := (o' 0).trans (by first | exact if_pos rfl | exact if_neg (by decide))
            have f1 := (o' 1).trans (by first | exact if_pos rfl | exact if_neg (by decide))
            have f2 := (o' 2).trans (by first | exact if_pos rfl | exact if_neg (by decide))
            have f3 := (o' 3).trans (by first | exact if_pos rfl | exact if_neg (by decide))
            (conv => whnf)
            simp only [envCat, crow, cells9, List.length_set, List.map_append, List.map_cons, List.map_nil, List.length_append, List.length_map, List.length_cons, List.length_nil, a0, a1, a2, a3, b0, b1, b2, b3, e0, e1, e2, e3, f0, f1, f2, f3]
            rfl
        · rw [show (97 : UInt8) - 49 = 48 from rfl] at hsn
          have k := put_word (f := car L) (g := car (L.set i 49)) hqr hr (car_set hz rfl)
          have k' := put_word (f := car L) (g := car (L.set i 48)) hqr hr (car_set hz rfl)
          have o := put_word (f := one L) (g := one (L.set i 49)) hqr hr (one_set hz)
          have o' := fun k => wof_ext (f := one (L.set i 48)) (g := one L) (k := k) fun j _ => one_set0 hz _
          rcases hq with rfl | rfl | rfl | rfl
          all_goals
            (try (conv => whnf)); repeat' (first | ((with_reducible_and_instances (first | refine nShr (by assumption) ?_ | refine nShl1' rfl (by assumption) ?_ | refine nAnd ?_ | refine nOr ?_ | refine nXor ?_ | refine nAndNot ?_ | refine nAnd1' rfl ?_)); conv => whnf) | refine Ok.seq ?_ | refine OkL.cons ?_ | ((first | refine Ok.region tok ?_ | refine Ok.region_draw tok follows (by kernel_rfl) ?_ | refine Ok.cond ?_); conv => whnf) | refine Ok.block ?_ | ((first | refine Ok.skip ?_ | refine Ok.exit ?_ | refine Ok.ret ?_ | refine nI ?_ | refine ix _ (by assumption) ?_ | refine ixI (by omega) (by assumption) ?_ | refine ix_new _ (by omega) fun _ _ => ?_ | refine ixI_new (by omega) (by omega) fun _ _ => ?_ | refine ⟨_, by assumption, ?_⟩); conv => whnf) | (refine Or.inr (Or.inr (Or.inr (Or.inr ?_))); (conv => whnf); refine effW.of (effK.peek (by rfl) (pk2 (.bp _ _ ( crow L) rfl (fun d hd => ints_crow _ d (List.mem_of_mem_drop hd))) (.i _ _)) (s1 ) ?_); rintro _ _ ⟨rfl, rfl⟩; (refine And.intro (by simp [gRowsP, grounds, D.ground]) ?_; conv => whnf)) | (refine Or.inr (Or.inr (Or.inr ?_)); (conv => whnf); refine effK.peek (by rfl) (pk2 (.bp _ _ ( crow L) rfl (fun d hd => ints_crow _ d (List.mem_of_mem_drop hd))) (.i _ _)) (s1 ) ?_; rintro _ _ ⟨rfl, rfl⟩; (refine And.intro (by simp [gRowsP, grounds, D.ground]) ?_; conv => whnf)) | (refine Or.inr (Or.inr (Or.inr (Or.inr ?_))); (conv => whnf); refine effW.of (effK.peek (by rfl) (pk2 (.bp _ _ ( crow d) rfl (fun d hd => ints_crow _ d (List.mem_of_mem_drop hd))) (.i _ _)) (s2 ) ?_); rintro _ _ ⟨rfl, rfl⟩; (refine And.intro (by simp [gRowsP, grounds, D.ground]) ?_; conv => whnf)) | (refine Or.inr (Or.inr (Or.inr ?_)); (conv => whnf); refine effK.peek (by rfl) (pk2 (.bp _ _ ( crow d) rfl (fun d hd => ints_crow _ d (List.mem_of_mem_drop hd))) (.i _ _)) (s2 ) ?_; rintro _ _ ⟨rfl, rfl⟩; (refine And.intro (by simp [gRowsP, grounds, D.ground]) ?_; conv => whnf)) | ((first | refine Alt2.l (aI ?_) | refine Alt2.r (aI ?_)); conv => whnf) | (refine Ok.scope ?_) | ((first | refine Ok.label ?_ | refine rd rfl (by assumption) ?_ | refine ⟨_, .inl ⟨rfl, rfl⟩, ?_⟩ | refine ⟨_, _, rfl, rfl, ?_⟩); conv => whnf) | (refine ⟨fun _ => ?_, fun _ => ?_⟩ <;> (conv => whnf) <;> (try (exfalso; omega))) | ((first | refine aJ ?_ | refine num_any ?_ | refine ⟨_, rfl, ?_⟩); conv => whnf) | fail)
            all_goals first
              | contradiction
              | skip
            refine Or.inr (Or.inr (Or.inl ?_)); (conv => whnf); refine ⟨_, _, Tryd.func70, rfl, Tryd.call70, ?_⟩; (conv => whnf)
            (try (conv => whnf)); repeat' (first | ((with_reducible_and_instances (first | refine nShr (by assumption) ?_ | refine nShl1' rfl (by assumption) ?_ | refine nAnd ?_ | refine nOr ?_ | refine nXor ?_ | refine nAndNot ?_ | refine nAnd1' rfl ?_)); conv => whnf) | refine Ok.seq ?_ | refine OkL.cons ?_ | ((first | refine Ok.region tok ?_ | refine Ok.region_plan (id := 0) tok follows [(5, 12, [])] [.q 0, .q 1, .q 2, .q 3, .q 4, .q 5, .q 6, .q 7, .q 8, .q 9, .q 10, .q 11, .l 12] (by kernel_rfl) ?_ | refine ⟨_, (hquo.symm).symm, ?_⟩ | refine ⟨_, (hrem.symm).symm, ?_⟩ | refine Ok.region_draw tok follows (by kernel_rfl) ?_ | refine Ok.cond ?_); conv => whnf) | refine Ok.block ?_ | ((first | refine Ok.skip ?_ | refine Ok.exit ?_ | refine Ok.ret ?_ | refine nI ?_ | refine ix _ (by assumption) ?_ | refine ixI (by omega) (by assumption) ?_ | refine ix_new _ (by omega) fun _ _ => ?_ | refine ixI_new (by omega) (by omega) fun _ _ => ?_ | refine ⟨_, by assumption, ?_⟩); conv => whnf) | (refine Or.inr (Or.inr (Or.inr (Or.inr ?_))); (conv => whnf); refine effW.of (effK.peek (by rfl) (pk2 (.bp _ _ ( crow d) rfl (fun d hd => ints_crow _ d (List.mem_of_mem_drop hd))) (.i _ _)) (s3 ) ?_); rintro _ _ ⟨rfl, rfl⟩; (refine And.intro (by simp [gRowsP, grounds, D.ground]) ?_; conv => whnf)) | (refine Or.inr (Or.inr (Or.inr ?_)); (conv => whnf); refine effK.peek (by rfl) (pk2 (.bp _ _ ( crow d) rfl (fun d hd => ints_crow _ d (List.mem_of_mem_drop hd))) (.i _ _)) (s3 ) ?_; rintro _ _ ⟨rfl, rfl⟩; (refine And.intro (by simp [gRowsP, grounds, D.ground]) ?_; conv => whnf)) | ((first | refine Alt2.l (aI ?_) | refine Alt2.r (aI ?_)); conv => whnf) | (refine Ok.scope ?_) | ((first | refine Ok.label ?_ | refine rd rfl (by assumption) ?_ | refine ⟨_, .inl ⟨rfl, rfl⟩, ?_⟩ | refine ⟨_, _, rfl, rfl, ?_⟩); conv => whnf) | (refine ⟨fun _ => ?_, fun _ => ?_⟩ <;> (conv => whnf) <;> (try (exfalso; omega))) | ((first | refine aJ ?_ | refine num_any ?_ | refine ⟨_, rfl, ?_⟩); conv => whnf) | fail)
            all_goals first
              | contradiction
              | skip
            refine Or.inr (Or.inr (Or.inl ?_)); (conv => whnf); refine ⟨_, _, Tryd.func70, rfl, Tryd.call70, ?_⟩; (conv => whnf)
            (try (conv => whnf)); repeat' (first | ((with_reducible_and_instances (first | refine nShr (by assumption) ?_ | refine nShl1' rfl (by assumption) ?_ | refine nAnd ?_ | refine nOr ?_ | refine nXor ?_ | refine nAndNot ?_ | refine nAnd1' rfl ?_)); conv => whnf) | refine Ok.seq ?_ | refine OkL.cons ?_ | ((first | refine Ok.region tok ?_ | refine Ok.region_plan (id := 0) tok follows [(5, 12, [])] [.q 0, .q 1, .q 2, .q 3, .q 4, .q 5, .q 6, .q 7, .q 8, .q 9, .q 10, .q 11, .l 12] (by kernel_rfl) ?_ | refine ⟨_, (hquo.symm).symm, ?_⟩ | refine ⟨_, (hrem.symm).symm, ?_⟩ | refine Ok.region_draw tok follows (by kernel_rfl) ?_ | refine Ok.cond ?_); conv => whnf) | refine Ok.block ?_ | ((first | refine Ok.skip ?_ | refine Ok.exit ?_ | refine Ok.ret ?_ | refine nI ?_ | refine ix _ (by assumption) ?_ | refine ixI (by omega) (by assumption) ?_ | refine ix_new _ (by omega) fun _ _ => ?_ | refine ixI_new (by omega) (by omega) fun _ _ => ?_ | refine ⟨_, by assumption, ?_⟩ | refine Alt2.l (aI ?_) | refine Alt2.r (aI ?_)); conv => whnf) | (refine Ok.scope ?_) | ((first | refine Ok.label ?_ | refine rd rfl (by assumption) ?_ | refine ⟨_, .inl ⟨rfl, rfl⟩, ?_⟩ | refine ⟨_, _, rfl, rfl, ?_⟩); conv => whnf) | (refine ⟨fun _ => ?_, fun _ => ?_⟩ <;> (conv => whnf) <;> (try (exfalso; omega))) | ((first | refine aJ ?_ | refine num_any ?_ | refine ⟨_, rfl, ?_⟩); conv => whnf) | fail)
            refine ⟨i + 1, by omega, by omega, ?_⟩
            rw [hsu, hsn]
            have a0 := (k 0).trans (by first | exact if_pos rfl | exact if_neg (by decide))
            have a1 := (k 1).trans (by first | exact if_pos rfl | exact if_neg (by decide))
            have a2 := (k 2).trans (by first | exact if_pos rfl | exact if_neg (by decide))
            have a3 := (k 3).trans (by first | exact if_pos rfl | exact if_neg (by decide))
            have b0 := (o 0).trans (by first | exact if_pos rfl | exact if_neg (by decide))
            have b1 := (o 1).trans (by first | exact if_pos rfl | exact if_neg (by decide))
            have b2 := (o 2).trans (by first | exact if_pos rfl | exact if_neg (by decide))
            have b3 := (o 3).trans (by first | exact if_pos rfl | exact if_neg (by decide))
            have e0 := (k' 0).trans (by first | exact if_pos rfl | exact if_neg (by decide))
            have e1 := (k' 1).trans (by first | exact if_pos rfl | exact if_neg (by decide))
            have e2 := (k' 2).trans (by first | exact if_pos rfl | exact if_neg (by decide))
            have e3 := (k' 3).trans (by first | exact if_pos rfl | exact if_neg (by decide))
            have f0 := o' 0
            have f1 := o' 1
            have f2 := o' 2
            have f3 := o' 3
            (conv => whnf)
            simp only [envCat, crow, cells9, List.length_set, List.map_append, List.map_cons, List.map_nil, List.length_append, List.length_map, List.length_cons, List.length_nil, a0, a1, a2, a3, b0, b1, b2, b3, e0, e1, e2, e3, f0, f1, f2, f3]
            rfl
        · exact absurd rfl hb2
      · rw [if_neg hab] at hpc
        have hsn := pcsT_none hpc
        rw [hQ] at hsn
        have hsm := hsm hab
        have hcases : (dig a = true) ∨ (dig a = false ∧ dig b = false) := by
          rcases hac with rfl | rfl | rfl
          · left; rfl
          · left; rfl
          · right
            rcases hbc with rfl | rfl | rfl
            · exact absurd ⟨rfl, by decide⟩ hab
            · exact absurd ⟨rfl, by decide⟩ hab
            · exact ⟨rfl, rfl⟩
        rcases hcases with hda | ⟨hda, hdb⟩
        · rw [hda] at s1
          (try (conv => whnf)); repeat' (first | ((with_reducible_and_instances (first | refine nShr (by assumption) ?_ | refine nShl1' rfl (by assumption) ?_ | refine nAnd ?_ | refine nOr ?_ | refine nXor ?_ | refine nAndNot ?_ | refine nAnd1' rfl ?_)); conv => whnf) | refine Ok.seq ?_ | refine OkL.cons ?_ | ((first | refine Ok.region tok ?_ | refine Ok.region_draw tok follows (by kernel_rfl) ?_ | refine Ok.cond ?_); conv => whnf) | refine Ok.block ?_ | ((first | refine Ok.skip ?_ | refine Ok.exit ?_ | refine Ok.ret ?_ | refine nI ?_ | refine ix _ (by assumption) ?_ | refine ixI (by omega) (by assumption) ?_ | refine ix_new _ (by omega) fun _ _ => ?_ | refine ixI_new (by omega) (by omega) fun _ _ => ?_ | refine ⟨_, by assumption, ?_⟩); conv => whnf) | (refine Or.inr (Or.inr (Or.inr (Or.inr ?_))); (conv => whnf); refine effW.of (effK.peek (by rfl) (pk2 (.bp _ _ ( crow L) rfl (fun d hd => ints_crow _ d (List.mem_of_mem_drop hd))) (.i _ _)) (s1 ) ?_); rintro _ _ ⟨rfl, rfl⟩; (refine And.intro (by simp [gRowsP, grounds, D.ground]) ?_; conv => whnf)) | (refine Or.inr (Or.inr (Or.inr ?_)); (conv => whnf); refine effK.peek (by rfl) (pk2 (.bp _ _ ( crow L) rfl (fun d hd => ints_crow _ d (List.mem_of_mem_drop hd))) (.i _ _)) (s1 ) ?_; rintro _ _ ⟨rfl, rfl⟩; (refine And.intro (by simp [gRowsP, grounds, D.ground]) ?_; conv => whnf)) | (refine Or.inr (Or.inr (Or.inr (Or.inr ?_))); (conv => whnf); refine effW.of (effK.peek (by rfl) (pk2 (.bp _ _ ( crow d) rfl (fun d hd => ints_crow _ d (List.mem_of_mem_drop hd))) (.i _ _)) (s2 ) ?_); rintro _ _ ⟨rfl, rfl⟩; (refine And.intro (by simp [gRowsP, grounds, D.ground]) ?_; conv => whnf)) | (refine Or.inr (Or.inr (Or.inr ?_)); (conv => whnf); refine effK.peek (by rfl) (pk2 (.bp _ _ ( crow d) rfl (fun d hd => ints_crow _ d (List.mem_of_mem_drop hd))) (.i _ _)) (s2 ) ?_; rintro _ _ ⟨rfl, rfl⟩; (refine And.intro (by simp [gRowsP, grounds, D.ground]) ?_; conv => whnf)) | ((first | refine Alt2.l (aI ?_) | refine Alt2.r (aI ?_)); conv => whnf) | (refine Ok.scope ?_) | ((first | refine Ok.label ?_ | refine rd rfl (by assumption) ?_ | refine ⟨_, .inl ⟨rfl, rfl⟩, ?_⟩ | refine ⟨_, _, rfl, rfl, ?_⟩); conv => whnf) | (refine ⟨fun _ => ?_, fun _ => ?_⟩ <;> (conv => whnf) <;> (try (exfalso; omega))) | ((first | refine aJ ?_ | refine num_any ?_ | refine ⟨_, rfl, ?_⟩); conv => whnf) | fail)
          all_goals first
            | contradiction
            | (refine ⟨i + 1, by omega, by omega, ?_⟩
               rw [hsm, hsn]
               (conv => whnf)
               rfl)
            | (rename_i h; exact absurd rfl h)
        · rw [hda] at s1
          rw [hdb] at s2
          (try (conv => whnf)); repeat' (first | ((with_reducible_and_instances (first | refine nShr (by assumption) ?_ | refine nShl1' rfl (by assumption) ?_ | refine nAnd ?_ | refine nOr ?_ | refine nXor ?_ | refine nAndNot ?_ | refine nAnd1' rfl ?_)); conv => whnf) | refine Ok.seq ?_ | refine OkL.cons ?_ | ((first | refine Ok.region tok ?_ | refine Ok.region_draw tok follows (by kernel_rfl) ?_ | refine Ok.cond ?_); conv => whnf) | refine Ok.block ?_ | ((first | refine Ok.skip ?_ | refine Ok.exit ?_ | refine Ok.ret ?_ | refine nI ?_ | refine ix _ (by assumption) ?_ | refine ixI (by omega) (by assumption) ?_ | refine ix_new _ (by omega) fun _ _ => ?_ | refine ixI_new (by omega) (by omega) fun _ _ => ?_ | refine ⟨_, by assumption, ?_⟩); conv => whnf) | (refine Or.inr (Or.inr (Or.inr (Or.inr ?_))); (conv => whnf); refine effW.of (effK.peek (by rfl) (pk2 (.bp _ _ ( crow L) rfl (fun d hd => ints_crow _ d (List.mem_of_mem_drop hd))) (.i _ _)) (s1 ) ?_); rintro _ _ ⟨rfl, rfl⟩; (refine And.intro (by simp [gRowsP, grounds, D.ground]) ?_; conv => whnf)) | (refine Or.inr (Or.inr (Or.inr ?_)); (conv => whnf); refine effK.peek (by rfl) (pk2 (.bp _ _ ( crow L) rfl (fun d hd => ints_crow _ d (List.mem_of_mem_drop hd))) (.i _ _)) (s1 ) ?_; rintro _ _ ⟨rfl, rfl⟩; (refine And.intro (by simp [gRowsP, grounds, D.ground]) ?_; conv => whnf)) | (refine Or.inr (Or.inr (Or.inr (Or.inr ?_))); (conv => whnf); refine effW.of (effK.peek (by rfl) (pk2 (.bp _ _ ( crow d) rfl (fun d hd => ints_crow _ d (List.mem_of_mem_drop hd))) (.i _ _)) (s2 ) ?_); rintro _ _ ⟨rfl, rfl⟩; (refine And.intro (by simp [gRowsP, grounds, D.ground]) ?_; conv => whnf)) | (refine Or.inr (Or.inr (Or.inr ?_)); (conv => whnf); refine effK.peek (by rfl) (pk2 (.bp _ _ ( crow d) rfl (fun d hd => ints_crow _ d (List.mem_of_mem_drop hd))) (.i _ _)) (s2 ) ?_; rintro _ _ ⟨rfl, rfl⟩; (refine And.intro (by simp [gRowsP, grounds, D.ground]) ?_; conv => whnf)) | ((first | refine Alt2.l (aI ?_) | refine Alt2.r (aI ?_)); conv => whnf) | (refine Ok.scope ?_) | ((first | refine Ok.label ?_ | refine rd rfl (by assumption) ?_ | refine ⟨_, .inl ⟨rfl, rfl⟩, ?_⟩ | refine ⟨_, _, rfl, rfl, ?_⟩); conv => whnf) | (refine ⟨fun _ => ?_, fun _ => ?_⟩ <;> (conv => whnf) <;> (try (exfalso; omega))) | ((first | refine aJ ?_ | refine num_any ?_ | refine ⟨_, rfl, ?_⟩); conv => whnf) | fail)
          all_goals first
            | contradiction
            | (refine ⟨i + 1, by omega, by omega, ?_⟩
               rw [hsm, hsn]
               (conv => whnf)
               rfl)
            | (rename_i h; exact absurd (fun q => by cases q) h)
    · have hie : i = c.length := by omega
      subst hie
      have hsp : splitT c d = pcsT c d c.length := if_pos hs
      rw [hsp]
      (try (conv => whnf)); repeat' (first | ((with_reducible_and_instances (first | refine nShr (by assumption) ?_ | refine nShl1' rfl (by assumption) ?_ | refine nAnd ?_ | refine nOr ?_ | refine nXor ?_ | refine nAndNot ?_ | refine nAnd1' rfl ?_)); conv => whnf) | refine Ok.seq ?_ | refine OkL.cons ?_ | ((first | refine Ok.region tok ?_ | refine Ok.region_draw tok follows (by kernel_rfl) ?_ | refine Ok.cond ?_); conv => whnf) | refine Ok.block ?_ | ((first | refine Ok.skip ?_ | refine Ok.exit ?_ | refine Ok.ret ?_ | refine nI ?_ | refine ix _ (by assumption) ?_ | refine ixI (by omega) (by assumption) ?_ | refine ix_new _ (by omega) fun _ _ => ?_ | refine ixI_new (by omega) (by omega) fun _ _ => ?_ | refine ⟨_, by assumption, ?_⟩ | refine Alt2.l (aI ?_) | refine Alt2.r (aI ?_)); conv => whnf) | (refine Ok.scope ?_) | ((first | refine Ok.label ?_ | refine rd rfl (by assumption) ?_ | refine ⟨_, .inl ⟨rfl, rfl⟩, ?_⟩ | refine ⟨_, _, rfl, rfl, ?_⟩); conv => whnf) | (refine ⟨fun _ => ?_, fun _ => ?_⟩ <;> (conv => whnf) <;> (try (exfalso; omega))) | ((first | refine aJ ?_ | refine num_any ?_ | refine ⟨_, rfl, ?_⟩); conv => whnf) | fail)
      refine Or.inl ?_; (conv => whnf)
      refine ⟨[], ?_, rfl⟩
      rw [List.take_of_length_le (by simp), List.drop_of_length_le (by simp)]
      rfl
  · have hn : splitT c d = [c] := by unfold splitT; rw [if_neg hs]
    rw [hn]
    (try (conv => whnf)); repeat' (first | ((with_reducible_and_instances (first | refine nShr (by assumption) ?_ | refine nShl1' rfl (by assumption) ?_ | refine nAnd ?_ | refine nOr ?_ | refine nXor ?_ | refine nAndNot ?_ | refine nAnd1' rfl ?_)); conv => whnf) | refine Ok.seq ?_ | refine OkL.cons ?_ | ((first | refine Ok.region tok ?_ | refine Ok.region_draw tok follows (by kernel_rfl) ?_ | refine Ok.cond ?_); conv => whnf) | refine Ok.block ?_ | ((first | refine Ok.skip ?_ | refine Ok.exit ?_ | refine Ok.ret ?_ | refine nI ?_ | refine ix _ (by assumption) ?_ | refine ixI (by omega) (by assumption) ?_ | refine ix_new _ (by omega) fun _ _ => ?_ | refine ixI_new (by omega) (by omega) fun _ _ => ?_ | refine ⟨_, by assumption, ?_⟩); conv => whnf) | (refine Or.inr (Or.inl ?_); (conv => whnf); (repeat (refine aI ?_; conv => whnf)); refine ⟨_, hm, ?_⟩; rintro _ _ ⟨rfl, rfl⟩ <;> (conv => whnf)) | ((first | refine Alt2.l (aI ?_) | refine Alt2.r (aI ?_)); conv => whnf) | (refine Ok.scope ?_) | ((first | refine Ok.label ?_ | refine rd rfl (by assumption) ?_ | refine ⟨_, .inl ⟨rfl, rfl⟩, ?_⟩ | refine ⟨_, _, rfl, rfl, ?_⟩); conv => whnf) | (refine ⟨fun _ => ?_, fun _ => ?_⟩ <;> (conv => whnf) <;> (try (exfalso; omega))) | ((first | refine aJ ?_ | refine num_any ?_ | refine ⟨_, rfl, ?_⟩); conv => whnf) | fail)
    · refine Or.inl ?_; (conv => whnf)
      exact ⟨_, rfl, rfl⟩
    · rename_i h
      exact absurd (Classical.not_not.1 h) hs
end Go.Proofs.YtaiondckookpiaaDoor
namespace Go.Proofs.YtaiondckookpiaaDoor
open Go Go.Vx
theorem one_at (c : Str) : FSpec Tryd.prog T 58 [.agg (crow c)] (fun d rows => d = .fn 81 [] [.ep (crow c)] ∧ rows = []) := by
  refine FSpec.of_ok tok Tryd.func58 rfl Tryd.call58 (by simp) ?_
  (try (conv => whnf)); repeat' (first | refine Ok.seq ?_ | refine OkL.cons ?_ | ((first | refine Ok.region tok ?_ | refine Ok.region_draw tok follows (by kernel_rfl) ?_ | refine Ok.cond ?_); conv => whnf) | refine Ok.block ?_ | ((first | refine Ok.skip ?_ | refine Ok.exit ?_ | refine Ok.ret ?_ | refine nI ?_ | refine ix _ (by assumption) ?_ | refine ixI (by omega) (by assumption) ?_ | refine ix_new _ (by omega) fun _ _ => ?_ | refine ixI_new (by omega) (by omega) fun _ _ => ?_ | refine ⟨_, by assumption, ?_⟩ | refine Alt2.l (aI ?_) | refine Alt2.r (aI ?_)); conv => whnf) | (refine Ok.scope ?_) | ((first | refine Ok.label ?_ | refine rd rfl (by assumption) ?_ | refine ⟨_, .inl ⟨rfl, rfl⟩, ?_⟩ | refine ⟨_, _, rfl, rfl, ?_⟩); conv => whnf) | (refine ⟨fun _ => ?_, fun _ => ?_⟩ <;> (conv => whnf) <;> (try (exfalso; omega))) | ((first | refine aJ ?_ | refine num_any ?_ | refine ⟨_, rfl, ?_⟩); conv => whnf) | fail)
  refine Or.inr ?_
  (conv => whnf)
  (try (conv => whnf)); repeat' (first | (refine Ok.pubB (c := Code.ret) rfl ?_; (conv => whnf); refine Ok.ret ?_; (conv => whnf)) | refine Ok.seq ?_ | refine OkL.cons ?_ | ((first | refine Ok.region tok ?_ | refine Ok.region_draw tok follows (by kernel_rfl) ?_ | refine Ok.cond ?_); conv => whnf) | refine Ok.block ?_ | ((first | refine Ok.skip ?_ | refine Ok.exit ?_ | refine Ok.ret ?_ | refine nI ?_ | refine ix _ (by assumption) ?_ | refine ixI (by omega) (by assumption) ?_ | refine ix_new _ (by omega) fun _ _ => ?_ | refine ixI_new (by omega) (by omega) fun _ _ => ?_ | refine ⟨_, by assumption, ?_⟩ | refine Alt2.l (aI ?_) | refine Alt2.r (aI ?_)); conv => whnf) | (refine Ok.scope ?_) | ((first | refine Ok.label ?_ | refine rd rfl (by assumption) ?_ | refine ⟨_, .inl ⟨rfl, rfl⟩, ?_⟩ | refine ⟨_, _, rfl, rfl, ?_⟩); conv => whnf) | (refine ⟨fun _ => ?_, fun _ => ?_⟩ <;> (conv => whnf) <;> (try (exfalso; omega))) | ((first | refine aJ ?_ | refine num_any ?_ | refine ⟨_, rfl, ?_⟩); conv => whnf) | fail)
  refine Or.inl ?_; (conv => whnf)
  exact ⟨rfl, rfl⟩
theorem splits_at (l : List Str) (rm : List (List D)) (m : Str) : FSpec Tryd.prog T 59 [.lst 69 (l.map crow) rm, .agg (crow m)] (fun d rows => d = .fn 82 [] [.ep [.lst 69 (l.map crow) rm], .ep (crow m)] ∧ rows = []) := by
  refine FSpec.of_ok tok Tryd.func59 rfl Tryd.call59 (by simp) ?_
  (try (conv => whnf)); repeat' (first | refine Ok.seq ?_ | refine OkL.cons ?_ | ((first | refine Ok.region tok ?_ | refine Ok.region_draw tok follows (by kernel_rfl) ?_ | refine Ok.cond ?_); conv => whnf) | refine Ok.block ?_ | ((first | refine Ok.skip ?_ | refine Ok.exit ?_ | refine Ok.ret ?_ | refine nI ?_ | refine ix _ (by assumption) ?_ | refine ixI (by omega) (by assumption) ?_ | refine ix_new _ (by omega) fun _ _ => ?_ | refine ixI_new (by omega) (by omega) fun _ _ => ?_ | refine ⟨_, by assumption, ?_⟩ | refine Alt2.l (aI ?_) | refine Alt2.r (aI ?_)); conv => whnf) | (refine Ok.scope ?_) | ((first | refine Ok.label ?_ | refine rd rfl (by assumption) ?_ | refine ⟨_, .inl ⟨rfl, rfl⟩, ?_⟩ | refine ⟨_, _, rfl, rfl, ?_⟩); conv => whnf) | (refine ⟨fun _ => ?_, fun _ => ?_⟩ <;> (conv => whnf) <;> (try (exfalso; omega))) | ((first | refine aJ ?_ | refine num_any ?_ | refine ⟨_, rfl, ?_⟩); conv => whnf) | fail)
  refine Or.inr ?_
  (conv => whnf)
  (try (conv => whnf)); repeat' (first | (refine Ok.pubB (c := Code.ret) rfl ?_; (conv => whnf); refine Ok.ret ?_; (conv => whnf)) | refine Ok.seq ?_ | refine OkL.cons ?_ | ((first | refine Ok.region tok ?_ | refine Ok.region_draw tok follows (by kernel_rfl) ?_ | refine Ok.cond ?_); conv => whnf) | refine Ok.block ?_ | ((first | refine Ok.skip ?_ | refine Ok.exit ?_ | refine Ok.ret ?_ | refine nI ?_ | refine ix _ (by assumption) ?_ | refine ixI (by omega) (by assumption) ?_ | refine ix_new _ (by omega) fun _ _ => ?_ | refine ixI_new (by omega) (by omega) fun _ _ => ?_ | refine ⟨_, by assumption, ?_⟩ | refine Alt2.l (aI ?_) | refine Alt2.r (aI ?_)); conv => whnf) | (refine Ok.scope ?_) | ((first | refine Ok.label ?_ | refine rd rfl (by assumption) ?_ | refine ⟨_, .inl ⟨rfl, rfl⟩, ?_⟩ | refine ⟨_, _, rfl, rfl, ?_⟩); conv => whnf) | (refine ⟨fun _ => ?_, fun _ => ?_⟩ <;> (conv => whnf) <;> (try (exfalso; omega))) | ((first | refine aJ ?_ | refine num_any ?_ | refine ⟨_, rfl, ?_⟩); conv => whnf) | fail)
  refine Or.inl ?_; (conv => whnf)
  exact ⟨rfl, rfl⟩
def cubX (l : List Str) : List (List D) := l.map fun x => [.agg (crow x)]
theorem one_seq (c : Str) : YSpec Tryd.prog T 81 [.ep (crow c)] (cubX [c]) := by
  refine YSpec.of_okY Tryd.func81 rfl Tryd.call81 rfl (show 2 ≤ 6 by decide) fun l => ?_
  refine OkY.yreg tok 2 0 [.agg (crow c)] rfl ?_
  (conv => whnf)
  refine ⟨rfl, rfl, rfl, ?_⟩
  (conv => whnf)
  refine ⟨?_, ?_⟩
  · (conv => whnf)
    exact ⟨.inl rfl, .inl rfl⟩
  · (conv => whnf)
    exact ⟨.inl rfl, .inr rfl⟩
def splL (m : Str) (l : List Str) : List Str := l.flatMap fun c => splitT c m
theorem splL_snoc {m : Str} {l : List Str} {i : Nat} {c : Str} (hc : l[i]? = some c) : splL m (l.take (i + 1)) = splL m (l.take i) ++ splitT c m := by
  unfold splL; rw [take_snoc hc, List.flatMap_append]; simp
theorem splL_at {m : Str} {l : List Str} {i j : Nat} {c x : Str} (hc : l[i]? = some c) (hx : (splitT c m)[j]? = some x) : (splL m l)[(splL m (l.take i)).length + j]? = some x := by
  have h1 : splL m l = (splL m (l.take i) ++ splitT c m) ++ splL m (l.drop (i + 1)) := by
    rw [← splL_snoc hc]
    unfold splL
    rw [← List.flatMap_append, List.take_append_drop]
  have hj : j < (splitT c m).length := (List.getElem?_eq_some_iff.1 hx).1
  rw [h1, List.getElem?_append_left (by rw [List.length_append]; omega), List.getElem?_append_right (by omega), Nat.add_sub_cancel_left]
  exact hx
theorem cubX_at {l : List Str} {k : Nat} {x : Str} (h : l[k]? = some x) : (cubX l)[k]? = some [.agg (crow x)] := by simp [cubX, h]
theorem splits_seq (l : List Str) (rm : List (List D)) (m : Str) (hl : ∀ c ∈ l, CN c) (hm : CT m) (hll : l.length ≤ 100000) : YSpec Tryd.prog T 82 [.ep [.lst 69 (l.map crow) rm], .ep (crow m)] (cubX (splL m l)) := by
  have hlm : (l.map crow).length = l.length := by simp
  refine YSpec.of_okY Tryd.func82 rfl Tryd.call82 rfl (show 3 ≤ 28 by decide) fun y => ?_
  refine OkY.seq (OkY.piece ?_)
  (try (conv => whnf)); repeat' (first | refine Ok.seq ?_ | refine OkL.cons ?_ | ((first | refine Ok.region tok ?_ | refine Ok.region_draw tok follows (by kernel_rfl) ?_ | refine Ok.cond ?_); conv => whnf) | refine Ok.block ?_ | ((first | refine Ok.skip ?_ | refine Ok.exit ?_ | refine Ok.ret ?_ | refine nI ?_ | refine ix _ (by assumption) ?_ | refine ixI (by omega) (by assumption) ?_ | refine ix_new _ (by omega) fun _ _ => ?_ | refine ixI_new (by omega) (by omega) fun _ _ => ?_ | refine ⟨_, by assumption, ?_⟩ | refine Alt2.l (aI ?_) | refine Alt2.r (aI ?_)); conv => whnf) | (refine Ok.scope ?_) | ((first | refine Ok.label ?_ | refine rd rfl (by assumption) ?_ | refine ⟨_, .inl ⟨rfl, rfl⟩, ?_⟩ | refine ⟨_, _, rfl, rfl, ?_⟩); conv => whnf) | (refine ⟨fun _ => ?_, fun _ => ?_⟩ <;> (conv => whnf) <;> (try (exfalso; omega))) | ((first | refine aJ ?_ | refine num_any ?_ | refine ⟨_, rfl, ?_⟩); conv => whnf) | fail)
  refine OkY.block ?_
  refine OkY.loopK [0, 2, 8, 9, 10] (fun i : Nat => [(0, .yld y), (2, .ep (crow m)), (8, .lst 69 (l.map crow) rm), (9, .i .i64 (l.map crow).length), (10, .i .i64 (i : Nat))]) (fun i => some (splL m (l.take i)).length) (fun i => i ≤ l.length) (fun i => l.length - i) 0 (Nat.zero_le _) (by simp [splL]) (by
    (conv => whnf)
    rfl) ?_
  intro i hi
  refine OkY.seq (OkY.piece ?_)
  (try (conv => whnf)); repeat' (first | refine Ok.seq ?_ | refine OkL.cons ?_ | ((first | refine Ok.region tok ?_ | refine Ok.region_draw tok follows (by kernel_rfl) ?_ | refine Ok.cond ?_); conv => whnf) | refine Ok.block ?_ | ((first | refine Ok.skip ?_ | refine Ok.exit ?_ | refine Ok.ret ?_ | refine nI ?_ | refine ix _ (by assumption) ?_ | refine ixI (by omega) (by assumption) ?_ | refine ix_new _ (by omega) fun _ _ => ?_ | refine ixI_new (by omega) (by omega) fun _ _ => ?_ | refine ⟨_, by assumption, ?_⟩ | refine Alt2.l (aI ?_) | refine Alt2.r (aI ?_)); conv => whnf) | (refine Ok.scope ?_) | ((first | refine Ok.label ?_ | refine rd rfl (by assumption) ?_ | refine ⟨_, .inl ⟨rfl, rfl⟩, ?_⟩ | refine ⟨_, _, rfl, rfl, ?_⟩); conv => whnf) | (refine ⟨fun _ => ?_, fun _ => ?_⟩ <;> (conv => whnf) <;> (try (exfalso; omega))) | ((first | refine aJ ?_ | refine num_any ?_ | refine ⟨_, rfl, ?_⟩); conv => whnf) | fail)
  refine OkY.seq (OkY.cond ?_)
  (conv => whnf)
  refine ⟨fun h => ?_, fun h => ?_⟩
  · refine OkY.skip ?_
    (conv => whnf)
    have hil : i < l.length := by omega
    obtain ⟨c, hc⟩ : ∃ c, l[i]? = some c := ⟨_, List.getElem?_eq_getElem hil⟩
    have hcI : l[((i : Nat) : Int).toNat]? = some c := hc
    have hcn := hl c (List.mem_of_getElem? hc)
    have hsl := splitT_len (d := m) hcn.1.len
    have hslm : ((splitT c m).map crow).length = (splitT c m).length := by simp
    have hsn := splL_snoc (m := m) hc
    have hat := fun j x => splL_at (m := m) (j := j) (x := x) hc
    refine OkY.seq (OkY.block (OkY.ofZ (OkZ.seq ?_)))
    (try (conv => whnf)); repeat' (first | refine Ok.seq ?_ | refine OkL.cons ?_ | ((first | refine Ok.region tok ?_ | refine Ok.region_draw tok follows (by kernel_rfl) ?_ | refine Ok.cond ?_); conv => whnf) | refine Ok.block ?_ | ((first | refine Ok.skip ?_ | refine Ok.exit ?_ | refine Ok.ret ?_ | refine nI ?_ | refine ix _ (by assumption) ?_ | refine ixI (by omega) (by assumption) ?_ | refine ix_new _ (by omega) fun _ _ => ?_ | refine ixI_new (by omega) (by omega) fun _ _ => ?_ | refine ⟨_, by assumption, ?_⟩ | refine Alt2.l (aI ?_) | refine Alt2.r (aI ?_)); conv => whnf) | (refine Ok.scope ?_) | ((first | refine Ok.label ?_ | refine rd rfl (by assumption) ?_ | refine ⟨_, .inl ⟨rfl, rfl⟩, ?_⟩ | refine ⟨_, _, rfl, rfl, ?_⟩); conv => whnf) | (refine ⟨fun _ => ?_, fun _ => ?_⟩ <;> (conv => whnf) <;> (try (exfalso; omega))) | ((first | refine aJ ?_ | refine num_any ?_ | refine ⟨_, rfl, ?_⟩); conv => whnf) | fail)
    refine OkZ.seq ?_
    (try (conv => whnf)); repeat' (first | refine Ok.seq ?_ | refine OkL.cons ?_ | ((first | refine Ok.region tok ?_ | refine Ok.region_draw tok follows (by kernel_rfl) ?_ | refine Ok.cond ?_); conv => whnf) | refine Ok.block ?_ | ((first | refine Ok.skip ?_ | refine Ok.exit ?_ | refine Ok.ret ?_ | refine nI ?_ | refine ix _ (by assumption) ?_ | refine ixI (by omega) (by assumption) ?_ | refine ix_new _ (by omega) fun _ _ => ?_ | refine ixI_new (by omega) (by omega) fun _ _ => ?_ | refine ⟨_, by assumption, ?_⟩); conv => whnf) | (refine Or.inr (Or.inl ?_); (conv => whnf); (repeat (refine aI ?_; conv => whnf)); refine ⟨_, split_at c m hcn hm , ?_⟩; rintro _ _ ⟨rm2, rfl, rfl⟩ <;> (conv => whnf)) | ((first | refine Alt2.l (aI ?_) | refine Alt2.r (aI ?_)); conv => whnf) | (refine Ok.scope ?_) | ((first | refine Ok.label ?_ | refine rd rfl (by assumption) ?_ | refine ⟨_, .inl ⟨rfl, rfl⟩, ?_⟩ | refine ⟨_, _, rfl, rfl, ?_⟩); conv => whnf) | (refine ⟨fun _ => ?_, fun _ => ?_⟩ <;> (conv => whnf) <;> (try (exfalso; omega))) | ((first | refine aJ ?_ | refine num_any ?_ | refine ⟨_, rfl, ?_⟩); conv => whnf) | fail)
    refine OkZ.ofY ?_
    (conv => whnf)
    refine OkY.block ?_
    generalize hS : splitT c m = S at *
    refine OkY.loopK [0, 2, 8, 9, 10, 16, 17, 18] (fun j : Nat => [(0, .yld y), (2, .ep (crow m)), (8, .lst 69 (l.map crow) rm), (9, .i .i64 (l.map crow).length), (10, .i .i64 (i : Nat)), (16, .lst 69 (S.map crow) rm2), (17, .i .i64 (S.map crow).length), (18, .i .i64 (j : Nat))]) (fun j => some ((splL m (l.take i)).length + j)) (fun j => j ≤ S.length) (fun j => S.length - j) 0 (Nat.zero_le _) (by simp) (by
      (conv => whnf)
      rfl) ?_
    intro j hj
    refine OkY.seq (OkY.piece ?_)
    (try (conv => whnf)); repeat' (first | refine Ok.seq ?_ | refine OkL.cons ?_ | ((first | refine Ok.region tok ?_ | refine Ok.region_draw tok follows (by kernel_rfl) ?_ | refine Ok.cond ?_); conv => whnf) | refine Ok.block ?_ | ((first | refine Ok.skip ?_ | refine Ok.exit ?_ | refine Ok.ret ?_ | refine nI ?_ | refine ix _ (by assumption) ?_ | refine ixI (by omega) (by assumption) ?_ | refine ix_new _ (by omega) fun _ _ => ?_ | refine ixI_new (by omega) (by omega) fun _ _ => ?_ | refine ⟨_, by assumption, ?_⟩ | refine Alt2.l (aI ?_) | refine Alt2.r (aI ?_)); conv => whnf) | (refine Ok.scope ?_) | ((first | refine Ok.label ?_ | refine rd rfl (by assumption) ?_ | refine ⟨_, .inl ⟨rfl, rfl⟩, ?_⟩ | refine ⟨_, _, rfl, rfl, ?_⟩); conv => whnf) | (refine ⟨fun _ => ?_, fun _ => ?_⟩ <;> (conv => whnf) <;> (try (exfalso; omega))) | ((first | refine aJ ?_ | refine num_any ?_ | refine ⟨_, rfl, ?_⟩); conv => whnf) | fail)
    refine OkY.seq (OkY.cond ?_)
    (conv => whnf)
    refine ⟨fun h => ?_, fun h => ?_⟩
    · refine OkY.skip ?_
      (conv => whnf)
      have hjl : j < S.length := by omega
      obtain ⟨x, hx⟩ : ∃ x, S[j]? = some x := ⟨_, List.getElem?_eq_getElem hjl⟩
      have hxI : S[((j : Nat) : Int).toNat]? = some x := hx
      refine OkY.seq (OkY.block (OkY.ofZ (OkZ.seq ?_)))
      (try (conv => whnf)); repeat' (first | refine Ok.seq ?_ | refine OkL.cons ?_ | ((first | refine Ok.region tok ?_ | refine Ok.region_draw tok follows (by kernel_rfl) ?_ | refine Ok.cond ?_); conv => whnf) | refine Ok.block ?_ | ((first | refine Ok.skip ?_ | refine Ok.exit ?_ | refine Ok.ret ?_ | refine nI ?_ | refine ix _ (by assumption) ?_ | refine ixI (by omega) (by assumption) ?_ | refine ix_new _ (by omega) fun _ _ => ?_ | refine ixI_new (by omega) (by omega) fun _ _ => ?_ | refine ⟨_, by assumption, ?_⟩ | refine Alt2.l (aI ?_) | refine Alt2.r (aI ?_)); conv => whnf) | (refine Ok.scope ?_) | ((first | refine Ok.label ?_ | refine rd rfl (by assumption) ?_ | refine ⟨_, .inl ⟨rfl, rfl⟩, ?_⟩ | refine ⟨_, _, rfl, rfl, ?_⟩); conv => whnf) | (refine ⟨fun _ => ?_, fun _ => ?_⟩ <;> (conv => whnf) <;> (try (exfalso; omega))) | ((first | refine aJ ?_ | refine num_any ?_ | refine ⟨_, rfl, ?_⟩); conv => whnf) | fail)
      refine OkZ.seqY (OkZ.yreg tok 2 _ [.agg (crow x)] (cubX_at (hat j x hx)) ?_)
      (conv => whnf)
      refine ⟨rfl, rfl, rfl, ?_⟩
      (conv => whnf)
      refine ⟨?_, ?_⟩
      · (conv => whnf)
        refine OkY.cond ?_
        (conv => whnf)
        refine OkY.skip ?_
        (conv => whnf)
        refine OkY.piece ?_
        (try (conv => whnf)); repeat' (first | refine Ok.seq ?_ | refine OkL.cons ?_ | ((first | refine Ok.region tok ?_ | refine Ok.region_draw tok follows (by kernel_rfl) ?_ | refine Ok.cond ?_); conv => whnf) | refine Ok.block ?_ | ((first | refine Ok.skip ?_ | refine Ok.exit ?_ | refine Ok.ret ?_ | refine nI ?_ | refine ix _ (by assumption) ?_ | refine ixI (by omega) (by assumption) ?_ | refine ix_new _ (by omega) fun _ _ => ?_ | refine ixI_new (by omega) (by omega) fun _ _ => ?_ | refine ⟨_, by assumption, ?_⟩ | refine Alt2.l (aI ?_) | refine Alt2.r (aI ?_)); conv => whnf) | (refine Ok.scope ?_) | ((first | refine Ok.label ?_ | refine rd rfl (by assumption) ?_ | refine ⟨_, .inl ⟨rfl, rfl⟩, ?_⟩ | refine ⟨_, _, rfl, rfl, ?_⟩); conv => whnf) | (refine ⟨fun _ => ?_, fun _ => ?_⟩ <;> (conv => whnf) <;> (try (exfalso; omega))) | ((first | refine aJ ?_ | refine num_any ?_ | refine ⟨_, rfl, ?_⟩); conv => whnf) | fail)
        refine ⟨j + 1, by omega, by omega, by rw [Nat.add_assoc], ?_⟩
        (conv => whnf)
        rfl
      · (conv => whnf)
        refine OkY.cond ?_
        (conv => whnf)
        refine OkY.ret ?_
        (conv => whnf)
        exact ⟨.inr rfl, .inr rfl⟩
    · have hje : j = S.length := by omega
      subst hje
      refine OkY.exit ?_
      (conv => whnf)
      refine OkY.piece ?_
      (try (conv => whnf)); repeat' (first | refine Ok.seq ?_ | refine OkL.cons ?_ | ((first | refine Ok.region tok ?_ | refine Ok.region_draw tok follows (by kernel_rfl) ?_ | refine Ok.cond ?_); conv => whnf) | refine Ok.block ?_ | ((first | refine Ok.skip ?_ | refine Ok.exit ?_ | refine Ok.ret ?_ | refine nI ?_ | refine ix _ (by assumption) ?_ | refine ixI (by omega) (by assumption) ?_ | refine ix_new _ (by omega) fun _ _ => ?_ | refine ixI_new (by omega) (by omega) fun _ _ => ?_ | refine ⟨_, by assumption, ?_⟩ | refine Alt2.l (aI ?_) | refine Alt2.r (aI ?_)); conv => whnf) | (refine Ok.scope ?_) | ((first | refine Ok.label ?_ | refine rd rfl (by assumption) ?_ | refine ⟨_, .inl ⟨rfl, rfl⟩, ?_⟩ | refine ⟨_, _, rfl, rfl, ?_⟩); conv => whnf) | (refine ⟨fun _ => ?_, fun _ => ?_⟩ <;> (conv => whnf) <;> (try (exfalso; omega))) | ((first | refine aJ ?_ | refine num_any ?_ | refine ⟨_, rfl, ?_⟩); conv => whnf) | fail)
      refine ⟨i + 1, by omega, by omega, by rw [hsn, List.length_append], ?_⟩
      (conv => whnf)
      rfl
  · have hie : i = l.length := by omega
    subst hie
    refine OkY.exit ?_
    (conv => whnf)
    refine ⟨.inl rfl, .inl ?_⟩
    rw [List.take_length]
    simp [cubX]
end Go.Proofs.YtaiondckookpiaaDoor
namespace Go.Proofs.YtaiondckookpiaaDoor
open Go Go.Vx
theorem cubX_get {l : List Str} {k : Nat} {x : List D} (h : (cubX l)[k]? = some x) : ∃ c, l[k]? = some c ∧ x = [.agg (crow c)] := by
  simp only [cubX, List.getElem?_map, Option.map_eq_some_iff] at h
  obtain ⟨c, h1, h2⟩ := h
  exact ⟨c, h1, h2.symm⟩
theorem cubX_len (l : List Str) : (cubX l).length = l.length := by simp [cubX]
set_option maxHeartbeats 4000000 in
theorem collect_at {f : FuncId} {cap : List D} {l : List Str} (hY : YSpec Tryd.prog T f cap (cubX l)) (most : Int) (hm : (l.length : Int) ≤ most) (hl : l.length ≤ 1000000) :
    FSpec Tryd.prog T 57 [.fn f [] cap, .i .i64 most] (fun d rows => ∃ rm, d = .lst 69 (l.map crow) rm ∧ rows = []) := by
  refine FSpec.of_okG tok Tryd.func57 rfl Tryd.call57 (by simp) ?_
  refine OkG.seq (OkG.of ?_)
  (try (conv => whnf)); repeat' (first | refine Ok.seq ?_ | refine OkL.cons ?_ | ((first | refine Ok.region tok ?_ | refine Ok.region_draw tok follows (by kernel_rfl) ?_ | refine Ok.cond ?_); conv => whnf) | refine Ok.block ?_ | ((first | refine Ok.skip ?_ | refine Ok.exit ?_ | refine Ok.ret ?_ | refine nI ?_ | refine ix _ (by assumption) ?_ | refine ixI (by omega) (by assumption) ?_ | refine ix_new _ (by omega) fun _ _ => ?_ | refine ixI_new (by omega) (by omega) fun _ _ => ?_ | refine ⟨_, by assumption, ?_⟩ | refine Alt2.l (aI ?_) | refine Alt2.r (aI ?_)); conv => whnf) | (refine Ok.scope ?_) | ((first | refine Ok.label ?_ | refine rd rfl (by assumption) ?_ | refine ⟨_, .inl ⟨rfl, rfl⟩, ?_⟩ | refine ⟨_, _, rfl, rfl, ?_⟩); conv => whnf) | (refine ⟨fun _ => ?_, fun _ => ?_⟩ <;> (conv => whnf) <;> (try (exfalso; omega))) | ((first | refine aJ ?_ | refine num_any ?_ | refine ⟨_, rfl, ?_⟩); conv => whnf) | fail)
  refine OkG.seq (OkG.of ?_)
  (try (conv => whnf)); repeat' (first | refine Ok.seq ?_ | refine OkL.cons ?_ | ((first | refine Ok.region tok ?_ | refine Ok.region_draw tok follows (by kernel_rfl) ?_ | refine Ok.cond ?_); conv => whnf) | refine Ok.block ?_ | ((first | refine Ok.skip ?_ | refine Ok.exit ?_ | refine Ok.ret ?_ | refine nI ?_ | refine ix _ (by assumption) ?_ | refine ixI (by omega) (by assumption) ?_ | refine ix_new _ (by omega) fun _ _ => ?_ | refine ixI_new (by omega) (by omega) fun _ _ => ?_ | refine ⟨_, by assumption, ?_⟩ | refine Alt2.l (aI ?_) | refine Alt2.r (aI ?_)); conv => whnf) | (refine Ok.scope ?_) | ((first | refine Ok.label ?_ | refine rd rfl (by assumption) ?_ | refine ⟨_, .inl ⟨rfl, rfl⟩, ?_⟩ | refine ⟨_, _, rfl, rfl, ?_⟩); conv => whnf) | (refine ⟨fun _ => ?_, fun _ => ?_⟩ <;> (conv => whnf) <;> (try (exfalso; omega))) | ((first | refine aJ ?_ | refine num_any ?_ | refine ⟨_, rfl, ?_⟩); conv => whnf) | fail)
  refine OkG.seq (OkG.seq (OkG.of ?_))
  refine Ok.ghostB 1 0 69 rfl rfl ?_
  (conv => whnf)
  (try (conv => whnf)); repeat' (first | refine Ok.seq ?_ | refine OkL.cons ?_ | ((first | refine Ok.region tok ?_ | refine Ok.region_draw tok follows (by kernel_rfl) ?_ | refine Ok.cond ?_); conv => whnf) | refine Ok.block ?_ | ((first | refine Ok.skip ?_ | refine Ok.exit ?_ | refine Ok.ret ?_ | refine nI ?_ | refine ix _ (by assumption) ?_ | refine ixI (by omega) (by assumption) ?_ | refine ix_new _ (by omega) fun _ _ => ?_ | refine ixI_new (by omega) (by omega) fun _ _ => ?_ | refine ⟨_, by assumption, ?_⟩ | refine Alt2.l (aI ?_) | refine Alt2.r (aI ?_)); conv => whnf) | (refine Ok.scope ?_) | ((first | refine Ok.label ?_ | refine rd rfl (by assumption) ?_ | refine ⟨_, .inl ⟨rfl, rfl⟩, ?_⟩ | refine ⟨_, _, rfl, rfl, ?_⟩); conv => whnf) | (refine ⟨fun _ => ?_, fun _ => ?_⟩ <;> (conv => whnf) <;> (try (exfalso; omega))) | ((first | refine aJ ?_ | refine num_any ?_ | refine ⟨_, rfl, ?_⟩); conv => whnf) | fail)
  refine OkG.block ?_
  refine OkG.range [3, 5, 7] 1 2 (fun k => ⟨[(3, .bp 0 0), (5, .bp 1 0), (7, .fn f [] cap)], [[.i .i64 most], [.own 0 k]], [some (69, (l.take k).map crow)], 20⟩) (fun k => k ≤ l.length) (Nat.zero_le _) (by
    (conv => whnf)
    rfl) rfl hY (fun _ => rfl) (by simp) ?_ ?_
  · intro k x hx hk
    obtain ⟨c, hc, rfl⟩ := cubX_get hx
    refine ⟨rfl, ?_⟩
    (conv => whnf)
    have hkl : k < l.length := (List.getElem?_eq_some_iff.1 hc).1
    have htl : ((l.take k).map crow).length = k := by simp; omega
    have hsn : (l.take (k + 1)).map crow = (l.take k).map crow ++ [crow c] := by rw [take_snoc hc, List.map_append]; rfl
    have hkm : ¬ (k : Int) = most := by omega
    (try (conv => whnf)); repeat' (first | refine OkR.seq ?_ | refine OkL.cons ?_ | ((first | refine OkR.region tok ?_ | refine OkR.cond ?_); conv => whnf) | refine OkR.block ?_ | ((first | refine OkR.skip ?_ | refine OkR.exit ?_ | refine OkR.ret ?_ | refine nI ?_ | refine ix _ (by assumption) ?_ | refine ixI (by omega) (by assumption) ?_ | refine ix_new _ (by omega) fun _ _ => ?_ | refine ixI_new (by omega) (by omega) fun _ _ => ?_ | refine ⟨_, by assumption, ?_⟩ | refine Alt2.l (aI ?_) | refine Alt2.r (aI ?_)); conv => whnf) | (refine OkR.scope ?_) | ((first | refine OkR.label ?_ | refine rd rfl (by assumption) ?_ | refine ⟨_, .inl ⟨rfl, rfl⟩, ?_⟩ | refine ⟨_, _, rfl, rfl, ?_⟩); conv => whnf) | (refine ⟨fun _ => ?_, fun _ => ?_⟩ <;> (conv => whnf) <;> (try (exfalso; omega))) | ((first | refine aJ ?_ | refine num_any ?_ | refine ⟨_, rfl, ?_⟩); conv => whnf) | fail)
    all_goals first
      | (exfalso; omega)
      | skip
    have hln : ((l.take k).map crow ++ [crow c]).length = k + 1 := by rw [List.length_append, htl]; rfl
    rw [hsn, ← hln]
  · intro _
    rw [cubX_len, List.take_length]
    (conv => whnf)
    refine OkG.of ?_
    (try (conv => whnf)); repeat' (first | refine Ok.seq ?_ | refine OkL.cons ?_ | ((first | refine Ok.region tok ?_ | refine Ok.region_draw tok follows (by kernel_rfl) ?_ | refine Ok.cond ?_); conv => whnf) | refine Ok.block ?_ | ((first | refine Ok.skip ?_ | refine Ok.exit ?_ | refine Ok.ret ?_ | refine nI ?_ | refine ix _ (by assumption) ?_ | refine ixI (by omega) (by assumption) ?_ | refine ix_new _ (by omega) fun _ _ => ?_ | refine ixI_new (by omega) (by omega) fun _ _ => ?_ | refine ⟨_, by assumption, ?_⟩ | refine Alt2.l (aI ?_) | refine Alt2.r (aI ?_)); conv => whnf) | (refine Ok.scope ?_) | ((first | refine Ok.label ?_ | refine rd rfl (by assumption) ?_ | refine ⟨_, .inl ⟨rfl, rfl⟩, ?_⟩ | refine ⟨_, _, rfl, rfl, ?_⟩); conv => whnf) | (refine ⟨fun _ => ?_, fun _ => ?_⟩ <;> (conv => whnf) <;> (try (exfalso; omega))) | ((first | refine aJ ?_ | refine num_any ?_ | refine ⟨_, rfl, ?_⟩); conv => whnf) | fail)
    refine Or.inl ?_; (conv => whnf)
    refine ⟨[], ?_, rfl⟩
    rw [List.take_of_length_le (by simp), List.drop_of_length_le (by simp)]
    rfl
set_option maxHeartbeats 4000000 in
theorem collect_pan {f : FuncId} {cap : List D} {l : List Str} (hY : YSpec Tryd.prog T f cap (cubX l)) (most : Int) (h0 : 0 ≤ most) (hm : most < (l.length : Int)) (hl : l.length ≤ 1000000) :
    PSpec Tryd.prog T 57 [.fn f [] cap, .i .i64 most] passedV := by
  refine PSpec.of_okG Tryd.func57 rfl Tryd.call57 (by simp) ?_
  refine OkG.seq (OkG.of ?_)
  (try (conv => whnf)); repeat' (first | refine Ok.seq ?_ | refine OkL.cons ?_ | ((first | refine Ok.region tok ?_ | refine Ok.region_draw tok follows (by kernel_rfl) ?_ | refine Ok.cond ?_); conv => whnf) | refine Ok.block ?_ | ((first | refine Ok.skip ?_ | refine Ok.exit ?_ | refine Ok.ret ?_ | refine nI ?_ | refine ix _ (by assumption) ?_ | refine ixI (by omega) (by assumption) ?_ | refine ix_new _ (by omega) fun _ _ => ?_ | refine ixI_new (by omega) (by omega) fun _ _ => ?_ | refine ⟨_, by assumption, ?_⟩ | refine Alt2.l (aI ?_) | refine Alt2.r (aI ?_)); conv => whnf) | (refine Ok.scope ?_) | ((first | refine Ok.label ?_ | refine rd rfl (by assumption) ?_ | refine ⟨_, .inl ⟨rfl, rfl⟩, ?_⟩ | refine ⟨_, _, rfl, rfl, ?_⟩); conv => whnf) | (refine ⟨fun _ => ?_, fun _ => ?_⟩ <;> (conv => whnf) <;> (try (exfalso; omega))) | ((first | refine aJ ?_ | refine num_any ?_ | refine ⟨_, rfl, ?_⟩); conv => whnf) | fail)
  refine OkG.seq (OkG.of ?_)
  (try (conv => whnf)); repeat' (first | refine Ok.seq ?_ | refine OkL.cons ?_ | ((first | refine Ok.region tok ?_ | refine Ok.region_draw tok follows (by kernel_rfl) ?_ | refine Ok.cond ?_); conv => whnf) | refine Ok.block ?_ | ((first | refine Ok.skip ?_ | refine Ok.exit ?_ | refine Ok.ret ?_ | refine nI ?_ | refine ix _ (by assumption) ?_ | refine ixI (by omega) (by assumption) ?_ | refine ix_new _ (by omega) fun _ _ => ?_ | refine ixI_new (by omega) (by omega) fun _ _ => ?_ | refine ⟨_, by assumption, ?_⟩ | refine Alt2.l (aI ?_) | refine Alt2.r (aI ?_)); conv => whnf) | (refine Ok.scope ?_) | ((first | refine Ok.label ?_ | refine rd rfl (by assumption) ?_ | refine ⟨_, .inl ⟨rfl, rfl⟩, ?_⟩ | refine ⟨_, _, rfl, rfl, ?_⟩); conv => whnf) | (refine ⟨fun _ => ?_, fun _ => ?_⟩ <;> (conv => whnf) <;> (try (exfalso; omega))) | ((first | refine aJ ?_ | refine num_any ?_ | refine ⟨_, rfl, ?_⟩); conv => whnf) | fail)
  refine OkG.seq (OkG.seq (OkG.of ?_))
  refine Ok.ghostB 1 0 69 rfl rfl ?_
  (conv => whnf)
  (try (conv => whnf)); repeat' (first | refine Ok.seq ?_ | refine OkL.cons ?_ | ((first | refine Ok.region tok ?_ | refine Ok.region_draw tok follows (by kernel_rfl) ?_ | refine Ok.cond ?_); conv => whnf) | refine Ok.block ?_ | ((first | refine Ok.skip ?_ | refine Ok.exit ?_ | refine Ok.ret ?_ | refine nI ?_ | refine ix _ (by assumption) ?_ | refine ixI (by omega) (by assumption) ?_ | refine ix_new _ (by omega) fun _ _ => ?_ | refine ixI_new (by omega) (by omega) fun _ _ => ?_ | refine ⟨_, by assumption, ?_⟩ | refine Alt2.l (aI ?_) | refine Alt2.r (aI ?_)); conv => whnf) | (refine Ok.scope ?_) | ((first | refine Ok.label ?_ | refine rd rfl (by assumption) ?_ | refine ⟨_, .inl ⟨rfl, rfl⟩, ?_⟩ | refine ⟨_, _, rfl, rfl, ?_⟩); conv => whnf) | (refine ⟨fun _ => ?_, fun _ => ?_⟩ <;> (conv => whnf) <;> (try (exfalso; omega))) | ((first | refine aJ ?_ | refine num_any ?_ | refine ⟨_, rfl, ?_⟩); conv => whnf) | fail)
  refine OkG.block ?_
  refine OkG.range [3, 5, 7] 1 2 (fun k => ⟨[(3, .bp 0 0), (5, .bp 1 0), (7, .fn f [] cap)], [[.i .i64 most], [.own 0 k]], [some (69, (l.take k).map crow)], 20⟩) (fun k => (k : Int) ≤ most) h0 (by
    (conv => whnf)
    rfl) rfl hY (fun _ => rfl) (by simp) ?_ ?_
  · intro k x hx hk
    obtain ⟨c, hc, rfl⟩ := cubX_get hx
    refine ⟨rfl, ?_⟩
    (conv => whnf)
    have hkl : k < l.length := (List.getElem?_eq_some_iff.1 hc).1
    have htl : ((l.take k).map crow).length = k := by simp; omega
    have hsn : (l.take (k + 1)).map crow = (l.take k).map crow ++ [crow c] := by rw [take_snoc hc, List.map_append]; rfl
    by_cases hkm : (k : Int) = most
    · (try (conv => whnf)); repeat' (first | (refine OkR.region_throw (fun w => by kernel_rfl) (by kernel_rfl) (by decide) (by decide) ?_; (conv => whnf)) | refine OkR.seq ?_ | refine OkL.cons ?_ | ((first | refine OkR.region tok ?_ | refine OkR.cond ?_); conv => whnf) | refine OkR.block ?_ | ((first | refine OkR.skip ?_ | refine OkR.exit ?_ | refine OkR.ret ?_ | refine nI ?_ | refine ix _ (by assumption) ?_ | refine ixI (by omega) (by assumption) ?_ | refine ix_new _ (by omega) fun _ _ => ?_ | refine ixI_new (by omega) (by omega) fun _ _ => ?_ | refine ⟨_, by assumption, ?_⟩ | refine Alt2.l (aI ?_) | refine Alt2.r (aI ?_)); conv => whnf) | (refine OkR.scope ?_) | ((first | refine OkR.label ?_ | refine rd rfl (by assumption) ?_ | refine ⟨_, .inl ⟨rfl, rfl⟩, ?_⟩ | refine ⟨_, _, rfl, rfl, ?_⟩); conv => whnf) | (refine ⟨fun _ => ?_, fun _ => ?_⟩ <;> (conv => whnf) <;> (try (exfalso; omega))) | ((first | refine aJ ?_ | refine num_any ?_ | refine ⟨_, rfl, ?_⟩); conv => whnf) | fail)
      all_goals first
        | (exfalso; omega)
        | skip
      refine ⟨fun _ h => h, ?_⟩
      (conv => whnf)
      rfl
    · (try (conv => whnf)); repeat' (first | refine OkR.seq ?_ | refine OkL.cons ?_ | ((first | refine OkR.region tok ?_ | refine OkR.cond ?_); conv => whnf) | refine OkR.block ?_ | ((first | refine OkR.skip ?_ | refine OkR.exit ?_ | refine OkR.ret ?_ | refine nI ?_ | refine ix _ (by assumption) ?_ | refine ixI (by omega) (by assumption) ?_ | refine ix_new _ (by omega) fun _ _ => ?_ | refine ixI_new (by omega) (by omega) fun _ _ => ?_ | refine ⟨_, by assumption, ?_⟩ | refine Alt2.l (aI ?_) | refine Alt2.r (aI ?_)); conv => whnf) | (refine OkR.scope ?_) | ((first | refine OkR.label ?_ | refine rd rfl (by assumption) ?_ | refine ⟨_, .inl ⟨rfl, rfl⟩, ?_⟩ | refine ⟨_, _, rfl, rfl, ?_⟩); conv => whnf) | (refine ⟨fun _ => ?_, fun _ => ?_⟩ <;> (conv => whnf) <;> (try (exfalso; omega))) | ((first | refine aJ ?_ | refine num_any ?_ | refine ⟨_, rfl, ?_⟩); conv => whnf) | fail)
      all_goals first
        | (exfalso; omega)
        | skip
      have hln : ((l.take k).map crow ++ [crow c]).length = k + 1 := by rw [List.length_append, htl]; rfl
      rw [hsn, ← hln]
  · intro h
    rw [cubX_len] at h
    exfalso
    omega
end Go.Proofs.YtaiondckookpiaaDoor
namespace Go.Proofs.YtaiondckookpiaaDoor
open Go Go.Vx
def splX (lim : Int) : List Str → List Str → Option (List Str)
  | [], l => some l
  | m :: ms, l => if lim < ((splL m l).length : Int) then none else splX lim ms (splL m l)
def termX (lim : Int) (t : Term) : Option (List Str) := if lim < 1 then none else splX lim t.less [t.p]
def expX (limit : Int) : List Term → List Str → Option (List Str)
  | [], out => some out
  | t :: ts, out => match termX (limit - (out.length : Int)) t with
    | none => none
    | some l => expX limit ts (out ++ l)
theorem expX_cons (limit : Int) (t : Term) (ts : List Term) (out : List Str) : expX limit (t :: ts) out = match termX (limit - (out.length : Int)) t with | none => none | some l => expX limit ts (out ++ l) := rfl
theorem splX_cons (lim : Int) (m : Str) (ms l : List Str) : splX lim (m :: ms) l = if lim < ((splL m l).length : Int) then none else splX lim ms (splL m l) := rfl
def expO (n : Int) (ts : List Term) (limit : Int) : Int × List Str :=
  if n = 0 then (11, []) else if limit < 0 ∨ 2048 < limit then (1, []) else match expX limit ts [] with
    | some l => (0, l)
    | none => (3, [])
theorem expO_zero {ts : List Term} {limit : Int} {n : Int} (h : n = 0) : expO n ts limit = (11, []) := by unfold expO; rw [if_pos h]
theorem expO_arg {n : Int} {ts : List Term} {limit : Int} (h : n ≠ 0) (h2 : limit < 0 ∨ 2048 < limit) : expO n ts limit = (1, []) := by unfold expO; rw [if_neg h, if_pos h2]
theorem expO_some {n : Int} {ts : List Term} {limit : Int} {l : List Str} (h : n ≠ 0) (h2 : ¬ (limit < 0 ∨ 2048 < limit)) (h3 : expX limit ts [] = some l) : expO n ts limit = (0, l) := by unfold expO; rw [if_neg h, if_neg h2, h3]
theorem expO_none {n : Int} {ts : List Term} {limit : Int} (h : n ≠ 0) (h2 : ¬ (limit < 0 ∨ 2048 < limit)) (h3 : expX limit ts [] = none) : expO n ts limit = (3, []) := by unfold expO; rw [if_neg h, if_neg h2, h3]
def AllW (n : Nat) (l : List Str) : Prop := ∀ c ∈ l, CN c ∧ c.length = n
theorem splL_all {n : Nat} {m : Str} {l : List Str} (h : AllW n l) (hm : CT m) : AllW n (splL m l) := by
  intro x hx
  obtain ⟨c, hc, hx⟩ := List.mem_flatMap.1 hx
  obtain ⟨h1, h2⟩ := splitT_cn (h c hc).1 hm x hx
  exact ⟨h1, h2.trans (h c hc).2⟩
theorem splL_len {n : Nat} {m : Str} : ∀ {l : List Str}, AllW n l → (splL m l).length ≤ l.length * 256
  | [], _ => by simp [splL]
  | c :: l, h => by
    have h1 := splL_len (m := m) (l := l) fun x hx => h x (by simp [hx])
    have h2 := splitT_len (d := m) (h c (by simp)).1.1.len
    have : splL m (c :: l) = splitT c m ++ splL m l := by simp [splL]
    rw [this, List.length_append, List.length_cons]
    omega
theorem splX_all {n : Nat} {lim : Int} : ∀ {ms l : List Str} {r : List Str}, AllW n l → (∀ m ∈ ms, CT m) → splX lim ms l = some r → AllW n r
  | [], l, r, hl, _, h => by cases h; exact hl
  | m :: ms, l, r, hl, hm, h => by
    unfold splX at h
    split at h
    · cases h
    · exact splX_all (splL_all hl (hm m (by simp))) (fun x hx => hm x (by simp [hx])) h
theorem splX_le {lim : Int} : ∀ {ms l : List Str} {r : List Str}, (l.length : Int) ≤ lim → splX lim ms l = some r → (r.length : Int) ≤ lim
  | [], l, r, hl, h => by cases h; exact hl
  | m :: ms, l, r, hl, h => by
    unfold splX at h
    split at h
    · cases h
    · exact splX_le (by omega) h
theorem termX_all {n : Nat} {t : Term} {lim : Int} {l : List Str} (hg : GoodT n t) (h : termX lim t = some l) : AllW n l ∧ (l.length : Int) ≤ lim := by
  unfold termX at h
  split at h
  · cases h
  · exact ⟨splX_all (fun c hc => by simp at hc; subst hc; exact ⟨hg.p, hg.ok.p⟩) (fun m hm => (hg.less m hm).1) h, splX_le (by simp; omega) h⟩
theorem expX_all {n : Nat} {limit : Int} : ∀ {ts : List Term} {out r : List Str}, (∀ t ∈ ts, GoodT n t) → AllW n out → (out.length : Int) ≤ limit → expX limit ts out = some r → AllW n r ∧ (r.length : Int) ≤ limit
  | [], out, r, _, ho, hl, h => by cases h; exact ⟨ho, hl⟩
  | t :: ts, out, r, hg, ho, hl, h => by
    unfold expX at h
    split at h
    · cases h
    · rename_i l hlx
      obtain ⟨h1, h2⟩ := termX_all (hg t (by simp)) hlx
      exact expX_all (fun x hx => hg x (by simp [hx])) (fun c hc => (List.mem_append.1 hc).elim (ho c) (h1 c)) (by rw [List.length_append]; omega) h
theorem expO_all {n : Int} {ts : List Term} {limit : Int} (hf : Fine n ts) : AllW n.toNat (expO n ts limit).2 ∧ (expO n ts limit).2.length ≤ 2048 := by
  unfold expO
  split
  · exact ⟨fun c hc => by simp at hc, by simp⟩
  · split
    · exact ⟨fun c hc => by simp at hc, by simp⟩
    · rename_i h2
      cases h : expX limit ts [] with
      | none => exact ⟨fun c hc => by simp at hc, by simp⟩
      | some l =>
        obtain ⟨h3, h4⟩ := expX_all hf.good (fun c hc => by simp at hc) (by simp; omega) h
        exact ⟨h3, by show l.length ≤ 2048; omega⟩
def EOut (o : Int × List Str) (d : D) (rows : Vx.Rows) : Prop := rows = [] ∧ ∃ rm, d = .tup [.lst 69 (o.2.map crow) rm, .i .i64 o.1]
set_option maxRecDepth 100000 in
set_option maxHeartbeats 8000000 in
theorem expand_at {n : Int} {ts : List Term} (hf : Fine n ts) (ks : List TR) (rm : List (List D)) (h1 : ks.map TR.t = ts) (limit : Int) :
    FSpec Tryd.prog T 26 [.agg [.i .i64 n, .lst 81 (ks.map trow) rm], .i .i64 limit] (EOut (expO n ts limit)) := by
  have hl1 : ks.length = ts.length := by rw [← h1, List.length_map]
  have hm1 : (ks.map trow).length = ts.length := by simp [hl1]
  have hk1 := hf.len
  have hn0 := hf.n0
  refine FSpec.of_deferK 5 tok Tryd.func26 rfl Tryd.call26 (by simp) def_expand (zd1 := [.nilS]) (zd2 := [.i .i64 3]) rfl rfl (by simp [Value.oneCell']) (by simp [Value.oneCell']) rfl ?_
  by_cases hz : n = 0
  · rw [expO_zero hz]
    subst hz
    (try (conv => whnf)); repeat' (first | refine Ok.seq ?_ | refine OkL.cons ?_ | ((first | refine Ok.region tok ?_ | refine Ok.region_plan (id := 9) tok follows [(1, 2, []), (1, 7, [2]), (4, 7, [6, 5]), (2, 7, [])] [.q 0, .q 1, .q 3, .q 4, .q 5, .q 6, .l 2, .l 7, .q 8] (by kernel_rfl) ?_ | refine Ok.region_plan (id := 13) tok follows [(1, 2, []), (1, 7, [2]), (4, 7, [6, 5]), (2, 7, [])] [.q 0, .q 1, .q 3, .q 4, .q 5, .q 6, .l 2, .l 7, .q 8] (by kernel_rfl) ?_ | refine Ok.region_draw tok follows (by kernel_rfl) ?_ | refine Ok.cond ?_); conv => whnf) | refine Ok.block ?_ | ((first | refine Ok.skip ?_ | refine Ok.exit ?_ | refine Ok.ret ?_ | refine nI ?_ | refine ix _ (by assumption) ?_ | refine ixI (by omega) (by assumption) ?_ | refine ix_new _ (by omega) fun _ _ => ?_ | refine ixI_new (by omega) (by omega) fun _ _ => ?_ | refine ⟨_, by assumption, ?_⟩ | refine Alt2.l (aI ?_) | refine Alt2.r (aI ?_)); conv => whnf) | (refine Ok.scope ?_) | ((first | refine Ok.label ?_ | refine rd rfl (by assumption) ?_ | refine ⟨_, .inl ⟨rfl, rfl⟩, ?_⟩ | refine ⟨_, _, rfl, rfl, ?_⟩); conv => whnf) | (refine ⟨fun _ => ?_, fun _ => ?_⟩ <;> (conv => whnf) <;> (try (exfalso; omega))) | ((first | refine aJ ?_ | refine num_any ?_ | refine ⟨_, rfl, ?_⟩); conv => whnf) | fail)
    · refine Or.inl ?_; (conv => whnf)
      exact ⟨rfl, [], rfl⟩
    all_goals (exfalso; rename_i h; exact h rfl)
  by_cases harg : limit < 0 ∨ 2048 < limit
  · rw [expO_arg hz harg]
    (try (conv => whnf)); repeat' (first | refine Ok.seq ?_ | refine OkL.cons ?_ | ((first | refine Ok.region tok ?_ | refine Ok.region_plan (id := 9) tok follows [(1, 2, []), (1, 7, [2]), (4, 7, [6, 5]), (2, 7, [])] [.q 0, .q 1, .q 3, .q 4, .q 5, .q 6, .l 2, .l 7, .q 8] (by kernel_rfl) ?_ | refine Ok.region_plan (id := 13) tok follows [(1, 2, []), (1, 7, [2]), (4, 7, [6, 5]), (2, 7, [])] [.q 0, .q 1, .q 3, .q 4, .q 5, .q 6, .l 2, .l 7, .q 8] (by kernel_rfl) ?_ | refine Ok.region_draw tok follows (by kernel_rfl) ?_ | refine Ok.cond ?_); conv => whnf) | refine Ok.block ?_ | ((first | refine Ok.skip ?_ | refine Ok.exit ?_ | refine Ok.ret ?_ | refine nI ?_ | refine ix _ (by assumption) ?_ | refine ixI (by omega) (by assumption) ?_ | refine ix_new _ (by omega) fun _ _ => ?_ | refine ixI_new (by omega) (by omega) fun _ _ => ?_ | refine ⟨_, by assumption, ?_⟩ | refine Alt2.l (aI ?_) | refine Alt2.r (aI ?_)); conv => whnf) | (refine Ok.scope ?_) | ((first | refine Ok.label ?_ | refine rd rfl (by assumption) ?_ | refine ⟨_, .inl ⟨rfl, rfl⟩, ?_⟩ | refine ⟨_, _, rfl, rfl, ?_⟩); conv => whnf) | (refine ⟨fun _ => ?_, fun _ => ?_⟩ <;> (conv => whnf) <;> (try (exfalso; omega))) | ((first | refine aJ ?_ | refine num_any ?_ | refine ⟨_, rfl, ?_⟩); conv => whnf) | fail)
    all_goals first
      | (exfalso; omega)
      | (refine Or.inl ?_; (conv => whnf)
         exact ⟨rfl, [], rfl⟩)
  (try (conv => whnf)); repeat' (first | refine Ok.seq ?_ | refine OkL.cons ?_ | ((first | refine Ok.region tok ?_ | refine Ok.region_plan (id := 9) tok follows [(1, 2, []), (1, 7, [2]), (4, 7, [6, 5]), (2, 7, [])] [.q 0, .q 1, .q 3, .q 4, .q 5, .q 6, .l 2, .l 7, .q 8] (by kernel_rfl) ?_ | refine Ok.region_plan (id := 13) tok follows [(1, 2, []), (1, 7, [2]), (4, 7, [6, 5]), (2, 7, [])] [.q 0, .q 1, .q 3, .q 4, .q 5, .q 6, .l 2, .l 7, .q 8] (by kernel_rfl) ?_ | refine Ok.region_draw tok follows (by kernel_rfl) ?_ | refine Ok.cond ?_); conv => whnf) | refine Ok.block ?_ | ((first | refine Ok.skip ?_ | refine Ok.exit ?_ | refine Ok.ret ?_ | refine nI ?_ | refine ix _ (by assumption) ?_ | refine ixI (by omega) (by assumption) ?_ | refine ix_new _ (by omega) fun _ _ => ?_ | refine ixI_new (by omega) (by omega) fun _ _ => ?_ | refine ⟨_, by assumption, ?_⟩ | refine Alt2.l (aI ?_) | refine Alt2.r (aI ?_)); conv => whnf) | (refine Ok.scope ?_) | ((first | refine Ok.label ?_ | refine rd rfl (by assumption) ?_ | refine ⟨_, .inl ⟨rfl, rfl⟩, ?_⟩ | refine ⟨_, _, rfl, rfl, ?_⟩); conv => whnf) | (refine ⟨fun _ => ?_, fun _ => ?_⟩ <;> (conv => whnf) <;> (try (exfalso; omega))) | ((first | refine aJ ?_ | refine num_any ?_ | refine ⟨_, rfl, ?_⟩); conv => whnf) | fail)
  all_goals first
    | (exfalso; omega)
    | skip
  refine OkL.nil ?_
  (conv => whnf)
  refine ⟨1, 2, rfl, rfl, by decide, by decide, by decide, rfl, ?_⟩
  (try (conv => whnf)); repeat' (first | refine Ok.seq ?_ | refine OkL.cons ?_ | ((first | refine Ok.region tok ?_ | refine Ok.region_plan (id := 9) tok follows [(1, 2, []), (1, 7, [2]), (4, 7, [6, 5]), (2, 7, [])] [.q 0, .q 1, .q 3, .q 4, .q 5, .q 6, .l 2, .l 7, .q 8] (by kernel_rfl) ?_ | refine Ok.region_plan (id := 13) tok follows [(1, 2, []), (1, 7, [2]), (4, 7, [6, 5]), (2, 7, [])] [.q 0, .q 1, .q 3, .q 4, .q 5, .q 6, .l 2, .l 7, .q 8] (by kernel_rfl) ?_ | refine Ok.region_draw tok follows (by kernel_rfl) ?_ | refine Ok.cond ?_); conv => whnf) | refine Ok.block ?_ | ((first | refine Ok.skip ?_ | refine Ok.exit ?_ | refine Ok.ret ?_ | refine nI ?_ | refine ix _ (by assumption) ?_ | refine ixI (by omega) (by assumption) ?_ | refine ix_new _ (by omega) fun _ _ => ?_ | refine ixI_new (by omega) (by omega) fun _ _ => ?_ | refine ⟨_, by assumption, ?_⟩ | refine Alt2.l (aI ?_) | refine Alt2.r (aI ?_)); conv => whnf) | (refine Ok.scope ?_) | ((first | refine Ok.label ?_ | refine rd rfl (by assumption) ?_ | refine ⟨_, .inl ⟨rfl, rfl⟩, ?_⟩ | refine ⟨_, _, rfl, rfl, ?_⟩); conv => whnf) | (refine ⟨fun _ => ?_, fun _ => ?_⟩ <;> (conv => whnf) <;> (try (exfalso; omega))) | ((first | refine aJ ?_ | refine num_any ?_ | refine ⟨_, rfl, ?_⟩); conv => whnf) | fail)
  refine Ok.ghostB 1 0 69 rfl rfl ?_
  (conv => whnf)
  refine Ok.loopU [1, 4, 5, 22, 23, 57, 58] [24] 1 3 (fun (x : Nat × List Str) => [.i .i64 (x.1 : Nat)]) (fun (x : Nat × List Str) (_ : List (List D)) => [[.i .i64 n, .lst 81 (ks.map trow) rm], [.own 0 x.2.length], [.i .i64 0]]) (fun (x : Nat × List Str) (_ : Vx.Rows) => [some (69, x.2.map crow)]) (fun (x : Nat × List Str) => x.1 ≤ ts.length ∧ expX limit ts [] = expX limit (ts.drop x.1) x.2 ∧ AllW n.toNat x.2 ∧ (x.2.length : Int) ≤ limit) (fun (x : Nat × List Str) => ts.length - x.1) ((0, [])) (⟨Nat.zero_le _, by simp, fun c hc => by simp at hc, by simp; omega⟩) ?_; (conv => whnf); refine ⟨by ((conv => whnf); first | rfl | (simp [envCat, List.take_of_length_le, crow, trow, srow, drow]; done) | (simp [envCat, List.take_of_length_le, crow, trow, srow, drow]; rw [IntKind.wrap_i64]; omega)), ?_⟩
  rintro ⟨i, out⟩ ⟨hi, hex, hal, hle⟩
  dsimp only at hi hex hal hle ⊢
  have hom : (out.map crow).length = out.length := by simp
  (conv => whnf)
  by_cases hil : i < ts.length
  · obtain ⟨a, ha⟩ : ∃ a, ks[i]? = some a := ⟨_, List.getElem?_eq_getElem (by omega)⟩
    have haI : ks[((i : Nat) : Int).toNat]? = some a := ha
    have hat := tr_get h1 ha
    have hag := hf.good _ (List.mem_of_getElem? hat)
    have hlb := hf.less (List.mem_of_getElem? hat)
    have hlb2 : (a.t.less.map crow).length = a.t.less.length := by simp
    rw [drop_get hat] at hex
    rw [expX_cons] at hex
    have hone := one_at a.t.p
    by_cases hlim : limit - (out.length : Int) < 1
    · rw [show termX (limit - (out.length : Int)) a.t = none by unfold termX; rw [if_pos hlim]] at hex
      rw [expO_none hz harg hex]
      (try (conv => whnf)); repeat' (first | refine Ok.seq ?_ | refine OkL.cons ?_ | ((first | refine Ok.region tok ?_ | refine Ok.cond ?_); conv => whnf) | refine Ok.block ?_ | ((first | refine Ok.skip ?_ | refine Ok.exit ?_ | refine Ok.ret ?_ | refine nI ?_ | refine ix _ (by assumption) ?_ | refine ixI (by omega) (by assumption) ?_ | refine ix_new _ (by omega) fun _ _ => ?_ | refine ixI_new (by omega) (by omega) fun _ _ => ?_ | refine ⟨_, by assumption, ?_⟩ | refine Alt2.l (aI ?_) | refine Alt2.r (aI ?_)); conv => whnf) | (refine Ok.scope ?_) | ((first | refine Ok.label ?_ | refine rd rfl (by assumption) ?_ | refine ⟨_, .inl ⟨rfl, rfl⟩, ?_⟩ | refine ⟨_, _, rfl, rfl, ?_⟩); conv => whnf) | (refine ⟨fun _ => ?_, fun _ => ?_⟩ <;> (conv => whnf) <;> (try (exfalso; omega))) | ((first | refine aJ ?_ | refine num_any ?_ | refine ⟨_, rfl, ?_⟩); conv => whnf) | fail)
      refine Ok.region_planpanS tok follows [(1, 2, [])] [.q 0, .q 1, .q 3, .q 4, .q 5, .q 6, .l 2] 7 (by kernel_rfl) ?_; (conv => whnf)
      (try (conv => whnf)); repeat' (first | refine Ok.seq ?_ | refine OkL.cons ?_ | ((first | refine Ok.region tok ?_ | refine Ok.cond ?_); conv => whnf) | refine Ok.block ?_ | ((first | refine Ok.skip ?_ | refine Ok.exit ?_ | refine Ok.ret ?_ | refine nI ?_ | refine ix _ (by assumption) ?_ | refine ixI (by omega) (by assumption) ?_ | refine ix_new _ (by omega) fun _ _ => ?_ | refine ixI_new (by omega) (by omega) fun _ _ => ?_ | refine ⟨_, by assumption, ?_⟩); conv => whnf) | (refine Or.inr (Or.inl ?_); (conv => whnf); (repeat (refine aI ?_; conv => whnf)); refine ⟨_, hone, ?_⟩; rintro _ _ ⟨rfl, rfl⟩ <;> (conv => whnf)) | ((first | refine Alt2.l (aI ?_) | refine Alt2.r (aI ?_)); conv => whnf) | (refine Ok.scope ?_) | ((first | refine Ok.label ?_ | refine rd rfl (by assumption) ?_ | refine ⟨_, .inl ⟨rfl, rfl⟩, ?_⟩ | refine ⟨_, _, rfl, rfl, ?_⟩); conv => whnf) | (refine ⟨fun _ => ?_, fun _ => ?_⟩ <;> (conv => whnf) <;> (try (exfalso; omega))) | ((first | refine aJ ?_ | refine num_any ?_ | refine ⟨_, rfl, ?_⟩); conv => whnf) | fail)
      refine ⟨_, collect_pan (one_seq a.t.p) (limit - (out.length : Int)) (by omega) (by simp; omega) (by simp), ?_⟩
      (conv => whnf)
      refine ⟨rfl, 1, 2, _, _, rfl, rfl, rfl, rfl, rfl, rfl, by decide, rfl, ?_⟩
      (conv => whnf)
      refine Or.inl ?_; (conv => whnf)
      exact ⟨rfl, _, rfl⟩
    rw [show termX (limit - (out.length : Int)) a.t = splX (limit - (out.length : Int)) a.t.less [a.t.p] by unfold termX; rw [if_neg hlim]] at hex
    (try (conv => whnf)); repeat' (first | refine Ok.seq ?_ | refine OkL.cons ?_ | ((first | refine Ok.region tok ?_ | refine Ok.region_plan (id := 9) tok follows [(1, 2, []), (1, 7, [2]), (4, 7, [6, 5]), (2, 7, [])] [.q 0, .q 1, .q 3, .q 4, .q 5, .q 6, .l 2, .l 7, .q 8] (by kernel_rfl) ?_ | refine Ok.region_plan (id := 13) tok follows [(1, 2, []), (1, 7, [2]), (4, 7, [6, 5]), (2, 7, [])] [.q 0, .q 1, .q 3, .q 4, .q 5, .q 6, .l 2, .l 7, .q 8] (by kernel_rfl) ?_ | refine Ok.region_draw tok follows (by kernel_rfl) ?_ | refine Ok.cond ?_); conv => whnf) | refine Ok.block ?_ | ((first | refine Ok.skip ?_ | refine Ok.exit ?_ | refine Ok.ret ?_ | refine nI ?_ | refine ix _ (by assumption) ?_ | refine ixI (by omega) (by assumption) ?_ | refine ix_new _ (by omega) fun _ _ => ?_ | refine ixI_new (by omega) (by omega) fun _ _ => ?_ | refine ⟨_, by assumption, ?_⟩); conv => whnf) | (refine Or.inr (Or.inl ?_); (conv => whnf); (repeat (refine aI ?_; conv => whnf)); refine ⟨_, hone, ?_⟩; rintro _ _ ⟨rfl, rfl⟩ <;> (conv => whnf)) | (refine Or.inr (Or.inl ?_); (conv => whnf); (repeat (refine aI ?_; conv => whnf)); refine ⟨_, collect_at (one_seq a.t.p) (limit - (out.length : Int)) (by simp; omega) (by simp) , ?_⟩; rintro _ _ ⟨rm5, rfl, rfl⟩ <;> (conv => whnf)) | ((first | refine Alt2.l (aI ?_) | refine Alt2.r (aI ?_)); conv => whnf) | (refine Ok.scope ?_) | ((first | refine Ok.label ?_ | refine rd rfl (by assumption) ?_ | refine ⟨_, .inl ⟨rfl, rfl⟩, ?_⟩ | refine ⟨_, _, rfl, rfl, ?_⟩); conv => whnf) | (refine ⟨fun _ => ?_, fun _ => ?_⟩ <;> (conv => whnf) <;> (try (exfalso; omega))) | ((first | refine aJ ?_ | refine num_any ?_ | refine ⟨_, rfl, ?_⟩); conv => whnf) | fail)
    refine Ok.loopU [1, 4, 5, 22, 23, 24, 37, 38, 57, 58] [8, 39] 1 4 (fun (x : Nat × List Str × List (List D)) => [.lst 69 (x.2.1.map crow) x.2.2, .i .i64 (x.1 : Nat)]) (fun (x : Nat × List Str × List (List D)) (_ : List (List D)) => [[.i .i64 n, .lst 81 (ks.map trow) rm], [.own 0 out.length], [.i .i64 0], trow a]) (fun (x : Nat × List Str × List (List D)) (_ : Vx.Rows) => [some (69, out.map crow)]) (fun (x : Nat × List Str × List (List D)) => x.1 ≤ a.t.less.length ∧ splX (limit - (out.length : Int)) a.t.less [a.t.p] = splX (limit - (out.length : Int)) (a.t.less.drop x.1) x.2.1 ∧ AllW n.toNat x.2.1 ∧ (x.2.1.length : Int) ≤ limit - (out.length : Int)) (fun (x : Nat × List Str × List (List D)) => a.t.less.length - x.1) ((0, [a.t.p], rm5)) (⟨Nat.zero_le _, rfl, fun c hc => by simp at hc; subst hc; exact ⟨hag.p, hag.ok.p⟩, by simp; omega⟩) ?_; (conv => whnf); refine ⟨by ((conv => whnf); first | rfl | (simp [envCat, List.take_of_length_le, crow, trow, srow, drow]; done) | (simp [envCat, List.take_of_length_le, crow, trow, srow, drow]; rw [IntKind.wrap_i64]; omega)), ?_⟩
    rintro ⟨j, l, rml⟩ ⟨hj, hsx, hla, hll⟩
    dsimp only at hj hsx hla hll ⊢
    have hlm : (l.map crow).length = l.length := by simp
    (conv => whnf)
    by_cases hjl : j < a.t.less.length
    · obtain ⟨m, hm⟩ : ∃ m, a.t.less[j]? = some m := ⟨_, List.getElem?_eq_getElem hjl⟩
      have hmI : a.t.less[((j : Nat) : Int).toNat]? = some m := hm
      have hmc := (hag.less m (List.mem_of_getElem? hm)).1
      have hsa := splL_all hla hmc
      have hsl := splL_len (m := m) hla
      have hseq := splits_seq l rml m (fun c hc => (hla c hc).1) hmc (by omega)
      have hsp := splits_at l rml m
      rw [drop_get hm, splX_cons] at hsx
      by_cases hov : limit - (out.length : Int) < ((splL m l).length : Int)
      · rw [if_pos hov] at hsx
        rw [hsx] at hex
        rw [expO_none hz harg hex]
        (try (conv => whnf)); repeat' (first | refine Ok.seq ?_ | refine OkL.cons ?_ | ((first | refine Ok.region tok ?_ | refine Ok.cond ?_); conv => whnf) | refine Ok.block ?_ | ((first | refine Ok.skip ?_ | refine Ok.exit ?_ | refine Ok.ret ?_ | refine nI ?_ | refine ix _ (by assumption) ?_ | refine ixI (by omega) (by assumption) ?_ | refine ix_new _ (by omega) fun _ _ => ?_ | refine ixI_new (by omega) (by omega) fun _ _ => ?_ | refine ⟨_, by assumption, ?_⟩ | refine Alt2.l (aI ?_) | refine Alt2.r (aI ?_)); conv => whnf) | (refine Ok.scope ?_) | ((first | refine Ok.label ?_ | refine rd rfl (by assumption) ?_ | refine ⟨_, .inl ⟨rfl, rfl⟩, ?_⟩ | refine ⟨_, _, rfl, rfl, ?_⟩); conv => whnf) | (refine ⟨fun _ => ?_, fun _ => ?_⟩ <;> (conv => whnf) <;> (try (exfalso; omega))) | ((first | refine aJ ?_ | refine num_any ?_ | refine ⟨_, rfl, ?_⟩); conv => whnf) | fail)
        refine Ok.region_planpanS tok follows [(1, 2, [])] [.q 0, .q 1, .q 3, .q 4, .q 5, .q 6, .l 2] 7 (by kernel_rfl) ?_; (conv => whnf)
        (try (conv => whnf)); repeat' (first | refine Ok.seq ?_ | refine OkL.cons ?_ | ((first | refine Ok.region tok ?_ | refine Ok.cond ?_); conv => whnf) | refine Ok.block ?_ | ((first | refine Ok.skip ?_ | refine Ok.exit ?_ | refine Ok.ret ?_ | refine nI ?_ | refine ix _ (by assumption) ?_ | refine ixI (by omega) (by assumption) ?_ | refine ix_new _ (by omega) fun _ _ => ?_ | refine ixI_new (by omega) (by omega) fun _ _ => ?_ | refine ⟨_, by assumption, ?_⟩); conv => whnf) | (refine Or.inr (Or.inl ?_); (conv => whnf); (repeat (refine aI ?_; conv => whnf)); refine ⟨_, hsp, ?_⟩; rintro _ _ ⟨rfl, rfl⟩ <;> (conv => whnf)) | ((first | refine Alt2.l (aI ?_) | refine Alt2.r (aI ?_)); conv => whnf) | (refine Ok.scope ?_) | ((first | refine Ok.label ?_ | refine rd rfl (by assumption) ?_ | refine ⟨_, .inl ⟨rfl, rfl⟩, ?_⟩ | refine ⟨_, _, rfl, rfl, ?_⟩); conv => whnf) | (refine ⟨fun _ => ?_, fun _ => ?_⟩ <;> (conv => whnf) <;> (try (exfalso; omega))) | ((first | refine aJ ?_ | refine num_any ?_ | refine ⟨_, rfl, ?_⟩); conv => whnf) | fail)
        refine ⟨_, collect_pan hseq (limit - (out.length : Int)) (by omega) hov (by omega), ?_⟩
        (conv => whnf)
        refine ⟨rfl, 1, 2, _, _, rfl, rfl, rfl, rfl, rfl, rfl, by decide, rfl, ?_⟩
        (conv => whnf)
        refine Or.inl ?_; (conv => whnf)
        exact ⟨rfl, _, rfl⟩
      · rw [if_neg hov] at hsx
        (try (conv => whnf)); repeat' (first | refine Ok.seq ?_ | refine OkL.cons ?_ | ((first | refine Ok.region tok ?_ | refine Ok.region_plan (id := 9) tok follows [(1, 2, []), (1, 7, [2]), (4, 7, [6, 5]), (2, 7, [])] [.q 0, .q 1, .q 3, .q 4, .q 5, .q 6, .l 2, .l 7, .q 8] (by kernel_rfl) ?_ | refine Ok.region_plan (id := 13) tok follows [(1, 2, []), (1, 7, [2]), (4, 7, [6, 5]), (2, 7, [])] [.q 0, .q 1, .q 3, .q 4, .q 5, .q 6, .l 2, .l 7, .q 8] (by kernel_rfl) ?_ | refine Ok.region_draw tok follows (by kernel_rfl) ?_ | refine Ok.cond ?_); conv => whnf) | refine Ok.block ?_ | ((first | refine Ok.skip ?_ | refine Ok.exit ?_ | refine Ok.ret ?_ | refine nI ?_ | refine ix _ (by assumption) ?_ | refine ixI (by omega) (by assumption) ?_ | refine ix_new _ (by omega) fun _ _ => ?_ | refine ixI_new (by omega) (by omega) fun _ _ => ?_ | refine ⟨_, by assumption, ?_⟩); conv => whnf) | (refine Or.inr (Or.inl ?_); (conv => whnf); (repeat (refine aI ?_; conv => whnf)); refine ⟨_, hsp, ?_⟩; rintro _ _ ⟨rfl, rfl⟩ <;> (conv => whnf)) | (refine Or.inr (Or.inl ?_); (conv => whnf); (repeat (refine aI ?_; conv => whnf)); refine ⟨_, collect_at hseq (limit - (out.length : Int)) (by omega) (by omega) , ?_⟩; rintro _ _ ⟨rm6, rfl, rfl⟩ <;> (conv => whnf)) | ((first | refine Alt2.l (aI ?_) | refine Alt2.r (aI ?_)); conv => whnf) | (refine Ok.scope ?_) | ((first | refine Ok.label ?_ | refine rd rfl (by assumption) ?_ | refine ⟨_, .inl ⟨rfl, rfl⟩, ?_⟩ | refine ⟨_, _, rfl, rfl, ?_⟩); conv => whnf) | (refine ⟨fun _ => ?_, fun _ => ?_⟩ <;> (conv => whnf) <;> (try (exfalso; omega))) | ((first | refine aJ ?_ | refine num_any ?_ | refine ⟨_, rfl, ?_⟩); conv => whnf) | fail)
        refine ⟨(j + 1, splL m l, rm6), by dsimp only; omega, ⟨by dsimp only; omega, hsx, hsa, by dsimp only; omega⟩, ?_⟩
        (conv => whnf)
        rfl
    · have hje : j = a.t.less.length := by omega
      subst hje
      rw [List.drop_length] at hsx
      have hsx : splX (limit - (out.length : Int)) a.t.less [a.t.p] = some l := hsx
      rw [hsx] at hex
      have hap : (out.map crow ++ l.map crow).length = out.length + l.length := by simp
      (try (conv => whnf)); repeat' (first | refine Ok.seq ?_ | refine OkL.cons ?_ | ((first | refine Ok.region tok ?_ | refine Ok.region_plan (id := 9) tok follows [(1, 2, []), (1, 7, [2]), (4, 7, [6, 5]), (2, 7, [])] [.q 0, .q 1, .q 3, .q 4, .q 5, .q 6, .l 2, .l 7, .q 8] (by kernel_rfl) ?_ | refine Ok.region_plan (id := 13) tok follows [(1, 2, []), (1, 7, [2]), (4, 7, [6, 5]), (2, 7, [])] [.q 0, .q 1, .q 3, .q 4, .q 5, .q 6, .l 2, .l 7, .q 8] (by kernel_rfl) ?_ | refine Ok.region_draw tok follows (by kernel_rfl) ?_ | refine Ok.cond ?_); conv => whnf) | refine Ok.block ?_ | ((first | refine Ok.skip ?_ | refine Ok.exit ?_ | refine Ok.ret ?_ | refine nI ?_ | refine ix _ (by assumption) ?_ | refine ixI (by omega) (by assumption) ?_ | refine ix_new _ (by omega) fun _ _ => ?_ | refine ixI_new (by omega) (by omega) fun _ _ => ?_ | refine ⟨_, by assumption, ?_⟩ | refine Alt2.l (aI ?_) | refine Alt2.r (aI ?_)); conv => whnf) | (refine Ok.scope ?_) | ((first | refine Ok.label ?_ | refine rd rfl (by assumption) ?_ | refine ⟨_, .inl ⟨rfl, rfl⟩, ?_⟩ | refine ⟨_, _, rfl, rfl, ?_⟩); conv => whnf) | (refine ⟨fun _ => ?_, fun _ => ?_⟩ <;> (conv => whnf) <;> (try (exfalso; omega))) | ((first | refine aJ ?_ | refine num_any ?_ | refine ⟨_, rfl, ?_⟩); conv => whnf) | fail)
      refine ⟨(i + 1, out ++ l), by dsimp only; omega, ⟨by dsimp only; omega, hex, fun c hc => (List.mem_append.1 hc).elim (hal c) (hla c), by dsimp only; rw [List.length_append]; omega⟩, ?_⟩
      (conv => whnf)
      simp [envCat]
  · have hie : i = ts.length := by omega
    subst hie
    rw [List.drop_length] at hex
    have hex : expX limit ts [] = some out := hex
    rw [expO_some hz harg hex]
    (try (conv => whnf)); repeat' (first | refine Ok.seq ?_ | refine OkL.cons ?_ | ((first | refine Ok.region tok ?_ | refine Ok.region_plan (id := 9) tok follows [(1, 2, []), (1, 7, [2]), (4, 7, [6, 5]), (2, 7, [])] [.q 0, .q 1, .q 3, .q 4, .q 5, .q 6, .l 2, .l 7, .q 8] (by kernel_rfl) ?_ | refine Ok.region_plan (id := 13) tok follows [(1, 2, []), (1, 7, [2]), (4, 7, [6, 5]), (2, 7, [])] [.q 0, .q 1, .q 3, .q 4, .q 5, .q 6, .l 2, .l 7, .q 8] (by kernel_rfl) ?_ | refine Ok.region_draw tok follows (by kernel_rfl) ?_ | refine Ok.cond ?_); conv => whnf) | refine Ok.block ?_ | ((first | refine Ok.skip ?_ | refine Ok.exit ?_ | refine Ok.ret ?_ | refine nI ?_ | refine ix _ (by assumption) ?_ | refine ixI (by omega) (by assumption) ?_ | refine ix_new _ (by omega) fun _ _ => ?_ | refine ixI_new (by omega) (by omega) fun _ _ => ?_ | refine ⟨_, by assumption, ?_⟩ | refine Alt2.l (aI ?_) | refine Alt2.r (aI ?_)); conv => whnf) | (refine Ok.scope ?_) | ((first | refine Ok.label ?_ | refine rd rfl (by assumption) ?_ | refine ⟨_, .inl ⟨rfl, rfl⟩, ?_⟩ | refine ⟨_, _, rfl, rfl, ?_⟩); conv => whnf) | (refine ⟨fun _ => ?_, fun _ => ?_⟩ <;> (conv => whnf) <;> (try (exfalso; omega))) | ((first | refine aJ ?_ | refine num_any ?_ | refine ⟨_, rfl, ?_⟩); conv => whnf) | fail)
    refine Or.inl ?_; (conv => whnf)
    refine ⟨rfl, [], ?_⟩
    rw [List.take_of_length_le (by simp), List.drop_of_length_le (by simp)]
    rfl
end Go.Proofs.YtaiondckookpiaaDoor
namespace Go.Proofs.YtaiondckookpiaaDoor
open Go Go.Vx
def lst1 (b : UInt8) : UInt8 := if b = 120 then 48 else b
def leastL (c : Str) : Str := c.map lst1
theorem leastL_len (c : Str) : (leastL c).length = c.length := by simp [leastL]
theorem leastL_get {c : Str} {i : Nat} {b : UInt8} (h : c[i]? = some b) : (leastL c)[i]? = some (lst1 b) := by simp [leastL, h]
theorem memb_at (c : Str) : FSpec Tryd.prog T 63 [.agg (crow c)] (fun d rows => d = .fn 85 [] [.ep (crow c)] ∧ rows = []) := by
  refine FSpec.of_ok tok Tryd.func63 rfl Tryd.call63 (by simp) ?_
  (try (conv => whnf)); repeat' (first | ((with_reducible_and_instances (first | refine nShr (by assumption) ?_ | refine nShl1' rfl (by assumption) ?_ | refine nAnd ?_ | refine nOr ?_ | refine nXor ?_ | refine nAndNot ?_ | refine nAnd1' rfl ?_)); conv => whnf) | refine Ok.seq ?_ | refine OkL.cons ?_ | ((first | refine Ok.region tok ?_ | refine Ok.region_draw tok follows (by kernel_rfl) ?_ | refine Ok.cond ?_); conv => whnf) | refine Ok.block ?_ | ((first | refine Ok.skip ?_ | refine Ok.exit ?_ | refine Ok.ret ?_ | refine nI ?_ | refine ix _ (by assumption) ?_ | refine ixI (by omega) (by assumption) ?_ | refine ix_new _ (by omega) fun _ _ => ?_ | refine ixI_new (by omega) (by omega) fun _ _ => ?_ | refine ⟨_, by assumption, ?_⟩ | refine Alt2.l (aI ?_) | refine Alt2.r (aI ?_)); conv => whnf) | (refine Ok.scope ?_) | ((first | refine Ok.label ?_ | refine rd rfl (by assumption) ?_ | refine ⟨_, .inl ⟨rfl, rfl⟩, ?_⟩ | refine ⟨_, _, rfl, rfl, ?_⟩); conv => whnf) | (refine ⟨fun _ => ?_, fun _ => ?_⟩ <;> (conv => whnf) <;> (try (exfalso; omega))) | ((first | refine aJ ?_ | refine num_any ?_ | refine ⟨_, rfl, ?_⟩); conv => whnf) | fail)
  refine Or.inr ?_
  (conv => whnf)
  (try (conv => whnf)); repeat' (first | ((with_reducible_and_instances (first | refine nShr (by assumption) ?_ | refine nShl1' rfl (by assumption) ?_ | refine nAnd ?_ | refine nOr ?_ | refine nXor ?_ | refine nAndNot ?_ | refine nAnd1' rfl ?_)); conv => whnf) | (refine Ok.pubB (c := Code.ret) rfl ?_; (conv => whnf); refine Ok.ret ?_; (conv => whnf)) | refine Ok.seq ?_ | refine OkL.cons ?_ | ((first | refine Ok.region tok ?_ | refine Ok.region_draw tok follows (by kernel_rfl) ?_ | refine Ok.cond ?_); conv => whnf) | refine Ok.block ?_ | ((first | refine Ok.skip ?_ | refine Ok.exit ?_ | refine Ok.ret ?_ | refine nI ?_ | refine ix _ (by assumption) ?_ | refine ixI (by omega) (by assumption) ?_ | refine ix_new _ (by omega) fun _ _ => ?_ | refine ixI_new (by omega) (by omega) fun _ _ => ?_ | refine ⟨_, by assumption, ?_⟩ | refine Alt2.l (aI ?_) | refine Alt2.r (aI ?_)); conv => whnf) | (refine Ok.scope ?_) | ((first | refine Ok.label ?_ | refine rd rfl (by assumption) ?_ | refine ⟨_, .inl ⟨rfl, rfl⟩, ?_⟩ | refine ⟨_, _, rfl, rfl, ?_⟩); conv => whnf) | (refine ⟨fun _ => ?_, fun _ => ?_⟩ <;> (conv => whnf) <;> (try (exfalso; omega))) | ((first | refine aJ ?_ | refine num_any ?_ | refine ⟨_, rfl, ?_⟩); conv => whnf) | fail)
  refine Or.inl ?_; (conv => whnf)
  exact ⟨rfl, rfl⟩
theorem fill_at2 {L : Str} {i : Nat} (hi : i < L.length) (x : UInt8) : ((L.take i ++ List.replicate (L.length - i) (0 : UInt8)).set i x)[i]? = some x := by
  rw [List.getElem?_set_self (by simp; omega)]
set_option maxHeartbeats 4000000 in
theorem memb_seq (c : Str) (hc : CN c) : YSpecI Tryd.prog T 85 [.ep (crow c)] [[.s (leastL c)]] (· = 0) := by
  have hlen := hc.1.len
  have hpos : 0 < c.length := List.length_pos_iff.2 hc.2
  refine YSpecI.of_okO Tryd.func85 rfl Tryd.call85 rfl (show 2 ≤ 37 by decide) fun y => ?_
  refine OkO.seq ?_
  (try (conv => whnf)); repeat' (first | ((with_reducible_and_instances (first | refine nShr (by assumption) ?_ | refine nShl1' rfl (by assumption) ?_ | refine nAnd ?_ | refine nOr ?_ | refine nXor ?_ | refine nAndNot ?_ | refine nAnd1' rfl ?_)); conv => whnf) | refine Ok.seq ?_ | refine OkL.cons ?_ | ((first | refine Ok.region tok ?_ | refine Ok.region_draw tok follows (by kernel_rfl) ?_ | refine Ok.cond ?_); conv => whnf) | refine Ok.block ?_ | ((first | refine Ok.skip ?_ | refine Ok.exit ?_ | refine Ok.ret ?_ | refine nI ?_ | refine ix _ (by assumption) ?_ | refine ixI (by omega) (by assumption) ?_ | refine ix_new _ (by omega) fun _ _ => ?_ | refine ixI_new (by omega) (by omega) fun _ _ => ?_ | refine ⟨_, by assumption, ?_⟩ | refine Alt2.l (aI ?_) | refine Alt2.r (aI ?_)); conv => whnf) | (refine Ok.scope ?_) | ((first | refine Ok.label ?_ | refine rd rfl (by assumption) ?_ | refine ⟨_, .inl ⟨rfl, rfl⟩, ?_⟩ | refine ⟨_, _, rfl, rfl, ?_⟩); conv => whnf) | (refine ⟨fun _ => ?_, fun _ => ?_⟩ <;> (conv => whnf) <;> (try (exfalso; omega))) | ((first | refine aJ ?_ | refine num_any ?_ | refine ⟨_, rfl, ?_⟩); conv => whnf) | fail)
  refine OkO.seq ?_
  (try (conv => whnf)); repeat' (first | ((with_reducible_and_instances (first | refine nShr (by assumption) ?_ | refine nShl1' rfl (by assumption) ?_ | refine nAnd ?_ | refine nOr ?_ | refine nXor ?_ | refine nAndNot ?_ | refine nAnd1' rfl ?_)); conv => whnf) | refine Ok.seq ?_ | refine OkL.cons ?_ | ((first | refine Ok.region tok ?_ | refine Ok.region_draw tok follows (by kernel_rfl) ?_ | refine Ok.cond ?_); conv => whnf) | refine Ok.block ?_ | ((first | refine Ok.skip ?_ | refine Ok.exit ?_ | refine Ok.ret ?_ | refine nI ?_ | refine ix _ (by assumption) ?_ | refine ixI (by omega) (by assumption) ?_ | refine ix_new _ (by omega) fun _ _ => ?_ | refine ixI_new (by omega) (by omega) fun _ _ => ?_ | refine ⟨_, by assumption, ?_⟩ | refine Alt2.l (aI ?_) | refine Alt2.r (aI ?_)); conv => whnf) | (refine Ok.scope ?_) | ((first | refine Ok.label ?_ | refine rd rfl (by assumption) ?_ | refine ⟨_, .inl ⟨rfl, rfl⟩, ?_⟩ | refine ⟨_, _, rfl, rfl, ?_⟩); conv => whnf) | (refine ⟨fun _ => ?_, fun _ => ?_⟩ <;> (conv => whnf) <;> (try (exfalso; omega))) | ((first | refine aJ ?_ | refine num_any ?_ | refine ⟨_, rfl, ?_⟩); conv => whnf) | fail)
  refine OkO.seq ?_
  (try (conv => whnf)); repeat' (first | ((with_reducible_and_instances (first | refine nShr (by assumption) ?_ | refine nShl1' rfl (by assumption) ?_ | refine nAnd ?_ | refine nOr ?_ | refine nXor ?_ | refine nAndNot ?_ | refine nAnd1' rfl ?_)); conv => whnf) | refine Ok.seq ?_ | refine OkL.cons ?_ | ((first | refine Ok.region tok ?_ | refine Ok.region_draw tok follows (by kernel_rfl) ?_ | refine Ok.cond ?_); conv => whnf) | refine Ok.block ?_ | ((first | refine Ok.skip ?_ | refine Ok.exit ?_ | refine Ok.ret ?_ | refine nI ?_ | refine ix _ (by assumption) ?_ | refine ixI (by omega) (by assumption) ?_ | refine ix_new _ (by omega) fun _ _ => ?_ | refine ixI_new (by omega) (by omega) fun _ _ => ?_ | refine ⟨_, by assumption, ?_⟩ | refine Alt2.l (aI ?_) | refine Alt2.r (aI ?_)); conv => whnf) | (refine Ok.scope ?_) | ((first | refine Ok.label ?_ | refine rd rfl (by assumption) ?_ | refine ⟨_, .inl ⟨rfl, rfl⟩, ?_⟩ | refine ⟨_, _, rfl, rfl, ?_⟩); conv => whnf) | (refine ⟨fun _ => ?_, fun _ => ?_⟩ <;> (conv => whnf) <;> (try (exfalso; omega))) | ((first | refine aJ ?_ | refine num_any ?_ | refine ⟨_, rfl, ?_⟩); conv => whnf) | fail)
  all_goals first
    | (exfalso; omega)
    | skip
  refine OkO.seq ?_
  (try (conv => whnf)); repeat' (first | ((with_reducible_and_instances (first | refine nShr (by assumption) ?_ | refine nShl1' rfl (by assumption) ?_ | refine nAnd ?_ | refine nOr ?_ | refine nXor ?_ | refine nAndNot ?_ | refine nAnd1' rfl ?_)); conv => whnf) | refine Ok.seq ?_ | refine OkL.cons ?_ | ((first | refine Ok.region tok ?_ | refine Ok.region_draw tok follows (by kernel_rfl) ?_ | refine Ok.cond ?_); conv => whnf) | refine Ok.block ?_ | ((first | refine Ok.skip ?_ | refine Ok.exit ?_ | refine Ok.ret ?_ | refine nI ?_ | refine ix _ (by assumption) ?_ | refine ixI (by omega) (by assumption) ?_ | refine ix_new _ (by omega) fun _ _ => ?_ | refine ixI_new (by omega) (by omega) fun _ _ => ?_ | refine ⟨_, by assumption, ?_⟩ | refine Alt2.l (aI ?_) | refine Alt2.r (aI ?_)); conv => whnf) | (refine Ok.scope ?_) | ((first | refine Ok.label ?_ | refine rd rfl (by assumption) ?_ | refine ⟨_, .inl ⟨rfl, rfl⟩, ?_⟩ | refine ⟨_, _, rfl, rfl, ?_⟩); conv => whnf) | (refine ⟨fun _ => ?_, fun _ => ?_⟩ <;> (conv => whnf) <;> (try (exfalso; omega))) | ((first | refine aJ ?_ | refine num_any ?_ | refine ⟨_, rfl, ?_⟩); conv => whnf) | fail)
  refine OkO.block (OkO.loop (OkO.seq ?_))
  (try (conv => whnf)); repeat' (first | ((with_reducible_and_instances (first | refine nShr (by assumption) ?_ | refine nShl1' rfl (by assumption) ?_ | refine nAnd ?_ | refine nOr ?_ | refine nXor ?_ | refine nAndNot ?_ | refine nAnd1' rfl ?_)); conv => whnf) | refine Ok.seq ?_ | refine OkL.cons ?_ | ((first | refine Ok.region tok ?_ | refine Ok.region_draw tok follows (by kernel_rfl) ?_ | refine Ok.cond ?_); conv => whnf) | refine Ok.block ?_ | ((first | refine Ok.skip ?_ | refine Ok.exit ?_ | refine Ok.ret ?_ | refine nI ?_ | refine ix _ (by assumption) ?_ | refine ixI (by omega) (by assumption) ?_ | refine ix_new _ (by omega) fun _ _ => ?_ | refine ixI_new (by omega) (by omega) fun _ _ => ?_ | refine ⟨_, by assumption, ?_⟩ | refine Alt2.l (aI ?_) | refine Alt2.r (aI ?_)); conv => whnf) | (refine Ok.scope ?_) | ((first | refine Ok.label ?_ | refine rd rfl (by assumption) ?_ | refine ⟨_, .inl ⟨rfl, rfl⟩, ?_⟩ | refine ⟨_, _, rfl, rfl, ?_⟩); conv => whnf) | (refine ⟨fun _ => ?_, fun _ => ?_⟩ <;> (conv => whnf) <;> (try (exfalso; omega))) | ((first | refine aJ ?_ | refine num_any ?_ | refine ⟨_, rfl, ?_⟩); conv => whnf) | fail)
  refine OkO.seqY (OkO.block (OkO.seq ?_))
  obtain ⟨L, hL⟩ : ∃ L, L = leastL c := ⟨_, rfl⟩
  have hLl : L.length = c.length := by rw [hL]; exact leastL_len c
  (try (conv => whnf)); repeat' (first | ((with_reducible_and_instances (first | refine nShr (by assumption) ?_ | refine nShl1' rfl (by assumption) ?_ | refine nAnd ?_ | refine nOr ?_ | refine nXor ?_ | refine nAndNot ?_ | refine nAnd1' rfl ?_)); conv => whnf) | refine Ok.seq ?_ | refine OkL.cons ?_ | ((first | refine Ok.region tok ?_ | refine Ok.region_draw tok follows (by kernel_rfl) ?_ | refine Ok.cond ?_); conv => whnf) | refine Ok.block ?_ | ((first | refine Ok.skip ?_ | refine Ok.exit ?_ | refine Ok.ret ?_ | refine nI ?_ | refine ix _ (by assumption) ?_ | refine ixI (by omega) (by assumption) ?_ | refine ix_new _ (by omega) fun _ _ => ?_ | refine ixI_new (by omega) (by omega) fun _ _ => ?_ | refine ⟨_, by assumption, ?_⟩ | refine Alt2.l (aI ?_) | refine Alt2.r (aI ?_)); conv => whnf) | (refine Ok.scope ?_) | ((first | refine Ok.label ?_ | refine rd rfl (by assumption) ?_ | refine ⟨_, .inl ⟨rfl, rfl⟩, ?_⟩ | refine ⟨_, _, rfl, rfl, ?_⟩); conv => whnf) | (refine ⟨fun _ => ?_, fun _ => ?_⟩ <;> (conv => whnf) <;> (try (exfalso; omega))) | ((first | refine aJ ?_ | refine num_any ?_ | refine ⟨_, rfl, ?_⟩); conv => whnf) | fail)
  refine Ok.loopU [0, 1, 3, 4, 19] [20] 1 1 (fun (i : Nat) => [.i .i64 (i : Nat)]) (fun (i : Nat) (_ : List (List D)) => [[.i .u64 ((wof (one c) 0).toNat : Int), .i .u64 ((wof (one c) 1).toNat : Int), .i .u64 ((wof (one c) 2).toNat : Int), .i .u64 ((wof (one c) 3).toNat : Int)]]) (fun (i : Nat) (_ : Vx.Rows) => [some (5, (L.take i ++ List.replicate (c.length - i) 0).map bcell)]) (fun (i : Nat) => i ≤ c.length) (fun (i : Nat) => c.length - i) (0) (Nat.zero_le _) ?_; (conv => whnf); refine ⟨by ((conv => whnf); first | rfl | (simp [envCat, List.take_of_length_le, cells9, bcell, crow]; done) | (simp [envCat, List.take_of_length_le, cells9, bcell, crow]; rw [IntKind.wrap_i64]; omega)), ?_⟩
  rintro i hi
  have hll : (L.take i ++ List.replicate (c.length - i) (0 : UInt8)).length = c.length := by simp; omega
  have hlm : ((L.take i ++ List.replicate (c.length - i) (0 : UInt8)).map bcell).length = c.length := by rw [List.length_map, hll]
  (conv => whnf)
  by_cases hit : i < c.length
  · obtain ⟨b, hb⟩ : ∃ b, c[i]? = some b := ⟨_, List.getElem?_eq_getElem hit⟩
    have hbL : L[i]? = some (lst1 b) := by rw [hL]; exact leastL_get hb
    obtain ⟨q, r, hqr, hr, hq⟩ := split64 i (by omega)
    have hrem := rem64 hqr hr
    have hquo := quo64 hqr hr (by omega)
    have hrr : ((r : Nat) : Int) = ((r : Nat) : Int) ∧ r < 64 := ⟨rfl, hr⟩
    have hoa := at_word (f := one c) hqr hr
    rw [(at_b hb).2] at hoa
    have hfa := fill_at (t := L) (i := i) (by omega)
    have hfs := fill_set hbL
    have hf2 := fill_at2 (L := L) (i := i) (by omega) 48
    rw [hLl] at hfa hfs hf2
    by_cases h49 : b = 49
    · subst h49
      have ho := hoa.2 rfl
      rcases hq with rfl | rfl | rfl | rfl
      all_goals
        (try (conv => whnf)); repeat' (first | ((with_reducible_and_instances (first | refine nShr (by assumption) ?_ | refine nShl1' rfl (by assumption) ?_ | refine nAnd ?_ | refine nOr ?_ | refine nXor ?_ | refine nAndNot ?_ | refine nAnd1' rfl ?_)); conv => whnf) | refine Ok.seq ?_ | refine OkL.cons ?_ | ((first | refine Ok.region tok ?_ | refine ⟨_, (hquo.symm).symm, ?_⟩ | refine ⟨_, (hrem.symm).symm, ?_⟩ | refine Ok.region_draw tok follows (by kernel_rfl) ?_ | refine Ok.cond ?_); conv => whnf) | refine Ok.block ?_ | ((first | refine Ok.skip ?_ | refine Ok.exit ?_ | refine Ok.ret ?_ | refine nI ?_ | refine ix _ (by assumption) ?_ | refine ixI (by omega) (by assumption) ?_ | refine ix_new _ (by omega) fun _ _ => ?_ | refine ixI_new (by omega) (by omega) fun _ _ => ?_ | refine ⟨_, by assumption, ?_⟩ | refine Alt2.l (aI ?_) | refine Alt2.r (aI ?_)); conv => whnf) | (refine Ok.scope ?_) | ((first | refine Ok.label ?_ | refine rd rfl (by assumption) ?_ | refine ⟨_, .inl ⟨rfl, rfl⟩, ?_⟩ | refine ⟨_, _, rfl, rfl, ?_⟩); conv => whnf) | (refine ⟨fun _ => ?_, fun _ => ?_⟩ <;> (conv => whnf) <;> (try (exfalso; omega))) | ((first | refine aJ ?_ | refine num_any ?_ | refine ⟨_, rfl, ?_⟩); conv => whnf) | fail)
        refine st 48 hfa (by simp [bcell]) (by simp [setCells, bcell]) ?_
        (try (conv => whnf)); repeat' (first | ((with_reducible_and_instances (first | refine nShr (by assumption) ?_ | refine nShl1' rfl (by assumption) ?_ | refine nAnd ?_ | refine nOr ?_ | refine nXor ?_ | refine nAndNot ?_ | refine nAnd1' rfl ?_)); conv => whnf) | refine Ok.seq ?_ | refine OkL.cons ?_ | ((first | refine Ok.region tok ?_ | refine ⟨_, (hquo.symm).symm, ?_⟩ | refine ⟨_, (hrem.symm).symm, ?_⟩ | refine Ok.region_draw tok follows (by kernel_rfl) ?_ | refine Ok.cond ?_); conv => whnf) | refine Ok.block ?_ | ((first | refine Ok.skip ?_ | refine Ok.exit ?_ | refine Ok.ret ?_ | refine nI ?_ | refine ix _ (by assumption) ?_ | refine ixI (by omega) (by assumption) ?_ | refine ix_new _ (by omega) fun _ _ => ?_ | refine ixI_new (by omega) (by omega) fun _ _ => ?_ | refine ⟨_, by assumption, ?_⟩ | refine Alt2.l (aI ?_) | refine Alt2.r (aI ?_)); conv => whnf) | (refine Ok.scope ?_) | ((first | refine Ok.label ?_ | refine rd rfl (by assumption) ?_ | refine ⟨_, .inl ⟨rfl, rfl⟩, ?_⟩ | refine ⟨_, _, rfl, rfl, ?_⟩); conv => whnf) | (refine ⟨fun _ => ?_, fun _ => ?_⟩ <;> (conv => whnf) <;> (try (exfalso; omega))) | ((first | refine aJ ?_ | refine num_any ?_ | refine ⟨_, rfl, ?_⟩); conv => whnf) | fail)
        refine Or.inr (Or.inr (Or.inl ?_)); (conv => whnf); refine ⟨_, _, Tryd.func64, rfl, Tryd.call64, ?_⟩; (conv => whnf)
        (try (conv => whnf)); repeat' (first | ((with_reducible_and_instances (first | refine nShr (by assumption) ?_ | refine nShl1' rfl (by assumption) ?_ | refine nAnd ?_ | refine nOr ?_ | refine nXor ?_ | refine nAndNot ?_ | refine nAnd1' rfl ?_)); conv => whnf) | refine Ok.seq ?_ | refine OkL.cons ?_ | ((first | refine Ok.region tok ?_ | refine ⟨_, (hquo.symm).symm, ?_⟩ | refine ⟨_, (hrem.symm).symm, ?_⟩ | refine Ok.region_draw tok follows (by kernel_rfl) ?_ | refine Ok.cond ?_); conv => whnf) | refine Ok.block ?_ | ((first | refine Ok.skip ?_ | refine Ok.exit ?_ | refine Ok.ret ?_ | refine nI ?_ | refine ix _ (by assumption) ?_ | refine ixI (by omega) (by assumption) ?_ | refine ix_new _ (by omega) fun _ _ => ?_ | refine ixI_new (by omega) (by omega) fun _ _ => ?_ | refine ⟨_, by assumption, ?_⟩ | refine Alt2.l (aI ?_) | refine Alt2.r (aI ?_)); conv => whnf) | (refine Ok.scope ?_) | ((first | refine Ok.label ?_ | refine rd rfl (by assumption) ?_ | refine ⟨_, .inl ⟨rfl, rfl⟩, ?_⟩ | refine ⟨_, _, rfl, rfl, ?_⟩); conv => whnf) | (refine ⟨fun _ => ?_, fun _ => ?_⟩ <;> (conv => whnf) <;> (try (exfalso; omega))) | ((first | refine aJ ?_ | refine num_any ?_ | refine ⟨_, rfl, ?_⟩); conv => whnf) | fail)
        refine st 49 hf2 (by simp [bcell]) (by simp [setCells, bcell]) ?_
        (try (conv => whnf)); repeat' (first | ((with_reducible_and_instances (first | refine nShr (by assumption) ?_ | refine nShl1' rfl (by assumption) ?_ | refine nAnd ?_ | refine nOr ?_ | refine nXor ?_ | refine nAndNot ?_ | refine nAnd1' rfl ?_)); conv => whnf) | refine Ok.seq ?_ | refine OkL.cons ?_ | ((first | refine Ok.region tok ?_ | refine Ok.region_draw tok follows (by kernel_rfl) ?_ | refine Ok.cond ?_); conv => whnf) | refine Ok.block ?_ | ((first | refine Ok.skip ?_ | refine Ok.exit ?_ | refine Ok.ret ?_ | refine nI ?_ | refine ix _ (by assumption) ?_ | refine ixI (by omega) (by assumption) ?_ | refine ix_new _ (by omega) fun _ _ => ?_ | refine ixI_new (by omega) (by omega) fun _ _ => ?_ | refine ⟨_, by assumption, ?_⟩ | refine Alt2.l (aI ?_) | refine Alt2.r (aI ?_)); conv => whnf) | (refine Ok.scope ?_) | ((first | refine Ok.label ?_ | refine rd rfl (by assumption) ?_ | refine ⟨_, .inl ⟨rfl, rfl⟩, ?_⟩ | refine ⟨_, _, rfl, rfl, ?_⟩); conv => whnf) | (refine ⟨fun _ => ?_, fun _ => ?_⟩ <;> (conv => whnf) <;> (try (exfalso; omega))) | ((first | refine aJ ?_ | refine num_any ?_ | refine ⟨_, rfl, ?_⟩); conv => whnf) | fail)
        refine ⟨i + 1, by omega, by omega, ?_⟩
        rw [show lst1 49 = 49 from rfl] at hfs
        (conv => whnf)
        simp only [toNat_cast, List.set_set, hfs, envCat]
        rfl
    · have hl1 : lst1 b = 48 := by
        rcases hc.1.cub b (List.mem_of_getElem? hb) with rfl | rfl | rfl
        · rfl
        · exact absurd rfl h49
        · rfl
      rw [hl1] at hfs
      have ho : ¬ _ := fun e => absurd (hoa.1 e) (by simpa using h49)
      clear hoa
      rcases hq with rfl | rfl | rfl | rfl
      all_goals
        (try (conv => whnf)); repeat' (first | ((with_reducible_and_instances (first | refine nShr (by assumption) ?_ | refine nShl1' rfl (by assumption) ?_ | refine nAnd ?_ | refine nOr ?_ | refine nXor ?_ | refine nAndNot ?_ | refine nAnd1' rfl ?_)); conv => whnf) | refine Ok.seq ?_ | refine OkL.cons ?_ | ((first | refine Ok.region tok ?_ | refine ⟨_, (hquo.symm).symm, ?_⟩ | refine ⟨_, (hrem.symm).symm, ?_⟩ | refine Ok.region_draw tok follows (by kernel_rfl) ?_ | refine Ok.cond ?_); conv => whnf) | refine Ok.block ?_ | ((first | refine Ok.skip ?_ | refine Ok.exit ?_ | refine Ok.ret ?_ | refine nI ?_ | refine ix _ (by assumption) ?_ | refine ixI (by omega) (by assumption) ?_ | refine ix_new _ (by omega) fun _ _ => ?_ | refine ixI_new (by omega) (by omega) fun _ _ => ?_ | refine ⟨_, by assumption, ?_⟩ | refine Alt2.l (aI ?_) | refine Alt2.r (aI ?_)); conv => whnf) | (refine Ok.scope ?_) | ((first | refine Ok.label ?_ | refine rd rfl (by assumption) ?_ | refine ⟨_, .inl ⟨rfl, rfl⟩, ?_⟩ | refine ⟨_, _, rfl, rfl, ?_⟩); conv => whnf) | (refine ⟨fun _ => ?_, fun _ => ?_⟩ <;> (conv => whnf) <;> (try (exfalso; omega))) | ((first | refine aJ ?_ | refine num_any ?_ | refine ⟨_, rfl, ?_⟩); conv => whnf) | fail)
        refine st 48 hfa (by simp [bcell]) (by simp [setCells, bcell]) ?_
        (try (conv => whnf)); repeat' (first | ((with_reducible_and_instances (first | refine nShr (by assumption) ?_ | refine nShl1' rfl (by assumption) ?_ | refine nAnd ?_ | refine nOr ?_ | refine nXor ?_ | refine nAndNot ?_ | refine nAnd1' rfl ?_)); conv => whnf) | refine Ok.seq ?_ | refine OkL.cons ?_ | ((first | refine Ok.region tok ?_ | refine ⟨_, (hquo.symm).symm, ?_⟩ | refine ⟨_, (hrem.symm).symm, ?_⟩ | refine Ok.region_draw tok follows (by kernel_rfl) ?_ | refine Ok.cond ?_); conv => whnf) | refine Ok.block ?_ | ((first | refine Ok.skip ?_ | refine Ok.exit ?_ | refine Ok.ret ?_ | refine nI ?_ | refine ix _ (by assumption) ?_ | refine ixI (by omega) (by assumption) ?_ | refine ix_new _ (by omega) fun _ _ => ?_ | refine ixI_new (by omega) (by omega) fun _ _ => ?_ | refine ⟨_, by assumption, ?_⟩ | refine Alt2.l (aI ?_) | refine Alt2.r (aI ?_)); conv => whnf) | (refine Ok.scope ?_) | ((first | refine Ok.label ?_ | refine rd rfl (by assumption) ?_ | refine ⟨_, .inl ⟨rfl, rfl⟩, ?_⟩ | refine ⟨_, _, rfl, rfl, ?_⟩); conv => whnf) | (refine ⟨fun _ => ?_, fun _ => ?_⟩ <;> (conv => whnf) <;> (try (exfalso; omega))) | ((first | refine aJ ?_ | refine num_any ?_ | refine ⟨_, rfl, ?_⟩); conv => whnf) | fail)
        refine Or.inr (Or.inr (Or.inl ?_)); (conv => whnf); refine ⟨_, _, Tryd.func64, rfl, Tryd.call64, ?_⟩; (conv => whnf)
        (try (conv => whnf)); repeat' (first | ((with_reducible_and_instances (first | refine nShr (by assumption) ?_ | refine nShl1' rfl (by assumption) ?_ | refine nAnd ?_ | refine nOr ?_ | refine nXor ?_ | refine nAndNot ?_ | refine nAnd1' rfl ?_)); conv => whnf) | refine Ok.seq ?_ | refine OkL.cons ?_ | ((first | refine Ok.region tok ?_ | refine ⟨_, (hquo.symm).symm, ?_⟩ | refine ⟨_, (hrem.symm).symm, ?_⟩ | refine Ok.region_draw tok follows (by kernel_rfl) ?_ | refine Ok.cond ?_); conv => whnf) | refine Ok.block ?_ | ((first | refine Ok.skip ?_ | refine Ok.exit ?_ | refine Ok.ret ?_ | refine nI ?_ | refine ix _ (by assumption) ?_ | refine ixI (by omega) (by assumption) ?_ | refine ix_new _ (by omega) fun _ _ => ?_ | refine ixI_new (by omega) (by omega) fun _ _ => ?_ | refine ⟨_, by assumption, ?_⟩ | refine Alt2.l (aI ?_) | refine Alt2.r (aI ?_)); conv => whnf) | (refine Ok.scope ?_) | ((first | refine Ok.label ?_ | refine rd rfl (by assumption) ?_ | refine ⟨_, .inl ⟨rfl, rfl⟩, ?_⟩ | refine ⟨_, _, rfl, rfl, ?_⟩); conv => whnf) | (refine ⟨fun _ => ?_, fun _ => ?_⟩ <;> (conv => whnf) <;> (try (exfalso; omega))) | ((first | refine aJ ?_ | refine num_any ?_ | refine ⟨_, rfl, ?_⟩); conv => whnf) | fail)
        refine ⟨i + 1, by omega, by omega, ?_⟩
        (conv => whnf)
        simp only [toNat_cast, hfs, envCat]
        rfl
  · have he : i = c.length := by omega
    subst he
    have hLt : L.take c.length = L := by rw [← hLl]; exact List.take_length
    rw [hLt, Nat.sub_self, List.replicate_zero, List.append_nil] at *
    (try (conv => whnf)); repeat' (first | ((with_reducible_and_instances (first | refine nShr (by assumption) ?_ | refine nShl1' rfl (by assumption) ?_ | refine nAnd ?_ | refine nOr ?_ | refine nXor ?_ | refine nAndNot ?_ | refine nAnd1' rfl ?_)); conv => whnf) | refine Ok.seq ?_ | refine OkL.cons ?_ | ((first | refine Ok.region tok ?_ | refine Ok.region_draw tok follows (by kernel_rfl) ?_ | refine Ok.cond ?_); conv => whnf) | refine Ok.block ?_ | ((first | refine Ok.skip ?_ | refine Ok.exit ?_ | refine Ok.ret ?_ | refine nI ?_ | refine ix _ (by assumption) ?_ | refine ixI (by omega) (by assumption) ?_ | refine ix_new _ (by omega) fun _ _ => ?_ | refine ixI_new (by omega) (by omega) fun _ _ => ?_ | refine ⟨_, by assumption, ?_⟩ | refine Alt2.l (aI ?_) | refine Alt2.r (aI ?_)); conv => whnf) | (refine Ok.scope ?_) | ((first | refine Ok.label ?_ | refine rd rfl (by assumption) ?_ | refine ⟨_, .inl ⟨rfl, rfl⟩, ?_⟩ | refine ⟨_, _, rfl, rfl, ?_⟩); conv => whnf) | (refine ⟨fun _ => ?_, fun _ => ?_⟩ <;> (conv => whnf) <;> (try (exfalso; omega))) | ((first | refine aJ ?_ | refine num_any ?_ | refine ⟨_, rfl, ?_⟩); conv => whnf) | fail)
    refine OkO.seqY (OkO.yreg tok 3 ?_)
    (conv => whnf)
    refine ⟨by rw [List.length_map]; omega, L, by rw [← hLl]; exact take_all bcell L, ?_⟩
    (conv => whnf)
    subst hL
    refine ⟨rfl, rfl, rfl, ?_⟩
    (conv => whnf)
    refine OkY.cond ?_
    (conv => whnf)
    refine OkY.ret ?_
    (conv => whnf)
    exact ⟨rfl, .inr rfl⟩
end Go.Proofs.YtaiondckookpiaaDoor
namespace Go.Proofs.YtaiondckookpiaaDoor
open Go Go.Vx
open Classical in
noncomputable def lstep (b c : Str) : Str := if b = [] ∨ Op.bytesLess (leastL c) b = true then leastL c else b
noncomputable def lsts (l : List Str) : Str := l.foldl lstep []
noncomputable def lstO (o : Int × List Str) : Int × Str := if o.1 = 0 then (0, lsts o.2) else (o.1, [])
theorem lsts_snoc {l : List Str} {i : Nat} {c : Str} (h : l[i]? = some c) : lsts (l.take (i + 1)) = lstep (lsts (l.take i)) c := by
  unfold lsts; rw [take_snoc h, List.foldl_append]; rfl
theorem lstep_yes {b c : Str} (h : b = [] ∨ Op.bytesLess (leastL c) b = true) : lstep b c = leastL c := if_pos h
theorem lstep_no {b c : Str} (h : ¬ (b = [] ∨ Op.bytesLess (leastL c) b = true)) : lstep b c = b := if_neg h
def LOut (o : Int × Str) (d : D) (_ : Vx.Rows) : Prop := d = .tup [.s o.2, .b (o.2 ≠ []), .i .i64 o.1]
set_option maxRecDepth 100000 in
set_option maxHeartbeats 8000000 in
theorem least_at {n : Int} {ts : List Term} (hf : Fine n ts) (ks : List TR) (rm : List (List D)) (h1 : ks.map TR.t = ts) (limit : Int) :
    FSpec Tryd.prog T 34 [.agg [.i .i64 n, .lst 81 (ks.map trow) rm], .i .i64 limit] (LOut (lstO (expO n ts limit))) := by
  have hex := expand_at hf ks rm h1 limit
  have hal := expO_all (limit := limit) hf
  generalize expO n ts limit = o at *
  obtain ⟨x, l⟩ := o
  dsimp only at hal
  obtain ⟨hal, hll⟩ := hal
  have hlm : (l.map crow).length = l.length := by simp
  replace hex : FSpec Tryd.prog T 26 [.agg [.i .i64 n, .lst 81 (ks.map trow) rm], .i .i64 limit] (fun d rows => rows = [] ∧ ∃ rm, d = .tup [.lst 69 (l.map crow) rm, .i .i64 x]) := hex
  refine FSpec.of_ok tok Tryd.func34 rfl Tryd.call34 (by simp) ?_
  by_cases hx : x = 0
  · subst hx
    rw [show lstO (0, l) = (0, lsts l) from if_pos rfl]
    (try (conv => whnf)); repeat' (first | refine Ok.seq ?_ | refine OkL.cons ?_ | ((first | refine Ok.region tok ?_ | refine Ok.region_draw tok follows (by kernel_rfl) ?_ | refine Ok.cond ?_); conv => whnf) | refine Ok.block ?_ | ((first | refine Ok.skip ?_ | refine Ok.exit ?_ | refine Ok.ret ?_ | refine nI ?_ | refine ix _ (by assumption) ?_ | refine ixI (by omega) (by assumption) ?_ | refine ix_new _ (by omega) fun _ _ => ?_ | refine ixI_new (by omega) (by omega) fun _ _ => ?_ | refine ⟨_, by assumption, ?_⟩); conv => whnf) | (refine Or.inr (Or.inl ?_); (conv => whnf); (repeat (refine aI ?_; conv => whnf)); refine ⟨_, hex , ?_⟩; rintro _ _ ⟨rfl, rm5, rfl⟩ <;> (conv => whnf)) | ((first | refine Alt2.l (aI ?_) | refine Alt2.r (aI ?_)); conv => whnf) | (refine Ok.scope ?_) | ((first | refine Ok.label ?_ | refine rd rfl (by assumption) ?_ | refine ⟨_, .inl ⟨rfl, rfl⟩, ?_⟩ | refine ⟨_, _, rfl, rfl, ?_⟩); conv => whnf) | (refine ⟨fun _ => ?_, fun _ => ?_⟩ <;> (conv => whnf) <;> (try (exfalso; omega))) | ((first | refine aJ ?_ | refine num_any ?_ | refine ⟨_, rfl, ?_⟩); conv => whnf) | fail)
    all_goals first
      | (rename_i h; exact absurd rfl h)
      | skip
    refine Ok.loopU [9, 22, 23] [24] 0 2 (fun (i : Nat) => [.i .i64 (i : Nat)]) (fun (i : Nat) (_ : List (List D)) => [[.i .i64 n, .lst 81 (ks.map trow) rm], [.s (lsts (l.take i))]]) (fun _ r => r) (fun (i : Nat) => i ≤ l.length) (fun (i : Nat) => l.length - i) (0) (Nat.zero_le _) ?_; (conv => whnf); refine ⟨by ((conv => whnf); first | rfl | (simp [envCat, List.take_of_length_le, crow, trow, srow, drow]; done) | (simp [envCat, List.take_of_length_le, crow, trow, srow, drow]; rw [IntKind.wrap_i64]; omega)), ?_⟩
    rintro i hi
    (conv => whnf)
    by_cases hil : i < l.length
    · obtain ⟨c, hc⟩ : ∃ c, l[i]? = some c := ⟨_, List.getElem?_eq_getElem hil⟩
      have hcI : l[((i : Nat) : Int).toNat]? = some c := hc
      have hcw := hal c (List.mem_of_getElem? hc)
      have hsn := lsts_snoc hc
      generalize hbst : lsts (l.take i) = bst at *
      (try (conv => whnf)); repeat' (first | refine Ok.seq ?_ | refine OkL.cons ?_ | ((first | refine Ok.region tok ?_ | refine Ok.region_draw tok follows (by kernel_rfl) ?_ | refine Ok.cond ?_); conv => whnf) | refine Ok.block ?_ | ((first | refine Ok.skip ?_ | refine Ok.exit ?_ | refine Ok.ret ?_ | refine nI ?_ | refine ix _ (by assumption) ?_ | refine ixI (by omega) (by assumption) ?_ | refine ix_new _ (by omega) fun _ _ => ?_ | refine ixI_new (by omega) (by omega) fun _ _ => ?_ | refine ⟨_, by assumption, ?_⟩); conv => whnf) | (refine Or.inr (Or.inl ?_); (conv => whnf); (repeat (refine aI ?_; conv => whnf)); refine ⟨_, memb_at c, ?_⟩; rintro _ _ ⟨rfl, rfl⟩ <;> (conv => whnf)) | ((first | refine Alt2.l (aI ?_) | refine Alt2.r (aI ?_)); conv => whnf) | (refine Ok.scope ?_) | ((first | refine Ok.label ?_ | refine rd rfl (by assumption) ?_ | refine ⟨_, .inl ⟨rfl, rfl⟩, ?_⟩ | refine ⟨_, _, rfl, rfl, ?_⟩); conv => whnf) | (refine ⟨fun _ => ?_, fun _ => ?_⟩ <;> (conv => whnf) <;> (try (exfalso; omega))) | ((first | refine aJ ?_ | refine num_any ?_ | refine ⟨_, rfl, ?_⟩); conv => whnf) | fail)
      all_goals first
        | (exfalso; omega)
        | skip
      refine Ok.rangeI [9, 22, 23, 24, 29] 0 2 (fun _ => ⟨[(9, .bp 1 0), (22, .lst 69 (l.map crow) rm5), (23, .i .i64 (l.map crow).length), (24, .i .i64 (i : Nat)), (29, .fn 85 [] [.ep (crow c)])], [[.i .i64 n, .lst 81 (ks.map trow) rm], [.s bst]], [], 43⟩) (· = 0) rfl (by
        (conv => whnf)
        rfl) rfl (memb_seq c hcw.1) (fun _ => rfl) (by simp) ?_ ?_
      · rintro k x hxk rfl
        obtain rfl : [D.s (leastL c)] = x := by simpa using hxk
        refine ⟨rfl, ?_⟩
        (conv => whnf)
        (try (conv => whnf)); repeat' (first | refine OkR.seq ?_ | refine OkL.cons ?_ | ((first | refine OkR.region tok ?_ | refine OkR.cond ?_); conv => whnf) | refine OkR.block ?_ | ((first | refine OkR.skip ?_ | refine OkR.exit ?_ | refine OkR.ret ?_ | refine nI ?_ | refine ix _ (by assumption) ?_ | refine ixI (by omega) (by assumption) ?_ | refine ix_new _ (by omega) fun _ _ => ?_ | refine ixI_new (by omega) (by omega) fun _ _ => ?_ | refine ⟨_, by assumption, ?_⟩ | refine Alt2.l (aI ?_) | refine Alt2.r (aI ?_)); conv => whnf) | (refine OkR.scope ?_) | ((first | refine OkR.label ?_ | refine rd rfl (by assumption) ?_ | refine ⟨_, .inl ⟨rfl, rfl⟩, ?_⟩ | refine ⟨_, _, rfl, rfl, ?_⟩); conv => whnf) | (refine ⟨fun _ => ?_, fun _ => ?_⟩ <;> (conv => whnf) <;> (try (exfalso; omega))) | ((first | refine aJ ?_ | refine num_any ?_ | refine ⟨_, rfl, ?_⟩); conv => whnf) | fail)
        all_goals first
          | (rw [lstep_yes (.inl (by assumption))] at hsn
             (try (conv => whnf)); repeat' (first | refine Ok.seq ?_ | refine OkL.cons ?_ | ((first | refine Ok.region tok ?_ | refine Ok.region_draw tok follows (by kernel_rfl) ?_ | refine Ok.cond ?_); conv => whnf) | refine Ok.block ?_ | ((first | refine Ok.skip ?_ | refine Ok.exit ?_ | refine Ok.ret ?_ | refine nI ?_ | refine ix _ (by assumption) ?_ | refine ixI (by omega) (by assumption) ?_ | refine ix_new _ (by omega) fun _ _ => ?_ | refine ixI_new (by omega) (by omega) fun _ _ => ?_ | refine ⟨_, by assumption, ?_⟩ | refine Alt2.l (aI ?_) | refine Alt2.r (aI ?_)); conv => whnf) | (refine Ok.scope ?_) | ((first | refine Ok.label ?_ | refine rd rfl (by assumption) ?_ | refine ⟨_, .inl ⟨rfl, rfl⟩, ?_⟩ | refine ⟨_, _, rfl, rfl, ?_⟩); conv => whnf) | (refine ⟨fun _ => ?_, fun _ => ?_⟩ <;> (conv => whnf) <;> (try (exfalso; omega))) | ((first | refine aJ ?_ | refine num_any ?_ | refine ⟨_, rfl, ?_⟩); conv => whnf) | fail)
             refine ⟨i + 1, by omega, by omega, ?_⟩
             rw [hsn]
             (conv => whnf)
             rfl)
          | (rw [lstep_yes (.inr (by assumption))] at hsn
             (try (conv => whnf)); repeat' (first | refine Ok.seq ?_ | refine OkL.cons ?_ | ((first | refine Ok.region tok ?_ | refine Ok.region_draw tok follows (by kernel_rfl) ?_ | refine Ok.cond ?_); conv => whnf) | refine Ok.block ?_ | ((first | refine Ok.skip ?_ | refine Ok.exit ?_ | refine Ok.ret ?_ | refine nI ?_ | refine ix _ (by assumption) ?_ | refine ixI (by omega) (by assumption) ?_ | refine ix_new _ (by omega) fun _ _ => ?_ | refine ixI_new (by omega) (by omega) fun _ _ => ?_ | refine ⟨_, by assumption, ?_⟩ | refine Alt2.l (aI ?_) | refine Alt2.r (aI ?_)); conv => whnf) | (refine Ok.scope ?_) | ((first | refine Ok.label ?_ | refine rd rfl (by assumption) ?_ | refine ⟨_, .inl ⟨rfl, rfl⟩, ?_⟩ | refine ⟨_, _, rfl, rfl, ?_⟩); conv => whnf) | (refine ⟨fun _ => ?_, fun _ => ?_⟩ <;> (conv => whnf) <;> (try (exfalso; omega))) | ((first | refine aJ ?_ | refine num_any ?_ | refine ⟨_, rfl, ?_⟩); conv => whnf) | fail)
             refine ⟨i + 1, by omega, by omega, ?_⟩
             rw [hsn]
             (conv => whnf)
             rfl)
          | (rename_i ha hb
             rw [lstep_no (fun h => h.elim ha hb)] at hsn
             (try (conv => whnf)); repeat' (first | refine Ok.seq ?_ | refine OkL.cons ?_ | ((first | refine Ok.region tok ?_ | refine Ok.region_draw tok follows (by kernel_rfl) ?_ | refine Ok.cond ?_); conv => whnf) | refine Ok.block ?_ | ((first | refine Ok.skip ?_ | refine Ok.exit ?_ | refine Ok.ret ?_ | refine nI ?_ | refine ix _ (by assumption) ?_ | refine ixI (by omega) (by assumption) ?_ | refine ix_new _ (by omega) fun _ _ => ?_ | refine ixI_new (by omega) (by omega) fun _ _ => ?_ | refine ⟨_, by assumption, ?_⟩ | refine Alt2.l (aI ?_) | refine Alt2.r (aI ?_)); conv => whnf) | (refine Ok.scope ?_) | ((first | refine Ok.label ?_ | refine rd rfl (by assumption) ?_ | refine ⟨_, .inl ⟨rfl, rfl⟩, ?_⟩ | refine ⟨_, _, rfl, rfl, ?_⟩); conv => whnf) | (refine ⟨fun _ => ?_, fun _ => ?_⟩ <;> (conv => whnf) <;> (try (exfalso; omega))) | ((first | refine aJ ?_ | refine num_any ?_ | refine ⟨_, rfl, ?_⟩); conv => whnf) | fail)
             refine ⟨i + 1, by omega, by omega, ?_⟩
             rw [hsn]
             (conv => whnf)
             rfl)
      · intro h
        cases h
    · have hie : i = l.length := by omega
      subst hie
      rw [List.take_length]
      generalize lsts l = bst
      (try (conv => whnf)); repeat' (first | refine Ok.seq ?_ | refine OkL.cons ?_ | ((first | refine Ok.region tok ?_ | refine Ok.region_draw tok follows (by kernel_rfl) ?_ | refine Ok.cond ?_); conv => whnf) | refine Ok.block ?_ | ((first | refine Ok.skip ?_ | refine Ok.exit ?_ | refine Ok.ret ?_ | refine nI ?_ | refine ix _ (by assumption) ?_ | refine ixI (by omega) (by assumption) ?_ | refine ix_new _ (by omega) fun _ _ => ?_ | refine ixI_new (by omega) (by omega) fun _ _ => ?_ | refine ⟨_, by assumption, ?_⟩ | refine Alt2.l (aI ?_) | refine Alt2.r (aI ?_)); conv => whnf) | (refine Ok.scope ?_) | ((first | refine Ok.label ?_ | refine rd rfl (by assumption) ?_ | refine ⟨_, .inl ⟨rfl, rfl⟩, ?_⟩ | refine ⟨_, _, rfl, rfl, ?_⟩); conv => whnf) | (refine ⟨fun _ => ?_, fun _ => ?_⟩ <;> (conv => whnf) <;> (try (exfalso; omega))) | ((first | refine aJ ?_ | refine num_any ?_ | refine ⟨_, rfl, ?_⟩); conv => whnf) | fail)
      all_goals first
        | (exfalso; omega)
        | skip
      refine Or.inl ?_; (conv => whnf)
      rfl
  · rw [show lstO (x, l) = (x, []) from if_neg hx]
    (try (conv => whnf)); repeat' (first | refine Ok.seq ?_ | refine OkL.cons ?_ | ((first | refine Ok.region tok ?_ | refine Ok.region_draw tok follows (by kernel_rfl) ?_ | refine Ok.cond ?_); conv => whnf) | refine Ok.block ?_ | ((first | refine Ok.skip ?_ | refine Ok.exit ?_ | refine Ok.ret ?_ | refine nI ?_ | refine ix _ (by assumption) ?_ | refine ixI (by omega) (by assumption) ?_ | refine ix_new _ (by omega) fun _ _ => ?_ | refine ixI_new (by omega) (by omega) fun _ _ => ?_ | refine ⟨_, by assumption, ?_⟩); conv => whnf) | (refine Or.inr (Or.inl ?_); (conv => whnf); (repeat (refine aI ?_; conv => whnf)); refine ⟨_, hex , ?_⟩; rintro _ _ ⟨rfl, rm5, rfl⟩ <;> (conv => whnf)) | ((first | refine Alt2.l (aI ?_) | refine Alt2.r (aI ?_)); conv => whnf) | (refine Ok.scope ?_) | ((first | refine Ok.label ?_ | refine rd rfl (by assumption) ?_ | refine ⟨_, .inl ⟨rfl, rfl⟩, ?_⟩ | refine ⟨_, _, rfl, rfl, ?_⟩); conv => whnf) | (refine ⟨fun _ => ?_, fun _ => ?_⟩ <;> (conv => whnf) <;> (try (exfalso; omega))) | ((first | refine aJ ?_ | refine num_any ?_ | refine ⟨_, rfl, ?_⟩); conv => whnf) | fail)
    all_goals first
      | (rename_i h; exact absurd hx h)
      | (refine Or.inl ?_; (conv => whnf)
         exact congrArg (fun p => D.tup [D.s [], D.b p, D.i .i64 x]) (propext ⟨False.elim, fun h => h rfl⟩))
end Go.Proofs.YtaiondckookpiaaDoor
namespace Go.Proofs.YtaiondckookpiaaDoor
open Go Go.Vx
theorem curL_get {c d : Str} {j k : Nat} {a b : UInt8} (ha : c[k]? = some a) (hb : d[k]? = some b) : (curL c d j)[k]? = some (if k < j then ov1 a b else a) := by
  have hk : k < c.length := (List.getElem?_eq_some_iff.1 ha).1
  have hk2 : k < d.length := (List.getElem?_eq_some_iff.1 hb).1
  unfold curL
  by_cases hkj : k < j
  · rw [if_pos hkj, List.getElem?_append_left (by simp; omega), List.getElem?_zipWith, List.getElem?_take_of_lt hkj, List.getElem?_take_of_lt hkj, ha, hb]
  · have hl : (List.zipWith ov1 (c.take j) (d.take j)).length = j := by simp; omega
    rw [if_neg hkj, List.getElem?_append_right (by omega), hl, List.getElem?_drop, show j + (k - j) = k by omega]
    exact ha
theorem pcT_some {c d x : Str} {j : Nat} (h : pcT c d j = some x) : ∃ b, c[j]? = some 120 ∧ d[j]? = some b ∧ b ≠ 120 ∧ x = (curL c d j).set j (97 - b) := by
  unfold pcT at h
  split at h
  · rename_i a b ha hb
    split at h
    · rename_i hab
      cases h
      exact ⟨b, by rw [ha, hab.1], hb, hab.2, rfl⟩
    · cases h
  · cases h
theorem opp_ne {b h : UInt8} (hb : b = 48 ∨ b = 49 ∨ b = 120) (h120 : b ≠ 120) : 97 - b ≠ 120 ∧ (h = 97 - b → h ≠ b) := by
  rcases hb with rfl | rfl | rfl
  · exact ⟨by decide, fun e => by rw [e]; decide⟩
  · exact ⟨by decide, fun e => by rw [e]; decide⟩
  · exact absurd rfl h120
theorem piece_in {c d x h : Str} {j : Nat} (hd : CT d) (hl : d.length = c.length) (hx : pcT c d j = some x) (hh : inL h x) : inL h c ∧ ¬ inL h d := by
  obtain ⟨b, hc, hb, hb120, rfl⟩ := pcT_some hx
  have hj : j < c.length := (List.getElem?_eq_some_iff.1 hc).1
  have hlen : h.length = c.length := by have := inL_len hh; rw [List.length_set, curL_len hl] at this; exact this
  have hcub := hd.cub b (List.mem_of_getElem? hb)
  obtain ⟨hy, hhy⟩ : ∃ y, h[j]? = some y := ⟨_, List.getElem?_eq_getElem (by omega)⟩
  have hxj : ((curL c d j).set j (97 - b))[j]? = some (97 - b) := List.getElem?_set_self (by rw [curL_len hl]; exact hj)
  have hyb : hy = 97 - b := ((inL_get hh hhy hxj).resolve_left (opp_ne (h := hy) hcub hb120).1).symm
  refine ⟨inL_all hlen fun k a e ha he => ?_, fun hin => ?_⟩
  · by_cases hkj : k = j
    · subst hkj
      rw [hc] at he
      cases he
      exact .inl rfl
    · obtain ⟨b2, hb2⟩ : ∃ y, d[k]? = some y := ⟨_, List.getElem?_eq_getElem (by have := (List.getElem?_eq_some_iff.1 he).1; omega)⟩
      have hg := curL_get (j := j) he hb2
      have h2 := inL_get hh ha ((List.getElem?_set_ne (Ne.symm hkj)).trans hg)
      by_cases he120 : e = 120
      · exact .inl he120
      · right
        have : (if k < j then ov1 e b2 else e) = e := by
          split
          · unfold ov1; rw [if_neg he120]
          · rfl
        rw [this] at h2
        exact h2.resolve_left he120
  · have := inL_get hin hhy hb
    rcases this with h1 | h1
    · exact hb120 h1
    · exact (opp_ne (h := hy) hcub hb120).2 hyb h1.symm
theorem least_ex {p : Nat → Prop} (h : ∃ k, p k) : ∃ k, p k ∧ ∀ j, j < k → ¬ p j := by
  obtain ⟨k, hk⟩ := h
  induction k using Nat.strongRecOn with
  | _ k ih =>
    by_cases hj : ∃ j, j < k ∧ p j
    · obtain ⟨j, hjk, hpj⟩ := hj
      exact ih j hjk hpj
    · exact ⟨k, hk, fun j hjk hpj => hj ⟨j, hjk, hpj⟩⟩
theorem piece_ex {c d h : Str} (hd : CT d) (hl : d.length = c.length) (hm : (meetT c d).isSome = true) (hcn : c ≠ []) (hdig : ∀ b ∈ h, b = 48 ∨ b = 49) (hc : inL h c) (hnd : ¬ inL h d) : ∃ j x, j < c.length ∧ pcT c d j = some x ∧ inL h x := by
  have hlen := inL_len hc
  have hex : ∃ k : Nat, ∃ a b : UInt8, h[k]? = some a ∧ d[k]? = some b ∧ ¬ (b = 120 ∨ b = a) := Classical.byContradiction fun hno =>
    hnd (inL_all (by omega) fun k a b h1 h2 => Classical.byContradiction fun q => hno ⟨k, a, b, h1, h2, q⟩)
  obtain ⟨j, ⟨a, b, ha, hb, hab⟩, hmin⟩ := least_ex hex
  obtain ⟨m, hmm⟩ := Option.isSome_iff_exists.1 hm
  rw [meetT_eq hcn] at hmm
  have hmi := meetL_in hmm
  have hj : j < c.length := by have := (List.getElem?_eq_some_iff.1 ha).1; omega
  obtain ⟨e, he⟩ : ∃ y, c[j]? = some y := ⟨_, List.getElem?_eq_getElem hj⟩
  have he120 : e = 120 := Classical.byContradiction fun hne => by
    obtain ⟨y, hy⟩ : ∃ y, m[j]? = some y := ⟨_, List.getElem?_eq_getElem (by have := inL_len hmi.1; omega)⟩
    have h1 := (inL_get hmi.1 hy he).resolve_left hne
    have h2 := (inL_get hmi.2 hy hb).resolve_left (fun q => hab (.inl q))
    have h3 := (inL_get hc ha he).resolve_left hne
    exact hab (.inr (by rw [h2, ← h1, h3]))
  subst he120
  have hb120 : b ≠ 120 := fun q => hab (.inl q)
  have hva : a = 97 - b := by
    have h1 := hdig a (List.mem_of_getElem? ha)
    have h2 := hd.cub b (List.mem_of_getElem? hb)
    have h3 : b ≠ a := fun q => hab (.inr q)
    rcases h1 with rfl | rfl <;> rcases h2 with rfl | rfl | rfl
    · exact absurd rfl h3
    · rfl
    · exact absurd rfl hb120
    · rfl
    · exact absurd rfl h3
    · exact absurd rfl hb120
  refine ⟨j, _, hj, (pcT_at he hb).trans (if_pos ⟨rfl, hb120⟩), inL_all (by rw [List.length_set, curL_len hl, hlen]) fun k x y hx hy => ?_⟩
  by_cases hkj : k = j
  · subst hkj
    rw [List.getElem?_set_self (by rw [curL_len hl]; exact hj)] at hy
    cases hy
    rw [ha] at hx
    cases hx
    exact .inr hva.symm
  · rw [List.getElem?_set_ne (Ne.symm hkj)] at hy
    have hk : k < c.length := by have := (List.getElem?_eq_some_iff.1 hx).1; omega
    obtain ⟨ck, hck⟩ : ∃ y, c[k]? = some y := ⟨_, List.getElem?_eq_getElem hk⟩
    obtain ⟨dk, hdk⟩ : ∃ y, d[k]? = some y := ⟨_, List.getElem?_eq_getElem (by omega)⟩
    rw [curL_get (j := j) hck hdk] at hy
    cases hy
    have h1 := inL_get hc hx hck
    split
    · rename_i hlt
      unfold ov1
      split
      · exact Classical.byContradiction fun q => hmin k hlt ⟨x, dk, hx, hdk, q⟩
      · exact h1
    · exact h1
theorem splitT_has {c d h : Str} (hd : CT d) (hl : d.length = c.length) (hcn : c ≠ []) (hdig : ∀ b ∈ h, b = 48 ∨ b = 49) : (∃ x ∈ splitT c d, inL h x) ↔ inL h c ∧ ¬ inL h d := by
  unfold splitT
  by_cases hm : (meetT c d).isSome = true
  · rw [if_pos hm]
    constructor
    · rintro ⟨x, hx, hh⟩
      obtain ⟨j, _, hj⟩ := List.mem_filterMap.1 hx
      exact piece_in hd hl hj hh
    · rintro ⟨h1, h2⟩
      obtain ⟨j, x, hj, hx, hh⟩ := piece_ex hd hl hm hcn hdig h1 h2
      exact ⟨x, List.mem_filterMap.2 ⟨j, List.mem_range.2 hj, hx⟩, hh⟩
  · rw [if_neg hm]
    constructor
    · rintro ⟨x, hx, hh⟩
      simp at hx
      subst hx
      refine ⟨hh, fun h2 => hm ?_⟩
      obtain ⟨m, hmm, _⟩ := meetL_glb hh h2
      rw [meetT_eq hcn, hmm]
      rfl
    · rintro ⟨h1, _⟩
      exact ⟨c, by simp, h1⟩
theorem splL_has {n : Nat} {m h : Str} {l : List Str} (hal : AllW n l) (hm : CT m) (hml : m.length = n) (hdig : ∀ b ∈ h, b = 48 ∨ b = 49) : (∃ x ∈ splL m l, inL h x) ↔ (∃ x ∈ l, inL h x) ∧ ¬ inL h m := by
  constructor
  · rintro ⟨x, hx, hh⟩
    obtain ⟨c, hc, hx⟩ := List.mem_flatMap.1 hx
    have := (splitT_has hm (by rw [hml, (hal c hc).2]) (hal c hc).1.2 hdig).1 ⟨x, hx, hh⟩
    exact ⟨⟨c, hc, this.1⟩, this.2⟩
  · rintro ⟨⟨c, hc, h1⟩, h2⟩
    obtain ⟨x, hx, hh⟩ := (splitT_has hm (by rw [hml, (hal c hc).2]) (hal c hc).1.2 hdig).2 ⟨h1, h2⟩
    exact ⟨x, List.mem_flatMap.2 ⟨c, hc, hx⟩, hh⟩
theorem splX_has {n : Nat} {lim : Int} {h : Str} (hdig : ∀ b ∈ h, b = 48 ∨ b = 49) : ∀ {ms l r : List Str}, AllW n l → (∀ m ∈ ms, CT m ∧ m.length = n) → splX lim ms l = some r → ((∃ x ∈ r, inL h x) ↔ (∃ x ∈ l, inL h x) ∧ ∀ m ∈ ms, ¬ inL h m)
  | [], l, r, _, _, hs => by cases hs; simp
  | m :: ms, l, r, hal, hms, hs => by
    unfold splX at hs
    split at hs
    · cases hs
    · rw [splX_has hdig (splL_all hal (hms m (by simp)).1) (fun x hx => hms x (by simp [hx])) hs, splL_has hal (hms m (by simp)).1 (hms m (by simp)).2 hdig]
      simp only [List.mem_cons, forall_eq_or_imp, and_assoc]
theorem termX_has {n : Nat} {lim : Int} {t : Term} {h : Str} {l : List Str} (hg : GoodT n t) (hd : hdrX (n : Int) h) (hs : termX lim t = some l) : (∃ x ∈ l, inL h x) ↔ termHas t h := by
  unfold termX at hs
  split at hs
  · cases hs
  · rw [splX_has (n := n) hd.2 (fun c hc => by simp at hc; subst hc; exact ⟨hg.p, hg.ok.p⟩) (fun m hm => ⟨(hg.less m hm).1, hg.ok.wide.2 m hm⟩) hs]
    unfold termHas
    rw [hasC_inL hd hg.p.2 (by rw [hg.ok.p])]
    simp only [List.mem_singleton, exists_eq_left]
    exact and_congr_right fun _ => forall_congr' fun x => forall_congr' fun hx => not_congr (hasC_inL hd (hg.less x hx).2 (by rw [hg.ok.wide.2 x hx])).symm
theorem expX_has {n : Nat} {limit : Int} {h : Str} (hd : hdrX (n : Int) h) : ∀ {ts : List Term} {out r : List Str}, (∀ t ∈ ts, GoodT n t) → expX limit ts out = some r → ((∃ x ∈ r, inL h x) ↔ (∃ x ∈ out, inL h x) ∨ hasS ts h)
  | [], out, r, _, hs => by
    cases hs
    exact ⟨.inl, fun q => q.elim id fun ⟨t, ht, _⟩ => by simp at ht⟩
  | t :: ts, out, r, hg, hs => by
    rw [expX_cons] at hs
    split at hs
    · cases hs
    · rename_i l hl
      rw [expX_has hd (fun x hx => hg x (by simp [hx])) hs]
      have ht := termX_has (hg t (by simp)) hd hl
      constructor
      · rintro (⟨x, hx, hh⟩ | ⟨u, hu, hh⟩)
        · rcases List.mem_append.1 hx with hx | hx
          · exact .inl ⟨x, hx, hh⟩
          · exact .inr ⟨t, by simp, ht.1 ⟨x, hx, hh⟩⟩
        · exact .inr ⟨u, by simp [hu], hh⟩
      · rintro (⟨x, hx, hh⟩ | ⟨u, hu, hh⟩)
        · exact .inl ⟨x, List.mem_append_left _ hx, hh⟩
        · rcases List.mem_cons.1 hu with rfl | hu
          · obtain ⟨x, hx, hh⟩ := ht.2 hh
            exact .inl ⟨x, List.mem_append_right _ hx, hh⟩
          · exact .inr ⟨u, hu, hh⟩
theorem expO_has {n : Int} {ts : List Term} {limit : Int} {h : Str} (hf : Fine n ts) (hd : hdrX n h) (h0 : (expO n ts limit).1 = 0) : (∃ x ∈ (expO n ts limit).2, inL h x) ↔ hasS ts h := by
  unfold expO at h0 ⊢
  split at h0
  · cases h0
  · rename_i hn
    rw [if_neg hn]
    split at h0
    · cases h0
    · rename_i hlim
      rw [if_neg hlim]
      have hn0 := hf.n0
      cases he : expX limit ts [] with
      | none => rw [he] at h0; cases h0
      | some l =>
        show (∃ x ∈ l, inL h x) ↔ _
        rw [expX_has (n := n.toNat) (by rw [Int.toNat_of_nonneg hn0]; exact hd) hf.good he]
        exact ⟨fun q => q.elim (fun ⟨x, hx, _⟩ => by simp at hx) id, .inr⟩
end Go.Proofs.YtaiondckookpiaaDoor
namespace Go.Proofs.YtaiondckookpiaaDoor
open Go Go.Vx
theorem leastL_in : ∀ c : Str, inL (leastL c) c
  | [] => trivial
  | b :: c => by
    refine ⟨?_, leastL_in c⟩
    unfold lst1
    split
    · rename_i h; exact .inl h
    · exact .inr rfl
theorem leastL_dig {c : Str} (hc : CT c) : ∀ b ∈ leastL c, b = 48 ∨ b = 49 := by
  intro b hb
  obtain ⟨x, hx, rfl⟩ := List.mem_map.1 hb
  rcases hc.cub x hx with rfl | rfl | rfl
  · exact .inl rfl
  · exact .inr rfl
  · exact .inl rfl
theorem leastL_min : ∀ {h c : Str}, inL h c → (∀ b ∈ h, b = 48 ∨ b = 49) → ¬ Op.bytesLess h (leastL c) = true
  | [], [], _, _, hb => by simp [leastL, Op.bytesLess] at hb
  | [], _ :: _, hi, _, _ => hi.elim
  | _ :: _, [], hi, _, _ => hi.elim
  | a :: h, b :: c, hi, hd, hb => by
    rw [bl_eq] at hb
    have hb : a :: h < lst1 b :: leastL c := hb
    rw [List.cons_lt_cons_iff] at hb
    rcases hb with hlt | ⟨_, hlt⟩
    · have ha := hd a (by simp)
      rcases hi.1 with rfl | rfl
      · have : lst1 120 = 48 := rfl
        rw [this] at hlt
        rcases ha with rfl | rfl <;> exact absurd hlt (by decide)
      · rcases ha with rfl | rfl <;> exact absurd hlt (by decide)
    · exact leastL_min hi.2 (fun x hx => hd x (by simp [hx])) ((bl_eq _ _).2 hlt)
theorem bl_tr2 {x y z : Str} (h1 : ¬ Op.bytesLess y x = true) (h2 : ¬ Op.bytesLess z y = true) : ¬ Op.bytesLess z x = true := by
  rw [bl_eq] at *
  rw [List.not_lt] at *
  exact List.le_trans h1 h2
theorem bl_irr2 (x : Str) : ¬ Op.bytesLess x x = true := by rw [bl_eq]; exact List.lt_irrefl x
theorem lsts_spec : ∀ (l : List Str) (i : Nat), (∀ c ∈ l, CN c) → i ≤ l.length → (i = 0 ∧ lsts (l.take i) = []) ∨ ((∃ c ∈ l, lsts (l.take i) = leastL c) ∧ lsts (l.take i) ≠ [] ∧ ∀ c ∈ l.take i, ¬ Op.bytesLess (leastL c) (lsts (l.take i)) = true)
  | l, 0, _, _ => .inl ⟨rfl, by simp [lsts]⟩
  | l, i + 1, hl, hi => by
    obtain ⟨c, hc⟩ : ∃ c, l[i]? = some c := ⟨_, List.getElem?_eq_getElem (by omega)⟩
    have hcm := List.mem_of_getElem? hc
    have hne : leastL c ≠ [] := fun e => (hl c hcm).2 (List.eq_nil_of_length_eq_zero (by rw [← leastL_len, e]; rfl))
    rw [lsts_snoc hc, take_snoc hc]
    right
    rcases lsts_spec l i hl (by omega) with ⟨rfl, h0⟩ | ⟨⟨c0, hc0, h1⟩, h2, h3⟩
    · rw [h0, lstep_yes (.inl rfl)]
      refine ⟨⟨c, hcm, rfl⟩, hne, fun x hx => ?_⟩
      simp at hx
      subst hx
      exact bl_irr2 _
    · by_cases hb : Op.bytesLess (leastL c) (lsts (l.take i)) = true
      · rw [lstep_yes (.inr hb)]
        refine ⟨⟨c, hcm, rfl⟩, hne, fun x hx => ?_⟩
        rcases List.mem_append.1 hx with hx | hx
        · refine bl_tr2 (y := lsts (l.take i)) ?_ (h3 x hx)
          rw [bl_eq] at hb ⊢
          exact List.not_lt.2 (List.le_of_lt hb)
        · simp at hx; subst hx; exact bl_irr2 _
      · rw [lstep_no (fun q => q.elim h2 hb)]
        refine ⟨⟨c0, hc0, h1⟩, h2, fun x hx => ?_⟩
        rcases List.mem_append.1 hx with hx | hx
        · exact h3 x hx
        · simp at hx; subst hx; exact hb
theorem lsts_all (l : List Str) (hl : ∀ c ∈ l, CN c) : (l = [] ∧ lsts l = []) ∨ ((∃ c ∈ l, lsts l = leastL c) ∧ lsts l ≠ [] ∧ ∀ c ∈ l, ¬ Op.bytesLess (leastL c) (lsts l) = true) := by
  have := lsts_spec l l.length hl (Nat.le_refl _)
  rw [List.take_length] at this
  rcases this with ⟨h1, h2⟩ | h
  · exact .inl ⟨List.eq_nil_of_length_eq_zero h1, h2⟩
  · exact .inr h
theorem expO_code {n : Int} {ts : List Term} (hn : n ≠ 0) : expO n ts 2048 = (3, []) ∨ (expO n ts 2048).1 = 0 := by
  unfold expO
  rw [if_neg hn, if_neg (by omega)]
  cases expX 2048 ts [] with
  | none => exact .inl rfl
  | some l => exact .inr rfl
set_option maxRecDepth 100000 in
set_option maxHeartbeats 16000000 in
theorem spreadLaw_at (n : Int) (a : Str) (given room : List Str) : FSpec Tryd.prog T 8 [.i .i64 n, .s a, .lst 9 (given.map srow) (room.map srow)] (fun r _ => r = .b True) := by
  have hp := parse2_at n a
  have hf := parO_fine n a
  have hh := headers_at n given (room.map srow)
  have hsay := fun (h : (parO n a).1 = 0) x hx => said_has (h := x) h hx
  have hcs := parO_cases n a
  unfold POut at hp
  refine FSpec.of_ok tok Tryd.func8 rfl Tryd.call8 (by simp) ?_
  rcases hcs with ⟨e, he, h1⟩ | ⟨hn1, hn2, hal, hcs⟩
  · rw [h1] at hp
    dsimp only at hp
    (try (conv => whnf)); repeat' (first | (exact absurd trivial (by assumption)) | refine Ok.seq ?_ | refine OkL.cons ?_ | ((first | refine Ok.region tok ?_ | refine Ok.region_draw tok follows (by kernel_rfl) ?_ | refine Ok.cond ?_); conv => whnf) | refine Ok.block ?_ | ((first | refine Ok.skip ?_ | refine Ok.exit ?_ | refine Ok.ret ?_ | refine nI ?_ | refine ix _ (by assumption) ?_ | refine ixI (by omega) (by assumption) ?_ | refine ix_new _ (by omega) fun _ _ => ?_ | refine ixI_new (by omega) (by omega) fun _ _ => ?_ | refine ⟨_, by assumption, ?_⟩); conv => whnf) | (refine Or.inl ?_; (conv => whnf); (repeat (refine aI ?_; conv => whnf)); refine ⟨_, awake_at, rfl, ?_⟩; conv => whnf) | (refine ⟨_, awake_at, rfl, ?_⟩; conv => whnf) | (refine Or.inr (Or.inl ?_); (conv => whnf); (repeat (refine aI ?_; conv => whnf)); refine ⟨_, awake_at, ?_⟩; rintro _ _ ⟨rfl, rfl⟩; conv => whnf) | (refine Or.inr (Or.inl ?_); (conv => whnf); (repeat (refine aI ?_; conv => whnf)); refine ⟨_, hp , ?_⟩; rintro _ _ ⟨rfl, _, rfl, ks, rm, rfl, hk⟩ <;> (conv => whnf)) | ((first | refine Alt2.l (aI ?_) | refine Alt2.r (aI ?_)); conv => whnf) | (refine Ok.scope ?_) | ((first | refine Ok.label ?_ | refine rd rfl (by assumption) ?_ | refine ⟨_, .inl ⟨rfl, rfl⟩, ?_⟩ | refine ⟨_, _, rfl, rfl, ?_⟩); conv => whnf) | (refine ⟨fun _ => ?_, fun _ => ?_⟩ <;> (conv => whnf) <;> (try (exfalso; omega))) | ((first | refine aJ ?_ | refine num_any ?_ | refine ⟨_, rfl, ?_⟩); conv => whnf) | fail)
    all_goals first
      | (rename_i h; exact absurd he h)
      | (refine Or.inl ?_; (conv => whnf)
         rfl)
  have h0 : (parO n a).1 = 0 ∧ (parO n a).2.1 = n := by
    rcases hcs with ⟨_, h1⟩ | ⟨_, _, h1⟩ <;> rw [h1] <;> exact ⟨rfl, rfl⟩
  replace hsay := hsay h0.1
  clear hcs
  generalize parO n a = o at *
  obtain ⟨e, n', ts⟩ := o
  dsimp only at h0 hp hf hsay
  obtain ⟨rfl, rfl⟩ := h0
  have hex := fun ks rm h1 => expand_at hf ks rm h1 2048
  have hle := fun ks rm h1 => least_at hf ks rm h1 2048
  have heh := fun h0 h hd => expO_has (limit := 2048) (h := h) hf hd h0
  have hcd := expO_code (ts := ts) (show n' ≠ 0 by omega)
  have hal2 := expO_all (limit := 2048) hf
  generalize expO n' ts 2048 = ox at *
  obtain ⟨x, l⟩ := ox
  dsimp only at hcd hal2 heh
  rcases hcd with hcd | rfl
  · cases hcd
    rw [show lstO (3, []) = (3, []) from if_neg (by decide)] at hle
    (try (conv => whnf)); repeat' (first | (exact absurd trivial (by assumption)) | (exact absurd rfl (by assumption)) | refine Ok.seq ?_ | refine OkL.cons ?_ | ((first | refine Ok.region tok ?_ | refine Ok.region_draw tok follows (by kernel_rfl) ?_ | refine Ok.cond ?_); conv => whnf) | refine Ok.block ?_ | ((first | refine Ok.skip ?_ | refine Ok.exit ?_ | refine Ok.ret ?_ | refine nI ?_ | refine ix _ (by assumption) ?_ | refine ixI (by omega) (by assumption) ?_ | refine ix_new _ (by omega) fun _ _ => ?_ | refine ixI_new (by omega) (by omega) fun _ _ => ?_ | refine ⟨_, by assumption, ?_⟩); conv => whnf) | (refine Or.inl ?_; (conv => whnf); (repeat (refine aI ?_; conv => whnf)); refine ⟨_, awake_at, rfl, ?_⟩; conv => whnf) | (refine Or.inl ?_; (conv => whnf); (repeat (refine aI ?_; conv => whnf)); refine ⟨_, hle ks rm hk, rfl, ?_⟩; conv => whnf) | ((first | refine ⟨_, awake_at, rfl, ?_⟩ | refine ⟨_, hle ks rm hk, rfl, ?_⟩); conv => whnf) | (refine Or.inr (Or.inl ?_); (conv => whnf); (repeat (refine aI ?_; conv => whnf)); refine ⟨_, awake_at, ?_⟩; rintro _ _ ⟨rfl, rfl⟩; conv => whnf) | (refine Or.inr (Or.inl ?_); (conv => whnf); (repeat (refine aI ?_; conv => whnf)); refine ⟨_, hle ks rm hk, ?_⟩; rintro _ _ ⟨rfl, rfl⟩; conv => whnf) | (refine Or.inr (Or.inl ?_); (conv => whnf); (repeat (refine aI ?_; conv => whnf)); refine ⟨_, hp , ?_⟩; rintro _ _ ⟨rfl, _, rfl, ks, rm, rfl, hk⟩ <;> (conv => whnf)) | (refine Or.inr (Or.inl ?_); (conv => whnf); (repeat (refine aI ?_; conv => whnf)); refine ⟨_, hex ks rm hk , ?_⟩; rintro _ _ ⟨rfl, rme, rfl⟩ <;> (conv => whnf)) | ((first | refine Alt2.l (aI ?_) | refine Alt2.r (aI ?_)); conv => whnf) | (refine Ok.scope ?_) | ((first | refine Ok.label ?_ | refine rd rfl (by assumption) ?_ | refine ⟨_, .inl ⟨rfl, rfl⟩, ?_⟩ | refine ⟨_, _, rfl, rfl, ?_⟩); conv => whnf) | (refine ⟨fun _ => ?_, fun _ => ?_⟩ <;> (conv => whnf) <;> (try (exfalso; omega))) | ((first | refine aJ ?_ | refine num_any ?_ | refine ⟨_, rfl, ?_⟩); conv => whnf) | fail)
    all_goals first
      | (exfalso; omega)
      | (rename_i h; exact absurd rfl h)
      | (refine Or.inl ?_; (conv => whnf)
         exact congrArg D.b (propext ⟨fun _ => trivial, fun _ h => h rfl⟩))
      | trace_state
  obtain ⟨hlw, hll2⟩ := hal2
  rw [show lstO (0, l) = (0, lsts l) from if_pos rfl] at hle
  have hls := lsts_all l (fun c hc => (hlw c hc).1)
  have k2 : lsts l ≠ [] → saidX a (lsts l) := fun hne => by
    rcases hls with ⟨_, h2⟩ | ⟨⟨c, hc, h1⟩, _, _⟩
    · exact absurd h2 hne
    · have hw := hlw c hc
      have hd : hdrX n' (lsts l) := ⟨by rw [h1, leastL_len, hw.2]; omega, by rw [h1]; exact leastL_dig hw.1.1⟩
      exact (hsay _ hd).2 ((heh rfl _ hd).1 ⟨c, hc, by rw [h1]; exact leastL_in c⟩)
  have hlm : (l.map crow).length = l.length := by simp
  have k1 : lsts l ≠ [] ↔ (0 : Int) < ((l.map crow).length : Int) := by
    rw [hlm]
    rcases hls with ⟨h1, h2⟩ | ⟨⟨c, hc, _⟩, h2, _⟩
    · rw [h2, h1]; simp
    · have : 0 < l.length := List.length_pos_of_mem hc
      exact ⟨fun _ => by omega, fun _ => h2⟩
  have k3 : ∀ h, (∀ b ∈ h, b = 48 ∨ b = 49) → (∃ c ∈ l, inL h c) → ¬ Op.bytesLess h (lsts l) = true := fun h hd ⟨c, hc, hi⟩ => by
    rcases hls with ⟨h1, _⟩ | ⟨_, _, h3⟩
    · rw [h1] at hc; cases hc
    · exact bl_tr2 (h3 c hc) (leastL_min hi hd)
  clear hls
  generalize lsts l = m at *
  have hsm := said_at a m (by omega)
  replace hex : ∀ (ks : List TR) (rm : List (List D)), ks.map TR.t = ts → FSpec Tryd.prog T 26 [.agg [.i .i64 n', .lst 81 (ks.map trow) rm], .i .i64 2048] (fun d rows => rows = [] ∧ ∃ rm, d = .tup [.lst 69 (l.map crow) rm, .i .i64 0]) := hex
  replace hle : ∀ (ks : List TR) (rm : List (List D)), ks.map TR.t = ts → FSpec Tryd.prog T 34 [.agg [.i .i64 n', .lst 81 (ks.map trow) rm], .i .i64 2048] (fun d _ => d = .tup [.s m, .b (m ≠ []), .i .i64 0]) := hle
  have hll := hdrsL_len n' given
  generalize hdrsL n' given = L at *
  have hLm : (L.map srow).length = L.length := by simp
  (try (conv => whnf)); repeat' (first | (exact absurd trivial (by assumption)) | (exact absurd rfl (by assumption)) | (exact absurd k1 (by assumption)) | (exact absurd (k2 (by assumption)) (by assumption)) | (exact absurd (show m ≠ [] by assumption) (by assumption)) | refine Ok.seq ?_ | refine OkL.cons ?_ | ((first | refine Ok.region tok ?_ | refine Ok.region_draw tok follows (by kernel_rfl) ?_ | refine Ok.cond ?_); conv => whnf) | refine Ok.block ?_ | ((first | refine Ok.skip ?_ | refine Ok.exit ?_ | refine Ok.ret ?_ | refine nI ?_ | refine ix _ (by assumption) ?_ | refine ixI (by omega) (by assumption) ?_ | refine ix_new _ (by omega) fun _ _ => ?_ | refine ixI_new (by omega) (by omega) fun _ _ => ?_ | refine ⟨_, by assumption, ?_⟩); conv => whnf) | (refine Or.inl ?_; (conv => whnf); (repeat (refine aI ?_; conv => whnf)); refine ⟨_, awake_at, rfl, ?_⟩; conv => whnf) | (refine Or.inl ?_; (conv => whnf); (repeat (refine aI ?_; conv => whnf)); refine ⟨_, hle ks rm hk, rfl, ?_⟩; conv => whnf) | (refine Or.inl ?_; (conv => whnf); (repeat (refine aI ?_; conv => whnf)); refine ⟨_, hsm, rfl, ?_⟩; conv => whnf) | ((first | refine ⟨_, awake_at, rfl, ?_⟩ | refine ⟨_, hle ks rm hk, rfl, ?_⟩ | refine ⟨_, hsm, rfl, ?_⟩); conv => whnf) | (refine Or.inr (Or.inl ?_); (conv => whnf); (repeat (refine aI ?_; conv => whnf)); refine ⟨_, awake_at, ?_⟩; rintro _ _ ⟨rfl, rfl⟩; conv => whnf) | (refine Or.inr (Or.inl ?_); (conv => whnf); (repeat (refine aI ?_; conv => whnf)); refine ⟨_, hle ks rm hk, ?_⟩; rintro _ _ ⟨rfl, rfl⟩; conv => whnf) | (refine Or.inr (Or.inl ?_); (conv => whnf); (repeat (refine aI ?_; conv => whnf)); refine ⟨_, hsm, ?_⟩; rintro _ _ ⟨rfl, rfl⟩; conv => whnf) | (refine Or.inr (Or.inl ?_); (conv => whnf); (repeat (refine aI ?_; conv => whnf)); refine ⟨_, hp , ?_⟩; rintro _ _ ⟨rfl, _, rfl, ks, rm, rfl, hk⟩ <;> (conv => whnf)) | (refine Or.inr (Or.inl ?_); (conv => whnf); (repeat (refine aI ?_; conv => whnf)); refine ⟨_, hex ks rm hk , ?_⟩; rintro _ _ ⟨rfl, rme, rfl⟩ <;> (conv => whnf)) | (refine Or.inr (Or.inl ?_); (conv => whnf); (repeat (refine aI ?_; conv => whnf)); refine ⟨_, hh , ?_⟩; rintro _ _ ⟨rfl, rmh, rfl⟩ <;> (conv => whnf)) | ((first | refine Alt2.l (aI ?_) | refine Alt2.r (aI ?_)); conv => whnf) | (refine Ok.scope ?_) | ((first | refine Ok.label ?_ | refine rd rfl (by assumption) ?_ | refine ⟨_, .inl ⟨rfl, rfl⟩, ?_⟩ | refine ⟨_, _, rfl, rfl, ?_⟩); conv => whnf) | (refine ⟨fun _ => ?_, fun _ => ?_⟩ <;> (conv => whnf) <;> (try (exfalso; omega))) | ((first | refine aJ ?_ | refine num_any ?_ | refine ⟨_, rfl, ?_⟩); conv => whnf) | fail)
  all_goals
    refine Ok.loopU [0, 1, 9, 11, 14] [15] 0 1 (fun (i : Nat) => [.i .i64 (i : Nat)]) (fun (i : Nat) (_ : List (List D)) => [[.i .i64 n', .lst 81 (ks.map trow) rm]]) (fun _ r => r) (fun (i : Nat) => i ≤ L.length) (fun (i : Nat) => L.length - i) (0) (Nat.zero_le _) ?_; (conv => whnf); refine ⟨by ((conv => whnf); first | rfl | (simp [envCat, List.take_of_length_le, crow, trow, srow]; done) | (simp [envCat, List.take_of_length_le, crow, trow, srow]; rw [IntKind.wrap_i64]; omega)), ?_⟩
    rintro i hi
    (conv => whnf)
    by_cases hil : i < L.length
    · obtain ⟨h, hh⟩ : ∃ h, L[i]? = some h := ⟨_, List.getElem?_eq_getElem hil⟩
      have hhI : L[((i : Nat) : Int).toNat]? = some h := hh
      have his := isHeader_at n' h (by omega)
      by_cases hd : hdrX n' h
      · have hs1 := said_at a h (by omega)
        have hse : (∃ c ∈ l, inL h c) ↔ saidX a h := (heh rfl h hd).trans (hsay h hd).symm
        (try (conv => whnf)); repeat' (first | (exact absurd hd (by assumption)) | refine Ok.seq ?_ | refine OkL.cons ?_ | ((first | refine Ok.region tok ?_ | refine Ok.region_draw tok follows (by kernel_rfl) ?_ | refine Ok.cond ?_); conv => whnf) | refine Ok.block ?_ | ((first | refine Ok.skip ?_ | refine Ok.exit ?_ | refine Ok.ret ?_ | refine nI ?_ | refine ix _ (by assumption) ?_ | refine ixI (by omega) (by assumption) ?_ | refine ix_new _ (by omega) fun _ _ => ?_ | refine ixI_new (by omega) (by omega) fun _ _ => ?_ | refine ⟨_, by assumption, ?_⟩); conv => whnf) | (refine Or.inl ?_; (conv => whnf); (repeat (refine aI ?_; conv => whnf)); refine ⟨_, his, rfl, ?_⟩; conv => whnf) | (refine ⟨_, his, rfl, ?_⟩; conv => whnf) | (refine Or.inr (Or.inl ?_); (conv => whnf); (repeat (refine aI ?_; conv => whnf)); refine ⟨_, his, ?_⟩; rintro _ _ ⟨rfl, rfl⟩; conv => whnf) | ((first | refine Alt2.l (aI ?_) | refine Alt2.r (aI ?_)); conv => whnf) | (refine Ok.scope ?_) | ((first | refine Ok.label ?_ | refine rd rfl (by assumption) ?_ | refine ⟨_, .inl ⟨rfl, rfl⟩, ?_⟩ | refine ⟨_, _, rfl, rfl, ?_⟩); conv => whnf) | (refine ⟨fun _ => ?_, fun _ => ?_⟩ <;> (conv => whnf) <;> (try (exfalso; omega))) | ((first | refine aJ ?_ | refine num_any ?_ | refine ⟨_, rfl, ?_⟩); conv => whnf) | fail)
        refine Ok.asB 17 rfl ?_
        (conv => whnf)
        refine Ok.loopU [0, 1, 9, 11, 14, 15, 16] [17, 18] 0 1 (fun (x : Nat × Prop) => [.b x.2, .i .i64 (x.1 : Nat)]) (fun (x : Nat × Prop) (_ : List (List D)) => [[.i .i64 n', .lst 81 (ks.map trow) rm]]) (fun _ r => r) (fun (x : Nat × Prop) => x.1 ≤ l.length ∧ (x.2 ↔ ∃ c ∈ l.take x.1, inL h c)) (fun (x : Nat × Prop) => l.length - x.1) ((0, False)) (⟨Nat.zero_le _, by simp⟩) ?_; (conv => whnf); refine ⟨by ((conv => whnf); first | rfl | (simp [envCat, List.take_of_length_le, crow, trow, srow]; done) | (simp [envCat, List.take_of_length_le, crow, trow, srow]; rw [IntKind.wrap_i64]; omega)), ?_⟩
        rintro ⟨j, pin⟩ ⟨hj, hpin⟩
        dsimp only at hj hpin ⊢
        have f1 : pin → ∃ c ∈ l, inL h c := fun q => by
          obtain ⟨c, hc, hi⟩ := hpin.1 q
          exact ⟨c, List.mem_of_mem_take hc, hi⟩
        have f3 : pin → (pin ↔ saidX a h) := fun q => ⟨fun q => hse.1 (f1 q), fun _ => q⟩
        have f4 : pin → ¬ Op.bytesLess h m = true := fun q => k3 h hd.2 (f1 q)
        (conv => whnf)
        by_cases hjl : j < l.length
        · obtain ⟨c, hc⟩ : ∃ c, l[j]? = some c := ⟨_, List.getElem?_eq_getElem hjl⟩
          have hcI : l[((j : Nat) : Int).toNat]? = some c := hc
          have hcw := hlw c (List.mem_of_getElem? hc)
          have hcl := hcw.1.1.len
          (try (conv => whnf)); repeat' (first | (exact absurd (f3 (Classical.not_not.1 (by assumption))) (by assumption)) | (exact absurd (f3 (by assumption)) (by assumption)) | (exact absurd (by assumption) (f4 (by assumption))) | (exact absurd (by assumption) (f4 (Classical.not_not.1 (by assumption)))) | refine Ok.seq ?_ | refine OkL.cons ?_ | ((first | refine Ok.region tok ?_ | refine Ok.region_draw tok follows (by kernel_rfl) ?_ | refine Ok.cond ?_); conv => whnf) | refine Ok.block ?_ | ((first | refine Ok.skip ?_ | refine Ok.exit ?_ | refine Ok.ret ?_ | refine nI ?_ | refine ix _ (by assumption) ?_ | refine ixI (by omega) (by assumption) ?_ | refine ix_new _ (by omega) fun _ _ => ?_ | refine ixI_new (by omega) (by omega) fun _ _ => ?_ | refine ⟨_, by assumption, ?_⟩); conv => whnf) | (refine Or.inl ?_; (conv => whnf); (repeat (refine aI ?_; conv => whnf)); refine ⟨_, text_at c hcw.1.1, rfl, ?_⟩; conv => whnf) | (refine Or.inl ?_; (conv => whnf); (repeat (refine aI ?_; conv => whnf)); refine ⟨_, fits3_at h c (by omega), rfl, ?_⟩; conv => whnf) | (refine Or.inl ?_; (conv => whnf); (repeat (refine aI ?_; conv => whnf)); refine ⟨_, hs1, rfl, ?_⟩; conv => whnf) | ((first | refine ⟨_, text_at c hcw.1.1, rfl, ?_⟩ | refine ⟨_, fits3_at h c (by omega), rfl, ?_⟩ | refine ⟨_, hs1, rfl, ?_⟩); conv => whnf) | (refine Or.inr (Or.inl ?_); (conv => whnf); (repeat (refine aI ?_; conv => whnf)); refine ⟨_, text_at c hcw.1.1, ?_⟩; rintro _ _ ⟨rfl, rfl⟩; conv => whnf) | (refine Or.inr (Or.inl ?_); (conv => whnf); (repeat (refine aI ?_; conv => whnf)); refine ⟨_, fits3_at h c (by omega), ?_⟩; rintro _ _ ⟨rfl, rfl⟩; conv => whnf) | (refine Or.inr (Or.inl ?_); (conv => whnf); (repeat (refine aI ?_; conv => whnf)); refine ⟨_, hs1, ?_⟩; rintro _ _ ⟨rfl, rfl⟩; conv => whnf) | ((first | refine Alt2.l (aI ?_) | refine Alt2.r (aI ?_)); conv => whnf) | (refine Ok.scope ?_) | ((first | refine Ok.label ?_ | refine rd rfl (by assumption) ?_ | refine ⟨_, .inl ⟨rfl, rfl⟩, ?_⟩ | refine ⟨_, _, rfl, rfl, ?_⟩); conv => whnf) | (refine ⟨fun _ => ?_, fun _ => ?_⟩ <;> (conv => whnf) <;> (try (exfalso; omega))) | ((first | refine aJ ?_ | refine num_any ?_ | refine ⟨_, rfl, ?_⟩); conv => whnf) | fail)
          all_goals first
            | (refine ⟨i + 1, by omega, by omega, ?_⟩
               (conv => whnf)
               rfl)
            | (refine ⟨(j + 1, inL h c), by dsimp only; omega, ⟨by dsimp only; omega, ?_⟩, ?_⟩
               · dsimp only
                 have hnp : ¬ pin := by assumption
                 rw [take_snoc hc]
                 constructor
                 · exact fun q => ⟨c, by simp, q⟩
                 · rintro ⟨y, hy, hyi⟩
                   rcases List.mem_append.1 hy with hy | hy
                   · exact absurd (hpin.2 ⟨y, hy, hyi⟩) hnp
                   · simp at hy; rw [hy] at hyi; exact hyi
               · (conv => whnf)
                 rfl)
            | trace_state
        · have hje : j = l.length := by omega
          subst hje
          rw [List.take_length] at hpin
          have f2 : pin ↔ saidX a h := hpin.trans hse
          (try (conv => whnf)); repeat' (first | (exact absurd f2 (by assumption)) | (exact absurd (by assumption) (f4 (by assumption))) | refine Ok.seq ?_ | refine OkL.cons ?_ | ((first | refine Ok.region tok ?_ | refine Ok.region_draw tok follows (by kernel_rfl) ?_ | refine Ok.cond ?_); conv => whnf) | refine Ok.block ?_ | ((first | refine Ok.skip ?_ | refine Ok.exit ?_ | refine Ok.ret ?_ | refine nI ?_ | refine ix _ (by assumption) ?_ | refine ixI (by omega) (by assumption) ?_ | refine ix_new _ (by omega) fun _ _ => ?_ | refine ixI_new (by omega) (by omega) fun _ _ => ?_ | refine ⟨_, by assumption, ?_⟩); conv => whnf) | (refine Or.inl ?_; (conv => whnf); (repeat (refine aI ?_; conv => whnf)); refine ⟨_, hs1, rfl, ?_⟩; conv => whnf) | (refine ⟨_, hs1, rfl, ?_⟩; conv => whnf) | (refine Or.inr (Or.inl ?_); (conv => whnf); (repeat (refine aI ?_; conv => whnf)); refine ⟨_, hs1, ?_⟩; rintro _ _ ⟨rfl, rfl⟩; conv => whnf) | ((first | refine Alt2.l (aI ?_) | refine Alt2.r (aI ?_)); conv => whnf) | (refine Ok.scope ?_) | ((first | refine Ok.label ?_ | refine rd rfl (by assumption) ?_ | refine ⟨_, .inl ⟨rfl, rfl⟩, ?_⟩ | refine ⟨_, _, rfl, rfl, ?_⟩); conv => whnf) | (refine ⟨fun _ => ?_, fun _ => ?_⟩ <;> (conv => whnf) <;> (try (exfalso; omega))) | ((first | refine aJ ?_ | refine num_any ?_ | refine ⟨_, rfl, ?_⟩); conv => whnf) | fail)
          all_goals first
            | (exfalso; omega)
            | (refine ⟨i + 1, by omega, by omega, ?_⟩
               (conv => whnf)
               rfl)
            | trace_state
      · (try (conv => whnf)); repeat' (first | (exact absurd hd (by assumption)) | refine Ok.seq ?_ | refine OkL.cons ?_ | ((first | refine Ok.region tok ?_ | refine Ok.region_draw tok follows (by kernel_rfl) ?_ | refine Ok.cond ?_); conv => whnf) | refine Ok.block ?_ | ((first | refine Ok.skip ?_ | refine Ok.exit ?_ | refine Ok.ret ?_ | refine nI ?_ | refine ix _ (by assumption) ?_ | refine ixI (by omega) (by assumption) ?_ | refine ix_new _ (by omega) fun _ _ => ?_ | refine ixI_new (by omega) (by omega) fun _ _ => ?_ | refine ⟨_, by assumption, ?_⟩); conv => whnf) | (refine Or.inl ?_; (conv => whnf); (repeat (refine aI ?_; conv => whnf)); refine ⟨_, his, rfl, ?_⟩; conv => whnf) | (refine ⟨_, his, rfl, ?_⟩; conv => whnf) | (refine Or.inr (Or.inl ?_); (conv => whnf); (repeat (refine aI ?_; conv => whnf)); refine ⟨_, his, ?_⟩; rintro _ _ ⟨rfl, rfl⟩; conv => whnf) | ((first | refine Alt2.l (aI ?_) | refine Alt2.r (aI ?_)); conv => whnf) | (refine Ok.scope ?_) | ((first | refine Ok.label ?_ | refine rd rfl (by assumption) ?_ | refine ⟨_, .inl ⟨rfl, rfl⟩, ?_⟩ | refine ⟨_, _, rfl, rfl, ?_⟩); conv => whnf) | (refine ⟨fun _ => ?_, fun _ => ?_⟩ <;> (conv => whnf) <;> (try (exfalso; omega))) | ((first | refine aJ ?_ | refine num_any ?_ | refine ⟨_, rfl, ?_⟩); conv => whnf) | fail)
        all_goals first
          | (refine ⟨i + 1, by omega, by omega, ?_⟩
             (conv => whnf)
             rfl)
          | trace_state
    · have hie : i = L.length := by omega
      subst hie
      (try (conv => whnf)); repeat' (first | refine Ok.seq ?_ | refine OkL.cons ?_ | ((first | refine Ok.region tok ?_ | refine Ok.region_draw tok follows (by kernel_rfl) ?_ | refine Ok.cond ?_); conv => whnf) | refine Ok.block ?_ | ((first | refine Ok.skip ?_ | refine Ok.exit ?_ | refine Ok.ret ?_ | refine nI ?_ | refine ix _ (by assumption) ?_ | refine ixI (by omega) (by assumption) ?_ | refine ix_new _ (by omega) fun _ _ => ?_ | refine ixI_new (by omega) (by omega) fun _ _ => ?_ | refine ⟨_, by assumption, ?_⟩ | refine Alt2.l (aI ?_) | refine Alt2.r (aI ?_)); conv => whnf) | (refine Ok.scope ?_) | ((first | refine Ok.label ?_ | refine rd rfl (by assumption) ?_ | refine ⟨_, .inl ⟨rfl, rfl⟩, ?_⟩ | refine ⟨_, _, rfl, rfl, ?_⟩); conv => whnf) | (refine ⟨fun _ => ?_, fun _ => ?_⟩ <;> (conv => whnf) <;> (try (exfalso; omega))) | ((first | refine aJ ?_ | refine num_any ?_ | refine ⟨_, rfl, ?_⟩); conv => whnf) | fail)
      all_goals first
        | (exfalso; omega)
        | skip
      refine Or.inl ?_; (conv => whnf)
      rfl
end Go.Proofs.YtaiondckookpiaaDoor
