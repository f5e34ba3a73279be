/- The walks and the plain laws that a law of spaces needs, part 7 of 7. -/
import Derived.Test.YtaiondckookpiaaGreatDoorPWF
set_option linter.unusedVariables false
set_option linter.unusedSimpArgs false
namespace Go.Proofs.YtaiondckookpiaaGreatDoor
open Go Go.Vx
set_option maxHeartbeats 8000000 in
theorem split_at (c d : Str) (hc : CN c) (hd : CT d) : FSpec Tryz.prog T 125 [.agg (crow c), .agg (crow d)] (fun r rows => ∃ rm, r = .lst 46 ((splitT c d).map crow) rm ∧ rows = []) := by
  have hcl := hc.1.len
  have hm := meet_at c d hc.1 hd
  refine FSpec.of_ok tok Tryz.func125 rfl Tryz.call125 (by simp) ?_
  by_cases hs : (meetT c d).isSome = true
  · have hl : d.length = c.length := by
      obtain ⟨m, hm⟩ := Option.isSome_iff_exists.1 hs
      rw [meetT_eq hc.2] at hm
      have := meetL_len hm
      omega
    (try (conv => whnf)); repeat' (first | ((with_reducible_and_instances (first | refine nShr (by assumption) ?_ | refine nShl1' rfl (by assumption) ?_ | refine nAnd ?_ | refine nOr ?_ | refine nXor ?_ | refine nAndNot ?_ | refine nAnd1' rfl ?_)); conv => whnf) | refine Ok.seq ?_ | refine OkL.cons ?_ | ((first | refine Ok.region tok ?_ | refine Ok.region_draw tok follows (by kernel_rfl) ?_ | refine Ok.cond ?_); conv => whnf) | refine Ok.block ?_ | ((first | refine Ok.skip ?_ | refine Ok.exit ?_ | refine Ok.ret ?_ | refine nI ?_ | refine ix _ (by assumption) ?_ | refine ixI (by omega) (by assumption) ?_ | refine ix_new _ (by omega) fun _ _ => ?_ | refine ixI_new (by omega) (by omega) fun _ _ => ?_ | refine ⟨_, by assumption, ?_⟩); conv => whnf) | (refine Or.inr (Or.inl ?_); (conv => whnf); (repeat (refine aI ?_; conv => whnf)); refine ⟨_, hm, ?_⟩; rintro _ _ ⟨rfl, rfl⟩ <;> (conv => whnf)) | ((first | refine Alt2.l (aI ?_) | refine Alt2.r (aI ?_)); conv => whnf) | (refine Ok.scope ?_) | ((first | refine Ok.label ?_ | refine rd rfl (by assumption) ?_ | refine ⟨_, .inl ⟨rfl, rfl⟩, ?_⟩ | refine ⟨_, _, rfl, rfl, ?_⟩); conv => whnf) | (refine ⟨fun _ => ?_, fun _ => ?_⟩ <;> (conv => whnf) <;> (try (exfalso; omega))) | ((first | refine aJ ?_ | refine num_any ?_ | refine ⟨_, rfl, ?_⟩); conv => whnf) | fail)
    · exact absurd hs (by assumption)
    refine Ok.ghost 7 46 rfl ?_
    (conv => whnf)
    have e0 : crow c = crow (curL c d 0) := by rw [curL_zero]
    have hll : ((List.length c : Nat) : Int) = ((List.length (curL c d 0) : Nat) : Int) := by rw [curL_zero]
    refine Ok.loopU [2, 3, 21] [7, 22] 1 3 (fun (i : Nat) => [.own 0 (pcsT c d i).length, .i .i64 (i : Nat)]) (fun (i : Nat) (_ : List (List D)) => [crow (curL c d i), crow d, crow ((meetT c d).getD [])]) (fun (i : Nat) (_ : Vx.Rows) => [some (46, (pcsT c d i).map crow)]) (fun (i : Nat) => i ≤ c.length) (fun (i : Nat) => c.length - i) (0) (Nat.zero_le _) ?_; (conv => whnf); refine ⟨by ((conv => whnf); first | rfl | (simp [envCat, List.take_of_length_le, cells9, crow]; done) | (simp [envCat, List.take_of_length_le, cells9, crow]; rw [IntKind.wrap_i64]; omega)), ?_⟩
    rintro i hi
    have hcu := curL_len hl i
    have hct := curL_ct hc.1 hd hl i
    have hpl := pcsT_len c d i
    have hpm : ((pcsT c d i).map crow).length = (pcsT c d i).length := by simp
    (conv => whnf)
    by_cases hil : i < c.length
    · obtain ⟨a, ha⟩ : ∃ a, c[i]? = some a := ⟨_, List.getElem?_eq_getElem hil⟩
      obtain ⟨b, hb⟩ : ∃ b, d[i]? = some b := ⟨_, List.getElem?_eq_getElem (by omega)⟩
      have hz := curL_at ha (show i < d.length by omega)
      have hac := hc.1.cub a (List.mem_of_getElem? ha)
      have hbc := hd.cub b (List.mem_of_getElem? hb)
      have hpc := pcT_at ha hb
      have hsu := curL_succ ha hb
      have hsm := fun h => curL_same ha hb h
      generalize hL : curL c d i = L at *
      generalize hQ : pcsT c d i = Q at *
      have s1 := at_two (car L) (one L) i (by omega)
      have s2 := at_two (car d) (one d) i (by omega)
      have s3 := at_one (one d) i (by omega)
      rw [(at_b hz).1] at s1
      rw [(at_b hb).1] at s2
      rw [(at_b hb).2] at s3
      obtain ⟨q, r, hqr, hr, hq⟩ := split64 i (by omega)
      have hrem := rem64 hqr hr
      have hquo := quo64 hqr hr (by omega)
      have hrr : ((r : Nat) : Int) = ((r : Nat) : Int) ∧ r < 64 := ⟨rfl, hr⟩
      by_cases hab : a = 120 ∧ b ≠ 120
      · obtain ⟨rfl, hb2⟩ := hab
        rw [if_pos ⟨rfl, hb2⟩] at hpc
        have hsn := pcsT_some hpc
        rw [hQ] at hsn
        rw [show ov1 120 b = b from rfl] at hsu
        rcases hbc with rfl | rfl | rfl
        · rw [show (97 : UInt8) - 48 = 49 from rfl] at hsn
          have k := put_word (f := car L) (g := car (L.set i 48)) hqr hr (car_set hz rfl)
          have k' := put_word (f := car L) (g := car (L.set i 49)) hqr hr (car_set hz rfl)
          have o := fun k => wof_ext (f := one (L.set i 48)) (g := one L) (k := k) fun j _ => one_set0 hz _
          have o' := put_word (f := one L) (g := one (L.set i 49)) hqr hr (one_set hz)
          rcases hq with rfl | rfl | rfl | rfl
          all_goals
            (try (conv => whnf)); repeat' (first | ((with_reducible_and_instances (first | refine nShr (by assumption) ?_ | refine nShl1' rfl (by assumption) ?_ | refine nAnd ?_ | refine nOr ?_ | refine nXor ?_ | refine nAndNot ?_ | refine nAnd1' rfl ?_)); conv => whnf) | refine Ok.seq ?_ | refine OkL.cons ?_ | ((first | refine Ok.region tok ?_ | refine Ok.region_draw tok follows (by kernel_rfl) ?_ | refine Ok.cond ?_); conv => whnf) | refine Ok.block ?_ | ((first | refine Ok.skip ?_ | refine Ok.exit ?_ | refine Ok.ret ?_ | refine nI ?_ | refine ix _ (by assumption) ?_ | refine ixI (by omega) (by assumption) ?_ | refine ix_new _ (by omega) fun _ _ => ?_ | refine ixI_new (by omega) (by omega) fun _ _ => ?_ | refine ⟨_, by assumption, ?_⟩); conv => whnf) | (refine Or.inr (Or.inr (Or.inr (Or.inr ?_))); (conv => whnf); refine effW.of (effK.peek (by rfl) (pk2 (.bp _ _ ( crow L) rfl (fun d hd => ints_crow _ d (List.mem_of_mem_drop hd))) (.i _ _)) (s1 ) ?_); rintro _ _ ⟨rfl, rfl⟩; (refine And.intro (by simp [gRowsP, grounds, D.ground]) ?_; conv => whnf)) | (refine Or.inr (Or.inr (Or.inr ?_)); (conv => whnf); refine effK.peek (by rfl) (pk2 (.bp _ _ ( crow L) rfl (fun d hd => ints_crow _ d (List.mem_of_mem_drop hd))) (.i _ _)) (s1 ) ?_; rintro _ _ ⟨rfl, rfl⟩; (refine And.intro (by simp [gRowsP, grounds, D.ground]) ?_; conv => whnf)) | (refine Or.inr (Or.inr (Or.inr (Or.inr ?_))); (conv => whnf); refine effW.of (effK.peek (by rfl) (pk2 (.bp _ _ ( crow d) rfl (fun d hd => ints_crow _ d (List.mem_of_mem_drop hd))) (.i _ _)) (s2 ) ?_); rintro _ _ ⟨rfl, rfl⟩; (refine And.intro (by simp [gRowsP, grounds, D.ground]) ?_; conv => whnf)) | (refine Or.inr (Or.inr (Or.inr ?_)); (conv => whnf); refine effK.peek (by rfl) (pk2 (.bp _ _ ( crow d) rfl (fun d hd => ints_crow _ d (List.mem_of_mem_drop hd))) (.i _ _)) (s2 ) ?_; rintro _ _ ⟨rfl, rfl⟩; (refine And.intro (by simp [gRowsP, grounds, D.ground]) ?_; conv => whnf)) | ((first | refine Alt2.l (aI ?_) | refine Alt2.r (aI ?_)); conv => whnf) | (refine Ok.scope ?_) | ((first | refine Ok.label ?_ | refine rd rfl (by assumption) ?_ | refine ⟨_, .inl ⟨rfl, rfl⟩, ?_⟩ | refine ⟨_, _, rfl, rfl, ?_⟩); conv => whnf) | (refine ⟨fun _ => ?_, fun _ => ?_⟩ <;> (conv => whnf) <;> (try (exfalso; omega))) | ((first | refine aJ ?_ | refine num_any ?_ | refine ⟨_, rfl, ?_⟩); conv => whnf) | fail)
            all_goals first
              | contradiction
              | skip
            refine Or.inr (Or.inr (Or.inl ?_)); (conv => whnf); refine ⟨_, _, Tryz.func101, rfl, Tryz.call101, ?_⟩; (conv => whnf)
            (try (conv => whnf)); repeat' (first | ((with_reducible_and_instances (first | refine nShr (by assumption) ?_ | refine nShl1' rfl (by assumption) ?_ | refine nAnd ?_ | refine nOr ?_ | refine nXor ?_ | refine nAndNot ?_ | refine nAnd1' rfl ?_)); conv => whnf) | refine Ok.seq ?_ | refine OkL.cons ?_ | ((first | refine Ok.region tok ?_ | refine Ok.region_plan (id := 0) tok follows [(5, 12, [])] [.q 0, .q 1, .q 2, .q 3, .q 4, .q 5, .q 6, .q 7, .q 8, .q 9, .q 10, .q 11, .l 12] (by kernel_rfl) ?_ | refine ⟨_, (hquo.symm).symm, ?_⟩ | refine ⟨_, (hrem.symm).symm, ?_⟩ | refine Ok.region_draw tok follows (by kernel_rfl) ?_ | refine Ok.cond ?_); conv => whnf) | refine Ok.block ?_ | ((first | refine Ok.skip ?_ | refine Ok.exit ?_ | refine Ok.ret ?_ | refine nI ?_ | refine ix _ (by assumption) ?_ | refine ixI (by omega) (by assumption) ?_ | refine ix_new _ (by omega) fun _ _ => ?_ | refine ixI_new (by omega) (by omega) fun _ _ => ?_ | refine ⟨_, by assumption, ?_⟩); conv => whnf) | (refine Or.inr (Or.inr (Or.inr (Or.inr ?_))); (conv => whnf); refine effW.of (effK.peek (by rfl) (pk2 (.bp _ _ ( crow d) rfl (fun d hd => ints_crow _ d (List.mem_of_mem_drop hd))) (.i _ _)) (s3 ) ?_); rintro _ _ ⟨rfl, rfl⟩; (refine And.intro (by simp [gRowsP, grounds, D.ground]) ?_; conv => whnf)) | (refine Or.inr (Or.inr (Or.inr ?_)); (conv => whnf); refine effK.peek (by rfl) (pk2 (.bp _ _ ( crow d) rfl (fun d hd => ints_crow _ d (List.mem_of_mem_drop hd))) (.i _ _)) (s3 ) ?_; rintro _ _ ⟨rfl, rfl⟩; (refine And.intro (by simp [gRowsP, grounds, D.ground]) ?_; conv => whnf)) | ((first | refine Alt2.l (aI ?_) | refine Alt2.r (aI ?_)); conv => whnf) | (refine Ok.scope ?_) | ((first | refine Ok.label ?_ | refine rd rfl (by assumption) ?_ | refine ⟨_, .inl ⟨rfl, rfl⟩, ?_⟩ | refine ⟨_, _, rfl, rfl, ?_⟩); conv => whnf) | (refine ⟨fun _ => ?_, fun _ => ?_⟩ <;> (conv => whnf) <;> (try (exfalso; omega))) | ((first | refine aJ ?_ | refine num_any ?_ | refine ⟨_, rfl, ?_⟩); conv => whnf) | fail)
            all_goals first
              | contradiction
              | skip
            refine Or.inr (Or.inr (Or.inl ?_)); (conv => whnf); refine ⟨_, _, Tryz.func101, rfl, Tryz.call101, ?_⟩; (conv => whnf)
            (try (conv => whnf)); repeat' (first | ((with_reducible_and_instances (first | refine nShr (by assumption) ?_ | refine nShl1' rfl (by assumption) ?_ | refine nAnd ?_ | refine nOr ?_ | refine nXor ?_ | refine nAndNot ?_ | refine nAnd1' rfl ?_)); conv => whnf) | refine Ok.seq ?_ | refine OkL.cons ?_ | ((first | refine Ok.region tok ?_ | refine Ok.region_plan (id := 0) tok follows [(5, 12, [])] [.q 0, .q 1, .q 2, .q 3, .q 4, .q 5, .q 6, .q 7, .q 8, .q 9, .q 10, .q 11, .l 12] (by kernel_rfl) ?_ | refine ⟨_, (hquo.symm).symm, ?_⟩ | refine ⟨_, (hrem.symm).symm, ?_⟩ | refine Ok.region_draw tok follows (by kernel_rfl) ?_ | refine Ok.cond ?_); conv => whnf) | refine Ok.block ?_ | ((first | refine Ok.skip ?_ | refine Ok.exit ?_ | refine Ok.ret ?_ | refine nI ?_ | refine ix _ (by assumption) ?_ | refine ixI (by omega) (by assumption) ?_ | refine ix_new _ (by omega) fun _ _ => ?_ | refine ixI_new (by omega) (by omega) fun _ _ => ?_ | refine ⟨_, by assumption, ?_⟩ | refine Alt2.l (aI ?_) | refine Alt2.r (aI ?_)); conv => whnf) | (refine Ok.scope ?_) | ((first | refine Ok.label ?_ | refine rd rfl (by assumption) ?_ | refine ⟨_, .inl ⟨rfl, rfl⟩, ?_⟩ | refine ⟨_, _, rfl, rfl, ?_⟩); conv => whnf) | (refine ⟨fun _ => ?_, fun _ => ?_⟩ <;> (conv => whnf) <;> (try (exfalso; omega))) | ((first | refine aJ ?_ | refine num_any ?_ | refine ⟨_, rfl, ?_⟩); conv => whnf) | fail)
            refine ⟨i + 1, by omega, by omega, ?_⟩
            rw [hsu, hsn]
            have a0 := (k 0).trans (by first | exact if_pos rfl | exact if_neg (by decide))
            have a1 := (k 1).trans (by first | exact if_pos rfl | exact if_neg (by decide))
            have a2 := (k 2).trans (by first | exact if_pos rfl | exact if_neg (by decide))
            have a3 := (k 3).trans (by first | exact if_pos rfl | exact if_neg (by decide))
            have b0 := o 0
            have b1 := o 1
            have b2 := o 2
            have b3 := o 3
            have e0 := (k' 0).trans (by first | exact if_pos rfl | exact if_neg (by decide))
            have e1 := (k' 1).trans (by first | exact if_pos rfl | exact if_neg (by decide))
            have e2 := (k' 2).trans (by first | exact if_pos rfl | exact if_neg (by decide))
            have e3 := (k' 3).trans (by first | exact if_pos rfl | exact if_neg (by decide))
            have f0 := (o' 0).trans (by first | exact if_pos rfl | exact if_neg (by decide))
            have f1 := (o' 1).trans (by first | exact if_pos rfl | exact if_neg (by decide))
            have f2 := (o' 2).trans (by first | exact if_pos rfl | exact if_neg (by decide))
            have f3 := (o' 3).trans (by first | exact if_pos rfl | exact if_neg (by decide))
            (conv => whnf)
            simp only [envCat, crow, cells9, List.length_set, List.map_append, List.map_cons, List.map_nil, List.length_append, List.length_map, List.length_cons, List.length_nil, a0, a1, a2, a3, b0, b1, b2, b3, e0, e1, e2, e3, f0, f1, f2, f3]
            rfl
        · rw [show (97 : UInt8) - 49 = 48 from rfl] at hsn
          have k := put_word (f := car L) (g := car (L.set i 49)) hqr hr (car_set hz rfl)
          have k' := put_word (f := car L) (g := car (L.set i 48)) hqr hr (car_set hz rfl)
          have o := put_word (f := one L) (g := one (L.set i 49)) hqr hr (one_set hz)
          have o' := fun k => wof_ext (f := one (L.set i 48)) (g := one L) (k := k) fun j _ => one_set0 hz _
          rcases hq with rfl | rfl | rfl | rfl
          all_goals
            (try (conv => whnf)); repeat' (first | ((with_reducible_and_instances (first | refine nShr (by assumption) ?_ | refine nShl1' rfl (by assumption) ?_ | refine nAnd ?_ | refine nOr ?_ | refine nXor ?_ | refine nAndNot ?_ | refine nAnd1' rfl ?_)); conv => whnf) | refine Ok.seq ?_ | refine OkL.cons ?_ | ((first | refine Ok.region tok ?_ | refine Ok.region_draw tok follows (by kernel_rfl) ?_ | refine Ok.cond ?_); conv => whnf) | refine Ok.block ?_ | ((first | refine Ok.skip ?_ | refine Ok.exit ?_ | refine Ok.ret ?_ | refine nI ?_ | refine ix _ (by assumption) ?_ | refine ixI (by omega) (by assumption) ?_ | refine ix_new _ (by omega) fun _ _ => ?_ | refine ixI_new (by omega) (by omega) fun _ _ => ?_ | refine ⟨_, by assumption, ?_⟩); conv => whnf) | (refine Or.inr (Or.inr (Or.inr (Or.inr ?_))); (conv => whnf); refine effW.of (effK.peek (by rfl) (pk2 (.bp _ _ ( crow L) rfl (fun d hd => ints_crow _ d (List.mem_of_mem_drop hd))) (.i _ _)) (s1 ) ?_); rintro _ _ ⟨rfl, rfl⟩; (refine And.intro (by simp [gRowsP, grounds, D.ground]) ?_; conv => whnf)) | (refine Or.inr (Or.inr (Or.inr ?_)); (conv => whnf); refine effK.peek (by rfl) (pk2 (.bp _ _ ( crow L) rfl (fun d hd => ints_crow _ d (List.mem_of_mem_drop hd))) (.i _ _)) (s1 ) ?_; rintro _ _ ⟨rfl, rfl⟩; (refine And.intro (by simp [gRowsP, grounds, D.ground]) ?_; conv => whnf)) | (refine Or.inr (Or.inr (Or.inr (Or.inr ?_))); (conv => whnf); refine effW.of (effK.peek (by rfl) (pk2 (.bp _ _ ( crow d) rfl (fun d hd => ints_crow _ d (List.mem_of_mem_drop hd))) (.i _ _)) (s2 ) ?_); rintro _ _ ⟨rfl, rfl⟩; (refine And.intro (by simp [gRowsP, grounds, D.ground]) ?_; conv => whnf)) | (refine Or.inr (Or.inr (Or.inr ?_)); (conv => whnf); refine effK.peek (by rfl) (pk2 (.bp _ _ ( crow d) rfl (fun d hd => ints_crow _ d (List.mem_of_mem_drop hd))) (.i _ _)) (s2 ) ?_; rintro _ _ ⟨rfl, rfl⟩; (refine And.intro (by simp [gRowsP, grounds, D.ground]) ?_; conv => whnf)) | ((first | refine Alt2.l (aI ?_) | refine Alt2.r (aI ?_)); conv => whnf) | (refine Ok.scope ?_) | ((first | refine Ok.label ?_ | refine rd rfl (by assumption) ?_ | refine ⟨_, .inl ⟨rfl, rfl⟩, ?_⟩ | refine ⟨_, _, rfl, rfl, ?_⟩); conv => whnf) | (refine ⟨fun _ => ?_, fun _ => ?_⟩ <;> (conv => whnf) <;> (try (exfalso; omega))) | ((first | refine aJ ?_ | refine num_any ?_ | refine ⟨_, rfl, ?_⟩); conv => whnf) | fail)
            all_goals first
              | contradiction
              | skip
            refine Or.inr (Or.inr (Or.inl ?_)); (conv => whnf); refine ⟨_, _, Tryz.func101, rfl, Tryz.call101, ?_⟩; (conv => whnf)
            (try (conv => whnf)); repeat' (first | ((with_reducible_and_instances (first | refine nShr (by assumption) ?_ | refine nShl1' rfl (by assumption) ?_ | refine nAnd ?_ | refine nOr ?_ | refine nXor ?_ | refine nAndNot ?_ | refine nAnd1' rfl ?_)); conv => whnf) | refine Ok.seq ?_ | refine OkL.cons ?_ | ((first | refine Ok.region tok ?_ | refine Ok.region_plan (id := 0) tok follows [(5, 12, [])] [.q 0, .q 1, .q 2, .q 3, .q 4, .q 5, .q 6, .q 7, .q 8, .q 9, .q 10, .q 11, .l 12] (by kernel_rfl) ?_ | refine ⟨_, (hquo.symm).symm, ?_⟩ | refine ⟨_, (hrem.symm).symm, ?_⟩ | refine Ok.region_draw tok follows (by kernel_rfl) ?_ | refine Ok.cond ?_); conv => whnf) | refine Ok.block ?_ | ((first | refine Ok.skip ?_ | refine Ok.exit ?_ | refine Ok.ret ?_ | refine nI ?_ | refine ix _ (by assumption) ?_ | refine ixI (by omega) (by assumption) ?_ | refine ix_new _ (by omega) fun _ _ => ?_ | refine ixI_new (by omega) (by omega) fun _ _ => ?_ | refine ⟨_, by assumption, ?_⟩); conv => whnf) | (refine Or.inr (Or.inr (Or.inr (Or.inr ?_))); (conv => whnf); refine effW.of (effK.peek (by rfl) (pk2 (.bp _ _ ( crow d) rfl (fun d hd => ints_crow _ d (List.mem_of_mem_drop hd))) (.i _ _)) (s3 ) ?_); rintro _ _ ⟨rfl, rfl⟩; (refine And.intro (by simp [gRowsP, grounds, D.ground]) ?_; conv => whnf)) | (refine Or.inr (Or.inr (Or.inr ?_)); (conv => whnf); refine effK.peek (by rfl) (pk2 (.bp _ _ ( crow d) rfl (fun d hd => ints_crow _ d (List.mem_of_mem_drop hd))) (.i _ _)) (s3 ) ?_; rintro _ _ ⟨rfl, rfl⟩; (refine And.intro (by simp [gRowsP, grounds, D.ground]) ?_; conv => whnf)) | ((first | refine Alt2.l (aI ?_) | refine Alt2.r (aI ?_)); conv => whnf) | (refine Ok.scope ?_) | ((first | refine Ok.label ?_ | refine rd rfl (by assumption) ?_ | refine ⟨_, .inl ⟨rfl, rfl⟩, ?_⟩ | refine ⟨_, _, rfl, rfl, ?_⟩); conv => whnf) | (refine ⟨fun _ => ?_, fun _ => ?_⟩ <;> (conv => whnf) <;> (try (exfalso; omega))) | ((first | refine aJ ?_ | refine num_any ?_ | refine ⟨_, rfl, ?_⟩); conv => whnf) | fail)
            all_goals first
              | contradiction
              | skip
            refine Or.inr (Or.inr (Or.inl ?_)); (conv => whnf); refine ⟨_, _, Tryz.func101, rfl, Tryz.call101, ?_⟩; (conv => whnf)
            (try (conv => whnf)); repeat' (first | ((with_reducible_and_instances (first | refine nShr (by assumption) ?_ | refine nShl1' rfl (by assumption) ?_ | refine nAnd ?_ | refine nOr ?_ | refine nXor ?_ | refine nAndNot ?_ | refine nAnd1' rfl ?_)); conv => whnf) | refine Ok.seq ?_ | refine OkL.cons ?_ | ((first | refine Ok.region tok ?_ | refine Ok.region_plan (id := 0) tok follows [(5, 12, [])] [.q 0, .q 1, .q 2, .q 3, .q 4, .q 5, .q 6, .q 7, .q 8, .q 9, .q 10, .q 11, .l 12] (by kernel_rfl) ?_ | refine ⟨_, (hquo.symm).symm, ?_⟩ | refine ⟨_, (hrem.symm).symm, ?_⟩ | refine Ok.region_draw tok follows (by kernel_rfl) ?_ | refine Ok.cond ?_); conv => whnf) | refine Ok.block ?_ | ((first | refine Ok.skip ?_ | refine Ok.exit ?_ | refine Ok.ret ?_ | refine nI ?_ | refine ix _ (by assumption) ?_ | refine ixI (by omega) (by assumption) ?_ | refine ix_new _ (by omega) fun _ _ => ?_ | refine ixI_new (by omega) (by omega) fun _ _ => ?_ | refine ⟨_, by assumption, ?_⟩ | refine Alt2.l (aI ?_) | refine Alt2.r (aI ?_)); conv => whnf) | (refine Ok.scope ?_) | ((first | refine Ok.label ?_ | refine rd rfl (by assumption) ?_ | refine ⟨_, .inl ⟨rfl, rfl⟩, ?_⟩ | refine ⟨_, _, rfl, rfl, ?_⟩); conv => whnf) | (refine ⟨fun _ => ?_, fun _ => ?_⟩ <;> (conv => whnf) <;> (try (exfalso; omega))) | ((first | refine aJ ?_ | refine num_any ?_ | refine ⟨_, rfl, ?_⟩); conv => whnf) | fail)
            refine ⟨i + 1, by omega, by omega, ?_⟩
            rw [hsu, hsn]
            have a0 := (k 0).trans (by first | exact if_pos rfl | exact if_neg (by decide))
            have a1 := (k 1).trans (by first | exact if_pos rfl | exact if_neg (by decide))
            have a2 := (k 2).trans (by first | exact if_pos rfl | exact if_neg (by decide))
            have a3 := (k 3).trans (by first | exact if_pos rfl | exact if_neg (by decide))
            have b0 := (o 0).trans (by first | exact if_pos rfl | exact if_neg (by decide))
            have b1 := (o 1).trans (by first | exact if_pos rfl | exact if_neg (by decide))
            have b2 := (o 2).trans (by first | exact if_pos rfl | exact if_neg (by decide))
            have b3 := (o 3).trans (by first | exact if_pos rfl | exact if_neg (by decide))
            have e0 := (k' 0).trans (by first | exact if_pos rfl | exact if_neg (by decide))
            have e1 := (k' 1).trans (by first | exact if_pos rfl | exact if_neg (by decide))
            have e2 := (k' 2).trans (by first | exact if_pos rfl | exact if_neg (by decide))
            have e3 := (k' 3).trans (by first | exact if_pos rfl | exact if_neg (by decide))
            have f0 := o' 0
            have f1 := o' 1
            have f2 := o' 2
            have f3 := o' 3
            (conv => whnf)
            simp only [envCat, crow, cells9, List.length_set, List.map_append, List.map_cons, List.map_nil, List.length_append, List.length_map, List.length_cons, List.length_nil, a0, a1, a2, a3, b0, b1, b2, b3, e0, e1, e2, e3, f0, f1, f2, f3]
            rfl
        · exact absurd rfl hb2
      · rw [if_neg hab] at hpc
        have hsn := pcsT_none hpc
        rw [hQ] at hsn
        have hsm := hsm hab
        have hcases : (dig a = true) ∨ (dig a = false ∧ dig b = false) := by
          rcases hac with rfl | rfl | rfl
          · left; rfl
          · left; rfl
          · right
            rcases hbc with rfl | rfl | rfl
            · exact absurd ⟨rfl, by decide⟩ hab
            · exact absurd ⟨rfl, by decide⟩ hab
            · exact ⟨rfl, rfl⟩
        rcases hcases with hda | ⟨hda, hdb⟩
        · rw [hda] at s1
          (try (conv => whnf)); repeat' (first | ((with_reducible_and_instances (first | refine nShr (by assumption) ?_ | refine nShl1' rfl (by assumption) ?_ | refine nAnd ?_ | refine nOr ?_ | refine nXor ?_ | refine nAndNot ?_ | refine nAnd1' rfl ?_)); conv => whnf) | refine Ok.seq ?_ | refine OkL.cons ?_ | ((first | refine Ok.region tok ?_ | refine Ok.region_draw tok follows (by kernel_rfl) ?_ | refine Ok.cond ?_); conv => whnf) | refine Ok.block ?_ | ((first | refine Ok.skip ?_ | refine Ok.exit ?_ | refine Ok.ret ?_ | refine nI ?_ | refine ix _ (by assumption) ?_ | refine ixI (by omega) (by assumption) ?_ | refine ix_new _ (by omega) fun _ _ => ?_ | refine ixI_new (by omega) (by omega) fun _ _ => ?_ | refine ⟨_, by assumption, ?_⟩); conv => whnf) | (refine Or.inr (Or.inr (Or.inr (Or.inr ?_))); (conv => whnf); refine effW.of (effK.peek (by rfl) (pk2 (.bp _ _ ( crow L) rfl (fun d hd => ints_crow _ d (List.mem_of_mem_drop hd))) (.i _ _)) (s1 ) ?_); rintro _ _ ⟨rfl, rfl⟩; (refine And.intro (by simp [gRowsP, grounds, D.ground]) ?_; conv => whnf)) | (refine Or.inr (Or.inr (Or.inr ?_)); (conv => whnf); refine effK.peek (by rfl) (pk2 (.bp _ _ ( crow L) rfl (fun d hd => ints_crow _ d (List.mem_of_mem_drop hd))) (.i _ _)) (s1 ) ?_; rintro _ _ ⟨rfl, rfl⟩; (refine And.intro (by simp [gRowsP, grounds, D.ground]) ?_; conv => whnf)) | (refine Or.inr (Or.inr (Or.inr (Or.inr ?_))); (conv => whnf); refine effW.of (effK.peek (by rfl) (pk2 (.bp _ _ ( crow d) rfl (fun d hd => ints_crow _ d (List.mem_of_mem_drop hd))) (.i _ _)) (s2 ) ?_); rintro _ _ ⟨rfl, rfl⟩; (refine And.intro (by simp [gRowsP, grounds, D.ground]) ?_; conv => whnf)) | (refine Or.inr (Or.inr (Or.inr ?_)); (conv => whnf); refine effK.peek (by rfl) (pk2 (.bp _ _ ( crow d) rfl (fun d hd => ints_crow _ d (List.mem_of_mem_drop hd))) (.i _ _)) (s2 ) ?_; rintro _ _ ⟨rfl, rfl⟩; (refine And.intro (by simp [gRowsP, grounds, D.ground]) ?_; conv => whnf)) | ((first | refine Alt2.l (aI ?_) | refine Alt2.r (aI ?_)); conv => whnf) | (refine Ok.scope ?_) | ((first | refine Ok.label ?_ | refine rd rfl (by assumption) ?_ | refine ⟨_, .inl ⟨rfl, rfl⟩, ?_⟩ | refine ⟨_, _, rfl, rfl, ?_⟩); conv => whnf) | (refine ⟨fun _ => ?_, fun _ => ?_⟩ <;> (conv => whnf) <;> (try (exfalso; omega))) | ((first | refine aJ ?_ | refine num_any ?_ | refine ⟨_, rfl, ?_⟩); conv => whnf) | fail)
          all_goals first
            | contradiction
            | (refine ⟨i + 1, by omega, by omega, ?_⟩
               rw [hsm, hsn]
               (conv => whnf)
               rfl)
            | (rename_i h; exact absurd rfl h)
        · rw [hda] at s1
          rw [hdb] at s2
          (try (conv => whnf)); repeat' (first | ((with_reducible_and_instances (first | refine nShr (by assumption) ?_ | refine nShl1' rfl (by assumption) ?_ | refine nAnd ?_ | refine nOr ?_ | refine nXor ?_ | refine nAndNot ?_ | refine nAnd1' rfl ?_)); conv => whnf) | refine Ok.seq ?_ | refine OkL.cons ?_ | ((first | refine Ok.region tok ?_ | refine Ok.region_draw tok follows (by kernel_rfl) ?_ | refine Ok.cond ?_); conv => whnf) | refine Ok.block ?_ | ((first | refine Ok.skip ?_ | refine Ok.exit ?_ | refine Ok.ret ?_ | refine nI ?_ | refine ix _ (by assumption) ?_ | refine ixI (by omega) (by assumption) ?_ | refine ix_new _ (by omega) fun _ _ => ?_ | refine ixI_new (by omega) (by omega) fun _ _ => ?_ | refine ⟨_, by assumption, ?_⟩); conv => whnf) | (refine Or.inr (Or.inr (Or.inr (Or.inr ?_))); (conv => whnf); refine effW.of (effK.peek (by rfl) (pk2 (.bp _ _ ( crow L) rfl (fun d hd => ints_crow _ d (List.mem_of_mem_drop hd))) (.i _ _)) (s1 ) ?_); rintro _ _ ⟨rfl, rfl⟩; (refine And.intro (by simp [gRowsP, grounds, D.ground]) ?_; conv => whnf)) | (refine Or.inr (Or.inr (Or.inr ?_)); (conv => whnf); refine effK.peek (by rfl) (pk2 (.bp _ _ ( crow L) rfl (fun d hd => ints_crow _ d (List.mem_of_mem_drop hd))) (.i _ _)) (s1 ) ?_; rintro _ _ ⟨rfl, rfl⟩; (refine And.intro (by simp [gRowsP, grounds, D.ground]) ?_; conv => whnf)) | (refine Or.inr (Or.inr (Or.inr (Or.inr ?_))); (conv => whnf); refine effW.of (effK.peek (by rfl) (pk2 (.bp _ _ ( crow d) rfl (fun d hd => ints_crow _ d (List.mem_of_mem_drop hd))) (.i _ _)) (s2 ) ?_); rintro _ _ ⟨rfl, rfl⟩; (refine And.intro (by simp [gRowsP, grounds, D.ground]) ?_; conv => whnf)) | (refine Or.inr (Or.inr (Or.inr ?_)); (conv => whnf); refine effK.peek (by rfl) (pk2 (.bp _ _ ( crow d) rfl (fun d hd => ints_crow _ d (List.mem_of_mem_drop hd))) (.i _ _)) (s2 ) ?_; rintro _ _ ⟨rfl, rfl⟩; (refine And.intro (by simp [gRowsP, grounds, D.ground]) ?_; conv => whnf)) | ((first | refine Alt2.l (aI ?_) | refine Alt2.r (aI ?_)); conv => whnf) | (refine Ok.scope ?_) | ((first | refine Ok.label ?_ | refine rd rfl (by assumption) ?_ | refine ⟨_, .inl ⟨rfl, rfl⟩, ?_⟩ | refine ⟨_, _, rfl, rfl, ?_⟩); conv => whnf) | (refine ⟨fun _ => ?_, fun _ => ?_⟩ <;> (conv => whnf) <;> (try (exfalso; omega))) | ((first | refine aJ ?_ | refine num_any ?_ | refine ⟨_, rfl, ?_⟩); conv => whnf) | fail)
          all_goals first
            | contradiction
            | (refine ⟨i + 1, by omega, by omega, ?_⟩
               rw [hsm, hsn]
               (conv => whnf)
               rfl)
            | (rename_i h; exact absurd (fun q => by cases q) h)
    · have hie : i = c.length := by omega
      subst hie
      have hsp : splitT c d = pcsT c d c.length := if_pos hs
      rw [hsp]
      (try (conv => whnf)); repeat' (first | ((with_reducible_and_instances (first | refine nShr (by assumption) ?_ | refine nShl1' rfl (by assumption) ?_ | refine nAnd ?_ | refine nOr ?_ | refine nXor ?_ | refine nAndNot ?_ | refine nAnd1' rfl ?_)); conv => whnf) | refine Ok.seq ?_ | refine OkL.cons ?_ | ((first | refine Ok.region tok ?_ | refine Ok.region_draw tok follows (by kernel_rfl) ?_ | refine Ok.cond ?_); conv => whnf) | refine Ok.block ?_ | ((first | refine Ok.skip ?_ | refine Ok.exit ?_ | refine Ok.ret ?_ | refine nI ?_ | refine ix _ (by assumption) ?_ | refine ixI (by omega) (by assumption) ?_ | refine ix_new _ (by omega) fun _ _ => ?_ | refine ixI_new (by omega) (by omega) fun _ _ => ?_ | refine ⟨_, by assumption, ?_⟩ | refine Alt2.l (aI ?_) | refine Alt2.r (aI ?_)); conv => whnf) | (refine Ok.scope ?_) | ((first | refine Ok.label ?_ | refine rd rfl (by assumption) ?_ | refine ⟨_, .inl ⟨rfl, rfl⟩, ?_⟩ | refine ⟨_, _, rfl, rfl, ?_⟩); conv => whnf) | (refine ⟨fun _ => ?_, fun _ => ?_⟩ <;> (conv => whnf) <;> (try (exfalso; omega))) | ((first | refine aJ ?_ | refine num_any ?_ | refine ⟨_, rfl, ?_⟩); conv => whnf) | fail)
      refine Or.inl ?_; (conv => whnf)
      refine ⟨[], ?_, rfl⟩
      rw [List.take_of_length_le (by simp), List.drop_of_length_le (by simp)]
      rfl
  · have hn : splitT c d = [c] := by unfold splitT; rw [if_neg hs]
    rw [hn]
    (try (conv => whnf)); repeat' (first | ((with_reducible_and_instances (first | refine nShr (by assumption) ?_ | refine nShl1' rfl (by assumption) ?_ | refine nAnd ?_ | refine nOr ?_ | refine nXor ?_ | refine nAndNot ?_ | refine nAnd1' rfl ?_)); conv => whnf) | refine Ok.seq ?_ | refine OkL.cons ?_ | ((first | refine Ok.region tok ?_ | refine Ok.region_draw tok follows (by kernel_rfl) ?_ | refine Ok.cond ?_); conv => whnf) | refine Ok.block ?_ | ((first | refine Ok.skip ?_ | refine Ok.exit ?_ | refine Ok.ret ?_ | refine nI ?_ | refine ix _ (by assumption) ?_ | refine ixI (by omega) (by assumption) ?_ | refine ix_new _ (by omega) fun _ _ => ?_ | refine ixI_new (by omega) (by omega) fun _ _ => ?_ | refine ⟨_, by assumption, ?_⟩); conv => whnf) | (refine Or.inr (Or.inl ?_); (conv => whnf); (repeat (refine aI ?_; conv => whnf)); refine ⟨_, hm, ?_⟩; rintro _ _ ⟨rfl, rfl⟩ <;> (conv => whnf)) | ((first | refine Alt2.l (aI ?_) | refine Alt2.r (aI ?_)); conv => whnf) | (refine Ok.scope ?_) | ((first | refine Ok.label ?_ | refine rd rfl (by assumption) ?_ | refine ⟨_, .inl ⟨rfl, rfl⟩, ?_⟩ | refine ⟨_, _, rfl, rfl, ?_⟩); conv => whnf) | (refine ⟨fun _ => ?_, fun _ => ?_⟩ <;> (conv => whnf) <;> (try (exfalso; omega))) | ((first | refine aJ ?_ | refine num_any ?_ | refine ⟨_, rfl, ?_⟩); conv => whnf) | fail)
    · refine Or.inl ?_; (conv => whnf)
      exact ⟨_, rfl, rfl⟩
    · rename_i h
      exact absurd (Classical.not_not.1 h) hs
end Go.Proofs.YtaiondckookpiaaGreatDoor
namespace Go.Proofs.YtaiondckookpiaaGreatDoor
open Go Go.Vx
theorem one_at (c : Str) : FSpec Tryz.prog T 92 [.agg (crow c)] (fun d rows => d = .fn 126 [] [.ep (crow c)] ∧ rows = []) := by
  refine FSpec.of_ok tok Tryz.func92 rfl Tryz.call92 (by simp) ?_
  (try (conv => whnf)); repeat' (first | refine Ok.seq ?_ | refine OkL.cons ?_ | ((first | refine Ok.region tok ?_ | refine Ok.region_draw tok follows (by kernel_rfl) ?_ | refine Ok.cond ?_); conv => whnf) | refine Ok.block ?_ | ((first | refine Ok.skip ?_ | refine Ok.exit ?_ | refine Ok.ret ?_ | refine nI ?_ | refine ix _ (by assumption) ?_ | refine ixI (by omega) (by assumption) ?_ | refine ix_new _ (by omega) fun _ _ => ?_ | refine ixI_new (by omega) (by omega) fun _ _ => ?_ | refine ⟨_, by assumption, ?_⟩ | refine Alt2.l (aI ?_) | refine Alt2.r (aI ?_)); conv => whnf) | (refine Ok.scope ?_) | ((first | refine Ok.label ?_ | refine rd rfl (by assumption) ?_ | refine ⟨_, .inl ⟨rfl, rfl⟩, ?_⟩ | refine ⟨_, _, rfl, rfl, ?_⟩); conv => whnf) | (refine ⟨fun _ => ?_, fun _ => ?_⟩ <;> (conv => whnf) <;> (try (exfalso; omega))) | ((first | refine aJ ?_ | refine num_any ?_ | refine ⟨_, rfl, ?_⟩); conv => whnf) | fail)
  refine Or.inr ?_
  (conv => whnf)
  (try (conv => whnf)); repeat' (first | (refine Ok.pubB (c := Code.ret) rfl ?_; (conv => whnf); refine Ok.ret ?_; (conv => whnf)) | refine Ok.seq ?_ | refine OkL.cons ?_ | ((first | refine Ok.region tok ?_ | refine Ok.region_draw tok follows (by kernel_rfl) ?_ | refine Ok.cond ?_); conv => whnf) | refine Ok.block ?_ | ((first | refine Ok.skip ?_ | refine Ok.exit ?_ | refine Ok.ret ?_ | refine nI ?_ | refine ix _ (by assumption) ?_ | refine ixI (by omega) (by assumption) ?_ | refine ix_new _ (by omega) fun _ _ => ?_ | refine ixI_new (by omega) (by omega) fun _ _ => ?_ | refine ⟨_, by assumption, ?_⟩ | refine Alt2.l (aI ?_) | refine Alt2.r (aI ?_)); conv => whnf) | (refine Ok.scope ?_) | ((first | refine Ok.label ?_ | refine rd rfl (by assumption) ?_ | refine ⟨_, .inl ⟨rfl, rfl⟩, ?_⟩ | refine ⟨_, _, rfl, rfl, ?_⟩); conv => whnf) | (refine ⟨fun _ => ?_, fun _ => ?_⟩ <;> (conv => whnf) <;> (try (exfalso; omega))) | ((first | refine aJ ?_ | refine num_any ?_ | refine ⟨_, rfl, ?_⟩); conv => whnf) | fail)
  refine Or.inl ?_; (conv => whnf)
  exact ⟨rfl, rfl⟩
theorem splits_at (l : List Str) (rm : List (List D)) (m : Str) : FSpec Tryz.prog T 93 [.lst 46 (l.map crow) rm, .agg (crow m)] (fun d rows => d = .fn 127 [] [.ep [.lst 46 (l.map crow) rm], .ep (crow m)] ∧ rows = []) := by
  refine FSpec.of_ok tok Tryz.func93 rfl Tryz.call93 (by simp) ?_
  (try (conv => whnf)); repeat' (first | refine Ok.seq ?_ | refine OkL.cons ?_ | ((first | refine Ok.region tok ?_ | refine Ok.region_draw tok follows (by kernel_rfl) ?_ | refine Ok.cond ?_); conv => whnf) | refine Ok.block ?_ | ((first | refine Ok.skip ?_ | refine Ok.exit ?_ | refine Ok.ret ?_ | refine nI ?_ | refine ix _ (by assumption) ?_ | refine ixI (by omega) (by assumption) ?_ | refine ix_new _ (by omega) fun _ _ => ?_ | refine ixI_new (by omega) (by omega) fun _ _ => ?_ | refine ⟨_, by assumption, ?_⟩ | refine Alt2.l (aI ?_) | refine Alt2.r (aI ?_)); conv => whnf) | (refine Ok.scope ?_) | ((first | refine Ok.label ?_ | refine rd rfl (by assumption) ?_ | refine ⟨_, .inl ⟨rfl, rfl⟩, ?_⟩ | refine ⟨_, _, rfl, rfl, ?_⟩); conv => whnf) | (refine ⟨fun _ => ?_, fun _ => ?_⟩ <;> (conv => whnf) <;> (try (exfalso; omega))) | ((first | refine aJ ?_ | refine num_any ?_ | refine ⟨_, rfl, ?_⟩); conv => whnf) | fail)
  refine Or.inr ?_
  (conv => whnf)
  (try (conv => whnf)); repeat' (first | (refine Ok.pubB (c := Code.ret) rfl ?_; (conv => whnf); refine Ok.ret ?_; (conv => whnf)) | refine Ok.seq ?_ | refine OkL.cons ?_ | ((first | refine Ok.region tok ?_ | refine Ok.region_draw tok follows (by kernel_rfl) ?_ | refine Ok.cond ?_); conv => whnf) | refine Ok.block ?_ | ((first | refine Ok.skip ?_ | refine Ok.exit ?_ | refine Ok.ret ?_ | refine nI ?_ | refine ix _ (by assumption) ?_ | refine ixI (by omega) (by assumption) ?_ | refine ix_new _ (by omega) fun _ _ => ?_ | refine ixI_new (by omega) (by omega) fun _ _ => ?_ | refine ⟨_, by assumption, ?_⟩ | refine Alt2.l (aI ?_) | refine Alt2.r (aI ?_)); conv => whnf) | (refine Ok.scope ?_) | ((first | refine Ok.label ?_ | refine rd rfl (by assumption) ?_ | refine ⟨_, .inl ⟨rfl, rfl⟩, ?_⟩ | refine ⟨_, _, rfl, rfl, ?_⟩); conv => whnf) | (refine ⟨fun _ => ?_, fun _ => ?_⟩ <;> (conv => whnf) <;> (try (exfalso; omega))) | ((first | refine aJ ?_ | refine num_any ?_ | refine ⟨_, rfl, ?_⟩); conv => whnf) | fail)
  refine Or.inl ?_; (conv => whnf)
  exact ⟨rfl, rfl⟩
def cubX (l : List Str) : List (List D) := l.map fun x => [.agg (crow x)]
theorem one_seq (c : Str) : YSpec Tryz.prog T 126 [.ep (crow c)] (cubX [c]) := by
  refine YSpec.of_okY Tryz.func126 rfl Tryz.call126 rfl (show 2 ≤ 6 by decide) fun l => ?_
  refine OkY.yreg tok 2 0 [.agg (crow c)] rfl ?_
  (conv => whnf)
  refine ⟨rfl, rfl, rfl, ?_⟩
  (conv => whnf)
  refine ⟨?_, ?_⟩
  · (conv => whnf)
    exact ⟨.inl rfl, .inl rfl⟩
  · (conv => whnf)
    exact ⟨.inl rfl, .inr rfl⟩
def splL (m : Str) (l : List Str) : List Str := l.flatMap fun c => splitT c m
theorem splL_snoc {m : Str} {l : List Str} {i : Nat} {c : Str} (hc : l[i]? = some c) : splL m (l.take (i + 1)) = splL m (l.take i) ++ splitT c m := by
  unfold splL; rw [take_snoc hc, List.flatMap_append]; simp
theorem splL_at {m : Str} {l : List Str} {i j : Nat} {c x : Str} (hc : l[i]? = some c) (hx : (splitT c m)[j]? = some x) : (splL m l)[(splL m (l.take i)).length + j]? = some x := by
  have h1 : splL m l = (splL m (l.take i) ++ splitT c m) ++ splL m (l.drop (i + 1)) := by
    rw [← splL_snoc hc]
    unfold splL
    rw [← List.flatMap_append, List.take_append_drop]
  have hj : j < (splitT c m).length := (List.getElem?_eq_some_iff.1 hx).1
  rw [h1, List.getElem?_append_left (by rw [List.length_append]; omega), List.getElem?_append_right (by omega), Nat.add_sub_cancel_left]
  exact hx
theorem cubX_at {l : List Str} {k : Nat} {x : Str} (h : l[k]? = some x) : (cubX l)[k]? = some [.agg (crow x)] := by simp [cubX, h]
theorem splits_seq (l : List Str) (rm : List (List D)) (m : Str) (hl : ∀ c ∈ l, CN c) (hm : CT m) (hll : l.length ≤ 100000) : YSpec Tryz.prog T 127 [.ep [.lst 46 (l.map crow) rm], .ep (crow m)] (cubX (splL m l)) := by
  have hlm : (l.map crow).length = l.length := by simp
  refine YSpec.of_okY Tryz.func127 rfl Tryz.call127 rfl (show 3 ≤ 28 by decide) fun y => ?_
  refine OkY.seq (OkY.piece ?_)
  (try (conv => whnf)); repeat' (first | refine Ok.seq ?_ | refine OkL.cons ?_ | ((first | refine Ok.region tok ?_ | refine Ok.region_draw tok follows (by kernel_rfl) ?_ | refine Ok.cond ?_); conv => whnf) | refine Ok.block ?_ | ((first | refine Ok.skip ?_ | refine Ok.exit ?_ | refine Ok.ret ?_ | refine nI ?_ | refine ix _ (by assumption) ?_ | refine ixI (by omega) (by assumption) ?_ | refine ix_new _ (by omega) fun _ _ => ?_ | refine ixI_new (by omega) (by omega) fun _ _ => ?_ | refine ⟨_, by assumption, ?_⟩ | refine Alt2.l (aI ?_) | refine Alt2.r (aI ?_)); conv => whnf) | (refine Ok.scope ?_) | ((first | refine Ok.label ?_ | refine rd rfl (by assumption) ?_ | refine ⟨_, .inl ⟨rfl, rfl⟩, ?_⟩ | refine ⟨_, _, rfl, rfl, ?_⟩); conv => whnf) | (refine ⟨fun _ => ?_, fun _ => ?_⟩ <;> (conv => whnf) <;> (try (exfalso; omega))) | ((first | refine aJ ?_ | refine num_any ?_ | refine ⟨_, rfl, ?_⟩); conv => whnf) | fail)
  refine OkY.block ?_
  refine OkY.loopK [0, 2, 8, 9, 10] (fun i : Nat => [(0, .yld y), (2, .ep (crow m)), (8, .lst 46 (l.map crow) rm), (9, .i .i64 (l.map crow).length), (10, .i .i64 (i : Nat))]) (fun i => some (splL m (l.take i)).length) (fun i => i ≤ l.length) (fun i => l.length - i) 0 (Nat.zero_le _) (by simp [splL]) (by
    (conv => whnf)
    rfl) ?_
  intro i hi
  refine OkY.seq (OkY.piece ?_)
  (try (conv => whnf)); repeat' (first | refine Ok.seq ?_ | refine OkL.cons ?_ | ((first | refine Ok.region tok ?_ | refine Ok.region_draw tok follows (by kernel_rfl) ?_ | refine Ok.cond ?_); conv => whnf) | refine Ok.block ?_ | ((first | refine Ok.skip ?_ | refine Ok.exit ?_ | refine Ok.ret ?_ | refine nI ?_ | refine ix _ (by assumption) ?_ | refine ixI (by omega) (by assumption) ?_ | refine ix_new _ (by omega) fun _ _ => ?_ | refine ixI_new (by omega) (by omega) fun _ _ => ?_ | refine ⟨_, by assumption, ?_⟩ | refine Alt2.l (aI ?_) | refine Alt2.r (aI ?_)); conv => whnf) | (refine Ok.scope ?_) | ((first | refine Ok.label ?_ | refine rd rfl (by assumption) ?_ | refine ⟨_, .inl ⟨rfl, rfl⟩, ?_⟩ | refine ⟨_, _, rfl, rfl, ?_⟩); conv => whnf) | (refine ⟨fun _ => ?_, fun _ => ?_⟩ <;> (conv => whnf) <;> (try (exfalso; omega))) | ((first | refine aJ ?_ | refine num_any ?_ | refine ⟨_, rfl, ?_⟩); conv => whnf) | fail)
  refine OkY.seq (OkY.cond ?_)
  (conv => whnf)
  refine ⟨fun h => ?_, fun h => ?_⟩
  · refine OkY.skip ?_
    (conv => whnf)
    have hil : i < l.length := by omega
    obtain ⟨c, hc⟩ : ∃ c, l[i]? = some c := ⟨_, List.getElem?_eq_getElem hil⟩
    have hcI : l[((i : Nat) : Int).toNat]? = some c := hc
    have hcn := hl c (List.mem_of_getElem? hc)
    have hsl := splitT_len (d := m) hcn.1.len
    have hslm : ((splitT c m).map crow).length = (splitT c m).length := by simp
    have hsn := splL_snoc (m := m) hc
    have hat := fun j x => splL_at (m := m) (j := j) (x := x) hc
    refine OkY.seq (OkY.block (OkY.ofZ (OkZ.seq ?_)))
    (try (conv => whnf)); repeat' (first | refine Ok.seq ?_ | refine OkL.cons ?_ | ((first | refine Ok.region tok ?_ | refine Ok.region_draw tok follows (by kernel_rfl) ?_ | refine Ok.cond ?_); conv => whnf) | refine Ok.block ?_ | ((first | refine Ok.skip ?_ | refine Ok.exit ?_ | refine Ok.ret ?_ | refine nI ?_ | refine ix _ (by assumption) ?_ | refine ixI (by omega) (by assumption) ?_ | refine ix_new _ (by omega) fun _ _ => ?_ | refine ixI_new (by omega) (by omega) fun _ _ => ?_ | refine ⟨_, by assumption, ?_⟩ | refine Alt2.l (aI ?_) | refine Alt2.r (aI ?_)); conv => whnf) | (refine Ok.scope ?_) | ((first | refine Ok.label ?_ | refine rd rfl (by assumption) ?_ | refine ⟨_, .inl ⟨rfl, rfl⟩, ?_⟩ | refine ⟨_, _, rfl, rfl, ?_⟩); conv => whnf) | (refine ⟨fun _ => ?_, fun _ => ?_⟩ <;> (conv => whnf) <;> (try (exfalso; omega))) | ((first | refine aJ ?_ | refine num_any ?_ | refine ⟨_, rfl, ?_⟩); conv => whnf) | fail)
    refine OkZ.seq ?_
    (try (conv => whnf)); repeat' (first | refine Ok.seq ?_ | refine OkL.cons ?_ | ((first | refine Ok.region tok ?_ | refine Ok.region_draw tok follows (by kernel_rfl) ?_ | refine Ok.cond ?_); conv => whnf) | refine Ok.block ?_ | ((first | refine Ok.skip ?_ | refine Ok.exit ?_ | refine Ok.ret ?_ | refine nI ?_ | refine ix _ (by assumption) ?_ | refine ixI (by omega) (by assumption) ?_ | refine ix_new _ (by omega) fun _ _ => ?_ | refine ixI_new (by omega) (by omega) fun _ _ => ?_ | refine ⟨_, by assumption, ?_⟩); conv => whnf) | (refine Or.inr (Or.inl ?_); (conv => whnf); (repeat (refine aI ?_; conv => whnf)); refine ⟨_, split_at c m hcn hm , ?_⟩; rintro _ _ ⟨rm2, rfl, rfl⟩ <;> (conv => whnf)) | ((first | refine Alt2.l (aI ?_) | refine Alt2.r (aI ?_)); conv => whnf) | (refine Ok.scope ?_) | ((first | refine Ok.label ?_ | refine rd rfl (by assumption) ?_ | refine ⟨_, .inl ⟨rfl, rfl⟩, ?_⟩ | refine ⟨_, _, rfl, rfl, ?_⟩); conv => whnf) | (refine ⟨fun _ => ?_, fun _ => ?_⟩ <;> (conv => whnf) <;> (try (exfalso; omega))) | ((first | refine aJ ?_ | refine num_any ?_ | refine ⟨_, rfl, ?_⟩); conv => whnf) | fail)
    refine OkZ.ofY ?_
    (conv => whnf)
    refine OkY.block ?_
    generalize hS : splitT c m = S at *
    refine OkY.loopK [0, 2, 8, 9, 10, 16, 17, 18] (fun j : Nat => [(0, .yld y), (2, .ep (crow m)), (8, .lst 46 (l.map crow) rm), (9, .i .i64 (l.map crow).length), (10, .i .i64 (i : Nat)), (16, .lst 46 (S.map crow) rm2), (17, .i .i64 (S.map crow).length), (18, .i .i64 (j : Nat))]) (fun j => some ((splL m (l.take i)).length + j)) (fun j => j ≤ S.length) (fun j => S.length - j) 0 (Nat.zero_le _) (by simp) (by
      (conv => whnf)
      rfl) ?_
    intro j hj
    refine OkY.seq (OkY.piece ?_)
    (try (conv => whnf)); repeat' (first | refine Ok.seq ?_ | refine OkL.cons ?_ | ((first | refine Ok.region tok ?_ | refine Ok.region_draw tok follows (by kernel_rfl) ?_ | refine Ok.cond ?_); conv => whnf) | refine Ok.block ?_ | ((first | refine Ok.skip ?_ | refine Ok.exit ?_ | refine Ok.ret ?_ | refine nI ?_ | refine ix _ (by assumption) ?_ | refine ixI (by omega) (by assumption) ?_ | refine ix_new _ (by omega) fun _ _ => ?_ | refine ixI_new (by omega) (by omega) fun _ _ => ?_ | refine ⟨_, by assumption, ?_⟩ | refine Alt2.l (aI ?_) | refine Alt2.r (aI ?_)); conv => whnf) | (refine Ok.scope ?_) | ((first | refine Ok.label ?_ | refine rd rfl (by assumption) ?_ | refine ⟨_, .inl ⟨rfl, rfl⟩, ?_⟩ | refine ⟨_, _, rfl, rfl, ?_⟩); conv => whnf) | (refine ⟨fun _ => ?_, fun _ => ?_⟩ <;> (conv => whnf) <;> (try (exfalso; omega))) | ((first | refine aJ ?_ | refine num_any ?_ | refine ⟨_, rfl, ?_⟩); conv => whnf) | fail)
    refine OkY.seq (OkY.cond ?_)
    (conv => whnf)
    refine ⟨fun h => ?_, fun h => ?_⟩
    · refine OkY.skip ?_
      (conv => whnf)
      have hjl : j < S.length := by omega
      obtain ⟨x, hx⟩ : ∃ x, S[j]? = some x := ⟨_, List.getElem?_eq_getElem hjl⟩
      have hxI : S[((j : Nat) : Int).toNat]? = some x := hx
      refine OkY.seq (OkY.block (OkY.ofZ (OkZ.seq ?_)))
      (try (conv => whnf)); repeat' (first | refine Ok.seq ?_ | refine OkL.cons ?_ | ((first | refine Ok.region tok ?_ | refine Ok.region_draw tok follows (by kernel_rfl) ?_ | refine Ok.cond ?_); conv => whnf) | refine Ok.block ?_ | ((first | refine Ok.skip ?_ | refine Ok.exit ?_ | refine Ok.ret ?_ | refine nI ?_ | refine ix _ (by assumption) ?_ | refine ixI (by omega) (by assumption) ?_ | refine ix_new _ (by omega) fun _ _ => ?_ | refine ixI_new (by omega) (by omega) fun _ _ => ?_ | refine ⟨_, by assumption, ?_⟩ | refine Alt2.l (aI ?_) | refine Alt2.r (aI ?_)); conv => whnf) | (refine Ok.scope ?_) | ((first | refine Ok.label ?_ | refine rd rfl (by assumption) ?_ | refine ⟨_, .inl ⟨rfl, rfl⟩, ?_⟩ | refine ⟨_, _, rfl, rfl, ?_⟩); conv => whnf) | (refine ⟨fun _ => ?_, fun _ => ?_⟩ <;> (conv => whnf) <;> (try (exfalso; omega))) | ((first | refine aJ ?_ | refine num_any ?_ | refine ⟨_, rfl, ?_⟩); conv => whnf) | fail)
      refine OkZ.seqY (OkZ.yreg tok 2 _ [.agg (crow x)] (cubX_at (hat j x hx)) ?_)
      (conv => whnf)
      refine ⟨rfl, rfl, rfl, ?_⟩
      (conv => whnf)
      refine ⟨?_, ?_⟩
      · (conv => whnf)
        refine OkY.cond ?_
        (conv => whnf)
        refine OkY.skip ?_
        (conv => whnf)
        refine OkY.piece ?_
        (try (conv => whnf)); repeat' (first | refine Ok.seq ?_ | refine OkL.cons ?_ | ((first | refine Ok.region tok ?_ | refine Ok.region_draw tok follows (by kernel_rfl) ?_ | refine Ok.cond ?_); conv => whnf) | refine Ok.block ?_ | ((first | refine Ok.skip ?_ | refine Ok.exit ?_ | refine Ok.ret ?_ | refine nI ?_ | refine ix _ (by assumption) ?_ | refine ixI (by omega) (by assumption) ?_ | refine ix_new _ (by omega) fun _ _ => ?_ | refine ixI_new (by omega) (by omega) fun _ _ => ?_ | refine ⟨_, by assumption, ?_⟩ | refine Alt2.l (aI ?_) | refine Alt2.r (aI ?_)); conv => whnf) | (refine Ok.scope ?_) | ((first | refine Ok.label ?_ | refine rd rfl (by assumption) ?_ | refine ⟨_, .inl ⟨rfl, rfl⟩, ?_⟩ | refine ⟨_, _, rfl, rfl, ?_⟩); conv => whnf) | (refine ⟨fun _ => ?_, fun _ => ?_⟩ <;> (conv => whnf) <;> (try (exfalso; omega))) | ((first | refine aJ ?_ | refine num_any ?_ | refine ⟨_, rfl, ?_⟩); conv => whnf) | fail)
        refine ⟨j + 1, by omega, by omega, by rw [Nat.add_assoc], ?_⟩
        (conv => whnf)
        rfl
      · (conv => whnf)
        refine OkY.cond ?_
        (conv => whnf)
        refine OkY.ret ?_
        (conv => whnf)
        exact ⟨.inr rfl, .inr rfl⟩
    · have hje : j = S.length := by omega
      subst hje
      refine OkY.exit ?_
      (conv => whnf)
      refine OkY.piece ?_
      (try (conv => whnf)); repeat' (first | refine Ok.seq ?_ | refine OkL.cons ?_ | ((first | refine Ok.region tok ?_ | refine Ok.region_draw tok follows (by kernel_rfl) ?_ | refine Ok.cond ?_); conv => whnf) | refine Ok.block ?_ | ((first | refine Ok.skip ?_ | refine Ok.exit ?_ | refine Ok.ret ?_ | refine nI ?_ | refine ix _ (by assumption) ?_ | refine ixI (by omega) (by assumption) ?_ | refine ix_new _ (by omega) fun _ _ => ?_ | refine ixI_new (by omega) (by omega) fun _ _ => ?_ | refine ⟨_, by assumption, ?_⟩ | refine Alt2.l (aI ?_) | refine Alt2.r (aI ?_)); conv => whnf) | (refine Ok.scope ?_) | ((first | refine Ok.label ?_ | refine rd rfl (by assumption) ?_ | refine ⟨_, .inl ⟨rfl, rfl⟩, ?_⟩ | refine ⟨_, _, rfl, rfl, ?_⟩); conv => whnf) | (refine ⟨fun _ => ?_, fun _ => ?_⟩ <;> (conv => whnf) <;> (try (exfalso; omega))) | ((first | refine aJ ?_ | refine num_any ?_ | refine ⟨_, rfl, ?_⟩); conv => whnf) | fail)
      refine ⟨i + 1, by omega, by omega, by rw [hsn, List.length_append], ?_⟩
      (conv => whnf)
      rfl
  · have hie : i = l.length := by omega
    subst hie
    refine OkY.exit ?_
    (conv => whnf)
    refine ⟨.inl rfl, .inl ?_⟩
    rw [List.take_length]
    simp [cubX]
end Go.Proofs.YtaiondckookpiaaGreatDoor
namespace Go.Proofs.YtaiondckookpiaaGreatDoor
open Go Go.Vx
theorem cubX_get {l : List Str} {k : Nat} {x : List D} (h : (cubX l)[k]? = some x) : ∃ c, l[k]? = some c ∧ x = [.agg (crow c)] := by
  simp only [cubX, List.getElem?_map, Option.map_eq_some_iff] at h
  obtain ⟨c, h1, h2⟩ := h
  exact ⟨c, h1, h2.symm⟩
theorem cubX_len (l : List Str) : (cubX l).length = l.length := by simp [cubX]
set_option maxHeartbeats 4000000 in
theorem collect_at {f : FuncId} {cap : List D} {l : List Str} (hY : YSpec Tryz.prog T f cap (cubX l)) (most : Int) (hm : (l.length : Int) ≤ most) (hl : l.length ≤ 1000000) :
    FSpec Tryz.prog T 91 [.fn f [] cap, .i .i64 most] (fun d rows => ∃ rm, d = .lst 46 (l.map crow) rm ∧ rows = []) := by
  refine FSpec.of_okG tok Tryz.func91 rfl Tryz.call91 (by simp) ?_
  refine OkG.seq (OkG.of ?_)
  (try (conv => whnf)); repeat' (first | refine Ok.seq ?_ | refine OkL.cons ?_ | ((first | refine Ok.region tok ?_ | refine Ok.region_draw tok follows (by kernel_rfl) ?_ | refine Ok.cond ?_); conv => whnf) | refine Ok.block ?_ | ((first | refine Ok.skip ?_ | refine Ok.exit ?_ | refine Ok.ret ?_ | refine nI ?_ | refine ix _ (by assumption) ?_ | refine ixI (by omega) (by assumption) ?_ | refine ix_new _ (by omega) fun _ _ => ?_ | refine ixI_new (by omega) (by omega) fun _ _ => ?_ | refine ⟨_, by assumption, ?_⟩ | refine Alt2.l (aI ?_) | refine Alt2.r (aI ?_)); conv => whnf) | (refine Ok.scope ?_) | ((first | refine Ok.label ?_ | refine rd rfl (by assumption) ?_ | refine ⟨_, .inl ⟨rfl, rfl⟩, ?_⟩ | refine ⟨_, _, rfl, rfl, ?_⟩); conv => whnf) | (refine ⟨fun _ => ?_, fun _ => ?_⟩ <;> (conv => whnf) <;> (try (exfalso; omega))) | ((first | refine aJ ?_ | refine num_any ?_ | refine ⟨_, rfl, ?_⟩); conv => whnf) | fail)
  refine OkG.seq (OkG.of ?_)
  (try (conv => whnf)); repeat' (first | refine Ok.seq ?_ | refine OkL.cons ?_ | ((first | refine Ok.region tok ?_ | refine Ok.region_draw tok follows (by kernel_rfl) ?_ | refine Ok.cond ?_); conv => whnf) | refine Ok.block ?_ | ((first | refine Ok.skip ?_ | refine Ok.exit ?_ | refine Ok.ret ?_ | refine nI ?_ | refine ix _ (by assumption) ?_ | refine ixI (by omega) (by assumption) ?_ | refine ix_new _ (by omega) fun _ _ => ?_ | refine ixI_new (by omega) (by omega) fun _ _ => ?_ | refine ⟨_, by assumption, ?_⟩ | refine Alt2.l (aI ?_) | refine Alt2.r (aI ?_)); conv => whnf) | (refine Ok.scope ?_) | ((first | refine Ok.label ?_ | refine rd rfl (by assumption) ?_ | refine ⟨_, .inl ⟨rfl, rfl⟩, ?_⟩ | refine ⟨_, _, rfl, rfl, ?_⟩); conv => whnf) | (refine ⟨fun _ => ?_, fun _ => ?_⟩ <;> (conv => whnf) <;> (try (exfalso; omega))) | ((first | refine aJ ?_ | refine num_any ?_ | refine ⟨_, rfl, ?_⟩); conv => whnf) | fail)
  refine OkG.seq (OkG.seq (OkG.of ?_))
  refine Ok.ghostB 1 0 46 rfl rfl ?_
  (conv => whnf)
  (try (conv => whnf)); repeat' (first | refine Ok.seq ?_ | refine OkL.cons ?_ | ((first | refine Ok.region tok ?_ | refine Ok.region_draw tok follows (by kernel_rfl) ?_ | refine Ok.cond ?_); conv => whnf) | refine Ok.block ?_ | ((first | refine Ok.skip ?_ | refine Ok.exit ?_ | refine Ok.ret ?_ | refine nI ?_ | refine ix _ (by assumption) ?_ | refine ixI (by omega) (by assumption) ?_ | refine ix_new _ (by omega) fun _ _ => ?_ | refine ixI_new (by omega) (by omega) fun _ _ => ?_ | refine ⟨_, by assumption, ?_⟩ | refine Alt2.l (aI ?_) | refine Alt2.r (aI ?_)); conv => whnf) | (refine Ok.scope ?_) | ((first | refine Ok.label ?_ | refine rd rfl (by assumption) ?_ | refine ⟨_, .inl ⟨rfl, rfl⟩, ?_⟩ | refine ⟨_, _, rfl, rfl, ?_⟩); conv => whnf) | (refine ⟨fun _ => ?_, fun _ => ?_⟩ <;> (conv => whnf) <;> (try (exfalso; omega))) | ((first | refine aJ ?_ | refine num_any ?_ | refine ⟨_, rfl, ?_⟩); conv => whnf) | fail)
  refine OkG.block ?_
  refine OkG.range [3, 5, 7] 1 2 (fun k => ⟨[(3, .bp 0 0), (5, .bp 1 0), (7, .fn f [] cap)], [[.i .i64 most], [.own 0 k]], [some (46, (l.take k).map crow)], 20⟩) (fun k => k ≤ l.length) (Nat.zero_le _) (by
    (conv => whnf)
    rfl) rfl hY (fun _ => rfl) (by simp) ?_ ?_
  · intro k x hx hk
    obtain ⟨c, hc, rfl⟩ := cubX_get hx
    refine ⟨rfl, ?_⟩
    (conv => whnf)
    have hkl : k < l.length := (List.getElem?_eq_some_iff.1 hc).1
    have htl : ((l.take k).map crow).length = k := by simp; omega
    have hsn : (l.take (k + 1)).map crow = (l.take k).map crow ++ [crow c] := by rw [take_snoc hc, List.map_append]; rfl
    have hkm : ¬ (k : Int) = most := by omega
    (try (conv => whnf)); repeat' (first | refine OkR.seq ?_ | refine OkL.cons ?_ | ((first | refine OkR.region tok ?_ | refine OkR.cond ?_); conv => whnf) | refine OkR.block ?_ | ((first | refine OkR.skip ?_ | refine OkR.exit ?_ | refine OkR.ret ?_ | refine nI ?_ | refine ix _ (by assumption) ?_ | refine ixI (by omega) (by assumption) ?_ | refine ix_new _ (by omega) fun _ _ => ?_ | refine ixI_new (by omega) (by omega) fun _ _ => ?_ | refine ⟨_, by assumption, ?_⟩ | refine Alt2.l (aI ?_) | refine Alt2.r (aI ?_)); conv => whnf) | (refine OkR.scope ?_) | ((first | refine OkR.label ?_ | refine rd rfl (by assumption) ?_ | refine ⟨_, .inl ⟨rfl, rfl⟩, ?_⟩ | refine ⟨_, _, rfl, rfl, ?_⟩); conv => whnf) | (refine ⟨fun _ => ?_, fun _ => ?_⟩ <;> (conv => whnf) <;> (try (exfalso; omega))) | ((first | refine aJ ?_ | refine num_any ?_ | refine ⟨_, rfl, ?_⟩); conv => whnf) | fail)
    all_goals first
      | (exfalso; omega)
      | skip
    have hln : ((l.take k).map crow ++ [crow c]).length = k + 1 := by rw [List.length_append, htl]; rfl
    rw [hsn, ← hln]
  · intro _
    rw [cubX_len, List.take_length]
    (conv => whnf)
    refine OkG.of ?_
    (try (conv => whnf)); repeat' (first | refine Ok.seq ?_ | refine OkL.cons ?_ | ((first | refine Ok.region tok ?_ | refine Ok.region_draw tok follows (by kernel_rfl) ?_ | refine Ok.cond ?_); conv => whnf) | refine Ok.block ?_ | ((first | refine Ok.skip ?_ | refine Ok.exit ?_ | refine Ok.ret ?_ | refine nI ?_ | refine ix _ (by assumption) ?_ | refine ixI (by omega) (by assumption) ?_ | refine ix_new _ (by omega) fun _ _ => ?_ | refine ixI_new (by omega) (by omega) fun _ _ => ?_ | refine ⟨_, by assumption, ?_⟩ | refine Alt2.l (aI ?_) | refine Alt2.r (aI ?_)); conv => whnf) | (refine Ok.scope ?_) | ((first | refine Ok.label ?_ | refine rd rfl (by assumption) ?_ | refine ⟨_, .inl ⟨rfl, rfl⟩, ?_⟩ | refine ⟨_, _, rfl, rfl, ?_⟩); conv => whnf) | (refine ⟨fun _ => ?_, fun _ => ?_⟩ <;> (conv => whnf) <;> (try (exfalso; omega))) | ((first | refine aJ ?_ | refine num_any ?_ | refine ⟨_, rfl, ?_⟩); conv => whnf) | fail)
    refine Or.inl ?_; (conv => whnf)
    refine ⟨[], ?_, rfl⟩
    rw [List.take_of_length_le (by simp), List.drop_of_length_le (by simp)]
    rfl
set_option maxHeartbeats 4000000 in
theorem collect_pan {f : FuncId} {cap : List D} {l : List Str} (hY : YSpec Tryz.prog T f cap (cubX l)) (most : Int) (h0 : 0 ≤ most) (hm : most < (l.length : Int)) (hl : l.length ≤ 1000000) :
    PSpec Tryz.prog T 91 [.fn f [] cap, .i .i64 most] passedV := by
  refine PSpec.of_okG Tryz.func91 rfl Tryz.call91 (by simp) ?_
  refine OkG.seq (OkG.of ?_)
  (try (conv => whnf)); repeat' (first | refine Ok.seq ?_ | refine OkL.cons ?_ | ((first | refine Ok.region tok ?_ | refine Ok.region_draw tok follows (by kernel_rfl) ?_ | refine Ok.cond ?_); conv => whnf) | refine Ok.block ?_ | ((first | refine Ok.skip ?_ | refine Ok.exit ?_ | refine Ok.ret ?_ | refine nI ?_ | refine ix _ (by assumption) ?_ | refine ixI (by omega) (by assumption) ?_ | refine ix_new _ (by omega) fun _ _ => ?_ | refine ixI_new (by omega) (by omega) fun _ _ => ?_ | refine ⟨_, by assumption, ?_⟩ | refine Alt2.l (aI ?_) | refine Alt2.r (aI ?_)); conv => whnf) | (refine Ok.scope ?_) | ((first | refine Ok.label ?_ | refine rd rfl (by assumption) ?_ | refine ⟨_, .inl ⟨rfl, rfl⟩, ?_⟩ | refine ⟨_, _, rfl, rfl, ?_⟩); conv => whnf) | (refine ⟨fun _ => ?_, fun _ => ?_⟩ <;> (conv => whnf) <;> (try (exfalso; omega))) | ((first | refine aJ ?_ | refine num_any ?_ | refine ⟨_, rfl, ?_⟩); conv => whnf) | fail)
  refine OkG.seq (OkG.of ?_)
  (try (conv => whnf)); repeat' (first | refine Ok.seq ?_ | refine OkL.cons ?_ | ((first | refine Ok.region tok ?_ | refine Ok.region_draw tok follows (by kernel_rfl) ?_ | refine Ok.cond ?_); conv => whnf) | refine Ok.block ?_ | ((first | refine Ok.skip ?_ | refine Ok.exit ?_ | refine Ok.ret ?_ | refine nI ?_ | refine ix _ (by assumption) ?_ | refine ixI (by omega) (by assumption) ?_ | refine ix_new _ (by omega) fun _ _ => ?_ | refine ixI_new (by omega) (by omega) fun _ _ => ?_ | refine ⟨_, by assumption, ?_⟩ | refine Alt2.l (aI ?_) | refine Alt2.r (aI ?_)); conv => whnf) | (refine Ok.scope ?_) | ((first | refine Ok.label ?_ | refine rd rfl (by assumption) ?_ | refine ⟨_, .inl ⟨rfl, rfl⟩, ?_⟩ | refine ⟨_, _, rfl, rfl, ?_⟩); conv => whnf) | (refine ⟨fun _ => ?_, fun _ => ?_⟩ <;> (conv => whnf) <;> (try (exfalso; omega))) | ((first | refine aJ ?_ | refine num_any ?_ | refine ⟨_, rfl, ?_⟩); conv => whnf) | fail)
  refine OkG.seq (OkG.seq (OkG.of ?_))
  refine Ok.ghostB 1 0 46 rfl rfl ?_
  (conv => whnf)
  (try (conv => whnf)); repeat' (first | refine Ok.seq ?_ | refine OkL.cons ?_ | ((first | refine Ok.region tok ?_ | refine Ok.region_draw tok follows (by kernel_rfl) ?_ | refine Ok.cond ?_); conv => whnf) | refine Ok.block ?_ | ((first | refine Ok.skip ?_ | refine Ok.exit ?_ | refine Ok.ret ?_ | refine nI ?_ | refine ix _ (by assumption) ?_ | refine ixI (by omega) (by assumption) ?_ | refine ix_new _ (by omega) fun _ _ => ?_ | refine ixI_new (by omega) (by omega) fun _ _ => ?_ | refine ⟨_, by assumption, ?_⟩ | refine Alt2.l (aI ?_) | refine Alt2.r (aI ?_)); conv => whnf) | (refine Ok.scope ?_) | ((first | refine Ok.label ?_ | refine rd rfl (by assumption) ?_ | refine ⟨_, .inl ⟨rfl, rfl⟩, ?_⟩ | refine ⟨_, _, rfl, rfl, ?_⟩); conv => whnf) | (refine ⟨fun _ => ?_, fun _ => ?_⟩ <;> (conv => whnf) <;> (try (exfalso; omega))) | ((first | refine aJ ?_ | refine num_any ?_ | refine ⟨_, rfl, ?_⟩); conv => whnf) | fail)
  refine OkG.block ?_
  refine OkG.range [3, 5, 7] 1 2 (fun k => ⟨[(3, .bp 0 0), (5, .bp 1 0), (7, .fn f [] cap)], [[.i .i64 most], [.own 0 k]], [some (46, (l.take k).map crow)], 20⟩) (fun k => (k : Int) ≤ most) h0 (by
    (conv => whnf)
    rfl) rfl hY (fun _ => rfl) (by simp) ?_ ?_
  · intro k x hx hk
    obtain ⟨c, hc, rfl⟩ := cubX_get hx
    refine ⟨rfl, ?_⟩
    (conv => whnf)
    have hkl : k < l.length := (List.getElem?_eq_some_iff.1 hc).1
    have htl : ((l.take k).map crow).length = k := by simp; omega
    have hsn : (l.take (k + 1)).map crow = (l.take k).map crow ++ [crow c] := by rw [take_snoc hc, List.map_append]; rfl
    by_cases hkm : (k : Int) = most
    · (try (conv => whnf)); repeat' (first | (refine OkR.region_throw (fun w => by kernel_rfl) (by kernel_rfl) (by decide) (by decide) ?_; (conv => whnf)) | refine OkR.seq ?_ | refine OkL.cons ?_ | ((first | refine OkR.region tok ?_ | refine OkR.cond ?_); conv => whnf) | refine OkR.block ?_ | ((first | refine OkR.skip ?_ | refine OkR.exit ?_ | refine OkR.ret ?_ | refine nI ?_ | refine ix _ (by assumption) ?_ | refine ixI (by omega) (by assumption) ?_ | refine ix_new _ (by omega) fun _ _ => ?_ | refine ixI_new (by omega) (by omega) fun _ _ => ?_ | refine ⟨_, by assumption, ?_⟩ | refine Alt2.l (aI ?_) | refine Alt2.r (aI ?_)); conv => whnf) | (refine OkR.scope ?_) | ((first | refine OkR.label ?_ | refine rd rfl (by assumption) ?_ | refine ⟨_, .inl ⟨rfl, rfl⟩, ?_⟩ | refine ⟨_, _, rfl, rfl, ?_⟩); conv => whnf) | (refine ⟨fun _ => ?_, fun _ => ?_⟩ <;> (conv => whnf) <;> (try (exfalso; omega))) | ((first | refine aJ ?_ | refine num_any ?_ | refine ⟨_, rfl, ?_⟩); conv => whnf) | fail)
      all_goals first
        | (exfalso; omega)
        | skip
      refine ⟨fun _ h => h, ?_⟩
      (conv => whnf)
      rfl
    · (try (conv => whnf)); repeat' (first | refine OkR.seq ?_ | refine OkL.cons ?_ | ((first | refine OkR.region tok ?_ | refine OkR.cond ?_); conv => whnf) | refine OkR.block ?_ | ((first | refine OkR.skip ?_ | refine OkR.exit ?_ | refine OkR.ret ?_ | refine nI ?_ | refine ix _ (by assumption) ?_ | refine ixI (by omega) (by assumption) ?_ | refine ix_new _ (by omega) fun _ _ => ?_ | refine ixI_new (by omega) (by omega) fun _ _ => ?_ | refine ⟨_, by assumption, ?_⟩ | refine Alt2.l (aI ?_) | refine Alt2.r (aI ?_)); conv => whnf) | (refine OkR.scope ?_) | ((first | refine OkR.label ?_ | refine rd rfl (by assumption) ?_ | refine ⟨_, .inl ⟨rfl, rfl⟩, ?_⟩ | refine ⟨_, _, rfl, rfl, ?_⟩); conv => whnf) | (refine ⟨fun _ => ?_, fun _ => ?_⟩ <;> (conv => whnf) <;> (try (exfalso; omega))) | ((first | refine aJ ?_ | refine num_any ?_ | refine ⟨_, rfl, ?_⟩); conv => whnf) | fail)
      all_goals first
        | (exfalso; omega)
        | skip
      have hln : ((l.take k).map crow ++ [crow c]).length = k + 1 := by rw [List.length_append, htl]; rfl
      rw [hsn, ← hln]
  · intro h
    rw [cubX_len] at h
    exfalso
    omega
end Go.Proofs.YtaiondckookpiaaGreatDoor
namespace Go.Proofs.YtaiondckookpiaaGreatDoor
open Go Go.Vx
def splX (lim : Int) : List Str → List Str → Option (List Str)
  | [], l => some l
  | m :: ms, l => if lim < ((splL m l).length : Int) then none else splX lim ms (splL m l)
def termX (lim : Int) (t : Term) : Option (List Str) := if lim < 1 then none else splX lim t.less [t.p]
def expX (limit : Int) : List Term → List Str → Option (List Str)
  | [], out => some out
  | t :: ts, out => match termX (limit - (out.length : Int)) t with
    | none => none
    | some l => expX limit ts (out ++ l)
theorem expX_cons (limit : Int) (t : Term) (ts : List Term) (out : List Str) : expX limit (t :: ts) out = match termX (limit - (out.length : Int)) t with | none => none | some l => expX limit ts (out ++ l) := rfl
theorem splX_cons (lim : Int) (m : Str) (ms l : List Str) : splX lim (m :: ms) l = if lim < ((splL m l).length : Int) then none else splX lim ms (splL m l) := rfl
def expO (n : Int) (ts : List Term) (limit : Int) : Int × List Str :=
  if n = 0 then (11, []) else if limit < 0 ∨ 2048 < limit then (1, []) else match expX limit ts [] with
    | some l => (0, l)
    | none => (3, [])
theorem expO_zero {ts : List Term} {limit : Int} {n : Int} (h : n = 0) : expO n ts limit = (11, []) := by unfold expO; rw [if_pos h]
theorem expO_arg {n : Int} {ts : List Term} {limit : Int} (h : n ≠ 0) (h2 : limit < 0 ∨ 2048 < limit) : expO n ts limit = (1, []) := by unfold expO; rw [if_neg h, if_pos h2]
theorem expO_some {n : Int} {ts : List Term} {limit : Int} {l : List Str} (h : n ≠ 0) (h2 : ¬ (limit < 0 ∨ 2048 < limit)) (h3 : expX limit ts [] = some l) : expO n ts limit = (0, l) := by unfold expO; rw [if_neg h, if_neg h2, h3]
theorem expO_none {n : Int} {ts : List Term} {limit : Int} (h : n ≠ 0) (h2 : ¬ (limit < 0 ∨ 2048 < limit)) (h3 : expX limit ts [] = none) : expO n ts limit = (3, []) := by unfold expO; rw [if_neg h, if_neg h2, h3]
def AllW (n : Nat) (l : List Str) : Prop := ∀ c ∈ l, CN c ∧ c.length = n
theorem splL_all {n : Nat} {m : Str} {l : List Str} (h : AllW n l) (hm : CT m) : AllW n (splL m l) := by
  intro x hx
  obtain ⟨c, hc, hx⟩ := List.mem_flatMap.1 hx
  obtain ⟨h1, h2⟩ := splitT_cn (h c hc).1 hm x hx
  exact ⟨h1, h2.trans (h c hc).2⟩
theorem splL_len {n : Nat} {m : Str} : ∀ {l : List Str}, AllW n l → (splL m l).length ≤ l.length * 256
  | [], _ => by simp [splL]
  | c :: l, h => by
    have h1 := splL_len (m := m) (l := l) fun x hx => h x (by simp [hx])
    have h2 := splitT_len (d := m) (h c (by simp)).1.1.len
    have : splL m (c :: l) = splitT c m ++ splL m l := by simp [splL]
    rw [this, List.length_append, List.length_cons]
    omega
def EOut (o : Int × List Str) (d : D) (rows : Vx.Rows) : Prop := rows = [] ∧ ∃ rm, d = .tup [.lst 46 (o.2.map crow) rm, .i .i64 o.1]
set_option maxRecDepth 100000 in
set_option maxHeartbeats 8000000 in
theorem expand_at {n : Int} {ts : List Term} (hf : Fine n ts) (ks : List TR) (rm : List (List D)) (h1 : ks.map TR.t = ts) (limit : Int) :
    FSpec Tryz.prog T 34 [.agg [.i .i64 n, .lst 112 (ks.map trow) rm], .i .i64 limit] (EOut (expO n ts limit)) := by
  have hl1 : ks.length = ts.length := by rw [← h1, List.length_map]
  have hm1 : (ks.map trow).length = ts.length := by simp [hl1]
  have hk1 := hf.len
  have hn0 := hf.n0
  refine FSpec.of_deferK 5 tok Tryz.func34 rfl Tryz.call34 (by simp) def_expand (zd1 := [.nilS]) (zd2 := [.i .i64 3]) rfl rfl (by simp [Value.oneCell']) (by simp [Value.oneCell']) rfl ?_
  by_cases hz : n = 0
  · rw [expO_zero hz]
    subst hz
    (try (conv => whnf)); repeat' (first | refine Ok.seq ?_ | refine OkL.cons ?_ | ((first | refine Ok.region tok ?_ | refine Ok.region_plan (id := 9) tok follows [(1, 2, []), (1, 7, [2]), (4, 7, [6, 5]), (2, 7, [])] [.q 0, .q 1, .q 3, .q 4, .q 5, .q 6, .l 2, .l 7, .q 8] (by kernel_rfl) ?_ | refine Ok.region_plan (id := 13) tok follows [(1, 2, []), (1, 7, [2]), (4, 7, [6, 5]), (2, 7, [])] [.q 0, .q 1, .q 3, .q 4, .q 5, .q 6, .l 2, .l 7, .q 8] (by kernel_rfl) ?_ | refine Ok.region_draw tok follows (by kernel_rfl) ?_ | refine Ok.cond ?_); conv => whnf) | refine Ok.block ?_ | ((first | refine Ok.skip ?_ | refine Ok.exit ?_ | refine Ok.ret ?_ | refine nI ?_ | refine ix _ (by assumption) ?_ | refine ixI (by omega) (by assumption) ?_ | refine ix_new _ (by omega) fun _ _ => ?_ | refine ixI_new (by omega) (by omega) fun _ _ => ?_ | refine ⟨_, by assumption, ?_⟩ | refine Alt2.l (aI ?_) | refine Alt2.r (aI ?_)); conv => whnf) | (refine Ok.scope ?_) | ((first | refine Ok.label ?_ | refine rd rfl (by assumption) ?_ | refine ⟨_, .inl ⟨rfl, rfl⟩, ?_⟩ | refine ⟨_, _, rfl, rfl, ?_⟩); conv => whnf) | (refine ⟨fun _ => ?_, fun _ => ?_⟩ <;> (conv => whnf) <;> (try (exfalso; omega))) | ((first | refine aJ ?_ | refine num_any ?_ | refine ⟨_, rfl, ?_⟩); conv => whnf) | fail)
    · refine Or.inl ?_; (conv => whnf)
      exact ⟨rfl, [], rfl⟩
    all_goals (exfalso; rename_i h; exact h rfl)
  by_cases harg : limit < 0 ∨ 2048 < limit
  · rw [expO_arg hz harg]
    (try (conv => whnf)); repeat' (first | refine Ok.seq ?_ | refine OkL.cons ?_ | ((first | refine Ok.region tok ?_ | refine Ok.region_plan (id := 9) tok follows [(1, 2, []), (1, 7, [2]), (4, 7, [6, 5]), (2, 7, [])] [.q 0, .q 1, .q 3, .q 4, .q 5, .q 6, .l 2, .l 7, .q 8] (by kernel_rfl) ?_ | refine Ok.region_plan (id := 13) tok follows [(1, 2, []), (1, 7, [2]), (4, 7, [6, 5]), (2, 7, [])] [.q 0, .q 1, .q 3, .q 4, .q 5, .q 6, .l 2, .l 7, .q 8] (by kernel_rfl) ?_ | refine Ok.region_draw tok follows (by kernel_rfl) ?_ | refine Ok.cond ?_); conv => whnf) | refine Ok.block ?_ | ((first | refine Ok.skip ?_ | refine Ok.exit ?_ | refine Ok.ret ?_ | refine nI ?_ | refine ix _ (by assumption) ?_ | refine ixI (by omega) (by assumption) ?_ | refine ix_new _ (by omega) fun _ _ => ?_ | refine ixI_new (by omega) (by omega) fun _ _ => ?_ | refine ⟨_, by assumption, ?_⟩ | refine Alt2.l (aI ?_) | refine Alt2.r (aI ?_)); conv => whnf) | (refine Ok.scope ?_) | ((first | refine Ok.label ?_ | refine rd rfl (by assumption) ?_ | refine ⟨_, .inl ⟨rfl, rfl⟩, ?_⟩ | refine ⟨_, _, rfl, rfl, ?_⟩); conv => whnf) | (refine ⟨fun _ => ?_, fun _ => ?_⟩ <;> (conv => whnf) <;> (try (exfalso; omega))) | ((first | refine aJ ?_ | refine num_any ?_ | refine ⟨_, rfl, ?_⟩); conv => whnf) | fail)
    all_goals first
      | (exfalso; omega)
      | (refine Or.inl ?_; (conv => whnf)
         exact ⟨rfl, [], rfl⟩)
  (try (conv => whnf)); repeat' (first | refine Ok.seq ?_ | refine OkL.cons ?_ | ((first | refine Ok.region tok ?_ | refine Ok.region_plan (id := 9) tok follows [(1, 2, []), (1, 7, [2]), (4, 7, [6, 5]), (2, 7, [])] [.q 0, .q 1, .q 3, .q 4, .q 5, .q 6, .l 2, .l 7, .q 8] (by kernel_rfl) ?_ | refine Ok.region_plan (id := 13) tok follows [(1, 2, []), (1, 7, [2]), (4, 7, [6, 5]), (2, 7, [])] [.q 0, .q 1, .q 3, .q 4, .q 5, .q 6, .l 2, .l 7, .q 8] (by kernel_rfl) ?_ | refine Ok.region_draw tok follows (by kernel_rfl) ?_ | refine Ok.cond ?_); conv => whnf) | refine Ok.block ?_ | ((first | refine Ok.skip ?_ | refine Ok.exit ?_ | refine Ok.ret ?_ | refine nI ?_ | refine ix _ (by assumption) ?_ | refine ixI (by omega) (by assumption) ?_ | refine ix_new _ (by omega) fun _ _ => ?_ | refine ixI_new (by omega) (by omega) fun _ _ => ?_ | refine ⟨_, by assumption, ?_⟩ | refine Alt2.l (aI ?_) | refine Alt2.r (aI ?_)); conv => whnf) | (refine Ok.scope ?_) | ((first | refine Ok.label ?_ | refine rd rfl (by assumption) ?_ | refine ⟨_, .inl ⟨rfl, rfl⟩, ?_⟩ | refine ⟨_, _, rfl, rfl, ?_⟩); conv => whnf) | (refine ⟨fun _ => ?_, fun _ => ?_⟩ <;> (conv => whnf) <;> (try (exfalso; omega))) | ((first | refine aJ ?_ | refine num_any ?_ | refine ⟨_, rfl, ?_⟩); conv => whnf) | fail)
  all_goals first
    | (exfalso; omega)
    | skip
  refine OkL.nil ?_
  (conv => whnf)
  refine ⟨1, 2, rfl, rfl, by decide, by decide, by decide, rfl, ?_⟩
  (try (conv => whnf)); repeat' (first | refine Ok.seq ?_ | refine OkL.cons ?_ | ((first | refine Ok.region tok ?_ | refine Ok.region_plan (id := 9) tok follows [(1, 2, []), (1, 7, [2]), (4, 7, [6, 5]), (2, 7, [])] [.q 0, .q 1, .q 3, .q 4, .q 5, .q 6, .l 2, .l 7, .q 8] (by kernel_rfl) ?_ | refine Ok.region_plan (id := 13) tok follows [(1, 2, []), (1, 7, [2]), (4, 7, [6, 5]), (2, 7, [])] [.q 0, .q 1, .q 3, .q 4, .q 5, .q 6, .l 2, .l 7, .q 8] (by kernel_rfl) ?_ | refine Ok.region_draw tok follows (by kernel_rfl) ?_ | refine Ok.cond ?_); conv => whnf) | refine Ok.block ?_ | ((first | refine Ok.skip ?_ | refine Ok.exit ?_ | refine Ok.ret ?_ | refine nI ?_ | refine ix _ (by assumption) ?_ | refine ixI (by omega) (by assumption) ?_ | refine ix_new _ (by omega) fun _ _ => ?_ | refine ixI_new (by omega) (by omega) fun _ _ => ?_ | refine ⟨_, by assumption, ?_⟩ | refine Alt2.l (aI ?_) | refine Alt2.r (aI ?_)); conv => whnf) | (refine Ok.scope ?_) | ((first | refine Ok.label ?_ | refine rd rfl (by assumption) ?_ | refine ⟨_, .inl ⟨rfl, rfl⟩, ?_⟩ | refine ⟨_, _, rfl, rfl, ?_⟩); conv => whnf) | (refine ⟨fun _ => ?_, fun _ => ?_⟩ <;> (conv => whnf) <;> (try (exfalso; omega))) | ((first | refine aJ ?_ | refine num_any ?_ | refine ⟨_, rfl, ?_⟩); conv => whnf) | fail)
  refine Ok.ghostB 1 0 46 rfl rfl ?_
  (conv => whnf)
  refine Ok.loopU [1, 4, 5, 22, 23, 57, 58] [24] 1 3 (fun (x : Nat × List Str) => [.i .i64 (x.1 : Nat)]) (fun (x : Nat × List Str) (_ : List (List D)) => [[.i .i64 n, .lst 112 (ks.map trow) rm], [.own 0 x.2.length], [.i .i64 0]]) (fun (x : Nat × List Str) (_ : Vx.Rows) => [some (46, x.2.map crow)]) (fun (x : Nat × List Str) => x.1 ≤ ts.length ∧ expX limit ts [] = expX limit (ts.drop x.1) x.2 ∧ AllW n.toNat x.2 ∧ (x.2.length : Int) ≤ limit) (fun (x : Nat × List Str) => ts.length - x.1) ((0, [])) (⟨Nat.zero_le _, by simp, fun c hc => by simp at hc, by simp; omega⟩) ?_; (conv => whnf); refine ⟨by ((conv => whnf); first | rfl | (simp [envCat, List.take_of_length_le, crow, trow, srow, drow]; done) | (simp [envCat, List.take_of_length_le, crow, trow, srow, drow]; rw [IntKind.wrap_i64]; omega)), ?_⟩
  rintro ⟨i, out⟩ ⟨hi, hex, hal, hle⟩
  dsimp only at hi hex hal hle ⊢
  have hom : (out.map crow).length = out.length := by simp
  (conv => whnf)
  by_cases hil : i < ts.length
  · obtain ⟨a, ha⟩ : ∃ a, ks[i]? = some a := ⟨_, List.getElem?_eq_getElem (by omega)⟩
    have haI : ks[((i : Nat) : Int).toNat]? = some a := ha
    have hat := tr_get h1 ha
    have hag := hf.good _ (List.mem_of_getElem? hat)
    have hlb := hf.less (List.mem_of_getElem? hat)
    have hlb2 : (a.t.less.map crow).length = a.t.less.length := by simp
    rw [drop_get hat] at hex
    rw [expX_cons] at hex
    have hone := one_at a.t.p
    by_cases hlim : limit - (out.length : Int) < 1
    · rw [show termX (limit - (out.length : Int)) a.t = none by unfold termX; rw [if_pos hlim]] at hex
      rw [expO_none hz harg hex]
      (try (conv => whnf)); repeat' (first | refine Ok.seq ?_ | refine OkL.cons ?_ | ((first | refine Ok.region tok ?_ | refine Ok.cond ?_); conv => whnf) | refine Ok.block ?_ | ((first | refine Ok.skip ?_ | refine Ok.exit ?_ | refine Ok.ret ?_ | refine nI ?_ | refine ix _ (by assumption) ?_ | refine ixI (by omega) (by assumption) ?_ | refine ix_new _ (by omega) fun _ _ => ?_ | refine ixI_new (by omega) (by omega) fun _ _ => ?_ | refine ⟨_, by assumption, ?_⟩ | refine Alt2.l (aI ?_) | refine Alt2.r (aI ?_)); conv => whnf) | (refine Ok.scope ?_) | ((first | refine Ok.label ?_ | refine rd rfl (by assumption) ?_ | refine ⟨_, .inl ⟨rfl, rfl⟩, ?_⟩ | refine ⟨_, _, rfl, rfl, ?_⟩); conv => whnf) | (refine ⟨fun _ => ?_, fun _ => ?_⟩ <;> (conv => whnf) <;> (try (exfalso; omega))) | ((first | refine aJ ?_ | refine num_any ?_ | refine ⟨_, rfl, ?_⟩); conv => whnf) | fail)
      refine Ok.region_planpanS tok follows [(1, 2, [])] [.q 0, .q 1, .q 3, .q 4, .q 5, .q 6, .l 2] 7 (by kernel_rfl) ?_; (conv => whnf)
      (try (conv => whnf)); repeat' (first | refine Ok.seq ?_ | refine OkL.cons ?_ | ((first | refine Ok.region tok ?_ | refine Ok.cond ?_); conv => whnf) | refine Ok.block ?_ | ((first | refine Ok.skip ?_ | refine Ok.exit ?_ | refine Ok.ret ?_ | refine nI ?_ | refine ix _ (by assumption) ?_ | refine ixI (by omega) (by assumption) ?_ | refine ix_new _ (by omega) fun _ _ => ?_ | refine ixI_new (by omega) (by omega) fun _ _ => ?_ | refine ⟨_, by assumption, ?_⟩); conv => whnf) | (refine Or.inr (Or.inl ?_); (conv => whnf); (repeat (refine aI ?_; conv => whnf)); refine ⟨_, hone, ?_⟩; rintro _ _ ⟨rfl, rfl⟩ <;> (conv => whnf)) | ((first | refine Alt2.l (aI ?_) | refine Alt2.r (aI ?_)); conv => whnf) | (refine Ok.scope ?_) | ((first | refine Ok.label ?_ | refine rd rfl (by assumption) ?_ | refine ⟨_, .inl ⟨rfl, rfl⟩, ?_⟩ | refine ⟨_, _, rfl, rfl, ?_⟩); conv => whnf) | (refine ⟨fun _ => ?_, fun _ => ?_⟩ <;> (conv => whnf) <;> (try (exfalso; omega))) | ((first | refine aJ ?_ | refine num_any ?_ | refine ⟨_, rfl, ?_⟩); conv => whnf) | fail)
      refine ⟨_, collect_pan (one_seq a.t.p) (limit - (out.length : Int)) (by omega) (by simp; omega) (by simp), ?_⟩
      (conv => whnf)
      refine ⟨rfl, 1, 2, _, _, rfl, rfl, rfl, rfl, rfl, rfl, by decide, rfl, ?_⟩
      (conv => whnf)
      refine Or.inl ?_; (conv => whnf)
      exact ⟨rfl, _, rfl⟩
    rw [show termX (limit - (out.length : Int)) a.t = splX (limit - (out.length : Int)) a.t.less [a.t.p] by unfold termX; rw [if_neg hlim]] at hex
    (try (conv => whnf)); repeat' (first | refine Ok.seq ?_ | refine OkL.cons ?_ | ((first | refine Ok.region tok ?_ | refine Ok.region_plan (id := 9) tok follows [(1, 2, []), (1, 7, [2]), (4, 7, [6, 5]), (2, 7, [])] [.q 0, .q 1, .q 3, .q 4, .q 5, .q 6, .l 2, .l 7, .q 8] (by kernel_rfl) ?_ | refine Ok.region_plan (id := 13) tok follows [(1, 2, []), (1, 7, [2]), (4, 7, [6, 5]), (2, 7, [])] [.q 0, .q 1, .q 3, .q 4, .q 5, .q 6, .l 2, .l 7, .q 8] (by kernel_rfl) ?_ | refine Ok.region_draw tok follows (by kernel_rfl) ?_ | refine Ok.cond ?_); conv => whnf) | refine Ok.block ?_ | ((first | refine Ok.skip ?_ | refine Ok.exit ?_ | refine Ok.ret ?_ | refine nI ?_ | refine ix _ (by assumption) ?_ | refine ixI (by omega) (by assumption) ?_ | refine ix_new _ (by omega) fun _ _ => ?_ | refine ixI_new (by omega) (by omega) fun _ _ => ?_ | refine ⟨_, by assumption, ?_⟩); conv => whnf) | (refine Or.inr (Or.inl ?_); (conv => whnf); (repeat (refine aI ?_; conv => whnf)); refine ⟨_, hone, ?_⟩; rintro _ _ ⟨rfl, rfl⟩ <;> (conv => whnf)) | (refine Or.inr (Or.inl ?_); (conv => whnf); (repeat (refine aI ?_; conv => whnf)); refine ⟨_, collect_at (one_seq a.t.p) (limit - (out.length : Int)) (by simp; omega) (by simp) , ?_⟩; rintro _ _ ⟨rm5, rfl, rfl⟩ <;> (conv => whnf)) | ((first | refine Alt2.l (aI ?_) | refine Alt2.r (aI ?_)); conv => whnf) | (refine Ok.scope ?_) | ((first | refine Ok.label ?_ | refine rd rfl (by assumption) ?_ | refine ⟨_, .inl ⟨rfl, rfl⟩, ?_⟩ | refine ⟨_, _, rfl, rfl, ?_⟩); conv => whnf) | (refine ⟨fun _ => ?_, fun _ => ?_⟩ <;> (conv => whnf) <;> (try (exfalso; omega))) | ((first | refine aJ ?_ | refine num_any ?_ | refine ⟨_, rfl, ?_⟩); conv => whnf) | fail)
    refine Ok.loopU [1, 4, 5, 22, 23, 24, 37, 38, 57, 58] [8, 39] 1 4 (fun (x : Nat × List Str × List (List D)) => [.lst 46 (x.2.1.map crow) x.2.2, .i .i64 (x.1 : Nat)]) (fun (x : Nat × List Str × List (List D)) (_ : List (List D)) => [[.i .i64 n, .lst 112 (ks.map trow) rm], [.own 0 out.length], [.i .i64 0], trow a]) (fun (x : Nat × List Str × List (List D)) (_ : Vx.Rows) => [some (46, out.map crow)]) (fun (x : Nat × List Str × List (List D)) => x.1 ≤ a.t.less.length ∧ splX (limit - (out.length : Int)) a.t.less [a.t.p] = splX (limit - (out.length : Int)) (a.t.less.drop x.1) x.2.1 ∧ AllW n.toNat x.2.1 ∧ (x.2.1.length : Int) ≤ limit - (out.length : Int)) (fun (x : Nat × List Str × List (List D)) => a.t.less.length - x.1) ((0, [a.t.p], rm5)) (⟨Nat.zero_le _, rfl, fun c hc => by simp at hc; subst hc; exact ⟨hag.p, hag.ok.p⟩, by simp; omega⟩) ?_; (conv => whnf); refine ⟨by ((conv => whnf); first | rfl | (simp [envCat, List.take_of_length_le, crow, trow, srow, drow]; done) | (simp [envCat, List.take_of_length_le, crow, trow, srow, drow]; rw [IntKind.wrap_i64]; omega)), ?_⟩
    rintro ⟨j, l, rml⟩ ⟨hj, hsx, hla, hll⟩
    dsimp only at hj hsx hla hll ⊢
    have hlm : (l.map crow).length = l.length := by simp
    (conv => whnf)
    by_cases hjl : j < a.t.less.length
    · obtain ⟨m, hm⟩ : ∃ m, a.t.less[j]? = some m := ⟨_, List.getElem?_eq_getElem hjl⟩
      have hmI : a.t.less[((j : Nat) : Int).toNat]? = some m := hm
      have hmc := (hag.less m (List.mem_of_getElem? hm)).1
      have hsa := splL_all hla hmc
      have hsl := splL_len (m := m) hla
      have hseq := splits_seq l rml m (fun c hc => (hla c hc).1) hmc (by omega)
      have hsp := splits_at l rml m
      rw [drop_get hm, splX_cons] at hsx
      by_cases hov : limit - (out.length : Int) < ((splL m l).length : Int)
      · rw [if_pos hov] at hsx
        rw [hsx] at hex
        rw [expO_none hz harg hex]
        (try (conv => whnf)); repeat' (first | refine Ok.seq ?_ | refine OkL.cons ?_ | ((first | refine Ok.region tok ?_ | refine Ok.cond ?_); conv => whnf) | refine Ok.block ?_ | ((first | refine Ok.skip ?_ | refine Ok.exit ?_ | refine Ok.ret ?_ | refine nI ?_ | refine ix _ (by assumption) ?_ | refine ixI (by omega) (by assumption) ?_ | refine ix_new _ (by omega) fun _ _ => ?_ | refine ixI_new (by omega) (by omega) fun _ _ => ?_ | refine ⟨_, by assumption, ?_⟩ | refine Alt2.l (aI ?_) | refine Alt2.r (aI ?_)); conv => whnf) | (refine Ok.scope ?_) | ((first | refine Ok.label ?_ | refine rd rfl (by assumption) ?_ | refine ⟨_, .inl ⟨rfl, rfl⟩, ?_⟩ | refine ⟨_, _, rfl, rfl, ?_⟩); conv => whnf) | (refine ⟨fun _ => ?_, fun _ => ?_⟩ <;> (conv => whnf) <;> (try (exfalso; omega))) | ((first | refine aJ ?_ | refine num_any ?_ | refine ⟨_, rfl, ?_⟩); conv => whnf) | fail)
        refine Ok.region_planpanS tok follows [(1, 2, [])] [.q 0, .q 1, .q 3, .q 4, .q 5, .q 6, .l 2] 7 (by kernel_rfl) ?_; (conv => whnf)
        (try (conv => whnf)); repeat' (first | refine Ok.seq ?_ | refine OkL.cons ?_ | ((first | refine Ok.region tok ?_ | refine Ok.cond ?_); conv => whnf) | refine Ok.block ?_ | ((first | refine Ok.skip ?_ | refine Ok.exit ?_ | refine Ok.ret ?_ | refine nI ?_ | refine ix _ (by assumption) ?_ | refine ixI (by omega) (by assumption) ?_ | refine ix_new _ (by omega) fun _ _ => ?_ | refine ixI_new (by omega) (by omega) fun _ _ => ?_ | refine ⟨_, by assumption, ?_⟩); conv => whnf) | (refine Or.inr (Or.inl ?_); (conv => whnf); (repeat (refine aI ?_; conv => whnf)); refine ⟨_, hsp, ?_⟩; rintro _ _ ⟨rfl, rfl⟩ <;> (conv => whnf)) | ((first | refine Alt2.l (aI ?_) | refine Alt2.r (aI ?_)); conv => whnf) | (refine Ok.scope ?_) | ((first | refine Ok.label ?_ | refine rd rfl (by assumption) ?_ | refine ⟨_, .inl ⟨rfl, rfl⟩, ?_⟩ | refine ⟨_, _, rfl, rfl, ?_⟩); conv => whnf) | (refine ⟨fun _ => ?_, fun _ => ?_⟩ <;> (conv => whnf) <;> (try (exfalso; omega))) | ((first | refine aJ ?_ | refine num_any ?_ | refine ⟨_, rfl, ?_⟩); conv => whnf) | fail)
        refine ⟨_, collect_pan hseq (limit - (out.length : Int)) (by omega) hov (by omega), ?_⟩
        (conv => whnf)
        refine ⟨rfl, 1, 2, _, _, rfl, rfl, rfl, rfl, rfl, rfl, by decide, rfl, ?_⟩
        (conv => whnf)
        refine Or.inl ?_; (conv => whnf)
        exact ⟨rfl, _, rfl⟩
      · rw [if_neg hov] at hsx
        (try (conv => whnf)); repeat' (first | refine Ok.seq ?_ | refine OkL.cons ?_ | ((first | refine Ok.region tok ?_ | refine Ok.region_plan (id := 9) tok follows [(1, 2, []), (1, 7, [2]), (4, 7, [6, 5]), (2, 7, [])] [.q 0, .q 1, .q 3, .q 4, .q 5, .q 6, .l 2, .l 7, .q 8] (by kernel_rfl) ?_ | refine Ok.region_plan (id := 13) tok follows [(1, 2, []), (1, 7, [2]), (4, 7, [6, 5]), (2, 7, [])] [.q 0, .q 1, .q 3, .q 4, .q 5, .q 6, .l 2, .l 7, .q 8] (by kernel_rfl) ?_ | refine Ok.region_draw tok follows (by kernel_rfl) ?_ | refine Ok.cond ?_); conv => whnf) | refine Ok.block ?_ | ((first | refine Ok.skip ?_ | refine Ok.exit ?_ | refine Ok.ret ?_ | refine nI ?_ | refine ix _ (by assumption) ?_ | refine ixI (by omega) (by assumption) ?_ | refine ix_new _ (by omega) fun _ _ => ?_ | refine ixI_new (by omega) (by omega) fun _ _ => ?_ | refine ⟨_, by assumption, ?_⟩); conv => whnf) | (refine Or.inr (Or.inl ?_); (conv => whnf); (repeat (refine aI ?_; conv => whnf)); refine ⟨_, hsp, ?_⟩; rintro _ _ ⟨rfl, rfl⟩ <;> (conv => whnf)) | (refine Or.inr (Or.inl ?_); (conv => whnf); (repeat (refine aI ?_; conv => whnf)); refine ⟨_, collect_at hseq (limit - (out.length : Int)) (by omega) (by omega) , ?_⟩; rintro _ _ ⟨rm6, rfl, rfl⟩ <;> (conv => whnf)) | ((first | refine Alt2.l (aI ?_) | refine Alt2.r (aI ?_)); conv => whnf) | (refine Ok.scope ?_) | ((first | refine Ok.label ?_ | refine rd rfl (by assumption) ?_ | refine ⟨_, .inl ⟨rfl, rfl⟩, ?_⟩ | refine ⟨_, _, rfl, rfl, ?_⟩); conv => whnf) | (refine ⟨fun _ => ?_, fun _ => ?_⟩ <;> (conv => whnf) <;> (try (exfalso; omega))) | ((first | refine aJ ?_ | refine num_any ?_ | refine ⟨_, rfl, ?_⟩); conv => whnf) | fail)
        refine ⟨(j + 1, splL m l, rm6), by dsimp only; omega, ⟨by dsimp only; omega, hsx, hsa, by dsimp only; omega⟩, ?_⟩
        (conv => whnf)
        rfl
    · have hje : j = a.t.less.length := by omega
      subst hje
      rw [List.drop_length] at hsx
      have hsx : splX (limit - (out.length : Int)) a.t.less [a.t.p] = some l := hsx
      rw [hsx] at hex
      have hap : (out.map crow ++ l.map crow).length = out.length + l.length := by simp
      (try (conv => whnf)); repeat' (first | refine Ok.seq ?_ | refine OkL.cons ?_ | ((first | refine Ok.region tok ?_ | refine Ok.region_plan (id := 9) tok follows [(1, 2, []), (1, 7, [2]), (4, 7, [6, 5]), (2, 7, [])] [.q 0, .q 1, .q 3, .q 4, .q 5, .q 6, .l 2, .l 7, .q 8] (by kernel_rfl) ?_ | refine Ok.region_plan (id := 13) tok follows [(1, 2, []), (1, 7, [2]), (4, 7, [6, 5]), (2, 7, [])] [.q 0, .q 1, .q 3, .q 4, .q 5, .q 6, .l 2, .l 7, .q 8] (by kernel_rfl) ?_ | refine Ok.region_draw tok follows (by kernel_rfl) ?_ | refine Ok.cond ?_); conv => whnf) | refine Ok.block ?_ | ((first | refine Ok.skip ?_ | refine Ok.exit ?_ | refine Ok.ret ?_ | refine nI ?_ | refine ix _ (by assumption) ?_ | refine ixI (by omega) (by assumption) ?_ | refine ix_new _ (by omega) fun _ _ => ?_ | refine ixI_new (by omega) (by omega) fun _ _ => ?_ | refine ⟨_, by assumption, ?_⟩ | refine Alt2.l (aI ?_) | refine Alt2.r (aI ?_)); conv => whnf) | (refine Ok.scope ?_) | ((first | refine Ok.label ?_ | refine rd rfl (by assumption) ?_ | refine ⟨_, .inl ⟨rfl, rfl⟩, ?_⟩ | refine ⟨_, _, rfl, rfl, ?_⟩); conv => whnf) | (refine ⟨fun _ => ?_, fun _ => ?_⟩ <;> (conv => whnf) <;> (try (exfalso; omega))) | ((first | refine aJ ?_ | refine num_any ?_ | refine ⟨_, rfl, ?_⟩); conv => whnf) | fail)
      refine ⟨(i + 1, out ++ l), by dsimp only; omega, ⟨by dsimp only; omega, hex, fun c hc => (List.mem_append.1 hc).elim (hal c) (hla c), by dsimp only; rw [List.length_append]; omega⟩, ?_⟩
      (conv => whnf)
      simp [envCat]
  · have hie : i = ts.length := by omega
    subst hie
    rw [List.drop_length] at hex
    have hex : expX limit ts [] = some out := hex
    rw [expO_some hz harg hex]
    (try (conv => whnf)); repeat' (first | refine Ok.seq ?_ | refine OkL.cons ?_ | ((first | refine Ok.region tok ?_ | refine Ok.region_plan (id := 9) tok follows [(1, 2, []), (1, 7, [2]), (4, 7, [6, 5]), (2, 7, [])] [.q 0, .q 1, .q 3, .q 4, .q 5, .q 6, .l 2, .l 7, .q 8] (by kernel_rfl) ?_ | refine Ok.region_plan (id := 13) tok follows [(1, 2, []), (1, 7, [2]), (4, 7, [6, 5]), (2, 7, [])] [.q 0, .q 1, .q 3, .q 4, .q 5, .q 6, .l 2, .l 7, .q 8] (by kernel_rfl) ?_ | refine Ok.region_draw tok follows (by kernel_rfl) ?_ | refine Ok.cond ?_); conv => whnf) | refine Ok.block ?_ | ((first | refine Ok.skip ?_ | refine Ok.exit ?_ | refine Ok.ret ?_ | refine nI ?_ | refine ix _ (by assumption) ?_ | refine ixI (by omega) (by assumption) ?_ | refine ix_new _ (by omega) fun _ _ => ?_ | refine ixI_new (by omega) (by omega) fun _ _ => ?_ | refine ⟨_, by assumption, ?_⟩ | refine Alt2.l (aI ?_) | refine Alt2.r (aI ?_)); conv => whnf) | (refine Ok.scope ?_) | ((first | refine Ok.label ?_ | refine rd rfl (by assumption) ?_ | refine ⟨_, .inl ⟨rfl, rfl⟩, ?_⟩ | refine ⟨_, _, rfl, rfl, ?_⟩); conv => whnf) | (refine ⟨fun _ => ?_, fun _ => ?_⟩ <;> (conv => whnf) <;> (try (exfalso; omega))) | ((first | refine aJ ?_ | refine num_any ?_ | refine ⟨_, rfl, ?_⟩); conv => whnf) | fail)
    refine Or.inl ?_; (conv => whnf)
    refine ⟨rfl, [], ?_⟩
    rw [List.take_of_length_le (by simp), List.drop_of_length_le (by simp)]
    rfl
end Go.Proofs.YtaiondckookpiaaGreatDoor
namespace Go.Proofs.YtaiondckookpiaaGreatDoor
open Go Go.Vx
def ROut (o : Int × List Str) (d : D) (rows : Vx.Rows) : Prop := rows = [] ∧ ∃ rm, d = .tup [.lst 9 (o.2.map srow) rm, .i .i64 o.1]
set_option maxRecDepth 100000 in
set_option maxHeartbeats 8000000 in
theorem rexpand_at {n : Int} {ts : List Term} (hf : Fine n ts) (ks : List TR) (rm : List (List D)) (h1 : ks.map TR.t = ts) (limit : Int) :
    FSpec Tryz.prog T 32 [.agg [.i .i64 n, .lst 120 (ks.map drow) rm], .i .i64 limit] (ROut (expO n ts limit)) := by
  have hl1 : ks.length = ts.length := by rw [← h1, List.length_map]
  have hm1 : (ks.map drow).length = ts.length := by simp [hl1]
  have hk1 := hf.len
  have hn0 := hf.n0
  refine FSpec.of_ok tok Tryz.func32 rfl Tryz.call32 (by simp) ?_
  by_cases hz : n = 0
  · rw [expO_zero hz]
    subst hz
    (try (conv => whnf)); repeat' (first | refine Ok.seq ?_ | refine OkL.cons ?_ | ((first | refine Ok.region tok ?_ | refine Ok.region_plan (id := 19) tok follows [(4, 14, []), (6, 14, [13, 12, 10, 9, 8]), (10, 14, [13, 12]), (13, 14, []), (4, 15, [14]), (6, 15, [14, 13, 12, 10, 9, 8]), (10, 15, [14, 13, 12]), (13, 15, [14]), (14, 15, [])] [.q 0, .q 1, .q 2, .q 3, .q 4, .q 5, .q 6, .q 7, .q 8, .q 9, .q 10, .q 11, .q 12, .q 13, .l 14, .l 15, .q 16] (by kernel_rfl) ?_ | refine Ok.region_draw tok follows (by kernel_rfl) ?_ | refine Ok.cond ?_); conv => whnf) | refine Ok.block ?_ | ((first | refine Ok.skip ?_ | refine Ok.exit ?_ | refine Ok.ret ?_ | refine nI ?_ | refine ix _ (by assumption) ?_ | refine ixI (by omega) (by assumption) ?_ | refine ix_new _ (by omega) fun _ _ => ?_ | refine ixI_new (by omega) (by omega) fun _ _ => ?_ | refine ⟨_, by assumption, ?_⟩ | refine Alt2.l (aI ?_) | refine Alt2.r (aI ?_)); conv => whnf) | (refine Ok.scope ?_) | ((first | refine Ok.label ?_ | refine rd rfl (by assumption) ?_ | refine ⟨_, .inl ⟨rfl, rfl⟩, ?_⟩ | refine ⟨_, _, rfl, rfl, ?_⟩); conv => whnf) | (refine ⟨fun _ => ?_, fun _ => ?_⟩ <;> (conv => whnf) <;> (try (exfalso; omega))) | ((first | refine aJ ?_ | refine num_any ?_ | refine ⟨_, rfl, ?_⟩); conv => whnf) | fail)
    · refine Or.inl ?_; (conv => whnf)
      exact ⟨rfl, [], rfl⟩
    all_goals (exfalso; rename_i h; exact h rfl)
  by_cases harg : limit < 0 ∨ 2048 < limit
  · rw [expO_arg hz harg]
    (try (conv => whnf)); repeat' (first | refine Ok.seq ?_ | refine OkL.cons ?_ | ((first | refine Ok.region tok ?_ | refine Ok.region_plan (id := 19) tok follows [(4, 14, []), (6, 14, [13, 12, 10, 9, 8]), (10, 14, [13, 12]), (13, 14, []), (4, 15, [14]), (6, 15, [14, 13, 12, 10, 9, 8]), (10, 15, [14, 13, 12]), (13, 15, [14]), (14, 15, [])] [.q 0, .q 1, .q 2, .q 3, .q 4, .q 5, .q 6, .q 7, .q 8, .q 9, .q 10, .q 11, .q 12, .q 13, .l 14, .l 15, .q 16] (by kernel_rfl) ?_ | refine Ok.region_draw tok follows (by kernel_rfl) ?_ | refine Ok.cond ?_); conv => whnf) | refine Ok.block ?_ | ((first | refine Ok.skip ?_ | refine Ok.exit ?_ | refine Ok.ret ?_ | refine nI ?_ | refine ix _ (by assumption) ?_ | refine ixI (by omega) (by assumption) ?_ | refine ix_new _ (by omega) fun _ _ => ?_ | refine ixI_new (by omega) (by omega) fun _ _ => ?_ | refine ⟨_, by assumption, ?_⟩ | refine Alt2.l (aI ?_) | refine Alt2.r (aI ?_)); conv => whnf) | (refine Ok.scope ?_) | ((first | refine Ok.label ?_ | refine rd rfl (by assumption) ?_ | refine ⟨_, .inl ⟨rfl, rfl⟩, ?_⟩ | refine ⟨_, _, rfl, rfl, ?_⟩); conv => whnf) | (refine ⟨fun _ => ?_, fun _ => ?_⟩ <;> (conv => whnf) <;> (try (exfalso; omega))) | ((first | refine aJ ?_ | refine num_any ?_ | refine ⟨_, rfl, ?_⟩); conv => whnf) | fail)
    all_goals first
      | (exfalso; omega)
      | (refine Or.inl ?_; (conv => whnf)
         exact ⟨rfl, [], rfl⟩)
  (try (conv => whnf)); repeat' (first | refine Ok.seq ?_ | refine OkL.cons ?_ | ((first | refine Ok.region tok ?_ | refine Ok.region_plan (id := 19) tok follows [(4, 14, []), (6, 14, [13, 12, 10, 9, 8]), (10, 14, [13, 12]), (13, 14, []), (4, 15, [14]), (6, 15, [14, 13, 12, 10, 9, 8]), (10, 15, [14, 13, 12]), (13, 15, [14]), (14, 15, [])] [.q 0, .q 1, .q 2, .q 3, .q 4, .q 5, .q 6, .q 7, .q 8, .q 9, .q 10, .q 11, .q 12, .q 13, .l 14, .l 15, .q 16] (by kernel_rfl) ?_ | refine Ok.region_draw tok follows (by kernel_rfl) ?_ | refine Ok.cond ?_); conv => whnf) | refine Ok.block ?_ | ((first | refine Ok.skip ?_ | refine Ok.exit ?_ | refine Ok.ret ?_ | refine nI ?_ | refine ix _ (by assumption) ?_ | refine ixI (by omega) (by assumption) ?_ | refine ix_new _ (by omega) fun _ _ => ?_ | refine ixI_new (by omega) (by omega) fun _ _ => ?_ | refine ⟨_, by assumption, ?_⟩ | refine Alt2.l (aI ?_) | refine Alt2.r (aI ?_)); conv => whnf) | (refine Ok.scope ?_) | ((first | refine Ok.label ?_ | refine rd rfl (by assumption) ?_ | refine ⟨_, .inl ⟨rfl, rfl⟩, ?_⟩ | refine ⟨_, _, rfl, rfl, ?_⟩); conv => whnf) | (refine ⟨fun _ => ?_, fun _ => ?_⟩ <;> (conv => whnf) <;> (try (exfalso; omega))) | ((first | refine aJ ?_ | refine num_any ?_ | refine ⟨_, rfl, ?_⟩); conv => whnf) | fail)
  all_goals first
    | (exfalso; omega)
    | skip
  refine Ok.ghost 6 9 rfl ?_
  (conv => whnf)
  refine Ok.loopU [1, 2] [6, 7] 1 1 (fun (x : Nat × List Str) => [.own 0 x.2.length, .i .i64 (x.1 : Nat)]) (fun _ b => b) (fun (x : Nat × List Str) (_ : Vx.Rows) => [some (9, x.2.map srow)]) (fun (x : Nat × List Str) => x.1 ≤ ts.length ∧ expX limit ts [] = expX limit (ts.drop x.1) x.2 ∧ AllW n.toNat x.2 ∧ (x.2.length : Int) ≤ limit) (fun (x : Nat × List Str) => ts.length - x.1) ((0, [])) (⟨Nat.zero_le _, by simp, fun c hc => by simp at hc, by simp; omega⟩) ?_; (conv => whnf); refine ⟨by ((conv => whnf); first | rfl | (simp [envCat, List.take_of_length_le, crow, trow, srow, drow]; done) | (simp [envCat, List.take_of_length_le, crow, trow, srow, drow]; rw [IntKind.wrap_i64]; omega)), ?_⟩
  rintro ⟨i, out⟩ ⟨hi, hex, hal, hle⟩
  dsimp only at hi hex hal hle ⊢
  have hom : (out.map srow).length = out.length := by simp
  (conv => whnf)
  by_cases hil : i < ts.length
  · obtain ⟨a, ha⟩ : ∃ a, ks[i]? = some a := ⟨_, List.getElem?_eq_getElem (by omega)⟩
    have haI : ks[((i : Nat) : Int).toNat]? = some a := ha
    have hat := tr_get h1 ha
    have hag := hf.good _ (List.mem_of_getElem? hat)
    have hlb := hf.less (List.mem_of_getElem? hat)
    have hlb2 : (a.t.less.map srow).length = a.t.less.length := by simp
    rw [drop_get hat, expX_cons] at hex
    by_cases hlim : limit - (out.length : Int) < 1
    · rw [show termX (limit - (out.length : Int)) a.t = none by unfold termX; rw [if_pos hlim]] at hex
      rw [expO_none hz harg hex]
      (try (conv => whnf)); repeat' (first | refine Ok.seq ?_ | refine OkL.cons ?_ | ((first | refine Ok.region tok ?_ | refine Ok.region_plan (id := 19) tok follows [(4, 14, []), (6, 14, [13, 12, 10, 9, 8]), (10, 14, [13, 12]), (13, 14, []), (4, 15, [14]), (6, 15, [14, 13, 12, 10, 9, 8]), (10, 15, [14, 13, 12]), (13, 15, [14]), (14, 15, [])] [.q 0, .q 1, .q 2, .q 3, .q 4, .q 5, .q 6, .q 7, .q 8, .q 9, .q 10, .q 11, .q 12, .q 13, .l 14, .l 15, .q 16] (by kernel_rfl) ?_ | refine Ok.region_draw tok follows (by kernel_rfl) ?_ | refine Ok.cond ?_); conv => whnf) | refine Ok.block ?_ | ((first | refine Ok.skip ?_ | refine Ok.exit ?_ | refine Ok.ret ?_ | refine nI ?_ | refine ix _ (by assumption) ?_ | refine ixI (by omega) (by assumption) ?_ | refine ix_new _ (by omega) fun _ _ => ?_ | refine ixI_new (by omega) (by omega) fun _ _ => ?_ | refine ⟨_, by assumption, ?_⟩ | refine Alt2.l (aI ?_) | refine Alt2.r (aI ?_)); conv => whnf) | (refine Ok.scope ?_) | ((first | refine Ok.label ?_ | refine rd rfl (by assumption) ?_ | refine ⟨_, .inl ⟨rfl, rfl⟩, ?_⟩ | refine ⟨_, _, rfl, rfl, ?_⟩); conv => whnf) | (refine ⟨fun _ => ?_, fun _ => ?_⟩ <;> (conv => whnf) <;> (try (exfalso; omega))) | ((first | refine aJ ?_ | refine num_any ?_ | refine ⟨_, rfl, ?_⟩); conv => whnf) | fail)
      all_goals first
        | (exfalso; omega)
        | (refine Or.inl ?_; (conv => whnf)
           exact ⟨rfl, [], rfl⟩)
    rw [show termX (limit - (out.length : Int)) a.t = splX (limit - (out.length : Int)) a.t.less [a.t.p] by unfold termX; rw [if_neg hlim]] at hex
    (try (conv => whnf)); repeat' (first | refine Ok.seq ?_ | refine OkL.cons ?_ | ((first | refine Ok.region tok ?_ | refine Ok.region_plan (id := 19) tok follows [(4, 14, []), (6, 14, [13, 12, 10, 9, 8]), (10, 14, [13, 12]), (13, 14, []), (4, 15, [14]), (6, 15, [14, 13, 12, 10, 9, 8]), (10, 15, [14, 13, 12]), (13, 15, [14]), (14, 15, [])] [.q 0, .q 1, .q 2, .q 3, .q 4, .q 5, .q 6, .q 7, .q 8, .q 9, .q 10, .q 11, .q 12, .q 13, .l 14, .l 15, .q 16] (by kernel_rfl) ?_ | refine Ok.region_draw tok follows (by kernel_rfl) ?_ | refine Ok.cond ?_); conv => whnf) | refine Ok.block ?_ | ((first | refine Ok.skip ?_ | refine Ok.exit ?_ | refine Ok.ret ?_ | refine nI ?_ | refine ix _ (by assumption) ?_ | refine ixI (by omega) (by assumption) ?_ | refine ix_new _ (by omega) fun _ _ => ?_ | refine ixI_new (by omega) (by omega) fun _ _ => ?_ | refine ⟨_, by assumption, ?_⟩ | refine Alt2.l (aI ?_) | refine Alt2.r (aI ?_)); conv => whnf) | (refine Ok.scope ?_) | ((first | refine Ok.label ?_ | refine rd rfl (by assumption) ?_ | refine ⟨_, .inl ⟨rfl, rfl⟩, ?_⟩ | refine ⟨_, _, rfl, rfl, ?_⟩); conv => whnf) | (refine ⟨fun _ => ?_, fun _ => ?_⟩ <;> (conv => whnf) <;> (try (exfalso; omega))) | ((first | refine aJ ?_ | refine num_any ?_ | refine ⟨_, rfl, ?_⟩); conv => whnf) | fail)
    refine Ok.pub 1 ?_
    (conv => whnf)
    refine Ok.loopU [1, 2, 6, 7] [8, 9] 1 1 (fun (x : Nat × List Str × List (List D)) => [.lst 9 (x.2.1.map srow) x.2.2, .i .i64 (x.1 : Nat)]) (fun _ b => b) (fun (x : Nat × List Str × List (List D)) (_ : Vx.Rows) => [some (9, out.map srow)]) (fun (x : Nat × List Str × List (List D)) => x.1 ≤ a.t.less.length ∧ splX (limit - (out.length : Int)) a.t.less [a.t.p] = splX (limit - (out.length : Int)) (a.t.less.drop x.1) x.2.1 ∧ AllW n.toNat x.2.1 ∧ (x.2.1.length : Int) ≤ limit - (out.length : Int)) (fun (x : Nat × List Str × List (List D)) => a.t.less.length - x.1) ((0, [a.t.p], [])) (⟨Nat.zero_le _, rfl, fun c hc => by simp at hc; subst hc; exact ⟨hag.p, hag.ok.p⟩, by simp; omega⟩) ?_; (conv => whnf); refine ⟨by ((conv => whnf); first | rfl | (simp [envCat, List.take_of_length_le, crow, trow, srow, drow]; done) | (simp [envCat, List.take_of_length_le, crow, trow, srow, drow]; rw [IntKind.wrap_i64]; omega)), ?_⟩
    rintro ⟨j, l, rml⟩ ⟨hj, hsx, hla, hll⟩
    dsimp only at hj hsx hla hll ⊢
    have hlm : (l.map srow).length = l.length := by simp
    (conv => whnf)
    by_cases hjl : j < a.t.less.length
    · obtain ⟨m, hm⟩ : ∃ m, a.t.less[j]? = some m := ⟨_, List.getElem?_eq_getElem hjl⟩
      have hmI : a.t.less[((j : Nat) : Int).toNat]? = some m := hm
      have hmc := (hag.less m (List.mem_of_getElem? hm)).1
      have hsa := splL_all hla hmc
      have hsl := splL_len (m := m) hla
      rw [drop_get hm, splX_cons] at hsx
      (try (conv => whnf)); repeat' (first | refine Ok.seq ?_ | refine OkL.cons ?_ | ((first | refine Ok.region tok ?_ | refine Ok.region_plan (id := 19) tok follows [(4, 14, []), (6, 14, [13, 12, 10, 9, 8]), (10, 14, [13, 12]), (13, 14, []), (4, 15, [14]), (6, 15, [14, 13, 12, 10, 9, 8]), (10, 15, [14, 13, 12]), (13, 15, [14]), (14, 15, [])] [.q 0, .q 1, .q 2, .q 3, .q 4, .q 5, .q 6, .q 7, .q 8, .q 9, .q 10, .q 11, .q 12, .q 13, .l 14, .l 15, .q 16] (by kernel_rfl) ?_ | refine Ok.region_draw tok follows (by kernel_rfl) ?_ | refine Ok.cond ?_); conv => whnf) | refine Ok.block ?_ | ((first | refine Ok.skip ?_ | refine Ok.exit ?_ | refine Ok.ret ?_ | refine nI ?_ | refine ix _ (by assumption) ?_ | refine ixI (by omega) (by assumption) ?_ | refine ix_new _ (by omega) fun _ _ => ?_ | refine ixI_new (by omega) (by omega) fun _ _ => ?_ | refine ⟨_, by assumption, ?_⟩ | refine Alt2.l (aI ?_) | refine Alt2.r (aI ?_)); conv => whnf) | (refine Ok.scope ?_) | ((first | refine Ok.label ?_ | refine rd rfl (by assumption) ?_ | refine ⟨_, .inl ⟨rfl, rfl⟩, ?_⟩ | refine ⟨_, _, rfl, rfl, ?_⟩); conv => whnf) | (refine ⟨fun _ => ?_, fun _ => ?_⟩ <;> (conv => whnf) <;> (try (exfalso; omega))) | ((first | refine aJ ?_ | refine num_any ?_ | refine ⟨_, rfl, ?_⟩); conv => whnf) | fail)
      refine Ok.ghost 10 9 rfl ?_
      (conv => whnf)
      refine Ok.loopU [1, 2, 6, 7, 8, 9] [10, 11] 2 1 (fun (k : Nat) => [.own 1 (splL m (l.take k)).length, .i .i64 (k : Nat)]) (fun _ b => b) (fun (k : Nat) (_ : Vx.Rows) => [some (9, out.map srow), some (9, (splL m (l.take k)).map srow)]) (fun (k : Nat) => k ≤ l.length) (fun (k : Nat) => l.length - k) (0) (Nat.zero_le _) ?_; (conv => whnf); refine ⟨by ((conv => whnf); first | rfl | (simp [envCat, List.take_of_length_le, crow, trow, srow, drow]; done) | (simp [envCat, List.take_of_length_le, crow, trow, srow, drow]; rw [IntKind.wrap_i64]; omega)), ?_⟩
      intro k hk
      have hqm : ((splL m (l.take k)).map srow).length = (splL m (l.take k)).length := by simp
      have hql := splL_len (m := m) (l := l.take k) (n := n.toNat) fun c hc => hla c (List.mem_of_mem_take hc)
      have hqk : (l.take k).length = k := by simp; omega
      (conv => whnf)
      by_cases hkl : k < l.length
      · obtain ⟨c, hc⟩ : ∃ c, l[k]? = some c := ⟨_, List.getElem?_eq_getElem hkl⟩
        have hcI : l[((k : Nat) : Int).toNat]? = some c := hc
        have hcw := hla c (List.mem_of_getElem? hc)
        have hsn := splL_snoc (m := m) hc
        have hcl := splitT_len (d := m) hcw.1.1.len
        have hclm : ((splitT c m).map srow).length = (splitT c m).length := by simp
        have rsp := rsplit_at c m hcw.1 hmc
        generalize splitT c m = S at *
        (try (conv => whnf)); repeat' (first | refine Ok.seq ?_ | refine OkL.cons ?_ | ((first | refine Ok.region tok ?_ | refine Ok.region_plan (id := 19) tok follows [(4, 14, []), (6, 14, [13, 12, 10, 9, 8]), (10, 14, [13, 12]), (13, 14, []), (4, 15, [14]), (6, 15, [14, 13, 12, 10, 9, 8]), (10, 15, [14, 13, 12]), (13, 15, [14]), (14, 15, [])] [.q 0, .q 1, .q 2, .q 3, .q 4, .q 5, .q 6, .q 7, .q 8, .q 9, .q 10, .q 11, .q 12, .q 13, .l 14, .l 15, .q 16] (by kernel_rfl) ?_ | refine Ok.region_draw tok follows (by kernel_rfl) ?_ | refine Ok.cond ?_); conv => whnf) | refine Ok.block ?_ | ((first | refine Ok.skip ?_ | refine Ok.exit ?_ | refine Ok.ret ?_ | refine nI ?_ | refine ix _ (by assumption) ?_ | refine ixI (by omega) (by assumption) ?_ | refine ix_new _ (by omega) fun _ _ => ?_ | refine ixI_new (by omega) (by omega) fun _ _ => ?_ | refine ⟨_, by assumption, ?_⟩); conv => whnf) | (refine Or.inr (Or.inl ?_); (conv => whnf); (repeat (refine aI ?_; conv => whnf)); refine ⟨_, rsp , ?_⟩; rintro _ _ ⟨rmq, rfl, rfl⟩ <;> (conv => whnf)) | ((first | refine Alt2.l (aI ?_) | refine Alt2.r (aI ?_)); conv => whnf) | (refine Ok.scope ?_) | ((first | refine Ok.label ?_ | refine rd rfl (by assumption) ?_ | refine ⟨_, .inl ⟨rfl, rfl⟩, ?_⟩ | refine ⟨_, _, rfl, rfl, ?_⟩); conv => whnf) | (refine ⟨fun _ => ?_, fun _ => ?_⟩ <;> (conv => whnf) <;> (try (exfalso; omega))) | ((first | refine aJ ?_ | refine num_any ?_ | refine ⟨_, rfl, ?_⟩); conv => whnf) | fail)
        refine ⟨k + 1, by omega, by omega, ?_⟩
        rw [hsn, List.map_append]
        (conv => whnf)
        simp [envCat]
      · have hke : k = l.length := by omega
        subst hke
        rw [List.take_length] at *
        refine Ok.pub 1 ?_
        (conv => whnf)
        rw [take_all, drop_all]
        by_cases hov : limit - (out.length : Int) < ((splL m l).length : Int)
        · rw [if_pos hov] at hsx
          rw [hsx] at hex
          rw [expO_none hz harg hex]
          (try (conv => whnf)); repeat' (first | refine Ok.seq ?_ | refine OkL.cons ?_ | ((first | refine Ok.region tok ?_ | refine Ok.region_plan (id := 19) tok follows [(4, 14, []), (6, 14, [13, 12, 10, 9, 8]), (10, 14, [13, 12]), (13, 14, []), (4, 15, [14]), (6, 15, [14, 13, 12, 10, 9, 8]), (10, 15, [14, 13, 12]), (13, 15, [14]), (14, 15, [])] [.q 0, .q 1, .q 2, .q 3, .q 4, .q 5, .q 6, .q 7, .q 8, .q 9, .q 10, .q 11, .q 12, .q 13, .l 14, .l 15, .q 16] (by kernel_rfl) ?_ | refine Ok.region_draw tok follows (by kernel_rfl) ?_ | refine Ok.cond ?_); conv => whnf) | refine Ok.block ?_ | ((first | refine Ok.skip ?_ | refine Ok.exit ?_ | refine Ok.ret ?_ | refine nI ?_ | refine ix _ (by assumption) ?_ | refine ixI (by omega) (by assumption) ?_ | refine ix_new _ (by omega) fun _ _ => ?_ | refine ixI_new (by omega) (by omega) fun _ _ => ?_ | refine ⟨_, by assumption, ?_⟩ | refine Alt2.l (aI ?_) | refine Alt2.r (aI ?_)); conv => whnf) | (refine Ok.scope ?_) | ((first | refine Ok.label ?_ | refine rd rfl (by assumption) ?_ | refine ⟨_, .inl ⟨rfl, rfl⟩, ?_⟩ | refine ⟨_, _, rfl, rfl, ?_⟩); conv => whnf) | (refine ⟨fun _ => ?_, fun _ => ?_⟩ <;> (conv => whnf) <;> (try (exfalso; omega))) | ((first | refine aJ ?_ | refine num_any ?_ | refine ⟨_, rfl, ?_⟩); conv => whnf) | fail)
          all_goals first
            | (exfalso; omega)
            | (refine Or.inl ?_; (conv => whnf)
               exact ⟨rfl, [], rfl⟩)
        · rw [if_neg hov] at hsx
          (try (conv => whnf)); repeat' (first | refine Ok.seq ?_ | refine OkL.cons ?_ | ((first | refine Ok.region tok ?_ | refine Ok.region_plan (id := 19) tok follows [(4, 14, []), (6, 14, [13, 12, 10, 9, 8]), (10, 14, [13, 12]), (13, 14, []), (4, 15, [14]), (6, 15, [14, 13, 12, 10, 9, 8]), (10, 15, [14, 13, 12]), (13, 15, [14]), (14, 15, [])] [.q 0, .q 1, .q 2, .q 3, .q 4, .q 5, .q 6, .q 7, .q 8, .q 9, .q 10, .q 11, .q 12, .q 13, .l 14, .l 15, .q 16] (by kernel_rfl) ?_ | refine Ok.region_draw tok follows (by kernel_rfl) ?_ | refine Ok.cond ?_); conv => whnf) | refine Ok.block ?_ | ((first | refine Ok.skip ?_ | refine Ok.exit ?_ | refine Ok.ret ?_ | refine nI ?_ | refine ix _ (by assumption) ?_ | refine ixI (by omega) (by assumption) ?_ | refine ix_new _ (by omega) fun _ _ => ?_ | refine ixI_new (by omega) (by omega) fun _ _ => ?_ | refine ⟨_, by assumption, ?_⟩ | refine Alt2.l (aI ?_) | refine Alt2.r (aI ?_)); conv => whnf) | (refine Ok.scope ?_) | ((first | refine Ok.label ?_ | refine rd rfl (by assumption) ?_ | refine ⟨_, .inl ⟨rfl, rfl⟩, ?_⟩ | refine ⟨_, _, rfl, rfl, ?_⟩); conv => whnf) | (refine ⟨fun _ => ?_, fun _ => ?_⟩ <;> (conv => whnf) <;> (try (exfalso; omega))) | ((first | refine aJ ?_ | refine num_any ?_ | refine ⟨_, rfl, ?_⟩); conv => whnf) | fail)
          all_goals first
            | (exfalso; omega)
            | skip
          refine ⟨(j + 1, splL m l, []), by dsimp only; omega, ⟨by dsimp only; omega, hsx, hsa, by dsimp only; omega⟩, ?_⟩
          (conv => whnf)
          rfl
    · have hje : j = a.t.less.length := by omega
      subst hje
      rw [List.drop_length] at hsx
      have hsx : splX (limit - (out.length : Int)) a.t.less [a.t.p] = some l := hsx
      rw [hsx] at hex
      have hap : (out.map srow ++ l.map srow).length = out.length + l.length := by simp
      (try (conv => whnf)); repeat' (first | refine Ok.seq ?_ | refine OkL.cons ?_ | ((first | refine Ok.region tok ?_ | refine Ok.region_plan (id := 19) tok follows [(4, 14, []), (6, 14, [13, 12, 10, 9, 8]), (10, 14, [13, 12]), (13, 14, []), (4, 15, [14]), (6, 15, [14, 13, 12, 10, 9, 8]), (10, 15, [14, 13, 12]), (13, 15, [14]), (14, 15, [])] [.q 0, .q 1, .q 2, .q 3, .q 4, .q 5, .q 6, .q 7, .q 8, .q 9, .q 10, .q 11, .q 12, .q 13, .l 14, .l 15, .q 16] (by kernel_rfl) ?_ | refine Ok.region_draw tok follows (by kernel_rfl) ?_ | refine Ok.cond ?_); conv => whnf) | refine Ok.block ?_ | ((first | refine Ok.skip ?_ | refine Ok.exit ?_ | refine Ok.ret ?_ | refine nI ?_ | refine ix _ (by assumption) ?_ | refine ixI (by omega) (by assumption) ?_ | refine ix_new _ (by omega) fun _ _ => ?_ | refine ixI_new (by omega) (by omega) fun _ _ => ?_ | refine ⟨_, by assumption, ?_⟩ | refine Alt2.l (aI ?_) | refine Alt2.r (aI ?_)); conv => whnf) | (refine Ok.scope ?_) | ((first | refine Ok.label ?_ | refine rd rfl (by assumption) ?_ | refine ⟨_, .inl ⟨rfl, rfl⟩, ?_⟩ | refine ⟨_, _, rfl, rfl, ?_⟩); conv => whnf) | (refine ⟨fun _ => ?_, fun _ => ?_⟩ <;> (conv => whnf) <;> (try (exfalso; omega))) | ((first | refine aJ ?_ | refine num_any ?_ | refine ⟨_, rfl, ?_⟩); conv => whnf) | fail)
      refine ⟨(i + 1, out ++ l), by dsimp only; omega, ⟨by dsimp only; omega, hex, fun c hc => (List.mem_append.1 hc).elim (hal c) (hla c), by dsimp only; rw [List.length_append]; omega⟩, ?_⟩
      (conv => whnf)
      simp [envCat]
  · have hie : i = ts.length := by omega
    subst hie
    rw [List.drop_length] at hex
    have hex : expX limit ts [] = some out := hex
    rw [expO_some hz harg hex]
    (try (conv => whnf)); repeat' (first | refine Ok.seq ?_ | refine OkL.cons ?_ | ((first | refine Ok.region tok ?_ | refine Ok.region_plan (id := 19) tok follows [(4, 14, []), (6, 14, [13, 12, 10, 9, 8]), (10, 14, [13, 12]), (13, 14, []), (4, 15, [14]), (6, 15, [14, 13, 12, 10, 9, 8]), (10, 15, [14, 13, 12]), (13, 15, [14]), (14, 15, [])] [.q 0, .q 1, .q 2, .q 3, .q 4, .q 5, .q 6, .q 7, .q 8, .q 9, .q 10, .q 11, .q 12, .q 13, .l 14, .l 15, .q 16] (by kernel_rfl) ?_ | refine Ok.region_draw tok follows (by kernel_rfl) ?_ | refine Ok.cond ?_); conv => whnf) | refine Ok.block ?_ | ((first | refine Ok.skip ?_ | refine Ok.exit ?_ | refine Ok.ret ?_ | refine nI ?_ | refine ix _ (by assumption) ?_ | refine ixI (by omega) (by assumption) ?_ | refine ix_new _ (by omega) fun _ _ => ?_ | refine ixI_new (by omega) (by omega) fun _ _ => ?_ | refine ⟨_, by assumption, ?_⟩ | refine Alt2.l (aI ?_) | refine Alt2.r (aI ?_)); conv => whnf) | (refine Ok.scope ?_) | ((first | refine Ok.label ?_ | refine rd rfl (by assumption) ?_ | refine ⟨_, .inl ⟨rfl, rfl⟩, ?_⟩ | refine ⟨_, _, rfl, rfl, ?_⟩); conv => whnf) | (refine ⟨fun _ => ?_, fun _ => ?_⟩ <;> (conv => whnf) <;> (try (exfalso; omega))) | ((first | refine aJ ?_ | refine num_any ?_ | refine ⟨_, rfl, ?_⟩); conv => whnf) | fail)
    refine Or.inl ?_; (conv => whnf)
    refine ⟨rfl, [], ?_⟩
    rw [List.take_of_length_le (by simp), List.drop_of_length_le (by simp)]
    rfl
end Go.Proofs.YtaiondckookpiaaGreatDoor
namespace Go.Proofs.YtaiondckookpiaaGreatDoor
open Go Go.Vx
open Classical in
noncomputable def withO (n m : Int) (ts us : List Term) (limit : Int) : Prop × Int :=
  if fitP n m then (if limit < 0 ∨ 2048 < limit then (False, 1) else if (minusO n m ts us).1 = 0 then ((expO (minusO n m ts us).2.1 (minusO n m ts us).2.2 limit).1 = 0 ∧ (expO (minusO n m ts us).2.1 (minusO n m ts us).2.2 limit).2 = [], (expO (minusO n m ts us).2.1 (minusO n m ts us).2.2 limit).1) else (False, (minusO n m ts us).1)) else (False, 11)
theorem withO_not {n m : Int} {ts us : List Term} {limit : Int} (h : ¬ fitP n m) : withO n m ts us limit = (False, 11) := by unfold withO; rw [if_neg h]
theorem withO_arg {n m : Int} {ts us : List Term} {limit : Int} (h : fitP n m) (h2 : limit < 0 ∨ 2048 < limit) : withO n m ts us limit = (False, 1) := by unfold withO; rw [if_pos h, if_pos h2]
theorem withO_err {n m : Int} {ts us : List Term} {limit : Int} (h : fitP n m) (h2 : ¬ (limit < 0 ∨ 2048 < limit)) (h3 : (minusO n m ts us).1 ≠ 0) : withO n m ts us limit = (False, (minusO n m ts us).1) := by unfold withO; rw [if_pos h, if_neg h2, if_neg h3]
theorem withO_ok {n m : Int} {ts us : List Term} {limit : Int} (h : fitP n m) (h2 : ¬ (limit < 0 ∨ 2048 < limit)) (h3 : (minusO n m ts us).1 = 0) : withO n m ts us limit = ((expO (minusO n m ts us).2.1 (minusO n m ts us).2.2 limit).1 = 0 ∧ (expO (minusO n m ts us).2.1 (minusO n m ts us).2.2 limit).2 = [], (expO (minusO n m ts us).2.1 (minusO n m ts us).2.2 limit).1) := by unfold withO; rw [if_pos h, if_neg h2, if_pos h3]
theorem len_nil {l : List Str} : (((l.map crow).length : Nat) : Int) = 0 ↔ l = [] := by
  rw [List.length_map]
  constructor
  · intro h; exact List.eq_nil_of_length_eq_zero (by omega)
  · intro h; rw [h]; rfl
theorem len_nil2 {l : List Str} : (((l.map srow).length : Nat) : Int) = 0 ↔ l = [] := by
  rw [List.length_map]
  constructor
  · intro h; exact List.eq_nil_of_length_eq_zero (by omega)
  · intro h; rw [h]; rfl
set_option maxRecDepth 100000 in
set_option maxHeartbeats 4000000 in
theorem withinS_at {n m : Int} {ts us : List Term} (hf : Fine n ts) (hg : Fine m us) (ks ks2 : List TR) (rm rm2 : List (List D)) (h1 : ks.map TR.t = ts) (h2 : ks2.map TR.t = us) (limit : Int) :
    FSpec Tryz.prog T 41 [.agg [.i .i64 n, .lst 112 (ks.map trow) rm], .agg [.i .i64 m, .lst 112 (ks2.map trow) rm2], .i .i64 limit] (fun d rows => d = .tup [.b (withO n m ts us limit).1, .i .i64 (withO n m ts us limit).2] ∧ rows = []) := by
  have hfit := fits2_at n m
  refine FSpec.of_ok tok Tryz.func41 rfl Tryz.call41 (by simp) ?_
  by_cases hfp : fitP n m
  · by_cases harg : limit < 0 ∨ 2048 < limit
    · rw [withO_arg hfp harg]
      (try (conv => whnf)); repeat' (first | refine Ok.seq ?_ | refine OkL.cons ?_ | ((first | refine Ok.region tok ?_ | refine Ok.region_draw tok follows (by kernel_rfl) ?_ | refine Ok.cond ?_); conv => whnf) | refine Ok.block ?_ | ((first | refine Ok.skip ?_ | refine Ok.exit ?_ | refine Ok.ret ?_ | refine nI ?_ | refine ix _ (by assumption) ?_ | refine ixI (by omega) (by assumption) ?_ | refine ix_new _ (by omega) fun _ _ => ?_ | refine ixI_new (by omega) (by omega) fun _ _ => ?_ | refine ⟨_, by assumption, ?_⟩); conv => whnf) | (refine Or.inl ?_; (conv => whnf); (repeat (refine aI ?_; conv => whnf)); refine ⟨_, hfit, rfl, ?_⟩; conv => whnf) | (refine ⟨_, hfit, rfl, ?_⟩; conv => whnf) | (refine Or.inr (Or.inl ?_); (conv => whnf); (repeat (refine aI ?_; conv => whnf)); refine ⟨_, hfit, ?_⟩; rintro _ _ ⟨rfl, rfl⟩; conv => whnf) | ((first | refine Alt2.l (aI ?_) | refine Alt2.r (aI ?_)); conv => whnf) | (refine Ok.scope ?_) | ((first | refine Ok.label ?_ | refine rd rfl (by assumption) ?_ | refine ⟨_, .inl ⟨rfl, rfl⟩, ?_⟩ | refine ⟨_, _, rfl, rfl, ?_⟩); conv => whnf) | (refine ⟨fun _ => ?_, fun _ => ?_⟩ <;> (conv => whnf) <;> (try (exfalso; omega))) | ((first | refine aJ ?_ | refine num_any ?_ | refine ⟨_, rfl, ?_⟩); conv => whnf) | fail)
      all_goals first
        | (exfalso; omega)
        | (exact absurd hfp (by assumption))
        | (refine Or.inl ?_; (conv => whnf)
           exact ⟨rfl, rfl⟩)
    · have hj := minusO_fine hf hg
      have hmi := minus_at hf hg ks ks2 rm rm2 h1 h2
      by_cases h0 : (minusO n m ts us).1 = 0
      · rw [withO_ok hfp harg h0]
        generalize minusO n m ts us = o at *
        obtain ⟨e, n', r⟩ := o
        dsimp only at h0 hj ⊢
        subst h0
        have he := fun ks rm h1 => expand_at hj ks rm h1 limit
        generalize expO n' r limit = o2 at *
        obtain ⟨x, l⟩ := o2
        dsimp only
        have hln := len_nil (l := l)
        (try (conv => whnf)); repeat' (first | refine Ok.seq ?_ | refine OkL.cons ?_ | ((first | refine Ok.region tok ?_ | refine Ok.region_draw tok follows (by kernel_rfl) ?_ | refine Ok.cond ?_); conv => whnf) | refine Ok.block ?_ | ((first | refine Ok.skip ?_ | refine Ok.exit ?_ | refine Ok.ret ?_ | refine nI ?_ | refine ix _ (by assumption) ?_ | refine ixI (by omega) (by assumption) ?_ | refine ix_new _ (by omega) fun _ _ => ?_ | refine ixI_new (by omega) (by omega) fun _ _ => ?_ | refine ⟨_, by assumption, ?_⟩); conv => whnf) | (refine Or.inl ?_; (conv => whnf); (repeat (refine aI ?_; conv => whnf)); refine ⟨_, hfit, rfl, ?_⟩; conv => whnf) | (refine ⟨_, hfit, rfl, ?_⟩; conv => whnf) | (refine Or.inr (Or.inl ?_); (conv => whnf); (repeat (refine aI ?_; conv => whnf)); refine ⟨_, hfit, ?_⟩; rintro _ _ ⟨rfl, rfl⟩; conv => whnf) | (refine Or.inr (Or.inl ?_); (conv => whnf); (repeat (refine aI ?_; conv => whnf)); refine ⟨_, hmi , ?_⟩; rintro _ _ ⟨rfl, _, rfl, ks3, rm3, rfl, h3⟩ <;> (conv => whnf)) | (refine Or.inr (Or.inl ?_); (conv => whnf); (repeat (refine aI ?_; conv => whnf)); refine ⟨_, he ks3 rm3 h3 , ?_⟩; rintro _ _ ⟨rfl, rm4, rfl⟩ <;> (conv => whnf)) | ((first | refine Alt2.l (aI ?_) | refine Alt2.r (aI ?_)); conv => whnf) | (refine Ok.scope ?_) | ((first | refine Ok.label ?_ | refine rd rfl (by assumption) ?_ | refine ⟨_, .inl ⟨rfl, rfl⟩, ?_⟩ | refine ⟨_, _, rfl, rfl, ?_⟩); conv => whnf) | (refine ⟨fun _ => ?_, fun _ => ?_⟩ <;> (conv => whnf) <;> (try (exfalso; omega))) | ((first | refine aJ ?_ | refine num_any ?_ | refine ⟨_, rfl, ?_⟩); conv => whnf) | fail)
        all_goals first
          | (exfalso; omega)
          | (exact absurd hfp (by assumption))
          | (exact absurd rfl (by assumption))
          | skip
        all_goals
          refine Or.inl ?_; (conv => whnf)
          refine ⟨?_, rfl⟩
          show D.tup [.b _, _] = D.tup [.b _, _]
          congr 3
          first
            | (have hx : x = 0 := by assumption
               exact propext ⟨fun h => ⟨hx, hln.1 h⟩, fun h => hln.2 h.2⟩)
            | (have hx : ¬ x = 0 := by assumption
               exact propext ⟨False.elim, fun h => hx h.1⟩)
      · rw [withO_err hfp harg h0]
        generalize minusO n m ts us = o at *
        obtain ⟨e, n', r⟩ := o
        dsimp only at h0 hj ⊢
        (try (conv => whnf)); repeat' (first | refine Ok.seq ?_ | refine OkL.cons ?_ | ((first | refine Ok.region tok ?_ | refine Ok.region_draw tok follows (by kernel_rfl) ?_ | refine Ok.cond ?_); conv => whnf) | refine Ok.block ?_ | ((first | refine Ok.skip ?_ | refine Ok.exit ?_ | refine Ok.ret ?_ | refine nI ?_ | refine ix _ (by assumption) ?_ | refine ixI (by omega) (by assumption) ?_ | refine ix_new _ (by omega) fun _ _ => ?_ | refine ixI_new (by omega) (by omega) fun _ _ => ?_ | refine ⟨_, by assumption, ?_⟩); conv => whnf) | (refine Or.inl ?_; (conv => whnf); (repeat (refine aI ?_; conv => whnf)); refine ⟨_, hfit, rfl, ?_⟩; conv => whnf) | (refine ⟨_, hfit, rfl, ?_⟩; conv => whnf) | (refine Or.inr (Or.inl ?_); (conv => whnf); (repeat (refine aI ?_; conv => whnf)); refine ⟨_, hfit, ?_⟩; rintro _ _ ⟨rfl, rfl⟩; conv => whnf) | (refine Or.inr (Or.inl ?_); (conv => whnf); (repeat (refine aI ?_; conv => whnf)); refine ⟨_, hmi , ?_⟩; rintro _ _ ⟨rfl, _, rfl, ks3, rm3, rfl, h3⟩ <;> (conv => whnf)) | ((first | refine Alt2.l (aI ?_) | refine Alt2.r (aI ?_)); conv => whnf) | (refine Ok.scope ?_) | ((first | refine Ok.label ?_ | refine rd rfl (by assumption) ?_ | refine ⟨_, .inl ⟨rfl, rfl⟩, ?_⟩ | refine ⟨_, _, rfl, rfl, ?_⟩); conv => whnf) | (refine ⟨fun _ => ?_, fun _ => ?_⟩ <;> (conv => whnf) <;> (try (exfalso; omega))) | ((first | refine aJ ?_ | refine num_any ?_ | refine ⟨_, rfl, ?_⟩); conv => whnf) | fail)
        all_goals first
          | (exfalso; omega)
          | (exact absurd hfp (by assumption))
          | (refine Or.inl ?_; (conv => whnf)
             exact ⟨rfl, rfl⟩)
  · rw [withO_not hfp]
    (try (conv => whnf)); repeat' (first | refine Ok.seq ?_ | refine OkL.cons ?_ | ((first | refine Ok.region tok ?_ | refine Ok.region_draw tok follows (by kernel_rfl) ?_ | refine Ok.cond ?_); conv => whnf) | refine Ok.block ?_ | ((first | refine Ok.skip ?_ | refine Ok.exit ?_ | refine Ok.ret ?_ | refine nI ?_ | refine ix _ (by assumption) ?_ | refine ixI (by omega) (by assumption) ?_ | refine ix_new _ (by omega) fun _ _ => ?_ | refine ixI_new (by omega) (by omega) fun _ _ => ?_ | refine ⟨_, by assumption, ?_⟩); conv => whnf) | (refine Or.inl ?_; (conv => whnf); (repeat (refine aI ?_; conv => whnf)); refine ⟨_, hfit, rfl, ?_⟩; conv => whnf) | (refine ⟨_, hfit, rfl, ?_⟩; conv => whnf) | (refine Or.inr (Or.inl ?_); (conv => whnf); (repeat (refine aI ?_; conv => whnf)); refine ⟨_, hfit, ?_⟩; rintro _ _ ⟨rfl, rfl⟩; conv => whnf) | ((first | refine Alt2.l (aI ?_) | refine Alt2.r (aI ?_)); conv => whnf) | (refine Ok.scope ?_) | ((first | refine Ok.label ?_ | refine rd rfl (by assumption) ?_ | refine ⟨_, .inl ⟨rfl, rfl⟩, ?_⟩ | refine ⟨_, _, rfl, rfl, ?_⟩); conv => whnf) | (refine ⟨fun _ => ?_, fun _ => ?_⟩ <;> (conv => whnf) <;> (try (exfalso; omega))) | ((first | refine aJ ?_ | refine num_any ?_ | refine ⟨_, rfl, ?_⟩); conv => whnf) | fail)
    all_goals first
      | (exact absurd hfp (by assumption))
      | (refine Or.inl ?_; (conv => whnf)
         exact ⟨rfl, rfl⟩)
set_option maxRecDepth 100000 in
set_option maxHeartbeats 4000000 in
theorem rwithinS_at {n m : Int} {ts us : List Term} (hf : Fine n ts) (hg : Fine m us) (ks ks2 : List TR) (rm rm2 : List (List D)) (h1 : ks.map TR.t = ts) (h2 : ks2.map TR.t = us) (limit : Int) :
    FSpec Tryz.prog T 42 [.agg [.i .i64 n, .lst 120 (ks.map drow) rm], .agg [.i .i64 m, .lst 120 (ks2.map drow) rm2], .i .i64 limit] (fun d rows => d = .tup [.b (withO n m ts us limit).1, .i .i64 (withO n m ts us limit).2] ∧ rows = []) := by
  have hfit := rfit_at n m (.lst 120 (ks.map drow) rm) (.lst 120 (ks2.map drow) rm2) ⟨_, _, _, rfl⟩ ⟨_, _, _, rfl⟩
  refine FSpec.of_ok tok Tryz.func42 rfl Tryz.call42 (by simp) ?_
  by_cases hfp : fitP n m
  · by_cases harg : limit < 0 ∨ 2048 < limit
    · rw [withO_arg hfp harg]
      (try (conv => whnf)); repeat' (first | refine Ok.seq ?_ | refine OkL.cons ?_ | ((first | refine Ok.region tok ?_ | refine Ok.region_draw tok follows (by kernel_rfl) ?_ | refine Ok.cond ?_); conv => whnf) | refine Ok.block ?_ | ((first | refine Ok.skip ?_ | refine Ok.exit ?_ | refine Ok.ret ?_ | refine nI ?_ | refine ix _ (by assumption) ?_ | refine ixI (by omega) (by assumption) ?_ | refine ix_new _ (by omega) fun _ _ => ?_ | refine ixI_new (by omega) (by omega) fun _ _ => ?_ | refine ⟨_, by assumption, ?_⟩); conv => whnf) | (refine Or.inl ?_; (conv => whnf); (repeat (refine aI ?_; conv => whnf)); refine ⟨_, hfit, rfl, ?_⟩; conv => whnf) | (refine ⟨_, hfit, rfl, ?_⟩; conv => whnf) | (refine Or.inr (Or.inl ?_); (conv => whnf); (repeat (refine aI ?_; conv => whnf)); refine ⟨_, hfit, ?_⟩; rintro _ _ ⟨rfl, rfl⟩; conv => whnf) | ((first | refine Alt2.l (aI ?_) | refine Alt2.r (aI ?_)); conv => whnf) | (refine Ok.scope ?_) | ((first | refine Ok.label ?_ | refine rd rfl (by assumption) ?_ | refine ⟨_, .inl ⟨rfl, rfl⟩, ?_⟩ | refine ⟨_, _, rfl, rfl, ?_⟩); conv => whnf) | (refine ⟨fun _ => ?_, fun _ => ?_⟩ <;> (conv => whnf) <;> (try (exfalso; omega))) | ((first | refine aJ ?_ | refine num_any ?_ | refine ⟨_, rfl, ?_⟩); conv => whnf) | fail)
      all_goals first
        | (exfalso; omega)
        | (exact absurd hfp (by assumption))
        | (refine Or.inl ?_; (conv => whnf)
           exact ⟨rfl, rfl⟩)
    · have hj := minusO_fine hf hg
      have hmi := rminus_at hf hg ks ks2 rm rm2 h1 h2
      by_cases h0 : (minusO n m ts us).1 = 0
      · rw [withO_ok hfp harg h0]
        generalize minusO n m ts us = o at *
        obtain ⟨e, n', r⟩ := o
        dsimp only at h0 hj ⊢
        subst h0
        have he := fun ks rm h1 => rexpand_at hj ks rm h1 limit
        generalize expO n' r limit = o2 at *
        obtain ⟨x, l⟩ := o2
        dsimp only
        have hln := len_nil2 (l := l)
        (try (conv => whnf)); repeat' (first | refine Ok.seq ?_ | refine OkL.cons ?_ | ((first | refine Ok.region tok ?_ | refine Ok.region_draw tok follows (by kernel_rfl) ?_ | refine Ok.cond ?_); conv => whnf) | refine Ok.block ?_ | ((first | refine Ok.skip ?_ | refine Ok.exit ?_ | refine Ok.ret ?_ | refine nI ?_ | refine ix _ (by assumption) ?_ | refine ixI (by omega) (by assumption) ?_ | refine ix_new _ (by omega) fun _ _ => ?_ | refine ixI_new (by omega) (by omega) fun _ _ => ?_ | refine ⟨_, by assumption, ?_⟩); conv => whnf) | (refine Or.inl ?_; (conv => whnf); (repeat (refine aI ?_; conv => whnf)); refine ⟨_, hfit, rfl, ?_⟩; conv => whnf) | (refine ⟨_, hfit, rfl, ?_⟩; conv => whnf) | (refine Or.inr (Or.inl ?_); (conv => whnf); (repeat (refine aI ?_; conv => whnf)); refine ⟨_, hfit, ?_⟩; rintro _ _ ⟨rfl, rfl⟩; conv => whnf) | (refine Or.inr (Or.inl ?_); (conv => whnf); (repeat (refine aI ?_; conv => whnf)); refine ⟨_, hmi , ?_⟩; rintro _ _ ⟨rfl, _, rfl, ks3, rm3, rfl, h3⟩ <;> (conv => whnf)) | (refine Or.inr (Or.inl ?_); (conv => whnf); (repeat (refine aI ?_; conv => whnf)); refine ⟨_, he ks3 rm3 h3 , ?_⟩; rintro _ _ ⟨rfl, rm4, rfl⟩ <;> (conv => whnf)) | ((first | refine Alt2.l (aI ?_) | refine Alt2.r (aI ?_)); conv => whnf) | (refine Ok.scope ?_) | ((first | refine Ok.label ?_ | refine rd rfl (by assumption) ?_ | refine ⟨_, .inl ⟨rfl, rfl⟩, ?_⟩ | refine ⟨_, _, rfl, rfl, ?_⟩); conv => whnf) | (refine ⟨fun _ => ?_, fun _ => ?_⟩ <;> (conv => whnf) <;> (try (exfalso; omega))) | ((first | refine aJ ?_ | refine num_any ?_ | refine ⟨_, rfl, ?_⟩); conv => whnf) | fail)
        all_goals first
          | (exfalso; omega)
          | (exact absurd hfp (by assumption))
          | (exact absurd rfl (by assumption))
          | skip
        all_goals
          refine Or.inl ?_; (conv => whnf)
          refine ⟨?_, rfl⟩
          show D.tup [.b _, _] = D.tup [.b _, _]
          congr 3
          first
            | (have hx : x = 0 := by assumption
               exact propext ⟨fun h => ⟨hx, hln.1 h⟩, fun h => hln.2 h.2⟩)
            | (have hx : ¬ x = 0 := by assumption
               exact propext ⟨False.elim, fun h => hx h.1⟩)
      · rw [withO_err hfp harg h0]
        generalize minusO n m ts us = o at *
        obtain ⟨e, n', r⟩ := o
        dsimp only at h0 hj ⊢
        (try (conv => whnf)); repeat' (first | refine Ok.seq ?_ | refine OkL.cons ?_ | ((first | refine Ok.region tok ?_ | refine Ok.region_draw tok follows (by kernel_rfl) ?_ | refine Ok.cond ?_); conv => whnf) | refine Ok.block ?_ | ((first | refine Ok.skip ?_ | refine Ok.exit ?_ | refine Ok.ret ?_ | refine nI ?_ | refine ix _ (by assumption) ?_ | refine ixI (by omega) (by assumption) ?_ | refine ix_new _ (by omega) fun _ _ => ?_ | refine ixI_new (by omega) (by omega) fun _ _ => ?_ | refine ⟨_, by assumption, ?_⟩); conv => whnf) | (refine Or.inl ?_; (conv => whnf); (repeat (refine aI ?_; conv => whnf)); refine ⟨_, hfit, rfl, ?_⟩; conv => whnf) | (refine ⟨_, hfit, rfl, ?_⟩; conv => whnf) | (refine Or.inr (Or.inl ?_); (conv => whnf); (repeat (refine aI ?_; conv => whnf)); refine ⟨_, hfit, ?_⟩; rintro _ _ ⟨rfl, rfl⟩; conv => whnf) | (refine Or.inr (Or.inl ?_); (conv => whnf); (repeat (refine aI ?_; conv => whnf)); refine ⟨_, hmi , ?_⟩; rintro _ _ ⟨rfl, _, rfl, ks3, rm3, rfl, h3⟩ <;> (conv => whnf)) | ((first | refine Alt2.l (aI ?_) | refine Alt2.r (aI ?_)); conv => whnf) | (refine Ok.scope ?_) | ((first | refine Ok.label ?_ | refine rd rfl (by assumption) ?_ | refine ⟨_, .inl ⟨rfl, rfl⟩, ?_⟩ | refine ⟨_, _, rfl, rfl, ?_⟩); conv => whnf) | (refine ⟨fun _ => ?_, fun _ => ?_⟩ <;> (conv => whnf) <;> (try (exfalso; omega))) | ((first | refine aJ ?_ | refine num_any ?_ | refine ⟨_, rfl, ?_⟩); conv => whnf) | fail)
        all_goals first
          | (exfalso; omega)
          | (exact absurd hfp (by assumption))
          | (refine Or.inl ?_; (conv => whnf)
             exact ⟨rfl, rfl⟩)
  · rw [withO_not hfp]
    (try (conv => whnf)); repeat' (first | refine Ok.seq ?_ | refine OkL.cons ?_ | ((first | refine Ok.region tok ?_ | refine Ok.region_draw tok follows (by kernel_rfl) ?_ | refine Ok.cond ?_); conv => whnf) | refine Ok.block ?_ | ((first | refine Ok.skip ?_ | refine Ok.exit ?_ | refine Ok.ret ?_ | refine nI ?_ | refine ix _ (by assumption) ?_ | refine ixI (by omega) (by assumption) ?_ | refine ix_new _ (by omega) fun _ _ => ?_ | refine ixI_new (by omega) (by omega) fun _ _ => ?_ | refine ⟨_, by assumption, ?_⟩); conv => whnf) | (refine Or.inl ?_; (conv => whnf); (repeat (refine aI ?_; conv => whnf)); refine ⟨_, hfit, rfl, ?_⟩; conv => whnf) | (refine ⟨_, hfit, rfl, ?_⟩; conv => whnf) | (refine Or.inr (Or.inl ?_); (conv => whnf); (repeat (refine aI ?_; conv => whnf)); refine ⟨_, hfit, ?_⟩; rintro _ _ ⟨rfl, rfl⟩; conv => whnf) | ((first | refine Alt2.l (aI ?_) | refine Alt2.r (aI ?_)); conv => whnf) | (refine Ok.scope ?_) | ((first | refine Ok.label ?_ | refine rd rfl (by assumption) ?_ | refine ⟨_, .inl ⟨rfl, rfl⟩, ?_⟩ | refine ⟨_, _, rfl, rfl, ?_⟩); conv => whnf) | (refine ⟨fun _ => ?_, fun _ => ?_⟩ <;> (conv => whnf) <;> (try (exfalso; omega))) | ((first | refine aJ ?_ | refine num_any ?_ | refine ⟨_, rfl, ?_⟩); conv => whnf) | fail)
    all_goals first
      | (exact absurd hfp (by assumption))
      | (refine Or.inl ?_; (conv => whnf)
         exact ⟨rfl, rfl⟩)
set_option maxRecDepth 100000 in
set_option maxHeartbeats 4000000 in
theorem withinsLaw_at (n : Int) (a : Str) (m : Int) (b : Str) (limit : Int) : FSpec Tryz.prog T 12 [.i .i64 n, .s a, .i .i64 m, .s b, .i .i64 limit] (fun r _ => r = .b True) := by
  have hf := parO_fine n a
  have hg := parO_fine m b
  have r1 := read_at n a
  have r2 := read_at m b
  unfold ReadO at r1 r2
  generalize parO n a = o1 at *
  generalize parO m b = o2 at *
  obtain ⟨e1, n1, ts⟩ := o1
  obtain ⟨e2, n2, us⟩ := o2
  dsimp only at hf hg r1 r2
  have w1 := fun ks ks2 rm rm2 h1 h2 => withinS_at hf hg ks ks2 rm rm2 h1 h2 limit
  have w2 := fun ks ks2 rm rm2 h1 h2 => rwithinS_at hf hg ks ks2 rm rm2 h1 h2 limit
  generalize withO n1 n2 ts us limit = o3 at *
  obtain ⟨p, x⟩ := o3
  refine FSpec.of_ok tok Tryz.func12 rfl Tryz.call12 (by simp) ?_
  (try (conv => whnf)); repeat' (first | refine Ok.seq ?_ | refine OkL.cons ?_ | ((first | refine Ok.region tok ?_ | refine Ok.region_draw tok follows (by kernel_rfl) ?_ | refine Ok.cond ?_); conv => whnf) | refine Ok.block ?_ | ((first | refine Ok.skip ?_ | refine Ok.exit ?_ | refine Ok.ret ?_ | refine nI ?_ | refine ix _ (by assumption) ?_ | refine ixI (by omega) (by assumption) ?_ | refine ix_new _ (by omega) fun _ _ => ?_ | refine ixI_new (by omega) (by omega) fun _ _ => ?_ | refine ⟨_, by assumption, ?_⟩); conv => whnf) | (refine Or.inl ?_; (conv => whnf); (repeat (refine aI ?_; conv => whnf)); refine ⟨_, num_at x, rfl, ?_⟩; conv => whnf) | (refine ⟨_, num_at x, rfl, ?_⟩; conv => whnf) | (refine Or.inr (Or.inl ?_); (conv => whnf); (repeat (refine aI ?_; conv => whnf)); refine ⟨_, num_at x, ?_⟩; rintro _ _ ⟨rfl, rfl⟩; conv => whnf) | (refine Or.inr (Or.inl ?_); (conv => whnf); (repeat (refine aI ?_; conv => whnf)); refine ⟨_, r1 , ?_⟩; rintro _ _ ⟨rfl, ks1, kd1, rm1, rd1, rfl, h1, h1d⟩ <;> (conv => whnf)) | (refine Or.inr (Or.inl ?_); (conv => whnf); (repeat (refine aI ?_; conv => whnf)); refine ⟨_, r2 , ?_⟩; rintro _ _ ⟨rfl, ks2, kd2, rm2, rd2, rfl, h2, h2d⟩ <;> (conv => whnf)) | (refine Or.inr (Or.inl ?_); (conv => whnf); (repeat (refine aI ?_; conv => whnf)); refine ⟨_, w1 ks1 ks2 rm1 rm2 h1 h2, ?_⟩; rintro _ _ ⟨rfl, rfl⟩ <;> (conv => whnf)) | (refine Or.inr (Or.inl ?_); (conv => whnf); (repeat (refine aI ?_; conv => whnf)); refine ⟨_, w2 kd1 kd2 rd1 rd2 h1d h2d, ?_⟩; rintro _ _ ⟨rfl, rfl⟩ <;> (conv => whnf)) | ((first | refine Alt2.l (aI ?_) | refine Alt2.r (aI ?_)); conv => whnf) | (refine Ok.scope ?_) | ((first | refine Ok.label ?_ | refine rd rfl (by assumption) ?_ | refine ⟨_, .inl ⟨rfl, rfl⟩, ?_⟩ | refine ⟨_, _, rfl, rfl, ?_⟩); conv => whnf) | (refine ⟨fun _ => ?_, fun _ => ?_⟩ <;> (conv => whnf) <;> (try (exfalso; omega))) | ((first | refine aJ ?_ | refine num_any ?_ | refine ⟨_, rfl, ?_⟩); conv => whnf) | fail)
  all_goals first
    | exact absurd trivial (by assumption)
    | (refine Or.inl ?_; (conv => whnf)
       show D.b _ = D.b _
       simp
       done)
    | trace_state
end Go.Proofs.YtaiondckookpiaaGreatDoor
