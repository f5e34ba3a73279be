/- The walks and the plain laws that a law of spaces needs, part 6 of 7. -/
import Derived.Test.YtaiondckookpiaaGreatDoorPXE
set_option linter.unusedVariables false
set_option linter.unusedSimpArgs false
namespace Go.Proofs.YtaiondckookpiaaGreatDoor
open Go Go.Vx
set_option maxHeartbeats 8000000 in
theorem split_at (c d : Str) (hc : CN c) (hd : CT d) : FSpec Tryz.prog T 125 [.agg (crow c), .agg (crow d)] (fun r rows => ∃ rm, r = .lst 46 ((splitT c d).map crow) rm ∧ rows = []) := by
  have hcl := hc.1.len
  have hm := meet_at c d hc.1 hd
  refine FSpec.of_ok tok Tryz.func125 rfl Tryz.call125 (by simp) ?_
  by_cases hs : (meetT c d).isSome = true
  · have hl : d.length = c.length := by
      obtain ⟨m, hm⟩ := Option.isSome_iff_exists.1 hs
      rw [meetT_eq hc.2] at hm
      have := meetL_len hm
      omega
    (try (conv => whnf)); repeat' (first | ((with_reducible_and_instances (first | refine nShr (by assumption) ?_ | refine nShl1' rfl (by assumption) ?_ | refine nAnd ?_ | refine nOr ?_ | refine nXor ?_ | refine nAndNot ?_ | refine nAnd1' rfl ?_)); conv => whnf) | refine Ok.seq ?_ | refine OkL.cons ?_ | ((first | refine Ok.region tok ?_ | refine Ok.region_draw tok follows (by kernel_rfl) ?_ | refine Ok.cond ?_); conv => whnf) | refine Ok.block ?_ | ((first | refine Ok.skip ?_ | refine Ok.exit ?_ | refine Ok.ret ?_ | refine nI ?_ | refine ix _ (by assumption) ?_ | refine ixI (by omega) (by assumption) ?_ | refine ix_new _ (by omega) fun _ _ => ?_ | refine ixI_new (by omega) (by omega) fun _ _ => ?_ | refine ⟨_, by assumption, ?_⟩); conv => whnf) | (refine Or.inr (Or.inl ?_); (conv => whnf); (repeat (refine aI ?_; conv => whnf)); refine ⟨_, hm, ?_⟩; rintro _ _ ⟨rfl, rfl⟩ <;> (conv => whnf)) | ((first | refine Alt2.l (aI ?_) | refine Alt2.r (aI ?_)); conv => whnf) | (refine Ok.scope ?_) | ((first | refine Ok.label ?_ | refine rd rfl (by assumption) ?_ | refine ⟨_, .inl ⟨rfl, rfl⟩, ?_⟩ | refine ⟨_, _, rfl, rfl, ?_⟩); conv => whnf) | (refine ⟨fun _ => ?_, fun _ => ?_⟩ <;> (conv => whnf) <;> (try (exfalso; omega))) | ((first | refine aJ ?_ | refine num_any ?_ | refine ⟨_, rfl, ?_⟩); conv => whnf) | fail)
    · exact absurd hs (by assumption)
    refine Ok.ghost 7 46 rfl ?_
    (conv => whnf)
    have e0 : crow c = crow (curL c d 0) := by rw [curL_zero]
    have hll : ((List.length c : Nat) : Int) = ((List.length (curL c d 0) : Nat) : Int) := by rw [curL_zero]
    refine Ok.loopU [2, 3, 21] [7, 22] 1 3 (fun (i : Nat) => [.own 0 (pcsT c d i).length, .i .i64 (i : Nat)]) (fun (i : Nat) (_ : List (List D)) => [crow (curL c d i), crow d, crow ((meetT c d).getD [])]) (fun (i : Nat) (_ : Vx.Rows) => [some (46, (pcsT c d i).map crow)]) (fun (i : Nat) => i ≤ c.length) (fun (i : Nat) => c.length - i) (0) (Nat.zero_le _) ?_; (conv => whnf); refine ⟨by ((conv => whnf); first | rfl | (simp [envCat, List.take_of_length_le, cells9, crow]; done) | (simp [envCat, List.take_of_length_le, cells9, crow]; rw [IntKind.wrap_i64]; omega)), ?_⟩
    rintro i hi
    have hcu := curL_len hl i
    have hct := curL_ct hc.1 hd hl i
    have hpl := pcsT_len c d i
    have hpm : ((pcsT c d i).map crow).length = (pcsT c d i).length := by simp
    (conv => whnf)
    by_cases hil : i < c.length
    · obtain ⟨a, ha⟩ : ∃ a, c[i]? = some a := ⟨_, List.getElem?_eq_getElem hil⟩
      obtain ⟨b, hb⟩ : ∃ b, d[i]? = some b := ⟨_, List.getElem?_eq_getElem (by omega)⟩
      have hz := curL_at ha (show i < d.length by omega)
      have hac := hc.1.cub a (List.mem_of_getElem? ha)
      have hbc := hd.cub b (List.mem_of_getElem? hb)
      have hpc := pcT_at ha hb
      have hsu := curL_succ ha hb
      have hsm := fun h => curL_same ha hb h
      generalize hL : curL c d i = L at *
      generalize hQ : pcsT c d i = Q at *
      have s1 := at_two (car L) (one L) i (by omega)
      have s2 := at_two (car d) (one d) i (by omega)
      have s3 := at_one (one d) i (by omega)
      rw [(at_b hz).1] at s1
      rw [(at_b hb).1] at s2
      rw [(at_b hb).2] at s3
      obtain ⟨q, r, hqr, hr, hq⟩ := split64 i (by omega)
      have hrem := rem64 hqr hr
      have hquo := quo64 hqr hr (by omega)
      have hrr : ((r : Nat) : Int) = ((r : Nat) : Int) ∧ r < 64 := ⟨rfl, hr⟩
      by_cases hab : a = 120 ∧ b ≠ 120
      · obtain ⟨rfl, hb2⟩ := hab
        rw [if_pos ⟨rfl, hb2⟩] at hpc
        have hsn := pcsT_some hpc
        rw [hQ] at hsn
        rw [show ov1 120 b = b from rfl] at hsu
        rcases hbc with rfl | rfl | rfl
        · rw [show (97 : UInt8) - 48 = 49 from rfl] at hsn
          have k := put_word (f := car L) (g := car (L.set i 48)) hqr hr (car_set hz rfl)
          have k' := put_word (f := car L) (g := car (L.set i 49)) hqr hr (car_set hz rfl)
          have o := fun k => wof_ext (f := one (L.set i 48)) (g := one L) (k := k) fun j _ => one_set0 hz _
          have o' := put_word (f := one L) (g := one (L.set i 49)) hqr hr (one_set hz)
          rcases hq with rfl | rfl | rfl | rfl
          all_goals
            (try (conv => whnf)); repeat' (first | ((with_reducible_and_instances (first | refine nShr (by assumption) ?_ | refine nShl1' rfl (by assumption) ?_ | refine nAnd ?_ | refine nOr ?_ | refine nXor ?_ | refine nAndNot ?_ | refine nAnd1' rfl ?_)); conv => whnf) | refine Ok.seq ?_ | refine OkL.cons ?_ | ((first | refine Ok.region tok ?_ | refine Ok.region_draw tok follows (by kernel_rfl) ?_ | refine Ok.cond ?_); conv => whnf) | refine Ok.block ?_ | ((first | refine Ok.skip ?_ | refine Ok.exit ?_ | refine Ok.ret ?_ | refine nI ?_ | refine ix _ (by assumption) ?_ | refine ixI (by omega) (by assumption) ?_ | refine ix_new _ (by omega) fun _ _ => ?_ | refine ixI_new (by omega) (by omega) fun _ _ => ?_ | refine ⟨_, by assumption, ?_⟩); conv => whnf) | (refine Or.inr (Or.inr (Or.inr (Or.inr ?_))); (conv => whnf); refine effW.of (effK.peek (by rfl) (pk2 (.bp _ _ ( crow L) rfl (fun d hd => ints_crow _ d (List.mem_of_mem_drop hd))) (.i _ _)) (s1 ) ?_); rintro _ _ ⟨rfl, rfl⟩; (refine And.intro (by simp [gRowsP, grounds, D.ground]) ?_; conv => whnf)) | (refine Or.inr (Or.inr (Or.inr ?_)); (conv => whnf); refine effK.peek (by rfl) (pk2 (.bp _ _ ( crow L) rfl (fun d hd => ints_crow _ d (List.mem_of_mem_drop hd))) (.i _ _)) (s1 ) ?_; rintro _ _ ⟨rfl, rfl⟩; (refine And.intro (by simp [gRowsP, grounds, D.ground]) ?_; conv => whnf)) | (refine Or.inr (Or.inr (Or.inr (Or.inr ?_))); (conv => whnf); refine effW.of (effK.peek (by rfl) (pk2 (.bp _ _ ( crow d) rfl (fun d hd => ints_crow _ d (List.mem_of_mem_drop hd))) (.i _ _)) (s2 ) ?_); rintro _ _ ⟨rfl, rfl⟩; (refine And.intro (by simp [gRowsP, grounds, D.ground]) ?_; conv => whnf)) | (refine Or.inr (Or.inr (Or.inr ?_)); (conv => whnf); refine effK.peek (by rfl) (pk2 (.bp _ _ ( crow d) rfl (fun d hd => ints_crow _ d (List.mem_of_mem_drop hd))) (.i _ _)) (s2 ) ?_; rintro _ _ ⟨rfl, rfl⟩; (refine And.intro (by simp [gRowsP, grounds, D.ground]) ?_; conv => whnf)) | ((first | refine Alt2.l (aI ?_) | refine Alt2.r (aI ?_)); conv => whnf) | (refine Ok.scope ?_) | ((first | refine Ok.label ?_ | refine rd rfl (by assumption) ?_ | refine ⟨_, .inl ⟨rfl, rfl⟩, ?_⟩ | refine ⟨_, _, rfl, rfl, ?_⟩); conv => whnf) | (refine ⟨fun _ => ?_, fun _ => ?_⟩ <;> (conv => whnf) <;> (try (exfalso; omega))) | ((first | refine aJ ?_ | refine num_any ?_ | refine ⟨_, rfl, ?_⟩); conv => whnf) | fail)
            all_goals first
              | contradiction
              | skip
            refine Or.inr (Or.inr (Or.inl ?_)); (conv => whnf); refine ⟨_, _, Tryz.func101, rfl, Tryz.call101, ?_⟩; (conv => whnf)
            (try (conv => whnf)); repeat' (first | ((with_reducible_and_instances (first | refine nShr (by assumption) ?_ | refine nShl1' rfl (by assumption) ?_ | refine nAnd ?_ | refine nOr ?_ | refine nXor ?_ | refine nAndNot ?_ | refine nAnd1' rfl ?_)); conv => whnf) | refine Ok.seq ?_ | refine OkL.cons ?_ | ((first | refine Ok.region tok ?_ | refine Ok.region_plan (id := 0) tok follows [(5, 12, [])] [.q 0, .q 1, .q 2, .q 3, .q 4, .q 5, .q 6, .q 7, .q 8, .q 9, .q 10, .q 11, .l 12] (by kernel_rfl) ?_ | refine ⟨_, (hquo.symm).symm, ?_⟩ | refine ⟨_, (hrem.symm).symm, ?_⟩ | refine Ok.region_draw tok follows (by kernel_rfl) ?_ | refine Ok.cond ?_); conv => whnf) | refine Ok.block ?_ | ((first | refine Ok.skip ?_ | refine Ok.exit ?_ | refine Ok.ret ?_ | refine nI ?_ | refine ix _ (by assumption) ?_ | refine ixI (by omega) (by assumption) ?_ | refine ix_new _ (by omega) fun _ _ => ?_ | refine ixI_new (by omega) (by omega) fun _ _ => ?_ | refine ⟨_, by assumption, ?_⟩); conv => whnf) | (refine Or.inr (Or.inr (Or.inr (Or.inr ?_))); (conv => whnf); refine effW.of (effK.peek (by rfl) (pk2 (.bp _ _ ( crow d) rfl (fun d hd => ints_crow _ d (List.mem_of_mem_drop hd))) (.i _ _)) (s3 ) ?_); rintro _ _ ⟨rfl, rfl⟩; (refine And.intro (by simp [gRowsP, grounds, D.ground]) ?_; conv => whnf)) | (refine Or.inr (Or.inr (Or.inr ?_)); (conv => whnf); refine effK.peek (by rfl) (pk2 (.bp _ _ ( crow d) rfl (fun d hd => ints_crow _ d (List.mem_of_mem_drop hd))) (.i _ _)) (s3 ) ?_; rintro _ _ ⟨rfl, rfl⟩; (refine And.intro (by simp [gRowsP, grounds, D.ground]) ?_; conv => whnf)) | ((first | refine Alt2.l (aI ?_) | refine Alt2.r (aI ?_)); conv => whnf) | (refine Ok.scope ?_) | ((first | refine Ok.label ?_ | refine rd rfl (by assumption) ?_ | refine ⟨_, .inl ⟨rfl, rfl⟩, ?_⟩ | refine ⟨_, _, rfl, rfl, ?_⟩); conv => whnf) | (refine ⟨fun _ => ?_, fun _ => ?_⟩ <;> (conv => whnf) <;> (try (exfalso; omega))) | ((first | refine aJ ?_ | refine num_any ?_ | refine ⟨_, rfl, ?_⟩); conv => whnf) | fail)
            all_goals first
              | contradiction
              | skip
            refine Or.inr (Or.inr (Or.inl ?_)); (conv => whnf); refine ⟨_, _, Tryz.func101, rfl, Tryz.call101, ?_⟩; (conv => whnf)
            (try (conv => whnf)); repeat' (first | ((with_reducible_and_instances (first | refine nShr (by assumption) ?_ | refine nShl1' rfl (by assumption) ?_ | refine nAnd ?_ | refine nOr ?_ | refine nXor ?_ | refine nAndNot ?_ | refine nAnd1' rfl ?_)); conv => whnf) | refine Ok.seq ?_ | refine OkL.cons ?_ | ((first | refine Ok.region tok ?_ | refine Ok.region_plan (id := 0) tok follows [(5, 12, [])] [.q 0, .q 1, .q 2, .q 3, .q 4, .q 5, .q 6, .q 7, .q 8, .q 9, .q 10, .q 11, .l 12] (by kernel_rfl) ?_ | refine ⟨_, (hquo.symm).symm, ?_⟩ | refine ⟨_, (hrem.symm).symm, ?_⟩ | refine Ok.region_draw tok follows (by kernel_rfl) ?_ | refine Ok.cond ?_); conv => whnf) | refine Ok.block ?_ | ((first | refine Ok.skip ?_ | refine Ok.exit ?_ | refine Ok.ret ?_ | refine nI ?_ | refine ix _ (by assumption) ?_ | refine ixI (by omega) (by assumption) ?_ | refine ix_new _ (by omega) fun _ _ => ?_ | refine ixI_new (by omega) (by omega) fun _ _ => ?_ | refine ⟨_, by assumption, ?_⟩ | refine Alt2.l (aI ?_) | refine Alt2.r (aI ?_)); conv => whnf) | (refine Ok.scope ?_) | ((first | refine Ok.label ?_ | refine rd rfl (by assumption) ?_ | refine ⟨_, .inl ⟨rfl, rfl⟩, ?_⟩ | refine ⟨_, _, rfl, rfl, ?_⟩); conv => whnf) | (refine ⟨fun _ => ?_, fun _ => ?_⟩ <;> (conv => whnf) <;> (try (exfalso; omega))) | ((first | refine aJ ?_ | refine num_any ?_ | refine ⟨_, rfl, ?_⟩); conv => whnf) | fail)
            refine ⟨i + 1, by omega, by omega, ?_⟩
            rw [hsu, hsn]
            have a0 := (k 0).trans (by first | exact if_pos rfl | exact if_neg (by decide))
            have a1 := (k 1).trans (by first | exact if_pos rfl | exact if_neg (by decide))
            have a2 := (k 2).trans (by first | exact if_pos rfl | exact if_neg (by decide))
            have a3 := (k 3).trans (by first | exact if_pos rfl | exact if_neg (by decide))
            have b0 := o 0
            have b1 := o 1
            have b2 := o 2
            have b3 := o 3
            have e0 := (k' 0).trans (by first | exact if_pos rfl | exact if_neg (by decide))
            have e1 := (k' 1).trans (by first | exact if_pos rfl | exact if_neg (by decide))
            have e2 := (k' 2).trans (by first | exact if_pos rfl | exact if_neg (by decide))
            have e3 := (k' 3).trans (by first | exact if_pos rfl | exact if_neg (by decide))
            have f0 := (o' 0).trans (by first | exact if_pos rfl | exact if_neg (by decide))
            have f1 := (o' 1).trans (by first | exact if_pos rfl | exact if_neg (by decide))
            have f2 := (o' 2).trans (by first | exact if_pos rfl | exact if_neg (by decide))
            have f3 := (o' 3).trans (by first | exact if_pos rfl | exact if_neg (by decide))
            (conv => whnf)
            simp only [envCat, crow, cells9, List.length_set, List.map_append, List.map_cons, List.map_nil, List.length_append, List.length_map, List.length_cons, List.length_nil, a0, a1, a2, a3, b0, b1, b2, b3, e0, e1, e2, e3, f0, f1, f2, f3]
            rfl
        · rw [show (97 : UInt8) - 49 = 48 from rfl] at hsn
          have k := put_word (f := car L) (g := car (L.set i 49)) hqr hr (car_set hz rfl)
          have k' := put_word (f := car L) (g := car (L.set i 48)) hqr hr (car_set hz rfl)
          have o := put_word (f := one L) (g := one (L.set i 49)) hqr hr (one_set hz)
          have o' := fun k => wof_ext (f := one (L.set i 48)) (g := one L) (k := k) fun j _ => one_set0 hz _
          rcases hq with rfl | rfl | rfl | rfl
          all_goals
            (try (conv => whnf)); repeat' (first | ((with_reducible_and_instances (first | refine nShr (by assumption) ?_ | refine nShl1' rfl (by assumption) ?_ | refine nAnd ?_ | refine nOr ?_ | refine nXor ?_ | refine nAndNot ?_ | refine nAnd1' rfl ?_)); conv => whnf) | refine Ok.seq ?_ | refine OkL.cons ?_ | ((first | refine Ok.region tok ?_ | refine Ok.region_draw tok follows (by kernel_rfl) ?_ | refine Ok.cond ?_); conv => whnf) | refine Ok.block ?_ | ((first | refine Ok.skip ?_ | refine Ok.exit ?_ | refine Ok.ret ?_ | refine nI ?_ | refine ix _ (by assumption) ?_ | refine ixI (by omega) (by assumption) ?_ | refine ix_new _ (by omega) fun _ _ => ?_ | refine ixI_new (by omega) (by omega) fun _ _ => ?_ | refine ⟨_, by assumption, ?_⟩); conv => whnf) | (refine Or.inr (Or.inr (Or.inr (Or.inr ?_))); (conv => whnf); refine effW.of (effK.peek (by rfl) (pk2 (.bp _ _ ( crow L) rfl (fun d hd => ints_crow _ d (List.mem_of_mem_drop hd))) (.i _ _)) (s1 ) ?_); rintro _ _ ⟨rfl, rfl⟩; (refine And.intro (by simp [gRowsP, grounds, D.ground]) ?_; conv => whnf)) | (refine Or.inr (Or.inr (Or.inr ?_)); (conv => whnf); refine effK.peek (by rfl) (pk2 (.bp _ _ ( crow L) rfl (fun d hd => ints_crow _ d (List.mem_of_mem_drop hd))) (.i _ _)) (s1 ) ?_; rintro _ _ ⟨rfl, rfl⟩; (refine And.intro (by simp [gRowsP, grounds, D.ground]) ?_; conv => whnf)) | (refine Or.inr (Or.inr (Or.inr (Or.inr ?_))); (conv => whnf); refine effW.of (effK.peek (by rfl) (pk2 (.bp _ _ ( crow d) rfl (fun d hd => ints_crow _ d (List.mem_of_mem_drop hd))) (.i _ _)) (s2 ) ?_); rintro _ _ ⟨rfl, rfl⟩; (refine And.intro (by simp [gRowsP, grounds, D.ground]) ?_; conv => whnf)) | (refine Or.inr (Or.inr (Or.inr ?_)); (conv => whnf); refine effK.peek (by rfl) (pk2 (.bp _ _ ( crow d) rfl (fun d hd => ints_crow _ d (List.mem_of_mem_drop hd))) (.i _ _)) (s2 ) ?_; rintro _ _ ⟨rfl, rfl⟩; (refine And.intro (by simp [gRowsP, grounds, D.ground]) ?_; conv => whnf)) | ((first | refine Alt2.l (aI ?_) | refine Alt2.r (aI ?_)); conv => whnf) | (refine Ok.scope ?_) | ((first | refine Ok.label ?_ | refine rd rfl (by assumption) ?_ | refine ⟨_, .inl ⟨rfl, rfl⟩, ?_⟩ | refine ⟨_, _, rfl, rfl, ?_⟩); conv => whnf) | (refine ⟨fun _ => ?_, fun _ => ?_⟩ <;> (conv => whnf) <;> (try (exfalso; omega))) | ((first | refine aJ ?_ | refine num_any ?_ | refine ⟨_, rfl, ?_⟩); conv => whnf) | fail)
            all_goals first
              | contradiction
              | skip
            refine Or.inr (Or.inr (Or.inl ?_)); (conv => whnf); refine ⟨_, _, Tryz.func101, rfl, Tryz.call101, ?_⟩; (conv => whnf)
            (try (conv => whnf)); repeat' (first | ((with_reducible_and_instances (first | refine nShr (by assumption) ?_ | refine nShl1' rfl (by assumption) ?_ | refine nAnd ?_ | refine nOr ?_ | refine nXor ?_ | refine nAndNot ?_ | refine nAnd1' rfl ?_)); conv => whnf) | refine Ok.seq ?_ | refine OkL.cons ?_ | ((first | refine Ok.region tok ?_ | refine Ok.region_plan (id := 0) tok follows [(5, 12, [])] [.q 0, .q 1, .q 2, .q 3, .q 4, .q 5, .q 6, .q 7, .q 8, .q 9, .q 10, .q 11, .l 12] (by kernel_rfl) ?_ | refine ⟨_, (hquo.symm).symm, ?_⟩ | refine ⟨_, (hrem.symm).symm, ?_⟩ | refine Ok.region_draw tok follows (by kernel_rfl) ?_ | refine Ok.cond ?_); conv => whnf) | refine Ok.block ?_ | ((first | refine Ok.skip ?_ | refine Ok.exit ?_ | refine Ok.ret ?_ | refine nI ?_ | refine ix _ (by assumption) ?_ | refine ixI (by omega) (by assumption) ?_ | refine ix_new _ (by omega) fun _ _ => ?_ | refine ixI_new (by omega) (by omega) fun _ _ => ?_ | refine ⟨_, by assumption, ?_⟩); conv => whnf) | (refine Or.inr (Or.inr (Or.inr (Or.inr ?_))); (conv => whnf); refine effW.of (effK.peek (by rfl) (pk2 (.bp _ _ ( crow d) rfl (fun d hd => ints_crow _ d (List.mem_of_mem_drop hd))) (.i _ _)) (s3 ) ?_); rintro _ _ ⟨rfl, rfl⟩; (refine And.intro (by simp [gRowsP, grounds, D.ground]) ?_; conv => whnf)) | (refine Or.inr (Or.inr (Or.inr ?_)); (conv => whnf); refine effK.peek (by rfl) (pk2 (.bp _ _ ( crow d) rfl (fun d hd => ints_crow _ d (List.mem_of_mem_drop hd))) (.i _ _)) (s3 ) ?_; rintro _ _ ⟨rfl, rfl⟩; (refine And.intro (by simp [gRowsP, grounds, D.ground]) ?_; conv => whnf)) | ((first | refine Alt2.l (aI ?_) | refine Alt2.r (aI ?_)); conv => whnf) | (refine Ok.scope ?_) | ((first | refine Ok.label ?_ | refine rd rfl (by assumption) ?_ | refine ⟨_, .inl ⟨rfl, rfl⟩, ?_⟩ | refine ⟨_, _, rfl, rfl, ?_⟩); conv => whnf) | (refine ⟨fun _ => ?_, fun _ => ?_⟩ <;> (conv => whnf) <;> (try (exfalso; omega))) | ((first | refine aJ ?_ | refine num_any ?_ | refine ⟨_, rfl, ?_⟩); conv => whnf) | fail)
            all_goals first
              | contradiction
              | skip
            refine Or.inr (Or.inr (Or.inl ?_)); (conv => whnf); refine ⟨_, _, Tryz.func101, rfl, Tryz.call101, ?_⟩; (conv => whnf)
            (try (conv => whnf)); repeat' (first | ((with_reducible_and_instances (first | refine nShr (by assumption) ?_ | refine nShl1' rfl (by assumption) ?_ | refine nAnd ?_ | refine nOr ?_ | refine nXor ?_ | refine nAndNot ?_ | refine nAnd1' rfl ?_)); conv => whnf) | refine Ok.seq ?_ | refine OkL.cons ?_ | ((first | refine Ok.region tok ?_ | refine Ok.region_plan (id := 0) tok follows [(5, 12, [])] [.q 0, .q 1, .q 2, .q 3, .q 4, .q 5, .q 6, .q 7, .q 8, .q 9, .q 10, .q 11, .l 12] (by kernel_rfl) ?_ | refine ⟨_, (hquo.symm).symm, ?_⟩ | refine ⟨_, (hrem.symm).symm, ?_⟩ | refine Ok.region_draw tok follows (by kernel_rfl) ?_ | refine Ok.cond ?_); conv => whnf) | refine Ok.block ?_ | ((first | refine Ok.skip ?_ | refine Ok.exit ?_ | refine Ok.ret ?_ | refine nI ?_ | refine ix _ (by assumption) ?_ | refine ixI (by omega) (by assumption) ?_ | refine ix_new _ (by omega) fun _ _ => ?_ | refine ixI_new (by omega) (by omega) fun _ _ => ?_ | refine ⟨_, by assumption, ?_⟩ | refine Alt2.l (aI ?_) | refine Alt2.r (aI ?_)); conv => whnf) | (refine Ok.scope ?_) | ((first | refine Ok.label ?_ | refine rd rfl (by assumption) ?_ | refine ⟨_, .inl ⟨rfl, rfl⟩, ?_⟩ | refine ⟨_, _, rfl, rfl, ?_⟩); conv => whnf) | (refine ⟨fun _ => ?_, fun _ => ?_⟩ <;> (conv => whnf) <;> (try (exfalso; omega))) | ((first | refine aJ ?_ | refine num_any ?_ | refine ⟨_, rfl, ?_⟩); conv => whnf) | fail)
            refine ⟨i + 1, by omega, by omega, ?_⟩
            rw [hsu, hsn]
            have a0 := (k 0).trans (by first | exact if_pos rfl | exact if_neg (by decide))
            have a1 := (k 1).trans (by first | exact if_pos rfl | exact if_neg (by decide))
            have a2 := (k 2).trans (by first | exact if_pos rfl | exact if_neg (by decide))
            have a3 := (k 3).trans (by first | exact if_pos rfl | exact if_neg (by decide))
            have b0 := (o 0).trans (by first | exact if_pos rfl | exact if_neg (by decide))
            have b1 := (o 1).trans (by first | exact if_pos rfl | exact if_neg (by decide))
            have b2 := (o 2).trans (by first | exact if_pos rfl | exact if_neg (by decide))
            have b3 := (o 3).trans (by first | exact if_pos rfl | exact if_neg (by decide))
            have e0 := (k' 0).trans (by first | exact if_pos rfl | exact if_neg (by decide))
            have e1 := (k' 1).trans (by first | exact if_pos rfl | exact if_neg (by decide))
            have e2 := (k' 2).trans (by first | exact if_pos rfl | exact if_neg (by decide))
            have e3 := (k' 3).trans (by first | exact if_pos rfl | exact if_neg (by decide))
            have f0 := o' 0
            have f1 := o' 1
            have f2 := o' 2
            have f3 := o' 3
            (conv => whnf)
            simp only [envCat, crow, cells9, List.length_set, List.map_append, List.map_cons, List.map_nil, List.length_append, List.length_map, List.length_cons, List.length_nil, a0, a1, a2, a3, b0, b1, b2, b3, e0, e1, e2, e3, f0, f1, f2, f3]
            rfl
        · exact absurd rfl hb2
      · rw [if_neg hab] at hpc
        have hsn := pcsT_none hpc
        rw [hQ] at hsn
        have hsm := hsm hab
        have hcases : (dig a = true) ∨ (dig a = false ∧ dig b = false) := by
          rcases hac with rfl | rfl | rfl
          · left; rfl
          · left; rfl
          · right
            rcases hbc with rfl | rfl | rfl
            · exact absurd ⟨rfl, by decide⟩ hab
            · exact absurd ⟨rfl, by decide⟩ hab
            · exact ⟨rfl, rfl⟩
        rcases hcases with hda | ⟨hda, hdb⟩
        · rw [hda] at s1
          (try (conv => whnf)); repeat' (first | ((with_reducible_and_instances (first | refine nShr (by assumption) ?_ | refine nShl1' rfl (by assumption) ?_ | refine nAnd ?_ | refine nOr ?_ | refine nXor ?_ | refine nAndNot ?_ | refine nAnd1' rfl ?_)); conv => whnf) | refine Ok.seq ?_ | refine OkL.cons ?_ | ((first | refine Ok.region tok ?_ | refine Ok.region_draw tok follows (by kernel_rfl) ?_ | refine Ok.cond ?_); conv => whnf) | refine Ok.block ?_ | ((first | refine Ok.skip ?_ | refine Ok.exit ?_ | refine Ok.ret ?_ | refine nI ?_ | refine ix _ (by assumption) ?_ | refine ixI (by omega) (by assumption) ?_ | refine ix_new _ (by omega) fun _ _ => ?_ | refine ixI_new (by omega) (by omega) fun _ _ => ?_ | refine ⟨_, by assumption, ?_⟩); conv => whnf) | (refine Or.inr (Or.inr (Or.inr (Or.inr ?_))); (conv => whnf); refine effW.of (effK.peek (by rfl) (pk2 (.bp _ _ ( crow L) rfl (fun d hd => ints_crow _ d (List.mem_of_mem_drop hd))) (.i _ _)) (s1 ) ?_); rintro _ _ ⟨rfl, rfl⟩; (refine And.intro (by simp [gRowsP, grounds, D.ground]) ?_; conv => whnf)) | (refine Or.inr (Or.inr (Or.inr ?_)); (conv => whnf); refine effK.peek (by rfl) (pk2 (.bp _ _ ( crow L) rfl (fun d hd => ints_crow _ d (List.mem_of_mem_drop hd))) (.i _ _)) (s1 ) ?_; rintro _ _ ⟨rfl, rfl⟩; (refine And.intro (by simp [gRowsP, grounds, D.ground]) ?_; conv => whnf)) | (refine Or.inr (Or.inr (Or.inr (Or.inr ?_))); (conv => whnf); refine effW.of (effK.peek (by rfl) (pk2 (.bp _ _ ( crow d) rfl (fun d hd => ints_crow _ d (List.mem_of_mem_drop hd))) (.i _ _)) (s2 ) ?_); rintro _ _ ⟨rfl, rfl⟩; (refine And.intro (by simp [gRowsP, grounds, D.ground]) ?_; conv => whnf)) | (refine Or.inr (Or.inr (Or.inr ?_)); (conv => whnf); refine effK.peek (by rfl) (pk2 (.bp _ _ ( crow d) rfl (fun d hd => ints_crow _ d (List.mem_of_mem_drop hd))) (.i _ _)) (s2 ) ?_; rintro _ _ ⟨rfl, rfl⟩; (refine And.intro (by simp [gRowsP, grounds, D.ground]) ?_; conv => whnf)) | ((first | refine Alt2.l (aI ?_) | refine Alt2.r (aI ?_)); conv => whnf) | (refine Ok.scope ?_) | ((first | refine Ok.label ?_ | refine rd rfl (by assumption) ?_ | refine ⟨_, .inl ⟨rfl, rfl⟩, ?_⟩ | refine ⟨_, _, rfl, rfl, ?_⟩); conv => whnf) | (refine ⟨fun _ => ?_, fun _ => ?_⟩ <;> (conv => whnf) <;> (try (exfalso; omega))) | ((first | refine aJ ?_ | refine num_any ?_ | refine ⟨_, rfl, ?_⟩); conv => whnf) | fail)
          all_goals first
            | contradiction
            | (refine ⟨i + 1, by omega, by omega, ?_⟩
               rw [hsm, hsn]
               (conv => whnf)
               rfl)
            | (rename_i h; exact absurd rfl h)
        · rw [hda] at s1
          rw [hdb] at s2
          (try (conv => whnf)); repeat' (first | ((with_reducible_and_instances (first | refine nShr (by assumption) ?_ | refine nShl1' rfl (by assumption) ?_ | refine nAnd ?_ | refine nOr ?_ | refine nXor ?_ | refine nAndNot ?_ | refine nAnd1' rfl ?_)); conv => whnf) | refine Ok.seq ?_ | refine OkL.cons ?_ | ((first | refine Ok.region tok ?_ | refine Ok.region_draw tok follows (by kernel_rfl) ?_ | refine Ok.cond ?_); conv => whnf) | refine Ok.block ?_ | ((first | refine Ok.skip ?_ | refine Ok.exit ?_ | refine Ok.ret ?_ | refine nI ?_ | refine ix _ (by assumption) ?_ | refine ixI (by omega) (by assumption) ?_ | refine ix_new _ (by omega) fun _ _ => ?_ | refine ixI_new (by omega) (by omega) fun _ _ => ?_ | refine ⟨_, by assumption, ?_⟩); conv => whnf) | (refine Or.inr (Or.inr (Or.inr (Or.inr ?_))); (conv => whnf); refine effW.of (effK.peek (by rfl) (pk2 (.bp _ _ ( crow L) rfl (fun d hd => ints_crow _ d (List.mem_of_mem_drop hd))) (.i _ _)) (s1 ) ?_); rintro _ _ ⟨rfl, rfl⟩; (refine And.intro (by simp [gRowsP, grounds, D.ground]) ?_; conv => whnf)) | (refine Or.inr (Or.inr (Or.inr ?_)); (conv => whnf); refine effK.peek (by rfl) (pk2 (.bp _ _ ( crow L) rfl (fun d hd => ints_crow _ d (List.mem_of_mem_drop hd))) (.i _ _)) (s1 ) ?_; rintro _ _ ⟨rfl, rfl⟩; (refine And.intro (by simp [gRowsP, grounds, D.ground]) ?_; conv => whnf)) | (refine Or.inr (Or.inr (Or.inr (Or.inr ?_))); (conv => whnf); refine effW.of (effK.peek (by rfl) (pk2 (.bp _ _ ( crow d) rfl (fun d hd => ints_crow _ d (List.mem_of_mem_drop hd))) (.i _ _)) (s2 ) ?_); rintro _ _ ⟨rfl, rfl⟩; (refine And.intro (by simp [gRowsP, grounds, D.ground]) ?_; conv => whnf)) | (refine Or.inr (Or.inr (Or.inr ?_)); (conv => whnf); refine effK.peek (by rfl) (pk2 (.bp _ _ ( crow d) rfl (fun d hd => ints_crow _ d (List.mem_of_mem_drop hd))) (.i _ _)) (s2 ) ?_; rintro _ _ ⟨rfl, rfl⟩; (refine And.intro (by simp [gRowsP, grounds, D.ground]) ?_; conv => whnf)) | ((first | refine Alt2.l (aI ?_) | refine Alt2.r (aI ?_)); conv => whnf) | (refine Ok.scope ?_) | ((first | refine Ok.label ?_ | refine rd rfl (by assumption) ?_ | refine ⟨_, .inl ⟨rfl, rfl⟩, ?_⟩ | refine ⟨_, _, rfl, rfl, ?_⟩); conv => whnf) | (refine ⟨fun _ => ?_, fun _ => ?_⟩ <;> (conv => whnf) <;> (try (exfalso; omega))) | ((first | refine aJ ?_ | refine num_any ?_ | refine ⟨_, rfl, ?_⟩); conv => whnf) | fail)
          all_goals first
            | contradiction
            | (refine ⟨i + 1, by omega, by omega, ?_⟩
               rw [hsm, hsn]
               (conv => whnf)
               rfl)
            | (rename_i h; exact absurd (fun q => by cases q) h)
    · have hie : i = c.length := by omega
      subst hie
      have hsp : splitT c d = pcsT c d c.length := if_pos hs
      rw [hsp]
      (try (conv => whnf)); repeat' (first | ((with_reducible_and_instances (first | refine nShr (by assumption) ?_ | refine nShl1' rfl (by assumption) ?_ | refine nAnd ?_ | refine nOr ?_ | refine nXor ?_ | refine nAndNot ?_ | refine nAnd1' rfl ?_)); conv => whnf) | refine Ok.seq ?_ | refine OkL.cons ?_ | ((first | refine Ok.region tok ?_ | refine Ok.region_draw tok follows (by kernel_rfl) ?_ | refine Ok.cond ?_); conv => whnf) | refine Ok.block ?_ | ((first | refine Ok.skip ?_ | refine Ok.exit ?_ | refine Ok.ret ?_ | refine nI ?_ | refine ix _ (by assumption) ?_ | refine ixI (by omega) (by assumption) ?_ | refine ix_new _ (by omega) fun _ _ => ?_ | refine ixI_new (by omega) (by omega) fun _ _ => ?_ | refine ⟨_, by assumption, ?_⟩ | refine Alt2.l (aI ?_) | refine Alt2.r (aI ?_)); conv => whnf) | (refine Ok.scope ?_) | ((first | refine Ok.label ?_ | refine rd rfl (by assumption) ?_ | refine ⟨_, .inl ⟨rfl, rfl⟩, ?_⟩ | refine ⟨_, _, rfl, rfl, ?_⟩); conv => whnf) | (refine ⟨fun _ => ?_, fun _ => ?_⟩ <;> (conv => whnf) <;> (try (exfalso; omega))) | ((first | refine aJ ?_ | refine num_any ?_ | refine ⟨_, rfl, ?_⟩); conv => whnf) | fail)
      refine Or.inl ?_; (conv => whnf)
      refine ⟨[], ?_, rfl⟩
      rw [List.take_of_length_le (by simp), List.drop_of_length_le (by simp)]
      rfl
  · have hn : splitT c d = [c] := by unfold splitT; rw [if_neg hs]
    rw [hn]
    (try (conv => whnf)); repeat' (first | ((with_reducible_and_instances (first | refine nShr (by assumption) ?_ | refine nShl1' rfl (by assumption) ?_ | refine nAnd ?_ | refine nOr ?_ | refine nXor ?_ | refine nAndNot ?_ | refine nAnd1' rfl ?_)); conv => whnf) | refine Ok.seq ?_ | refine OkL.cons ?_ | ((first | refine Ok.region tok ?_ | refine Ok.region_draw tok follows (by kernel_rfl) ?_ | refine Ok.cond ?_); conv => whnf) | refine Ok.block ?_ | ((first | refine Ok.skip ?_ | refine Ok.exit ?_ | refine Ok.ret ?_ | refine nI ?_ | refine ix _ (by assumption) ?_ | refine ixI (by omega) (by assumption) ?_ | refine ix_new _ (by omega) fun _ _ => ?_ | refine ixI_new (by omega) (by omega) fun _ _ => ?_ | refine ⟨_, by assumption, ?_⟩); conv => whnf) | (refine Or.inr (Or.inl ?_); (conv => whnf); (repeat (refine aI ?_; conv => whnf)); refine ⟨_, hm, ?_⟩; rintro _ _ ⟨rfl, rfl⟩ <;> (conv => whnf)) | ((first | refine Alt2.l (aI ?_) | refine Alt2.r (aI ?_)); conv => whnf) | (refine Ok.scope ?_) | ((first | refine Ok.label ?_ | refine rd rfl (by assumption) ?_ | refine ⟨_, .inl ⟨rfl, rfl⟩, ?_⟩ | refine ⟨_, _, rfl, rfl, ?_⟩); conv => whnf) | (refine ⟨fun _ => ?_, fun _ => ?_⟩ <;> (conv => whnf) <;> (try (exfalso; omega))) | ((first | refine aJ ?_ | refine num_any ?_ | refine ⟨_, rfl, ?_⟩); conv => whnf) | fail)
    · refine Or.inl ?_; (conv => whnf)
      exact ⟨_, rfl, rfl⟩
    · rename_i h
      exact absurd (Classical.not_not.1 h) hs
end Go.Proofs.YtaiondckookpiaaGreatDoor
namespace Go.Proofs.YtaiondckookpiaaGreatDoor
open Go Go.Vx
theorem one_at (c : Str) : FSpec Tryz.prog T 92 [.agg (crow c)] (fun d rows => d = .fn 126 [] [.ep (crow c)] ∧ rows = []) := by
  refine FSpec.of_ok tok Tryz.func92 rfl Tryz.call92 (by simp) ?_
  (try (conv => whnf)); repeat' (first | refine Ok.seq ?_ | refine OkL.cons ?_ | ((first | refine Ok.region tok ?_ | refine Ok.region_draw tok follows (by kernel_rfl) ?_ | refine Ok.cond ?_); conv => whnf) | refine Ok.block ?_ | ((first | refine Ok.skip ?_ | refine Ok.exit ?_ | refine Ok.ret ?_ | refine nI ?_ | refine ix _ (by assumption) ?_ | refine ixI (by omega) (by assumption) ?_ | refine ix_new _ (by omega) fun _ _ => ?_ | refine ixI_new (by omega) (by omega) fun _ _ => ?_ | refine ⟨_, by assumption, ?_⟩ | refine Alt2.l (aI ?_) | refine Alt2.r (aI ?_)); conv => whnf) | (refine Ok.scope ?_) | ((first | refine Ok.label ?_ | refine rd rfl (by assumption) ?_ | refine ⟨_, .inl ⟨rfl, rfl⟩, ?_⟩ | refine ⟨_, _, rfl, rfl, ?_⟩); conv => whnf) | (refine ⟨fun _ => ?_, fun _ => ?_⟩ <;> (conv => whnf) <;> (try (exfalso; omega))) | ((first | refine aJ ?_ | refine num_any ?_ | refine ⟨_, rfl, ?_⟩); conv => whnf) | fail)
  refine Or.inr ?_
  (conv => whnf)
  (try (conv => whnf)); repeat' (first | (refine Ok.pubB (c := Code.ret) rfl ?_; (conv => whnf); refine Ok.ret ?_; (conv => whnf)) | refine Ok.seq ?_ | refine OkL.cons ?_ | ((first | refine Ok.region tok ?_ | refine Ok.region_draw tok follows (by kernel_rfl) ?_ | refine Ok.cond ?_); conv => whnf) | refine Ok.block ?_ | ((first | refine Ok.skip ?_ | refine Ok.exit ?_ | refine Ok.ret ?_ | refine nI ?_ | refine ix _ (by assumption) ?_ | refine ixI (by omega) (by assumption) ?_ | refine ix_new _ (by omega) fun _ _ => ?_ | refine ixI_new (by omega) (by omega) fun _ _ => ?_ | refine ⟨_, by assumption, ?_⟩ | refine Alt2.l (aI ?_) | refine Alt2.r (aI ?_)); conv => whnf) | (refine Ok.scope ?_) | ((first | refine Ok.label ?_ | refine rd rfl (by assumption) ?_ | refine ⟨_, .inl ⟨rfl, rfl⟩, ?_⟩ | refine ⟨_, _, rfl, rfl, ?_⟩); conv => whnf) | (refine ⟨fun _ => ?_, fun _ => ?_⟩ <;> (conv => whnf) <;> (try (exfalso; omega))) | ((first | refine aJ ?_ | refine num_any ?_ | refine ⟨_, rfl, ?_⟩); conv => whnf) | fail)
  refine Or.inl ?_; (conv => whnf)
  exact ⟨rfl, rfl⟩
theorem splits_at (l : List Str) (rm : List (List D)) (m : Str) : FSpec Tryz.prog T 93 [.lst 46 (l.map crow) rm, .agg (crow m)] (fun d rows => d = .fn 127 [] [.ep [.lst 46 (l.map crow) rm], .ep (crow m)] ∧ rows = []) := by
  refine FSpec.of_ok tok Tryz.func93 rfl Tryz.call93 (by simp) ?_
  (try (conv => whnf)); repeat' (first | refine Ok.seq ?_ | refine OkL.cons ?_ | ((first | refine Ok.region tok ?_ | refine Ok.region_draw tok follows (by kernel_rfl) ?_ | refine Ok.cond ?_); conv => whnf) | refine Ok.block ?_ | ((first | refine Ok.skip ?_ | refine Ok.exit ?_ | refine Ok.ret ?_ | refine nI ?_ | refine ix _ (by assumption) ?_ | refine ixI (by omega) (by assumption) ?_ | refine ix_new _ (by omega) fun _ _ => ?_ | refine ixI_new (by omega) (by omega) fun _ _ => ?_ | refine ⟨_, by assumption, ?_⟩ | refine Alt2.l (aI ?_) | refine Alt2.r (aI ?_)); conv => whnf) | (refine Ok.scope ?_) | ((first | refine Ok.label ?_ | refine rd rfl (by assumption) ?_ | refine ⟨_, .inl ⟨rfl, rfl⟩, ?_⟩ | refine ⟨_, _, rfl, rfl, ?_⟩); conv => whnf) | (refine ⟨fun _ => ?_, fun _ => ?_⟩ <;> (conv => whnf) <;> (try (exfalso; omega))) | ((first | refine aJ ?_ | refine num_any ?_ | refine ⟨_, rfl, ?_⟩); conv => whnf) | fail)
  refine Or.inr ?_
  (conv => whnf)
  (try (conv => whnf)); repeat' (first | (refine Ok.pubB (c := Code.ret) rfl ?_; (conv => whnf); refine Ok.ret ?_; (conv => whnf)) | refine Ok.seq ?_ | refine OkL.cons ?_ | ((first | refine Ok.region tok ?_ | refine Ok.region_draw tok follows (by kernel_rfl) ?_ | refine Ok.cond ?_); conv => whnf) | refine Ok.block ?_ | ((first | refine Ok.skip ?_ | refine Ok.exit ?_ | refine Ok.ret ?_ | refine nI ?_ | refine ix _ (by assumption) ?_ | refine ixI (by omega) (by assumption) ?_ | refine ix_new _ (by omega) fun _ _ => ?_ | refine ixI_new (by omega) (by omega) fun _ _ => ?_ | refine ⟨_, by assumption, ?_⟩ | refine Alt2.l (aI ?_) | refine Alt2.r (aI ?_)); conv => whnf) | (refine Ok.scope ?_) | ((first | refine Ok.label ?_ | refine rd rfl (by assumption) ?_ | refine ⟨_, .inl ⟨rfl, rfl⟩, ?_⟩ | refine ⟨_, _, rfl, rfl, ?_⟩); conv => whnf) | (refine ⟨fun _ => ?_, fun _ => ?_⟩ <;> (conv => whnf) <;> (try (exfalso; omega))) | ((first | refine aJ ?_ | refine num_any ?_ | refine ⟨_, rfl, ?_⟩); conv => whnf) | fail)
  refine Or.inl ?_; (conv => whnf)
  exact ⟨rfl, rfl⟩
def cubX (l : List Str) : List (List D) := l.map fun x => [.agg (crow x)]
theorem one_seq (c : Str) : YSpec Tryz.prog T 126 [.ep (crow c)] (cubX [c]) := by
  refine YSpec.of_okY Tryz.func126 rfl Tryz.call126 rfl (show 2 ≤ 6 by decide) fun l => ?_
  refine OkY.yreg tok 2 0 [.agg (crow c)] rfl ?_
  (conv => whnf)
  refine ⟨rfl, rfl, rfl, ?_⟩
  (conv => whnf)
  refine ⟨?_, ?_⟩
  · (conv => whnf)
    exact ⟨.inl rfl, .inl rfl⟩
  · (conv => whnf)
    exact ⟨.inl rfl, .inr rfl⟩
def splL (m : Str) (l : List Str) : List Str := l.flatMap fun c => splitT c m
theorem splL_snoc {m : Str} {l : List Str} {i : Nat} {c : Str} (hc : l[i]? = some c) : splL m (l.take (i + 1)) = splL m (l.take i) ++ splitT c m := by
  unfold splL; rw [take_snoc hc, List.flatMap_append]; simp
theorem splL_at {m : Str} {l : List Str} {i j : Nat} {c x : Str} (hc : l[i]? = some c) (hx : (splitT c m)[j]? = some x) : (splL m l)[(splL m (l.take i)).length + j]? = some x := by
  have h1 : splL m l = (splL m (l.take i) ++ splitT c m) ++ splL m (l.drop (i + 1)) := by
    rw [← splL_snoc hc]
    unfold splL
    rw [← List.flatMap_append, List.take_append_drop]
  have hj : j < (splitT c m).length := (List.getElem?_eq_some_iff.1 hx).1
  rw [h1, List.getElem?_append_left (by rw [List.length_append]; omega), List.getElem?_append_right (by omega), Nat.add_sub_cancel_left]
  exact hx
theorem cubX_at {l : List Str} {k : Nat} {x : Str} (h : l[k]? = some x) : (cubX l)[k]? = some [.agg (crow x)] := by simp [cubX, h]
theorem splits_seq (l : List Str) (rm : List (List D)) (m : Str) (hl : ∀ c ∈ l, CN c) (hm : CT m) (hll : l.length ≤ 100000) : YSpec Tryz.prog T 127 [.ep [.lst 46 (l.map crow) rm], .ep (crow m)] (cubX (splL m l)) := by
  have hlm : (l.map crow).length = l.length := by simp
  refine YSpec.of_okY Tryz.func127 rfl Tryz.call127 rfl (show 3 ≤ 28 by decide) fun y => ?_
  refine OkY.seq (OkY.piece ?_)
  (try (conv => whnf)); repeat' (first | refine Ok.seq ?_ | refine OkL.cons ?_ | ((first | refine Ok.region tok ?_ | refine Ok.region_draw tok follows (by kernel_rfl) ?_ | refine Ok.cond ?_); conv => whnf) | refine Ok.block ?_ | ((first | refine Ok.skip ?_ | refine Ok.exit ?_ | refine Ok.ret ?_ | refine nI ?_ | refine ix _ (by assumption) ?_ | refine ixI (by omega) (by assumption) ?_ | refine ix_new _ (by omega) fun _ _ => ?_ | refine ixI_new (by omega) (by omega) fun _ _ => ?_ | refine ⟨_, by assumption, ?_⟩ | refine Alt2.l (aI ?_) | refine Alt2.r (aI ?_)); conv => whnf) | (refine Ok.scope ?_) | ((first | refine Ok.label ?_ | refine rd rfl (by assumption) ?_ | refine ⟨_, .inl ⟨rfl, rfl⟩, ?_⟩ | refine ⟨_, _, rfl, rfl, ?_⟩); conv => whnf) | (refine ⟨fun _ => ?_, fun _ => ?_⟩ <;> (conv => whnf) <;> (try (exfalso; omega))) | ((first | refine aJ ?_ | refine num_any ?_ | refine ⟨_, rfl, ?_⟩); conv => whnf) | fail)
  refine OkY.block ?_
  refine OkY.loopK [0, 2, 8, 9, 10] (fun i : Nat => [(0, .yld y), (2, .ep (crow m)), (8, .lst 46 (l.map crow) rm), (9, .i .i64 (l.map crow).length), (10, .i .i64 (i : Nat))]) (fun i => some (splL m (l.take i)).length) (fun i => i ≤ l.length) (fun i => l.length - i) 0 (Nat.zero_le _) (by simp [splL]) (by
    (conv => whnf)
    rfl) ?_
  intro i hi
  refine OkY.seq (OkY.piece ?_)
  (try (conv => whnf)); repeat' (first | refine Ok.seq ?_ | refine OkL.cons ?_ | ((first | refine Ok.region tok ?_ | refine Ok.region_draw tok follows (by kernel_rfl) ?_ | refine Ok.cond ?_); conv => whnf) | refine Ok.block ?_ | ((first | refine Ok.skip ?_ | refine Ok.exit ?_ | refine Ok.ret ?_ | refine nI ?_ | refine ix _ (by assumption) ?_ | refine ixI (by omega) (by assumption) ?_ | refine ix_new _ (by omega) fun _ _ => ?_ | refine ixI_new (by omega) (by omega) fun _ _ => ?_ | refine ⟨_, by assumption, ?_⟩ | refine Alt2.l (aI ?_) | refine Alt2.r (aI ?_)); conv => whnf) | (refine Ok.scope ?_) | ((first | refine Ok.label ?_ | refine rd rfl (by assumption) ?_ | refine ⟨_, .inl ⟨rfl, rfl⟩, ?_⟩ | refine ⟨_, _, rfl, rfl, ?_⟩); conv => whnf) | (refine ⟨fun _ => ?_, fun _ => ?_⟩ <;> (conv => whnf) <;> (try (exfalso; omega))) | ((first | refine aJ ?_ | refine num_any ?_ | refine ⟨_, rfl, ?_⟩); conv => whnf) | fail)
  refine OkY.seq (OkY.cond ?_)
  (conv => whnf)
  refine ⟨fun h => ?_, fun h => ?_⟩
  · refine OkY.skip ?_
    (conv => whnf)
    have hil : i < l.length := by omega
    obtain ⟨c, hc⟩ : ∃ c, l[i]? = some c := ⟨_, List.getElem?_eq_getElem hil⟩
    have hcI : l[((i : Nat) : Int).toNat]? = some c := hc
    have hcn := hl c (List.mem_of_getElem? hc)
    have hsl := splitT_len (d := m) hcn.1.len
    have hslm : ((splitT c m).map crow).length = (splitT c m).length := by simp
    have hsn := splL_snoc (m := m) hc
    have hat := fun j x => splL_at (m := m) (j := j) (x := x) hc
    refine OkY.seq (OkY.block (OkY.ofZ (OkZ.seq ?_)))
    (try (conv => whnf)); repeat' (first | refine Ok.seq ?_ | refine OkL.cons ?_ | ((first | refine Ok.region tok ?_ | refine Ok.region_draw tok follows (by kernel_rfl) ?_ | refine Ok.cond ?_); conv => whnf) | refine Ok.block ?_ | ((first | refine Ok.skip ?_ | refine Ok.exit ?_ | refine Ok.ret ?_ | refine nI ?_ | refine ix _ (by assumption) ?_ | refine ixI (by omega) (by assumption) ?_ | refine ix_new _ (by omega) fun _ _ => ?_ | refine ixI_new (by omega) (by omega) fun _ _ => ?_ | refine ⟨_, by assumption, ?_⟩ | refine Alt2.l (aI ?_) | refine Alt2.r (aI ?_)); conv => whnf) | (refine Ok.scope ?_) | ((first | refine Ok.label ?_ | refine rd rfl (by assumption) ?_ | refine ⟨_, .inl ⟨rfl, rfl⟩, ?_⟩ | refine ⟨_, _, rfl, rfl, ?_⟩); conv => whnf) | (refine ⟨fun _ => ?_, fun _ => ?_⟩ <;> (conv => whnf) <;> (try (exfalso; omega))) | ((first | refine aJ ?_ | refine num_any ?_ | refine ⟨_, rfl, ?_⟩); conv => whnf) | fail)
    refine OkZ.seq ?_
    (try (conv => whnf)); repeat' (first | refine Ok.seq ?_ | refine OkL.cons ?_ | ((first | refine Ok.region tok ?_ | refine Ok.region_draw tok follows (by kernel_rfl) ?_ | refine Ok.cond ?_); conv => whnf) | refine Ok.block ?_ | ((first | refine Ok.skip ?_ | refine Ok.exit ?_ | refine Ok.ret ?_ | refine nI ?_ | refine ix _ (by assumption) ?_ | refine ixI (by omega) (by assumption) ?_ | refine ix_new _ (by omega) fun _ _ => ?_ | refine ixI_new (by omega) (by omega) fun _ _ => ?_ | refine ⟨_, by assumption, ?_⟩); conv => whnf) | (refine Or.inr (Or.inl ?_); (conv => whnf); (repeat (refine aI ?_; conv => whnf)); refine ⟨_, split_at c m hcn hm , ?_⟩; rintro _ _ ⟨rm2, rfl, rfl⟩ <;> (conv => whnf)) | ((first | refine Alt2.l (aI ?_) | refine Alt2.r (aI ?_)); conv => whnf) | (refine Ok.scope ?_) | ((first | refine Ok.label ?_ | refine rd rfl (by assumption) ?_ | refine ⟨_, .inl ⟨rfl, rfl⟩, ?_⟩ | refine ⟨_, _, rfl, rfl, ?_⟩); conv => whnf) | (refine ⟨fun _ => ?_, fun _ => ?_⟩ <;> (conv => whnf) <;> (try (exfalso; omega))) | ((first | refine aJ ?_ | refine num_any ?_ | refine ⟨_, rfl, ?_⟩); conv => whnf) | fail)
    refine OkZ.ofY ?_
    (conv => whnf)
    refine OkY.block ?_
    generalize hS : splitT c m = S at *
    refine OkY.loopK [0, 2, 8, 9, 10, 16, 17, 18] (fun j : Nat => [(0, .yld y), (2, .ep (crow m)), (8, .lst 46 (l.map crow) rm), (9, .i .i64 (l.map crow).length), (10, .i .i64 (i : Nat)), (16, .lst 46 (S.map crow) rm2), (17, .i .i64 (S.map crow).length), (18, .i .i64 (j : Nat))]) (fun j => some ((splL m (l.take i)).length + j)) (fun j => j ≤ S.length) (fun j => S.length - j) 0 (Nat.zero_le _) (by simp) (by
      (conv => whnf)
      rfl) ?_
    intro j hj
    refine OkY.seq (OkY.piece ?_)
    (try (conv => whnf)); repeat' (first | refine Ok.seq ?_ | refine OkL.cons ?_ | ((first | refine Ok.region tok ?_ | refine Ok.region_draw tok follows (by kernel_rfl) ?_ | refine Ok.cond ?_); conv => whnf) | refine Ok.block ?_ | ((first | refine Ok.skip ?_ | refine Ok.exit ?_ | refine Ok.ret ?_ | refine nI ?_ | refine ix _ (by assumption) ?_ | refine ixI (by omega) (by assumption) ?_ | refine ix_new _ (by omega) fun _ _ => ?_ | refine ixI_new (by omega) (by omega) fun _ _ => ?_ | refine ⟨_, by assumption, ?_⟩ | refine Alt2.l (aI ?_) | refine Alt2.r (aI ?_)); conv => whnf) | (refine Ok.scope ?_) | ((first | refine Ok.label ?_ | refine rd rfl (by assumption) ?_ | refine ⟨_, .inl ⟨rfl, rfl⟩, ?_⟩ | refine ⟨_, _, rfl, rfl, ?_⟩); conv => whnf) | (refine ⟨fun _ => ?_, fun _ => ?_⟩ <;> (conv => whnf) <;> (try (exfalso; omega))) | ((first | refine aJ ?_ | refine num_any ?_ | refine ⟨_, rfl, ?_⟩); conv => whnf) | fail)
    refine OkY.seq (OkY.cond ?_)
    (conv => whnf)
    refine ⟨fun h => ?_, fun h => ?_⟩
    · refine OkY.skip ?_
      (conv => whnf)
      have hjl : j < S.length := by omega
      obtain ⟨x, hx⟩ : ∃ x, S[j]? = some x := ⟨_, List.getElem?_eq_getElem hjl⟩
      have hxI : S[((j : Nat) : Int).toNat]? = some x := hx
      refine OkY.seq (OkY.block (OkY.ofZ (OkZ.seq ?_)))
      (try (conv => whnf)); repeat' (first | refine Ok.seq ?_ | refine OkL.cons ?_ | ((first | refine Ok.region tok ?_ | refine Ok.region_draw tok follows (by kernel_rfl) ?_ | refine Ok.cond ?_); conv => whnf) | refine Ok.block ?_ | ((first | refine Ok.skip ?_ | refine Ok.exit ?_ | refine Ok.ret ?_ | refine nI ?_ | refine ix _ (by assumption) ?_ | refine ixI (by omega) (by assumption) ?_ | refine ix_new _ (by omega) fun _ _ => ?_ | refine ixI_new (by omega) (by omega) fun _ _ => ?_ | refine ⟨_, by assumption, ?_⟩ | refine Alt2.l (aI ?_) | refine Alt2.r (aI ?_)); conv => whnf) | (refine Ok.scope ?_) | ((first | refine Ok.label ?_ | refine rd rfl (by assumption) ?_ | refine ⟨_, .inl ⟨rfl, rfl⟩, ?_⟩ | refine ⟨_, _, rfl, rfl, ?_⟩); conv => whnf) | (refine ⟨fun _ => ?_, fun _ => ?_⟩ <;> (conv => whnf) <;> (try (exfalso; omega))) | ((first | refine aJ ?_ | refine num_any ?_ | refine ⟨_, rfl, ?_⟩); conv => whnf) | fail)
      refine OkZ.seqY (OkZ.yreg tok 2 _ [.agg (crow x)] (cubX_at (hat j x hx)) ?_)
      (conv => whnf)
      refine ⟨rfl, rfl, rfl, ?_⟩
      (conv => whnf)
      refine ⟨?_, ?_⟩
      · (conv => whnf)
        refine OkY.cond ?_
        (conv => whnf)
        refine OkY.skip ?_
        (conv => whnf)
        refine OkY.piece ?_
        (try (conv => whnf)); repeat' (first | refine Ok.seq ?_ | refine OkL.cons ?_ | ((first | refine Ok.region tok ?_ | refine Ok.region_draw tok follows (by kernel_rfl) ?_ | refine Ok.cond ?_); conv => whnf) | refine Ok.block ?_ | ((first | refine Ok.skip ?_ | refine Ok.exit ?_ | refine Ok.ret ?_ | refine nI ?_ | refine ix _ (by assumption) ?_ | refine ixI (by omega) (by assumption) ?_ | refine ix_new _ (by omega) fun _ _ => ?_ | refine ixI_new (by omega) (by omega) fun _ _ => ?_ | refine ⟨_, by assumption, ?_⟩ | refine Alt2.l (aI ?_) | refine Alt2.r (aI ?_)); conv => whnf) | (refine Ok.scope ?_) | ((first | refine Ok.label ?_ | refine rd rfl (by assumption) ?_ | refine ⟨_, .inl ⟨rfl, rfl⟩, ?_⟩ | refine ⟨_, _, rfl, rfl, ?_⟩); conv => whnf) | (refine ⟨fun _ => ?_, fun _ => ?_⟩ <;> (conv => whnf) <;> (try (exfalso; omega))) | ((first | refine aJ ?_ | refine num_any ?_ | refine ⟨_, rfl, ?_⟩); conv => whnf) | fail)
        refine ⟨j + 1, by omega, by omega, by rw [Nat.add_assoc], ?_⟩
        (conv => whnf)
        rfl
      · (conv => whnf)
        refine OkY.cond ?_
        (conv => whnf)
        refine OkY.ret ?_
        (conv => whnf)
        exact ⟨.inr rfl, .inr rfl⟩
    · have hje : j = S.length := by omega
      subst hje
      refine OkY.exit ?_
      (conv => whnf)
      refine OkY.piece ?_
      (try (conv => whnf)); repeat' (first | refine Ok.seq ?_ | refine OkL.cons ?_ | ((first | refine Ok.region tok ?_ | refine Ok.region_draw tok follows (by kernel_rfl) ?_ | refine Ok.cond ?_); conv => whnf) | refine Ok.block ?_ | ((first | refine Ok.skip ?_ | refine Ok.exit ?_ | refine Ok.ret ?_ | refine nI ?_ | refine ix _ (by assumption) ?_ | refine ixI (by omega) (by assumption) ?_ | refine ix_new _ (by omega) fun _ _ => ?_ | refine ixI_new (by omega) (by omega) fun _ _ => ?_ | refine ⟨_, by assumption, ?_⟩ | refine Alt2.l (aI ?_) | refine Alt2.r (aI ?_)); conv => whnf) | (refine Ok.scope ?_) | ((first | refine Ok.label ?_ | refine rd rfl (by assumption) ?_ | refine ⟨_, .inl ⟨rfl, rfl⟩, ?_⟩ | refine ⟨_, _, rfl, rfl, ?_⟩); conv => whnf) | (refine ⟨fun _ => ?_, fun _ => ?_⟩ <;> (conv => whnf) <;> (try (exfalso; omega))) | ((first | refine aJ ?_ | refine num_any ?_ | refine ⟨_, rfl, ?_⟩); conv => whnf) | fail)
      refine ⟨i + 1, by omega, by omega, by rw [hsn, List.length_append], ?_⟩
      (conv => whnf)
      rfl
  · have hie : i = l.length := by omega
    subst hie
    refine OkY.exit ?_
    (conv => whnf)
    refine ⟨.inl rfl, .inl ?_⟩
    rw [List.take_length]
    simp [cubX]
end Go.Proofs.YtaiondckookpiaaGreatDoor
namespace Go.Proofs.YtaiondckookpiaaGreatDoor
open Go Go.Vx
theorem cubX_get {l : List Str} {k : Nat} {x : List D} (h : (cubX l)[k]? = some x) : ∃ c, l[k]? = some c ∧ x = [.agg (crow c)] := by
  simp only [cubX, List.getElem?_map, Option.map_eq_some_iff] at h
  obtain ⟨c, h1, h2⟩ := h
  exact ⟨c, h1, h2.symm⟩
theorem cubX_len (l : List Str) : (cubX l).length = l.length := by simp [cubX]
set_option maxHeartbeats 4000000 in
theorem collect_at {f : FuncId} {cap : List D} {l : List Str} (hY : YSpec Tryz.prog T f cap (cubX l)) (most : Int) (hm : (l.length : Int) ≤ most) (hl : l.length ≤ 1000000) :
    FSpec Tryz.prog T 91 [.fn f [] cap, .i .i64 most] (fun d rows => ∃ rm, d = .lst 46 (l.map crow) rm ∧ rows = []) := by
  refine FSpec.of_okG tok Tryz.func91 rfl Tryz.call91 (by simp) ?_
  refine OkG.seq (OkG.of ?_)
  (try (conv => whnf)); repeat' (first | refine Ok.seq ?_ | refine OkL.cons ?_ | ((first | refine Ok.region tok ?_ | refine Ok.region_draw tok follows (by kernel_rfl) ?_ | refine Ok.cond ?_); conv => whnf) | refine Ok.block ?_ | ((first | refine Ok.skip ?_ | refine Ok.exit ?_ | refine Ok.ret ?_ | refine nI ?_ | refine ix _ (by assumption) ?_ | refine ixI (by omega) (by assumption) ?_ | refine ix_new _ (by omega) fun _ _ => ?_ | refine ixI_new (by omega) (by omega) fun _ _ => ?_ | refine ⟨_, by assumption, ?_⟩ | refine Alt2.l (aI ?_) | refine Alt2.r (aI ?_)); conv => whnf) | (refine Ok.scope ?_) | ((first | refine Ok.label ?_ | refine rd rfl (by assumption) ?_ | refine ⟨_, .inl ⟨rfl, rfl⟩, ?_⟩ | refine ⟨_, _, rfl, rfl, ?_⟩); conv => whnf) | (refine ⟨fun _ => ?_, fun _ => ?_⟩ <;> (conv => whnf) <;> (try (exfalso; omega))) | ((first | refine aJ ?_ | refine num_any ?_ | refine ⟨_, rfl, ?_⟩); conv => whnf) | fail)
  refine OkG.seq (OkG.of ?_)
  (try (conv => whnf)); repeat' (first | refine Ok.seq ?_ | refine OkL.cons ?_ | ((first | refine Ok.region tok ?_ | refine Ok.region_draw tok follows (by kernel_rfl) ?_ | refine Ok.cond ?_); conv => whnf) | refine Ok.block ?_ | ((first | refine Ok.skip ?_ | refine Ok.exit ?_ | refine Ok.ret ?_ | refine nI ?_ | refine ix _ (by assumption) ?_ | refine ixI (by omega) (by assumption) ?_ | refine ix_new _ (by omega) fun _ _ => ?_ | refine ixI_new (by omega) (by omega) fun _ _ => ?_ | refine ⟨_, by assumption, ?_⟩ | refine Alt2.l (aI ?_) | refine Alt2.r (aI ?_)); conv => whnf) | (refine Ok.scope ?_) | ((first | refine Ok.label ?_ | refine rd rfl (by assumption) ?_ | refine ⟨_, .inl ⟨rfl, rfl⟩, ?_⟩ | refine ⟨_, _, rfl, rfl, ?_⟩); conv => whnf) | (refine ⟨fun _ => ?_, fun _ => ?_⟩ <;> (conv => whnf) <;> (try (exfalso; omega))) | ((first | refine aJ ?_ | refine num_any ?_ | refine ⟨_, rfl, ?_⟩); conv => whnf) | fail)
  refine OkG.seq (OkG.seq (OkG.of ?_))
  refine Ok.ghostB 1 0 46 rfl rfl ?_
  (conv => whnf)
  (try (conv => whnf)); repeat' (first | refine Ok.seq ?_ | refine OkL.cons ?_ | ((first | refine Ok.region tok ?_ | refine Ok.region_draw tok follows (by kernel_rfl) ?_ | refine Ok.cond ?_); conv => whnf) | refine Ok.block ?_ | ((first | refine Ok.skip ?_ | refine Ok.exit ?_ | refine Ok.ret ?_ | refine nI ?_ | refine ix _ (by assumption) ?_ | refine ixI (by omega) (by assumption) ?_ | refine ix_new _ (by omega) fun _ _ => ?_ | refine ixI_new (by omega) (by omega) fun _ _ => ?_ | refine ⟨_, by assumption, ?_⟩ | refine Alt2.l (aI ?_) | refine Alt2.r (aI ?_)); conv => whnf) | (refine Ok.scope ?_) | ((first | refine Ok.label ?_ | refine rd rfl (by assumption) ?_ | refine ⟨_, .inl ⟨rfl, rfl⟩, ?_⟩ | refine ⟨_, _, rfl, rfl, ?_⟩); conv => whnf) | (refine ⟨fun _ => ?_, fun _ => ?_⟩ <;> (conv => whnf) <;> (try (exfalso; omega))) | ((first | refine aJ ?_ | refine num_any ?_ | refine ⟨_, rfl, ?_⟩); conv => whnf) | fail)
  refine OkG.block ?_
  refine OkG.range [3, 5, 7] 1 2 (fun k => ⟨[(3, .bp 0 0), (5, .bp 1 0), (7, .fn f [] cap)], [[.i .i64 most], [.own 0 k]], [some (46, (l.take k).map crow)], 20⟩) (fun k => k ≤ l.length) (Nat.zero_le _) (by
    (conv => whnf)
    rfl) rfl hY (fun _ => rfl) (by simp) ?_ ?_
  · intro k x hx hk
    obtain ⟨c, hc, rfl⟩ := cubX_get hx
    refine ⟨rfl, ?_⟩
    (conv => whnf)
    have hkl : k < l.length := (List.getElem?_eq_some_iff.1 hc).1
    have htl : ((l.take k).map crow).length = k := by simp; omega
    have hsn : (l.take (k + 1)).map crow = (l.take k).map crow ++ [crow c] := by rw [take_snoc hc, List.map_append]; rfl
    have hkm : ¬ (k : Int) = most := by omega
    (try (conv => whnf)); repeat' (first | refine OkR.seq ?_ | refine OkL.cons ?_ | ((first | refine OkR.region tok ?_ | refine OkR.cond ?_); conv => whnf) | refine OkR.block ?_ | ((first | refine OkR.skip ?_ | refine OkR.exit ?_ | refine OkR.ret ?_ | refine nI ?_ | refine ix _ (by assumption) ?_ | refine ixI (by omega) (by assumption) ?_ | refine ix_new _ (by omega) fun _ _ => ?_ | refine ixI_new (by omega) (by omega) fun _ _ => ?_ | refine ⟨_, by assumption, ?_⟩ | refine Alt2.l (aI ?_) | refine Alt2.r (aI ?_)); conv => whnf) | (refine OkR.scope ?_) | ((first | refine OkR.label ?_ | refine rd rfl (by assumption) ?_ | refine ⟨_, .inl ⟨rfl, rfl⟩, ?_⟩ | refine ⟨_, _, rfl, rfl, ?_⟩); conv => whnf) | (refine ⟨fun _ => ?_, fun _ => ?_⟩ <;> (conv => whnf) <;> (try (exfalso; omega))) | ((first | refine aJ ?_ | refine num_any ?_ | refine ⟨_, rfl, ?_⟩); conv => whnf) | fail)
    all_goals first
      | (exfalso; omega)
      | skip
    have hln : ((l.take k).map crow ++ [crow c]).length = k + 1 := by rw [List.length_append, htl]; rfl
    rw [hsn, ← hln]
  · intro _
    rw [cubX_len, List.take_length]
    (conv => whnf)
    refine OkG.of ?_
    (try (conv => whnf)); repeat' (first | refine Ok.seq ?_ | refine OkL.cons ?_ | ((first | refine Ok.region tok ?_ | refine Ok.region_draw tok follows (by kernel_rfl) ?_ | refine Ok.cond ?_); conv => whnf) | refine Ok.block ?_ | ((first | refine Ok.skip ?_ | refine Ok.exit ?_ | refine Ok.ret ?_ | refine nI ?_ | refine ix _ (by assumption) ?_ | refine ixI (by omega) (by assumption) ?_ | refine ix_new _ (by omega) fun _ _ => ?_ | refine ixI_new (by omega) (by omega) fun _ _ => ?_ | refine ⟨_, by assumption, ?_⟩ | refine Alt2.l (aI ?_) | refine Alt2.r (aI ?_)); conv => whnf) | (refine Ok.scope ?_) | ((first | refine Ok.label ?_ | refine rd rfl (by assumption) ?_ | refine ⟨_, .inl ⟨rfl, rfl⟩, ?_⟩ | refine ⟨_, _, rfl, rfl, ?_⟩); conv => whnf) | (refine ⟨fun _ => ?_, fun _ => ?_⟩ <;> (conv => whnf) <;> (try (exfalso; omega))) | ((first | refine aJ ?_ | refine num_any ?_ | refine ⟨_, rfl, ?_⟩); conv => whnf) | fail)
    refine Or.inl ?_; (conv => whnf)
    refine ⟨[], ?_, rfl⟩
    rw [List.take_of_length_le (by simp), List.drop_of_length_le (by simp)]
    rfl
set_option maxHeartbeats 4000000 in
theorem collect_pan {f : FuncId} {cap : List D} {l : List Str} (hY : YSpec Tryz.prog T f cap (cubX l)) (most : Int) (h0 : 0 ≤ most) (hm : most < (l.length : Int)) (hl : l.length ≤ 1000000) :
    PSpec Tryz.prog T 91 [.fn f [] cap, .i .i64 most] passedV := by
  refine PSpec.of_okG Tryz.func91 rfl Tryz.call91 (by simp) ?_
  refine OkG.seq (OkG.of ?_)
  (try (conv => whnf)); repeat' (first | refine Ok.seq ?_ | refine OkL.cons ?_ | ((first | refine Ok.region tok ?_ | refine Ok.region_draw tok follows (by kernel_rfl) ?_ | refine Ok.cond ?_); conv => whnf) | refine Ok.block ?_ | ((first | refine Ok.skip ?_ | refine Ok.exit ?_ | refine Ok.ret ?_ | refine nI ?_ | refine ix _ (by assumption) ?_ | refine ixI (by omega) (by assumption) ?_ | refine ix_new _ (by omega) fun _ _ => ?_ | refine ixI_new (by omega) (by omega) fun _ _ => ?_ | refine ⟨_, by assumption, ?_⟩ | refine Alt2.l (aI ?_) | refine Alt2.r (aI ?_)); conv => whnf) | (refine Ok.scope ?_) | ((first | refine Ok.label ?_ | refine rd rfl (by assumption) ?_ | refine ⟨_, .inl ⟨rfl, rfl⟩, ?_⟩ | refine ⟨_, _, rfl, rfl, ?_⟩); conv => whnf) | (refine ⟨fun _ => ?_, fun _ => ?_⟩ <;> (conv => whnf) <;> (try (exfalso; omega))) | ((first | refine aJ ?_ | refine num_any ?_ | refine ⟨_, rfl, ?_⟩); conv => whnf) | fail)
  refine OkG.seq (OkG.of ?_)
  (try (conv => whnf)); repeat' (first | refine Ok.seq ?_ | refine OkL.cons ?_ | ((first | refine Ok.region tok ?_ | refine Ok.region_draw tok follows (by kernel_rfl) ?_ | refine Ok.cond ?_); conv => whnf) | refine Ok.block ?_ | ((first | refine Ok.skip ?_ | refine Ok.exit ?_ | refine Ok.ret ?_ | refine nI ?_ | refine ix _ (by assumption) ?_ | refine ixI (by omega) (by assumption) ?_ | refine ix_new _ (by omega) fun _ _ => ?_ | refine ixI_new (by omega) (by omega) fun _ _ => ?_ | refine ⟨_, by assumption, ?_⟩ | refine Alt2.l (aI ?_) | refine Alt2.r (aI ?_)); conv => whnf) | (refine Ok.scope ?_) | ((first | refine Ok.label ?_ | refine rd rfl (by assumption) ?_ | refine ⟨_, .inl ⟨rfl, rfl⟩, ?_⟩ | refine ⟨_, _, rfl, rfl, ?_⟩); conv => whnf) | (refine ⟨fun _ => ?_, fun _ => ?_⟩ <;> (conv => whnf) <;> (try (exfalso; omega))) | ((first | refine aJ ?_ | refine num_any ?_ | refine ⟨_, rfl, ?_⟩); conv => whnf) | fail)
  refine OkG.seq (OkG.seq (OkG.of ?_))
  refine Ok.ghostB 1 0 46 rfl rfl ?_
  (conv => whnf)
  (try (conv => whnf)); repeat' (first | refine Ok.seq ?_ | refine OkL.cons ?_ | ((first | refine Ok.region tok ?_ | refine Ok.region_draw tok follows (by kernel_rfl) ?_ | refine Ok.cond ?_); conv => whnf) | refine Ok.block ?_ | ((first | refine Ok.skip ?_ | refine Ok.exit ?_ | refine Ok.ret ?_ | refine nI ?_ | refine ix _ (by assumption) ?_ | refine ixI (by omega) (by assumption) ?_ | refine ix_new _ (by omega) fun _ _ => ?_ | refine ixI_new (by omega) (by omega) fun _ _ => ?_ | refine ⟨_, by assumption, ?_⟩ | refine Alt2.l (aI ?_) | refine Alt2.r (aI ?_)); conv => whnf) | (refine Ok.scope ?_) | ((first | refine Ok.label ?_ | refine rd rfl (by assumption) ?_ | refine ⟨_, .inl ⟨rfl, rfl⟩, ?_⟩ | refine ⟨_, _, rfl, rfl, ?_⟩); conv => whnf) | (refine ⟨fun _ => ?_, fun _ => ?_⟩ <;> (conv => whnf) <;> (try (exfalso; omega))) | ((first | refine aJ ?_ | refine num_any ?_ | refine ⟨_, rfl, ?_⟩); conv => whnf) | fail)
  refine OkG.block ?_
  refine OkG.range [3, 5, 7] 1 2 (fun k => ⟨[(3, .bp 0 0), (5, .bp 1 0), (7, .fn f [] cap)], [[.i .i64 most], [.own 0 k]], [some (46, (l.take k).map crow)], 20⟩) (fun k => (k : Int) ≤ most) h0 (by
    (conv => whnf)
    rfl) rfl hY (fun _ => rfl) (by simp) ?_ ?_
  · intro k x hx hk
    obtain ⟨c, hc, rfl⟩ := cubX_get hx
    refine ⟨rfl, ?_⟩
    (conv => whnf)
    have hkl : k < l.length := (List.getElem?_eq_some_iff.1 hc).1
    have htl : ((l.take k).map crow).length = k := by simp; omega
    have hsn : (l.take (k + 1)).map crow = (l.take k).map crow ++ [crow c] := by rw [take_snoc hc, List.map_append]; rfl
    by_cases hkm : (k : Int) = most
    · (try (conv => whnf)); repeat' (first | (refine OkR.region_throw (fun w => by kernel_rfl) (by kernel_rfl) (by decide) (by decide) ?_; (conv => whnf)) | refine OkR.seq ?_ | refine OkL.cons ?_ | ((first | refine OkR.region tok ?_ | refine OkR.cond ?_); conv => whnf) | refine OkR.block ?_ | ((first | refine OkR.skip ?_ | refine OkR.exit ?_ | refine OkR.ret ?_ | refine nI ?_ | refine ix _ (by assumption) ?_ | refine ixI (by omega) (by assumption) ?_ | refine ix_new _ (by omega) fun _ _ => ?_ | refine ixI_new (by omega) (by omega) fun _ _ => ?_ | refine ⟨_, by assumption, ?_⟩ | refine Alt2.l (aI ?_) | refine Alt2.r (aI ?_)); conv => whnf) | (refine OkR.scope ?_) | ((first | refine OkR.label ?_ | refine rd rfl (by assumption) ?_ | refine ⟨_, .inl ⟨rfl, rfl⟩, ?_⟩ | refine ⟨_, _, rfl, rfl, ?_⟩); conv => whnf) | (refine ⟨fun _ => ?_, fun _ => ?_⟩ <;> (conv => whnf) <;> (try (exfalso; omega))) | ((first | refine aJ ?_ | refine num_any ?_ | refine ⟨_, rfl, ?_⟩); conv => whnf) | fail)
      all_goals first
        | (exfalso; omega)
        | skip
      refine ⟨fun _ h => h, ?_⟩
      (conv => whnf)
      rfl
    · (try (conv => whnf)); repeat' (first | refine OkR.seq ?_ | refine OkL.cons ?_ | ((first | refine OkR.region tok ?_ | refine OkR.cond ?_); conv => whnf) | refine OkR.block ?_ | ((first | refine OkR.skip ?_ | refine OkR.exit ?_ | refine OkR.ret ?_ | refine nI ?_ | refine ix _ (by assumption) ?_ | refine ixI (by omega) (by assumption) ?_ | refine ix_new _ (by omega) fun _ _ => ?_ | refine ixI_new (by omega) (by omega) fun _ _ => ?_ | refine ⟨_, by assumption, ?_⟩ | refine Alt2.l (aI ?_) | refine Alt2.r (aI ?_)); conv => whnf) | (refine OkR.scope ?_) | ((first | refine OkR.label ?_ | refine rd rfl (by assumption) ?_ | refine ⟨_, .inl ⟨rfl, rfl⟩, ?_⟩ | refine ⟨_, _, rfl, rfl, ?_⟩); conv => whnf) | (refine ⟨fun _ => ?_, fun _ => ?_⟩ <;> (conv => whnf) <;> (try (exfalso; omega))) | ((first | refine aJ ?_ | refine num_any ?_ | refine ⟨_, rfl, ?_⟩); conv => whnf) | fail)
      all_goals first
        | (exfalso; omega)
        | skip
      have hln : ((l.take k).map crow ++ [crow c]).length = k + 1 := by rw [List.length_append, htl]; rfl
      rw [hsn, ← hln]
  · intro h
    rw [cubX_len] at h
    exfalso
    omega
end Go.Proofs.YtaiondckookpiaaGreatDoor
namespace Go.Proofs.YtaiondckookpiaaGreatDoor
open Go Go.Vx
def splX (lim : Int) : List Str → List Str → Option (List Str)
  | [], l => some l
  | m :: ms, l => if lim < ((splL m l).length : Int) then none else splX lim ms (splL m l)
def termX (lim : Int) (t : Term) : Option (List Str) := if lim < 1 then none else splX lim t.less [t.p]
def expX (limit : Int) : List Term → List Str → Option (List Str)
  | [], out => some out
  | t :: ts, out => match termX (limit - (out.length : Int)) t with
    | none => none
    | some l => expX limit ts (out ++ l)
theorem expX_cons (limit : Int) (t : Term) (ts : List Term) (out : List Str) : expX limit (t :: ts) out = match termX (limit - (out.length : Int)) t with | none => none | some l => expX limit ts (out ++ l) := rfl
theorem splX_cons (lim : Int) (m : Str) (ms l : List Str) : splX lim (m :: ms) l = if lim < ((splL m l).length : Int) then none else splX lim ms (splL m l) := rfl
def expO (n : Int) (ts : List Term) (limit : Int) : Int × List Str :=
  if n = 0 then (11, []) else if limit < 0 ∨ 2048 < limit then (1, []) else match expX limit ts [] with
    | some l => (0, l)
    | none => (3, [])
theorem expO_zero {ts : List Term} {limit : Int} {n : Int} (h : n = 0) : expO n ts limit = (11, []) := by unfold expO; rw [if_pos h]
theorem expO_arg {n : Int} {ts : List Term} {limit : Int} (h : n ≠ 0) (h2 : limit < 0 ∨ 2048 < limit) : expO n ts limit = (1, []) := by unfold expO; rw [if_neg h, if_pos h2]
theorem expO_some {n : Int} {ts : List Term} {limit : Int} {l : List Str} (h : n ≠ 0) (h2 : ¬ (limit < 0 ∨ 2048 < limit)) (h3 : expX limit ts [] = some l) : expO n ts limit = (0, l) := by unfold expO; rw [if_neg h, if_neg h2, h3]
theorem expO_none {n : Int} {ts : List Term} {limit : Int} (h : n ≠ 0) (h2 : ¬ (limit < 0 ∨ 2048 < limit)) (h3 : expX limit ts [] = none) : expO n ts limit = (3, []) := by unfold expO; rw [if_neg h, if_neg h2, h3]
def AllW (n : Nat) (l : List Str) : Prop := ∀ c ∈ l, CN c ∧ c.length = n
theorem splL_all {n : Nat} {m : Str} {l : List Str} (h : AllW n l) (hm : CT m) : AllW n (splL m l) := by
  intro x hx
  obtain ⟨c, hc, hx⟩ := List.mem_flatMap.1 hx
  obtain ⟨h1, h2⟩ := splitT_cn (h c hc).1 hm x hx
  exact ⟨h1, h2.trans (h c hc).2⟩
theorem splL_len {n : Nat} {m : Str} : ∀ {l : List Str}, AllW n l → (splL m l).length ≤ l.length * 256
  | [], _ => by simp [splL]
  | c :: l, h => by
    have h1 := splL_len (m := m) (l := l) fun x hx => h x (by simp [hx])
    have h2 := splitT_len (d := m) (h c (by simp)).1.1.len
    have : splL m (c :: l) = splitT c m ++ splL m l := by simp [splL]
    rw [this, List.length_append, List.length_cons]
    omega
theorem splX_all {n : Nat} {lim : Int} : ∀ {ms l : List Str} {r : List Str}, AllW n l → (∀ m ∈ ms, CT m) → splX lim ms l = some r → AllW n r
  | [], l, r, hl, _, h => by cases h; exact hl
  | m :: ms, l, r, hl, hm, h => by
    unfold splX at h
    split at h
    · cases h
    · exact splX_all (splL_all hl (hm m (by simp))) (fun x hx => hm x (by simp [hx])) h
theorem splX_le {lim : Int} : ∀ {ms l : List Str} {r : List Str}, (l.length : Int) ≤ lim → splX lim ms l = some r → (r.length : Int) ≤ lim
  | [], l, r, hl, h => by cases h; exact hl
  | m :: ms, l, r, hl, h => by
    unfold splX at h
    split at h
    · cases h
    · exact splX_le (by omega) h
theorem termX_all {n : Nat} {t : Term} {lim : Int} {l : List Str} (hg : GoodT n t) (h : termX lim t = some l) : AllW n l ∧ (l.length : Int) ≤ lim := by
  unfold termX at h
  split at h
  · cases h
  · exact ⟨splX_all (fun c hc => by simp at hc; subst hc; exact ⟨hg.p, hg.ok.p⟩) (fun m hm => (hg.less m hm).1) h, splX_le (by simp; omega) h⟩
theorem expX_all {n : Nat} {limit : Int} : ∀ {ts : List Term} {out r : List Str}, (∀ t ∈ ts, GoodT n t) → AllW n out → (out.length : Int) ≤ limit → expX limit ts out = some r → AllW n r ∧ (r.length : Int) ≤ limit
  | [], out, r, _, ho, hl, h => by cases h; exact ⟨ho, hl⟩
  | t :: ts, out, r, hg, ho, hl, h => by
    unfold expX at h
    split at h
    · cases h
    · rename_i l hlx
      obtain ⟨h1, h2⟩ := termX_all (hg t (by simp)) hlx
      exact expX_all (fun x hx => hg x (by simp [hx])) (fun c hc => (List.mem_append.1 hc).elim (ho c) (h1 c)) (by rw [List.length_append]; omega) h
theorem expO_all {n : Int} {ts : List Term} {limit : Int} (hf : Fine n ts) : AllW n.toNat (expO n ts limit).2 ∧ (expO n ts limit).2.length ≤ 2048 := by
  unfold expO
  split
  · exact ⟨fun c hc => by simp at hc, by simp⟩
  · split
    · exact ⟨fun c hc => by simp at hc, by simp⟩
    · rename_i h2
      cases h : expX limit ts [] with
      | none => exact ⟨fun c hc => by simp at hc, by simp⟩
      | some l =>
        obtain ⟨h3, h4⟩ := expX_all hf.good (fun c hc => by simp at hc) (by simp; omega) h
        exact ⟨h3, by show l.length ≤ 2048; omega⟩
def EOut (o : Int × List Str) (d : D) (rows : Vx.Rows) : Prop := rows = [] ∧ ∃ rm, d = .tup [.lst 46 (o.2.map crow) rm, .i .i64 o.1]
set_option maxRecDepth 100000 in
set_option maxHeartbeats 8000000 in
theorem expand_at {n : Int} {ts : List Term} (hf : Fine n ts) (ks : List TR) (rm : List (List D)) (h1 : ks.map TR.t = ts) (limit : Int) :
    FSpec Tryz.prog T 34 [.agg [.i .i64 n, .lst 112 (ks.map trow) rm], .i .i64 limit] (EOut (expO n ts limit)) := by
  have hl1 : ks.length = ts.length := by rw [← h1, List.length_map]
  have hm1 : (ks.map trow).length = ts.length := by simp [hl1]
  have hk1 := hf.len
  have hn0 := hf.n0
  refine FSpec.of_deferK 5 tok Tryz.func34 rfl Tryz.call34 (by simp) def_expand (zd1 := [.nilS]) (zd2 := [.i .i64 3]) rfl rfl (by simp [Value.oneCell']) (by simp [Value.oneCell']) rfl ?_
  by_cases hz : n = 0
  · rw [expO_zero hz]
    subst hz
    (try (conv => whnf)); repeat' (first | refine Ok.seq ?_ | refine OkL.cons ?_ | ((first | refine Ok.region tok ?_ | refine Ok.region_plan (id := 9) tok follows [(1, 2, []), (1, 7, [2]), (4, 7, [6, 5]), (2, 7, [])] [.q 0, .q 1, .q 3, .q 4, .q 5, .q 6, .l 2, .l 7, .q 8] (by kernel_rfl) ?_ | refine Ok.region_plan (id := 13) tok follows [(1, 2, []), (1, 7, [2]), (4, 7, [6, 5]), (2, 7, [])] [.q 0, .q 1, .q 3, .q 4, .q 5, .q 6, .l 2, .l 7, .q 8] (by kernel_rfl) ?_ | refine Ok.region_draw tok follows (by kernel_rfl) ?_ | refine Ok.cond ?_); conv => whnf) | refine Ok.block ?_ | ((first | refine Ok.skip ?_ | refine Ok.exit ?_ | refine Ok.ret ?_ | refine nI ?_ | refine ix _ (by assumption) ?_ | refine ixI (by omega) (by assumption) ?_ | refine ix_new _ (by omega) fun _ _ => ?_ | refine ixI_new (by omega) (by omega) fun _ _ => ?_ | refine ⟨_, by assumption, ?_⟩ | refine Alt2.l (aI ?_) | refine Alt2.r (aI ?_)); conv => whnf) | (refine Ok.scope ?_) | ((first | refine Ok.label ?_ | refine rd rfl (by assumption) ?_ | refine ⟨_, .inl ⟨rfl, rfl⟩, ?_⟩ | refine ⟨_, _, rfl, rfl, ?_⟩); conv => whnf) | (refine ⟨fun _ => ?_, fun _ => ?_⟩ <;> (conv => whnf) <;> (try (exfalso; omega))) | ((first | refine aJ ?_ | refine num_any ?_ | refine ⟨_, rfl, ?_⟩); conv => whnf) | fail)
    · refine Or.inl ?_; (conv => whnf)
      exact ⟨rfl, [], rfl⟩
    all_goals (exfalso; rename_i h; exact h rfl)
  by_cases harg : limit < 0 ∨ 2048 < limit
  · rw [expO_arg hz harg]
    (try (conv => whnf)); repeat' (first | refine Ok.seq ?_ | refine OkL.cons ?_ | ((first | refine Ok.region tok ?_ | refine Ok.region_plan (id := 9) tok follows [(1, 2, []), (1, 7, [2]), (4, 7, [6, 5]), (2, 7, [])] [.q 0, .q 1, .q 3, .q 4, .q 5, .q 6, .l 2, .l 7, .q 8] (by kernel_rfl) ?_ | refine Ok.region_plan (id := 13) tok follows [(1, 2, []), (1, 7, [2]), (4, 7, [6, 5]), (2, 7, [])] [.q 0, .q 1, .q 3, .q 4, .q 5, .q 6, .l 2, .l 7, .q 8] (by kernel_rfl) ?_ | refine Ok.region_draw tok follows (by kernel_rfl) ?_ | refine Ok.cond ?_); conv => whnf) | refine Ok.block ?_ | ((first | refine Ok.skip ?_ | refine Ok.exit ?_ | refine Ok.ret ?_ | refine nI ?_ | refine ix _ (by assumption) ?_ | refine ixI (by omega) (by assumption) ?_ | refine ix_new _ (by omega) fun _ _ => ?_ | refine ixI_new (by omega) (by omega) fun _ _ => ?_ | refine ⟨_, by assumption, ?_⟩ | refine Alt2.l (aI ?_) | refine Alt2.r (aI ?_)); conv => whnf) | (refine Ok.scope ?_) | ((first | refine Ok.label ?_ | refine rd rfl (by assumption) ?_ | refine ⟨_, .inl ⟨rfl, rfl⟩, ?_⟩ | refine ⟨_, _, rfl, rfl, ?_⟩); conv => whnf) | (refine ⟨fun _ => ?_, fun _ => ?_⟩ <;> (conv => whnf) <;> (try (exfalso; omega))) | ((first | refine aJ ?_ | refine num_any ?_ | refine ⟨_, rfl, ?_⟩); conv => whnf) | fail)
    all_goals first
      | (exfalso; omega)
      | (refine Or.inl ?_; (conv => whnf)
         exact ⟨rfl, [], rfl⟩)
  (try (conv => whnf)); repeat' (first | refine Ok.seq ?_ | refine OkL.cons ?_ | ((first | refine Ok.region tok ?_ | refine Ok.region_plan (id := 9) tok follows [(1, 2, []), (1, 7, [2]), (4, 7, [6, 5]), (2, 7, [])] [.q 0, .q 1, .q 3, .q 4, .q 5, .q 6, .l 2, .l 7, .q 8] (by kernel_rfl) ?_ | refine Ok.region_plan (id := 13) tok follows [(1, 2, []), (1, 7, [2]), (4, 7, [6, 5]), (2, 7, [])] [.q 0, .q 1, .q 3, .q 4, .q 5, .q 6, .l 2, .l 7, .q 8] (by kernel_rfl) ?_ | refine Ok.region_draw tok follows (by kernel_rfl) ?_ | refine Ok.cond ?_); conv => whnf) | refine Ok.block ?_ | ((first | refine Ok.skip ?_ | refine Ok.exit ?_ | refine Ok.ret ?_ | refine nI ?_ | refine ix _ (by assumption) ?_ | refine ixI (by omega) (by assumption) ?_ | refine ix_new _ (by omega) fun _ _ => ?_ | refine ixI_new (by omega) (by omega) fun _ _ => ?_ | refine ⟨_, by assumption, ?_⟩ | refine Alt2.l (aI ?_) | refine Alt2.r (aI ?_)); conv => whnf) | (refine Ok.scope ?_) | ((first | refine Ok.label ?_ | refine rd rfl (by assumption) ?_ | refine ⟨_, .inl ⟨rfl, rfl⟩, ?_⟩ | refine ⟨_, _, rfl, rfl, ?_⟩); conv => whnf) | (refine ⟨fun _ => ?_, fun _ => ?_⟩ <;> (conv => whnf) <;> (try (exfalso; omega))) | ((first | refine aJ ?_ | refine num_any ?_ | refine ⟨_, rfl, ?_⟩); conv => whnf) | fail)
  all_goals first
    | (exfalso; omega)
    | skip
  refine OkL.nil ?_
  (conv => whnf)
  refine ⟨1, 2, rfl, rfl, by decide, by decide, by decide, rfl, ?_⟩
  (try (conv => whnf)); repeat' (first | refine Ok.seq ?_ | refine OkL.cons ?_ | ((first | refine Ok.region tok ?_ | refine Ok.region_plan (id := 9) tok follows [(1, 2, []), (1, 7, [2]), (4, 7, [6, 5]), (2, 7, [])] [.q 0, .q 1, .q 3, .q 4, .q 5, .q 6, .l 2, .l 7, .q 8] (by kernel_rfl) ?_ | refine Ok.region_plan (id := 13) tok follows [(1, 2, []), (1, 7, [2]), (4, 7, [6, 5]), (2, 7, [])] [.q 0, .q 1, .q 3, .q 4, .q 5, .q 6, .l 2, .l 7, .q 8] (by kernel_rfl) ?_ | refine Ok.region_draw tok follows (by kernel_rfl) ?_ | refine Ok.cond ?_); conv => whnf) | refine Ok.block ?_ | ((first | refine Ok.skip ?_ | refine Ok.exit ?_ | refine Ok.ret ?_ | refine nI ?_ | refine ix _ (by assumption) ?_ | refine ixI (by omega) (by assumption) ?_ | refine ix_new _ (by omega) fun _ _ => ?_ | refine ixI_new (by omega) (by omega) fun _ _ => ?_ | refine ⟨_, by assumption, ?_⟩ | refine Alt2.l (aI ?_) | refine Alt2.r (aI ?_)); conv => whnf) | (refine Ok.scope ?_) | ((first | refine Ok.label ?_ | refine rd rfl (by assumption) ?_ | refine ⟨_, .inl ⟨rfl, rfl⟩, ?_⟩ | refine ⟨_, _, rfl, rfl, ?_⟩); conv => whnf) | (refine ⟨fun _ => ?_, fun _ => ?_⟩ <;> (conv => whnf) <;> (try (exfalso; omega))) | ((first | refine aJ ?_ | refine num_any ?_ | refine ⟨_, rfl, ?_⟩); conv => whnf) | fail)
  refine Ok.ghostB 1 0 46 rfl rfl ?_
  (conv => whnf)
  refine Ok.loopU [1, 4, 5, 22, 23, 57, 58] [24] 1 3 (fun (x : Nat × List Str) => [.i .i64 (x.1 : Nat)]) (fun (x : Nat × List Str) (_ : List (List D)) => [[.i .i64 n, .lst 112 (ks.map trow) rm], [.own 0 x.2.length], [.i .i64 0]]) (fun (x : Nat × List Str) (_ : Vx.Rows) => [some (46, x.2.map crow)]) (fun (x : Nat × List Str) => x.1 ≤ ts.length ∧ expX limit ts [] = expX limit (ts.drop x.1) x.2 ∧ AllW n.toNat x.2 ∧ (x.2.length : Int) ≤ limit) (fun (x : Nat × List Str) => ts.length - x.1) ((0, [])) (⟨Nat.zero_le _, by simp, fun c hc => by simp at hc, by simp; omega⟩) ?_; (conv => whnf); refine ⟨by ((conv => whnf); first | rfl | (simp [envCat, List.take_of_length_le, crow, trow, srow, drow]; done) | (simp [envCat, List.take_of_length_le, crow, trow, srow, drow]; rw [IntKind.wrap_i64]; omega)), ?_⟩
  rintro ⟨i, out⟩ ⟨hi, hex, hal, hle⟩
  dsimp only at hi hex hal hle ⊢
  have hom : (out.map crow).length = out.length := by simp
  (conv => whnf)
  by_cases hil : i < ts.length
  · obtain ⟨a, ha⟩ : ∃ a, ks[i]? = some a := ⟨_, List.getElem?_eq_getElem (by omega)⟩
    have haI : ks[((i : Nat) : Int).toNat]? = some a := ha
    have hat := tr_get h1 ha
    have hag := hf.good _ (List.mem_of_getElem? hat)
    have hlb := hf.less (List.mem_of_getElem? hat)
    have hlb2 : (a.t.less.map crow).length = a.t.less.length := by simp
    rw [drop_get hat] at hex
    rw [expX_cons] at hex
    have hone := one_at a.t.p
    by_cases hlim : limit - (out.length : Int) < 1
    · rw [show termX (limit - (out.length : Int)) a.t = none by unfold termX; rw [if_pos hlim]] at hex
      rw [expO_none hz harg hex]
      (try (conv => whnf)); repeat' (first | refine Ok.seq ?_ | refine OkL.cons ?_ | ((first | refine Ok.region tok ?_ | refine Ok.cond ?_); conv => whnf) | refine Ok.block ?_ | ((first | refine Ok.skip ?_ | refine Ok.exit ?_ | refine Ok.ret ?_ | refine nI ?_ | refine ix _ (by assumption) ?_ | refine ixI (by omega) (by assumption) ?_ | refine ix_new _ (by omega) fun _ _ => ?_ | refine ixI_new (by omega) (by omega) fun _ _ => ?_ | refine ⟨_, by assumption, ?_⟩ | refine Alt2.l (aI ?_) | refine Alt2.r (aI ?_)); conv => whnf) | (refine Ok.scope ?_) | ((first | refine Ok.label ?_ | refine rd rfl (by assumption) ?_ | refine ⟨_, .inl ⟨rfl, rfl⟩, ?_⟩ | refine ⟨_, _, rfl, rfl, ?_⟩); conv => whnf) | (refine ⟨fun _ => ?_, fun _ => ?_⟩ <;> (conv => whnf) <;> (try (exfalso; omega))) | ((first | refine aJ ?_ | refine num_any ?_ | refine ⟨_, rfl, ?_⟩); conv => whnf) | fail)
      refine Ok.region_planpanS tok follows [(1, 2, [])] [.q 0, .q 1, .q 3, .q 4, .q 5, .q 6, .l 2] 7 (by kernel_rfl) ?_; (conv => whnf)
      (try (conv => whnf)); repeat' (first | refine Ok.seq ?_ | refine OkL.cons ?_ | ((first | refine Ok.region tok ?_ | refine Ok.cond ?_); conv => whnf) | refine Ok.block ?_ | ((first | refine Ok.skip ?_ | refine Ok.exit ?_ | refine Ok.ret ?_ | refine nI ?_ | refine ix _ (by assumption) ?_ | refine ixI (by omega) (by assumption) ?_ | refine ix_new _ (by omega) fun _ _ => ?_ | refine ixI_new (by omega) (by omega) fun _ _ => ?_ | refine ⟨_, by assumption, ?_⟩); conv => whnf) | (refine Or.inr (Or.inl ?_); (conv => whnf); (repeat (refine aI ?_; conv => whnf)); refine ⟨_, hone, ?_⟩; rintro _ _ ⟨rfl, rfl⟩ <;> (conv => whnf)) | ((first | refine Alt2.l (aI ?_) | refine Alt2.r (aI ?_)); conv => whnf) | (refine Ok.scope ?_) | ((first | refine Ok.label ?_ | refine rd rfl (by assumption) ?_ | refine ⟨_, .inl ⟨rfl, rfl⟩, ?_⟩ | refine ⟨_, _, rfl, rfl, ?_⟩); conv => whnf) | (refine ⟨fun _ => ?_, fun _ => ?_⟩ <;> (conv => whnf) <;> (try (exfalso; omega))) | ((first | refine aJ ?_ | refine num_any ?_ | refine ⟨_, rfl, ?_⟩); conv => whnf) | fail)
      refine ⟨_, collect_pan (one_seq a.t.p) (limit - (out.length : Int)) (by omega) (by simp; omega) (by simp), ?_⟩
      (conv => whnf)
      refine ⟨rfl, 1, 2, _, _, rfl, rfl, rfl, rfl, rfl, rfl, by decide, rfl, ?_⟩
      (conv => whnf)
      refine Or.inl ?_; (conv => whnf)
      exact ⟨rfl, _, rfl⟩
    rw [show termX (limit - (out.length : Int)) a.t = splX (limit - (out.length : Int)) a.t.less [a.t.p] by unfold termX; rw [if_neg hlim]] at hex
    (try (conv => whnf)); repeat' (first | refine Ok.seq ?_ | refine OkL.cons ?_ | ((first | refine Ok.region tok ?_ | refine Ok.region_plan (id := 9) tok follows [(1, 2, []), (1, 7, [2]), (4, 7, [6, 5]), (2, 7, [])] [.q 0, .q 1, .q 3, .q 4, .q 5, .q 6, .l 2, .l 7, .q 8] (by kernel_rfl) ?_ | refine Ok.region_plan (id := 13) tok follows [(1, 2, []), (1, 7, [2]), (4, 7, [6, 5]), (2, 7, [])] [.q 0, .q 1, .q 3, .q 4, .q 5, .q 6, .l 2, .l 7, .q 8] (by kernel_rfl) ?_ | refine Ok.region_draw tok follows (by kernel_rfl) ?_ | refine Ok.cond ?_); conv => whnf) | refine Ok.block ?_ | ((first | refine Ok.skip ?_ | refine Ok.exit ?_ | refine Ok.ret ?_ | refine nI ?_ | refine ix _ (by assumption) ?_ | refine ixI (by omega) (by assumption) ?_ | refine ix_new _ (by omega) fun _ _ => ?_ | refine ixI_new (by omega) (by omega) fun _ _ => ?_ | refine ⟨_, by assumption, ?_⟩); conv => whnf) | (refine Or.inr (Or.inl ?_); (conv => whnf); (repeat (refine aI ?_; conv => whnf)); refine ⟨_, hone, ?_⟩; rintro _ _ ⟨rfl, rfl⟩ <;> (conv => whnf)) | (refine Or.inr (Or.inl ?_); (conv => whnf); (repeat (refine aI ?_; conv => whnf)); refine ⟨_, collect_at (one_seq a.t.p) (limit - (out.length : Int)) (by simp; omega) (by simp) , ?_⟩; rintro _ _ ⟨rm5, rfl, rfl⟩ <;> (conv => whnf)) | ((first | refine Alt2.l (aI ?_) | refine Alt2.r (aI ?_)); conv => whnf) | (refine Ok.scope ?_) | ((first | refine Ok.label ?_ | refine rd rfl (by assumption) ?_ | refine ⟨_, .inl ⟨rfl, rfl⟩, ?_⟩ | refine ⟨_, _, rfl, rfl, ?_⟩); conv => whnf) | (refine ⟨fun _ => ?_, fun _ => ?_⟩ <;> (conv => whnf) <;> (try (exfalso; omega))) | ((first | refine aJ ?_ | refine num_any ?_ | refine ⟨_, rfl, ?_⟩); conv => whnf) | fail)
    refine Ok.loopU [1, 4, 5, 22, 23, 24, 37, 38, 57, 58] [8, 39] 1 4 (fun (x : Nat × List Str × List (List D)) => [.lst 46 (x.2.1.map crow) x.2.2, .i .i64 (x.1 : Nat)]) (fun (x : Nat × List Str × List (List D)) (_ : List (List D)) => [[.i .i64 n, .lst 112 (ks.map trow) rm], [.own 0 out.length], [.i .i64 0], trow a]) (fun (x : Nat × List Str × List (List D)) (_ : Vx.Rows) => [some (46, out.map crow)]) (fun (x : Nat × List Str × List (List D)) => x.1 ≤ a.t.less.length ∧ splX (limit - (out.length : Int)) a.t.less [a.t.p] = splX (limit - (out.length : Int)) (a.t.less.drop x.1) x.2.1 ∧ AllW n.toNat x.2.1 ∧ (x.2.1.length : Int) ≤ limit - (out.length : Int)) (fun (x : Nat × List Str × List (List D)) => a.t.less.length - x.1) ((0, [a.t.p], rm5)) (⟨Nat.zero_le _, rfl, fun c hc => by simp at hc; subst hc; exact ⟨hag.p, hag.ok.p⟩, by simp; omega⟩) ?_; (conv => whnf); refine ⟨by ((conv => whnf); first | rfl | (simp [envCat, List.take_of_length_le, crow, trow, srow, drow]; done) | (simp [envCat, List.take_of_length_le, crow, trow, srow, drow]; rw [IntKind.wrap_i64]; omega)), ?_⟩
    rintro ⟨j, l, rml⟩ ⟨hj, hsx, hla, hll⟩
    dsimp only at hj hsx hla hll ⊢
    have hlm : (l.map crow).length = l.length := by simp
    (conv => whnf)
    by_cases hjl : j < a.t.less.length
    · obtain ⟨m, hm⟩ : ∃ m, a.t.less[j]? = some m := ⟨_, List.getElem?_eq_getElem hjl⟩
      have hmI : a.t.less[((j : Nat) : Int).toNat]? = some m := hm
      have hmc := (hag.less m (List.mem_of_getElem? hm)).1
      have hsa := splL_all hla hmc
      have hsl := splL_len (m := m) hla
      have hseq := splits_seq l rml m (fun c hc => (hla c hc).1) hmc (by omega)
      have hsp := splits_at l rml m
      rw [drop_get hm, splX_cons] at hsx
      by_cases hov : limit - (out.length : Int) < ((splL m l).length : Int)
      · rw [if_pos hov] at hsx
        rw [hsx] at hex
        rw [expO_none hz harg hex]
        (try (conv => whnf)); repeat' (first | refine Ok.seq ?_ | refine OkL.cons ?_ | ((first | refine Ok.region tok ?_ | refine Ok.cond ?_); conv => whnf) | refine Ok.block ?_ | ((first | refine Ok.skip ?_ | refine Ok.exit ?_ | refine Ok.ret ?_ | refine nI ?_ | refine ix _ (by assumption) ?_ | refine ixI (by omega) (by assumption) ?_ | refine ix_new _ (by omega) fun _ _ => ?_ | refine ixI_new (by omega) (by omega) fun _ _ => ?_ | refine ⟨_, by assumption, ?_⟩ | refine Alt2.l (aI ?_) | refine Alt2.r (aI ?_)); conv => whnf) | (refine Ok.scope ?_) | ((first | refine Ok.label ?_ | refine rd rfl (by assumption) ?_ | refine ⟨_, .inl ⟨rfl, rfl⟩, ?_⟩ | refine ⟨_, _, rfl, rfl, ?_⟩); conv => whnf) | (refine ⟨fun _ => ?_, fun _ => ?_⟩ <;> (conv => whnf) <;> (try (exfalso; omega))) | ((first | refine aJ ?_ | refine num_any ?_ | refine ⟨_, rfl, ?_⟩); conv => whnf) | fail)
        refine Ok.region_planpanS tok follows [(1, 2, [])] [.q 0, .q 1, .q 3, .q 4, .q 5, .q 6, .l 2] 7 (by kernel_rfl) ?_; (conv => whnf)
        (try (conv => whnf)); repeat' (first | refine Ok.seq ?_ | refine OkL.cons ?_ | ((first | refine Ok.region tok ?_ | refine Ok.cond ?_); conv => whnf) | refine Ok.block ?_ | ((first | refine Ok.skip ?_ | refine Ok.exit ?_ | refine Ok.ret ?_ | refine nI ?_ | refine ix _ (by assumption) ?_ | refine ixI (by omega) (by assumption) ?_ | refine ix_new _ (by omega) fun _ _ => ?_ | refine ixI_new (by omega) (by omega) fun _ _ => ?_ | refine ⟨_, by assumption, ?_⟩); conv => whnf) | (refine Or.inr (Or.inl ?_); (conv => whnf); (repeat (refine aI ?_; conv => whnf)); refine ⟨_, hsp, ?_⟩; rintro _ _ ⟨rfl, rfl⟩ <;> (conv => whnf)) | ((first | refine Alt2.l (aI ?_) | refine Alt2.r (aI ?_)); conv => whnf) | (refine Ok.scope ?_) | ((first | refine Ok.label ?_ | refine rd rfl (by assumption) ?_ | refine ⟨_, .inl ⟨rfl, rfl⟩, ?_⟩ | refine ⟨_, _, rfl, rfl, ?_⟩); conv => whnf) | (refine ⟨fun _ => ?_, fun _ => ?_⟩ <;> (conv => whnf) <;> (try (exfalso; omega))) | ((first | refine aJ ?_ | refine num_any ?_ | refine ⟨_, rfl, ?_⟩); conv => whnf) | fail)
        refine ⟨_, collect_pan hseq (limit - (out.length : Int)) (by omega) hov (by omega), ?_⟩
        (conv => whnf)
        refine ⟨rfl, 1, 2, _, _, rfl, rfl, rfl, rfl, rfl, rfl, by decide, rfl, ?_⟩
        (conv => whnf)
        refine Or.inl ?_; (conv => whnf)
        exact ⟨rfl, _, rfl⟩
      · rw [if_neg hov] at hsx
        (try (conv => whnf)); repeat' (first | refine Ok.seq ?_ | refine OkL.cons ?_ | ((first | refine Ok.region tok ?_ | refine Ok.region_plan (id := 9) tok follows [(1, 2, []), (1, 7, [2]), (4, 7, [6, 5]), (2, 7, [])] [.q 0, .q 1, .q 3, .q 4, .q 5, .q 6, .l 2, .l 7, .q 8] (by kernel_rfl) ?_ | refine Ok.region_plan (id := 13) tok follows [(1, 2, []), (1, 7, [2]), (4, 7, [6, 5]), (2, 7, [])] [.q 0, .q 1, .q 3, .q 4, .q 5, .q 6, .l 2, .l 7, .q 8] (by kernel_rfl) ?_ | refine Ok.region_draw tok follows (by kernel_rfl) ?_ | refine Ok.cond ?_); conv => whnf) | refine Ok.block ?_ | ((first | refine Ok.skip ?_ | refine Ok.exit ?_ | refine Ok.ret ?_ | refine nI ?_ | refine ix _ (by assumption) ?_ | refine ixI (by omega) (by assumption) ?_ | refine ix_new _ (by omega) fun _ _ => ?_ | refine ixI_new (by omega) (by omega) fun _ _ => ?_ | refine ⟨_, by assumption, ?_⟩); conv => whnf) | (refine Or.inr (Or.inl ?_); (conv => whnf); (repeat (refine aI ?_; conv => whnf)); refine ⟨_, hsp, ?_⟩; rintro _ _ ⟨rfl, rfl⟩ <;> (conv => whnf)) | (refine Or.inr (Or.inl ?_); (conv => whnf); (repeat (refine aI ?_; conv => whnf)); refine ⟨_, collect_at hseq (limit - (out.length : Int)) (by omega) (by omega) , ?_⟩; rintro _ _ ⟨rm6, rfl, rfl⟩ <;> (conv => whnf)) | ((first | refine Alt2.l (aI ?_) | refine Alt2.r (aI ?_)); conv => whnf) | (refine Ok.scope ?_) | ((first | refine Ok.label ?_ | refine rd rfl (by assumption) ?_ | refine ⟨_, .inl ⟨rfl, rfl⟩, ?_⟩ | refine ⟨_, _, rfl, rfl, ?_⟩); conv => whnf) | (refine ⟨fun _ => ?_, fun _ => ?_⟩ <;> (conv => whnf) <;> (try (exfalso; omega))) | ((first | refine aJ ?_ | refine num_any ?_ | refine ⟨_, rfl, ?_⟩); conv => whnf) | fail)
        refine ⟨(j + 1, splL m l, rm6), by dsimp only; omega, ⟨by dsimp only; omega, hsx, hsa, by dsimp only; omega⟩, ?_⟩
        (conv => whnf)
        rfl
    · have hje : j = a.t.less.length := by omega
      subst hje
      rw [List.drop_length] at hsx
      have hsx : splX (limit - (out.length : Int)) a.t.less [a.t.p] = some l := hsx
      rw [hsx] at hex
      have hap : (out.map crow ++ l.map crow).length = out.length + l.length := by simp
      (try (conv => whnf)); repeat' (first | refine Ok.seq ?_ | refine OkL.cons ?_ | ((first | refine Ok.region tok ?_ | refine Ok.region_plan (id := 9) tok follows [(1, 2, []), (1, 7, [2]), (4, 7, [6, 5]), (2, 7, [])] [.q 0, .q 1, .q 3, .q 4, .q 5, .q 6, .l 2, .l 7, .q 8] (by kernel_rfl) ?_ | refine Ok.region_plan (id := 13) tok follows [(1, 2, []), (1, 7, [2]), (4, 7, [6, 5]), (2, 7, [])] [.q 0, .q 1, .q 3, .q 4, .q 5, .q 6, .l 2, .l 7, .q 8] (by kernel_rfl) ?_ | refine Ok.region_draw tok follows (by kernel_rfl) ?_ | refine Ok.cond ?_); conv => whnf) | refine Ok.block ?_ | ((first | refine Ok.skip ?_ | refine Ok.exit ?_ | refine Ok.ret ?_ | refine nI ?_ | refine ix _ (by assumption) ?_ | refine ixI (by omega) (by assumption) ?_ | refine ix_new _ (by omega) fun _ _ => ?_ | refine ixI_new (by omega) (by omega) fun _ _ => ?_ | refine ⟨_, by assumption, ?_⟩ | refine Alt2.l (aI ?_) | refine Alt2.r (aI ?_)); conv => whnf) | (refine Ok.scope ?_) | ((first | refine Ok.label ?_ | refine rd rfl (by assumption) ?_ | refine ⟨_, .inl ⟨rfl, rfl⟩, ?_⟩ | refine ⟨_, _, rfl, rfl, ?_⟩); conv => whnf) | (refine ⟨fun _ => ?_, fun _ => ?_⟩ <;> (conv => whnf) <;> (try (exfalso; omega))) | ((first | refine aJ ?_ | refine num_any ?_ | refine ⟨_, rfl, ?_⟩); conv => whnf) | fail)
      refine ⟨(i + 1, out ++ l), by dsimp only; omega, ⟨by dsimp only; omega, hex, fun c hc => (List.mem_append.1 hc).elim (hal c) (hla c), by dsimp only; rw [List.length_append]; omega⟩, ?_⟩
      (conv => whnf)
      simp [envCat]
  · have hie : i = ts.length := by omega
    subst hie
    rw [List.drop_length] at hex
    have hex : expX limit ts [] = some out := hex
    rw [expO_some hz harg hex]
    (try (conv => whnf)); repeat' (first | refine Ok.seq ?_ | refine OkL.cons ?_ | ((first | refine Ok.region tok ?_ | refine Ok.region_plan (id := 9) tok follows [(1, 2, []), (1, 7, [2]), (4, 7, [6, 5]), (2, 7, [])] [.q 0, .q 1, .q 3, .q 4, .q 5, .q 6, .l 2, .l 7, .q 8] (by kernel_rfl) ?_ | refine Ok.region_plan (id := 13) tok follows [(1, 2, []), (1, 7, [2]), (4, 7, [6, 5]), (2, 7, [])] [.q 0, .q 1, .q 3, .q 4, .q 5, .q 6, .l 2, .l 7, .q 8] (by kernel_rfl) ?_ | refine Ok.region_draw tok follows (by kernel_rfl) ?_ | refine Ok.cond ?_); conv => whnf) | refine Ok.block ?_ | ((first | refine Ok.skip ?_ | refine Ok.exit ?_ | refine Ok.ret ?_ | refine nI ?_ | refine ix _ (by assumption) ?_ | refine ixI (by omega) (by assumption) ?_ | refine ix_new _ (by omega) fun _ _ => ?_ | refine ixI_new (by omega) (by omega) fun _ _ => ?_ | refine ⟨_, by assumption, ?_⟩ | refine Alt2.l (aI ?_) | refine Alt2.r (aI ?_)); conv => whnf) | (refine Ok.scope ?_) | ((first | refine Ok.label ?_ | refine rd rfl (by assumption) ?_ | refine ⟨_, .inl ⟨rfl, rfl⟩, ?_⟩ | refine ⟨_, _, rfl, rfl, ?_⟩); conv => whnf) | (refine ⟨fun _ => ?_, fun _ => ?_⟩ <;> (conv => whnf) <;> (try (exfalso; omega))) | ((first | refine aJ ?_ | refine num_any ?_ | refine ⟨_, rfl, ?_⟩); conv => whnf) | fail)
    refine Or.inl ?_; (conv => whnf)
    refine ⟨rfl, [], ?_⟩
    rw [List.take_of_length_le (by simp), List.drop_of_length_le (by simp)]
    rfl
end Go.Proofs.YtaiondckookpiaaGreatDoor
namespace Go.Proofs.YtaiondckookpiaaGreatDoor
open Go Go.Vx
def wr1 (a b : UInt8) : UInt8 := if b = 120 then a else b
def writeL (c r : Str) : Str := List.zipWith wr1 c r
theorem writeL_len {c r : Str} (h : r.length = c.length) : (writeL c r).length = c.length := by simp [writeL, h]
theorem writeL_get {c r : Str} {i : Nat} {a b : UInt8} (ha : c[i]? = some a) (hb : r[i]? = some b) : (writeL c r)[i]? = some (wr1 a b) := by
  simp [writeL, List.getElem?_zipWith, ha, hb]
theorem writeL_bits {c r : Str} (h : r.length = c.length) (hr : CT r) (i : Nat) : car (writeL c r) i = (car c i || car r i) ∧ one (writeL c r) i = ((one c i && !car r i) || one r i) := by
  by_cases hi : i < c.length
  · have e1 := List.getElem?_eq_getElem hi
    have e2 := List.getElem?_eq_getElem (show i < r.length by omega)
    have e3 := writeL_get e1 e2
    rw [(at_b e1).1, (at_b e1).2, (at_b e2).1, (at_b e2).2, (at_b e3).1, (at_b e3).2]
    have := hr.cub _ (List.getElem_mem (show i < r.length by omega))
    generalize r[i] = b at this
    rcases this with rfl | rfl | rfl <;> simp [wr1, dig]
  · have h1 := at_out (t := c) (i := i) (by omega)
    have h2 := at_out (t := writeL c r) (i := i) (by rw [writeL_len h]; omega)
    have h3 := at_out (t := r) (i := i) (by omega)
    rw [h1.1, h1.2, h2.1, h2.2, h3.1, h3.2]
    simp
theorem wof_or2 {f g h : Nat → Bool} (e : ∀ i, h i = (f i || g i)) (k : Nat) : wof h k = wof f k ||| wof g k := by
  refine BitVec.eq_of_getLsbD_eq fun i hi => ?_
  rw [BitVec.getLsbD_or, wof_get _ _ _ hi, wof_get _ _ _ hi, wof_get _ _ _ hi, e]
theorem wof_over {f g p h : Nat → Bool} (e : ∀ i, h i = ((f i && !g i) || p i)) (k : Nat) : wof h k = (wof f k &&& ~~~ wof g k) ||| wof p k := by
  refine BitVec.eq_of_getLsbD_eq fun i hi => ?_
  rw [BitVec.getLsbD_or, BitVec.getLsbD_and, BitVec.getLsbD_not, wof_get _ _ _ hi, wof_get _ _ _ hi, wof_get _ _ _ hi, wof_get _ _ _ hi, e]
  simp [hi]
def wwc (w : Nat) (f g : Nat → Bool) (k : Nat) : BitVec 64 := if k < w then wof f k ||| wof g k else wof f k
def wwo (w : Nat) (f g p : Nat → Bool) (k : Nat) : BitVec 64 := if k < w then (wof f k &&& ~~~ wof g k) ||| wof p k else wof f k
@[reducible] def wcells (n w : Nat) (c d : Str) : List D := [.i .i64 (n : Int), .i .u64 ((wwc w (car c) (car d) 0).toNat : Int), .i .u64 ((wwc w (car c) (car d) 1).toNat : Int), .i .u64 ((wwc w (car c) (car d) 2).toNat : Int), .i .u64 ((wwc w (car c) (car d) 3).toNat : Int), .i .u64 ((wwo w (one c) (car d) (one d) 0).toNat : Int), .i .u64 ((wwo w (one c) (car d) (one d) 1).toNat : Int), .i .u64 ((wwo w (one c) (car d) (one d) 2).toNat : Int), .i .u64 ((wwo w (one c) (car d) (one d) 3).toNat : Int)]
theorem wcells_end {c d : Str} (h : d.length = c.length) (hd : CT d) : wcells c.length 4 c d = crow (writeL c d) := by
  simp only [wcells, crow, cells9, wwc, wwo, wof_or2 (fun i => (writeL_bits h hd i).1), wof_over (fun i => (writeL_bits h hd i).2), writeL_len h]
  rfl
theorem writeL_ct {c r : Str} (hc : CT c) (hr : CT r) (h : r.length = c.length) : CT (writeL c r) := by
  refine ⟨by rw [writeL_len h]; exact hc.len, fun b hb => ?_⟩
  obtain ⟨k, hk⟩ := List.getElem?_of_mem hb
  have hkl : k < c.length := by have := (List.getElem?_eq_some_iff.1 hk).1; rw [writeL_len h] at this; exact this
  have e1 := List.getElem?_eq_getElem hkl
  have e2 := List.getElem?_eq_getElem (show k < r.length by omega)
  rw [writeL_get e1 e2] at hk
  cases hk
  unfold wr1
  split
  · exact hc.cub _ (List.getElem_mem hkl)
  · exact hr.cub _ (List.getElem_mem _)
theorem writeL_cn {c r : Str} (hc : CN c) (hr : CT r) (h : r.length = c.length) : CN (writeL c r) :=
  ⟨writeL_ct hc.1 hr h, fun e => hc.2 (List.eq_nil_of_length_eq_zero (by rw [← writeL_len h, e]; rfl))⟩
set_option maxHeartbeats 4000000 in
theorem write_at (c d : Str) (hc : CN c) (hd : CT d) (hl : d.length = c.length) : FSpec Tryz.prog T 95 [.agg (crow c), .agg (crow d)] (fun r rows => r = .agg (crow (writeL c d)) ∧ rows = []) := by
  have hpos : 0 < c.length := List.length_pos_iff.2 hc.2
  refine FSpec.of_ok tok Tryz.func95 rfl Tryz.call95 (by simp) ?_
  (try (conv => whnf)); repeat' (first | ((with_reducible_and_instances (first | refine nShr (by assumption) ?_ | refine nShl1' rfl (by assumption) ?_ | refine nAnd ?_ | refine nOr ?_ | refine nXor ?_ | refine nAndNot ?_ | refine nAnd1' rfl ?_)); conv => whnf) | refine Ok.seq ?_ | refine OkL.cons ?_ | ((first | refine Ok.region tok ?_ | refine Ok.region_plan (id := 6) tok follows [(3, 11, []), (7, 11, [])] [.q 0, .q 1, .q 2, .q 3, .q 4, .q 5, .q 6, .q 7, .q 8, .q 9, .q 10, .l 11] (by kernel_rfl) ?_ | refine Ok.region_plan (id := 7) tok follows [(4, 17, []), (8, 17, []), (13, 17, [])] [.q 0, .q 1, .q 2, .q 3, .q 4, .q 5, .q 6, .q 7, .q 8, .q 9, .q 10, .q 11, .q 12, .q 13, .q 14, .q 15, .q 16, .l 17] (by kernel_rfl) ?_ | refine Ok.region_draw tok follows (by kernel_rfl) ?_ | refine Ok.cond ?_); conv => whnf) | refine Ok.block ?_ | ((first | refine Ok.skip ?_ | refine Ok.exit ?_ | refine Ok.ret ?_ | refine nI ?_ | refine ix _ (by assumption) ?_ | refine ixI (by omega) (by assumption) ?_ | refine ix_new _ (by omega) fun _ _ => ?_ | refine ixI_new (by omega) (by omega) fun _ _ => ?_ | refine ⟨_, by assumption, ?_⟩); conv => whnf) | (refine Or.inl ?_; (conv => whnf); (repeat (refine aI ?_; conv => whnf)); refine ⟨_, fits_at c d, rfl, ?_⟩; conv => whnf) | (refine ⟨_, fits_at c d, rfl, ?_⟩; conv => whnf) | (refine Or.inr (Or.inl ?_); (conv => whnf); (repeat (refine aI ?_; conv => whnf)); refine ⟨_, fits_at c d, ?_⟩; rintro _ _ ⟨rfl, rfl⟩; conv => whnf) | ((first | refine Alt2.l (aI ?_) | refine Alt2.r (aI ?_)); conv => whnf) | (refine Ok.scope ?_) | ((first | refine Ok.label ?_ | refine rd rfl (by assumption) ?_ | refine ⟨_, .inl ⟨rfl, rfl⟩, ?_⟩ | refine ⟨_, _, rfl, rfl, ?_⟩); conv => whnf) | (refine ⟨fun _ => ?_, fun _ => ?_⟩ <;> (conv => whnf) <;> (try (exfalso; omega))) | ((first | refine aJ ?_ | refine num_any ?_ | refine ⟨_, rfl, ?_⟩); conv => whnf) | fail)
  all_goals first
    | (exfalso; omega)
    | skip
  refine Ok.loopU [2, 3, 4] [11] 0 3 (fun (w : Nat) => [.i .i64 (w : Nat)]) (fun (w : Nat) (_ : List (List D)) => [wcells c.length w c d, crow d, [.i .i64 0, .i .u64 0, .i .u64 0, .i .u64 0, .i .u64 0, .i .u64 0, .i .u64 0, .i .u64 0, .i .u64 0]]) (fun _ r => r) (fun (w : Nat) => w ≤ 4) (fun (w : Nat) => 4 - w) (0) (by omega) ?_; (conv => whnf); refine ⟨by ((conv => whnf); first | rfl | (simp [envCat, List.take_of_length_le, cells9, wcells, bcell, crow]; done) | (simp [envCat, List.take_of_length_le, cells9, wcells, bcell, crow]; rw [IntKind.wrap_i64]; omega)), ?_⟩
  rintro w hw
  (conv => whnf)
  by_cases hw4 : w = 4
  · subst hw4
    (try (conv => whnf)); repeat' (first | ((with_reducible_and_instances (first | refine nShr (by assumption) ?_ | refine nShl1' rfl (by assumption) ?_ | refine nAnd ?_ | refine nOr ?_ | refine nXor ?_ | refine nAndNot ?_ | refine nAnd1' rfl ?_)); conv => whnf) | refine Ok.seq ?_ | refine OkL.cons ?_ | ((first | refine Ok.region tok ?_ | refine Ok.region_plan (id := 6) tok follows [(3, 11, []), (7, 11, [])] [.q 0, .q 1, .q 2, .q 3, .q 4, .q 5, .q 6, .q 7, .q 8, .q 9, .q 10, .l 11] (by kernel_rfl) ?_ | refine Ok.region_plan (id := 7) tok follows [(4, 17, []), (8, 17, []), (13, 17, [])] [.q 0, .q 1, .q 2, .q 3, .q 4, .q 5, .q 6, .q 7, .q 8, .q 9, .q 10, .q 11, .q 12, .q 13, .q 14, .q 15, .q 16, .l 17] (by kernel_rfl) ?_ | refine Ok.region_draw tok follows (by kernel_rfl) ?_ | refine Ok.cond ?_); conv => whnf) | refine Ok.block ?_ | ((first | refine Ok.skip ?_ | refine Ok.exit ?_ | refine Ok.ret ?_ | refine nI ?_ | refine ix _ (by assumption) ?_ | refine ixI (by omega) (by assumption) ?_ | refine ix_new _ (by omega) fun _ _ => ?_ | refine ixI_new (by omega) (by omega) fun _ _ => ?_ | refine ⟨_, by assumption, ?_⟩ | refine Alt2.l (aI ?_) | refine Alt2.r (aI ?_)); conv => whnf) | (refine Ok.scope ?_) | ((first | refine Ok.label ?_ | refine rd rfl (by assumption) ?_ | refine ⟨_, .inl ⟨rfl, rfl⟩, ?_⟩ | refine ⟨_, _, rfl, rfl, ?_⟩); conv => whnf) | (refine ⟨fun _ => ?_, fun _ => ?_⟩ <;> (conv => whnf) <;> (try (exfalso; omega))) | ((first | refine aJ ?_ | refine num_any ?_ | refine ⟨_, rfl, ?_⟩); conv => whnf) | fail)
    refine Or.inl ?_; (conv => whnf)
    refine ⟨?_, rfl⟩
    show D.agg (wcells c.length 4 c d) = _
    rw [wcells_end hl hd]
  · rcases (by omega : w = 0 ∨ w = 1 ∨ w = 2 ∨ w = 3) with rfl | rfl | rfl | rfl
    · (try (conv => whnf)); repeat' (first | ((with_reducible_and_instances (first | refine nShr (by assumption) ?_ | refine nShl1' rfl (by assumption) ?_ | refine nAnd ?_ | refine nOr ?_ | refine nXor ?_ | refine nAndNot ?_ | refine nAnd1' rfl ?_)); conv => whnf) | refine Ok.seq ?_ | refine OkL.cons ?_ | ((first | refine Ok.region tok ?_ | refine Ok.region_plan (id := 6) tok follows [(3, 11, []), (7, 11, [])] [.q 0, .q 1, .q 2, .q 3, .q 4, .q 5, .q 6, .q 7, .q 8, .q 9, .q 10, .l 11] (by kernel_rfl) ?_ | refine Ok.region_plan (id := 7) tok follows [(4, 17, []), (8, 17, []), (13, 17, [])] [.q 0, .q 1, .q 2, .q 3, .q 4, .q 5, .q 6, .q 7, .q 8, .q 9, .q 10, .q 11, .q 12, .q 13, .q 14, .q 15, .q 16, .l 17] (by kernel_rfl) ?_ | refine Ok.region_draw tok follows (by kernel_rfl) ?_ | refine Ok.cond ?_); conv => whnf) | refine Ok.block ?_ | ((first | refine Ok.skip ?_ | refine Ok.exit ?_ | refine Ok.ret ?_ | refine nI ?_ | refine ix _ (by assumption) ?_ | refine ixI (by omega) (by assumption) ?_ | refine ix_new _ (by omega) fun _ _ => ?_ | refine ixI_new (by omega) (by omega) fun _ _ => ?_ | refine ⟨_, by assumption, ?_⟩ | refine Alt2.l (aI ?_) | refine Alt2.r (aI ?_)); conv => whnf) | (refine Ok.scope ?_) | ((first | refine Ok.label ?_ | refine rd rfl (by assumption) ?_ | refine ⟨_, .inl ⟨rfl, rfl⟩, ?_⟩ | refine ⟨_, _, rfl, rfl, ?_⟩); conv => whnf) | (refine ⟨fun _ => ?_, fun _ => ?_⟩ <;> (conv => whnf) <;> (try (exfalso; omega))) | ((first | refine aJ ?_ | refine num_any ?_ | refine ⟨_, rfl, ?_⟩); conv => whnf) | fail)
      refine ⟨1, by omega, by omega, ?_⟩
      (conv => whnf)
      rfl
    · (try (conv => whnf)); repeat' (first | ((with_reducible_and_instances (first | refine nShr (by assumption) ?_ | refine nShl1' rfl (by assumption) ?_ | refine nAnd ?_ | refine nOr ?_ | refine nXor ?_ | refine nAndNot ?_ | refine nAnd1' rfl ?_)); conv => whnf) | refine Ok.seq ?_ | refine OkL.cons ?_ | ((first | refine Ok.region tok ?_ | refine Ok.region_plan (id := 6) tok follows [(3, 11, []), (7, 11, [])] [.q 0, .q 1, .q 2, .q 3, .q 4, .q 5, .q 6, .q 7, .q 8, .q 9, .q 10, .l 11] (by kernel_rfl) ?_ | refine Ok.region_plan (id := 7) tok follows [(4, 17, []), (8, 17, []), (13, 17, [])] [.q 0, .q 1, .q 2, .q 3, .q 4, .q 5, .q 6, .q 7, .q 8, .q 9, .q 10, .q 11, .q 12, .q 13, .q 14, .q 15, .q 16, .l 17] (by kernel_rfl) ?_ | refine Ok.region_draw tok follows (by kernel_rfl) ?_ | refine Ok.cond ?_); conv => whnf) | refine Ok.block ?_ | ((first | refine Ok.skip ?_ | refine Ok.exit ?_ | refine Ok.ret ?_ | refine nI ?_ | refine ix _ (by assumption) ?_ | refine ixI (by omega) (by assumption) ?_ | refine ix_new _ (by omega) fun _ _ => ?_ | refine ixI_new (by omega) (by omega) fun _ _ => ?_ | refine ⟨_, by assumption, ?_⟩ | refine Alt2.l (aI ?_) | refine Alt2.r (aI ?_)); conv => whnf) | (refine Ok.scope ?_) | ((first | refine Ok.label ?_ | refine rd rfl (by assumption) ?_ | refine ⟨_, .inl ⟨rfl, rfl⟩, ?_⟩ | refine ⟨_, _, rfl, rfl, ?_⟩); conv => whnf) | (refine ⟨fun _ => ?_, fun _ => ?_⟩ <;> (conv => whnf) <;> (try (exfalso; omega))) | ((first | refine aJ ?_ | refine num_any ?_ | refine ⟨_, rfl, ?_⟩); conv => whnf) | fail)
      refine ⟨2, by omega, by omega, ?_⟩
      (conv => whnf)
      rfl
    · (try (conv => whnf)); repeat' (first | ((with_reducible_and_instances (first | refine nShr (by assumption) ?_ | refine nShl1' rfl (by assumption) ?_ | refine nAnd ?_ | refine nOr ?_ | refine nXor ?_ | refine nAndNot ?_ | refine nAnd1' rfl ?_)); conv => whnf) | refine Ok.seq ?_ | refine OkL.cons ?_ | ((first | refine Ok.region tok ?_ | refine Ok.region_plan (id := 6) tok follows [(3, 11, []), (7, 11, [])] [.q 0, .q 1, .q 2, .q 3, .q 4, .q 5, .q 6, .q 7, .q 8, .q 9, .q 10, .l 11] (by kernel_rfl) ?_ | refine Ok.region_plan (id := 7) tok follows [(4, 17, []), (8, 17, []), (13, 17, [])] [.q 0, .q 1, .q 2, .q 3, .q 4, .q 5, .q 6, .q 7, .q 8, .q 9, .q 10, .q 11, .q 12, .q 13, .q 14, .q 15, .q 16, .l 17] (by kernel_rfl) ?_ | refine Ok.region_draw tok follows (by kernel_rfl) ?_ | refine Ok.cond ?_); conv => whnf) | refine Ok.block ?_ | ((first | refine Ok.skip ?_ | refine Ok.exit ?_ | refine Ok.ret ?_ | refine nI ?_ | refine ix _ (by assumption) ?_ | refine ixI (by omega) (by assumption) ?_ | refine ix_new _ (by omega) fun _ _ => ?_ | refine ixI_new (by omega) (by omega) fun _ _ => ?_ | refine ⟨_, by assumption, ?_⟩ | refine Alt2.l (aI ?_) | refine Alt2.r (aI ?_)); conv => whnf) | (refine Ok.scope ?_) | ((first | refine Ok.label ?_ | refine rd rfl (by assumption) ?_ | refine ⟨_, .inl ⟨rfl, rfl⟩, ?_⟩ | refine ⟨_, _, rfl, rfl, ?_⟩); conv => whnf) | (refine ⟨fun _ => ?_, fun _ => ?_⟩ <;> (conv => whnf) <;> (try (exfalso; omega))) | ((first | refine aJ ?_ | refine num_any ?_ | refine ⟨_, rfl, ?_⟩); conv => whnf) | fail)
      refine ⟨3, by omega, by omega, ?_⟩
      (conv => whnf)
      rfl
    · (try (conv => whnf)); repeat' (first | ((with_reducible_and_instances (first | refine nShr (by assumption) ?_ | refine nShl1' rfl (by assumption) ?_ | refine nAnd ?_ | refine nOr ?_ | refine nXor ?_ | refine nAndNot ?_ | refine nAnd1' rfl ?_)); conv => whnf) | refine Ok.seq ?_ | refine OkL.cons ?_ | ((first | refine Ok.region tok ?_ | refine Ok.region_plan (id := 6) tok follows [(3, 11, []), (7, 11, [])] [.q 0, .q 1, .q 2, .q 3, .q 4, .q 5, .q 6, .q 7, .q 8, .q 9, .q 10, .l 11] (by kernel_rfl) ?_ | refine Ok.region_plan (id := 7) tok follows [(4, 17, []), (8, 17, []), (13, 17, [])] [.q 0, .q 1, .q 2, .q 3, .q 4, .q 5, .q 6, .q 7, .q 8, .q 9, .q 10, .q 11, .q 12, .q 13, .q 14, .q 15, .q 16, .l 17] (by kernel_rfl) ?_ | refine Ok.region_draw tok follows (by kernel_rfl) ?_ | refine Ok.cond ?_); conv => whnf) | refine Ok.block ?_ | ((first | refine Ok.skip ?_ | refine Ok.exit ?_ | refine Ok.ret ?_ | refine nI ?_ | refine ix _ (by assumption) ?_ | refine ixI (by omega) (by assumption) ?_ | refine ix_new _ (by omega) fun _ _ => ?_ | refine ixI_new (by omega) (by omega) fun _ _ => ?_ | refine ⟨_, by assumption, ?_⟩ | refine Alt2.l (aI ?_) | refine Alt2.r (aI ?_)); conv => whnf) | (refine Ok.scope ?_) | ((first | refine Ok.label ?_ | refine rd rfl (by assumption) ?_ | refine ⟨_, .inl ⟨rfl, rfl⟩, ?_⟩ | refine ⟨_, _, rfl, rfl, ?_⟩); conv => whnf) | (refine ⟨fun _ => ?_, fun _ => ?_⟩ <;> (conv => whnf) <;> (try (exfalso; omega))) | ((first | refine aJ ?_ | refine num_any ?_ | refine ⟨_, rfl, ?_⟩); conv => whnf) | fail)
      refine ⟨4, by omega, by omega, ?_⟩
      (conv => whnf)
      rfl
theorem wr_fill {c r : Str} {i : Nat} {a b : UInt8} (ha : c[i]? = some a) (hb : r[i]? = some b) : writeL (c.take (i + 1)) (r.take (i + 1)) ++ c.drop (i + 1) = (writeL (c.take i) (r.take i) ++ c.drop i).set i (wr1 a b) := by
  have hi : i < c.length := (List.getElem?_eq_some_iff.1 ha).1
  have hi2 : i < r.length := (List.getElem?_eq_some_iff.1 hb).1
  have hl : (writeL (c.take i) (r.take i)).length = i := by simp [writeL]; omega
  rw [List.set_append, if_neg (by omega), hl, Nat.sub_self, List.drop_eq_getElem_cons hi, List.set_cons_zero, take_snoc ha, take_snoc hb]
  unfold writeL
  rw [List.zipWith_append (by simp; omega)]
  simp
theorem wr_at {c r : Str} {i : Nat} {a : UInt8} (ha : c[i]? = some a) (hir : i < r.length) : (writeL (c.take i) (r.take i) ++ c.drop i)[i]? = some a := by
  have hi : i < c.length := (List.getElem?_eq_some_iff.1 ha).1
  have hl : (writeL (c.take i) (r.take i)).length = i := by simp [writeL]; omega
  rw [List.getElem?_append_right (by omega), hl, Nat.sub_self, List.getElem?_drop]
  exact ha
end Go.Proofs.YtaiondckookpiaaGreatDoor
namespace Go.Proofs.YtaiondckookpiaaGreatDoor
open Go Go.Vx
def aft (r : Str) (l : List Str) : List Term := l.map fun c => ⟨writeL c r, []⟩
open Classical in
noncomputable def aftO (n : Int) (ts : List Term) (r : Str) (limit : Int) : Int × Int × List Term := if fitP n (r.length : Int) then (if (expO n ts limit).1 = 0 then bndO n (formT (aft r (expO n ts limit).2)) else ((expO n ts limit).1, 0, [])) else (11, 0, [])
theorem aftO_fit {n : Int} {ts : List Term} {r : Str} {limit : Int} (h : fitP n (r.length : Int)) (h2 : (expO n ts limit).1 = 0) : aftO n ts r limit = bndO n (formT (aft r (expO n ts limit).2)) := by unfold aftO; rw [if_pos h, if_pos h2]
theorem aftO_err {n : Int} {ts : List Term} {r : Str} {limit : Int} (h : fitP n (r.length : Int)) (h2 : (expO n ts limit).1 ≠ 0) : aftO n ts r limit = ((expO n ts limit).1, 0, []) := by unfold aftO; rw [if_pos h, if_neg h2]
theorem aftO_not {n : Int} {ts : List Term} {r : Str} {limit : Int} (h : ¬ fitP n (r.length : Int)) : aftO n ts r limit = (11, 0, []) := by unfold aftO; rw [if_neg h]
theorem termT_nil (p : Str) : termT p [] = some ⟨p, []⟩ := by
  have h : PK p [] = [] := rfl
  rw [termT_pk1 (by rw [h]; simp), h]
theorem aft_good {n : Nat} {r : Str} {l : List Str} (h : AllW n l) (hr : CT r) (hl : r.length = n) (h0 : 0 < n) : ∀ t ∈ aft r l, GoodT n t := by
  intro t ht
  obtain ⟨c, hc, rfl⟩ := List.mem_map.1 ht
  have hh := h c hc
  exact ⟨⟨h0, by dsimp only; rw [writeL_len (by omega)]; exact hh.2, fun m hm => by simp at hm⟩, writeL_cn hh.1 hr (by omega), fun m hm => by simp at hm⟩
theorem aft_snoc {r c : Str} {l : List Str} {i : Nat} (h : l[i]? = some c) : aft r (l.take (i + 1)) = aft r (l.take i) ++ [⟨writeL c r, []⟩] := by
  unfold aft
  rw [take_snoc h, List.map_append]
  rfl
theorem aftO_fine {n : Int} {ts : List Term} {r : Str} {limit : Int} (hf : Fine n ts) (hr : CT r) : Fine (aftO n ts r limit).2.1 (aftO n ts r limit).2.2 := by
  by_cases h : fitP n (r.length : Int)
  · have h1 := h.1
    have h2 := h.2
    by_cases hx : (expO n ts limit).1 = 0
    · rw [aftO_fit h hx]
      exact bndO_fine hf.n0 hf.n1 (aft_good (expO_all hf).1 hr (by omega) (by omega))
    · rw [aftO_err h hx]; exact Fine.nil (n := 0) (by decide) (by decide)
  · rw [aftO_not h]; exact .nil (by decide) (by decide)
set_option maxRecDepth 100000 in
set_option maxHeartbeats 8000000 in
theorem after_at {n : Int} {ts : List Term} (hf : Fine n ts) (ks : List TR) (rm : List (List D)) (h1 : ks.map TR.t = ts) (r : Str) (hr : CT r) (limit : Int) :
    FSpec Tryz.prog T 37 [.agg [.i .i64 n, .lst 112 (ks.map trow) rm], .agg (crow r), .i .i64 limit] (POut (aftO n ts r limit)) := by
  have hfit := fits2_at n (r.length : Int)
  have htx := text_at r hr
  have hex := expand_at hf ks rm h1 limit
  have hal := expO_all (limit := limit) hf
  have hn0 := hf.n0
  have hrl := hr.len
  refine FSpec.of_deferK 6 tok Tryz.func37 rfl Tryz.call37 (by simp) def_after (zd1 := [.i .i64 0, .nilS]) (zd2 := [.i .i64 3]) rfl rfl (by simp [Value.oneCell']) (by simp [Value.oneCell']) rfl ?_
  by_cases hfp : fitP n (r.length : Int)
  · have hnr := hfp.1
    have hn1 := hfp.2
    by_cases hx : (expO n ts limit).1 = 0
    · rw [aftO_fit hfp hx]
      generalize expO n ts limit = o at *
      obtain ⟨x, l⟩ := o
      dsimp only at hx hal ⊢
      subst hx
      have hlm : (l.map crow).length = l.length := by simp
      obtain ⟨hal, hll⟩ := hal
      (try (conv => whnf)); repeat' (first | refine Ok.seq ?_ | refine OkL.cons ?_ | ((first | refine Ok.region tok ?_ | refine Ok.region_plan (id := 5) tok follows [(1, 3, []), (2, 3, [])] [.q 0, .q 1, .l 2, .l 3] (by kernel_rfl) ?_ | refine Ok.region_draw tok follows (by kernel_rfl) ?_ | refine Ok.cond ?_); conv => whnf) | refine Ok.block ?_ | ((first | refine Ok.skip ?_ | refine Ok.exit ?_ | refine Ok.ret ?_ | refine nI ?_ | refine ix _ (by assumption) ?_ | refine ixI (by omega) (by assumption) ?_ | refine ix_new _ (by omega) fun _ _ => ?_ | refine ixI_new (by omega) (by omega) fun _ _ => ?_ | refine ⟨_, by assumption, ?_⟩); conv => whnf) | (refine Or.inl ?_; (conv => whnf); (repeat (refine aI ?_; conv => whnf)); refine ⟨_, htx, rfl, ?_⟩; conv => whnf) | (refine Or.inl ?_; (conv => whnf); (repeat (refine aI ?_; conv => whnf)); refine ⟨_, hfit, rfl, ?_⟩; conv => whnf) | ((first | refine ⟨_, htx, rfl, ?_⟩ | refine ⟨_, hfit, rfl, ?_⟩); conv => whnf) | (refine Or.inr (Or.inl ?_); (conv => whnf); (repeat (refine aI ?_; conv => whnf)); refine ⟨_, htx, ?_⟩; rintro _ _ ⟨rfl, rfl⟩; conv => whnf) | (refine Or.inr (Or.inl ?_); (conv => whnf); (repeat (refine aI ?_; conv => whnf)); refine ⟨_, hfit, ?_⟩; rintro _ _ ⟨rfl, rfl⟩; conv => whnf) | (refine Or.inr (Or.inl ?_); (conv => whnf); (repeat (refine aI ?_; conv => whnf)); refine ⟨_, hex , ?_⟩; rintro _ _ ⟨rfl, rm5, rfl⟩ <;> (conv => whnf)) | ((first | refine Alt2.l (aI ?_) | refine Alt2.r (aI ?_)); conv => whnf) | (refine Ok.scope ?_) | ((first | refine Ok.label ?_ | refine rd rfl (by assumption) ?_ | refine ⟨_, .inl ⟨rfl, rfl⟩, ?_⟩ | refine ⟨_, _, rfl, rfl, ?_⟩); conv => whnf) | (refine ⟨fun _ => ?_, fun _ => ?_⟩ <;> (conv => whnf) <;> (try (exfalso; omega))) | ((first | refine aJ ?_ | refine num_any ?_ | refine ⟨_, rfl, ?_⟩); conv => whnf) | fail)
      all_goals first
        | exact absurd hfp (by assumption)
        | (rename_i h; exact absurd rfl h)
        | skip
      refine OkL.nil ?_
      (conv => whnf)
      refine ⟨2, 3, rfl, rfl, by decide, by decide, by decide, rfl, ?_⟩
      (try (conv => whnf)); repeat' (first | refine Ok.seq ?_ | refine OkL.cons ?_ | ((first | refine Ok.region tok ?_ | refine Ok.region_plan (id := 5) tok follows [(1, 3, []), (2, 3, [])] [.q 0, .q 1, .l 2, .l 3] (by kernel_rfl) ?_ | refine Ok.region_draw tok follows (by kernel_rfl) ?_ | refine Ok.cond ?_); conv => whnf) | refine Ok.block ?_ | ((first | refine Ok.skip ?_ | refine Ok.exit ?_ | refine Ok.ret ?_ | refine nI ?_ | refine ix _ (by assumption) ?_ | refine ixI (by omega) (by assumption) ?_ | refine ix_new _ (by omega) fun _ _ => ?_ | refine ixI_new (by omega) (by omega) fun _ _ => ?_ | refine ⟨_, by assumption, ?_⟩ | refine Alt2.l (aI ?_) | refine Alt2.r (aI ?_)); conv => whnf) | (refine Ok.scope ?_) | ((first | refine Ok.label ?_ | refine rd rfl (by assumption) ?_ | refine ⟨_, .inl ⟨rfl, rfl⟩, ?_⟩ | refine ⟨_, _, rfl, rfl, ?_⟩); conv => whnf) | (refine ⟨fun _ => ?_, fun _ => ?_⟩ <;> (conv => whnf) <;> (try (exfalso; omega))) | ((first | refine aJ ?_ | refine num_any ?_ | refine ⟨_, rfl, ?_⟩); conv => whnf) | fail)
      refine Ok.ghost 9 112 rfl ?_
      (conv => whnf)
      refine Ok.loopU [3, 4, 6, 7, 33, 34, 56, 57] [9, 35] 1 4 (fun (x : Nat × List TR) => [.own 0 x.2.length, .i .i64 (x.1 : Nat)]) (fun _ b => b) (fun (x : Nat × List TR) (_ : Vx.Rows) => [some (112, x.2.map trow)]) (fun (x : Nat × List TR) => x.1 ≤ l.length ∧ x.2.map TR.t = aft r (l.take x.1) ∧ x.2.length ≤ x.1) (fun (x : Nat × List TR) => l.length - x.1) ((0, [])) (⟨Nat.zero_le _, by simp [aft], by simp⟩) ?_; (conv => whnf); refine ⟨by ((conv => whnf); first | rfl | (simp [envCat, List.take_of_length_le, crow, trow, srow, drow]; done) | (simp [envCat, List.take_of_length_le, crow, trow, srow, drow]; rw [IntKind.wrap_i64]; omega)), ?_⟩
      rintro ⟨i, tl⟩ ⟨hi, hl, htl⟩
      dsimp only at hi hl htl ⊢
      have htm : (tl.map trow).length = tl.length := by simp
      (conv => whnf)
      by_cases hil : i < l.length
      · obtain ⟨c, hc⟩ : ∃ c, l[i]? = some c := ⟨_, List.getElem?_eq_getElem hil⟩
        have hcI : l[((i : Nat) : Int).toNat]? = some c := hc
        have hcw := hal c (List.mem_of_getElem? hc)
        have hwr := write_at c r hcw.1 hr (by omega)
        have hcn := writeL_cn hcw.1 hr (show r.length = c.length by omega)
        have hnew : FSpec Tryz.prog T 72 [.agg (crow (writeL c r)), .lst 58 [] []] (NewT (writeL c r) []) := newTerm_at (writeL c r) [] (room := []) hcn (by simp) (by simp [allL]) (by simp) rfl
        (try (conv => whnf)); repeat' (first | refine Ok.seq ?_ | refine OkL.cons ?_ | ((first | refine Ok.region tok ?_ | refine Ok.region_plan (id := 5) tok follows [(1, 3, []), (2, 3, [])] [.q 0, .q 1, .l 2, .l 3] (by kernel_rfl) ?_ | refine Ok.region_draw tok follows (by kernel_rfl) ?_ | refine Ok.cond ?_); conv => whnf) | refine Ok.block ?_ | ((first | refine Ok.skip ?_ | refine Ok.exit ?_ | refine Ok.ret ?_ | refine nI ?_ | refine ix _ (by assumption) ?_ | refine ixI (by omega) (by assumption) ?_ | refine ix_new _ (by omega) fun _ _ => ?_ | refine ixI_new (by omega) (by omega) fun _ _ => ?_ | refine ⟨_, by assumption, ?_⟩); conv => whnf) | (refine Or.inr (Or.inl ?_); (conv => whnf); (repeat (refine aI ?_; conv => whnf)); refine ⟨_, hwr, ?_⟩; rintro _ _ ⟨rfl, rfl⟩ <;> (conv => whnf)) | (refine Or.inr (Or.inl ?_); (conv => whnf); (repeat (refine aI ?_; conv => whnf)); refine ⟨_, hnew , ?_⟩; rintro _ _ ⟨rfl, (⟨ht, rfl⟩ | ⟨t, rm4, ht, rfl⟩)⟩ <;> (conv => whnf)) | ((first | refine Alt2.l (aI ?_) | refine Alt2.r (aI ?_)); conv => whnf) | (refine Ok.scope ?_) | ((first | refine Ok.label ?_ | refine rd rfl (by assumption) ?_ | refine ⟨_, .inl ⟨rfl, rfl⟩, ?_⟩ | refine ⟨_, _, rfl, rfl, ?_⟩); conv => whnf) | (refine ⟨fun _ => ?_, fun _ => ?_⟩ <;> (conv => whnf) <;> (try (exfalso; omega))) | ((first | refine aJ ?_ | refine num_any ?_ | refine ⟨_, rfl, ?_⟩); conv => whnf) | fail)
        all_goals first
          | (rename_i h; exact absurd trivial h)
          | (rename_i h; cases h; done)
          | (exfalso; rw [termT_nil] at ht; cases ht; done)
          | (rw [termT_nil] at ht
             cases ht
             refine ⟨(i + 1, tl ++ [⟨⟨writeL c r, []⟩, rm4⟩]), by dsimp only; omega, ⟨by dsimp only; omega, by dsimp only; rw [aft_snoc hc, List.map_append, hl]; rfl, by simp; omega⟩, ?_⟩
             (conv => whnf)
             simp [envCat])
      · have hie : i = l.length := by omega
        subst hie
        rw [List.take_length] at hl
        have hgood := aft_good hal hr (show r.length = n.toNat by omega) (by omega)
        have hle : ∀ x ∈ tl, x.t.less.length ≤ 1048576 := fun x hx => by
          obtain ⟨c, _, hc⟩ := List.mem_map.1 (mem_of_map hl hx)
          rw [← hc]
          simp
        have hto : ∀ x ∈ tl, TO n.toNat x := fun x hx => (hgood _ (mem_of_map hl hx)).to (hle x hx)
        have htk : List.take tl.length (tl.map trow) = tl.map trow := List.take_of_length_le (by simp)
        rw [← hl]
        by_cases hsz : szT (formT (tl.map TR.t)) ≤ 128
        · rw [bndO_le hsz]
          (try (conv => whnf)); repeat' (first | refine Ok.seq ?_ | refine OkL.cons ?_ | ((first | refine Ok.region tok ?_ | refine Ok.region_plan (id := 5) tok follows [(1, 3, []), (2, 3, [])] [.q 0, .q 1, .l 2, .l 3] (by kernel_rfl) ?_ | refine Ok.region_draw tok follows (by kernel_rfl) ?_ | refine Ok.cond ?_); conv => whnf) | refine Ok.block ?_ | ((first | refine Ok.skip ?_ | refine Ok.exit ?_ | refine Ok.ret ?_ | refine nI ?_ | refine ix _ (by assumption) ?_ | refine ixI (by omega) (by assumption) ?_ | refine ix_new _ (by omega) fun _ _ => ?_ | refine ixI_new (by omega) (by omega) fun _ _ => ?_ | refine ⟨_, by assumption, ?_⟩); conv => whnf) | (refine Or.inr (Or.inl ?_); (conv => whnf); (repeat (refine aI ?_; conv => whnf)); refine ⟨_, form_at n n.toNat tl (by omega) hto htk hsz , ?_⟩; rintro _ _ ⟨ks3, rm3, rfl, rfl, hks3, hkm⟩ <;> (conv => whnf)) | ((first | refine Alt2.l (aI ?_) | refine Alt2.r (aI ?_)); conv => whnf) | (refine Ok.scope ?_) | ((first | refine Ok.label ?_ | refine rd rfl (by assumption) ?_ | refine ⟨_, .inl ⟨rfl, rfl⟩, ?_⟩ | refine ⟨_, _, rfl, rfl, ?_⟩); conv => whnf) | (refine ⟨fun _ => ?_, fun _ => ?_⟩ <;> (conv => whnf) <;> (try (exfalso; omega))) | ((first | refine aJ ?_ | refine num_any ?_ | refine ⟨_, rfl, ?_⟩); conv => whnf) | fail)
          refine Or.inl ?_; (conv => whnf)
          exact ⟨rfl, _, rfl, ks3, rm3, rfl, hks3⟩
        · rw [bndO_gt (by omega)]
          (try (conv => whnf)); repeat' (first | (refine Ok.region_pan (id := 15) tok 3 ?_; (conv => whnf)) | refine Ok.seq ?_ | refine OkL.cons ?_ | ((first | refine Ok.region tok ?_ | refine Ok.cond ?_); conv => whnf) | refine Ok.block ?_ | ((first | refine Ok.skip ?_ | refine Ok.exit ?_ | refine Ok.ret ?_ | refine nI ?_ | refine ix _ (by assumption) ?_ | refine ixI (by omega) (by assumption) ?_ | refine ix_new _ (by omega) fun _ _ => ?_ | refine ixI_new (by omega) (by omega) fun _ _ => ?_ | refine ⟨_, by assumption, ?_⟩ | refine Alt2.l (aI ?_) | refine Alt2.r (aI ?_)); conv => whnf) | (refine Ok.scope ?_) | ((first | refine Ok.label ?_ | refine rd rfl (by assumption) ?_ | refine ⟨_, .inl ⟨rfl, rfl⟩, ?_⟩ | refine ⟨_, _, rfl, rfl, ?_⟩); conv => whnf) | (refine ⟨fun _ => ?_, fun _ => ?_⟩ <;> (conv => whnf) <;> (try (exfalso; omega))) | ((first | refine aJ ?_ | refine num_any ?_ | refine ⟨_, rfl, ?_⟩); conv => whnf) | fail)
          refine ⟨_, form_pan n n.toNat tl (by omega) hto htk (by omega), ?_⟩
          (conv => whnf)
          refine ⟨rfl, 2, 3, _, _, rfl, rfl, rfl, rfl, rfl, rfl, by decide, rfl, ?_⟩
          (conv => whnf)
          refine Or.inl ?_; (conv => whnf)
          exact ⟨rfl, _, rfl, PSp.nil 0⟩
    · rw [aftO_err hfp hx]
      generalize expO n ts limit = o at *
      obtain ⟨x, l⟩ := o
      dsimp only at hx hal ⊢
      (try (conv => whnf)); repeat' (first | refine Ok.seq ?_ | refine OkL.cons ?_ | ((first | refine Ok.region tok ?_ | refine Ok.region_plan (id := 5) tok follows [(1, 3, []), (2, 3, [])] [.q 0, .q 1, .l 2, .l 3] (by kernel_rfl) ?_ | refine Ok.region_draw tok follows (by kernel_rfl) ?_ | refine Ok.cond ?_); conv => whnf) | refine Ok.block ?_ | ((first | refine Ok.skip ?_ | refine Ok.exit ?_ | refine Ok.ret ?_ | refine nI ?_ | refine ix _ (by assumption) ?_ | refine ixI (by omega) (by assumption) ?_ | refine ix_new _ (by omega) fun _ _ => ?_ | refine ixI_new (by omega) (by omega) fun _ _ => ?_ | refine ⟨_, by assumption, ?_⟩); conv => whnf) | (refine Or.inl ?_; (conv => whnf); (repeat (refine aI ?_; conv => whnf)); refine ⟨_, htx, rfl, ?_⟩; conv => whnf) | (refine Or.inl ?_; (conv => whnf); (repeat (refine aI ?_; conv => whnf)); refine ⟨_, hfit, rfl, ?_⟩; conv => whnf) | ((first | refine ⟨_, htx, rfl, ?_⟩ | refine ⟨_, hfit, rfl, ?_⟩); conv => whnf) | (refine Or.inr (Or.inl ?_); (conv => whnf); (repeat (refine aI ?_; conv => whnf)); refine ⟨_, htx, ?_⟩; rintro _ _ ⟨rfl, rfl⟩; conv => whnf) | (refine Or.inr (Or.inl ?_); (conv => whnf); (repeat (refine aI ?_; conv => whnf)); refine ⟨_, hfit, ?_⟩; rintro _ _ ⟨rfl, rfl⟩; conv => whnf) | (refine Or.inr (Or.inl ?_); (conv => whnf); (repeat (refine aI ?_; conv => whnf)); refine ⟨_, hex , ?_⟩; rintro _ _ ⟨rfl, rm5, rfl⟩ <;> (conv => whnf)) | ((first | refine Alt2.l (aI ?_) | refine Alt2.r (aI ?_)); conv => whnf) | (refine Ok.scope ?_) | ((first | refine Ok.label ?_ | refine rd rfl (by assumption) ?_ | refine ⟨_, .inl ⟨rfl, rfl⟩, ?_⟩ | refine ⟨_, _, rfl, rfl, ?_⟩); conv => whnf) | (refine ⟨fun _ => ?_, fun _ => ?_⟩ <;> (conv => whnf) <;> (try (exfalso; omega))) | ((first | refine aJ ?_ | refine num_any ?_ | refine ⟨_, rfl, ?_⟩); conv => whnf) | fail)
      all_goals first
        | exact absurd hfp (by assumption)
        | (rename_i h; exact absurd hx h)
        | (refine Or.inl ?_; (conv => whnf)
           exact ⟨rfl, _, rfl, PSp.nil 0⟩)
  · rw [aftO_not hfp]
    (try (conv => whnf)); repeat' (first | refine Ok.seq ?_ | refine OkL.cons ?_ | ((first | refine Ok.region tok ?_ | refine Ok.region_plan (id := 5) tok follows [(1, 3, []), (2, 3, [])] [.q 0, .q 1, .l 2, .l 3] (by kernel_rfl) ?_ | refine Ok.region_draw tok follows (by kernel_rfl) ?_ | refine Ok.cond ?_); conv => whnf) | refine Ok.block ?_ | ((first | refine Ok.skip ?_ | refine Ok.exit ?_ | refine Ok.ret ?_ | refine nI ?_ | refine ix _ (by assumption) ?_ | refine ixI (by omega) (by assumption) ?_ | refine ix_new _ (by omega) fun _ _ => ?_ | refine ixI_new (by omega) (by omega) fun _ _ => ?_ | refine ⟨_, by assumption, ?_⟩); conv => whnf) | (refine Or.inl ?_; (conv => whnf); (repeat (refine aI ?_; conv => whnf)); refine ⟨_, htx, rfl, ?_⟩; conv => whnf) | (refine Or.inl ?_; (conv => whnf); (repeat (refine aI ?_; conv => whnf)); refine ⟨_, hfit, rfl, ?_⟩; conv => whnf) | ((first | refine ⟨_, htx, rfl, ?_⟩ | refine ⟨_, hfit, rfl, ?_⟩); conv => whnf) | (refine Or.inr (Or.inl ?_); (conv => whnf); (repeat (refine aI ?_; conv => whnf)); refine ⟨_, htx, ?_⟩; rintro _ _ ⟨rfl, rfl⟩; conv => whnf) | (refine Or.inr (Or.inl ?_); (conv => whnf); (repeat (refine aI ?_; conv => whnf)); refine ⟨_, hfit, ?_⟩; rintro _ _ ⟨rfl, rfl⟩; conv => whnf) | ((first | refine Alt2.l (aI ?_) | refine Alt2.r (aI ?_)); conv => whnf) | (refine Ok.scope ?_) | ((first | refine Ok.label ?_ | refine rd rfl (by assumption) ?_ | refine ⟨_, .inl ⟨rfl, rfl⟩, ?_⟩ | refine ⟨_, _, rfl, rfl, ?_⟩); conv => whnf) | (refine ⟨fun _ => ?_, fun _ => ?_⟩ <;> (conv => whnf) <;> (try (exfalso; omega))) | ((first | refine aJ ?_ | refine num_any ?_ | refine ⟨_, rfl, ?_⟩); conv => whnf) | fail)
    · refine Or.inl ?_; (conv => whnf)
      exact ⟨rfl, _, rfl, PSp.nil 0⟩
    · rename_i h
      exact absurd hfp h
end Go.Proofs.YtaiondckookpiaaGreatDoor
namespace Go.Proofs.YtaiondckookpiaaGreatDoor
open Go Go.Vx
def lst1 (b : UInt8) : UInt8 := if b = 120 then 48 else b
def leastL (c : Str) : Str := c.map lst1
theorem leastL_len (c : Str) : (leastL c).length = c.length := by simp [leastL]
theorem leastL_get {c : Str} {i : Nat} {b : UInt8} (h : c[i]? = some b) : (leastL c)[i]? = some (lst1 b) := by simp [leastL, h]
end Go.Proofs.YtaiondckookpiaaGreatDoor
namespace Go.Proofs.YtaiondckookpiaaGreatDoor
open Go Go.Vx
section
variable {α : Type} {R L : α → α → Prop} {r b : α → α → Bool}
def addB (r : α → α → Bool) (k : List α) (x : α) : List α := if k.any (r x) = true then k else k.filter (fun y => !r y x) ++ [x]
def grB (r : α → α → Bool) (l : List α) : List α := l.foldl (addB r) []
def insB (b : α → α → Bool) (c : α) : List α → List α
  | [] => [c]
  | x :: q => if b c x = true then c :: x :: q else x :: insB b c q
def putB (r b : α → α → Bool) (k : List α) (c : α) : List α := if k.any (r c) = true then k else insB b c (k.filter fun x => !r x c)
def srtB (b : α → α → Bool) (l : List α) : List α := l.foldl (fun acc x => insB b x acc) []
theorem filt_eq (h : ∀ x y, R x y ↔ r x y = true) (k : List α) (x : α) [∀ y, Decidable (¬ R y x)] : k.filter (fun y => decide (¬ R y x)) = k.filter (fun y => !r y x) := by
  refine List.filter_congr fun y _ => ?_
  cases hr : r y x with
  | true => simp [(h y x).2 hr]
  | false =>
    have hn : ¬ R y x := fun e => by rw [(h y x).1 e] at hr; cases hr
    simp [hn]
theorem any_eq (h : ∀ x y, R x y ↔ r x y = true) (k : List α) (x : α) : (∃ y ∈ k, R x y) ↔ k.any (r x) = true := by simp [h]
theorem addG_eq (h : ∀ x y, R x y ↔ r x y = true) (k : List α) (x : α) : addG R k x = addB r k x := by
  unfold addG addB
  by_cases hk : k.any (r x) = true
  · rw [if_pos ((any_eq h k x).2 hk), if_pos hk]
  · rw [if_neg (fun e => hk ((any_eq h k x).1 e)), if_neg hk, filt_eq h]
theorem grG_eq (h : ∀ x y, R x y ↔ r x y = true) (l : List α) : grG R l = grB r l := by
  have e : addG R = addB r := by funext k x; exact addG_eq h k x
  unfold grG grB
  rw [e]
theorem insG_eq (h : ∀ x y, L x y ↔ b x y = true) (c : α) : ∀ l : List α, insG L c l = insB b c l
  | [] => rfl
  | x :: q => by
    unfold insG insB
    by_cases hk : b c x = true
    · rw [if_pos ((h c x).2 hk), if_pos hk]
    · rw [if_neg (fun e => hk ((h c x).1 e)), if_neg hk, insG_eq h c q]
theorem putG_eq (h : ∀ x y, R x y ↔ r x y = true) (h2 : ∀ x y, L x y ↔ b x y = true) (k : List α) (c : α) : putG R L k c = putB r b k c := by
  unfold putG putB
  by_cases hk : k.any (r c) = true
  · rw [if_pos ((any_eq h k c).2 hk), if_pos hk]
  · rw [if_neg (fun e => hk ((any_eq h k c).1 e)), if_neg hk, filt_eq h, insG_eq h2]
theorem srt_eq (h : ∀ x y, L x y ↔ b x y = true) (l : List α) : srt L l = srtB b l := by
  unfold srt srtB
  congr 1
  funext acc x
  exact insG_eq h x acc
end
def inB : Str → Str → Bool
  | [], [] => true
  | a :: c, b :: d => (b == 120 || b == a) && inB c d
  | _, _ => false
theorem inL_b : ∀ c d : Str, inL c d ↔ inB c d = true
  | [], [] => by simp [inL, inB]
  | [], _ :: _ => by simp [inL, inB]
  | _ :: _, [] => by simp [inL, inB]
  | a :: c, b :: d => by simp [inL, inB, inL_b c d]
def inTB (c d : Str) : Bool := !c.isEmpty && inB c d
theorem inT_b (c d : Str) : inT c d ↔ inTB c d = true := by
  unfold inT inTB
  rw [inL_b]
  cases c <;> simp
theorem blt_b (c d : Str) : blt c d ↔ Op.bytesLess c d = true := .rfl
def termB (p : Str) (less : List Str) : Option Term := if (metL p less).foldl (putB inB Op.bytesLess) [] = [p] then none else some ⟨p, (metL p less).foldl (putB inB Op.bytesLess) []⟩
theorem termT_b (p : Str) (less : List Str) : termT p less = termB p less := by
  have e : putG inL blt = putB inB Op.bytesLess := by funext k c; exact putG_eq inL_b blt_b k c
  unfold termT termB
  rw [e]
def covB (t u : Term) : Bool := inTB t.p u.p && u.less.all fun m => match meetT m t.p with | none => true | some c => t.less.any fun n => inTB c n
theorem covT_b (t u : Term) : covT t u ↔ covB t u = true := by
  unfold covT covB
  rw [inT_b, Bool.and_eq_true, List.all_eq_true]
  refine and_congr_right fun _ => forall_congr' fun m => forall_congr' fun _ => ?_
  cases meetT m t.p with
  | none => simp
  | some c => simp [inT_b]
def lexB : List Str → List Str → Bool
  | _, [] => false
  | [], _ :: _ => true
  | x :: a, y :: b => Op.bytesLess x y || (x == y && lexB a b)
theorem lexL_b : ∀ a b : List Str, lexL a b ↔ lexB a b = true
  | a, [] => by cases a <;> simp [lexL, lexB]
  | [], _ :: _ => by simp [lexL, lexB]
  | x :: a, y :: b => by simp [lexL, lexB, lexL_b a b]
def formB (l : List Term) : List Term := srtB (fun t u => lexB (t.p :: t.less) (u.p :: u.less)) (grB covB l)
theorem formT_b (l : List Term) : formT l = formB l := by
  unfold formT formB
  rw [grG_eq covT_b]
  exact srt_eq (L := aheadT) (b := fun t u => lexB (t.p :: t.less) (u.p :: u.less)) (fun t u => lexL_b _ _) _
theorem trms_b (ms : List (List Str)) : trms ms = ms.filterMap fun m => termB (m.headD []) m.tail := by
  unfold trms
  congr 1
  funext m
  exact termT_b _ _
instance (n : Int) (w : Str) : Decidable (OkW n w) := decidable_of_iff ((w.length : Int) = n ∧ (w.length ≤ 256 ∧ ∀ b ∈ w, b = 48 ∨ b = 49 ∨ b = 120) ∧ w ≠ []) ⟨fun h => ⟨h.1, ⟨h.2.1.1, h.2.1.2⟩, h.2.2⟩, fun h => ⟨h.1, ⟨h.2.1.1, h.2.1.2⟩, h.2.2⟩⟩
instance (n : Int) (ms : List (List Str)) : Decidable (OkP n ms) := inferInstanceAs (Decidable (∀ m ∈ ms, ∀ w ∈ m, OkW n w))
def exS : Str := [49, 48, 120, 120, 45, 49, 49, 49, 49, 45, 49, 48, 49, 120, 45, 49, 48, 49, 48, 43, 48, 120, 120, 120, 45, 49, 120, 120, 120]
def exT : List Term := [⟨[48, 120, 120, 120], []⟩, ⟨[49, 48, 120, 120], [[49, 48, 49, 120]]⟩]
theorem ex_form : formB ((pieces exS).filterMap fun m => termB (m.headD []) m.tail) = exT := by
  kernel_rfl
theorem parO_ex : parO 4 exS = (0, 4, exT) := by
  unfold parO
  rw [if_neg (by decide), if_neg (by decide), if_neg (by decide), if_neg (fun h => h (by decide)), if_neg (by decide), formT_b, trms_b, ex_form]
theorem text_ex : textS exT = [48, 120, 120, 120, 43, 49, 48, 120, 120, 45, 49, 48, 49, 120] := by
  unfold textS
  rw [if_neg (by simp [exT])]
  decide
theorem sptext_at {n : Int} {ts : List Term} (hf : Fine n ts) (ks : List TR) (rm : List (List D)) (h1 : ks.map TR.t = ts) : FSpec Tryz.prog T 59 [.agg [.i .i64 n, .lst 112 (ks.map trow) rm]] (fun d _ => d = .s (textS ts)) := by
  have h := text2_at n.toNat ks (room := rm) (hf.sp h1) rfl
  rw [hf.cast, h1] at h
  exact h
theorem spsize_at {n : Int} {ts : List Term} (hf : Fine n ts) (ks : List TR) (rm : List (List D)) (h1 : ks.map TR.t = ts) : FSpec Tryz.prog T 60 [.agg [.i .i64 n, .lst 112 (ks.map trow) rm]] (fun d _ => d = .i .i64 (szT ts : Nat)) := by
  have h := size_at n ks (room := rm) (hf.mlen h1) (hf.mless h1) rfl
  rw [h1] at h
  exact h
set_option maxHeartbeats 4000000 in
theorem awake_at : FSpec Tryz.prog T 43 [] (fun r _ => r = .b True) := by
  have hp := parse2_at 4 exS
  have hf := parO_fine 4 exS
  unfold POut at hp
  rw [parO_ex] at hp hf
  have htx := fun ks rm h1 => sptext_at hf ks rm h1
  have hsz := fun ks rm h1 => spsize_at hf ks rm h1
  dsimp only at hp htx hsz
  rw [text_ex] at htx
  rw [show szT exT = 3 from rfl] at hsz
  refine FSpec.of_ok tok Tryz.func43 rfl Tryz.call43 (by simp) ?_
  (try (conv => whnf)); repeat' (first | refine Ok.seq ?_ | refine OkL.cons ?_ | ((first | refine Ok.region tok ?_ | refine Ok.region_draw tok follows (by kernel_rfl) ?_ | refine Ok.cond ?_); conv => whnf) | refine Ok.block ?_ | ((first | refine Ok.skip ?_ | refine Ok.exit ?_ | refine Ok.ret ?_ | refine nI ?_ | refine ix _ (by assumption) ?_ | refine ixI (by omega) (by assumption) ?_ | refine ix_new _ (by omega) fun _ _ => ?_ | refine ixI_new (by omega) (by omega) fun _ _ => ?_ | refine ⟨_, by assumption, ?_⟩); conv => whnf) | (refine Or.inl ?_; (conv => whnf); (repeat (refine aI ?_; conv => whnf)); refine ⟨_, htx ks rm hk, rfl, ?_⟩; conv => whnf) | (refine Or.inl ?_; (conv => whnf); (repeat (refine aI ?_; conv => whnf)); refine ⟨_, hsz ks rm hk, rfl, ?_⟩; conv => whnf) | (refine Or.inl ?_; (conv => whnf); (repeat (refine aI ?_; conv => whnf)); refine ⟨_, bits_at 4 (.lst 112 (ks.map trow) rm) ⟨_, _, _, rfl⟩, rfl, ?_⟩; conv => whnf) | ((first | refine ⟨_, htx ks rm hk, rfl, ?_⟩ | refine ⟨_, hsz ks rm hk, rfl, ?_⟩ | refine ⟨_, bits_at 4 (.lst 112 (ks.map trow) rm) ⟨_, _, _, rfl⟩, rfl, ?_⟩); conv => whnf) | (refine Or.inr (Or.inl ?_); (conv => whnf); (repeat (refine aI ?_; conv => whnf)); refine ⟨_, htx ks rm hk, ?_⟩; rintro _ _ ⟨rfl, rfl⟩; conv => whnf) | (refine Or.inr (Or.inl ?_); (conv => whnf); (repeat (refine aI ?_; conv => whnf)); refine ⟨_, hsz ks rm hk, ?_⟩; rintro _ _ ⟨rfl, rfl⟩; conv => whnf) | (refine Or.inr (Or.inl ?_); (conv => whnf); (repeat (refine aI ?_; conv => whnf)); refine ⟨_, bits_at 4 (.lst 112 (ks.map trow) rm) ⟨_, _, _, rfl⟩, ?_⟩; rintro _ _ ⟨rfl, rfl⟩; conv => whnf) | (refine Or.inr (Or.inl ?_); (conv => whnf); (repeat (refine aI ?_; conv => whnf)); refine ⟨_, hp , ?_⟩; rintro _ _ ⟨rfl, _, rfl, ks, rm, rfl, hk⟩ <;> (conv => whnf)) | ((first | refine Alt2.l (aI ?_) | refine Alt2.r (aI ?_)); conv => whnf) | (refine Ok.scope ?_) | ((first | refine Ok.label ?_ | refine rd rfl (by assumption) ?_ | refine ⟨_, .inl ⟨rfl, rfl⟩, ?_⟩ | refine ⟨_, _, rfl, rfl, ?_⟩); conv => whnf) | (refine ⟨fun _ => ?_, fun _ => ?_⟩ <;> (conv => whnf) <;> (try (exfalso; omega))) | ((first | refine aJ ?_ | refine num_any ?_ | refine ⟨_, rfl, ?_⟩); conv => whnf) | fail)
  all_goals first
    | (rename_i h; exact absurd rfl h)
    | (refine Or.inl ?_; (conv => whnf)
       exact congrArg D.b (propext ⟨fun _ => trivial, fun _ => rfl⟩))
end Go.Proofs.YtaiondckookpiaaGreatDoor
namespace Go.Proofs.YtaiondckookpiaaGreatDoor
open Go Go.Vx
theorem inL_all : ∀ {c d : Str}, c.length = d.length → (∀ (k : Nat) a b, c[k]? = some a → d[k]? = some b → b = 120 ∨ b = a) → inL c d
  | [], [], _, _ => trivial
  | [], _ :: _, h, _ => by simp at h
  | _ :: _, [], h, _ => by simp at h
  | a :: c, b :: d, h, hh => ⟨hh 0 a b rfl rfl, inL_all (by simpa using h) fun k x y h1 h2 => hh (k + 1) x y (by simpa using h1) (by simpa using h2)⟩
theorem inL_get : ∀ {c d : Str} {k : Nat} {a b : UInt8}, inL c d → c[k]? = some a → d[k]? = some b → b = 120 ∨ b = a
  | [], _, k, a, b, _, h, _ => by simp at h
  | _ :: _, [], k, a, b, _, _, h => by simp at h
  | x :: c, y :: d, 0, a, b, hi, h1, h2 => by simp at h1 h2; subst h1 h2; exact hi.1
  | x :: c, y :: d, k + 1, a, b, hi, h1, h2 => inL_get hi.2 (by simpa using h1) (by simpa using h2)
set_option maxHeartbeats 4000000 in
theorem fits3_at (h c : Str) (hc : c.length ≤ 100000) : FSpec Tryz.prog T 102 [.s h, .s c] (fun r _ => r = .b (inL h c)) := by
  refine FSpec.of_ok tok Tryz.func102 rfl Tryz.call102 (by simp) ?_
  (try (conv => whnf)); repeat' (first | refine Ok.seq ?_ | refine OkL.cons ?_ | ((first | refine Ok.region tok ?_ | refine Ok.region_draw tok follows (by kernel_rfl) ?_ | refine Ok.cond ?_); conv => whnf) | refine Ok.block ?_ | ((first | refine Ok.skip ?_ | refine Ok.exit ?_ | refine Ok.ret ?_ | refine nI ?_ | refine ix _ (by assumption) ?_ | refine ixI (by omega) (by assumption) ?_ | refine ix_new _ (by omega) fun _ _ => ?_ | refine ixI_new (by omega) (by omega) fun _ _ => ?_ | refine ⟨_, by assumption, ?_⟩ | refine Alt2.l (aI ?_) | refine Alt2.r (aI ?_)); conv => whnf) | (refine Ok.scope ?_) | ((first | refine Ok.label ?_ | refine rd rfl (by assumption) ?_ | refine ⟨_, .inl ⟨rfl, rfl⟩, ?_⟩ | refine ⟨_, _, rfl, rfl, ?_⟩); conv => whnf) | (refine ⟨fun _ => ?_, fun _ => ?_⟩ <;> (conv => whnf) <;> (try (exfalso; omega))) | ((first | refine aJ ?_ | refine num_any ?_ | refine ⟨_, rfl, ?_⟩); conv => whnf) | fail)
  · refine Or.inl ?_; (conv => whnf)
    show D.b False = _
    exact congrArg D.b (propext ⟨fun h => h.elim, fun h2 => by have := inL_len h2; omega⟩)
  have hl : h.length = c.length := by omega
  refine Ok.loopU [0, 1] [5] 0 0 (fun (i : Nat) => [.i .i64 (i : Nat)]) (fun _ b => b) (fun _ r => r) (fun (i : Nat) => i ≤ c.length ∧ ∀ (k : Nat) a b, k < i → h[k]? = some a → c[k]? = some b → b = 120 ∨ b = a) (fun (i : Nat) => c.length - i) (0) (⟨Nat.zero_le _, fun k _ _ hk => absurd hk (by omega)⟩) ?_; (conv => whnf); refine ⟨by ((conv => whnf); first | rfl | (simp [envCat, List.take_of_length_le, bcell, srow]; done) | (simp [envCat, List.take_of_length_le, bcell, srow]; rw [IntKind.wrap_i64]; omega)), ?_⟩
  rintro i ⟨hi, hall⟩
  (conv => whnf)
  by_cases hil : i < c.length
  · obtain ⟨a, ha⟩ : ∃ a, h[i]? = some a := ⟨_, List.getElem?_eq_getElem (by omega)⟩
    obtain ⟨b, hb⟩ : ∃ b, c[i]? = some b := ⟨_, List.getElem?_eq_getElem hil⟩
    have haI : h[((i : Nat) : Int).toNat]? = some a := ha
    have hbI : c[((i : Nat) : Int).toNat]? = some b := hb
    have step : (b = 120 ∨ b = a) → ∀ (k : Nat) x y, k < i + 1 → h[k]? = some x → c[k]? = some y → y = 120 ∨ y = x := fun hh k x y hk hx hy => by
      by_cases hki : k = i
      · subst hki
        rw [ha] at hx
        rw [hb] at hy
        cases hx
        cases hy
        exact hh
      · exact hall k x y (by omega) hx hy
    by_cases hb1 : b = 120 ∨ b = a
    · have hb3 : ((b.toNat : Nat) : Int) = 120 ∨ ((b.toNat : Nat) : Int) = ((a.toNat : Nat) : Int) := by
        rcases hb1 with rfl | rfl
        · exact .inl rfl
        · exact .inr rfl
      (try (conv => whnf)); repeat' (first | refine Ok.seq ?_ | refine OkL.cons ?_ | ((first | refine Ok.region tok ?_ | refine Ok.region_draw tok follows (by kernel_rfl) ?_ | refine Ok.cond ?_); conv => whnf) | refine Ok.block ?_ | ((first | refine Ok.skip ?_ | refine Ok.exit ?_ | refine Ok.ret ?_ | refine nI ?_ | refine ix _ (by assumption) ?_ | refine ixI (by omega) (by assumption) ?_ | refine ix_new _ (by omega) fun _ _ => ?_ | refine ixI_new (by omega) (by omega) fun _ _ => ?_ | refine ⟨_, by assumption, ?_⟩ | refine Alt2.l (aI ?_) | refine Alt2.r (aI ?_)); conv => whnf) | (refine Ok.scope ?_) | ((first | refine Ok.label ?_ | refine rd rfl (by assumption) ?_ | refine ⟨_, .inl ⟨rfl, rfl⟩, ?_⟩ | refine ⟨_, _, rfl, rfl, ?_⟩); conv => whnf) | (refine ⟨fun _ => ?_, fun _ => ?_⟩ <;> (conv => whnf) <;> (try (exfalso; omega))) | ((first | refine aJ ?_ | refine num_any ?_ | refine ⟨_, rfl, ?_⟩); conv => whnf) | fail)
      all_goals first
        | (exfalso; omega)
        | (refine ⟨i + 1, by omega, ⟨by omega, step hb1⟩, ?_⟩
           (conv => whnf)
           rfl)
    · have hb3 := u8_ne (fun e => hb1 (.inl e) : b ≠ 120)
      have hb4 := u8_ne (fun e => hb1 (.inr e) : b ≠ a)
      rw [show (((120 : UInt8).toNat : Nat) : Int) = 120 from rfl] at hb3
      (try (conv => whnf)); repeat' (first | refine Ok.seq ?_ | refine OkL.cons ?_ | ((first | refine Ok.region tok ?_ | refine Ok.region_draw tok follows (by kernel_rfl) ?_ | refine Ok.cond ?_); conv => whnf) | refine Ok.block ?_ | ((first | refine Ok.skip ?_ | refine Ok.exit ?_ | refine Ok.ret ?_ | refine nI ?_ | refine ix _ (by assumption) ?_ | refine ixI (by omega) (by assumption) ?_ | refine ix_new _ (by omega) fun _ _ => ?_ | refine ixI_new (by omega) (by omega) fun _ _ => ?_ | refine ⟨_, by assumption, ?_⟩ | refine Alt2.l (aI ?_) | refine Alt2.r (aI ?_)); conv => whnf) | (refine Ok.scope ?_) | ((first | refine Ok.label ?_ | refine rd rfl (by assumption) ?_ | refine ⟨_, .inl ⟨rfl, rfl⟩, ?_⟩ | refine ⟨_, _, rfl, rfl, ?_⟩); conv => whnf) | (refine ⟨fun _ => ?_, fun _ => ?_⟩ <;> (conv => whnf) <;> (try (exfalso; omega))) | ((first | refine aJ ?_ | refine num_any ?_ | refine ⟨_, rfl, ?_⟩); conv => whnf) | fail)
      all_goals first
        | (exfalso; omega)
        | (refine Or.inl ?_; (conv => whnf)
           show D.b False = _
           exact congrArg D.b (propext ⟨fun h => h.elim, fun h2 => hb1 (inL_get h2 ha hb)⟩))
  · have hie : i = c.length := by omega
    subst hie
    (try (conv => whnf)); repeat' (first | refine Ok.seq ?_ | refine OkL.cons ?_ | ((first | refine Ok.region tok ?_ | refine Ok.region_draw tok follows (by kernel_rfl) ?_ | refine Ok.cond ?_); conv => whnf) | refine Ok.block ?_ | ((first | refine Ok.skip ?_ | refine Ok.exit ?_ | refine Ok.ret ?_ | refine nI ?_ | refine ix _ (by assumption) ?_ | refine ixI (by omega) (by assumption) ?_ | refine ix_new _ (by omega) fun _ _ => ?_ | refine ixI_new (by omega) (by omega) fun _ _ => ?_ | refine ⟨_, by assumption, ?_⟩ | refine Alt2.l (aI ?_) | refine Alt2.r (aI ?_)); conv => whnf) | (refine Ok.scope ?_) | ((first | refine Ok.label ?_ | refine rd rfl (by assumption) ?_ | refine ⟨_, .inl ⟨rfl, rfl⟩, ?_⟩ | refine ⟨_, _, rfl, rfl, ?_⟩); conv => whnf) | (refine ⟨fun _ => ?_, fun _ => ?_⟩ <;> (conv => whnf) <;> (try (exfalso; omega))) | ((first | refine aJ ?_ | refine num_any ?_ | refine ⟨_, rfl, ?_⟩); conv => whnf) | fail)
    all_goals first
      | (exfalso; omega)
      | skip
    refine Or.inl ?_; (conv => whnf)
    exact congrArg D.b (propext ⟨fun _ => inL_all hl fun k x y hx hy => hall k x y ((List.getElem?_eq_some_iff.1 hy).1) hx hy, fun _ => trivial⟩)
def hdrX (n : Int) (h : Str) : Prop := (h.length : Int) = n ∧ ∀ b ∈ h, b = 48 ∨ b = 49
set_option maxHeartbeats 4000000 in
theorem isHeader_at (n : Int) (h : Str) (hn : n ≤ 100000) : FSpec Tryz.prog T 48 [.i .i64 n, .s h] (fun r _ => r = .b (hdrX n h)) := by
  refine FSpec.of_ok tok Tryz.func48 rfl Tryz.call48 (by simp) ?_
  (try (conv => whnf)); repeat' (first | refine Ok.seq ?_ | refine OkL.cons ?_ | ((first | refine Ok.region tok ?_ | refine Ok.region_draw tok follows (by kernel_rfl) ?_ | refine Ok.cond ?_); conv => whnf) | refine Ok.block ?_ | ((first | refine Ok.skip ?_ | refine Ok.exit ?_ | refine Ok.ret ?_ | refine nI ?_ | refine ix _ (by assumption) ?_ | refine ixI (by omega) (by assumption) ?_ | refine ix_new _ (by omega) fun _ _ => ?_ | refine ixI_new (by omega) (by omega) fun _ _ => ?_ | refine ⟨_, by assumption, ?_⟩ | refine Alt2.l (aI ?_) | refine Alt2.r (aI ?_)); conv => whnf) | (refine Ok.scope ?_) | ((first | refine Ok.label ?_ | refine rd rfl (by assumption) ?_ | refine ⟨_, .inl ⟨rfl, rfl⟩, ?_⟩ | refine ⟨_, _, rfl, rfl, ?_⟩); conv => whnf) | (refine ⟨fun _ => ?_, fun _ => ?_⟩ <;> (conv => whnf) <;> (try (exfalso; omega))) | ((first | refine aJ ?_ | refine num_any ?_ | refine ⟨_, rfl, ?_⟩); conv => whnf) | fail)
  · rename_i h0
    refine Or.inl ?_; (conv => whnf)
    show D.b False = _
    exact congrArg D.b (propext ⟨fun h => h.elim, fun h2 => h0 h2.1⟩)
  have hl : (h.length : Int) = n := by omega
  refine Ok.loopU [1] [5] 0 0 (fun (i : Nat) => [.i .i64 (i : Nat)]) (fun _ b => b) (fun _ r => r) (fun (i : Nat) => i ≤ h.length ∧ ∀ b ∈ h.take i, b = 48 ∨ b = 49) (fun (i : Nat) => h.length - i) (0) (⟨Nat.zero_le _, by simp⟩) ?_; (conv => whnf); refine ⟨by ((conv => whnf); first | rfl | (simp [envCat, List.take_of_length_le, bcell, srow]; done) | (simp [envCat, List.take_of_length_le, bcell, srow]; rw [IntKind.wrap_i64]; omega)), ?_⟩
  rintro i ⟨hi, hall⟩
  (conv => whnf)
  by_cases hil : i < h.length
  · obtain ⟨a, ha⟩ : ∃ a, h[i]? = some a := ⟨_, List.getElem?_eq_getElem hil⟩
    have haI : h[((i : Nat) : Int).toNat]? = some a := ha
    by_cases hb1 : a = 48 ∨ a = 49
    · have hb3 : ((a.toNat : Nat) : Int) = 48 ∨ ((a.toNat : Nat) : Int) = 49 := by
        rcases hb1 with rfl | rfl
        · exact .inl rfl
        · exact .inr rfl
      (try (conv => whnf)); repeat' (first | refine Ok.seq ?_ | refine OkL.cons ?_ | ((first | refine Ok.region tok ?_ | refine Ok.region_draw tok follows (by kernel_rfl) ?_ | refine Ok.cond ?_); conv => whnf) | refine Ok.block ?_ | ((first | refine Ok.skip ?_ | refine Ok.exit ?_ | refine Ok.ret ?_ | refine nI ?_ | refine ix _ (by assumption) ?_ | refine ixI (by omega) (by assumption) ?_ | refine ix_new _ (by omega) fun _ _ => ?_ | refine ixI_new (by omega) (by omega) fun _ _ => ?_ | refine ⟨_, by assumption, ?_⟩ | refine Alt2.l (aI ?_) | refine Alt2.r (aI ?_)); conv => whnf) | (refine Ok.scope ?_) | ((first | refine Ok.label ?_ | refine rd rfl (by assumption) ?_ | refine ⟨_, .inl ⟨rfl, rfl⟩, ?_⟩ | refine ⟨_, _, rfl, rfl, ?_⟩); conv => whnf) | (refine ⟨fun _ => ?_, fun _ => ?_⟩ <;> (conv => whnf) <;> (try (exfalso; omega))) | ((first | refine aJ ?_ | refine num_any ?_ | refine ⟨_, rfl, ?_⟩); conv => whnf) | fail)
      all_goals first
        | (exfalso; omega)
        | (refine ⟨i + 1, by omega, ⟨by omega, fun b hb => by
            rw [take_snoc ha] at hb
            rcases List.mem_append.1 hb with hb | hb
            · exact hall b hb
            · simp at hb; rw [hb]; exact hb1⟩, ?_⟩
           (conv => whnf)
           rfl)
    · have hb3 := u8_ne (fun e => hb1 (.inl e) : a ≠ 48)
      have hb4 := u8_ne (fun e => hb1 (.inr e) : a ≠ 49)
      rw [show (((48 : UInt8).toNat : Nat) : Int) = 48 from rfl] at hb3
      rw [show (((49 : UInt8).toNat : Nat) : Int) = 49 from rfl] at hb4
      (try (conv => whnf)); repeat' (first | refine Ok.seq ?_ | refine OkL.cons ?_ | ((first | refine Ok.region tok ?_ | refine Ok.region_draw tok follows (by kernel_rfl) ?_ | refine Ok.cond ?_); conv => whnf) | refine Ok.block ?_ | ((first | refine Ok.skip ?_ | refine Ok.exit ?_ | refine Ok.ret ?_ | refine nI ?_ | refine ix _ (by assumption) ?_ | refine ixI (by omega) (by assumption) ?_ | refine ix_new _ (by omega) fun _ _ => ?_ | refine ixI_new (by omega) (by omega) fun _ _ => ?_ | refine ⟨_, by assumption, ?_⟩ | refine Alt2.l (aI ?_) | refine Alt2.r (aI ?_)); conv => whnf) | (refine Ok.scope ?_) | ((first | refine Ok.label ?_ | refine rd rfl (by assumption) ?_ | refine ⟨_, .inl ⟨rfl, rfl⟩, ?_⟩ | refine ⟨_, _, rfl, rfl, ?_⟩); conv => whnf) | (refine ⟨fun _ => ?_, fun _ => ?_⟩ <;> (conv => whnf) <;> (try (exfalso; omega))) | ((first | refine aJ ?_ | refine num_any ?_ | refine ⟨_, rfl, ?_⟩); conv => whnf) | fail)
      all_goals first
        | (exfalso; omega)
        | (refine Or.inl ?_; (conv => whnf)
           show D.b False = _
           exact congrArg D.b (propext ⟨fun h => h.elim, fun h2 => hb1 (h2.2 a (List.mem_of_getElem? ha))⟩))
  · have hie : i = h.length := by omega
    subst hie
    rw [List.take_length] at hall
    (try (conv => whnf)); repeat' (first | refine Ok.seq ?_ | refine OkL.cons ?_ | ((first | refine Ok.region tok ?_ | refine Ok.region_draw tok follows (by kernel_rfl) ?_ | refine Ok.cond ?_); conv => whnf) | refine Ok.block ?_ | ((first | refine Ok.skip ?_ | refine Ok.exit ?_ | refine Ok.ret ?_ | refine nI ?_ | refine ix _ (by assumption) ?_ | refine ixI (by omega) (by assumption) ?_ | refine ix_new _ (by omega) fun _ _ => ?_ | refine ixI_new (by omega) (by omega) fun _ _ => ?_ | refine ⟨_, by assumption, ?_⟩ | refine Alt2.l (aI ?_) | refine Alt2.r (aI ?_)); conv => whnf) | (refine Ok.scope ?_) | ((first | refine Ok.label ?_ | refine rd rfl (by assumption) ?_ | refine ⟨_, .inl ⟨rfl, rfl⟩, ?_⟩ | refine ⟨_, _, rfl, rfl, ?_⟩); conv => whnf) | (refine ⟨fun _ => ?_, fun _ => ?_⟩ <;> (conv => whnf) <;> (try (exfalso; omega))) | ((first | refine aJ ?_ | refine num_any ?_ | refine ⟨_, rfl, ?_⟩); conv => whnf) | fail)
    all_goals first
      | (exfalso; omega)
      | skip
    refine Or.inl ?_; (conv => whnf)
    exact congrArg D.b (propext ⟨fun _ => ⟨hl, hall⟩, fun _ => trivial⟩)
end Go.Proofs.YtaiondckookpiaaGreatDoor
namespace Go.Proofs.YtaiondckookpiaaGreatDoor
open Go Go.Vx
theorem cutL_pre {c : UInt8} : ∀ {q : Str} (r : Str), c ∉ q → cutL c (q ++ r) = (q ++ (cutL c r).headD []) :: (cutL c r).tail
  | [], r, _ => by
    have := cutL_ne c r
    cases hr : cutL c r with
    | nil => exact absurd hr this
    | cons a l => simp [hr]
  | b :: q, r, h => by
    rw [List.mem_cons, not_or] at h
    rw [List.cons_append, cutL, if_neg (Ne.symm h.1), cutL_pre r h.2]
    rfl
theorem pieces_ne (s : Str) : pieces s ≠ [] := by
  unfold pieces
  intro e
  exact cutL_ne 43 s (by simpa using e)
theorem pieces_minus {p r : Str} (h1 : (43 : UInt8) ∉ p) (h2 : (45 : UInt8) ∉ p) : pieces (p ++ 45 :: r) = (p :: (pieces r).headD []) :: (pieces r).tail := by
  unfold pieces
  have e : p ++ 45 :: r = (p ++ [45]) ++ r := by simp
  rw [e, cutL_pre r (by simp [h1])]
  have hne := cutL_ne 43 r
  cases hr : cutL 43 r with
  | nil => exact absurd hr hne
  | cons a l => simp [cutL_at h2]
theorem pieces_plus {p r : Str} (h1 : (43 : UInt8) ∉ p) (h2 : (45 : UInt8) ∉ p) : pieces (p ++ 43 :: r) = [p] :: pieces r := by
  unfold pieces
  rw [cutL_at h1, List.map_cons, cutL_none h2]
theorem pieces_last {p : Str} (h1 : (43 : UInt8) ∉ p) (h2 : (45 : UInt8) ∉ p) : pieces p = [[p]] := by
  unfold pieces
  rw [cutL_none h1, List.map_cons, cutL_none h2]
  rfl
theorem drop_at {s : Str} {i f : Nat} {c : UInt8} (hf : f ≤ i) (hi : s[i]? = some c) : s.drop f = (s.take i).drop f ++ c :: s.drop (i + 1) := by
  obtain ⟨hl, e⟩ := List.getElem?_eq_some_iff.1 hi
  conv => lhs; rw [← List.take_append_drop i s, List.drop_append_of_le_length (by simp; omega), List.drop_eq_getElem_cons hl, e]
def okM (h : Str) (m : List Str) : Prop := inL h (m.headD []) ∧ ∀ x ∈ m.tail, ¬ inL h x
def saidX (s h : Str) : Prop := s ≠ [110, 111, 110, 101] ∧ ∃ m ∈ pieces s, okM h m
def curX (h : Str) (inn fi : Bool) (m : List Str) : Prop := inn = true ∧ ((fi = true → okM h m) ∧ (fi = false → ∀ x ∈ m, ¬ inL h x))
def resX (h : Str) (inn fi sm : Bool) (ms : List (List Str)) : Prop := sm = true ∨ curX h inn fi (ms.headD []) ∨ ∃ m ∈ ms.tail, okM h m
theorem resX_start (h : Str) {ms : List (List Str)} (hm : ms ≠ []) (sm : Bool) : resX h true true sm ms ↔ sm = true ∨ ∃ m ∈ ms, okM h m := by
  cases ms with
  | nil => exact absurd rfl hm
  | cons a l => simp [resX, curX]
def nxt (has : Prop) [Decidable has] (inn fi : Bool) : Bool := inn && (if fi = true then decide has else !decide has)
theorem resX_minus {h p : Str} {inn fi sm : Bool} {ms : List (List Str)} [Decidable (inL h p)] : resX h inn fi sm ((p :: ms.headD []) :: ms.tail) ↔ resX h (nxt (inL h p) inn fi) false sm ms := by
  unfold resX curX nxt okM
  cases inn <;> cases fi <;> simp
theorem resX_plus {h p : Str} {inn fi sm : Bool} {ms : List (List Str)} (hm : ms ≠ []) [Decidable (inL h p)] : resX h inn fi sm ([p] :: ms) ↔ resX h true true (sm || nxt (inL h p) inn fi) ms := by
  rw [resX_start h hm]
  unfold resX curX nxt okM
  cases inn <;> cases fi <;> cases sm <;> simp
theorem resX_last {h p : Str} {inn fi sm : Bool} [Decidable (inL h p)] : resX h inn fi sm [[p]] ↔ (sm || nxt (inL h p) inn fi) = true := by
  unfold resX curX nxt okM
  cases inn <;> cases fi <;> cases sm <;> simp
theorem nxt_yes {has : Prop} [Decidable has] {inn fi : Bool} (h : has) : nxt has inn fi = (inn && fi) := by unfold nxt; cases fi <;> simp [h]
theorem nxt_no {has : Prop} [Decidable has] {inn fi : Bool} (h : ¬ has) : nxt has inn fi = (inn && !fi) := by unfold nxt; cases fi <;> simp [h]
def SInv (s h : Str) (x : Nat × Nat × Bool × Bool × Bool) : Prop :=
  (x.1 ≤ s.length ∧ x.2.1 ≤ x.1 ∧ (43 : UInt8) ∉ (s.take x.1).drop x.2.1 ∧ (45 : UInt8) ∉ (s.take x.1).drop x.2.1 ∧ ((∃ m ∈ pieces s, okM h m) ↔ resX h x.2.2.1 x.2.2.2.1 x.2.2.2.2 (pieces (s.drop x.2.1)))) ∨
    (x.1 = s.length + 1 ∧ ((∃ m ∈ pieces s, okM h m) ↔ x.2.2.2.2 = true))
open Classical in
set_option maxRecDepth 100000 in
set_option maxHeartbeats 8000000 in
theorem said_at (s h : Str) (hs : s.length ≤ 100000) : FSpec Tryz.prog T 50 [.s s, .s h] (fun r _ => r = .b (saidX s h)) := by
  refine FSpec.of_ok tok Tryz.func50 rfl Tryz.call50 (by simp) ?_
  by_cases hnone : s = [110, 111, 110, 101]
  · (try (conv => whnf)); repeat' (first | refine Ok.seq ?_ | refine OkL.cons ?_ | ((first | refine Ok.region tok ?_ | refine Ok.region_draw tok follows (by kernel_rfl) ?_ | refine Ok.cond ?_); conv => whnf) | refine Ok.block ?_ | ((first | refine Ok.skip ?_ | refine Ok.exit ?_ | refine Ok.ret ?_ | refine nI ?_ | refine ix _ (by assumption) ?_ | refine ixI (by omega) (by assumption) ?_ | refine ix_new _ (by omega) fun _ _ => ?_ | refine ixI_new (by omega) (by omega) fun _ _ => ?_ | refine ⟨_, by assumption, ?_⟩ | refine Alt2.l (aI ?_) | refine Alt2.r (aI ?_)); conv => whnf) | (refine Ok.scope ?_) | ((first | refine Ok.label ?_ | refine rd rfl (by assumption) ?_ | refine ⟨_, .inl ⟨rfl, rfl⟩, ?_⟩ | refine ⟨_, _, rfl, rfl, ?_⟩); conv => whnf) | (refine ⟨fun _ => ?_, fun _ => ?_⟩ <;> (conv => whnf) <;> (try (exfalso; omega))) | ((first | refine aJ ?_ | refine num_any ?_ | refine ⟨_, rfl, ?_⟩); conv => whnf) | fail)
    all_goals first
      | (rename_i hh; exact absurd hnone hh)
      | (refine Or.inl ?_; (conv => whnf)
         show D.b False = _
         exact congrArg D.b (propext ⟨fun h => h.elim, fun h2 => h2.1 hnone⟩))
  (try (conv => whnf)); repeat' (first | refine Ok.seq ?_ | refine OkL.cons ?_ | ((first | refine Ok.region tok ?_ | refine Ok.region_draw tok follows (by kernel_rfl) ?_ | refine Ok.cond ?_); conv => whnf) | refine Ok.block ?_ | ((first | refine Ok.skip ?_ | refine Ok.exit ?_ | refine Ok.ret ?_ | refine nI ?_ | refine ix _ (by assumption) ?_ | refine ixI (by omega) (by assumption) ?_ | refine ix_new _ (by omega) fun _ _ => ?_ | refine ixI_new (by omega) (by omega) fun _ _ => ?_ | refine ⟨_, by assumption, ?_⟩ | refine Alt2.l (aI ?_) | refine Alt2.r (aI ?_)); conv => whnf) | (refine Ok.scope ?_) | ((first | refine Ok.label ?_ | refine rd rfl (by assumption) ?_ | refine ⟨_, .inl ⟨rfl, rfl⟩, ?_⟩ | refine ⟨_, _, rfl, rfl, ?_⟩); conv => whnf) | (refine ⟨fun _ => ?_, fun _ => ?_⟩ <;> (conv => whnf) <;> (try (exfalso; omega))) | ((first | refine aJ ?_ | refine num_any ?_ | refine ⟨_, rfl, ?_⟩); conv => whnf) | fail)
  all_goals first
    | (rename_i hh; exact absurd hh hnone)
    | skip
  have hsx : saidX s h ↔ ∃ m ∈ pieces s, okM h m := ⟨fun q => q.2, fun q => ⟨hnone, q⟩⟩
  refine Ok.loopU [0, 1] [5, 6, 7, 8, 9] 0 0 (fun (x : Nat × Nat × Bool × Bool × Bool) => [.i .i64 (x.2.1 : Nat), bD x.2.2.1, bD x.2.2.2.1, bD x.2.2.2.2, .i .i64 (x.1 : Nat)]) (fun _ b => b) (fun _ r => r) (fun (x : Nat × Nat × Bool × Bool × Bool) => SInv s h x) (fun (x : Nat × Nat × Bool × Bool × Bool) => s.length + 1 - x.1) ((0, 0, true, true, false)) (.inl ⟨Nat.zero_le _, Nat.le_refl _, by simp, by simp, by show _ ↔ resX h true true false (pieces (s.drop 0)); rw [List.drop_zero, resX_start h (pieces_ne s)]; simp⟩) ?_; (conv => whnf); refine ⟨by ((conv => whnf); first | rfl | (simp [envCat, List.take_of_length_le, bcell, srow]; done) | (simp [envCat, List.take_of_length_le, bcell, srow]; rw [IntKind.wrap_i64]; omega)), ?_⟩
  rintro ⟨i, f, inn, fi, sm⟩ (⟨hi, hfi, hno1, hno2, hq⟩ | ⟨hi, hq⟩)
  case inr =>
    dsimp only at hi hq
    cases sm
    all_goals
      (conv => whnf)
      (try (conv => whnf)); repeat' (first | refine Ok.seq ?_ | refine OkL.cons ?_ | ((first | refine Ok.region tok ?_ | refine Ok.region_draw tok follows (by kernel_rfl) ?_ | refine Ok.cond ?_); conv => whnf) | refine Ok.block ?_ | ((first | refine Ok.skip ?_ | refine Ok.exit ?_ | refine Ok.ret ?_ | refine nI ?_ | refine ix _ (by assumption) ?_ | refine ixI (by omega) (by assumption) ?_ | refine ix_new _ (by omega) fun _ _ => ?_ | refine ixI_new (by omega) (by omega) fun _ _ => ?_ | refine ⟨_, by assumption, ?_⟩ | refine Alt2.l (aI ?_) | refine Alt2.r (aI ?_)); conv => whnf) | (refine Ok.scope ?_) | ((first | refine Ok.label ?_ | refine rd rfl (by assumption) ?_ | refine ⟨_, .inl ⟨rfl, rfl⟩, ?_⟩ | refine ⟨_, _, rfl, rfl, ?_⟩); conv => whnf) | (refine ⟨fun _ => ?_, fun _ => ?_⟩ <;> (conv => whnf) <;> (try (exfalso; omega))) | ((first | refine aJ ?_ | refine num_any ?_ | refine ⟨_, rfl, ?_⟩); conv => whnf) | fail)
      all_goals first
        | (exfalso; omega)
        | skip
    · refine Or.inl ?_; (conv => whnf)
      show D.b False = _
      exact congrArg D.b (propext ⟨fun h => h.elim, fun q => absurd (hq.1 (hsx.1 q)) (by decide)⟩)
    · refine Or.inl ?_; (conv => whnf)
      show D.b True = _
      exact congrArg D.b (propext ⟨fun _ => hsx.2 (hq.2 rfl), fun _ => trivial⟩)
  dsimp only at hi hfi hno1 hno2 hq
  by_cases hil : i < s.length
  · obtain ⟨b, hb⟩ : ∃ b, s[i]? = some b := ⟨_, List.getElem?_eq_getElem hil⟩
    have hbI : s[((i : Nat) : Int).toNat]? = some b := hb
    have hdr := drop_at hfi hb
    have hz : ∀ c : UInt8, c ∉ (s.take (i + 1)).drop (i + 1) := fun c => by rw [List.drop_eq_nil_of_le (by simp; omega)]; simp
    have hfit := fits3_at h ((s.take i).drop f) (by simp; omega)
    by_cases h43 : b = 43
    · subst h43
      have hn : (((43 : UInt8).toNat : Nat) : Int) = 43 := rfl
      rw [hdr, pieces_plus hno1 hno2, resX_plus (pieces_ne _)] at hq
      clear hdr
      cases inn <;> cases fi <;> cases sm
      all_goals
        (conv => whnf)
        (try (conv => whnf)); repeat' (first | refine Ok.seq ?_ | refine OkL.cons ?_ | ((first | refine Ok.region tok ?_ | refine Ok.region_draw tok follows (by kernel_rfl) ?_ | refine Ok.cond ?_); conv => whnf) | refine Ok.block ?_ | ((first | refine Ok.skip ?_ | refine Ok.exit ?_ | refine Ok.ret ?_ | refine nI ?_ | refine ix _ (by assumption) ?_ | refine ixI (by omega) (by assumption) ?_ | refine ix_new _ (by omega) fun _ _ => ?_ | refine ixI_new (by omega) (by omega) fun _ _ => ?_ | refine ⟨_, by assumption, ?_⟩); conv => whnf) | (refine Or.inl ?_; (conv => whnf); (repeat (refine aI ?_; conv => whnf)); refine ⟨_, hfit, rfl, ?_⟩; conv => whnf) | (refine ⟨_, hfit, rfl, ?_⟩; conv => whnf) | (refine Or.inr (Or.inl ?_); (conv => whnf); (repeat (refine aI ?_; conv => whnf)); refine ⟨_, hfit, ?_⟩; rintro _ _ ⟨rfl, rfl⟩; conv => whnf) | ((first | refine Alt2.l (aI ?_) | refine Alt2.r (aI ?_)); conv => whnf) | (refine Ok.scope ?_) | ((first | refine Ok.label ?_ | refine rd rfl (by assumption) ?_ | refine ⟨_, .inl ⟨rfl, rfl⟩, ?_⟩ | refine ⟨_, _, rfl, rfl, ?_⟩); conv => whnf) | (refine ⟨fun _ => ?_, fun _ => ?_⟩ <;> (conv => whnf) <;> (try (exfalso; omega))) | ((first | refine aJ ?_ | refine num_any ?_ | refine ⟨_, rfl, ?_⟩); conv => whnf) | fail)
        all_goals first
        | (exfalso; omega)
        | (rw [nxt_yes (has := inL h ((s.take i).drop f)) (by first | assumption | exact Classical.not_not.1 (by assumption))] at hq
           refine ⟨(i + 1, i + 1, true, true, _), by dsimp only; omega, .inl ⟨by dsimp only; omega, Nat.le_refl _, hz 43, hz 45, hq⟩, ?_⟩
           (conv => whnf)
           rfl)
        | (rw [nxt_no (has := inL h ((s.take i).drop f)) (by assumption)] at hq
           refine ⟨(i + 1, i + 1, true, true, _), by dsimp only; omega, .inl ⟨by dsimp only; omega, Nat.le_refl _, hz 43, hz 45, hq⟩, ?_⟩
           (conv => whnf)
           rfl)
        | trace_state
    have h43b := u8_ne h43
    rw [show (((43 : UInt8).toNat : Nat) : Int) = 43 from rfl] at h43b
    by_cases h45 : b = 45
    · subst h45
      have hn : (((45 : UInt8).toNat : Nat) : Int) = 45 := rfl
      rw [hdr, pieces_minus hno1 hno2, resX_minus] at hq
      clear hdr
      cases inn <;> cases fi <;> cases sm
      all_goals
        (conv => whnf)
        (try (conv => whnf)); repeat' (first | refine Ok.seq ?_ | refine OkL.cons ?_ | ((first | refine Ok.region tok ?_ | refine Ok.region_draw tok follows (by kernel_rfl) ?_ | refine Ok.cond ?_); conv => whnf) | refine Ok.block ?_ | ((first | refine Ok.skip ?_ | refine Ok.exit ?_ | refine Ok.ret ?_ | refine nI ?_ | refine ix _ (by assumption) ?_ | refine ixI (by omega) (by assumption) ?_ | refine ix_new _ (by omega) fun _ _ => ?_ | refine ixI_new (by omega) (by omega) fun _ _ => ?_ | refine ⟨_, by assumption, ?_⟩); conv => whnf) | (refine Or.inl ?_; (conv => whnf); (repeat (refine aI ?_; conv => whnf)); refine ⟨_, hfit, rfl, ?_⟩; conv => whnf) | (refine ⟨_, hfit, rfl, ?_⟩; conv => whnf) | (refine Or.inr (Or.inl ?_); (conv => whnf); (repeat (refine aI ?_; conv => whnf)); refine ⟨_, hfit, ?_⟩; rintro _ _ ⟨rfl, rfl⟩; conv => whnf) | ((first | refine Alt2.l (aI ?_) | refine Alt2.r (aI ?_)); conv => whnf) | (refine Ok.scope ?_) | ((first | refine Ok.label ?_ | refine rd rfl (by assumption) ?_ | refine ⟨_, .inl ⟨rfl, rfl⟩, ?_⟩ | refine ⟨_, _, rfl, rfl, ?_⟩); conv => whnf) | (refine ⟨fun _ => ?_, fun _ => ?_⟩ <;> (conv => whnf) <;> (try (exfalso; omega))) | ((first | refine aJ ?_ | refine num_any ?_ | refine ⟨_, rfl, ?_⟩); conv => whnf) | fail)
        all_goals first
        | (exfalso; omega)
        | (rw [nxt_yes (has := inL h ((s.take i).drop f)) (by first | assumption | exact Classical.not_not.1 (by assumption))] at hq
           refine ⟨(i + 1, i + 1, _, false, _), by dsimp only; omega, .inl ⟨by dsimp only; omega, Nat.le_refl _, hz 43, hz 45, hq⟩, ?_⟩
           (conv => whnf)
           rfl)
        | (rw [nxt_no (has := inL h ((s.take i).drop f)) (by assumption)] at hq
           refine ⟨(i + 1, i + 1, _, false, _), by dsimp only; omega, .inl ⟨by dsimp only; omega, Nat.le_refl _, hz 43, hz 45, hq⟩, ?_⟩
           (conv => whnf)
           rfl)
        | trace_state
    have h45b := u8_ne h45
    rw [show (((45 : UInt8).toNat : Nat) : Int) = 45 from rfl] at h45b
    have hm1 := cut_more hfi hb h43 hno1
    have hm2 := cut_more hfi hb h45 hno2
    cases inn <;> cases fi <;> cases sm
    all_goals
      (conv => whnf)
      (try (conv => whnf)); repeat' (first | refine Ok.seq ?_ | refine OkL.cons ?_ | ((first | refine Ok.region tok ?_ | refine Ok.region_draw tok follows (by kernel_rfl) ?_ | refine Ok.cond ?_); conv => whnf) | refine Ok.block ?_ | ((first | refine Ok.skip ?_ | refine Ok.exit ?_ | refine Ok.ret ?_ | refine nI ?_ | refine ix _ (by assumption) ?_ | refine ixI (by omega) (by assumption) ?_ | refine ix_new _ (by omega) fun _ _ => ?_ | refine ixI_new (by omega) (by omega) fun _ _ => ?_ | refine ⟨_, by assumption, ?_⟩ | refine Alt2.l (aI ?_) | refine Alt2.r (aI ?_)); conv => whnf) | (refine Ok.scope ?_) | ((first | refine Ok.label ?_ | refine rd rfl (by assumption) ?_ | refine ⟨_, .inl ⟨rfl, rfl⟩, ?_⟩ | refine ⟨_, _, rfl, rfl, ?_⟩); conv => whnf) | (refine ⟨fun _ => ?_, fun _ => ?_⟩ <;> (conv => whnf) <;> (try (exfalso; omega))) | ((first | refine aJ ?_ | refine num_any ?_ | refine ⟨_, rfl, ?_⟩); conv => whnf) | fail)
      all_goals first
        | (exfalso; omega)
        | (refine ⟨(i + 1, f, _, _, _), by dsimp only; omega, .inl ⟨by dsimp only; omega, by dsimp only; omega, hm1, hm2, hq⟩, ?_⟩
           (conv => whnf)
           rfl)
        | trace_state
  · have hie : i = s.length := by omega
    subst hie
    have hfit := fits3_at h ((s.take s.length).drop f) (by simp; omega)
    have hp : s.drop f = (s.take s.length).drop f := by rw [List.take_length]
    rw [hp, pieces_last hno1 hno2, resX_last] at hq
    clear hp
    cases inn <;> cases fi <;> cases sm
    all_goals
      (conv => whnf)
      (try (conv => whnf)); repeat' (first | refine Ok.seq ?_ | refine OkL.cons ?_ | ((first | refine Ok.region tok ?_ | refine Ok.region_draw tok follows (by kernel_rfl) ?_ | refine Ok.cond ?_); conv => whnf) | refine Ok.block ?_ | ((first | refine Ok.skip ?_ | refine Ok.exit ?_ | refine Ok.ret ?_ | refine nI ?_ | refine ix _ (by assumption) ?_ | refine ixI (by omega) (by assumption) ?_ | refine ix_new _ (by omega) fun _ _ => ?_ | refine ixI_new (by omega) (by omega) fun _ _ => ?_ | refine ⟨_, by assumption, ?_⟩); conv => whnf) | (refine Or.inl ?_; (conv => whnf); (repeat (refine aI ?_; conv => whnf)); refine ⟨_, hfit, rfl, ?_⟩; conv => whnf) | (refine ⟨_, hfit, rfl, ?_⟩; conv => whnf) | (refine Or.inr (Or.inl ?_); (conv => whnf); (repeat (refine aI ?_; conv => whnf)); refine ⟨_, hfit, ?_⟩; rintro _ _ ⟨rfl, rfl⟩; conv => whnf) | ((first | refine Alt2.l (aI ?_) | refine Alt2.r (aI ?_)); conv => whnf) | (refine Ok.scope ?_) | ((first | refine Ok.label ?_ | refine rd rfl (by assumption) ?_ | refine ⟨_, .inl ⟨rfl, rfl⟩, ?_⟩ | refine ⟨_, _, rfl, rfl, ?_⟩); conv => whnf) | (refine ⟨fun _ => ?_, fun _ => ?_⟩ <;> (conv => whnf) <;> (try (exfalso; omega))) | ((first | refine aJ ?_ | refine num_any ?_ | refine ⟨_, rfl, ?_⟩); conv => whnf) | fail)
      all_goals first
      | (exfalso; omega)
      | (rw [nxt_yes (has := inL h ((s.take s.length).drop f)) (by first | assumption | exact Classical.not_not.1 (by assumption))] at hq
         refine ⟨(s.length + 1, s.length + 1, true, true, _), by dsimp only; omega, .inr ⟨rfl, hq⟩, ?_⟩
         (conv => whnf)
         rfl)
      | (rw [nxt_no (has := inL h ((s.take s.length).drop f)) (by assumption)] at hq
         refine ⟨(s.length + 1, s.length + 1, true, true, _), by dsimp only; omega, .inr ⟨rfl, hq⟩, ?_⟩
         (conv => whnf)
         rfl)
      | trace_state
end Go.Proofs.YtaiondckookpiaaGreatDoor
namespace Go.Proofs.YtaiondckookpiaaGreatDoor
open Go Go.Vx
section
variable {p : Int → Prop} {a c r : Int} {k m j : Nat}
theorem wrap_small {x : Int} (h1 : 0 ≤ x) (h2 : x ≤ 9223372036854775807) : IntKind.i64.wrap x = x := by
  rw [IntKind.wrap_i64]
  omega
theorem iShl1 (hc : c = 1) (hr : r = (k : Int) ∧ k ≤ 8) (h : p ((2 ^ k : Nat) : Int)) : ∃ n, n = IntKind.i64.wrap (c * 2 ^ (min r.toNat IntKind.i64.bits)) ∧ p n := by
  obtain ⟨rfl, hk⟩ := hr
  subst hc
  refine ⟨_, rfl, ?_⟩
  have e1 : min ((k : Int).toNat) IntKind.i64.bits = k := by show min k 64 = k; omega
  have e2 : (1 : Int) * 2 ^ k = ((2 ^ k : Nat) : Int) := by simp
  have h3 : 2 ^ k ≤ 2 ^ 8 := Nat.pow_le_pow_right (by decide) hk
  have h4 : ((2 ^ k : Nat) : Int) ≤ ((2 ^ 8 : Nat) : Int) := Int.ofNat_le.2 h3
  have h5 : ((2 ^ 8 : Nat) : Int) = 256 := rfl
  rw [e1, e2, wrap_small (Int.natCast_nonneg _) (by rw [h5] at h4; exact Int.le_trans h4 (by decide))]
  exact h
theorem iShr (ha : a = (m : Int)) (hr : r = (j : Int) ∧ j ≤ 8) (h : p ((m >>> j : Nat) : Int)) : ∃ n, n = a.fdiv (2 ^ (min r.toNat IntKind.i64.bits)) ∧ p n := by
  obtain ⟨rfl, hk⟩ := hr
  subst ha
  refine ⟨_, rfl, ?_⟩
  have e1 : min ((j : Int).toNat) IntKind.i64.bits = j := by show min j 64 = j; omega
  have e2 : (m : Int).fdiv (2 ^ j) = ((m >>> j : Nat) : Int) := by
    rw [Nat.shiftRight_eq_div_pow]
    have : (2 : Int) ^ j = ((2 ^ j : Nat) : Int) := by simp
    rw [this, Int.fdiv_eq_ediv_of_nonneg _ (Int.natCast_nonneg _)]
    simp
  rw [e1, e2]
  exact h
theorem iAnd1 (ha : a = (m : Int)) (hm : m < 256) (hc : c = 1) (h : p ((m % 2 : Nat) : Int)) : ∃ n, n = IntKind.i64.wrap ((BitVec.ofInt IntKind.i64.bits a &&& BitVec.ofInt IntKind.i64.bits c).toNat : Int) ∧ p n := by
  subst ha hc
  refine ⟨_, rfl, ?_⟩
  have e : ((BitVec.ofInt IntKind.i64.bits (m : Int) &&& BitVec.ofInt IntKind.i64.bits 1).toNat) = m % 2 := by
    show ((BitVec.ofInt 64 (m : Int) &&& BitVec.ofInt 64 1).toNat) = m % 2
    rw [BitVec.toNat_and]
    have h1 : (BitVec.ofInt 64 (m : Int)).toNat = m := by simp [BitVec.toNat_ofInt]; omega
    have h2 : (BitVec.ofInt 64 1).toNat = 1 := rfl
    rw [h1, h2, Nat.and_one_is_mod]
  rw [e, wrap_small (by omega) (by omega)]
  exact h
theorem iU8 {x : Int} (h1 : 0 ≤ x ∧ x ≤ 255) (h : p x) : ∃ n, n = IntKind.u8.wrap x ∧ p n := by
  refine ⟨_, rfl, ?_⟩
  have : IntKind.u8.wrap x = x := by
    show x % 256 = x
    omega
  rw [this]
  exact h
end
def dg (k m i : Nat) : UInt8 := UInt8.ofNat (48 + (m >>> (k - 1 - i)) % 2)
theorem dg_nat (k m i : Nat) : (dg k m i).toNat = 48 + (m >>> (k - 1 - i)) % 2 := by
  unfold dg
  rw [UInt8.toNat_ofNat']
  omega
def binS (k m : Nat) : Str := (List.range k).map (dg k m)
theorem binS_len (k m : Nat) : (binS k m).length = k := by simp [binS]
theorem binS_get {k m i : Nat} (h : i < k) : (binS k m)[i]? = some (dg k m i) := by simp [binS, h]
def allH (k : Nat) : List Str := (List.range (2 ^ k)).map (binS k)
def hdrsL (n : Int) (given : List Str) : List Str := if n < 1 ∨ 8 < n then given.take 64 else allH n.toNat
set_option maxRecDepth 100000 in
set_option maxHeartbeats 8000000 in
theorem headers_at (n : Int) (given : List Str) (room : List (List D)) : FSpec Tryz.prog T 47 [.i .i64 n, .lst 9 (given.map srow) room] (fun d rows => rows = [] ∧ ∃ rm, d = .lst 9 ((hdrsL n given).map srow) rm) := by
  have hgl : (given.map srow).length = given.length := by simp
  refine FSpec.of_ok tok Tryz.func47 rfl Tryz.call47 (by simp) ?_
  by_cases hn : n < 1 ∨ 8 < n
  · rw [show hdrsL n given = given.take 64 from if_pos hn]
    by_cases hg : 64 < given.length
    · (try (conv => whnf)); repeat' (first | refine Ok.seq ?_ | refine OkL.cons ?_ | ((first | refine Ok.region tok ?_ | refine Ok.region_draw tok follows (by kernel_rfl) ?_ | refine Ok.cond ?_); conv => whnf) | refine Ok.block ?_ | ((first | refine Ok.skip ?_ | refine Ok.exit ?_ | refine Ok.ret ?_ | refine nI ?_ | refine ix _ (by assumption) ?_ | refine ixI (by omega) (by assumption) ?_ | refine ix_new _ (by omega) fun _ _ => ?_ | refine ixI_new (by omega) (by omega) fun _ _ => ?_ | refine ⟨_, by assumption, ?_⟩ | refine Alt2.l (aI ?_) | refine Alt2.r (aI ?_)); conv => whnf) | (refine Ok.scope ?_) | ((first | refine Ok.label ?_ | refine rd rfl (by assumption) ?_ | refine ⟨_, .inl ⟨rfl, rfl⟩, ?_⟩ | refine ⟨_, _, rfl, rfl, ?_⟩); conv => whnf) | (refine ⟨fun _ => ?_, fun _ => ?_⟩ <;> (conv => whnf) <;> (try (exfalso; omega))) | ((first | refine aJ ?_ | refine num_any ?_ | refine ⟨_, rfl, ?_⟩); conv => whnf) | fail)
      all_goals first
        | (exfalso; omega)
        | (refine Or.inl ?_; (conv => whnf)
           have e : List.drop 0 (List.take 64 (given.map srow ++ room)) = (given.take 64).map srow := by rw [List.drop_zero, List.take_append_of_le_length (by simp; omega), ← List.map_take]
           refine ⟨rfl, List.drop 64 (given.map srow ++ room), ?_⟩
           exact congrArg (fun x => D.lst 9 x _) e)
        | trace_state
    · have : given.take 64 = given := List.take_of_length_le (by omega)
      rw [this]
      (try (conv => whnf)); repeat' (first | refine Ok.seq ?_ | refine OkL.cons ?_ | ((first | refine Ok.region tok ?_ | refine Ok.region_draw tok follows (by kernel_rfl) ?_ | refine Ok.cond ?_); conv => whnf) | refine Ok.block ?_ | ((first | refine Ok.skip ?_ | refine Ok.exit ?_ | refine Ok.ret ?_ | refine nI ?_ | refine ix _ (by assumption) ?_ | refine ixI (by omega) (by assumption) ?_ | refine ix_new _ (by omega) fun _ _ => ?_ | refine ixI_new (by omega) (by omega) fun _ _ => ?_ | refine ⟨_, by assumption, ?_⟩ | refine Alt2.l (aI ?_) | refine Alt2.r (aI ?_)); conv => whnf) | (refine Ok.scope ?_) | ((first | refine Ok.label ?_ | refine rd rfl (by assumption) ?_ | refine ⟨_, .inl ⟨rfl, rfl⟩, ?_⟩ | refine ⟨_, _, rfl, rfl, ?_⟩); conv => whnf) | (refine ⟨fun _ => ?_, fun _ => ?_⟩ <;> (conv => whnf) <;> (try (exfalso; omega))) | ((first | refine aJ ?_ | refine num_any ?_ | refine ⟨_, rfl, ?_⟩); conv => whnf) | fail)
      all_goals first
        | (exfalso; omega)
        | (refine Or.inl ?_; (conv => whnf)
           exact ⟨rfl, room, rfl⟩)
        | trace_state
  obtain ⟨k, rfl⟩ : ∃ k : Nat, n = (k : Int) := ⟨n.toNat, by omega⟩
  rw [show hdrsL (k : Int) given = allH k from if_neg hn]
  (try (conv => whnf)); repeat' (first | refine Ok.seq ?_ | refine OkL.cons ?_ | ((first | refine Ok.region tok ?_ | refine Ok.region_draw tok follows (by kernel_rfl) ?_ | refine Ok.cond ?_); conv => whnf) | refine Ok.block ?_ | ((first | refine Ok.skip ?_ | refine Ok.exit ?_ | refine Ok.ret ?_ | refine nI ?_ | refine ix _ (by assumption) ?_ | refine ixI (by omega) (by assumption) ?_ | refine ix_new _ (by omega) fun _ _ => ?_ | refine ixI_new (by omega) (by omega) fun _ _ => ?_ | refine ⟨_, by assumption, ?_⟩ | refine Alt2.l (aI ?_) | refine Alt2.r (aI ?_)); conv => whnf) | (refine Ok.scope ?_) | ((first | refine Ok.label ?_ | refine rd rfl (by assumption) ?_ | refine ⟨_, .inl ⟨rfl, rfl⟩, ?_⟩ | refine ⟨_, _, rfl, rfl, ?_⟩); conv => whnf) | (refine ⟨fun _ => ?_, fun _ => ?_⟩ <;> (conv => whnf) <;> (try (exfalso; omega))) | ((first | refine aJ ?_ | refine num_any ?_ | refine ⟨_, rfl, ?_⟩); conv => whnf) | fail)
  all_goals first
    | (exfalso; omega)
    | skip
  refine Ok.ghost 5 9 rfl ?_
  (conv => whnf)
  have hk8 : 2 ^ k ≤ 2 ^ 8 := Nat.pow_le_pow_right (by decide) (by omega)
  refine Ok.loopU [0] [5, 6] 1 0 (fun (m : Nat) => [.own 0 m, .i .i64 (m : Nat)]) (fun _ b => b) (fun (m : Nat) (_ : Vx.Rows) => [some (9, ((List.range m).map (binS k)).map srow)]) (fun (m : Nat) => m ≤ 2 ^ k) (fun (m : Nat) => 2 ^ k - m) (0) (Nat.zero_le _) ?_; (conv => whnf); refine ⟨by ((conv => whnf); first | rfl | (simp [envCat, List.take_of_length_le, bcell, srow]; done) | (simp [envCat, List.take_of_length_le, bcell, srow]; rw [IntKind.wrap_i64]; omega)), ?_⟩
  rintro m hm
  have hrm : (((List.range m).map (binS k)).map srow).length = m := by simp
  (conv => whnf)
  by_cases hml : m < 2 ^ k
  · (try (conv => whnf)); repeat' (first | (refine iShl1 rfl ⟨rfl, by omega⟩ ?_; (conv => whnf)) | refine Ok.seq ?_ | refine OkL.cons ?_ | ((first | refine Ok.region tok ?_ | refine Ok.region_draw tok follows (by kernel_rfl) ?_ | refine Ok.cond ?_); conv => whnf) | refine Ok.block ?_ | ((first | refine Ok.skip ?_ | refine Ok.exit ?_ | refine Ok.ret ?_ | refine nI ?_ | refine ix _ (by assumption) ?_ | refine ixI (by omega) (by assumption) ?_ | refine ix_new _ (by omega) fun _ _ => ?_ | refine ixI_new (by omega) (by omega) fun _ _ => ?_ | refine ⟨_, by assumption, ?_⟩ | refine Alt2.l (aI ?_) | refine Alt2.r (aI ?_)); conv => whnf) | (refine Ok.scope ?_) | ((first | refine Ok.label ?_ | refine rd rfl (by assumption) ?_ | refine ⟨_, .inl ⟨rfl, rfl⟩, ?_⟩ | refine ⟨_, _, rfl, rfl, ?_⟩); conv => whnf) | (refine ⟨fun _ => ?_, fun _ => ?_⟩ <;> (conv => whnf) <;> (try (exfalso; omega))) | ((first | refine aJ ?_ | refine num_any ?_ | refine ⟨_, rfl, ?_⟩); conv => whnf) | fail)
    all_goals first
      | (exfalso; omega)
      | skip
    refine Ok.loopU [0, 5, 6, 7] [8] 2 0 (fun (i : Nat) => [.i .i64 (i : Nat)]) (fun _ b => b) (fun (i : Nat) (_ : Vx.Rows) => [some (9, ((List.range m).map (binS k)).map srow), some (5, ((binS k m).take i ++ List.replicate (k - i) 0).map bcell)]) (fun (i : Nat) => i ≤ k) (fun (i : Nat) => k - i) (0) (Nat.zero_le _) ?_; (conv => whnf); refine ⟨by ((conv => whnf); first | rfl | (simp [envCat, List.take_of_length_le, bcell, srow]; done) | (simp [envCat, List.take_of_length_le, bcell, srow]; rw [IntKind.wrap_i64]; omega)), ?_⟩
    rintro i hi
    have hbl := binS_len k m
    have hll : ((binS k m).take i ++ List.replicate (k - i) (0 : UInt8)).length = k := by simp [hbl]; omega
    have hlm : (((binS k m).take i ++ List.replicate (k - i) (0 : UInt8)).map bcell).length = k := by rw [List.length_map, hll]
    (conv => whnf)
    by_cases hil : i < k
    · have hfa := fill_at (t := binS k m) (i := i) (by omega)
      have hfs := fill_set (binS_get (m := m) hil)
      rw [hbl] at hfa hfs
      have hj : ((k : Int) - 1 - (i : Int)) = ((k - 1 - i : Nat) : Int) ∧ k - 1 - i ≤ 8 := by omega
      have hdn := dg_nat k m i
      (try (conv => whnf)); repeat' (first | (refine iShr rfl (by assumption) ?_; (conv => whnf)) | (refine iAnd1 rfl (by have := Nat.shiftRight_le m (k - 1 - i); omega) rfl ?_; (conv => whnf)) | (refine iU8 (by omega) ?_; (conv => whnf)) | refine Ok.seq ?_ | refine OkL.cons ?_ | ((first | refine Ok.region tok ?_ | refine Ok.region_draw tok follows (by kernel_rfl) ?_ | refine Ok.cond ?_); conv => whnf) | refine Ok.block ?_ | ((first | refine Ok.skip ?_ | refine Ok.exit ?_ | refine Ok.ret ?_ | refine nI ?_ | refine ix _ (by assumption) ?_ | refine ixI (by omega) (by assumption) ?_ | refine ix_new _ (by omega) fun _ _ => ?_ | refine ixI_new (by omega) (by omega) fun _ _ => ?_ | refine ⟨_, by assumption, ?_⟩ | refine Alt2.l (aI ?_) | refine Alt2.r (aI ?_)); conv => whnf) | (refine Ok.scope ?_) | ((first | refine Ok.label ?_ | refine rd rfl (by assumption) ?_ | refine ⟨_, .inl ⟨rfl, rfl⟩, ?_⟩ | refine ⟨_, _, rfl, rfl, ?_⟩); conv => whnf) | (refine ⟨fun _ => ?_, fun _ => ?_⟩ <;> (conv => whnf) <;> (try (exfalso; omega))) | ((first | refine aJ ?_ | refine num_any ?_ | refine ⟨_, rfl, ?_⟩); conv => whnf) | fail)
      all_goals first
        | (exfalso; omega)
        | skip
      refine st (dg k m i) hfa (by simp [bcell]) (by simp [setCells, bcell, hdn]) ?_
      (try (conv => whnf)); repeat' (first | refine Ok.seq ?_ | refine OkL.cons ?_ | ((first | refine Ok.region tok ?_ | refine Ok.region_draw tok follows (by kernel_rfl) ?_ | refine Ok.cond ?_); conv => whnf) | refine Ok.block ?_ | ((first | refine Ok.skip ?_ | refine Ok.exit ?_ | refine Ok.ret ?_ | refine nI ?_ | refine ix _ (by assumption) ?_ | refine ixI (by omega) (by assumption) ?_ | refine ix_new _ (by omega) fun _ _ => ?_ | refine ixI_new (by omega) (by omega) fun _ _ => ?_ | refine ⟨_, by assumption, ?_⟩ | refine Alt2.l (aI ?_) | refine Alt2.r (aI ?_)); conv => whnf) | (refine Ok.scope ?_) | ((first | refine Ok.label ?_ | refine rd rfl (by assumption) ?_ | refine ⟨_, .inl ⟨rfl, rfl⟩, ?_⟩ | refine ⟨_, _, rfl, rfl, ?_⟩); conv => whnf) | (refine ⟨fun _ => ?_, fun _ => ?_⟩ <;> (conv => whnf) <;> (try (exfalso; omega))) | ((first | refine aJ ?_ | refine num_any ?_ | refine ⟨_, rfl, ?_⟩); conv => whnf) | fail)
      refine ⟨i + 1, by omega, by omega, ?_⟩
      (conv => whnf)
      simp only [toNat_cast, hfs, envCat]
      rfl
    · have hie : i = k := by omega
      subst hie
      have ht : (binS i m).take i = binS i m := by
        have := binS_len i m
        exact List.take_of_length_le (by omega)
      rw [ht, Nat.sub_self, List.replicate_zero, List.append_nil] at *
      (try (conv => whnf)); repeat' (first | refine Ok.seq ?_ | refine OkL.cons ?_ | ((first | refine Ok.region tok ?_ | refine Ok.region_draw tok follows (by kernel_rfl) ?_ | refine Ok.cond ?_); conv => whnf) | refine Ok.block ?_ | ((first | refine Ok.skip ?_ | refine Ok.exit ?_ | refine Ok.ret ?_ | refine nI ?_ | refine ix _ (by assumption) ?_ | refine ixI (by omega) (by assumption) ?_ | refine ix_new _ (by omega) fun _ _ => ?_ | refine ixI_new (by omega) (by omega) fun _ _ => ?_ | refine ⟨_, by assumption, ?_⟩ | refine Alt2.l (aI ?_) | refine Alt2.r (aI ?_)); conv => whnf) | (refine Ok.scope ?_) | ((first | refine Ok.label ?_ | refine rd rfl (by assumption) ?_ | refine ⟨_, .inl ⟨rfl, rfl⟩, ?_⟩ | refine ⟨_, _, rfl, rfl, ?_⟩); conv => whnf) | (refine ⟨fun _ => ?_, fun _ => ?_⟩ <;> (conv => whnf) <;> (try (exfalso; omega))) | ((first | refine aJ ?_ | refine num_any ?_ | refine ⟨_, rfl, ?_⟩); conv => whnf) | fail)
      refine ⟨binS i m, by rw [List.take_of_length_le (by rw [List.length_map]; omega)], ?_⟩
      (try (conv => whnf)); repeat' (first | refine Ok.seq ?_ | refine OkL.cons ?_ | ((first | refine Ok.region tok ?_ | refine Ok.region_draw tok follows (by kernel_rfl) ?_ | refine Ok.cond ?_); conv => whnf) | refine Ok.block ?_ | ((first | refine Ok.skip ?_ | refine Ok.exit ?_ | refine Ok.ret ?_ | refine nI ?_ | refine ix _ (by assumption) ?_ | refine ixI (by omega) (by assumption) ?_ | refine ix_new _ (by omega) fun _ _ => ?_ | refine ixI_new (by omega) (by omega) fun _ _ => ?_ | refine ⟨_, by assumption, ?_⟩ | refine Alt2.l (aI ?_) | refine Alt2.r (aI ?_)); conv => whnf) | (refine Ok.scope ?_) | ((first | refine Ok.label ?_ | refine rd rfl (by assumption) ?_ | refine ⟨_, .inl ⟨rfl, rfl⟩, ?_⟩ | refine ⟨_, _, rfl, rfl, ?_⟩); conv => whnf) | (refine ⟨fun _ => ?_, fun _ => ?_⟩ <;> (conv => whnf) <;> (try (exfalso; omega))) | ((first | refine aJ ?_ | refine num_any ?_ | refine ⟨_, rfl, ?_⟩); conv => whnf) | fail)
      refine ⟨m + 1, by omega, by omega, ?_⟩
      rw [List.range_succ, List.map_append, List.map_append]
      (conv => whnf)
      simp [envCat]
  · have hme : m = 2 ^ k := by omega
    subst hme
    (try (conv => whnf)); repeat' (first | (refine iShl1 rfl ⟨rfl, by omega⟩ ?_; (conv => whnf)) | refine Ok.seq ?_ | refine OkL.cons ?_ | ((first | refine Ok.region tok ?_ | refine Ok.region_draw tok follows (by kernel_rfl) ?_ | refine Ok.cond ?_); conv => whnf) | refine Ok.block ?_ | ((first | refine Ok.skip ?_ | refine Ok.exit ?_ | refine Ok.ret ?_ | refine nI ?_ | refine ix _ (by assumption) ?_ | refine ixI (by omega) (by assumption) ?_ | refine ix_new _ (by omega) fun _ _ => ?_ | refine ixI_new (by omega) (by omega) fun _ _ => ?_ | refine ⟨_, by assumption, ?_⟩ | refine Alt2.l (aI ?_) | refine Alt2.r (aI ?_)); conv => whnf) | (refine Ok.scope ?_) | ((first | refine Ok.label ?_ | refine rd rfl (by assumption) ?_ | refine ⟨_, .inl ⟨rfl, rfl⟩, ?_⟩ | refine ⟨_, _, rfl, rfl, ?_⟩); conv => whnf) | (refine ⟨fun _ => ?_, fun _ => ?_⟩ <;> (conv => whnf) <;> (try (exfalso; omega))) | ((first | refine aJ ?_ | refine num_any ?_ | refine ⟨_, rfl, ?_⟩); conv => whnf) | fail)
    all_goals first
      | (exfalso; omega)
      | skip
    refine Or.inl ?_; (conv => whnf)
    refine ⟨rfl, [], ?_⟩
    rw [List.take_of_length_le (by simp), List.drop_of_length_le (by simp)]
    rfl
end Go.Proofs.YtaiondckookpiaaGreatDoor
namespace Go.Proofs.YtaiondckookpiaaGreatDoor
open Go Go.Vx
structure TermF (t : Term) : Prop where
  sorted : t.less.Pairwise blt
  anti : t.less.Pairwise fun x y => ¬ inL x y ∧ ¬ inL y x
  proper : t.less ≠ [t.p]
structure InF (ts : List Term) : Prop where
  t : ∀ t ∈ ts, TermF t
  anti : ts.Pairwise fun x y => ¬ covT x y ∧ ¬ covT y x
  sorted : ts.Pairwise aheadT
theorem InF.nil : InF [] := ⟨by simp, by simp, by simp⟩
theorem CN.no {c : Str} (h : CN c) {b : UInt8} (hb : b ≠ 48 ∧ b ≠ 49 ∧ b ≠ 120) : b ∉ c := fun hm => by
  rcases h.1.cub b hm with e | e | e
  · exact hb.1 e
  · exact hb.2.1 e
  · exact hb.2.2 e
end Go.Proofs.YtaiondckookpiaaGreatDoor
namespace Go.Proofs.YtaiondckookpiaaGreatDoor
open Go Go.Vx
theorem parO_cases (b : Int) (s : Str) : (∃ e, e ≠ 0 ∧ parO b s = (e, 0, [])) ∨ (1 ≤ b ∧ b ≤ 256 ∧ s.length ≤ 33024 ∧ ((s = [110, 111, 110, 101] ∧ parO b s = (0, b, [])) ∨ (s ≠ [110, 111, 110, 101] ∧ OkP b (pieces s) ∧ parO b s = (0, b, formT (trms (pieces s)))))) := by
  by_cases h1 : 33024 < s.length
  · exact .inl ⟨2, by decide, parO_long h1⟩
  by_cases h2 : b < 1 ∨ 256 < b
  · exact .inl ⟨1, by decide, parO_arg h1 h2⟩
  by_cases h3 : s = [110, 111, 110, 101]
  · exact .inr ⟨by omega, by omega, by omega, .inl ⟨h3, parO_none h1 h2 h3⟩⟩
  by_cases h4 : OkP b (pieces s)
  · by_cases h5 : 128 < cntP (pieces s)
    · exact .inl ⟨3, by decide, parO_many h1 h2 h3 h4 h5⟩
    · exact .inr ⟨by omega, by omega, by omega, .inr ⟨h3, h4, parO_form h1 h2 h3 h4 h5⟩⟩
  · exact .inl ⟨20, by decide, parO_word h1 h2 h3 h4⟩
theorem hasC_inL {n : Int} {c h : Str} (hd : hdrX n h) (hc : c ≠ []) (hl : (c.length : Int) = n) : hasC c h ↔ inL h c :=
  ⟨fun q => q.2.2.2, fun q => ⟨hc, inL_len q, hd.2, q⟩⟩
theorem saidM_ok {n : Int} {h : Str} {m : List Str} (hd : hdrX n h) (hm : m ≠ []) (ho : ∀ w ∈ m, OkW n w) : saidM m h ↔ okM h m := by
  cases m with
  | nil => exact absurd rfl hm
  | cons p l =>
    have hp := ho p (by simp)
    unfold saidM rawHas okM
    simp only [List.headD_cons, List.tail_cons]
    rw [hasC_inL hd hp.2.2 hp.1]
    exact and_congr_right fun _ => forall_congr' fun x => forall_congr' fun hx => not_congr (hasC_inL hd (ho x (by simp [hx])).2.2 (ho x (by simp [hx])).1)
theorem said_has {n : Int} {s h : Str} (hp : (parO n s).1 = 0) (hd : hdrX n h) : saidX s h ↔ hasS (parO n s).2.2 h := by
  rcases parO_cases n s with ⟨e, he, h1⟩ | ⟨_, _, _, ⟨h3, h1⟩ | ⟨h3, h4, h1⟩⟩
  · rw [h1] at hp; exact absurd hp he
  · rw [h1]
    exact ⟨fun q => absurd h3 q.1, fun ⟨t, ht, _⟩ => by simp at ht⟩
  · rw [h1]
    show _ ↔ hasS (formT (trms (pieces s))) h
    rw [hasS_form (n := n.toNat) (fun t ht => (trms_good (fun m hm => (pieces_mem hm).1) h4 t ht).ok), trms_has]
    unfold saidX saidP
    constructor
    · rintro ⟨_, m, hm, q⟩
      exact ⟨m, hm, (saidM_ok hd (pieces_mem hm).1 (h4 m hm)).2 q⟩
    · rintro ⟨m, hm, q⟩
      exact ⟨h3, m, hm, (saidM_ok hd (pieces_mem hm).1 (h4 m hm)).1 q⟩
theorem hdrsL_len (n : Int) (given : List Str) : (hdrsL n given).length ≤ 256 := by
  unfold hdrsL
  split
  · simp; omega
  · rename_i h
    have h1 : 2 ^ n.toNat ≤ 2 ^ 8 := Nat.pow_le_pow_right (by decide) (by omega)
    simp only [allH, List.length_map, List.length_range]
    exact h1
end Go.Proofs.YtaiondckookpiaaGreatDoor
namespace Go.Proofs.YtaiondckookpiaaGreatDoor
open Go Go.Vx
theorem curL_get {c d : Str} {j k : Nat} {a b : UInt8} (ha : c[k]? = some a) (hb : d[k]? = some b) : (curL c d j)[k]? = some (if k < j then ov1 a b else a) := by
  have hk : k < c.length := (List.getElem?_eq_some_iff.1 ha).1
  have hk2 : k < d.length := (List.getElem?_eq_some_iff.1 hb).1
  unfold curL
  by_cases hkj : k < j
  · rw [if_pos hkj, List.getElem?_append_left (by simp; omega), List.getElem?_zipWith, List.getElem?_take_of_lt hkj, List.getElem?_take_of_lt hkj, ha, hb]
  · have hl : (List.zipWith ov1 (c.take j) (d.take j)).length = j := by simp; omega
    rw [if_neg hkj, List.getElem?_append_right (by omega), hl, List.getElem?_drop, show j + (k - j) = k by omega]
    exact ha
theorem pcT_some {c d x : Str} {j : Nat} (h : pcT c d j = some x) : ∃ b, c[j]? = some 120 ∧ d[j]? = some b ∧ b ≠ 120 ∧ x = (curL c d j).set j (97 - b) := by
  unfold pcT at h
  split at h
  · rename_i a b ha hb
    split at h
    · rename_i hab
      cases h
      exact ⟨b, by rw [ha, hab.1], hb, hab.2, rfl⟩
    · cases h
  · cases h
theorem opp_ne {b h : UInt8} (hb : b = 48 ∨ b = 49 ∨ b = 120) (h120 : b ≠ 120) : 97 - b ≠ 120 ∧ (h = 97 - b → h ≠ b) := by
  rcases hb with rfl | rfl | rfl
  · exact ⟨by decide, fun e => by rw [e]; decide⟩
  · exact ⟨by decide, fun e => by rw [e]; decide⟩
  · exact absurd rfl h120
theorem piece_in {c d x h : Str} {j : Nat} (hd : CT d) (hl : d.length = c.length) (hx : pcT c d j = some x) (hh : inL h x) : inL h c ∧ ¬ inL h d := by
  obtain ⟨b, hc, hb, hb120, rfl⟩ := pcT_some hx
  have hj : j < c.length := (List.getElem?_eq_some_iff.1 hc).1
  have hlen : h.length = c.length := by have := inL_len hh; rw [List.length_set, curL_len hl] at this; exact this
  have hcub := hd.cub b (List.mem_of_getElem? hb)
  obtain ⟨hy, hhy⟩ : ∃ y, h[j]? = some y := ⟨_, List.getElem?_eq_getElem (by omega)⟩
  have hxj : ((curL c d j).set j (97 - b))[j]? = some (97 - b) := List.getElem?_set_self (by rw [curL_len hl]; exact hj)
  have hyb : hy = 97 - b := ((inL_get hh hhy hxj).resolve_left (opp_ne (h := hy) hcub hb120).1).symm
  refine ⟨inL_all hlen fun k a e ha he => ?_, fun hin => ?_⟩
  · by_cases hkj : k = j
    · subst hkj
      rw [hc] at he
      cases he
      exact .inl rfl
    · obtain ⟨b2, hb2⟩ : ∃ y, d[k]? = some y := ⟨_, List.getElem?_eq_getElem (by have := (List.getElem?_eq_some_iff.1 he).1; omega)⟩
      have hg := curL_get (j := j) he hb2
      have h2 := inL_get hh ha ((List.getElem?_set_ne (Ne.symm hkj)).trans hg)
      by_cases he120 : e = 120
      · exact .inl he120
      · right
        have : (if k < j then ov1 e b2 else e) = e := by
          split
          · unfold ov1; rw [if_neg he120]
          · rfl
        rw [this] at h2
        exact h2.resolve_left he120
  · have := inL_get hin hhy hb
    rcases this with h1 | h1
    · exact hb120 h1
    · exact (opp_ne (h := hy) hcub hb120).2 hyb h1.symm
theorem least_ex {p : Nat → Prop} (h : ∃ k, p k) : ∃ k, p k ∧ ∀ j, j < k → ¬ p j := by
  obtain ⟨k, hk⟩ := h
  induction k using Nat.strongRecOn with
  | _ k ih =>
    by_cases hj : ∃ j, j < k ∧ p j
    · obtain ⟨j, hjk, hpj⟩ := hj
      exact ih j hjk hpj
    · exact ⟨k, hk, fun j hjk hpj => hj ⟨j, hjk, hpj⟩⟩
theorem piece_ex {c d h : Str} (hd : CT d) (hl : d.length = c.length) (hm : (meetT c d).isSome = true) (hcn : c ≠ []) (hdig : ∀ b ∈ h, b = 48 ∨ b = 49) (hc : inL h c) (hnd : ¬ inL h d) : ∃ j x, j < c.length ∧ pcT c d j = some x ∧ inL h x := by
  have hlen := inL_len hc
  have hex : ∃ k : Nat, ∃ a b : UInt8, h[k]? = some a ∧ d[k]? = some b ∧ ¬ (b = 120 ∨ b = a) := Classical.byContradiction fun hno =>
    hnd (inL_all (by omega) fun k a b h1 h2 => Classical.byContradiction fun q => hno ⟨k, a, b, h1, h2, q⟩)
  obtain ⟨j, ⟨a, b, ha, hb, hab⟩, hmin⟩ := least_ex hex
  obtain ⟨m, hmm⟩ := Option.isSome_iff_exists.1 hm
  rw [meetT_eq hcn] at hmm
  have hmi := meetL_in hmm
  have hj : j < c.length := by have := (List.getElem?_eq_some_iff.1 ha).1; omega
  obtain ⟨e, he⟩ : ∃ y, c[j]? = some y := ⟨_, List.getElem?_eq_getElem hj⟩
  have he120 : e = 120 := Classical.byContradiction fun hne => by
    obtain ⟨y, hy⟩ : ∃ y, m[j]? = some y := ⟨_, List.getElem?_eq_getElem (by have := inL_len hmi.1; omega)⟩
    have h1 := (inL_get hmi.1 hy he).resolve_left hne
    have h2 := (inL_get hmi.2 hy hb).resolve_left (fun q => hab (.inl q))
    have h3 := (inL_get hc ha he).resolve_left hne
    exact hab (.inr (by rw [h2, ← h1, h3]))
  subst he120
  have hb120 : b ≠ 120 := fun q => hab (.inl q)
  have hva : a = 97 - b := by
    have h1 := hdig a (List.mem_of_getElem? ha)
    have h2 := hd.cub b (List.mem_of_getElem? hb)
    have h3 : b ≠ a := fun q => hab (.inr q)
    rcases h1 with rfl | rfl <;> rcases h2 with rfl | rfl | rfl
    · exact absurd rfl h3
    · rfl
    · exact absurd rfl hb120
    · rfl
    · exact absurd rfl h3
    · exact absurd rfl hb120
  refine ⟨j, _, hj, (pcT_at he hb).trans (if_pos ⟨rfl, hb120⟩), inL_all (by rw [List.length_set, curL_len hl, hlen]) fun k x y hx hy => ?_⟩
  by_cases hkj : k = j
  · subst hkj
    rw [List.getElem?_set_self (by rw [curL_len hl]; exact hj)] at hy
    cases hy
    rw [ha] at hx
    cases hx
    exact .inr hva.symm
  · rw [List.getElem?_set_ne (Ne.symm hkj)] at hy
    have hk : k < c.length := by have := (List.getElem?_eq_some_iff.1 hx).1; omega
    obtain ⟨ck, hck⟩ : ∃ y, c[k]? = some y := ⟨_, List.getElem?_eq_getElem hk⟩
    obtain ⟨dk, hdk⟩ : ∃ y, d[k]? = some y := ⟨_, List.getElem?_eq_getElem (by omega)⟩
    rw [curL_get (j := j) hck hdk] at hy
    cases hy
    have h1 := inL_get hc hx hck
    split
    · rename_i hlt
      unfold ov1
      split
      · exact Classical.byContradiction fun q => hmin k hlt ⟨x, dk, hx, hdk, q⟩
      · exact h1
    · exact h1
theorem splitT_has {c d h : Str} (hd : CT d) (hl : d.length = c.length) (hcn : c ≠ []) (hdig : ∀ b ∈ h, b = 48 ∨ b = 49) : (∃ x ∈ splitT c d, inL h x) ↔ inL h c ∧ ¬ inL h d := by
  unfold splitT
  by_cases hm : (meetT c d).isSome = true
  · rw [if_pos hm]
    constructor
    · rintro ⟨x, hx, hh⟩
      obtain ⟨j, _, hj⟩ := List.mem_filterMap.1 hx
      exact piece_in hd hl hj hh
    · rintro ⟨h1, h2⟩
      obtain ⟨j, x, hj, hx, hh⟩ := piece_ex hd hl hm hcn hdig h1 h2
      exact ⟨x, List.mem_filterMap.2 ⟨j, List.mem_range.2 hj, hx⟩, hh⟩
  · rw [if_neg hm]
    constructor
    · rintro ⟨x, hx, hh⟩
      simp at hx
      subst hx
      refine ⟨hh, fun h2 => hm ?_⟩
      obtain ⟨m, hmm, _⟩ := meetL_glb hh h2
      rw [meetT_eq hcn, hmm]
      rfl
    · rintro ⟨h1, _⟩
      exact ⟨c, by simp, h1⟩
theorem splL_has {n : Nat} {m h : Str} {l : List Str} (hal : AllW n l) (hm : CT m) (hml : m.length = n) (hdig : ∀ b ∈ h, b = 48 ∨ b = 49) : (∃ x ∈ splL m l, inL h x) ↔ (∃ x ∈ l, inL h x) ∧ ¬ inL h m := by
  constructor
  · rintro ⟨x, hx, hh⟩
    obtain ⟨c, hc, hx⟩ := List.mem_flatMap.1 hx
    have := (splitT_has hm (by rw [hml, (hal c hc).2]) (hal c hc).1.2 hdig).1 ⟨x, hx, hh⟩
    exact ⟨⟨c, hc, this.1⟩, this.2⟩
  · rintro ⟨⟨c, hc, h1⟩, h2⟩
    obtain ⟨x, hx, hh⟩ := (splitT_has hm (by rw [hml, (hal c hc).2]) (hal c hc).1.2 hdig).2 ⟨h1, h2⟩
    exact ⟨x, List.mem_flatMap.2 ⟨c, hc, hx⟩, hh⟩
theorem splX_has {n : Nat} {lim : Int} {h : Str} (hdig : ∀ b ∈ h, b = 48 ∨ b = 49) : ∀ {ms l r : List Str}, AllW n l → (∀ m ∈ ms, CT m ∧ m.length = n) → splX lim ms l = some r → ((∃ x ∈ r, inL h x) ↔ (∃ x ∈ l, inL h x) ∧ ∀ m ∈ ms, ¬ inL h m)
  | [], l, r, _, _, hs => by cases hs; simp
  | m :: ms, l, r, hal, hms, hs => by
    unfold splX at hs
    split at hs
    · cases hs
    · rw [splX_has hdig (splL_all hal (hms m (by simp)).1) (fun x hx => hms x (by simp [hx])) hs, splL_has hal (hms m (by simp)).1 (hms m (by simp)).2 hdig]
      simp only [List.mem_cons, forall_eq_or_imp, and_assoc]
theorem termX_has {n : Nat} {lim : Int} {t : Term} {h : Str} {l : List Str} (hg : GoodT n t) (hd : hdrX (n : Int) h) (hs : termX lim t = some l) : (∃ x ∈ l, inL h x) ↔ termHas t h := by
  unfold termX at hs
  split at hs
  · cases hs
  · rw [splX_has (n := n) hd.2 (fun c hc => by simp at hc; subst hc; exact ⟨hg.p, hg.ok.p⟩) (fun m hm => ⟨(hg.less m hm).1, hg.ok.wide.2 m hm⟩) hs]
    unfold termHas
    rw [hasC_inL hd hg.p.2 (by rw [hg.ok.p])]
    simp only [List.mem_singleton, exists_eq_left]
    exact and_congr_right fun _ => forall_congr' fun x => forall_congr' fun hx => not_congr (hasC_inL hd (hg.less x hx).2 (by rw [hg.ok.wide.2 x hx])).symm
theorem expX_has {n : Nat} {limit : Int} {h : Str} (hd : hdrX (n : Int) h) : ∀ {ts : List Term} {out r : List Str}, (∀ t ∈ ts, GoodT n t) → expX limit ts out = some r → ((∃ x ∈ r, inL h x) ↔ (∃ x ∈ out, inL h x) ∨ hasS ts h)
  | [], out, r, _, hs => by
    cases hs
    exact ⟨.inl, fun q => q.elim id fun ⟨t, ht, _⟩ => by simp at ht⟩
  | t :: ts, out, r, hg, hs => by
    rw [expX_cons] at hs
    split at hs
    · cases hs
    · rename_i l hl
      rw [expX_has hd (fun x hx => hg x (by simp [hx])) hs]
      have ht := termX_has (hg t (by simp)) hd hl
      constructor
      · rintro (⟨x, hx, hh⟩ | ⟨u, hu, hh⟩)
        · rcases List.mem_append.1 hx with hx | hx
          · exact .inl ⟨x, hx, hh⟩
          · exact .inr ⟨t, by simp, ht.1 ⟨x, hx, hh⟩⟩
        · exact .inr ⟨u, by simp [hu], hh⟩
      · rintro (⟨x, hx, hh⟩ | ⟨u, hu, hh⟩)
        · exact .inl ⟨x, List.mem_append_left _ hx, hh⟩
        · rcases List.mem_cons.1 hu with rfl | hu
          · obtain ⟨x, hx, hh⟩ := ht.2 hh
            exact .inl ⟨x, List.mem_append_right _ hx, hh⟩
          · exact .inr ⟨u, hu, hh⟩
theorem expO_has {n : Int} {ts : List Term} {limit : Int} {h : Str} (hf : Fine n ts) (hd : hdrX n h) (h0 : (expO n ts limit).1 = 0) : (∃ x ∈ (expO n ts limit).2, inL h x) ↔ hasS ts h := by
  unfold expO at h0 ⊢
  split at h0
  · cases h0
  · rename_i hn
    rw [if_neg hn]
    split at h0
    · cases h0
    · rename_i hlim
      rw [if_neg hlim]
      have hn0 := hf.n0
      cases he : expX limit ts [] with
      | none => rw [he] at h0; cases h0
      | some l =>
        show (∃ x ∈ l, inL h x) ↔ _
        rw [expX_has (n := n.toNat) (by rw [Int.toNat_of_nonneg hn0]; exact hd) hf.good he]
        exact ⟨fun q => q.elim (fun ⟨x, hx, _⟩ => by simp at hx) id, .inr⟩
end Go.Proofs.YtaiondckookpiaaGreatDoor
namespace Go.Proofs.YtaiondckookpiaaGreatDoor
open Go Go.Vx
theorem leastL_in2 : ∀ c : Str, inL (leastL c) c
  | [] => trivial
  | b :: c => by
    refine ⟨?_, leastL_in2 c⟩
    unfold lst1
    split
    · rename_i h; exact .inl h
    · exact .inr rfl
theorem leastL_dig2 {c : Str} (hc : CT c) : ∀ b ∈ leastL c, b = 48 ∨ b = 49 := by
  intro b hb
  obtain ⟨x, hx, rfl⟩ := List.mem_map.1 hb
  rcases hc.cub x hx with rfl | rfl | rfl
  · exact .inl rfl
  · exact .inr rfl
  · exact .inl rfl
theorem expO_code2 {n : Int} {ts : List Term} {limit : Int} (hn : n ≠ 0) (hl : ¬ (limit < 0 ∨ 2048 < limit)) : (expO n ts limit).1 = 0 ∨ (expO n ts limit).1 = 3 := by
  unfold expO
  rw [if_neg hn, if_neg hl]
  cases expX limit ts [] <;> simp
theorem binS_onto : ∀ (k : Nat) (h : Str), h.length = k → (∀ b ∈ h, b = 48 ∨ b = 49) → ∃ m, m < 2 ^ k ∧ binS k m = h
  | 0, [], _, _ => ⟨0, by decide, rfl⟩
  | k + 1, b :: h, hl, hd => by
    obtain ⟨m, hm, hb⟩ := binS_onto k h (by simpa using hl) fun x hx => hd x (by simp [hx])
    obtain ⟨d, hd01, hbd⟩ : ∃ d : Nat, d ≤ 1 ∧ b = UInt8.ofNat (48 + d) := by
      rcases hd b (by simp) with rfl | rfl
      · exact ⟨0, by decide, rfl⟩
      · exact ⟨1, by decide, rfl⟩
    have hp : 0 < 2 ^ k := Nat.two_pow_pos k
    refine ⟨d * 2 ^ k + m, ?_, ?_⟩
    · rw [Nat.pow_succ]
      have : d * 2 ^ k ≤ 1 * 2 ^ k := Nat.mul_le_mul_right _ hd01
      omega
    · unfold binS
      rw [List.range_succ_eq_map, List.map_cons, List.map_map]
      have h1 : dg (k + 1) (d * 2 ^ k + m) 0 = b := by
        rw [hbd]
        unfold dg
        rw [Nat.shiftRight_eq_div_pow, show k + 1 - 1 - 0 = k by omega]
        have : (d * 2 ^ k + m) / 2 ^ k = d := by
          rw [Nat.add_comm, Nat.add_mul_div_right _ _ hp, Nat.div_eq_of_lt hm, Nat.zero_add]
        rw [this, Nat.mod_eq_of_lt (by omega)]
      have h2 : List.map (dg (k + 1) (d * 2 ^ k + m) ∘ Nat.succ) (List.range k) = h := by
        rw [← hb]
        unfold binS
        refine List.map_congr_left fun i hi => ?_
        have hik : i < k := List.mem_range.1 hi
        show dg (k + 1) (d * 2 ^ k + m) (i + 1) = dg k m i
        unfold dg
        rw [Nat.shiftRight_eq_div_pow, Nat.shiftRight_eq_div_pow, show k + 1 - 1 - (i + 1) = k - 1 - i by omega]
        have e : 2 ^ k = 2 ^ (i + 1) * 2 ^ (k - 1 - i) := by rw [← Nat.pow_add]; congr 1; omega
        have hq : 0 < 2 ^ (k - 1 - i) := Nat.two_pow_pos _
        have : (d * 2 ^ k + m) / 2 ^ (k - 1 - i) = m / 2 ^ (k - 1 - i) + d * 2 ^ (i + 1) := by
          rw [e, ← Nat.mul_assoc, Nat.add_comm, Nat.add_mul_div_right _ _ hq]
        rw [this, Nat.pow_succ, ← Nat.mul_assoc, Nat.add_mul_mod_self_right]
      rw [h1, h2]
theorem allH_mem {n : Int} {h : Str} (hd : hdrX n h) : h ∈ allH n.toNat := by
  obtain ⟨m, hm, hb⟩ := binS_onto n.toNat h (by have := hd.1; omega) hd.2
  exact List.mem_map.2 ⟨m, List.mem_range.2 hm, hb⟩
end Go.Proofs.YtaiondckookpiaaGreatDoor
namespace Go.Proofs.YtaiondckookpiaaGreatDoor
open Go Go.Vx
set_option maxHeartbeats 4000000 in
theorem overH_at (c r : Str) (hc : c.length ≤ 100000) (hl : r.length = c.length) : FSpec Tryz.prog T 49 [.s c, .s r] (fun d _ => d = .s (writeL c r)) := by
  refine FSpec.of_ok tok Tryz.func49 rfl Tryz.call49 (by simp) ?_
  (try (conv => whnf)); repeat' (first | refine Ok.seq ?_ | refine OkL.cons ?_ | ((first | refine Ok.region tok ?_ | refine Ok.region_draw tok follows (by kernel_rfl) ?_ | refine Ok.cond ?_); conv => whnf) | refine Ok.block ?_ | ((first | refine Ok.skip ?_ | refine Ok.exit ?_ | refine Ok.ret ?_ | refine nI ?_ | refine ix _ (by assumption) ?_ | refine ixI (by omega) (by assumption) ?_ | refine ix_new _ (by omega) fun _ _ => ?_ | refine ixI_new (by omega) (by omega) fun _ _ => ?_ | refine ⟨_, by assumption, ?_⟩ | refine Alt2.l (aI ?_) | refine Alt2.r (aI ?_)); conv => whnf) | (refine Ok.scope ?_) | ((first | refine Ok.label ?_ | refine rd rfl (by assumption) ?_ | refine ⟨_, .inl ⟨rfl, rfl⟩, ?_⟩ | refine ⟨_, _, rfl, rfl, ?_⟩); conv => whnf) | (refine ⟨fun _ => ?_, fun _ => ?_⟩ <;> (conv => whnf) <;> (try (exfalso; omega))) | ((first | refine aJ ?_ | refine num_any ?_ | refine ⟨_, rfl, ?_⟩); conv => whnf) | fail)
  refine Ok.loopU [1, 5] [6] 1 0 (fun (i : Nat) => [.i .i64 (i : Nat)]) (fun _ b => b) (fun (i : Nat) (_ : Vx.Rows) => [some (Nat.add 5 BIG, (writeL (c.take i) (r.take i) ++ c.drop i).map bcell)]) (fun (i : Nat) => i ≤ c.length) (fun (i : Nat) => c.length - i) (0) (Nat.zero_le _) ?_; (conv => whnf); refine ⟨by ((conv => whnf); first | rfl | (simp [envCat, List.take_of_length_le, bcell, srow]; done) | (simp [envCat, List.take_of_length_le, bcell, srow]; rw [IntKind.wrap_i64]; omega)), ?_⟩
  intro i hi
  have hrl : (writeL (c.take i) (r.take i) ++ c.drop i).length = c.length := by simp [writeL]; omega
  have hrl2 : ((writeL (c.take i) (r.take i) ++ c.drop i).map bcell).length = c.length := by rw [List.length_map, hrl]
  (conv => whnf)
  by_cases hil : i < c.length
  · obtain ⟨a, ha⟩ : ∃ a, c[i]? = some a := ⟨_, List.getElem?_eq_getElem hil⟩
    obtain ⟨b, hb⟩ : ∃ b, r[i]? = some b := ⟨_, List.getElem?_eq_getElem (by omega)⟩
    have haI : c[((i : Nat) : Int).toNat]? = some a := ha
    have hbI : r[((i : Nat) : Int).toNat]? = some b := hb
    have hfl := wr_fill ha hb
    have hz := wr_at ha (show i < r.length by omega)
    generalize hL : writeL (c.take i) (r.take i) ++ c.drop i = L at *
    have hn : (((120 : UInt8).toNat : Nat) : Int) = 120 := rfl
    by_cases hx : b = 120
    · subst hx
      rw [show wr1 a 120 = a from rfl, set_self hz] at hfl
      (try (conv => whnf)); repeat' (first | refine Ok.seq ?_ | refine OkL.cons ?_ | ((first | refine Ok.region tok ?_ | refine Ok.region_draw tok follows (by kernel_rfl) ?_ | refine Ok.cond ?_); conv => whnf) | refine Ok.block ?_ | ((first | refine Ok.skip ?_ | refine Ok.exit ?_ | refine Ok.ret ?_ | refine nI ?_ | refine ix _ (by assumption) ?_ | refine ixI (by omega) (by assumption) ?_ | refine ix_new _ (by omega) fun _ _ => ?_ | refine ixI_new (by omega) (by omega) fun _ _ => ?_ | refine ⟨_, by assumption, ?_⟩ | refine Alt2.l (aI ?_) | refine Alt2.r (aI ?_)); conv => whnf) | (refine Ok.scope ?_) | ((first | refine Ok.label ?_ | refine rd rfl (by assumption) ?_ | refine ⟨_, .inl ⟨rfl, rfl⟩, ?_⟩ | refine ⟨_, _, rfl, rfl, ?_⟩); conv => whnf) | (refine ⟨fun _ => ?_, fun _ => ?_⟩ <;> (conv => whnf) <;> (try (exfalso; omega))) | ((first | refine aJ ?_ | refine num_any ?_ | refine ⟨_, rfl, ?_⟩); conv => whnf) | fail)
      all_goals first
        | (exfalso; omega)
        | (refine ⟨i + 1, by omega, by omega, ?_⟩
           rw [hfl]
           (conv => whnf)
           rfl)
    · have hx2 := u8_ne hx
      rw [hn] at hx2
      rw [show wr1 a b = b by unfold wr1; rw [if_neg hx]] at hfl
      (try (conv => whnf)); repeat' (first | refine Ok.seq ?_ | refine OkL.cons ?_ | ((first | refine Ok.region tok ?_ | refine Ok.region_draw tok follows (by kernel_rfl) ?_ | refine Ok.cond ?_); conv => whnf) | refine Ok.block ?_ | ((first | refine Ok.skip ?_ | refine Ok.exit ?_ | refine Ok.ret ?_ | refine nI ?_ | refine ix _ (by assumption) ?_ | refine ixI (by omega) (by assumption) ?_ | refine ix_new _ (by omega) fun _ _ => ?_ | refine ixI_new (by omega) (by omega) fun _ _ => ?_ | refine ⟨_, by assumption, ?_⟩ | refine Alt2.l (aI ?_) | refine Alt2.r (aI ?_)); conv => whnf) | (refine Ok.scope ?_) | ((first | refine Ok.label ?_ | refine rd rfl (by assumption) ?_ | refine ⟨_, .inl ⟨rfl, rfl⟩, ?_⟩ | refine ⟨_, _, rfl, rfl, ?_⟩); conv => whnf) | (refine ⟨fun _ => ?_, fun _ => ?_⟩ <;> (conv => whnf) <;> (try (exfalso; omega))) | ((first | refine aJ ?_ | refine num_any ?_ | refine ⟨_, rfl, ?_⟩); conv => whnf) | fail)
      all_goals first
        | (exfalso; omega)
        | (refine st b hz (by simp [bcell]) (by simp [setCells, bcell]) ?_
           rw [toNat_cast, ← hfl]
           (try (conv => whnf)); repeat' (first | refine Ok.seq ?_ | refine OkL.cons ?_ | ((first | refine Ok.region tok ?_ | refine Ok.region_draw tok follows (by kernel_rfl) ?_ | refine Ok.cond ?_); conv => whnf) | refine Ok.block ?_ | ((first | refine Ok.skip ?_ | refine Ok.exit ?_ | refine Ok.ret ?_ | refine nI ?_ | refine ix _ (by assumption) ?_ | refine ixI (by omega) (by assumption) ?_ | refine ix_new _ (by omega) fun _ _ => ?_ | refine ixI_new (by omega) (by omega) fun _ _ => ?_ | refine ⟨_, by assumption, ?_⟩ | refine Alt2.l (aI ?_) | refine Alt2.r (aI ?_)); conv => whnf) | (refine Ok.scope ?_) | ((first | refine Ok.label ?_ | refine rd rfl (by assumption) ?_ | refine ⟨_, .inl ⟨rfl, rfl⟩, ?_⟩ | refine ⟨_, _, rfl, rfl, ?_⟩); conv => whnf) | (refine ⟨fun _ => ?_, fun _ => ?_⟩ <;> (conv => whnf) <;> (try (exfalso; omega))) | ((first | refine aJ ?_ | refine num_any ?_ | refine ⟨_, rfl, ?_⟩); conv => whnf) | fail)
           refine ⟨i + 1, by omega, by omega, ?_⟩
           (conv => whnf)
           rfl)
  · have hie : i = c.length := by omega
    subst hie
    have hr2 : r.take c.length = r := by rw [← hl]; exact List.take_length
    rw [List.take_length, List.drop_length, List.append_nil, hr2]
    have hbl := writeL_len hl
    (try (conv => whnf)); repeat' (first | refine Ok.seq ?_ | refine OkL.cons ?_ | ((first | refine Ok.region tok ?_ | refine Ok.region_draw tok follows (by kernel_rfl) ?_ | refine Ok.cond ?_); conv => whnf) | refine Ok.block ?_ | ((first | refine Ok.skip ?_ | refine Ok.exit ?_ | refine Ok.ret ?_ | refine nI ?_ | refine ix _ (by assumption) ?_ | refine ixI (by omega) (by assumption) ?_ | refine ix_new _ (by omega) fun _ _ => ?_ | refine ixI_new (by omega) (by omega) fun _ _ => ?_ | refine ⟨_, by assumption, ?_⟩ | refine Alt2.l (aI ?_) | refine Alt2.r (aI ?_)); conv => whnf) | (refine Ok.scope ?_) | ((first | refine Ok.label ?_ | refine rd rfl (by assumption) ?_ | refine ⟨_, .inl ⟨rfl, rfl⟩, ?_⟩ | refine ⟨_, _, rfl, rfl, ?_⟩); conv => whnf) | (refine ⟨fun _ => ?_, fun _ => ?_⟩ <;> (conv => whnf) <;> (try (exfalso; omega))) | ((first | refine aJ ?_ | refine num_any ?_ | refine ⟨_, rfl, ?_⟩); conv => whnf) | fail)
    all_goals first
      | (exfalso; omega)
      | skip
    refine ⟨writeL c r, by rw [← hbl]; exact take_all bcell _, ?_⟩
    (try (conv => whnf)); repeat' (first | refine Ok.seq ?_ | refine OkL.cons ?_ | ((first | refine Ok.region tok ?_ | refine Ok.region_draw tok follows (by kernel_rfl) ?_ | refine Ok.cond ?_); conv => whnf) | refine Ok.block ?_ | ((first | refine Ok.skip ?_ | refine Ok.exit ?_ | refine Ok.ret ?_ | refine nI ?_ | refine ix _ (by assumption) ?_ | refine ixI (by omega) (by assumption) ?_ | refine ix_new _ (by omega) fun _ _ => ?_ | refine ixI_new (by omega) (by omega) fun _ _ => ?_ | refine ⟨_, by assumption, ?_⟩ | refine Alt2.l (aI ?_) | refine Alt2.r (aI ?_)); conv => whnf) | (refine Ok.scope ?_) | ((first | refine Ok.label ?_ | refine rd rfl (by assumption) ?_ | refine ⟨_, .inl ⟨rfl, rfl⟩, ?_⟩ | refine ⟨_, _, rfl, rfl, ?_⟩); conv => whnf) | (refine ⟨fun _ => ?_, fun _ => ?_⟩ <;> (conv => whnf) <;> (try (exfalso; omega))) | ((first | refine aJ ?_ | refine num_any ?_ | refine ⟨_, rfl, ?_⟩); conv => whnf) | fail)
    refine Or.inl ?_; (conv => whnf)
    rfl
def cubX2 (n : Int) (h : Str) : Prop := (h.length : Int) = n ∧ ∀ b ∈ h, b = 48 ∨ b = 49 ∨ b = 120
set_option maxHeartbeats 4000000 in
theorem isCube_at (n : Int) (h : Str) (hn : n ≤ 9223372036854775807) : FSpec Tryz.prog T 46 [.i .i64 n, .s h] (fun r _ => r = .b (cubX2 n h)) := by
  refine FSpec.of_ok tok Tryz.func46 rfl Tryz.call46 (by simp) ?_
  (try (conv => whnf)); repeat' (first | refine Ok.seq ?_ | refine OkL.cons ?_ | ((first | refine Ok.region tok ?_ | refine Ok.region_draw tok follows (by kernel_rfl) ?_ | refine Ok.cond ?_); conv => whnf) | refine Ok.block ?_ | ((first | refine Ok.skip ?_ | refine Ok.exit ?_ | refine Ok.ret ?_ | refine nI ?_ | refine ix _ (by assumption) ?_ | refine ixI (by omega) (by assumption) ?_ | refine ix_new _ (by omega) fun _ _ => ?_ | refine ixI_new (by omega) (by omega) fun _ _ => ?_ | refine ⟨_, by assumption, ?_⟩ | refine Alt2.l (aI ?_) | refine Alt2.r (aI ?_)); conv => whnf) | (refine Ok.scope ?_) | ((first | refine Ok.label ?_ | refine rd rfl (by assumption) ?_ | refine ⟨_, .inl ⟨rfl, rfl⟩, ?_⟩ | refine ⟨_, _, rfl, rfl, ?_⟩); conv => whnf) | (refine ⟨fun _ => ?_, fun _ => ?_⟩ <;> (conv => whnf) <;> (try (exfalso; omega))) | ((first | refine aJ ?_ | refine num_any ?_ | refine ⟨_, rfl, ?_⟩); conv => whnf) | fail)
  · rename_i h0
    refine Or.inl ?_; (conv => whnf)
    show D.b False = _
    exact congrArg D.b (propext ⟨fun h => h.elim, fun h2 => h0 h2.1⟩)
  have hl : (h.length : Int) = n := by omega
  refine Ok.loopU [1] [5] 0 0 (fun (i : Nat) => [.i .i64 (i : Nat)]) (fun _ b => b) (fun _ r => r) (fun (i : Nat) => i ≤ h.length ∧ ∀ b ∈ h.take i, b = 48 ∨ b = 49 ∨ b = 120) (fun (i : Nat) => h.length - i) (0) (⟨Nat.zero_le _, by simp⟩) ?_; (conv => whnf); refine ⟨by ((conv => whnf); first | rfl | (simp [envCat, List.take_of_length_le, bcell, srow]; done) | (simp [envCat, List.take_of_length_le, bcell, srow]; rw [IntKind.wrap_i64]; omega)), ?_⟩
  rintro i ⟨hi, hall⟩
  (conv => whnf)
  by_cases hil : i < h.length
  · obtain ⟨a, ha⟩ : ∃ a, h[i]? = some a := ⟨_, List.getElem?_eq_getElem hil⟩
    have haI : h[((i : Nat) : Int).toNat]? = some a := ha
    by_cases hb1 : a = 48 ∨ a = 49 ∨ a = 120
    · have hb3 : ((a.toNat : Nat) : Int) = 48 ∨ ((a.toNat : Nat) : Int) = 49 ∨ ((a.toNat : Nat) : Int) = 120 := by
        rcases hb1 with rfl | rfl | rfl
        · exact .inl rfl
        · exact .inr (.inl rfl)
        · exact .inr (.inr rfl)
      (try (conv => whnf)); repeat' (first | refine Ok.seq ?_ | refine OkL.cons ?_ | ((first | refine Ok.region tok ?_ | refine Ok.region_draw tok follows (by kernel_rfl) ?_ | refine Ok.cond ?_); conv => whnf) | refine Ok.block ?_ | ((first | refine Ok.skip ?_ | refine Ok.exit ?_ | refine Ok.ret ?_ | refine nI ?_ | refine ix _ (by assumption) ?_ | refine ixI (by omega) (by assumption) ?_ | refine ix_new _ (by omega) fun _ _ => ?_ | refine ixI_new (by omega) (by omega) fun _ _ => ?_ | refine ⟨_, by assumption, ?_⟩ | refine Alt2.l (aI ?_) | refine Alt2.r (aI ?_)); conv => whnf) | (refine Ok.scope ?_) | ((first | refine Ok.label ?_ | refine rd rfl (by assumption) ?_ | refine ⟨_, .inl ⟨rfl, rfl⟩, ?_⟩ | refine ⟨_, _, rfl, rfl, ?_⟩); conv => whnf) | (refine ⟨fun _ => ?_, fun _ => ?_⟩ <;> (conv => whnf) <;> (try (exfalso; omega))) | ((first | refine aJ ?_ | refine num_any ?_ | refine ⟨_, rfl, ?_⟩); conv => whnf) | fail)
      all_goals first
        | (exfalso; omega)
        | (refine ⟨i + 1, by omega, ⟨by omega, fun b hb => by
            rw [take_snoc ha] at hb
            rcases List.mem_append.1 hb with hb | hb
            · exact hall b hb
            · simp at hb; rw [hb]; exact hb1⟩, ?_⟩
           (conv => whnf)
           rfl)
    · have hb3 := u8_ne (fun e => hb1 (.inl e) : a ≠ 48)
      have hb4 := u8_ne (fun e => hb1 (.inr (.inl e)) : a ≠ 49)
      have hb5 := u8_ne (fun e => hb1 (.inr (.inr e)) : a ≠ 120)
      rw [show (((48 : UInt8).toNat : Nat) : Int) = 48 from rfl] at hb3
      rw [show (((49 : UInt8).toNat : Nat) : Int) = 49 from rfl] at hb4
      rw [show (((120 : UInt8).toNat : Nat) : Int) = 120 from rfl] at hb5
      (try (conv => whnf)); repeat' (first | refine Ok.seq ?_ | refine OkL.cons ?_ | ((first | refine Ok.region tok ?_ | refine Ok.region_draw tok follows (by kernel_rfl) ?_ | refine Ok.cond ?_); conv => whnf) | refine Ok.block ?_ | ((first | refine Ok.skip ?_ | refine Ok.exit ?_ | refine Ok.ret ?_ | refine nI ?_ | refine ix _ (by assumption) ?_ | refine ixI (by omega) (by assumption) ?_ | refine ix_new _ (by omega) fun _ _ => ?_ | refine ixI_new (by omega) (by omega) fun _ _ => ?_ | refine ⟨_, by assumption, ?_⟩ | refine Alt2.l (aI ?_) | refine Alt2.r (aI ?_)); conv => whnf) | (refine Ok.scope ?_) | ((first | refine Ok.label ?_ | refine rd rfl (by assumption) ?_ | refine ⟨_, .inl ⟨rfl, rfl⟩, ?_⟩ | refine ⟨_, _, rfl, rfl, ?_⟩); conv => whnf) | (refine ⟨fun _ => ?_, fun _ => ?_⟩ <;> (conv => whnf) <;> (try (exfalso; omega))) | ((first | refine aJ ?_ | refine num_any ?_ | refine ⟨_, rfl, ?_⟩); conv => whnf) | fail)
      all_goals first
        | (exfalso; omega)
        | (refine Or.inl ?_; (conv => whnf)
           show D.b False = _
           exact congrArg D.b (propext ⟨fun h => h.elim, fun h2 => hb1 (h2.2 a (List.mem_of_getElem? ha))⟩))
  · have hie : i = h.length := by omega
    subst hie
    rw [List.take_length] at hall
    (try (conv => whnf)); repeat' (first | refine Ok.seq ?_ | refine OkL.cons ?_ | ((first | refine Ok.region tok ?_ | refine Ok.region_draw tok follows (by kernel_rfl) ?_ | refine Ok.cond ?_); conv => whnf) | refine Ok.block ?_ | ((first | refine Ok.skip ?_ | refine Ok.exit ?_ | refine Ok.ret ?_ | refine nI ?_ | refine ix _ (by assumption) ?_ | refine ixI (by omega) (by assumption) ?_ | refine ix_new _ (by omega) fun _ _ => ?_ | refine ixI_new (by omega) (by omega) fun _ _ => ?_ | refine ⟨_, by assumption, ?_⟩ | refine Alt2.l (aI ?_) | refine Alt2.r (aI ?_)); conv => whnf) | (refine Ok.scope ?_) | ((first | refine Ok.label ?_ | refine rd rfl (by assumption) ?_ | refine ⟨_, .inl ⟨rfl, rfl⟩, ?_⟩ | refine ⟨_, _, rfl, rfl, ?_⟩); conv => whnf) | (refine ⟨fun _ => ?_, fun _ => ?_⟩ <;> (conv => whnf) <;> (try (exfalso; omega))) | ((first | refine aJ ?_ | refine num_any ?_ | refine ⟨_, rfl, ?_⟩); conv => whnf) | fail)
    all_goals first
      | (exfalso; omega)
      | skip
    refine Or.inl ?_; (conv => whnf)
    exact congrArg D.b (propext ⟨fun _ => ⟨hl, hall⟩, fun _ => trivial⟩)
theorem writeL_dig {h r : Str} (hh : ∀ b ∈ h, b = 48 ∨ b = 49) (hr : CT r) : ∀ b ∈ writeL h r, b = 48 ∨ b = 49 := by
  intro b hb
  obtain ⟨k, hk⟩ := List.getElem?_of_mem hb
  simp only [writeL, List.getElem?_zipWith] at hk
  cases hx : h[k]? with
  | none => rw [hx] at hk; simp at hk
  | some x =>
    cases hy : r[k]? with
    | none => rw [hx, hy] at hk; simp at hk
    | some y =>
      rw [hx, hy] at hk
      simp at hk
      rw [← hk]
      unfold wr1
      split
      · exact hh x (List.mem_of_getElem? hx)
      · rename_i hne
        rcases hr.cub y (List.mem_of_getElem? hy) with e | e | e
        · exact .inl e
        · exact .inr e
        · exact absurd e hne
theorem writeL_hdr {n : Int} {h r : Str} (hh : hdrX n h) (hr : CT r) (hl : r.length = h.length) : hdrX n (writeL h r) :=
  ⟨by rw [writeL_len hl]; exact hh.1, writeL_dig hh.2 hr⟩
theorem befL_get2 {c r : Str} {k : Nat} {a b : UInt8} (ha : c[k]? = some a) (hb : r[k]? = some b) : (befL c r)[k]? = some (bef1 a b) := by
  simp [befL, List.getElem?_zipWith, ha, hb]
theorem beforeT_has {c r h : Str} (hc : CN c) (hr : CT r) (hlr : r.length = c.length) (hlh : h.length = c.length) : (∃ x, beforeT c r = some x ∧ inL h x) ↔ inL (writeL h r) c := by
  have hwl := writeL_len (c := h) (r := r) (by omega)
  constructor
  · rintro ⟨x, hx, hi⟩
    obtain ⟨hm, rfl⟩ := beforeT_some hx
    obtain ⟨m, hm⟩ := Option.isSome_iff_exists.1 hm
    rw [meetT_eq hc.2] at hm
    have hmi := meetL_in hm
    refine inL_all (by omega) fun k a b ha hb => ?_
    have hk : k < c.length := (List.getElem?_eq_some_iff.1 hb).1
    obtain ⟨y, hy⟩ : ∃ y, h[k]? = some y := ⟨_, List.getElem?_eq_getElem (by omega)⟩
    obtain ⟨z, hz⟩ : ∃ z, r[k]? = some z := ⟨_, List.getElem?_eq_getElem (by omega)⟩
    rw [writeL_get hy hz] at ha
    cases ha
    have h2 := inL_get hi hy (befL_get2 hb hz)
    unfold wr1
    split
    · rename_i hz120
      unfold bef1 at h2
      rw [if_pos hz120] at h2
      exact h2
    · rename_i hz120
      by_cases hb120 : b = 120
      · exact .inl hb120
      · right
        obtain ⟨w, hw⟩ : ∃ w, m[k]? = some w := ⟨_, List.getElem?_eq_getElem (by have := inL_len hmi.1; omega)⟩
        have e1 := (inL_get hmi.1 hw hb).resolve_left hb120
        have e2 := (inL_get hmi.2 hw hz).resolve_left hz120
        rw [e1, e2]
  · intro hi
    have hm : (meetT c r).isSome = true := by
      rw [meetT_eq hc.2]
      have hwr : inL (writeL h r) r := inL_all (by omega) fun k a b ha hb => by
        have hk : k < r.length := (List.getElem?_eq_some_iff.1 hb).1
        obtain ⟨y, hy⟩ : ∃ y, h[k]? = some y := ⟨_, List.getElem?_eq_getElem (by omega)⟩
        rw [writeL_get hy hb] at ha
        cases ha
        unfold wr1
        split
        · rename_i e; exact .inl e
        · exact .inr rfl
      obtain ⟨m, hm, _⟩ := meetL_glb hi hwr
      rw [hm]
      rfl
    refine ⟨befL c r, by unfold beforeT; rw [if_pos hm], inL_all (by rw [befL_len hlr]; exact hlh) fun k a b ha hb => ?_⟩
    have hk : k < h.length := (List.getElem?_eq_some_iff.1 ha).1
    obtain ⟨y, hy⟩ : ∃ y, c[k]? = some y := ⟨_, List.getElem?_eq_getElem (by omega)⟩
    obtain ⟨z, hz⟩ : ∃ z, r[k]? = some z := ⟨_, List.getElem?_eq_getElem (by omega)⟩
    rw [befL_get2 hy hz] at hb
    cases hb
    unfold bef1
    split
    · rename_i hz120
      have := inL_get hi (writeL_get ha hz) hy
      unfold wr1 at this
      rw [if_pos hz120] at this
      exact this
    · exact .inl rfl
end Go.Proofs.YtaiondckookpiaaGreatDoor
namespace Go.Proofs.YtaiondckookpiaaGreatDoor
open Go Go.Vx
theorem befO_has {n : Int} {ts : List Term} {r h : Str} (hf : Fine n ts) (hn : 0 < n) (hr : CT r) (hrl : (r.length : Int) = n) (hd : hdrX n h) : (befO n ts r).1 = 0 ∧ Fine (befO n ts r).2.1 (befO n ts r).2.2 ∧ (hasS (befO n ts r).2.2 h ↔ hasS ts (writeL h r)) := by
  have hfit : fitP n (r.length : Int) := ⟨hrl.symm, hn⟩
  have hfo := befO_fine (r := r) hf
  refine ⟨by rw [befO_fit hfit], hfo, ?_⟩
  rw [befO_fit hfit]
  show hasS (formT (befs r ts)) h ↔ _
  have hgood := befs_good hf.good (r := r) (show r.length = n.toNat by omega)
  rw [hasS_form (n := n.toNat) fun t ht => (hgood t ht).ok]
  have hwd := writeL_hdr hd hr (by have := hd.1; omega)
  have key : ∀ t ∈ ts, ((∃ u, bef1T r t = some u ∧ termHas u h) ↔ termHas t (writeL h r)) := fun t ht => by
    have hg := hf.good t ht
    have hpl := hg.ok.p
    have hb := beforeT_has (h := h) hg.p hr (by omega) (by have := hd.1; omega)
    have hbm : ∀ m ∈ t.less, ((∃ x, beforeT m r = some x ∧ inL h x) ↔ inL (writeL h r) m) := fun m hm => beforeT_has (hg.less m hm) hr (by have := hg.ok.wide.2 m hm; omega) (by have := hg.ok.wide.2 m hm; have := hd.1; omega)
    have hci : ∀ {c x : Str}, CN c → c.length = n.toNat → beforeT c r = some x → (hasC x h ↔ inL h x) := fun hc hcl hx => by
      have := beforeT_cn hc (by omega) hx
      exact hasC_inL hd this.1.2 (by omega)
    unfold bef1T termHas
    rw [hasC_inL hwd hg.p.2 (by omega)]
    have hcl : ∀ m ∈ t.less, (hasC m (writeL h r) ↔ inL (writeL h r) m) := fun m hm => hasC_inL hwd (hg.less m hm).2 (by have := hg.ok.wide.2 m hm; omega)
    cases hbt : beforeT t.p r with
    | none =>
      rw [hbt] at hb
      constructor
      · rintro ⟨u, hu, _⟩; cases hu
      · rintro ⟨h1, _⟩
        obtain ⟨x, hx, _⟩ := hb.2 h1
        cases hx
    | some p =>
      rw [hbt] at hb
      simp only [Option.bind_some]
      have hpi := hci hg.p hpl hbt
      have e := termT_has (p := p) (less := t.less.filterMap fun m => beforeT m r) h
      unfold termHas at e
      rw [e]
      unfold rawHas
      rw [hpi]
      have hb2 : inL h p ↔ inL (writeL h r) t.p := by
        constructor
        · intro q; exact hb.1 ⟨p, rfl, q⟩
        · intro q
          obtain ⟨x, hx, hxi⟩ := hb.2 q
          cases hx
          exact hxi
      rw [hb2]
      refine and_congr_right fun _ => ?_
      constructor
      · intro q m hm hh
        obtain ⟨x, hx, hxi⟩ := (hbm m hm).2 ((hcl m hm).1 hh)
        exact q x (List.mem_filterMap.2 ⟨m, hm, hx⟩) ((hci (hg.less m hm) (hg.ok.wide.2 m hm) hx).2 hxi)
      · intro q x hx hh
        obtain ⟨m, hm, hmx⟩ := List.mem_filterMap.1 hx
        exact q m hm ((hcl m hm).2 ((hbm m hm).1 ⟨x, hmx, (hci (hg.less m hm) (hg.ok.wide.2 m hm) hmx).1 hh⟩))
  unfold hasS
  constructor
  · rintro ⟨u, hu, hh⟩
    obtain ⟨t, ht, htu⟩ := List.mem_filterMap.1 hu
    exact ⟨t, ht, (key t ht).1 ⟨u, htu, hh⟩⟩
  · rintro ⟨t, ht, hh⟩
    obtain ⟨u, hu, huh⟩ := (key t ht).2 hh
    exact ⟨u, List.mem_filterMap.2 ⟨t, ht, hu⟩, huh⟩
def undo (x r c : Str) : Str := List.zipWith (fun (p : UInt8 × UInt8) (b : UInt8) => if p.2 = 120 then p.1 else b) (x.zip r) (leastL c)
theorem write_in {c r x : Str} (hc : CT c) (hr : CT r) (hrl : r.length = c.length) (hx : ∀ b ∈ x, b = 48 ∨ b = 49) : inL x (writeL c r) ↔ ∃ h, h.length = c.length ∧ (∀ b ∈ h, b = 48 ∨ b = 49) ∧ inL h c ∧ writeL h r = x := by
  have hwl := writeL_len (c := c) (r := r) hrl
  constructor
  · intro hi
    have hxl : x.length = c.length := by rw [inL_len hi, hwl]
    have hul : (undo x r c).length = c.length := by simp [undo, leastL_len]; omega
    have hget : ∀ {k : Nat} {a b d : UInt8}, x[k]? = some a → r[k]? = some b → c[k]? = some d → (undo x r c)[k]? = some (if b = 120 then a else lst1 d) := fun ha hb hd => by
      have hz : (x.zip r)[_]? = some (_, _) := List.getElem?_zip_eq_some.2 ⟨ha, hb⟩
      unfold undo
      rw [List.getElem?_zipWith, hz, leastL_get hd]
    have all : ∀ k, k < c.length → ∃ a b d, x[k]? = some a ∧ r[k]? = some b ∧ c[k]? = some d := fun k hk =>
      ⟨_, _, _, List.getElem?_eq_getElem (by omega), List.getElem?_eq_getElem (by omega), List.getElem?_eq_getElem hk⟩
    refine ⟨undo x r c, hul, fun b hb => ?_, inL_all hul fun k u d hu hd => ?_, List.ext_getElem? fun k => ?_⟩
    · obtain ⟨k, hk⟩ := List.getElem?_of_mem hb
      obtain ⟨a, b2, d, ha, hb2, hd⟩ := all k (by have := (List.getElem?_eq_some_iff.1 hk).1; omega)
      rw [hget ha hb2 hd] at hk
      cases hk
      split
      · exact hx a (List.mem_of_getElem? ha)
      · exact leastL_dig2 hc _ (List.mem_of_getElem? (leastL_get hd))
    · obtain ⟨a, b, d2, ha, hb, hd2⟩ := all k (List.getElem?_eq_some_iff.1 hd).1
      rw [hd] at hd2
      cases hd2
      rw [hget ha hb hd] at hu
      cases hu
      split
      · rename_i e
        have := inL_get hi ha (writeL_get hd hb)
        unfold wr1 at this
        rw [if_pos e] at this
        exact this
      · exact inL_get (leastL_in2 c) (leastL_get hd) hd
    · by_cases hk : k < c.length
      · obtain ⟨a, b, d, ha, hb, hd⟩ := all k hk
        rw [writeL_get (hget ha hb hd) hb, ha]
        congr 1
        unfold wr1
        split
        · rfl
        · rename_i e
          have := inL_get hi ha (writeL_get hd hb)
          unfold wr1 at this
          rw [if_neg e] at this
          exact this.resolve_left e
      · rw [List.getElem?_eq_none (by rw [writeL_len (by omega), hul]; omega), List.getElem?_eq_none (by omega)]
  · rintro ⟨h, hl, _, hi, rfl⟩
    refine inL_all (by rw [writeL_len (by omega), hwl, hl]) fun k a b ha hb => ?_
    have hk : k < c.length := by have := (List.getElem?_eq_some_iff.1 hb).1; omega
    obtain ⟨y, hy⟩ : ∃ y, h[k]? = some y := ⟨_, List.getElem?_eq_getElem (by omega)⟩
    obtain ⟨z, hz⟩ : ∃ z, r[k]? = some z := ⟨_, List.getElem?_eq_getElem (by omega)⟩
    obtain ⟨d, hd⟩ : ∃ y, c[k]? = some y := ⟨_, List.getElem?_eq_getElem hk⟩
    rw [writeL_get hy hz] at ha
    rw [writeL_get hd hz] at hb
    cases ha
    cases hb
    unfold wr1
    split
    · exact inL_get hi hy hd
    · exact .inr rfl
theorem aftO_has {n : Int} {ts : List Term} {r x : Str} (hf : Fine n ts) (hn : 0 < n) (hr : CT r) (hrl : (r.length : Int) = n) (hd : hdrX n x) (h0 : (aftO n ts r 2048).1 = 0) : hasS (aftO n ts r 2048).2.2 x ↔ ∃ h, hdrX n h ∧ hasS ts h ∧ writeL h r = x := by
  have hfit : fitP n (r.length : Int) := ⟨hrl.symm, hn⟩
  by_cases he : (expO n ts 2048).1 = 0
  · have hal := (expO_all (limit := 2048) hf).1
    have heh := fun h hd => expO_has (limit := 2048) (h := h) hf hd he
    rw [aftO_fit hfit he] at h0 ⊢
    rw [bndO_zero h0]
    show hasS (formT (aft r (expO n ts 2048).2)) x ↔ _
    generalize (expO n ts 2048).2 = l at *
    have hgood := aft_good hal hr (show r.length = n.toNat by omega) (by omega)
    rw [hasS_form (n := n.toNat) fun t ht => (hgood t ht).ok]
    have key : ∀ c ∈ l, (termHas ⟨writeL c r, []⟩ x ↔ ∃ h, hdrX n h ∧ inL h c ∧ writeL h r = x) := fun c hc => by
      have hw := hal c hc
      have hwc := writeL_cn hw.1 hr (show r.length = c.length by omega)
      unfold termHas
      rw [hasC_inL hd hwc.2 (by rw [writeL_len (by omega)]; omega), write_in hw.1.1 hr (by omega) hd.2]
      constructor
      · rintro ⟨⟨h, h1, h2, h3, h4⟩, _⟩
        exact ⟨h, ⟨by omega, h2⟩, h3, h4⟩
      · rintro ⟨h, h1, h3, h4⟩
        exact ⟨⟨h, by have := h1.1; omega, h1.2, h3, h4⟩, fun m hm => by cases hm⟩
    constructor
    · rintro ⟨t, ht, hh⟩
      obtain ⟨c, hc, rfl⟩ := List.mem_map.1 ht
      obtain ⟨h, h1, h2, h3⟩ := (key c hc).1 hh
      exact ⟨h, h1, (heh h h1).1 ⟨c, hc, h2⟩, h3⟩
    · rintro ⟨h, h1, h2, h3⟩
      obtain ⟨c, hc, hci⟩ := (heh h h1).2 h2
      exact ⟨_, List.mem_map.2 ⟨c, hc, rfl⟩, (key c hc).2 ⟨h, h1, hci, h3⟩⟩
  · rw [aftO_err hfit he] at h0
    exact absurd h0 he
theorem aftO_code {n : Int} {ts : List Term} {r : Str} (hn : 0 < n) (hrl : (r.length : Int) = n) : (aftO n ts r 2048).1 = 0 ∨ (aftO n ts r 2048).1 = 3 := by
  have hfit : fitP n (r.length : Int) := ⟨hrl.symm, hn⟩
  have hec := expO_code2 (ts := ts) (limit := 2048) (show n ≠ 0 by omega) (by decide)
  by_cases he : (expO n ts 2048).1 = 0
  · rw [aftO_fit hfit he]
    unfold bndO
    split <;> simp
  · rw [aftO_err hfit he]
    exact .inr (hec.resolve_left he)
def numH (h : Str) : Nat := h.foldl (fun n b => 2 * n + (b.toNat - 48)) 0
theorem numH_snoc {h : Str} {i : Nat} {b : UInt8} (hb : h[i]? = some b) : numH (h.take (i + 1)) = 2 * numH (h.take i) + (b.toNat - 48) := by
  unfold numH; rw [take_snoc hb, List.foldl_append]; rfl
theorem numH_binS {k m : Nat} (hm : m < 2 ^ k) : ∀ i, i ≤ k → numH ((binS k m).take i) = m / 2 ^ (k - i)
  | 0, _ => by simp [numH]; exact (Nat.div_eq_of_lt hm).symm
  | i + 1, hi => by
    have hb := binS_get (m := m) (show i < k by omega)
    rw [numH_snoc hb, numH_binS hm i (by omega), dg_nat, Nat.shiftRight_eq_div_pow]
    have e : k - i = (k - 1 - i) + 1 := by omega
    have e2 : k - (i + 1) = k - 1 - i := by omega
    rw [e, e2, Nat.pow_succ, ← Nat.div_div_eq_div_mul]
    omega
theorem numH_all {k m : Nat} (hm : m < 2 ^ k) : numH (binS k m) = m := by
  have := numH_binS hm k (Nat.le_refl _)
  rw [List.take_of_length_le (by rw [binS_len]; omega)] at this
  simpa using this
end Go.Proofs.YtaiondckookpiaaGreatDoor
namespace Go.Proofs.YtaiondckookpiaaGreatDoor
open Go Go.Vx
end Go.Proofs.YtaiondckookpiaaGreatDoor
