/- The walks and the plain laws that a law of spaces needs, part 4 of 6. -/
import Derived.Test.YtagmibogginaaaaGreatDoorPNC
set_option linter.unusedVariables false
set_option linter.unusedSimpArgs false
namespace Go.Proofs.YtagmibogginaaaaGreatDoor
open Go Go.Vx
set_option maxHeartbeats 8000000 in
theorem split_at (c d : Str) (hc : CN c) (hd : CT d) : FSpec Tryz.prog T 116 [.agg (crow c), .agg (crow d)] (fun r rows => ∃ rm, r = .lst 127 ((splitT c d).map crow) rm ∧ rows = []) := by
  have hcl := hc.1.len
  have hm := meet_at c d hc.1 hd
  refine FSpec.of_ok tok Tryz.func116 rfl Tryz.call116 (by simp) ?_
  by_cases hs : (meetT c d).isSome = true
  · have hl : d.length = c.length := by
      obtain ⟨m, hm⟩ := Option.isSome_iff_exists.1 hs
      rw [meetT_eq hc.2] at hm
      have := meetL_len hm
      omega
    (try (conv => whnf)); repeat' (first | ((with_reducible_and_instances (first | refine nShr (by assumption) ?_ | refine nShl1' rfl (by assumption) ?_ | refine nAnd ?_ | refine nOr ?_ | refine nXor ?_ | refine nAndNot ?_ | refine nAnd1' rfl ?_)); conv => whnf) | refine Ok.seq ?_ | refine OkL.cons ?_ | ((first | refine Ok.region tok ?_ | refine Ok.region_draw tok follows (by kernel_rfl) ?_ | refine Ok.cond ?_); conv => whnf) | refine Ok.block ?_ | ((first | refine Ok.skip ?_ | refine Ok.exit ?_ | refine Ok.ret ?_ | refine nI ?_ | refine ix _ (by assumption) ?_ | refine ixI (by omega) (by assumption) ?_ | refine ix_new _ (by omega) fun _ _ => ?_ | refine ixI_new (by omega) (by omega) fun _ _ => ?_ | refine ⟨_, by assumption, ?_⟩); conv => whnf) | (refine Or.inr (Or.inl ?_); (conv => whnf); (repeat (refine aI ?_; conv => whnf)); refine ⟨_, hm, ?_⟩; rintro _ _ ⟨rfl, rfl⟩ <;> (conv => whnf)) | ((first | refine Alt2.l (aI ?_) | refine Alt2.r (aI ?_)); conv => whnf) | (refine Ok.scope ?_) | ((first | refine Ok.label ?_ | refine rd rfl (by assumption) ?_ | refine ⟨_, .inl ⟨rfl, rfl⟩, ?_⟩ | refine ⟨_, _, rfl, rfl, ?_⟩); conv => whnf) | (refine ⟨fun _ => ?_, fun _ => ?_⟩ <;> (conv => whnf) <;> (try (exfalso; omega))) | ((first | refine aJ ?_ | refine num_any ?_ | refine ⟨_, rfl, ?_⟩); conv => whnf) | fail)
    · exact absurd hs (by assumption)
    refine Ok.ghost 7 127 rfl ?_
    (conv => whnf)
    have e0 : crow c = crow (curL c d 0) := by rw [curL_zero]
    have hll : ((List.length c : Nat) : Int) = ((List.length (curL c d 0) : Nat) : Int) := by rw [curL_zero]
    refine Ok.loopU [2, 3, 21] [7, 22] 1 3 (fun (i : Nat) => [.own 0 (pcsT c d i).length, .i .i64 (i : Nat)]) (fun (i : Nat) (_ : List (List D)) => [crow (curL c d i), crow d, crow ((meetT c d).getD [])]) (fun (i : Nat) (_ : Vx.Rows) => [some (127, (pcsT c d i).map crow)]) (fun (i : Nat) => i ≤ c.length) (fun (i : Nat) => c.length - i) (0) (Nat.zero_le _) ?_; (conv => whnf); refine ⟨by ((conv => whnf); first | rfl | (simp [envCat, List.take_of_length_le, cells9, crow]; done) | (simp [envCat, List.take_of_length_le, cells9, crow]; rw [IntKind.wrap_i64]; omega)), ?_⟩
    rintro i hi
    have hcu := curL_len hl i
    have hct := curL_ct hc.1 hd hl i
    have hpl := pcsT_len c d i
    have hpm : ((pcsT c d i).map crow).length = (pcsT c d i).length := by simp
    (conv => whnf)
    by_cases hil : i < c.length
    · obtain ⟨a, ha⟩ : ∃ a, c[i]? = some a := ⟨_, List.getElem?_eq_getElem hil⟩
      obtain ⟨b, hb⟩ : ∃ b, d[i]? = some b := ⟨_, List.getElem?_eq_getElem (by omega)⟩
      have hz := curL_at ha (show i < d.length by omega)
      have hac := hc.1.cub a (List.mem_of_getElem? ha)
      have hbc := hd.cub b (List.mem_of_getElem? hb)
      have hpc := pcT_at ha hb
      have hsu := curL_succ ha hb
      have hsm := fun h => curL_same ha hb h
      generalize hL : curL c d i = L at *
      generalize hQ : pcsT c d i = Q at *
      have s1 := at_two (car L) (one L) i (by omega)
      have s2 := at_two (car d) (one d) i (by omega)
      have s3 := at_one (one d) i (by omega)
      rw [(at_b hz).1] at s1
      rw [(at_b hb).1] at s2
      rw [(at_b hb).2] at s3
      obtain ⟨q, r, hqr, hr, hq⟩ := split64 i (by omega)
      have hrem := rem64 hqr hr
      have hquo := quo64 hqr hr (by omega)
      have hrr : ((r : Nat) : Int) = ((r : Nat) : Int) ∧ r < 64 := ⟨rfl, hr⟩
      by_cases hab : a = 120 ∧ b ≠ 120
      · obtain ⟨rfl, hb2⟩ := hab
        rw [if_pos ⟨rfl, hb2⟩] at hpc
        have hsn := pcsT_some hpc
        rw [hQ] at hsn
        rw [show ov1 120 b = b from rfl] at hsu
        rcases hbc with rfl | rfl | rfl
        · rw [show (97 : UInt8) - 48 = 49 from rfl] at hsn
          have k := put_word (f := car L) (g := car (L.set i 48)) hqr hr (car_set hz rfl)
          have k' := put_word (f := car L) (g := car (L.set i 49)) hqr hr (car_set hz rfl)
          have o := fun k => wof_ext (f := one (L.set i 48)) (g := one L) (k := k) fun j _ => one_set0 hz _
          have o' := put_word (f := one L) (g := one (L.set i 49)) hqr hr (one_set hz)
          rcases hq with rfl | rfl | rfl | rfl
          all_goals
            (try (conv => whnf)); repeat' (first | ((with_reducible_and_instances (first | refine nShr (by assumption) ?_ | refine nShl1' rfl (by assumption) ?_ | refine nAnd ?_ | refine nOr ?_ | refine nXor ?_ | refine nAndNot ?_ | refine nAnd1' rfl ?_)); conv => whnf) | refine Ok.seq ?_ | refine OkL.cons ?_ | ((first | refine Ok.region tok ?_ | refine Ok.region_draw tok follows (by kernel_rfl) ?_ | refine Ok.cond ?_); conv => whnf) | refine Ok.block ?_ | ((first | refine Ok.skip ?_ | refine Ok.exit ?_ | refine Ok.ret ?_ | refine nI ?_ | refine ix _ (by assumption) ?_ | refine ixI (by omega) (by assumption) ?_ | refine ix_new _ (by omega) fun _ _ => ?_ | refine ixI_new (by omega) (by omega) fun _ _ => ?_ | refine ⟨_, by assumption, ?_⟩); conv => whnf) | (refine Or.inr (Or.inr (Or.inr (Or.inr ?_))); (conv => whnf); refine effW.of (effK.peek (by rfl) (pk2 (.bp _ _ ( crow L) rfl (fun d hd => ints_crow _ d (List.mem_of_mem_drop hd))) (.i _ _)) (s1 ) ?_); rintro _ _ ⟨rfl, rfl⟩; (refine And.intro (by simp [gRowsP, grounds, D.ground]) ?_; conv => whnf)) | (refine Or.inr (Or.inr (Or.inr ?_)); (conv => whnf); refine effK.peek (by rfl) (pk2 (.bp _ _ ( crow L) rfl (fun d hd => ints_crow _ d (List.mem_of_mem_drop hd))) (.i _ _)) (s1 ) ?_; rintro _ _ ⟨rfl, rfl⟩; (refine And.intro (by simp [gRowsP, grounds, D.ground]) ?_; conv => whnf)) | (refine Or.inr (Or.inr (Or.inr (Or.inr ?_))); (conv => whnf); refine effW.of (effK.peek (by rfl) (pk2 (.bp _ _ ( crow d) rfl (fun d hd => ints_crow _ d (List.mem_of_mem_drop hd))) (.i _ _)) (s2 ) ?_); rintro _ _ ⟨rfl, rfl⟩; (refine And.intro (by simp [gRowsP, grounds, D.ground]) ?_; conv => whnf)) | (refine Or.inr (Or.inr (Or.inr ?_)); (conv => whnf); refine effK.peek (by rfl) (pk2 (.bp _ _ ( crow d) rfl (fun d hd => ints_crow _ d (List.mem_of_mem_drop hd))) (.i _ _)) (s2 ) ?_; rintro _ _ ⟨rfl, rfl⟩; (refine And.intro (by simp [gRowsP, grounds, D.ground]) ?_; conv => whnf)) | ((first | refine Alt2.l (aI ?_) | refine Alt2.r (aI ?_)); conv => whnf) | (refine Ok.scope ?_) | ((first | refine Ok.label ?_ | refine rd rfl (by assumption) ?_ | refine ⟨_, .inl ⟨rfl, rfl⟩, ?_⟩ | refine ⟨_, _, rfl, rfl, ?_⟩); conv => whnf) | (refine ⟨fun _ => ?_, fun _ => ?_⟩ <;> (conv => whnf) <;> (try (exfalso; omega))) | ((first | refine aJ ?_ | refine num_any ?_ | refine ⟨_, rfl, ?_⟩); conv => whnf) | fail)
            all_goals first
              | contradiction
              | skip
            refine Or.inr (Or.inr (Or.inl ?_)); (conv => whnf); refine ⟨_, _, Tryz.func124, rfl, Tryz.call124, ?_⟩; (conv => whnf)
            (try (conv => whnf)); repeat' (first | ((with_reducible_and_instances (first | refine nShr (by assumption) ?_ | refine nShl1' rfl (by assumption) ?_ | refine nAnd ?_ | refine nOr ?_ | refine nXor ?_ | refine nAndNot ?_ | refine nAnd1' rfl ?_)); conv => whnf) | refine Ok.seq ?_ | refine OkL.cons ?_ | ((first | refine Ok.region tok ?_ | refine Ok.region_plan (id := 0) tok follows [(5, 12, [])] [.q 0, .q 1, .q 2, .q 3, .q 4, .q 5, .q 6, .q 7, .q 8, .q 9, .q 10, .q 11, .l 12] (by kernel_rfl) ?_ | refine ⟨_, (hquo.symm).symm, ?_⟩ | refine ⟨_, (hrem.symm).symm, ?_⟩ | refine Ok.region_draw tok follows (by kernel_rfl) ?_ | refine Ok.cond ?_); conv => whnf) | refine Ok.block ?_ | ((first | refine Ok.skip ?_ | refine Ok.exit ?_ | refine Ok.ret ?_ | refine nI ?_ | refine ix _ (by assumption) ?_ | refine ixI (by omega) (by assumption) ?_ | refine ix_new _ (by omega) fun _ _ => ?_ | refine ixI_new (by omega) (by omega) fun _ _ => ?_ | refine ⟨_, by assumption, ?_⟩); conv => whnf) | (refine Or.inr (Or.inr (Or.inr (Or.inr ?_))); (conv => whnf); refine effW.of (effK.peek (by rfl) (pk2 (.bp _ _ ( crow d) rfl (fun d hd => ints_crow _ d (List.mem_of_mem_drop hd))) (.i _ _)) (s3 ) ?_); rintro _ _ ⟨rfl, rfl⟩; (refine And.intro (by simp [gRowsP, grounds, D.ground]) ?_; conv => whnf)) | (refine Or.inr (Or.inr (Or.inr ?_)); (conv => whnf); refine effK.peek (by rfl) (pk2 (.bp _ _ ( crow d) rfl (fun d hd => ints_crow _ d (List.mem_of_mem_drop hd))) (.i _ _)) (s3 ) ?_; rintro _ _ ⟨rfl, rfl⟩; (refine And.intro (by simp [gRowsP, grounds, D.ground]) ?_; conv => whnf)) | ((first | refine Alt2.l (aI ?_) | refine Alt2.r (aI ?_)); conv => whnf) | (refine Ok.scope ?_) | ((first | refine Ok.label ?_ | refine rd rfl (by assumption) ?_ | refine ⟨_, .inl ⟨rfl, rfl⟩, ?_⟩ | refine ⟨_, _, rfl, rfl, ?_⟩); conv => whnf) | (refine ⟨fun _ => ?_, fun _ => ?_⟩ <;> (conv => whnf) <;> (try (exfalso; omega))) | ((first | refine aJ ?_ | refine num_any ?_ | refine ⟨_, rfl, ?_⟩); conv => whnf) | fail)
            all_goals first
              | contradiction
              | skip
            refine Or.inr (Or.inr (Or.inl ?_)); (conv => whnf); refine ⟨_, _, Tryz.func124, rfl, Tryz.call124, ?_⟩; (conv => whnf)
            (try (conv => whnf)); repeat' (first | ((with_reducible_and_instances (first | refine nShr (by assumption) ?_ | refine nShl1' rfl (by assumption) ?_ | refine nAnd ?_ | refine nOr ?_ | refine nXor ?_ | refine nAndNot ?_ | refine nAnd1' rfl ?_)); conv => whnf) | refine Ok.seq ?_ | refine OkL.cons ?_ | ((first | refine Ok.region tok ?_ | refine Ok.region_plan (id := 0) tok follows [(5, 12, [])] [.q 0, .q 1, .q 2, .q 3, .q 4, .q 5, .q 6, .q 7, .q 8, .q 9, .q 10, .q 11, .l 12] (by kernel_rfl) ?_ | refine ⟨_, (hquo.symm).symm, ?_⟩ | refine ⟨_, (hrem.symm).symm, ?_⟩ | refine Ok.region_draw tok follows (by kernel_rfl) ?_ | refine Ok.cond ?_); conv => whnf) | refine Ok.block ?_ | ((first | refine Ok.skip ?_ | refine Ok.exit ?_ | refine Ok.ret ?_ | refine nI ?_ | refine ix _ (by assumption) ?_ | refine ixI (by omega) (by assumption) ?_ | refine ix_new _ (by omega) fun _ _ => ?_ | refine ixI_new (by omega) (by omega) fun _ _ => ?_ | refine ⟨_, by assumption, ?_⟩ | refine Alt2.l (aI ?_) | refine Alt2.r (aI ?_)); conv => whnf) | (refine Ok.scope ?_) | ((first | refine Ok.label ?_ | refine rd rfl (by assumption) ?_ | refine ⟨_, .inl ⟨rfl, rfl⟩, ?_⟩ | refine ⟨_, _, rfl, rfl, ?_⟩); conv => whnf) | (refine ⟨fun _ => ?_, fun _ => ?_⟩ <;> (conv => whnf) <;> (try (exfalso; omega))) | ((first | refine aJ ?_ | refine num_any ?_ | refine ⟨_, rfl, ?_⟩); conv => whnf) | fail)
            refine ⟨i + 1, by omega, by omega, ?_⟩
            rw [hsu, hsn]
            have a0 := (k 0).trans (by first | exact if_pos rfl | exact if_neg (by decide))
            have a1 := (k 1).trans (by first | exact if_pos rfl | exact if_neg (by decide))
            have a2 := (k 2).trans (by first | exact if_pos rfl | exact if_neg (by decide))
            have a3 := (k 3).trans (by first | exact if_pos rfl | exact if_neg (by decide))
            have b0 := o 0
            have b1 := o 1
            have b2 := o 2
            have b3 := o 3
            have e0 := (k' 0).trans (by first | exact if_pos rfl | exact if_neg (by decide))
            have e1 := (k' 1).trans (by first | exact if_pos rfl | exact if_neg (by decide))
            have e2 := (k' 2).trans (by first | exact if_pos rfl | exact if_neg (by decide))
            have e3 := (k' 3).trans (by first | exact if_pos rfl | exact if_neg (by decide))
            have f0 := (o' 0).trans (by first | exact if_pos rfl | exact if_neg (by decide))
            have f1 := (o' 1).trans (by first | exact if_pos rfl | exact if_neg (by decide))
            have f2 := (o' 2).trans (by first | exact if_pos rfl | exact if_neg (by decide))
            have f3 := (o' 3).trans (by first | exact if_pos rfl | exact if_neg (by decide))
            (conv => whnf)
            simp only [envCat, crow, cells9, List.length_set, List.map_append, List.map_cons, List.map_nil, List.length_append, List.length_map, List.length_cons, List.length_nil, a0, a1, a2, a3, b0, b1, b2, b3, e0, e1, e2, e3, f0, f1, f2, f3]
            rfl
        · rw [show (97 : UInt8) - 49 = 48 from rfl] at hsn
          have k := put_word (f := car L) (g := car (L.set i 49)) hqr hr (car_set hz rfl)
          have k' := put_word (f := car L) (g := car (L.set i 48)) hqr hr (car_set hz rfl)
          have o := put_word (f := one L) (g := one (L.set i 49)) hqr hr (one_set hz)
          have o' := fun k => wof_ext (f := one (L.set i 48)) (g := one L) (k := k) fun j _ => one_set0 hz _
          rcases hq with rfl | rfl | rfl | rfl
          all_goals
            (try (conv => whnf)); repeat' (first | ((with_reducible_and_instances (first | refine nShr (by assumption) ?_ | refine nShl1' rfl (by assumption) ?_ | refine nAnd ?_ | refine nOr ?_ | refine nXor ?_ | refine nAndNot ?_ | refine nAnd1' rfl ?_)); conv => whnf) | refine Ok.seq ?_ | refine OkL.cons ?_ | ((first | refine Ok.region tok ?_ | refine Ok.region_draw tok follows (by kernel_rfl) ?_ | refine Ok.cond ?_); conv => whnf) | refine Ok.block ?_ | ((first | refine Ok.skip ?_ | refine Ok.exit ?_ | refine Ok.ret ?_ | refine nI ?_ | refine ix _ (by assumption) ?_ | refine ixI (by omega) (by assumption) ?_ | refine ix_new _ (by omega) fun _ _ => ?_ | refine ixI_new (by omega) (by omega) fun _ _ => ?_ | refine ⟨_, by assumption, ?_⟩); conv => whnf) | (refine Or.inr (Or.inr (Or.inr (Or.inr ?_))); (conv => whnf); refine effW.of (effK.peek (by rfl) (pk2 (.bp _ _ ( crow L) rfl (fun d hd => ints_crow _ d (List.mem_of_mem_drop hd))) (.i _ _)) (s1 ) ?_); rintro _ _ ⟨rfl, rfl⟩; (refine And.intro (by simp [gRowsP, grounds, D.ground]) ?_; conv => whnf)) | (refine Or.inr (Or.inr (Or.inr ?_)); (conv => whnf); refine effK.peek (by rfl) (pk2 (.bp _ _ ( crow L) rfl (fun d hd => ints_crow _ d (List.mem_of_mem_drop hd))) (.i _ _)) (s1 ) ?_; rintro _ _ ⟨rfl, rfl⟩; (refine And.intro (by simp [gRowsP, grounds, D.ground]) ?_; conv => whnf)) | (refine Or.inr (Or.inr (Or.inr (Or.inr ?_))); (conv => whnf); refine effW.of (effK.peek (by rfl) (pk2 (.bp _ _ ( crow d) rfl (fun d hd => ints_crow _ d (List.mem_of_mem_drop hd))) (.i _ _)) (s2 ) ?_); rintro _ _ ⟨rfl, rfl⟩; (refine And.intro (by simp [gRowsP, grounds, D.ground]) ?_; conv => whnf)) | (refine Or.inr (Or.inr (Or.inr ?_)); (conv => whnf); refine effK.peek (by rfl) (pk2 (.bp _ _ ( crow d) rfl (fun d hd => ints_crow _ d (List.mem_of_mem_drop hd))) (.i _ _)) (s2 ) ?_; rintro _ _ ⟨rfl, rfl⟩; (refine And.intro (by simp [gRowsP, grounds, D.ground]) ?_; conv => whnf)) | ((first | refine Alt2.l (aI ?_) | refine Alt2.r (aI ?_)); conv => whnf) | (refine Ok.scope ?_) | ((first | refine Ok.label ?_ | refine rd rfl (by assumption) ?_ | refine ⟨_, .inl ⟨rfl, rfl⟩, ?_⟩ | refine ⟨_, _, rfl, rfl, ?_⟩); conv => whnf) | (refine ⟨fun _ => ?_, fun _ => ?_⟩ <;> (conv => whnf) <;> (try (exfalso; omega))) | ((first | refine aJ ?_ | refine num_any ?_ | refine ⟨_, rfl, ?_⟩); conv => whnf) | fail)
            all_goals first
              | contradiction
              | skip
            refine Or.inr (Or.inr (Or.inl ?_)); (conv => whnf); refine ⟨_, _, Tryz.func124, rfl, Tryz.call124, ?_⟩; (conv => whnf)
            (try (conv => whnf)); repeat' (first | ((with_reducible_and_instances (first | refine nShr (by assumption) ?_ | refine nShl1' rfl (by assumption) ?_ | refine nAnd ?_ | refine nOr ?_ | refine nXor ?_ | refine nAndNot ?_ | refine nAnd1' rfl ?_)); conv => whnf) | refine Ok.seq ?_ | refine OkL.cons ?_ | ((first | refine Ok.region tok ?_ | refine Ok.region_plan (id := 0) tok follows [(5, 12, [])] [.q 0, .q 1, .q 2, .q 3, .q 4, .q 5, .q 6, .q 7, .q 8, .q 9, .q 10, .q 11, .l 12] (by kernel_rfl) ?_ | refine ⟨_, (hquo.symm).symm, ?_⟩ | refine ⟨_, (hrem.symm).symm, ?_⟩ | refine Ok.region_draw tok follows (by kernel_rfl) ?_ | refine Ok.cond ?_); conv => whnf) | refine Ok.block ?_ | ((first | refine Ok.skip ?_ | refine Ok.exit ?_ | refine Ok.ret ?_ | refine nI ?_ | refine ix _ (by assumption) ?_ | refine ixI (by omega) (by assumption) ?_ | refine ix_new _ (by omega) fun _ _ => ?_ | refine ixI_new (by omega) (by omega) fun _ _ => ?_ | refine ⟨_, by assumption, ?_⟩); conv => whnf) | (refine Or.inr (Or.inr (Or.inr (Or.inr ?_))); (conv => whnf); refine effW.of (effK.peek (by rfl) (pk2 (.bp _ _ ( crow d) rfl (fun d hd => ints_crow _ d (List.mem_of_mem_drop hd))) (.i _ _)) (s3 ) ?_); rintro _ _ ⟨rfl, rfl⟩; (refine And.intro (by simp [gRowsP, grounds, D.ground]) ?_; conv => whnf)) | (refine Or.inr (Or.inr (Or.inr ?_)); (conv => whnf); refine effK.peek (by rfl) (pk2 (.bp _ _ ( crow d) rfl (fun d hd => ints_crow _ d (List.mem_of_mem_drop hd))) (.i _ _)) (s3 ) ?_; rintro _ _ ⟨rfl, rfl⟩; (refine And.intro (by simp [gRowsP, grounds, D.ground]) ?_; conv => whnf)) | ((first | refine Alt2.l (aI ?_) | refine Alt2.r (aI ?_)); conv => whnf) | (refine Ok.scope ?_) | ((first | refine Ok.label ?_ | refine rd rfl (by assumption) ?_ | refine ⟨_, .inl ⟨rfl, rfl⟩, ?_⟩ | refine ⟨_, _, rfl, rfl, ?_⟩); conv => whnf) | (refine ⟨fun _ => ?_, fun _ => ?_⟩ <;> (conv => whnf) <;> (try (exfalso; omega))) | ((first | refine aJ ?_ | refine num_any ?_ | refine ⟨_, rfl, ?_⟩); conv => whnf) | fail)
            all_goals first
              | contradiction
              | skip
            refine Or.inr (Or.inr (Or.inl ?_)); (conv => whnf); refine ⟨_, _, Tryz.func124, rfl, Tryz.call124, ?_⟩; (conv => whnf)
            (try (conv => whnf)); repeat' (first | ((with_reducible_and_instances (first | refine nShr (by assumption) ?_ | refine nShl1' rfl (by assumption) ?_ | refine nAnd ?_ | refine nOr ?_ | refine nXor ?_ | refine nAndNot ?_ | refine nAnd1' rfl ?_)); conv => whnf) | refine Ok.seq ?_ | refine OkL.cons ?_ | ((first | refine Ok.region tok ?_ | refine Ok.region_plan (id := 0) tok follows [(5, 12, [])] [.q 0, .q 1, .q 2, .q 3, .q 4, .q 5, .q 6, .q 7, .q 8, .q 9, .q 10, .q 11, .l 12] (by kernel_rfl) ?_ | refine ⟨_, (hquo.symm).symm, ?_⟩ | refine ⟨_, (hrem.symm).symm, ?_⟩ | refine Ok.region_draw tok follows (by kernel_rfl) ?_ | refine Ok.cond ?_); conv => whnf) | refine Ok.block ?_ | ((first | refine Ok.skip ?_ | refine Ok.exit ?_ | refine Ok.ret ?_ | refine nI ?_ | refine ix _ (by assumption) ?_ | refine ixI (by omega) (by assumption) ?_ | refine ix_new _ (by omega) fun _ _ => ?_ | refine ixI_new (by omega) (by omega) fun _ _ => ?_ | refine ⟨_, by assumption, ?_⟩ | refine Alt2.l (aI ?_) | refine Alt2.r (aI ?_)); conv => whnf) | (refine Ok.scope ?_) | ((first | refine Ok.label ?_ | refine rd rfl (by assumption) ?_ | refine ⟨_, .inl ⟨rfl, rfl⟩, ?_⟩ | refine ⟨_, _, rfl, rfl, ?_⟩); conv => whnf) | (refine ⟨fun _ => ?_, fun _ => ?_⟩ <;> (conv => whnf) <;> (try (exfalso; omega))) | ((first | refine aJ ?_ | refine num_any ?_ | refine ⟨_, rfl, ?_⟩); conv => whnf) | fail)
            refine ⟨i + 1, by omega, by omega, ?_⟩
            rw [hsu, hsn]
            have a0 := (k 0).trans (by first | exact if_pos rfl | exact if_neg (by decide))
            have a1 := (k 1).trans (by first | exact if_pos rfl | exact if_neg (by decide))
            have a2 := (k 2).trans (by first | exact if_pos rfl | exact if_neg (by decide))
            have a3 := (k 3).trans (by first | exact if_pos rfl | exact if_neg (by decide))
            have b0 := (o 0).trans (by first | exact if_pos rfl | exact if_neg (by decide))
            have b1 := (o 1).trans (by first | exact if_pos rfl | exact if_neg (by decide))
            have b2 := (o 2).trans (by first | exact if_pos rfl | exact if_neg (by decide))
            have b3 := (o 3).trans (by first | exact if_pos rfl | exact if_neg (by decide))
            have e0 := (k' 0).trans (by first | exact if_pos rfl | exact if_neg (by decide))
            have e1 := (k' 1).trans (by first | exact if_pos rfl | exact if_neg (by decide))
            have e2 := (k' 2).trans (by first | exact if_pos rfl | exact if_neg (by decide))
            have e3 := (k' 3).trans (by first | exact if_pos rfl | exact if_neg (by decide))
            have f0 := o' 0
            have f1 := o' 1
            have f2 := o' 2
            have f3 := o' 3
            (conv => whnf)
            simp only [envCat, crow, cells9, List.length_set, List.map_append, List.map_cons, List.map_nil, List.length_append, List.length_map, List.length_cons, List.length_nil, a0, a1, a2, a3, b0, b1, b2, b3, e0, e1, e2, e3, f0, f1, f2, f3]
            rfl
        · exact absurd rfl hb2
      · rw [if_neg hab] at hpc
        have hsn := pcsT_none hpc
        rw [hQ] at hsn
        have hsm := hsm hab
        have hcases : (dig a = true) ∨ (dig a = false ∧ dig b = false) := by
          rcases hac with rfl | rfl | rfl
          · left; rfl
          · left; rfl
          · right
            rcases hbc with rfl | rfl | rfl
            · exact absurd ⟨rfl, by decide⟩ hab
            · exact absurd ⟨rfl, by decide⟩ hab
            · exact ⟨rfl, rfl⟩
        rcases hcases with hda | ⟨hda, hdb⟩
        · rw [hda] at s1
          (try (conv => whnf)); repeat' (first | ((with_reducible_and_instances (first | refine nShr (by assumption) ?_ | refine nShl1' rfl (by assumption) ?_ | refine nAnd ?_ | refine nOr ?_ | refine nXor ?_ | refine nAndNot ?_ | refine nAnd1' rfl ?_)); conv => whnf) | refine Ok.seq ?_ | refine OkL.cons ?_ | ((first | refine Ok.region tok ?_ | refine Ok.region_draw tok follows (by kernel_rfl) ?_ | refine Ok.cond ?_); conv => whnf) | refine Ok.block ?_ | ((first | refine Ok.skip ?_ | refine Ok.exit ?_ | refine Ok.ret ?_ | refine nI ?_ | refine ix _ (by assumption) ?_ | refine ixI (by omega) (by assumption) ?_ | refine ix_new _ (by omega) fun _ _ => ?_ | refine ixI_new (by omega) (by omega) fun _ _ => ?_ | refine ⟨_, by assumption, ?_⟩); conv => whnf) | (refine Or.inr (Or.inr (Or.inr (Or.inr ?_))); (conv => whnf); refine effW.of (effK.peek (by rfl) (pk2 (.bp _ _ ( crow L) rfl (fun d hd => ints_crow _ d (List.mem_of_mem_drop hd))) (.i _ _)) (s1 ) ?_); rintro _ _ ⟨rfl, rfl⟩; (refine And.intro (by simp [gRowsP, grounds, D.ground]) ?_; conv => whnf)) | (refine Or.inr (Or.inr (Or.inr ?_)); (conv => whnf); refine effK.peek (by rfl) (pk2 (.bp _ _ ( crow L) rfl (fun d hd => ints_crow _ d (List.mem_of_mem_drop hd))) (.i _ _)) (s1 ) ?_; rintro _ _ ⟨rfl, rfl⟩; (refine And.intro (by simp [gRowsP, grounds, D.ground]) ?_; conv => whnf)) | (refine Or.inr (Or.inr (Or.inr (Or.inr ?_))); (conv => whnf); refine effW.of (effK.peek (by rfl) (pk2 (.bp _ _ ( crow d) rfl (fun d hd => ints_crow _ d (List.mem_of_mem_drop hd))) (.i _ _)) (s2 ) ?_); rintro _ _ ⟨rfl, rfl⟩; (refine And.intro (by simp [gRowsP, grounds, D.ground]) ?_; conv => whnf)) | (refine Or.inr (Or.inr (Or.inr ?_)); (conv => whnf); refine effK.peek (by rfl) (pk2 (.bp _ _ ( crow d) rfl (fun d hd => ints_crow _ d (List.mem_of_mem_drop hd))) (.i _ _)) (s2 ) ?_; rintro _ _ ⟨rfl, rfl⟩; (refine And.intro (by simp [gRowsP, grounds, D.ground]) ?_; conv => whnf)) | ((first | refine Alt2.l (aI ?_) | refine Alt2.r (aI ?_)); conv => whnf) | (refine Ok.scope ?_) | ((first | refine Ok.label ?_ | refine rd rfl (by assumption) ?_ | refine ⟨_, .inl ⟨rfl, rfl⟩, ?_⟩ | refine ⟨_, _, rfl, rfl, ?_⟩); conv => whnf) | (refine ⟨fun _ => ?_, fun _ => ?_⟩ <;> (conv => whnf) <;> (try (exfalso; omega))) | ((first | refine aJ ?_ | refine num_any ?_ | refine ⟨_, rfl, ?_⟩); conv => whnf) | fail)
          all_goals first
            | contradiction
            | (refine ⟨i + 1, by omega, by omega, ?_⟩
               rw [hsm, hsn]
               (conv => whnf)
               rfl)
            | (rename_i h; exact absurd rfl h)
        · rw [hda] at s1
          rw [hdb] at s2
          (try (conv => whnf)); repeat' (first | ((with_reducible_and_instances (first | refine nShr (by assumption) ?_ | refine nShl1' rfl (by assumption) ?_ | refine nAnd ?_ | refine nOr ?_ | refine nXor ?_ | refine nAndNot ?_ | refine nAnd1' rfl ?_)); conv => whnf) | refine Ok.seq ?_ | refine OkL.cons ?_ | ((first | refine Ok.region tok ?_ | refine Ok.region_draw tok follows (by kernel_rfl) ?_ | refine Ok.cond ?_); conv => whnf) | refine Ok.block ?_ | ((first | refine Ok.skip ?_ | refine Ok.exit ?_ | refine Ok.ret ?_ | refine nI ?_ | refine ix _ (by assumption) ?_ | refine ixI (by omega) (by assumption) ?_ | refine ix_new _ (by omega) fun _ _ => ?_ | refine ixI_new (by omega) (by omega) fun _ _ => ?_ | refine ⟨_, by assumption, ?_⟩); conv => whnf) | (refine Or.inr (Or.inr (Or.inr (Or.inr ?_))); (conv => whnf); refine effW.of (effK.peek (by rfl) (pk2 (.bp _ _ ( crow L) rfl (fun d hd => ints_crow _ d (List.mem_of_mem_drop hd))) (.i _ _)) (s1 ) ?_); rintro _ _ ⟨rfl, rfl⟩; (refine And.intro (by simp [gRowsP, grounds, D.ground]) ?_; conv => whnf)) | (refine Or.inr (Or.inr (Or.inr ?_)); (conv => whnf); refine effK.peek (by rfl) (pk2 (.bp _ _ ( crow L) rfl (fun d hd => ints_crow _ d (List.mem_of_mem_drop hd))) (.i _ _)) (s1 ) ?_; rintro _ _ ⟨rfl, rfl⟩; (refine And.intro (by simp [gRowsP, grounds, D.ground]) ?_; conv => whnf)) | (refine Or.inr (Or.inr (Or.inr (Or.inr ?_))); (conv => whnf); refine effW.of (effK.peek (by rfl) (pk2 (.bp _ _ ( crow d) rfl (fun d hd => ints_crow _ d (List.mem_of_mem_drop hd))) (.i _ _)) (s2 ) ?_); rintro _ _ ⟨rfl, rfl⟩; (refine And.intro (by simp [gRowsP, grounds, D.ground]) ?_; conv => whnf)) | (refine Or.inr (Or.inr (Or.inr ?_)); (conv => whnf); refine effK.peek (by rfl) (pk2 (.bp _ _ ( crow d) rfl (fun d hd => ints_crow _ d (List.mem_of_mem_drop hd))) (.i _ _)) (s2 ) ?_; rintro _ _ ⟨rfl, rfl⟩; (refine And.intro (by simp [gRowsP, grounds, D.ground]) ?_; conv => whnf)) | ((first | refine Alt2.l (aI ?_) | refine Alt2.r (aI ?_)); conv => whnf) | (refine Ok.scope ?_) | ((first | refine Ok.label ?_ | refine rd rfl (by assumption) ?_ | refine ⟨_, .inl ⟨rfl, rfl⟩, ?_⟩ | refine ⟨_, _, rfl, rfl, ?_⟩); conv => whnf) | (refine ⟨fun _ => ?_, fun _ => ?_⟩ <;> (conv => whnf) <;> (try (exfalso; omega))) | ((first | refine aJ ?_ | refine num_any ?_ | refine ⟨_, rfl, ?_⟩); conv => whnf) | fail)
          all_goals first
            | contradiction
            | (refine ⟨i + 1, by omega, by omega, ?_⟩
               rw [hsm, hsn]
               (conv => whnf)
               rfl)
            | (rename_i h; exact absurd (fun q => by cases q) h)
    · have hie : i = c.length := by omega
      subst hie
      have hsp : splitT c d = pcsT c d c.length := if_pos hs
      rw [hsp]
      (try (conv => whnf)); repeat' (first | ((with_reducible_and_instances (first | refine nShr (by assumption) ?_ | refine nShl1' rfl (by assumption) ?_ | refine nAnd ?_ | refine nOr ?_ | refine nXor ?_ | refine nAndNot ?_ | refine nAnd1' rfl ?_)); conv => whnf) | refine Ok.seq ?_ | refine OkL.cons ?_ | ((first | refine Ok.region tok ?_ | refine Ok.region_draw tok follows (by kernel_rfl) ?_ | refine Ok.cond ?_); conv => whnf) | refine Ok.block ?_ | ((first | refine Ok.skip ?_ | refine Ok.exit ?_ | refine Ok.ret ?_ | refine nI ?_ | refine ix _ (by assumption) ?_ | refine ixI (by omega) (by assumption) ?_ | refine ix_new _ (by omega) fun _ _ => ?_ | refine ixI_new (by omega) (by omega) fun _ _ => ?_ | refine ⟨_, by assumption, ?_⟩ | refine Alt2.l (aI ?_) | refine Alt2.r (aI ?_)); conv => whnf) | (refine Ok.scope ?_) | ((first | refine Ok.label ?_ | refine rd rfl (by assumption) ?_ | refine ⟨_, .inl ⟨rfl, rfl⟩, ?_⟩ | refine ⟨_, _, rfl, rfl, ?_⟩); conv => whnf) | (refine ⟨fun _ => ?_, fun _ => ?_⟩ <;> (conv => whnf) <;> (try (exfalso; omega))) | ((first | refine aJ ?_ | refine num_any ?_ | refine ⟨_, rfl, ?_⟩); conv => whnf) | fail)
      refine Or.inl ?_; (conv => whnf)
      refine ⟨[], ?_, rfl⟩
      rw [List.take_of_length_le (by simp), List.drop_of_length_le (by simp)]
      rfl
  · have hn : splitT c d = [c] := by unfold splitT; rw [if_neg hs]
    rw [hn]
    (try (conv => whnf)); repeat' (first | ((with_reducible_and_instances (first | refine nShr (by assumption) ?_ | refine nShl1' rfl (by assumption) ?_ | refine nAnd ?_ | refine nOr ?_ | refine nXor ?_ | refine nAndNot ?_ | refine nAnd1' rfl ?_)); conv => whnf) | refine Ok.seq ?_ | refine OkL.cons ?_ | ((first | refine Ok.region tok ?_ | refine Ok.region_draw tok follows (by kernel_rfl) ?_ | refine Ok.cond ?_); conv => whnf) | refine Ok.block ?_ | ((first | refine Ok.skip ?_ | refine Ok.exit ?_ | refine Ok.ret ?_ | refine nI ?_ | refine ix _ (by assumption) ?_ | refine ixI (by omega) (by assumption) ?_ | refine ix_new _ (by omega) fun _ _ => ?_ | refine ixI_new (by omega) (by omega) fun _ _ => ?_ | refine ⟨_, by assumption, ?_⟩); conv => whnf) | (refine Or.inr (Or.inl ?_); (conv => whnf); (repeat (refine aI ?_; conv => whnf)); refine ⟨_, hm, ?_⟩; rintro _ _ ⟨rfl, rfl⟩ <;> (conv => whnf)) | ((first | refine Alt2.l (aI ?_) | refine Alt2.r (aI ?_)); conv => whnf) | (refine Ok.scope ?_) | ((first | refine Ok.label ?_ | refine rd rfl (by assumption) ?_ | refine ⟨_, .inl ⟨rfl, rfl⟩, ?_⟩ | refine ⟨_, _, rfl, rfl, ?_⟩); conv => whnf) | (refine ⟨fun _ => ?_, fun _ => ?_⟩ <;> (conv => whnf) <;> (try (exfalso; omega))) | ((first | refine aJ ?_ | refine num_any ?_ | refine ⟨_, rfl, ?_⟩); conv => whnf) | fail)
    · refine Or.inl ?_; (conv => whnf)
      exact ⟨_, rfl, rfl⟩
    · rename_i h
      exact absurd (Classical.not_not.1 h) hs
end Go.Proofs.YtagmibogginaaaaGreatDoor
namespace Go.Proofs.YtagmibogginaaaaGreatDoor
open Go Go.Vx
structure Tst where
  f : Str
  op : Int
  form : Int
  lo : Int
  hi : Int
  len : Int
  pat : Str
structure Nd where
  kind : Int
  t : Tst
structure Fd where
  name : Str
  bits : Int
@[reducible] def tcells (t : Tst) : List D := [.s t.f, .i .i64 t.op, .i .i64 t.form, .i .i64 t.lo, .i .i64 t.hi, .i .i64 t.len, .s t.pat]
@[reducible] def nrow (x : Nd) : List D := .i .i64 x.kind :: tcells x.t
@[reducible] def frow (x : Fd) : List D := [.s x.name, .i .i64 x.bits]
theorem eqNode : EqT Tryz.prog 56 [.i .i64, .s, .i .i64, .i .i64, .i .i64, .i .i64, .i .i64, .s] := EqT.of_b tok (ti := _) rfl rfl (by kernel_rfl)
theorem eqTest : EqT Tryz.prog 54 [.s, .i .i64, .i .i64, .i .i64, .i .i64, .i .i64, .s] := EqT.of_b tok (ti := _) rfl rfl (by kernel_rfl)
theorem eqField : EqT Tryz.prog 34 [.s, .i .i64] := EqT.of_b tok (ti := _) rfl rfl (by kernel_rfl)
set_option maxHeartbeats 4000000 in
theorem alike_at (l : List Nd) (r1 r2 : List (List D)) (hl : l.length ≤ 2000000) : FSpec Tryz.prog T 24 [.lst 56 (l.map nrow) r1, .lst 56 (l.map nrow) r2] (fun d _ => d = .b True) := by
  have h1 : (l.map nrow).length = l.length := by simp
  refine FSpec.of_ok tok Tryz.func24 rfl Tryz.call24 (by simp) ?_
  (try (conv => whnf)); repeat' (first | refine Ok.seq ?_ | refine OkL.cons ?_ | ((first | refine Ok.region tok ?_ | refine Ok.region_draw tok follows (by kernel_rfl) ?_ | refine Ok.cond ?_); conv => whnf) | refine Ok.block ?_ | ((first | refine Ok.skip ?_ | refine Ok.exit ?_ | refine Ok.ret ?_ | refine nI ?_ | refine ix _ (by assumption) ?_ | refine ixI (by omega) (by assumption) ?_ | refine ix_new _ (by omega) fun _ _ => ?_ | refine ixI_new (by omega) (by omega) fun _ _ => ?_ | refine ⟨_, by assumption, ?_⟩ | refine Alt2.l (aI ?_) | refine Alt2.r (aI ?_)); conv => whnf) | (refine Ok.scope ?_) | ((first | refine Ok.label ?_ | refine rd rfl (by assumption) ?_ | refine ⟨_, .inl ⟨rfl, rfl⟩, ?_⟩ | refine ⟨_, _, rfl, rfl, ?_⟩); conv => whnf) | (refine ⟨fun _ => ?_, fun _ => ?_⟩ <;> (conv => whnf) <;> (try (exfalso; omega))) | ((first | refine aJ ?_ | refine num_any ?_ | refine ⟨_, rfl, ?_⟩); conv => whnf) | fail)
  all_goals first
    | (exfalso; omega)
    | skip
  refine Ok.loopU [0, 1] [5] 0 0 (fun (i : Nat) => [.i .i64 (i : Nat)]) (fun _ b => b) (fun _ r => r) (fun (i : Nat) => i ≤ l.length) (fun (i : Nat) => l.length - i) (0) (Nat.zero_le _) ?_; (conv => whnf); refine ⟨by ((conv => whnf); first | rfl | (simp [envCat, List.take_of_length_le, nrow, frow]; done) | (simp [envCat, List.take_of_length_le, nrow, frow]; rw [IntKind.wrap_i64]; omega)), ?_⟩
  intro i hi
  (conv => whnf)
  by_cases hil : i < l.length
  · obtain ⟨c, hc⟩ : ∃ c, l[i]? = some c := ⟨_, List.getElem?_eq_getElem hil⟩
    have hcI : l[((i : Nat) : Int).toNat]? = some c := hc
    (try (conv => whnf)); repeat' (first | (refine ⟨_, eqNode, by kernel_rfl, ?_⟩; (conv => whnf)) | refine Ok.seq ?_ | refine OkL.cons ?_ | ((first | refine Ok.region tok ?_ | refine Ok.region_draw tok follows (by kernel_rfl) ?_ | refine Ok.cond ?_); conv => whnf) | refine Ok.block ?_ | ((first | refine Ok.skip ?_ | refine Ok.exit ?_ | refine Ok.ret ?_ | refine nI ?_ | refine ix _ (by assumption) ?_ | refine ixI (by omega) (by assumption) ?_ | refine ix_new _ (by omega) fun _ _ => ?_ | refine ixI_new (by omega) (by omega) fun _ _ => ?_ | refine ⟨_, by assumption, ?_⟩ | refine Alt2.l (aI ?_) | refine Alt2.r (aI ?_)); conv => whnf) | (refine Ok.scope ?_) | ((first | refine Ok.label ?_ | refine rd rfl (by assumption) ?_ | refine ⟨_, .inl ⟨rfl, rfl⟩, ?_⟩ | refine ⟨_, _, rfl, rfl, ?_⟩); conv => whnf) | (refine ⟨fun _ => ?_, fun _ => ?_⟩ <;> (conv => whnf) <;> (try (exfalso; omega))) | ((first | refine aJ ?_ | refine num_any ?_ | refine ⟨_, rfl, ?_⟩); conv => whnf) | fail)
    all_goals first
      | (rename_i h; exfalso; simp [eqDs, eqD] at h; done)
      | (refine ⟨i + 1, by omega, by omega, ?_⟩
         (conv => whnf)
         rfl)
      | trace_state
  · have hie : i = l.length := by omega
    subst hie
    (try (conv => whnf)); repeat' (first | refine Ok.seq ?_ | refine OkL.cons ?_ | ((first | refine Ok.region tok ?_ | refine Ok.region_draw tok follows (by kernel_rfl) ?_ | refine Ok.cond ?_); conv => whnf) | refine Ok.block ?_ | ((first | refine Ok.skip ?_ | refine Ok.exit ?_ | refine Ok.ret ?_ | refine nI ?_ | refine ix _ (by assumption) ?_ | refine ixI (by omega) (by assumption) ?_ | refine ix_new _ (by omega) fun _ _ => ?_ | refine ixI_new (by omega) (by omega) fun _ _ => ?_ | refine ⟨_, by assumption, ?_⟩ | refine Alt2.l (aI ?_) | refine Alt2.r (aI ?_)); conv => whnf) | (refine Ok.scope ?_) | ((first | refine Ok.label ?_ | refine rd rfl (by assumption) ?_ | refine ⟨_, .inl ⟨rfl, rfl⟩, ?_⟩ | refine ⟨_, _, rfl, rfl, ?_⟩); conv => whnf) | (refine ⟨fun _ => ?_, fun _ => ?_⟩ <;> (conv => whnf) <;> (try (exfalso; omega))) | ((first | refine aJ ?_ | refine num_any ?_ | refine ⟨_, rfl, ?_⟩); conv => whnf) | fail)
    refine Or.inl ?_; (conv => whnf)
    rfl
end Go.Proofs.YtagmibogginaaaaGreatDoor
namespace Go.Proofs.YtagmibogginaaaaGreatDoor
open Go Go.Vx
def tst0 : Tst := ⟨[], 0, 0, 0, 0, 0, []⟩
def mk91 : Nd := ⟨91, tst0⟩
def mk92 : Nd := ⟨92, tst0⟩
def mkF : Fd := ⟨[63], 91⟩
set_option maxHeartbeats 4000000 in
theorem nodes_at (l : List Nd) (r1 : List (List D)) (hl : l.length ≤ 1000) : FSpec Tryz.prog T 7 [.lst 56 (l.map nrow) r1] (fun d rows => d = .own 0 l.length ∧ rows = [some (56, (l ++ [mk91, mk92]).map nrow)]) := by
  have h1 : (l.map nrow).length = l.length := by simp
  refine FSpec.of_ok tok Tryz.func7 rfl Tryz.call7 (by simp) ?_
  (try (conv => whnf)); repeat' (first | refine Ok.seq ?_ | refine OkL.cons ?_ | ((first | refine Ok.region tok ?_ | refine Ok.region_draw tok follows (by kernel_rfl) ?_ | refine Ok.cond ?_); conv => whnf) | refine Ok.block ?_ | ((first | refine Ok.skip ?_ | refine Ok.exit ?_ | refine Ok.ret ?_ | refine nI ?_ | refine ix _ (by assumption) ?_ | refine ixI (by omega) (by assumption) ?_ | refine ix_new _ (by omega) fun _ _ => ?_ | refine ixI_new (by omega) (by omega) fun _ _ => ?_ | refine ⟨_, by assumption, ?_⟩ | refine Alt2.l (aI ?_) | refine Alt2.r (aI ?_)); conv => whnf) | (refine Ok.scope ?_) | ((first | refine Ok.label ?_ | refine rd rfl (by assumption) ?_ | refine ⟨_, .inl ⟨rfl, rfl⟩, ?_⟩ | refine ⟨_, _, rfl, rfl, ?_⟩); conv => whnf) | (refine ⟨fun _ => ?_, fun _ => ?_⟩ <;> (conv => whnf) <;> (try (exfalso; omega))) | ((first | refine aJ ?_ | refine num_any ?_ | refine ⟨_, rfl, ?_⟩); conv => whnf) | fail)
  refine ⟨l.length, rfl, (by (conv => whnf); omega), by simp, ?_⟩
  (conv => whnf)
  (try (conv => whnf)); repeat' (first | refine Ok.seq ?_ | refine OkL.cons ?_ | ((first | refine Ok.region tok ?_ | refine Ok.region_draw tok follows (by kernel_rfl) ?_ | refine Ok.cond ?_); conv => whnf) | refine Ok.block ?_ | ((first | refine Ok.skip ?_ | refine Ok.exit ?_ | refine Ok.ret ?_ | refine nI ?_ | refine ix _ (by assumption) ?_ | refine ixI (by omega) (by assumption) ?_ | refine ix_new _ (by omega) fun _ _ => ?_ | refine ixI_new (by omega) (by omega) fun _ _ => ?_ | refine ⟨_, by assumption, ?_⟩ | refine Alt2.l (aI ?_) | refine Alt2.r (aI ?_)); conv => whnf) | (refine Ok.scope ?_) | ((first | refine Ok.label ?_ | refine rd rfl (by assumption) ?_ | refine ⟨_, .inl ⟨rfl, rfl⟩, ?_⟩ | refine ⟨_, _, rfl, rfl, ?_⟩); conv => whnf) | (refine ⟨fun _ => ?_, fun _ => ?_⟩ <;> (conv => whnf) <;> (try (exfalso; omega))) | ((first | refine aJ ?_ | refine num_any ?_ | refine ⟨_, rfl, ?_⟩); conv => whnf) | fail)
  refine Or.inr (Or.inl ?_); (conv => whnf)
  refine ⟨rfl, ?_⟩
  simp [mk91, mk92, tst0]
set_option maxHeartbeats 4000000 in
theorem layout1_at (l : List Fd) (r1 : List (List D)) (hl : l.length ≤ 16) : FSpec Tryz.prog T 6 [.lst 34 (l.map frow) r1] (fun d rows => d = .own 0 l.length ∧ rows = [some (34, (l ++ [mkF]).map frow)]) := by
  have h1 : (l.map frow).length = l.length := by simp
  refine FSpec.of_ok tok Tryz.func6 rfl Tryz.call6 (by simp) ?_
  (try (conv => whnf)); repeat' (first | refine Ok.seq ?_ | refine OkL.cons ?_ | ((first | refine Ok.region tok ?_ | refine Ok.region_draw tok follows (by kernel_rfl) ?_ | refine Ok.cond ?_); conv => whnf) | refine Ok.block ?_ | ((first | refine Ok.skip ?_ | refine Ok.exit ?_ | refine Ok.ret ?_ | refine nI ?_ | refine ix _ (by assumption) ?_ | refine ixI (by omega) (by assumption) ?_ | refine ix_new _ (by omega) fun _ _ => ?_ | refine ixI_new (by omega) (by omega) fun _ _ => ?_ | refine ⟨_, by assumption, ?_⟩ | refine Alt2.l (aI ?_) | refine Alt2.r (aI ?_)); conv => whnf) | (refine Ok.scope ?_) | ((first | refine Ok.label ?_ | refine rd rfl (by assumption) ?_ | refine ⟨_, .inl ⟨rfl, rfl⟩, ?_⟩ | refine ⟨_, _, rfl, rfl, ?_⟩); conv => whnf) | (refine ⟨fun _ => ?_, fun _ => ?_⟩ <;> (conv => whnf) <;> (try (exfalso; omega))) | ((first | refine aJ ?_ | refine num_any ?_ | refine ⟨_, rfl, ?_⟩); conv => whnf) | fail)
  refine ⟨l.length, rfl, (by (conv => whnf); omega), by simp, ?_⟩
  (conv => whnf)
  (try (conv => whnf)); repeat' (first | refine Ok.seq ?_ | refine OkL.cons ?_ | ((first | refine Ok.region tok ?_ | refine Ok.region_draw tok follows (by kernel_rfl) ?_ | refine Ok.cond ?_); conv => whnf) | refine Ok.block ?_ | ((first | refine Ok.skip ?_ | refine Ok.exit ?_ | refine Ok.ret ?_ | refine nI ?_ | refine ix _ (by assumption) ?_ | refine ixI (by omega) (by assumption) ?_ | refine ix_new _ (by omega) fun _ _ => ?_ | refine ixI_new (by omega) (by omega) fun _ _ => ?_ | refine ⟨_, by assumption, ?_⟩ | refine Alt2.l (aI ?_) | refine Alt2.r (aI ?_)); conv => whnf) | (refine Ok.scope ?_) | ((first | refine Ok.label ?_ | refine rd rfl (by assumption) ?_ | refine ⟨_, .inl ⟨rfl, rfl⟩, ?_⟩ | refine ⟨_, _, rfl, rfl, ?_⟩); conv => whnf) | (refine ⟨fun _ => ?_, fun _ => ?_⟩ <;> (conv => whnf) <;> (try (exfalso; omega))) | ((first | refine aJ ?_ | refine num_any ?_ | refine ⟨_, rfl, ?_⟩); conv => whnf) | fail)
  refine Or.inr (Or.inl ?_); (conv => whnf)
  refine ⟨rfl, ?_⟩
  simp [mkF]
set_option maxHeartbeats 4000000 in
theorem turned_at (l : List Nd) (r1 : List (List D)) (hl : l.length ≤ 1000) : FSpec Tryz.prog T 13 [.lst 56 (l.map nrow) r1] (fun d rows => rows = [] ∧ ∃ rm, d = .lst 56 (l.reverse.map nrow) rm) := by
  have h1 : (l.map nrow).length = l.length := by simp
  refine FSpec.of_ok tok Tryz.func13 rfl Tryz.call13 (by simp) ?_
  (try (conv => whnf)); repeat' (first | refine Ok.seq ?_ | refine OkL.cons ?_ | ((first | refine Ok.region tok ?_ | refine Ok.region_draw tok follows (by kernel_rfl) ?_ | refine Ok.cond ?_); conv => whnf) | refine Ok.block ?_ | ((first | refine Ok.skip ?_ | refine Ok.exit ?_ | refine Ok.ret ?_ | refine nI ?_ | refine ix _ (by assumption) ?_ | refine ixI (by omega) (by assumption) ?_ | refine ix_new _ (by omega) fun _ _ => ?_ | refine ixI_new (by omega) (by omega) fun _ _ => ?_ | refine ⟨_, by assumption, ?_⟩ | refine Alt2.l (aI ?_) | refine Alt2.r (aI ?_)); conv => whnf) | (refine Ok.scope ?_) | ((first | refine Ok.label ?_ | refine rd rfl (by assumption) ?_ | refine ⟨_, .inl ⟨rfl, rfl⟩, ?_⟩ | refine ⟨_, _, rfl, rfl, ?_⟩); conv => whnf) | (refine ⟨fun _ => ?_, fun _ => ?_⟩ <;> (conv => whnf) <;> (try (exfalso; omega))) | ((first | refine aJ ?_ | refine num_any ?_ | refine ⟨_, rfl, ?_⟩); conv => whnf) | fail)
  refine Ok.ghost 3 56 rfl ?_
  (conv => whnf)
  refine Ok.loopU [0] [3, 4] 1 0 (fun (x : Int × Nat) => [.own 0 x.2, .i .i64 x.1]) (fun _ b => b) (fun (x : Int × Nat) (_ : Vx.Rows) => [some (56, (l.reverse.take x.2).map nrow)]) (fun (x : Int × Nat) => x.2 ≤ l.length ∧ x.1 = (l.length : Int) - 1 - (x.2 : Nat)) (fun (x : Int × Nat) => l.length - x.2) ((((l.map nrow).length : Int) - 1, 0)) (⟨Nat.zero_le _, by simp [h1]⟩) ?_; (conv => whnf); refine ⟨by ((conv => whnf); first | rfl | (simp [envCat, List.take_of_length_le, nrow, frow]; done) | (simp [envCat, List.take_of_length_le, nrow, frow]; rw [IntKind.wrap_i64]; omega)), ?_⟩
  rintro ⟨v, i⟩ ⟨hi, hv⟩
  dsimp only at hi hv ⊢
  have htl : ((l.reverse.take i).map nrow).length = i := by simp; omega
  (conv => whnf)
  by_cases hil : i < l.length
  · obtain ⟨c, hc⟩ : ∃ c, l[l.length - 1 - i]? = some c := ⟨_, List.getElem?_eq_getElem (by omega)⟩
    have hcI : l[v.toNat]? = some c := by rw [hv, ← hc]; congr 1; omega
    have hsn : (l.reverse.take (i + 1)).map nrow = (l.reverse.take i).map nrow ++ [nrow c] := by
      rw [take_snoc (by rw [List.getElem?_reverse hil, ← hc]), List.map_append]; rfl
    (try (conv => whnf)); repeat' (first | refine Ok.seq ?_ | refine OkL.cons ?_ | ((first | refine Ok.region tok ?_ | refine Ok.region_draw tok follows (by kernel_rfl) ?_ | refine Ok.cond ?_); conv => whnf) | refine Ok.block ?_ | ((first | refine Ok.skip ?_ | refine Ok.exit ?_ | refine Ok.ret ?_ | refine nI ?_ | refine ix _ (by assumption) ?_ | refine ixI (by omega) (by assumption) ?_ | refine ix_new _ (by omega) fun _ _ => ?_ | refine ixI_new (by omega) (by omega) fun _ _ => ?_ | refine ⟨_, by assumption, ?_⟩ | refine Alt2.l (aI ?_) | refine Alt2.r (aI ?_)); conv => whnf) | (refine Ok.scope ?_) | ((first | refine Ok.label ?_ | refine rd rfl (by assumption) ?_ | refine ⟨_, .inl ⟨rfl, rfl⟩, ?_⟩ | refine ⟨_, _, rfl, rfl, ?_⟩); conv => whnf) | (refine ⟨fun _ => ?_, fun _ => ?_⟩ <;> (conv => whnf) <;> (try (exfalso; omega))) | ((first | refine aJ ?_ | refine num_any ?_ | refine ⟨_, rfl, ?_⟩); conv => whnf) | fail)
    all_goals first
      | (exfalso; omega)
      | skip
    refine ⟨(v - 1, i + 1), by dsimp only; omega, ⟨by dsimp only; omega, by dsimp only; omega⟩, ?_⟩
    rw [hsn]
    (conv => whnf)
    simp [envCat]
    omega
  · have hie : i = l.length := by omega
    subst hie
    (try (conv => whnf)); repeat' (first | refine Ok.seq ?_ | refine OkL.cons ?_ | ((first | refine Ok.region tok ?_ | refine Ok.region_draw tok follows (by kernel_rfl) ?_ | refine Ok.cond ?_); conv => whnf) | refine Ok.block ?_ | ((first | refine Ok.skip ?_ | refine Ok.exit ?_ | refine Ok.ret ?_ | refine nI ?_ | refine ix _ (by assumption) ?_ | refine ixI (by omega) (by assumption) ?_ | refine ix_new _ (by omega) fun _ _ => ?_ | refine ixI_new (by omega) (by omega) fun _ _ => ?_ | refine ⟨_, by assumption, ?_⟩ | refine Alt2.l (aI ?_) | refine Alt2.r (aI ?_)); conv => whnf) | (refine Ok.scope ?_) | ((first | refine Ok.label ?_ | refine rd rfl (by assumption) ?_ | refine ⟨_, .inl ⟨rfl, rfl⟩, ?_⟩ | refine ⟨_, _, rfl, rfl, ?_⟩); conv => whnf) | (refine ⟨fun _ => ?_, fun _ => ?_⟩ <;> (conv => whnf) <;> (try (exfalso; omega))) | ((first | refine aJ ?_ | refine num_any ?_ | refine ⟨_, rfl, ?_⟩); conv => whnf) | fail)
    all_goals first
      | (exfalso; omega)
      | skip
    refine Or.inl ?_; (conv => whnf)
    refine ⟨rfl, [], ?_⟩
    rw [List.take_of_length_le (by simp), List.take_of_length_le (by simp), List.drop_of_length_le (by simp)]
    rfl
set_option maxHeartbeats 4000000 in
theorem untouched_at (l : List Nd) (r2 : List (List D)) (hl : l.length ≤ 1000) : FSpec Tryz.prog T 11 [.lst 56 (l.map nrow) ([mk91, mk92].map nrow), .lst 56 (l.map nrow) r2] (fun d _ => d = .b True) := by
  have h1 : (l.map nrow).length = l.length := by simp
  refine FSpec.of_ok tok Tryz.func11 rfl Tryz.call11 (by simp) ?_
  have hap : l.map nrow ++ [mk91, mk92].map nrow = (l ++ [mk91, mk92]).map nrow := by simp
  have h9 : (l ++ [mk91, mk92])[(((l.map nrow).length : Nat) : Int).toNat]? = some mk91 := by simp
  have h8 : (l ++ [mk91, mk92])[((((l.map nrow).length : Nat) : Int) + 1).toNat]? = some mk92 := by
    rw [show ((((l.map nrow).length : Nat) : Int) + 1).toNat = l.length + 1 by omega]
    simp
  have al := fun a b => alike_at l a b (by omega)
  (try (conv => whnf)); repeat' (first | (refine ⟨(l ++ [mk91, mk92]).map nrow, [], (by simp [List.take_of_length_le]), (by simp), ?_⟩; (conv => whnf)) | (refine ⟨_, eqNode, by kernel_rfl, ?_⟩; (conv => whnf)) | refine Ok.seq ?_ | refine OkL.cons ?_ | ((first | refine Ok.region tok ?_ | refine Ok.region_draw tok follows (by kernel_rfl) ?_ | refine Ok.cond ?_); conv => whnf) | refine Ok.block ?_ | ((first | refine Ok.skip ?_ | refine Ok.exit ?_ | refine Ok.ret ?_ | refine nI ?_ | refine ix _ (by assumption) ?_ | refine ixI (by omega) (by assumption) ?_ | refine ix_new _ (by omega) fun _ _ => ?_ | refine ixI_new (by omega) (by omega) fun _ _ => ?_ | refine ⟨_, by assumption, ?_⟩); conv => whnf) | (refine Or.inl ?_; (conv => whnf); (repeat (refine aI ?_; conv => whnf)); refine ⟨_, al _ _, rfl, ?_⟩; conv => whnf) | (refine ⟨_, al _ _, rfl, ?_⟩; conv => whnf) | (refine Or.inr (Or.inl ?_); (conv => whnf); (repeat (refine aI ?_; conv => whnf)); refine ⟨_, al _ _, ?_⟩; rintro _ _ ⟨rfl, rfl⟩; conv => whnf) | ((first | refine Alt2.l (aI ?_) | refine Alt2.r (aI ?_)); conv => whnf) | (refine Ok.scope ?_) | ((first | refine Ok.label ?_ | refine rd rfl (by assumption) ?_ | refine ⟨_, .inl ⟨rfl, rfl⟩, ?_⟩ | refine ⟨_, _, rfl, rfl, ?_⟩); conv => whnf) | (refine ⟨fun _ => ?_, fun _ => ?_⟩ <;> (conv => whnf) <;> (try (exfalso; omega))) | ((first | refine aJ ?_ | refine num_any ?_ | refine ⟨_, rfl, ?_⟩); conv => whnf) | fail)
  all_goals first
    | exact absurd trivial (by assumption)
    | (rename_i h; exact absurd ⟨rfl, rfl, rfl, rfl, rfl, rfl, rfl, rfl⟩ h)
    | (refine Or.inl ?_; (conv => whnf)
       show D.b _ = D.b True
       congr 1
       exact propext ⟨fun _ => trivial, fun _ => ⟨rfl, rfl, rfl, rfl, rfl, rfl, rfl, rfl⟩⟩)
set_option maxHeartbeats 4000000 in
theorem kept1_at (l : List Fd) (r2 : List (List D)) (hl : l.length ≤ 16) : FSpec Tryz.prog T 12 [.lst 34 (l.map frow) ([mkF].map frow), .lst 34 (l.map frow) r2] (fun d _ => d = .b True) := by
  have h1 : (l.map frow).length = l.length := by simp
  refine FSpec.of_ok tok Tryz.func12 rfl Tryz.call12 (by simp) ?_
  (try (conv => whnf)); repeat' (first | refine Ok.seq ?_ | refine OkL.cons ?_ | ((first | refine Ok.region tok ?_ | refine Ok.region_draw tok follows (by kernel_rfl) ?_ | refine Ok.cond ?_); conv => whnf) | refine Ok.block ?_ | ((first | refine Ok.skip ?_ | refine Ok.exit ?_ | refine Ok.ret ?_ | refine nI ?_ | refine ix _ (by assumption) ?_ | refine ixI (by omega) (by assumption) ?_ | refine ix_new _ (by omega) fun _ _ => ?_ | refine ixI_new (by omega) (by omega) fun _ _ => ?_ | refine ⟨_, by assumption, ?_⟩ | refine Alt2.l (aI ?_) | refine Alt2.r (aI ?_)); conv => whnf) | (refine Ok.scope ?_) | ((first | refine Ok.label ?_ | refine rd rfl (by assumption) ?_ | refine ⟨_, .inl ⟨rfl, rfl⟩, ?_⟩ | refine ⟨_, _, rfl, rfl, ?_⟩); conv => whnf) | (refine ⟨fun _ => ?_, fun _ => ?_⟩ <;> (conv => whnf) <;> (try (exfalso; omega))) | ((first | refine aJ ?_ | refine num_any ?_ | refine ⟨_, rfl, ?_⟩); conv => whnf) | fail)
  refine Ok.loopU [0, 1] [5] 0 0 (fun (i : Nat) => [.i .i64 (i : Nat)]) (fun _ b => b) (fun _ r => r) (fun (i : Nat) => i ≤ l.length) (fun (i : Nat) => l.length - i) (0) (Nat.zero_le _) ?_; (conv => whnf); refine ⟨by ((conv => whnf); first | rfl | (simp [envCat, List.take_of_length_le, nrow, frow]; done) | (simp [envCat, List.take_of_length_le, nrow, frow]; rw [IntKind.wrap_i64]; omega)), ?_⟩
  intro i hi
  (conv => whnf)
  by_cases hil : i < l.length
  · obtain ⟨c, hc⟩ : ∃ c, l[i]? = some c := ⟨_, List.getElem?_eq_getElem hil⟩
    have hcI : l[((i : Nat) : Int).toNat]? = some c := hc
    (try (conv => whnf)); repeat' (first | (refine ⟨_, eqField, by kernel_rfl, ?_⟩; (conv => whnf)) | refine Ok.seq ?_ | refine OkL.cons ?_ | ((first | refine Ok.region tok ?_ | refine Ok.region_draw tok follows (by kernel_rfl) ?_ | refine Ok.cond ?_); conv => whnf) | refine Ok.block ?_ | ((first | refine Ok.skip ?_ | refine Ok.exit ?_ | refine Ok.ret ?_ | refine nI ?_ | refine ix _ (by assumption) ?_ | refine ixI (by omega) (by assumption) ?_ | refine ix_new _ (by omega) fun _ _ => ?_ | refine ixI_new (by omega) (by omega) fun _ _ => ?_ | refine ⟨_, by assumption, ?_⟩ | refine Alt2.l (aI ?_) | refine Alt2.r (aI ?_)); conv => whnf) | (refine Ok.scope ?_) | ((first | refine Ok.label ?_ | refine rd rfl (by assumption) ?_ | refine ⟨_, .inl ⟨rfl, rfl⟩, ?_⟩ | refine ⟨_, _, rfl, rfl, ?_⟩); conv => whnf) | (refine ⟨fun _ => ?_, fun _ => ?_⟩ <;> (conv => whnf) <;> (try (exfalso; omega))) | ((first | refine aJ ?_ | refine num_any ?_ | refine ⟨_, rfl, ?_⟩); conv => whnf) | fail)
    all_goals first
      | (rename_i h; exfalso; simp [eqDs, eqD] at h; done)
      | (exfalso; omega)
      | (refine ⟨i + 1, by omega, by omega, ?_⟩
         (conv => whnf)
         rfl)
  · have hie : i = l.length := by omega
    subst hie
    have h9 : (l ++ [mkF])[(((l.map frow).length : Nat) : Int).toNat]? = some mkF := by simp
    (try (conv => whnf)); repeat' (first | (refine ⟨(l ++ [mkF]).map frow, [], (by simp [List.take_of_length_le]), (by simp), ?_⟩; (conv => whnf)) | (refine ⟨_, eqField, by kernel_rfl, ?_⟩; (conv => whnf)) | refine Ok.seq ?_ | refine OkL.cons ?_ | ((first | refine Ok.region tok ?_ | refine Ok.region_draw tok follows (by kernel_rfl) ?_ | refine Ok.cond ?_); conv => whnf) | refine Ok.block ?_ | ((first | refine Ok.skip ?_ | refine Ok.exit ?_ | refine Ok.ret ?_ | refine nI ?_ | refine ix _ (by assumption) ?_ | refine ixI (by omega) (by assumption) ?_ | refine ix_new _ (by omega) fun _ _ => ?_ | refine ixI_new (by omega) (by omega) fun _ _ => ?_ | refine ⟨_, by assumption, ?_⟩ | refine Alt2.l (aI ?_) | refine Alt2.r (aI ?_)); conv => whnf) | (refine Ok.scope ?_) | ((first | refine Ok.label ?_ | refine rd rfl (by assumption) ?_ | refine ⟨_, .inl ⟨rfl, rfl⟩, ?_⟩ | refine ⟨_, _, rfl, rfl, ?_⟩); conv => whnf) | (refine ⟨fun _ => ?_, fun _ => ?_⟩ <;> (conv => whnf) <;> (try (exfalso; omega))) | ((first | refine aJ ?_ | refine num_any ?_ | refine ⟨_, rfl, ?_⟩); conv => whnf) | fail)
    all_goals first
      | (exfalso; omega)
      | (refine Or.inl ?_; (conv => whnf)
         show D.b _ = D.b True
         congr 1
         exact propext ⟨fun _ => trivial, fun _ => ⟨rfl, rfl⟩⟩)
end Go.Proofs.YtagmibogginaaaaGreatDoor
namespace Go.Proofs.YtagmibogginaaaaGreatDoor
open Go Go.Vx
def Ltr (b : UInt8) : Prop := b.toNat = 95 ∨ (97 ≤ b.toNat ∧ b.toNat ≤ 122) ∨ (65 ≤ b.toNat ∧ b.toNat ≤ 90)
def Dgt (b : UInt8) : Prop := 48 ≤ b.toNat ∧ b.toNat ≤ 57
def nameAt (i : Nat) (b : UInt8) : Prop := Ltr b ∨ (i ≠ 0 ∧ Dgt b)
def NameP (s : Str) : Prop := s ≠ [] ∧ s.length ≤ 24 ∧ ∀ (i : Nat) b, s[i]? = some b → nameAt i b
theorem b_ff {p : Prop} (h : ¬ p) : D.b False = D.b p := by congr 1; exact propext ⟨False.elim, h⟩
theorem b_tt {p : Prop} (h : p) : D.b True = D.b p := by congr 1; exact propext ⟨fun _ => h, fun _ => trivial⟩
theorem name_step {s : Str} {i : Nat} {b : UInt8} (h : ∀ (j : Nat) c, j < i → s[j]? = some c → nameAt j c) (hb : s[i]? = some b) (hn : nameAt i b) : ∀ (j : Nat) c, j < i + 1 → s[j]? = some c → nameAt j c := by
  intro j c hj hc
  by_cases hji : j = i
  · subst hji; rw [hb] at hc; cases hc; exact hn
  · exact h j c (by omega) hc
set_option maxHeartbeats 4000000 in
theorem name_at (s : Str) : FSpec Tryz.prog T 68 [.s s] (fun d _ => d = .b (NameP s)) := by
  refine FSpec.of_ok tok Tryz.func68 rfl Tryz.call68 (by simp) ?_
  (try (conv => whnf)); repeat' (first | refine Ok.seq ?_ | refine OkL.cons ?_ | ((first | refine Ok.region tok ?_ | refine Ok.region_draw tok follows (by kernel_rfl) ?_ | refine Ok.cond ?_); conv => whnf) | refine Ok.block ?_ | ((first | refine Ok.skip ?_ | refine Ok.exit ?_ | refine Ok.ret ?_ | refine nI ?_ | refine ix _ (by assumption) ?_ | refine ixI (by omega) (by assumption) ?_ | refine ix_new _ (by omega) fun _ _ => ?_ | refine ixI_new (by omega) (by omega) fun _ _ => ?_ | refine ⟨_, by assumption, ?_⟩ | refine Alt2.l (aI ?_) | refine Alt2.r (aI ?_)); conv => whnf) | (refine Ok.scope ?_) | ((first | refine Ok.label ?_ | refine rd rfl (by assumption) ?_ | refine ⟨_, .inl ⟨rfl, rfl⟩, ?_⟩ | refine ⟨_, _, rfl, rfl, ?_⟩); conv => whnf) | (refine ⟨fun _ => ?_, fun _ => ?_⟩ <;> (conv => whnf) <;> (try (exfalso; omega))) | ((first | refine aJ ?_ | refine num_any ?_ | refine ⟨_, rfl, ?_⟩); conv => whnf) | fail)
  all_goals first
    | (rename_i h
       refine Or.inl ?_; (conv => whnf)
       exact b_ff fun hn => hn.1 (by simpa using h))
    | (rename_i h
       refine Or.inl ?_; (conv => whnf)
       exact b_ff fun hn => absurd hn.2.1 (by omega))
    | skip
  rename_i h0 h1
  have hne : s ≠ [] := fun e => h0 (by simpa using e)
  have hle : s.length ≤ 24 := by omega
  refine Ok.loopU [0, 14] [15] 0 0 (fun (i : Nat) => [.i .i64 (i : Nat)]) (fun _ b => b) (fun _ r => r) (fun (i : Nat) => i ≤ s.length ∧ ∀ (j : Nat) c, j < i → s[j]? = some c → nameAt j c) (fun (i : Nat) => s.length - i) (0) (⟨Nat.zero_le _, fun j c hj => absurd hj (by omega)⟩) ?_; (conv => whnf); refine ⟨by ((conv => whnf); first | rfl | (simp [envCat, List.take_of_length_le, nrow, frow]; done) | (simp [envCat, List.take_of_length_le, nrow, frow]; rw [IntKind.wrap_i64]; omega)), ?_⟩
  rintro i ⟨hi, hall⟩
  (conv => whnf)
  by_cases hil : i < s.length
  · obtain ⟨b, hb⟩ : ∃ b, s[i]? = some b := ⟨_, List.getElem?_eq_getElem hil⟩
    have hbI : s[((i : Nat) : Int).toNat]? = some b := hb
    have hb255 := b.toNat_lt
    (try (conv => whnf)); repeat' (first | refine Ok.seq ?_ | refine OkL.cons ?_ | ((first | refine Ok.region tok ?_ | refine Ok.region_draw tok follows (by kernel_rfl) ?_ | refine Ok.cond ?_); conv => whnf) | refine Ok.block ?_ | ((first | refine Ok.skip ?_ | refine Ok.exit ?_ | refine Ok.ret ?_ | refine nI ?_ | refine ix _ (by assumption) ?_ | refine ixI (by omega) (by assumption) ?_ | refine ix_new _ (by omega) fun _ _ => ?_ | refine ixI_new (by omega) (by omega) fun _ _ => ?_ | refine ⟨_, by assumption, ?_⟩ | refine Alt2.l (aI ?_) | refine Alt2.r (aI ?_)); conv => whnf) | (refine Ok.scope ?_) | ((first | refine Ok.label ?_ | refine rd rfl (by assumption) ?_ | refine ⟨_, .inl ⟨rfl, rfl⟩, ?_⟩ | refine ⟨_, _, rfl, rfl, ?_⟩); conv => whnf) | (refine ⟨fun _ => ?_, fun _ => ?_⟩ <;> (conv => whnf) <;> (try (exfalso; omega))) | ((first | refine aJ ?_ | refine num_any ?_ | refine ⟨_, rfl, ?_⟩); conv => whnf) | fail)
    all_goals first
      | (exfalso; omega)
      | (refine Or.inl ?_; (conv => whnf)
         refine b_ff fun hn => ?_
         have := hn.2.2 i b hb
         unfold nameAt Ltr Dgt at this
         omega)
      | (refine ⟨i + 1, by omega, ⟨by omega, name_step hall hb ?_⟩, ?_⟩
         · unfold nameAt Ltr Dgt
           omega
         · (conv => whnf)
           rfl)
      | trace_state
  · have hie : i = s.length := by omega
    subst hie
    (try (conv => whnf)); repeat' (first | refine Ok.seq ?_ | refine OkL.cons ?_ | ((first | refine Ok.region tok ?_ | refine Ok.region_draw tok follows (by kernel_rfl) ?_ | refine Ok.cond ?_); conv => whnf) | refine Ok.block ?_ | ((first | refine Ok.skip ?_ | refine Ok.exit ?_ | refine Ok.ret ?_ | refine nI ?_ | refine ix _ (by assumption) ?_ | refine ixI (by omega) (by assumption) ?_ | refine ix_new _ (by omega) fun _ _ => ?_ | refine ixI_new (by omega) (by omega) fun _ _ => ?_ | refine ⟨_, by assumption, ?_⟩ | refine Alt2.l (aI ?_) | refine Alt2.r (aI ?_)); conv => whnf) | (refine Ok.scope ?_) | ((first | refine Ok.label ?_ | refine rd rfl (by assumption) ?_ | refine ⟨_, .inl ⟨rfl, rfl⟩, ?_⟩ | refine ⟨_, _, rfl, rfl, ?_⟩); conv => whnf) | (refine ⟨fun _ => ?_, fun _ => ?_⟩ <;> (conv => whnf) <;> (try (exfalso; omega))) | ((first | refine aJ ?_ | refine num_any ?_ | refine ⟨_, rfl, ?_⟩); conv => whnf) | fail)
    all_goals first
      | (exfalso; omega)
      | (refine Or.inl ?_; (conv => whnf)
         exact b_tt ⟨hne, hle, fun j c hc => hall j c (List.getElem?_eq_some_iff.1 hc).1 hc⟩)
      | trace_state
set_option maxHeartbeats 4000000 in
theorem rname_at (s : Str) : FSpec Tryz.prog T 40 [.s s] (fun d _ => d = .b (NameP s)) := by
  refine FSpec.of_ok tok Tryz.func40 rfl Tryz.call40 (by simp) ?_
  (try (conv => whnf)); repeat' (first | refine Ok.seq ?_ | refine OkL.cons ?_ | ((first | refine Ok.region tok ?_ | refine Ok.region_draw tok follows (by kernel_rfl) ?_ | refine Ok.cond ?_); conv => whnf) | refine Ok.block ?_ | ((first | refine Ok.skip ?_ | refine Ok.exit ?_ | refine Ok.ret ?_ | refine nI ?_ | refine ix _ (by assumption) ?_ | refine ixI (by omega) (by assumption) ?_ | refine ix_new _ (by omega) fun _ _ => ?_ | refine ixI_new (by omega) (by omega) fun _ _ => ?_ | refine ⟨_, by assumption, ?_⟩ | refine Alt2.l (aI ?_) | refine Alt2.r (aI ?_)); conv => whnf) | (refine Ok.scope ?_) | ((first | refine Ok.label ?_ | refine rd rfl (by assumption) ?_ | refine ⟨_, .inl ⟨rfl, rfl⟩, ?_⟩ | refine ⟨_, _, rfl, rfl, ?_⟩); conv => whnf) | (refine ⟨fun _ => ?_, fun _ => ?_⟩ <;> (conv => whnf) <;> (try (exfalso; omega))) | ((first | refine aJ ?_ | refine num_any ?_ | refine ⟨_, rfl, ?_⟩); conv => whnf) | fail)
  all_goals first
    | (rename_i h
       refine Or.inl ?_; (conv => whnf)
       exact b_ff fun hn => hn.1 (by simpa using h))
    | (rename_i h
       refine Or.inl ?_; (conv => whnf)
       exact b_ff fun hn => absurd hn.2.1 (by omega))
    | skip
  rename_i h0 h1
  have hne : s ≠ [] := fun e => h0 (by simpa using e)
  have hle : s.length ≤ 24 := by omega
  refine Ok.loopU [0] [3] 0 0 (fun (i : Nat) => [.i .i64 (i : Nat)]) (fun _ b => b) (fun _ r => r) (fun (i : Nat) => i ≤ s.length ∧ ∀ (j : Nat) c, j < i → s[j]? = some c → nameAt j c) (fun (i : Nat) => s.length - i) (0) (⟨Nat.zero_le _, fun j c hj => absurd hj (by omega)⟩) ?_; (conv => whnf); refine ⟨by ((conv => whnf); first | rfl | (simp [envCat, List.take_of_length_le, nrow, frow]; done) | (simp [envCat, List.take_of_length_le, nrow, frow]; rw [IntKind.wrap_i64]; omega)), ?_⟩
  rintro i ⟨hi, hall⟩
  (conv => whnf)
  by_cases hil : i < s.length
  · obtain ⟨b, hb⟩ : ∃ b, s[i]? = some b := ⟨_, List.getElem?_eq_getElem hil⟩
    have hbI : s[((i : Nat) : Int).toNat]? = some b := hb
    have hb255 := b.toNat_lt
    (try (conv => whnf)); repeat' (first | refine Ok.seq ?_ | refine OkL.cons ?_ | ((first | refine Ok.region tok ?_ | refine Ok.region_draw tok follows (by kernel_rfl) ?_ | refine Ok.cond ?_); conv => whnf) | refine Ok.block ?_ | ((first | refine Ok.skip ?_ | refine Ok.exit ?_ | refine Ok.ret ?_ | refine nI ?_ | refine ix _ (by assumption) ?_ | refine ixI (by omega) (by assumption) ?_ | refine ix_new _ (by omega) fun _ _ => ?_ | refine ixI_new (by omega) (by omega) fun _ _ => ?_ | refine ⟨_, by assumption, ?_⟩ | refine Alt2.l (aI ?_) | refine Alt2.r (aI ?_)); conv => whnf) | (refine Ok.scope ?_) | ((first | refine Ok.label ?_ | refine rd rfl (by assumption) ?_ | refine ⟨_, .inl ⟨rfl, rfl⟩, ?_⟩ | refine ⟨_, _, rfl, rfl, ?_⟩); conv => whnf) | (refine ⟨fun _ => ?_, fun _ => ?_⟩ <;> (conv => whnf) <;> (try (exfalso; omega))) | ((first | refine aJ ?_ | refine num_any ?_ | refine ⟨_, rfl, ?_⟩); conv => whnf) | fail)
    all_goals first
      | (exfalso; omega)
      | (refine Or.inl ?_; (conv => whnf)
         refine b_ff fun hn => ?_
         have := hn.2.2 i b hb
         unfold nameAt Ltr Dgt at this
         omega)
      | (refine ⟨i + 1, by omega, ⟨by omega, name_step hall hb ?_⟩, ?_⟩
         · unfold nameAt Ltr Dgt
           omega
         · (conv => whnf)
           rfl)
      | trace_state
  · have hie : i = s.length := by omega
    subst hie
    (try (conv => whnf)); repeat' (first | refine Ok.seq ?_ | refine OkL.cons ?_ | ((first | refine Ok.region tok ?_ | refine Ok.region_draw tok follows (by kernel_rfl) ?_ | refine Ok.cond ?_); conv => whnf) | refine Ok.block ?_ | ((first | refine Ok.skip ?_ | refine Ok.exit ?_ | refine Ok.ret ?_ | refine nI ?_ | refine ix _ (by assumption) ?_ | refine ixI (by omega) (by assumption) ?_ | refine ix_new _ (by omega) fun _ _ => ?_ | refine ixI_new (by omega) (by omega) fun _ _ => ?_ | refine ⟨_, by assumption, ?_⟩ | refine Alt2.l (aI ?_) | refine Alt2.r (aI ?_)); conv => whnf) | (refine Ok.scope ?_) | ((first | refine Ok.label ?_ | refine rd rfl (by assumption) ?_ | refine ⟨_, .inl ⟨rfl, rfl⟩, ?_⟩ | refine ⟨_, _, rfl, rfl, ?_⟩); conv => whnf) | (refine ⟨fun _ => ?_, fun _ => ?_⟩ <;> (conv => whnf) <;> (try (exfalso; omega))) | ((first | refine aJ ?_ | refine num_any ?_ | refine ⟨_, rfl, ?_⟩); conv => whnf) | fail)
    all_goals first
      | (exfalso; omega)
      | (refine Or.inl ?_; (conv => whnf)
         exact b_tt ⟨hne, hle, fun j c hc => hall j c (List.getElem?_eq_some_iff.1 hc).1 hc⟩)
      | trace_state
end Go.Proofs.YtagmibogginaaaaGreatDoor
namespace Go.Proofs.YtagmibogginaaaaGreatDoor
open Go Go.Vx
theorem fdrop_at {α : Type} {l : List α} {i : Nat} {x : α} (h : l[i]? = some x) : l.drop i = x :: l.drop (i + 1) := by
  obtain ⟨h1, rfl⟩ := List.getElem?_eq_some_iff.1 h
  exact List.drop_eq_getElem_cons h1
def findI (nm : Str) : List Fd → Nat → Int
  | [], _ => -1
  | f :: l, k => if f.name = nm then (k : Int) else findI nm l (k + 1)
theorem findI_ge (nm : Str) : ∀ (l : List Fd) (k : Nat), (0 ≤ findI nm l k ↔ ∃ f ∈ l, f.name = nm) ∧ -1 ≤ findI nm l k ∧ findI nm l k < (k + l.length : Nat)
  | [], k => by simp [findI]; omega
  | f :: l, k => by
    unfold findI
    split
    · rename_i h
      refine ⟨⟨fun _ => ⟨f, by simp, h⟩, fun _ => by omega⟩, by omega, by simp; omega⟩
    · rename_i h
      obtain ⟨h1, h2, h3⟩ := findI_ge nm l (k + 1)
      refine ⟨h1.trans ⟨fun ⟨g, hg, e⟩ => ⟨g, by simp [hg], e⟩, fun ⟨g, hg, e⟩ => ?_⟩, h2, by simp at h3 ⊢; omega⟩
      rcases List.mem_cons.1 hg with rfl | hg
      · exact absurd e h
      · exact ⟨g, hg, e⟩
set_option maxHeartbeats 4000000 in
theorem find_at (l : List Fd) (r : List (List D)) (nm : Str) (hl : l.length ≤ 1000) : FSpec Tryz.prog T 69 [.lst 34 (l.map frow) r, .s nm] (fun d _ => d = .i .i64 (findI nm l 0)) := by
  have h1 : (l.map frow).length = l.length := by simp
  refine FSpec.of_ok tok Tryz.func69 rfl Tryz.call69 (by simp) ?_
  (try (conv => whnf)); repeat' (first | refine Ok.seq ?_ | refine OkL.cons ?_ | ((first | refine Ok.region tok ?_ | refine Ok.region_draw tok follows (by kernel_rfl) ?_ | refine Ok.cond ?_); conv => whnf) | refine Ok.block ?_ | ((first | refine Ok.skip ?_ | refine Ok.exit ?_ | refine Ok.ret ?_ | refine nI ?_ | refine ix _ (by assumption) ?_ | refine ixI (by omega) (by assumption) ?_ | refine ix_new _ (by omega) fun _ _ => ?_ | refine ixI_new (by omega) (by omega) fun _ _ => ?_ | refine ⟨_, by assumption, ?_⟩ | refine Alt2.l (aI ?_) | refine Alt2.r (aI ?_)); conv => whnf) | (refine Ok.scope ?_) | ((first | refine Ok.label ?_ | refine rd rfl (by assumption) ?_ | refine ⟨_, .inl ⟨rfl, rfl⟩, ?_⟩ | refine ⟨_, _, rfl, rfl, ?_⟩); conv => whnf) | (refine ⟨fun _ => ?_, fun _ => ?_⟩ <;> (conv => whnf) <;> (try (exfalso; omega))) | ((first | refine aJ ?_ | refine num_any ?_ | refine ⟨_, rfl, ?_⟩); conv => whnf) | fail)
  refine Ok.loopU [1, 7, 8] [9] 0 0 (fun (i : Nat) => [.i .i64 (i : Nat)]) (fun _ b => b) (fun _ r => r) (fun (i : Nat) => i ≤ l.length ∧ findI nm l 0 = findI nm (l.drop i) i) (fun (i : Nat) => l.length - i) (0) (⟨Nat.zero_le _, rfl⟩) ?_; (conv => whnf); refine ⟨by ((conv => whnf); first | rfl | (simp [envCat, List.take_of_length_le, nrow, frow]; done) | (simp [envCat, List.take_of_length_le, nrow, frow]; rw [IntKind.wrap_i64]; omega)), ?_⟩
  rintro i ⟨hi, hf⟩
  (conv => whnf)
  by_cases hil : i < l.length
  · obtain ⟨c, hc⟩ : ∃ c, l[i]? = some c := ⟨_, List.getElem?_eq_getElem hil⟩
    have hcI : l[((i : Nat) : Int).toNat]? = some c := hc
    rw [fdrop_at hc] at hf
    (try (conv => whnf)); repeat' (first | refine Ok.seq ?_ | refine OkL.cons ?_ | ((first | refine Ok.region tok ?_ | refine Ok.region_draw tok follows (by kernel_rfl) ?_ | refine Ok.cond ?_); conv => whnf) | refine Ok.block ?_ | ((first | refine Ok.skip ?_ | refine Ok.exit ?_ | refine Ok.ret ?_ | refine nI ?_ | refine ix _ (by assumption) ?_ | refine ixI (by omega) (by assumption) ?_ | refine ix_new _ (by omega) fun _ _ => ?_ | refine ixI_new (by omega) (by omega) fun _ _ => ?_ | refine ⟨_, by assumption, ?_⟩ | refine Alt2.l (aI ?_) | refine Alt2.r (aI ?_)); conv => whnf) | (refine Ok.scope ?_) | ((first | refine Ok.label ?_ | refine rd rfl (by assumption) ?_ | refine ⟨_, .inl ⟨rfl, rfl⟩, ?_⟩ | refine ⟨_, _, rfl, rfl, ?_⟩); conv => whnf) | (refine ⟨fun _ => ?_, fun _ => ?_⟩ <;> (conv => whnf) <;> (try (exfalso; omega))) | ((first | refine aJ ?_ | refine num_any ?_ | refine ⟨_, rfl, ?_⟩); conv => whnf) | fail)
    all_goals first
      | (exfalso; omega)
      | (rename_i h
         refine Or.inl ?_; (conv => whnf)
         rw [hf]
         unfold findI
         rw [if_pos h]
         rfl)
      | (rename_i h
         refine ⟨i + 1, by omega, ⟨by omega, ?_⟩, ?_⟩
         · rw [hf]
           conv => lhs; unfold findI
           rw [if_neg h]
         · (conv => whnf)
           rfl)
      | trace_state
  · have hie : i = l.length := by omega
    subst hie
    rw [List.drop_length] at hf
    (try (conv => whnf)); repeat' (first | refine Ok.seq ?_ | refine OkL.cons ?_ | ((first | refine Ok.region tok ?_ | refine Ok.region_draw tok follows (by kernel_rfl) ?_ | refine Ok.cond ?_); conv => whnf) | refine Ok.block ?_ | ((first | refine Ok.skip ?_ | refine Ok.exit ?_ | refine Ok.ret ?_ | refine nI ?_ | refine ix _ (by assumption) ?_ | refine ixI (by omega) (by assumption) ?_ | refine ix_new _ (by omega) fun _ _ => ?_ | refine ixI_new (by omega) (by omega) fun _ _ => ?_ | refine ⟨_, by assumption, ?_⟩ | refine Alt2.l (aI ?_) | refine Alt2.r (aI ?_)); conv => whnf) | (refine Ok.scope ?_) | ((first | refine Ok.label ?_ | refine rd rfl (by assumption) ?_ | refine ⟨_, .inl ⟨rfl, rfl⟩, ?_⟩ | refine ⟨_, _, rfl, rfl, ?_⟩); conv => whnf) | (refine ⟨fun _ => ?_, fun _ => ?_⟩ <;> (conv => whnf) <;> (try (exfalso; omega))) | ((first | refine aJ ?_ | refine num_any ?_ | refine ⟨_, rfl, ?_⟩); conv => whnf) | fail)
    all_goals first
      | (exfalso; omega)
      | (refine Or.inl ?_; (conv => whnf)
         rw [hf]
         rfl)
      | trace_state
def badF (pre : List Fd) (f : Fd) (sum : Int) : Prop :=
  ¬ NameP f.name ∨ f.name = [97, 110, 121] ∨ f.name = [110, 111, 110, 101] ∨ (∃ g ∈ pre, g.name = f.name) ∨ f.bits < 1 ∨ 32 < f.bits ∨ 256 < sum + f.bits
open Classical in
noncomputable def chkFrom (all : List Fd) : List Fd → Nat → Int → Int × Int
  | [], _, _ => (0, 0)
  | f :: r, i, sum => if badF (all.take i) f sum then (40, (i : Int)) else chkFrom all r (i + 1) (sum + f.bits)
noncomputable def chkO (l : List Fd) : Int × Int := if 12 < l.length then (2, 0) else if l = [] then (40, 0) else chkFrom l l 0 0
theorem chkFrom_bad {all : List Fd} {f : Fd} {r : List Fd} {i : Nat} {sum : Int} (h : badF (all.take i) f sum) : chkFrom all (f :: r) i sum = (40, (i : Int)) := by unfold chkFrom; rw [if_pos h]
theorem chkFrom_ok {all : List Fd} {f : Fd} {r : List Fd} {i : Nat} {sum : Int} (h : ¬ badF (all.take i) f sum) : chkFrom all (f :: r) i sum = chkFrom all r (i + 1) (sum + f.bits) := by conv => lhs; unfold chkFrom; rw [if_neg h]
theorem chkO_long {l : List Fd} (h : 12 < l.length) : chkO l = (2, 0) := by unfold chkO; rw [if_pos h]
theorem chkO_nil {l : List Fd} (h : l.length = 0) : chkO l = (40, 0) := by unfold chkO; rw [if_neg (by omega), if_pos (List.eq_nil_of_length_eq_zero h)]
theorem chkO_of {l : List Fd} (h : ¬ 12 < l.length) (h2 : l.length ≠ 0) : chkO l = chkFrom l l 0 0 := by unfold chkO; rw [if_neg h, if_neg (fun e => h2 (by rw [e]; rfl))]
set_option maxHeartbeats 8000000 in
theorem check_at (l : List Fd) (r : List (List D)) (hl : l.length ≤ 1000) : FSpec Tryz.prog T 37 [.lst 34 (l.map frow) r] (fun d _ => d = .tup [.i .i64 (chkO l).1, .i .i64 (chkO l).2]) := by
  have h1 : (l.map frow).length = l.length := by simp
  refine FSpec.of_ok tok Tryz.func37 rfl Tryz.call37 (by simp) ?_
  (try (conv => whnf)); repeat' (first | refine Ok.seq ?_ | refine OkL.cons ?_ | ((first | refine Ok.region tok ?_ | refine Ok.region_draw tok follows (by kernel_rfl) ?_ | refine Ok.cond ?_); conv => whnf) | refine Ok.block ?_ | ((first | refine Ok.skip ?_ | refine Ok.exit ?_ | refine Ok.ret ?_ | refine nI ?_ | refine ix _ (by assumption) ?_ | refine ixI (by omega) (by assumption) ?_ | refine ix_new _ (by omega) fun _ _ => ?_ | refine ixI_new (by omega) (by omega) fun _ _ => ?_ | refine ⟨_, by assumption, ?_⟩ | refine Alt2.l (aI ?_) | refine Alt2.r (aI ?_)); conv => whnf) | (refine Ok.scope ?_) | ((first | refine Ok.label ?_ | refine rd rfl (by assumption) ?_ | refine ⟨_, .inl ⟨rfl, rfl⟩, ?_⟩ | refine ⟨_, _, rfl, rfl, ?_⟩); conv => whnf) | (refine ⟨fun _ => ?_, fun _ => ?_⟩ <;> (conv => whnf) <;> (try (exfalso; omega))) | ((first | refine aJ ?_ | refine num_any ?_ | refine ⟨_, rfl, ?_⟩); conv => whnf) | fail)
  all_goals first
    | (rename_i h
       refine Or.inl ?_; (conv => whnf)
       rw [chkO_long (by omega)]
       rfl)
    | (rename_i h
       refine Or.inl ?_; (conv => whnf)
       rw [chkO_nil (by omega)]
       rfl)
    | skip
  rename_i h2 h3
  rw [chkO_of (by omega) (by omega)]
  refine Ok.loopU [0, 13, 14] [4, 15] 0 0 (fun (x : Nat × Int) => [.i .i64 x.2, .i .i64 (x.1 : Nat)]) (fun _ b => b) (fun _ r => r) (fun (x : Nat × Int) => x.1 ≤ l.length ∧ 0 ≤ x.2 ∧ x.2 ≤ 256 ∧ chkFrom l l 0 0 = chkFrom l (l.drop x.1) x.1 x.2) (fun (x : Nat × Int) => l.length - x.1) ((0, 0)) (⟨Nat.zero_le _, by omega, by omega, rfl⟩) ?_; (conv => whnf); refine ⟨by ((conv => whnf); first | rfl | (simp [envCat, List.take_of_length_le, nrow, frow]; done) | (simp [envCat, List.take_of_length_le, nrow, frow]; rw [IntKind.wrap_i64]; omega)), ?_⟩
  rintro ⟨i, sum⟩ ⟨hi, hs0, hs1, hf⟩
  dsimp only at hi hs0 hs1 hf ⊢
  (conv => whnf)
  by_cases hil : i < l.length
  · obtain ⟨c, hc⟩ : ∃ c, l[i]? = some c := ⟨_, List.getElem?_eq_getElem hil⟩
    have hcI : l[((i : Nat) : Int).toNat]? = some c := hc
    rw [fdrop_at hc] at hf
    have hfg := findI_ge c.name (l.take i) 0
    have hfa := fun r => find_at (l.take i) r c.name (by simp; omega)
    have hmt : (l.take i).map frow = ((l.map frow ++ r).take i).drop 0 := by rw [List.drop_zero, List.take_append_of_le_length (by omega), List.map_take]
    (try (conv => whnf)); repeat' (first | (refine ⟨(l.take i).map frow, _, hmt, rfl, ?_⟩; (conv => whnf)) | refine Ok.seq ?_ | refine OkL.cons ?_ | ((first | refine Ok.region tok ?_ | refine Ok.region_draw tok follows (by kernel_rfl) ?_ | refine Ok.cond ?_); conv => whnf) | refine Ok.block ?_ | ((first | refine Ok.skip ?_ | refine Ok.exit ?_ | refine Ok.ret ?_ | refine nI ?_ | refine ix _ (by assumption) ?_ | refine ixI (by omega) (by assumption) ?_ | refine ix_new _ (by omega) fun _ _ => ?_ | refine ixI_new (by omega) (by omega) fun _ _ => ?_ | refine ⟨_, by assumption, ?_⟩); conv => whnf) | (refine Or.inl ?_; (conv => whnf); (repeat (refine aI ?_; conv => whnf)); refine ⟨_, name_at c.name, rfl, ?_⟩; conv => whnf) | (refine Or.inl ?_; (conv => whnf); (repeat (refine aI ?_; conv => whnf)); refine ⟨_, hfa _, rfl, ?_⟩; conv => whnf) | ((first | refine ⟨_, name_at c.name, rfl, ?_⟩ | refine ⟨_, hfa _, rfl, ?_⟩); conv => whnf) | (refine Or.inr (Or.inl ?_); (conv => whnf); (repeat (refine aI ?_; conv => whnf)); refine ⟨_, name_at c.name, ?_⟩; rintro _ _ ⟨rfl, rfl⟩; conv => whnf) | (refine Or.inr (Or.inl ?_); (conv => whnf); (repeat (refine aI ?_; conv => whnf)); refine ⟨_, hfa _, ?_⟩; rintro _ _ ⟨rfl, rfl⟩; conv => whnf) | ((first | refine Alt2.l (aI ?_) | refine Alt2.r (aI ?_)); conv => whnf) | (refine Ok.scope ?_) | ((first | refine Ok.label ?_ | refine rd rfl (by assumption) ?_ | refine ⟨_, .inl ⟨rfl, rfl⟩, ?_⟩ | refine ⟨_, _, rfl, rfl, ?_⟩); conv => whnf) | (refine ⟨fun _ => ?_, fun _ => ?_⟩ <;> (conv => whnf) <;> (try (exfalso; omega))) | ((first | refine aJ ?_ | refine num_any ?_ | refine ⟨_, rfl, ?_⟩); conv => whnf) | fail)
    all_goals first
      | (exfalso; omega)
      | (refine Or.inl ?_; (conv => whnf)
         rw [hf, chkFrom_bad (show badF (l.take i) c sum from by
           unfold badF
           first
             | exact .inl (by assumption)
             | exact .inr (.inl (by assumption))
             | exact .inr (.inr (.inl (by assumption)))
             | exact .inr (.inr (.inr (.inl (hfg.1.1 (by assumption)))))
             | exact .inr (.inr (.inr (.inr (by omega)))))]
         rfl)
      | skip
    all_goals
      refine ⟨(i + 1, sum + c.bits), by dsimp only; omega, ⟨by dsimp only; omega, by dsimp only; omega, by dsimp only; omega, ?_⟩, ?_⟩
    · rw [hf]
      refine chkFrom_ok fun hb => ?_
      rcases hb with h | h | h | h | h
      · exact absurd h (by assumption)
      · exact absurd h (by assumption)
      · exact absurd h (by assumption)
      · exact absurd (hfg.1.2 h) (by assumption)
      · omega
    · (conv => whnf)
      rfl
  · have hie : i = l.length := by omega
    subst hie
    rw [List.drop_length] at hf
    (try (conv => whnf)); repeat' (first | refine Ok.seq ?_ | refine OkL.cons ?_ | ((first | refine Ok.region tok ?_ | refine Ok.region_draw tok follows (by kernel_rfl) ?_ | refine Ok.cond ?_); conv => whnf) | refine Ok.block ?_ | ((first | refine Ok.skip ?_ | refine Ok.exit ?_ | refine Ok.ret ?_ | refine nI ?_ | refine ix _ (by assumption) ?_ | refine ixI (by omega) (by assumption) ?_ | refine ix_new _ (by omega) fun _ _ => ?_ | refine ixI_new (by omega) (by omega) fun _ _ => ?_ | refine ⟨_, by assumption, ?_⟩ | refine Alt2.l (aI ?_) | refine Alt2.r (aI ?_)); conv => whnf) | (refine Ok.scope ?_) | ((first | refine Ok.label ?_ | refine rd rfl (by assumption) ?_ | refine ⟨_, .inl ⟨rfl, rfl⟩, ?_⟩ | refine ⟨_, _, rfl, rfl, ?_⟩); conv => whnf) | (refine ⟨fun _ => ?_, fun _ => ?_⟩ <;> (conv => whnf) <;> (try (exfalso; omega))) | ((first | refine aJ ?_ | refine num_any ?_ | refine ⟨_, rfl, ?_⟩); conv => whnf) | fail)
    all_goals first
      | (exfalso; omega)
      | (refine Or.inl ?_; (conv => whnf)
         rw [hf]
         rfl)
      | trace_state
set_option maxHeartbeats 8000000 in
theorem rcheck_at (l : List Fd) (r : List (List D)) (hl : l.length ≤ 1000) : FSpec Tryz.prog T 21 [.lst 34 (l.map frow) r] (fun d _ => d = .tup [.i .i64 (chkO l).1, .i .i64 (chkO l).2]) := by
  have h1 : (l.map frow).length = l.length := by simp
  refine FSpec.of_ok tok Tryz.func21 rfl Tryz.call21 (by simp) ?_
  (try (conv => whnf)); repeat' (first | refine Ok.seq ?_ | refine OkL.cons ?_ | ((first | refine Ok.region tok ?_ | refine Ok.region_draw tok follows (by kernel_rfl) ?_ | refine Ok.cond ?_); conv => whnf) | refine Ok.block ?_ | ((first | refine Ok.skip ?_ | refine Ok.exit ?_ | refine Ok.ret ?_ | refine nI ?_ | refine ix _ (by assumption) ?_ | refine ixI (by omega) (by assumption) ?_ | refine ix_new _ (by omega) fun _ _ => ?_ | refine ixI_new (by omega) (by omega) fun _ _ => ?_ | refine ⟨_, by assumption, ?_⟩ | refine Alt2.l (aI ?_) | refine Alt2.r (aI ?_)); conv => whnf) | (refine Ok.scope ?_) | ((first | refine Ok.label ?_ | refine rd rfl (by assumption) ?_ | refine ⟨_, .inl ⟨rfl, rfl⟩, ?_⟩ | refine ⟨_, _, rfl, rfl, ?_⟩); conv => whnf) | (refine ⟨fun _ => ?_, fun _ => ?_⟩ <;> (conv => whnf) <;> (try (exfalso; omega))) | ((first | refine aJ ?_ | refine num_any ?_ | refine ⟨_, rfl, ?_⟩); conv => whnf) | fail)
  all_goals first
    | (rename_i h
       refine Or.inl ?_; (conv => whnf)
       rw [chkO_long (by omega)]
       rfl)
    | (rename_i h
       refine Or.inl ?_; (conv => whnf)
       rw [chkO_nil (by omega)]
       rfl)
    | skip
  rename_i h2 h3
  rw [chkO_of (by omega) (by omega)]
  refine Ok.loopU [0] [4, 5] 0 0 (fun (x : Nat × Int) => [.i .i64 x.2, .i .i64 (x.1 : Nat)]) (fun _ b => b) (fun _ r => r) (fun (x : Nat × Int) => x.1 ≤ l.length ∧ 0 ≤ x.2 ∧ x.2 ≤ 256 ∧ chkFrom l l 0 0 = chkFrom l (l.drop x.1) x.1 x.2) (fun (x : Nat × Int) => l.length - x.1) ((0, 0)) (⟨Nat.zero_le _, by omega, by omega, rfl⟩) ?_; (conv => whnf); refine ⟨by ((conv => whnf); first | rfl | (simp [envCat, List.take_of_length_le, nrow, frow]; done) | (simp [envCat, List.take_of_length_le, nrow, frow]; rw [IntKind.wrap_i64]; omega)), ?_⟩
  rintro ⟨i, sum⟩ ⟨hi, hs0, hs1, hf⟩
  dsimp only at hi hs0 hs1 hf ⊢
  (conv => whnf)
  by_cases hil : i < l.length
  · obtain ⟨c, hc⟩ : ∃ c, l[i]? = some c := ⟨_, List.getElem?_eq_getElem hil⟩
    have hcI : l[((i : Nat) : Int).toNat]? = some c := hc
    rw [fdrop_at hc] at hf
    (try (conv => whnf)); repeat' (first | refine Ok.seq ?_ | refine OkL.cons ?_ | ((first | refine Ok.region tok ?_ | refine Ok.region_draw tok follows (by kernel_rfl) ?_ | refine Ok.cond ?_); conv => whnf) | refine Ok.block ?_ | ((first | refine Ok.skip ?_ | refine Ok.exit ?_ | refine Ok.ret ?_ | refine nI ?_ | refine ix _ (by assumption) ?_ | refine ixI (by omega) (by assumption) ?_ | refine ix_new _ (by omega) fun _ _ => ?_ | refine ixI_new (by omega) (by omega) fun _ _ => ?_ | refine ⟨_, by assumption, ?_⟩); conv => whnf) | (refine Or.inl ?_; (conv => whnf); (repeat (refine aI ?_; conv => whnf)); refine ⟨_, rname_at c.name, rfl, ?_⟩; conv => whnf) | (refine ⟨_, rname_at c.name, rfl, ?_⟩; conv => whnf) | (refine Or.inr (Or.inl ?_); (conv => whnf); (repeat (refine aI ?_; conv => whnf)); refine ⟨_, rname_at c.name, ?_⟩; rintro _ _ ⟨rfl, rfl⟩; conv => whnf) | ((first | refine Alt2.l (aI ?_) | refine Alt2.r (aI ?_)); conv => whnf) | (refine Ok.scope ?_) | ((first | refine Ok.label ?_ | refine rd rfl (by assumption) ?_ | refine ⟨_, .inl ⟨rfl, rfl⟩, ?_⟩ | refine ⟨_, _, rfl, rfl, ?_⟩); conv => whnf) | (refine ⟨fun _ => ?_, fun _ => ?_⟩ <;> (conv => whnf) <;> (try (exfalso; omega))) | ((first | refine aJ ?_ | refine num_any ?_ | refine ⟨_, rfl, ?_⟩); conv => whnf) | fail)
    all_goals first
      | (exfalso; omega)
      | (refine Or.inl ?_; (conv => whnf)
         rw [hf, chkFrom_bad (show badF (l.take i) c sum from by
           unfold badF
           first
             | exact .inl (by assumption)
             | exact .inr (.inl (by assumption))
             | exact .inr (.inr (.inl (by assumption)))
             | exact .inr (.inr (.inr (.inr (by omega)))))]
         rfl)
      | skip
    rename_i hn1 hn2 hn3 hn4 hn5
    refine Ok.loopU [0, 4, 5, 6] [8] 0 1 (fun (k : Nat) => [.i .i64 (k : Nat)]) (fun (k : Nat) (_ : List (List D)) => [frow c]) (fun _ r => r) (fun (k : Nat) => k ≤ i ∧ ∀ (j : Nat) g, j < k → l[j]? = some g → g.name ≠ c.name) (fun (k : Nat) => i - k) (0) (⟨Nat.zero_le _, fun j g hj => absurd hj (by omega)⟩) ?_; (conv => whnf); refine ⟨by ((conv => whnf); first | rfl | (simp [envCat, List.take_of_length_le, nrow, frow]; done) | (simp [envCat, List.take_of_length_le, nrow, frow]; rw [IntKind.wrap_i64]; omega)), ?_⟩
    rintro k ⟨hk, hall⟩
    (conv => whnf)
    by_cases hki : k < i
    · obtain ⟨g, hg⟩ : ∃ g, l[k]? = some g := ⟨_, List.getElem?_eq_getElem (by omega)⟩
      have hgI : l[((k : Nat) : Int).toNat]? = some g := hg
      (try (conv => whnf)); repeat' (first | refine Ok.seq ?_ | refine OkL.cons ?_ | ((first | refine Ok.region tok ?_ | refine Ok.region_draw tok follows (by kernel_rfl) ?_ | refine Ok.cond ?_); conv => whnf) | refine Ok.block ?_ | ((first | refine Ok.skip ?_ | refine Ok.exit ?_ | refine Ok.ret ?_ | refine nI ?_ | refine ix _ (by assumption) ?_ | refine ixI (by omega) (by assumption) ?_ | refine ix_new _ (by omega) fun _ _ => ?_ | refine ixI_new (by omega) (by omega) fun _ _ => ?_ | refine ⟨_, by assumption, ?_⟩ | refine Alt2.l (aI ?_) | refine Alt2.r (aI ?_)); conv => whnf) | (refine Ok.scope ?_) | ((first | refine Ok.label ?_ | refine rd rfl (by assumption) ?_ | refine ⟨_, .inl ⟨rfl, rfl⟩, ?_⟩ | refine ⟨_, _, rfl, rfl, ?_⟩); conv => whnf) | (refine ⟨fun _ => ?_, fun _ => ?_⟩ <;> (conv => whnf) <;> (try (exfalso; omega))) | ((first | refine aJ ?_ | refine num_any ?_ | refine ⟨_, rfl, ?_⟩); conv => whnf) | fail)
      all_goals first
        | (exfalso; omega)
        | (rename_i h
           refine Or.inl ?_; (conv => whnf)
           rw [hf, chkFrom_bad (.inr (.inr (.inr (.inl ⟨g, List.mem_of_getElem? (i := k) (by rw [List.getElem?_take_of_lt hki]; exact hg), h⟩))))]
           rfl)
        | (rename_i h
           refine ⟨k + 1, by omega, ⟨by omega, fun j g2 hj hg2 => ?_⟩, ?_⟩
           · by_cases hjk : j = k
             · subst hjk; rw [hg] at hg2; cases hg2; exact h
             · exact hall j g2 (by omega) hg2
           · (conv => whnf)
             rfl)
    · have hke : k = i := by omega
      subst hke
      have hno : ¬ ∃ g ∈ l.take k, g.name = c.name := by
        rintro ⟨g, hg, e⟩
        obtain ⟨j, hj⟩ := List.getElem?_of_mem hg
        have hjk : j < k := by have := (List.getElem?_eq_some_iff.1 hj).1; simp at this; omega
        rw [List.getElem?_take_of_lt hjk] at hj
        exact hall j g hjk hj e
      (try (conv => whnf)); repeat' (first | refine Ok.seq ?_ | refine OkL.cons ?_ | ((first | refine Ok.region tok ?_ | refine Ok.region_draw tok follows (by kernel_rfl) ?_ | refine Ok.cond ?_); conv => whnf) | refine Ok.block ?_ | ((first | refine Ok.skip ?_ | refine Ok.exit ?_ | refine Ok.ret ?_ | refine nI ?_ | refine ix _ (by assumption) ?_ | refine ixI (by omega) (by assumption) ?_ | refine ix_new _ (by omega) fun _ _ => ?_ | refine ixI_new (by omega) (by omega) fun _ _ => ?_ | refine ⟨_, by assumption, ?_⟩ | refine Alt2.l (aI ?_) | refine Alt2.r (aI ?_)); conv => whnf) | (refine Ok.scope ?_) | ((first | refine Ok.label ?_ | refine rd rfl (by assumption) ?_ | refine ⟨_, .inl ⟨rfl, rfl⟩, ?_⟩ | refine ⟨_, _, rfl, rfl, ?_⟩); conv => whnf) | (refine ⟨fun _ => ?_, fun _ => ?_⟩ <;> (conv => whnf) <;> (try (exfalso; omega))) | ((first | refine aJ ?_ | refine num_any ?_ | refine ⟨_, rfl, ?_⟩); conv => whnf) | fail)
      all_goals first
        | (exfalso; omega)
        | (refine Or.inl ?_; (conv => whnf)
           rw [hf, chkFrom_bad (.inr (.inr (.inr (.inr (by omega)))))]
           rfl)
        | skip
      refine ⟨(k + 1, sum + c.bits), by dsimp only; omega, ⟨by dsimp only; omega, by dsimp only; omega, by dsimp only; omega, ?_⟩, ?_⟩
      · rw [hf]
        refine chkFrom_ok fun hb => ?_
        rcases hb with h | h | h | h | h
        · exact absurd h (by assumption)
        · exact absurd h (by assumption)
        · exact absurd h (by assumption)
        · exact hno h
        · omega
      · (conv => whnf)
        rfl
  · have hie : i = l.length := by omega
    subst hie
    rw [List.drop_length] at hf
    (try (conv => whnf)); repeat' (first | refine Ok.seq ?_ | refine OkL.cons ?_ | ((first | refine Ok.region tok ?_ | refine Ok.region_draw tok follows (by kernel_rfl) ?_ | refine Ok.cond ?_); conv => whnf) | refine Ok.block ?_ | ((first | refine Ok.skip ?_ | refine Ok.exit ?_ | refine Ok.ret ?_ | refine nI ?_ | refine ix _ (by assumption) ?_ | refine ixI (by omega) (by assumption) ?_ | refine ix_new _ (by omega) fun _ _ => ?_ | refine ixI_new (by omega) (by omega) fun _ _ => ?_ | refine ⟨_, by assumption, ?_⟩ | refine Alt2.l (aI ?_) | refine Alt2.r (aI ?_)); conv => whnf) | (refine Ok.scope ?_) | ((first | refine Ok.label ?_ | refine rd rfl (by assumption) ?_ | refine ⟨_, .inl ⟨rfl, rfl⟩, ?_⟩ | refine ⟨_, _, rfl, rfl, ?_⟩); conv => whnf) | (refine ⟨fun _ => ?_, fun _ => ?_⟩ <;> (conv => whnf) <;> (try (exfalso; omega))) | ((first | refine aJ ?_ | refine num_any ?_ | refine ⟨_, rfl, ?_⟩); conv => whnf) | fail)
    all_goals first
      | (exfalso; omega)
      | (refine Or.inl ?_; (conv => whnf)
         rw [hf]
         rfl)
      | trace_state
end Go.Proofs.YtagmibogginaaaaGreatDoor
namespace Go.Proofs.YtagmibogginaaaaGreatDoor
open Go Go.Vx
def bitC (v k : Nat) : UInt8 := if v / 2 ^ k % 2 = 1 then 49 else 48
def binT (v bits n : Nat) : Str := (List.range n).map fun i => bitC v (bits - 1 - i)
def xsT (n : Nat) : Str := List.replicate n 120
def pfxT (v bits n : Nat) : Str := binT v bits n ++ xsT (bits - n)
theorem binT_len (v bits n : Nat) : (binT v bits n).length = n := by simp [binT]
theorem xsT_len (n : Nat) : (xsT n).length = n := by simp [xsT]
theorem pfxT_len {v bits n : Nat} (h : n ≤ bits) : (pfxT v bits n).length = bits := by rw [pfxT, List.length_append, binT_len, xsT_len]; omega
def freeF (bits lo H : Nat) : Nat → Nat → Nat
  | 0, f => f
  | k + 1, f => if f < bits ∧ lo % 2 ^ (f + 1) = 0 ∧ lo + 2 ^ (f + 1) ≤ H then freeF bits lo H k (f + 1) else f
def coverF (bits H : Nat) : Nat → Nat → List Str
  | 0, _ => []
  | k + 1, lo => if lo < H then pfxT lo bits (bits - freeF bits lo H bits 0) :: coverF bits H k (lo + 2 ^ freeF bits lo H bits 0) else []
def halvesF (bits lo H : Nat) : Nat → Nat → List Str
  | 0, base => if lo ≤ base ∧ base + 1 ≤ H then [pfxT base bits bits] else []
  | d + 1, base => if lo ≤ base ∧ base + 2 ^ (d + 1) ≤ H then [pfxT base bits (bits - (d + 1))] else if H ≤ base ∨ base + 2 ^ (d + 1) ≤ lo then [] else halvesF bits lo H d base ++ halvesF bits lo H d (base + 2 ^ d)
theorem freeF_eq {bits lo H d : Nat} (hd : d ≤ bits) (h1 : ∀ g, g < d → lo % 2 ^ (g + 1) = 0 ∧ lo + 2 ^ (g + 1) ≤ H) (h2 : ¬ (d < bits ∧ lo % 2 ^ (d + 1) = 0 ∧ lo + 2 ^ (d + 1) ≤ H)) :
    ∀ (k f : Nat), f ≤ d → d - f ≤ k → freeF bits lo H k f = d
  | 0, f, hf, hk => by unfold freeF; omega
  | k + 1, f, hf, hk => by
    unfold freeF
    by_cases hfd : f = d
    · subst hfd; rw [if_neg h2]
    · rw [if_pos ⟨by omega, h1 f (by omega)⟩]
      exact freeF_eq hd h1 h2 k (f + 1) (by omega) (by omega)
theorem coverF_fuel (bits H : Nat) : ∀ (k lo : Nat), H - lo ≤ k → coverF bits H k lo = coverF bits H (H - lo) lo
  | 0, lo, h => by rw [show H - lo = 0 by omega]
  | k + 1, lo, h => by
    by_cases hlt : lo < H
    · obtain ⟨m, hm⟩ : ∃ m, H - lo = m + 1 := ⟨H - lo - 1, by omega⟩
      rw [hm]
      unfold coverF
      rw [if_pos hlt, if_pos hlt]
      have hp : 0 < 2 ^ freeF bits lo H bits 0 := Nat.two_pow_pos _
      rw [coverF_fuel bits H k _ (by omega), ← coverF_fuel bits H m _ (by omega)]
    · rw [show H - lo = 0 by omega]
      unfold coverF
      rw [if_neg hlt]
def coverC (bits H lo : Nat) : List Str := coverF bits H (H - lo) lo
theorem coverC_step {bits H lo : Nat} (h : lo < H) : coverC bits H lo = pfxT lo bits (bits - freeF bits lo H bits 0) :: coverC bits H (lo + 2 ^ freeF bits lo H bits 0) := by
  unfold coverC
  obtain ⟨m, hm⟩ : ∃ m, H - lo = m + 1 := ⟨H - lo - 1, by omega⟩
  rw [hm]
  conv => lhs; unfold coverF
  rw [if_pos h]
  have hp : 0 < 2 ^ freeF bits lo H bits 0 := Nat.two_pow_pos _
  rw [coverF_fuel bits H m _ (by omega)]
theorem coverC_end {bits H lo : Nat} (h : H ≤ lo) : coverC bits H lo = [] := by
  unfold coverC
  rw [show H - lo = 0 by omega]
  rfl
theorem mod_pow_le {x g d : Nat} (h : x % 2 ^ d = 0) (hg : g ≤ d) : x % 2 ^ g = 0 :=
  Nat.mod_eq_zero_of_dvd (Nat.dvd_trans (Nat.pow_dvd_pow 2 hg) (Nat.dvd_of_mod_eq_zero h))
theorem cover_halves {bits lo H : Nat} (hH : H ≤ 2 ^ bits) : ∀ (d base : Nat), d ≤ bits → base % 2 ^ d = 0 →
    (d = bits ∨ ∃ par, (par = base ∨ par + 2 ^ d = base) ∧ par % 2 ^ (d + 1) = 0 ∧ ¬ (lo ≤ par ∧ par + 2 ^ (d + 1) ≤ H)) →
    coverC bits H (max lo base) = halvesF bits lo H d base ++ coverC bits H (max lo (base + 2 ^ d)) := by
  have cov : ∀ (d base : Nat), d ≤ bits → base % 2 ^ d = 0 → (d = bits ∨ ∃ par, (par = base ∨ par + 2 ^ d = base) ∧ par % 2 ^ (d + 1) = 0 ∧ ¬ (lo ≤ par ∧ par + 2 ^ (d + 1) ≤ H)) →
      lo ≤ base → base + 2 ^ d ≤ H → coverC bits H (max lo base) = pfxT base bits (bits - d) :: coverC bits H (max lo (base + 2 ^ d)) := by
    intro d base hd hb hp h1 h2
    have hpos : 0 < 2 ^ d := Nat.two_pow_pos _
    have hfree : freeF bits base H bits 0 = d := by
      refine freeF_eq hd (fun g hg => ⟨mod_pow_le hb (by omega), ?_⟩) ?_ bits 0 (by omega) (by omega)
      · have := Nat.pow_le_pow_right (show 0 < 2 by decide) (show g + 1 ≤ d by omega)
        omega
      · rintro ⟨k1, k2, k3⟩
        rcases hp with rfl | ⟨par, rfl | hpar, hm, hn⟩
        · omega
        · exact hn ⟨h1, k3⟩
        · have e1 : 2 ^ (d + 1) = 2 ^ d + 2 ^ d := by rw [Nat.pow_succ]; omega
          obtain ⟨q, hq⟩ := Nat.dvd_of_mod_eq_zero hm
          rw [← hpar, hq, Nat.mul_add_mod, Nat.mod_eq_of_lt (by omega)] at k2
          omega
    rw [Nat.max_eq_right h1, Nat.max_eq_right (by omega), coverC_step (by omega), hfree]
  intro d
  induction d with
  | zero =>
    intro base hd hb hp
    unfold halvesF
    split
    · rename_i h
      rw [cov 0 base hd hb hp h.1 (by simpa using h.2)]
      simp
    · rename_i h
      by_cases h1 : H ≤ base
      · rw [coverC_end (show H ≤ max lo base by omega), coverC_end (show H ≤ max lo (base + 2 ^ 0) by omega)]
        rfl
      · have : max lo base = max lo (base + 2 ^ 0) := by simp; omega
        rw [this]
        rfl
  | succ d ih =>
    intro base hd hb hp
    have e1 : 2 ^ (d + 1) = 2 ^ d + 2 ^ d := by rw [Nat.pow_succ]; omega
    unfold halvesF
    split
    · rename_i h
      rw [cov (d + 1) base hd hb hp h.1 h.2]
      rfl
    · rename_i h
      split
      · rename_i h1
        rcases h1 with h1 | h1
        · rw [coverC_end (show H ≤ max lo base by omega), coverC_end (show H ≤ max lo (base + 2 ^ (d + 1)) by omega)]
          rfl
        · rw [show max lo base = max lo (base + 2 ^ (d + 1)) by omega]
          rfl
      · rename_i h1
        rw [ih base (by omega) (mod_pow_le hb (by omega)) (.inr ⟨base, .inl rfl, hb, h⟩)]
        have hb2 : (base + 2 ^ d) % 2 ^ d = 0 := by rw [Nat.add_mod_right]; exact mod_pow_le hb (by omega)
        rw [ih (base + 2 ^ d) (by omega) hb2 (.inr ⟨base, .inr rfl, hb, h⟩), ← List.append_assoc]
        rw [show base + 2 ^ d + 2 ^ d = base + 2 ^ (d + 1) by omega]
theorem cover_is_halves {bits lo H : Nat} (hH : H ≤ 2 ^ bits) : coverC bits H lo = halvesF bits lo H bits 0 := by
  have := cover_halves (lo := lo) hH bits 0 (Nat.le_refl _) (by simp) (.inl rfl)
  rw [coverC_end (show H ≤ max lo (0 + 2 ^ bits) by omega), List.append_nil, Nat.max_eq_left (Nat.zero_le _)] at this
  exact this
theorem halves_none {bits lo H : Nat} : ∀ (d base : Nat), H ≤ base ∨ base + 2 ^ d ≤ lo → halvesF bits lo H d base = []
  | 0, base, h => by unfold halvesF; rw [if_neg (by simp at h; omega)]
  | d + 1, base, h => by
    unfold halvesF
    have hp : 0 < 2 ^ (d + 1) := Nat.two_pow_pos _
    rw [if_neg (by omega), if_pos h]
theorem halves_full {bits lo H : Nat} : ∀ (d base : Nat), lo ≤ base → base + 2 ^ d ≤ H → (halvesF bits lo H d base).length = 1
  | 0, base, h1, h2 => by unfold halvesF; rw [if_pos ⟨h1, by simpa using h2⟩]; rfl
  | d + 1, base, h1, h2 => by unfold halvesF; rw [if_pos ⟨h1, h2⟩]; rfl
theorem halves_side {bits lo H : Nat} : ∀ (d base : Nat), lo ≤ base ∨ base + 2 ^ d ≤ H → (halvesF bits lo H d base).length ≤ d + 1
  | 0, base, h => by unfold halvesF; split <;> simp
  | d + 1, base, h => by
    have e1 : 2 ^ (d + 1) = 2 ^ d + 2 ^ d := by rw [Nat.pow_succ]; omega
    unfold halvesF
    split
    · simp
    · rename_i hc
      split
      · simp
      · rename_i hn
        rw [List.length_append]
        rcases h with h | h
        · by_cases hb : base + 2 ^ d ≤ H
          · have := halves_full (bits := bits) d base h hb
            have := halves_side (bits := bits) (lo := lo) (H := H) d (base + 2 ^ d) (.inl (by omega))
            omega
          · rw [halves_none d (base + 2 ^ d) (.inl (by omega))]
            have := halves_side (bits := bits) (lo := lo) (H := H) d base (.inl h)
            simp; omega
        · by_cases hb : lo ≤ base + 2 ^ d
          · have := halves_full (bits := bits) (H := H) d (base + 2 ^ d) hb (by omega)
            have := halves_side (bits := bits) (lo := lo) (H := H) d base (.inr (by omega))
            omega
          · rw [halves_none d base (.inr (by omega))]
            have := halves_side (bits := bits) (lo := lo) (H := H) d (base + 2 ^ d) (.inr (by omega))
            simp; omega
theorem halves_len {bits lo H : Nat} : ∀ (d base : Nat), (halvesF bits lo H d base).length ≤ 2 * d + 2
  | 0, base => by unfold halvesF; split <;> simp
  | d + 1, base => by
    have e1 : 2 ^ (d + 1) = 2 ^ d + 2 ^ d := by rw [Nat.pow_succ]; omega
    unfold halvesF
    split
    · simp
    · rename_i hc
      split
      · simp
      · rename_i hn
        rw [List.length_append]
        by_cases h1 : base + 2 ^ d ≤ H
        · by_cases h2 : lo ≤ base + 2 ^ d
          · have := halves_side (bits := bits) (lo := lo) (H := H) d base (.inr h1)
            have := halves_side (bits := bits) (lo := lo) (H := H) d (base + 2 ^ d) (.inl h2)
            omega
          · rw [halves_none d base (.inr (by omega))]
            have := halves_len (bits := bits) (lo := lo) (H := H) d (base + 2 ^ d)
            simp; omega
        · rw [halves_none d (base + 2 ^ d) (.inl (by omega))]
          have := halves_len (bits := bits) (lo := lo) (H := H) d base
          simp; omega
theorem coverC_len {bits lo H : Nat} (hH : H ≤ 2 ^ bits) : (coverC bits H lo).length ≤ 2 * bits + 2 := by
  rw [cover_is_halves hH]; exact halves_len _ _
end Go.Proofs.YtagmibogginaaaaGreatDoor
namespace Go.Proofs.YtagmibogginaaaaGreatDoor
open Go Go.Vx
def tw (b : Nat) : Nat := 2 ^ b
theorem tw_pos (b : Nat) : 0 < tw b := Nat.two_pow_pos b
theorem tw62 {k : Nat} (h : k ≤ 62) : tw k ≤ 4611686018427387904 := Nat.pow_le_pow_right (show 0 < 2 by decide) h
theorem tw_mono {j k : Nat} (h : j ≤ k) : tw j ≤ tw k := Nat.pow_le_pow_right (show 0 < 2 by decide) h
theorem tw_succ (k : Nat) : tw (k + 1) = tw k + tw k := by unfold tw; rw [Nat.pow_succ]; omega
theorem wrap_nat {x : Nat} (h : x < 9223372036854775808) : IntKind.i64.wrap (x : Int) = (x : Int) := by rw [IntKind.wrap_i64]; omega
theorem shl_i {p : Int → Prop} {b : Int} {k : Nat} (hb : b = (k : Int) ∧ k ≤ 62) (h : p (tw k : Int)) : ∃ n, n = IntKind.i64.wrap (1 * 2 ^ (min b.toNat IntKind.i64.bits)) ∧ p n := by
  obtain ⟨rfl, hk⟩ := hb
  refine ⟨_, ?_, h⟩
  have e1 : min ((k : Int).toNat) IntKind.i64.bits = k := by show min k 64 = k; omega
  have e2 : (1 * 2 ^ k : Int) = (tw k : Int) := by unfold tw; simp
  rw [e1, e2, wrap_nat (by have := tw62 hk; omega)]
theorem shr_i {p : Int → Prop} {a b : Int} {v k : Nat} (ha : a = (v : Int)) (hb : b = (k : Int) ∧ k ≤ 62) (h : p ((v / tw k : Nat) : Int)) : ∃ n, n = a.fdiv (2 ^ (min b.toNat IntKind.i64.bits)) ∧ p n := by
  obtain ⟨rfl, hk⟩ := hb
  subst ha
  refine ⟨_, ?_, h⟩
  have e1 : min ((k : Int).toNat) IntKind.i64.bits = k := by show min k 64 = k; omega
  rw [e1, Int.fdiv_eq_ediv_of_nonneg _ (by exact Int.pow_nonneg (by decide))]
  unfold tw
  simp
theorem and_i {p : Int → Prop} {a c : Int} {v k : Nat} (ha : a = (v : Int) ∧ v < 9223372036854775808) (hc : c = (tw k : Int) - 1 ∧ k ≤ 62) (h : p ((v % tw k : Nat) : Int)) : ∃ n, n = IntKind.i64.wrap ((BitVec.ofInt IntKind.i64.bits a &&& BitVec.ofInt IntKind.i64.bits c).toNat : Int) ∧ p n := by
  obtain ⟨rfl, hv⟩ := ha
  obtain ⟨rfl, hk⟩ := hc
  refine ⟨_, ?_, h⟩
  have h2 := tw62 hk
  have hp := tw_pos k
  have e1 : BitVec.ofInt IntKind.i64.bits (v : Int) = BitVec.ofNat 64 v := BitVec.ofInt_natCast ..
  have e2 : BitVec.ofInt IntKind.i64.bits ((tw k : Int) - 1) = BitVec.ofNat 64 (tw k - 1) := by
    rw [show (tw k : Int) - 1 = ((tw k - 1 : Nat) : Int) by omega]
    exact BitVec.ofInt_natCast ..
  have e3 : (BitVec.ofNat 64 v &&& BitVec.ofNat 64 (tw k - 1)).toNat = v % tw k := by
    rw [BitVec.toNat_and, BitVec.toNat_ofNat, BitVec.toNat_ofNat, Nat.mod_eq_of_lt (show v < 2 ^ 64 by omega), Nat.mod_eq_of_lt (show tw k - 1 < 2 ^ 64 by omega)]
    exact Nat.and_two_pow_sub_one_eq_mod v k
  rw [e1, e2]
  have key : ∀ x : Nat, x = v % tw k → ((v % tw k : Nat) : Int) = IntKind.i64.wrap (x : Int) := by
    rintro x rfl
    rw [wrap_nat (by have := Nat.mod_lt v hp; omega)]
  exact key _ e3
theorem and_1 {p : Int → Prop} {a : Int} {v : Nat} (ha : a = (v : Int) ∧ v < 9223372036854775808) (h : p ((v % 2 : Nat) : Int)) : ∃ n, n = IntKind.i64.wrap ((BitVec.ofInt IntKind.i64.bits a &&& BitVec.ofInt IntKind.i64.bits 1).toNat : Int) ∧ p n :=
  and_i (k := 1) ha ⟨rfl, by decide⟩ h
theorem and_1' {p : Int → Prop} {a c : Int} {v : Nat} (ha : a = (v : Int) ∧ v < 9223372036854775808) (hc : c = 1) (h : p ((v % 2 : Nat) : Int)) : ∃ n, n = IntKind.i64.wrap ((BitVec.ofInt IntKind.i64.bits a &&& BitVec.ofInt IntKind.i64.bits c).toNat : Int) ∧ p n := by
  subst hc; exact and_1 ha h
theorem num_u8 {x : Int} {p : Int → Prop} (h1 : 0 ≤ x) (h2 : x ≤ 255) (h : p x) : ∃ n, n = IntKind.u8.wrap x ∧ p n := ⟨x, by rw [IntKind.wrap_u8]; omega, h⟩
theorem bitC_nat (v k : Nat) : ((bitC v k).toNat : Int) = 48 + ((v / 2 ^ k % 2 : Nat) : Int) := by
  unfold bitC
  split
  · rename_i h; rw [h]; rfl
  · rename_i h
    have : v / 2 ^ k % 2 = 0 := by omega
    rw [this]; rfl
set_option maxHeartbeats 4000000 in
theorem top_at (b : Nat) (hb : b ≤ 62) : FSpec Tryz.prog T 92 [.i .i64 (b : Nat)] (fun d _ => d = .i .i64 ((tw b : Int) - 1)) := by
  have h2 := tw62 hb
  have hk : ((b : Nat) : Int) = (b : Int) ∧ b ≤ 62 := ⟨rfl, hb⟩
  refine FSpec.of_ok tok Tryz.func92 rfl Tryz.call92 (by simp) ?_
  (try (conv => whnf)); repeat' (first | ((with_reducible_and_instances refine shl_i (by assumption) ?_); (conv => whnf)) | refine Ok.seq ?_ | refine OkL.cons ?_ | ((first | refine Ok.region tok ?_ | refine Ok.region_draw tok follows (by kernel_rfl) ?_ | refine Ok.cond ?_); conv => whnf) | refine Ok.block ?_ | ((first | refine Ok.skip ?_ | refine Ok.exit ?_ | refine Ok.ret ?_ | refine nI ?_ | refine ix _ (by assumption) ?_ | refine ixI (by omega) (by assumption) ?_ | refine ix_new _ (by omega) fun _ _ => ?_ | refine ixI_new (by omega) (by omega) fun _ _ => ?_ | refine ⟨_, by assumption, ?_⟩ | refine Alt2.l (aI ?_) | refine Alt2.r (aI ?_)); conv => whnf) | (refine Ok.scope ?_) | ((first | refine Ok.label ?_ | refine rd rfl (by assumption) ?_ | refine ⟨_, .inl ⟨rfl, rfl⟩, ?_⟩ | refine ⟨_, _, rfl, rfl, ?_⟩); conv => whnf) | (refine ⟨fun _ => ?_, fun _ => ?_⟩ <;> (conv => whnf) <;> (try (exfalso; omega))) | ((first | refine aJ ?_ | refine num_any ?_ | refine ⟨_, rfl, ?_⟩); conv => whnf) | fail)
  refine Or.inl ?_; (conv => whnf)
  rfl
set_option maxHeartbeats 4000000 in
theorem rtop_at (b : Nat) (hb : b ≤ 62) : FSpec Tryz.prog T 75 [.i .i64 (b : Nat)] (fun d _ => d = .i .i64 ((tw b : Int) - 1)) := by
  have h2 := tw62 hb
  have hk : ((b : Nat) : Int) = (b : Int) ∧ b ≤ 62 := ⟨rfl, hb⟩
  refine FSpec.of_ok tok Tryz.func75 rfl Tryz.call75 (by simp) ?_
  (try (conv => whnf)); repeat' (first | ((with_reducible_and_instances refine shl_i (by assumption) ?_); (conv => whnf)) | refine Ok.seq ?_ | refine OkL.cons ?_ | ((first | refine Ok.region tok ?_ | refine Ok.region_draw tok follows (by kernel_rfl) ?_ | refine Ok.cond ?_); conv => whnf) | refine Ok.block ?_ | ((first | refine Ok.skip ?_ | refine Ok.exit ?_ | refine Ok.ret ?_ | refine nI ?_ | refine ix _ (by assumption) ?_ | refine ixI (by omega) (by assumption) ?_ | refine ix_new _ (by omega) fun _ _ => ?_ | refine ixI_new (by omega) (by omega) fun _ _ => ?_ | refine ⟨_, by assumption, ?_⟩ | refine Alt2.l (aI ?_) | refine Alt2.r (aI ?_)); conv => whnf) | (refine Ok.scope ?_) | ((first | refine Ok.label ?_ | refine rd rfl (by assumption) ?_ | refine ⟨_, .inl ⟨rfl, rfl⟩, ?_⟩ | refine ⟨_, _, rfl, rfl, ?_⟩); conv => whnf) | (refine ⟨fun _ => ?_, fun _ => ?_⟩ <;> (conv => whnf) <;> (try (exfalso; omega))) | ((first | refine aJ ?_ | refine num_any ?_ | refine ⟨_, rfl, ?_⟩); conv => whnf) | fail)
  refine Or.inl ?_; (conv => whnf)
  rfl
end Go.Proofs.YtagmibogginaaaaGreatDoor
namespace Go.Proofs.YtagmibogginaaaaGreatDoor
open Go Go.Vx
def LayF (l : List Fd) : Prop := ∀ f ∈ l, 1 ≤ f.bits ∧ f.bits ≤ 32
def wid (l : List Fd) : Nat := (l.map fun f => f.bits.toNat).sum
theorem wid_snoc {l : List Fd} {i : Nat} {c : Fd} (h : l[i]? = some c) : wid (l.take (i + 1)) = wid (l.take i) + c.bits.toNat := by
  unfold wid; rw [take_snoc h, List.map_append, List.sum_append]; simp
theorem wid_le {l : List Fd} (h : LayF l) : wid l ≤ 32 * l.length := by
  induction l with
  | nil => simp [wid]
  | cons f l ih =>
    have h1 := ih fun x hx => h x (by simp [hx])
    have h2 := h f (by simp)
    simp only [wid, List.map_cons, List.sum_cons, List.length_cons] at h1 ⊢
    omega
set_option maxHeartbeats 4000000 in
theorem width_at (l : List Fd) (r : List (List D)) (hl : l.length ≤ 1000) (hf : LayF l) : FSpec Tryz.prog T 49 [.lst 34 (l.map frow) r] (fun d _ => d = .i .i64 (wid l : Nat)) := by
  have h1 : (l.map frow).length = l.length := by simp
  have hw := wid_le hf
  refine FSpec.of_ok tok Tryz.func49 rfl Tryz.call49 (by simp) ?_
  (try (conv => whnf)); repeat' (first | refine Ok.seq ?_ | refine OkL.cons ?_ | ((first | refine Ok.region tok ?_ | refine Ok.region_draw tok follows (by kernel_rfl) ?_ | refine Ok.cond ?_); conv => whnf) | refine Ok.block ?_ | ((first | refine Ok.skip ?_ | refine Ok.exit ?_ | refine Ok.ret ?_ | refine nI ?_ | refine ix _ (by assumption) ?_ | refine ixI (by omega) (by assumption) ?_ | refine ix_new _ (by omega) fun _ _ => ?_ | refine ixI_new (by omega) (by omega) fun _ _ => ?_ | refine ⟨_, by assumption, ?_⟩ | refine Alt2.l (aI ?_) | refine Alt2.r (aI ?_)); conv => whnf) | (refine Ok.scope ?_) | ((first | refine Ok.label ?_ | refine rd rfl (by assumption) ?_ | refine ⟨_, .inl ⟨rfl, rfl⟩, ?_⟩ | refine ⟨_, _, rfl, rfl, ?_⟩); conv => whnf) | (refine ⟨fun _ => ?_, fun _ => ?_⟩ <;> (conv => whnf) <;> (try (exfalso; omega))) | ((first | refine aJ ?_ | refine num_any ?_ | refine ⟨_, rfl, ?_⟩); conv => whnf) | fail)
  refine Ok.loopU [6, 7] [3, 8] 0 0 (fun (i : Nat) => [.i .i64 (wid (l.take i) : Nat), .i .i64 (i : Nat)]) (fun _ b => b) (fun _ r => r) (fun (i : Nat) => i ≤ l.length) (fun (i : Nat) => l.length - i) (0) (Nat.zero_le _) ?_; (conv => whnf); refine ⟨by ((conv => whnf); first | rfl | (simp [envCat, List.take_of_length_le, nrow, frow, bcell]; done) | (simp [envCat, List.take_of_length_le, nrow, frow, bcell]; rw [IntKind.wrap_i64]; omega)), ?_⟩
  intro i hi
  (conv => whnf)
  by_cases hil : i < l.length
  · obtain ⟨c, hc⟩ : ∃ c, l[i]? = some c := ⟨_, List.getElem?_eq_getElem hil⟩
    have hcI : l[((i : Nat) : Int).toNat]? = some c := hc
    have hcb := hf c (List.mem_of_getElem? hc)
    have hsn := wid_snoc hc
    have hwt := wid_le (l := l.take i) fun x hx => hf x (List.mem_of_mem_take hx)
    have hti : (l.take i).length = i := by simp; omega
    (try (conv => whnf)); repeat' (first | refine Ok.seq ?_ | refine OkL.cons ?_ | ((first | refine Ok.region tok ?_ | refine Ok.region_draw tok follows (by kernel_rfl) ?_ | refine Ok.cond ?_); conv => whnf) | refine Ok.block ?_ | ((first | refine Ok.skip ?_ | refine Ok.exit ?_ | refine Ok.ret ?_ | refine nI ?_ | refine ix _ (by assumption) ?_ | refine ixI (by omega) (by assumption) ?_ | refine ix_new _ (by omega) fun _ _ => ?_ | refine ixI_new (by omega) (by omega) fun _ _ => ?_ | refine ⟨_, by assumption, ?_⟩ | refine Alt2.l (aI ?_) | refine Alt2.r (aI ?_)); conv => whnf) | (refine Ok.scope ?_) | ((first | refine Ok.label ?_ | refine rd rfl (by assumption) ?_ | refine ⟨_, .inl ⟨rfl, rfl⟩, ?_⟩ | refine ⟨_, _, rfl, rfl, ?_⟩); conv => whnf) | (refine ⟨fun _ => ?_, fun _ => ?_⟩ <;> (conv => whnf) <;> (try (exfalso; omega))) | ((first | refine aJ ?_ | refine num_any ?_ | refine ⟨_, rfl, ?_⟩); conv => whnf) | fail)
    all_goals first
      | (exfalso; omega)
      | skip
    refine ⟨i + 1, by omega, by omega, ?_⟩
    rw [hsn, show ((wid (l.take i) + c.bits.toNat : Nat) : Int) = (wid (l.take i) : Int) + c.bits by omega]
    (conv => whnf)
    rfl
  · have hie : i = l.length := by omega
    subst hie
    rw [List.take_length]
    (try (conv => whnf)); repeat' (first | refine Ok.seq ?_ | refine OkL.cons ?_ | ((first | refine Ok.region tok ?_ | refine Ok.region_draw tok follows (by kernel_rfl) ?_ | refine Ok.cond ?_); conv => whnf) | refine Ok.block ?_ | ((first | refine Ok.skip ?_ | refine Ok.exit ?_ | refine Ok.ret ?_ | refine nI ?_ | refine ix _ (by assumption) ?_ | refine ixI (by omega) (by assumption) ?_ | refine ix_new _ (by omega) fun _ _ => ?_ | refine ixI_new (by omega) (by omega) fun _ _ => ?_ | refine ⟨_, by assumption, ?_⟩ | refine Alt2.l (aI ?_) | refine Alt2.r (aI ?_)); conv => whnf) | (refine Ok.scope ?_) | ((first | refine Ok.label ?_ | refine rd rfl (by assumption) ?_ | refine ⟨_, .inl ⟨rfl, rfl⟩, ?_⟩ | refine ⟨_, _, rfl, rfl, ?_⟩); conv => whnf) | (refine ⟨fun _ => ?_, fun _ => ?_⟩ <;> (conv => whnf) <;> (try (exfalso; omega))) | ((first | refine aJ ?_ | refine num_any ?_ | refine ⟨_, rfl, ?_⟩); conv => whnf) | fail)
    all_goals first
      | (exfalso; omega)
      | (refine Or.inl ?_; (conv => whnf)
         rfl)
set_option maxHeartbeats 4000000 in
theorem rwidth_at (l : List Fd) (r : List (List D)) (hl : l.length ≤ 1000) (hf : LayF l) : FSpec Tryz.prog T 46 [.lst 34 (l.map frow) r] (fun d _ => d = .i .i64 (wid l : Nat)) := by
  have h1 : (l.map frow).length = l.length := by simp
  have hw := wid_le hf
  refine FSpec.of_ok tok Tryz.func46 rfl Tryz.call46 (by simp) ?_
  (try (conv => whnf)); repeat' (first | refine Ok.seq ?_ | refine OkL.cons ?_ | ((first | refine Ok.region tok ?_ | refine Ok.region_draw tok follows (by kernel_rfl) ?_ | refine Ok.cond ?_); conv => whnf) | refine Ok.block ?_ | ((first | refine Ok.skip ?_ | refine Ok.exit ?_ | refine Ok.ret ?_ | refine nI ?_ | refine ix _ (by assumption) ?_ | refine ixI (by omega) (by assumption) ?_ | refine ix_new _ (by omega) fun _ _ => ?_ | refine ixI_new (by omega) (by omega) fun _ _ => ?_ | refine ⟨_, by assumption, ?_⟩ | refine Alt2.l (aI ?_) | refine Alt2.r (aI ?_)); conv => whnf) | (refine Ok.scope ?_) | ((first | refine Ok.label ?_ | refine rd rfl (by assumption) ?_ | refine ⟨_, .inl ⟨rfl, rfl⟩, ?_⟩ | refine ⟨_, _, rfl, rfl, ?_⟩); conv => whnf) | (refine ⟨fun _ => ?_, fun _ => ?_⟩ <;> (conv => whnf) <;> (try (exfalso; omega))) | ((first | refine aJ ?_ | refine num_any ?_ | refine ⟨_, rfl, ?_⟩); conv => whnf) | fail)
  refine Ok.loopU [0] [3, 4] 0 0 (fun (i : Nat) => [.i .i64 (wid (l.take i) : Nat), .i .i64 (i : Nat)]) (fun _ b => b) (fun _ r => r) (fun (i : Nat) => i ≤ l.length) (fun (i : Nat) => l.length - i) (0) (Nat.zero_le _) ?_; (conv => whnf); refine ⟨by ((conv => whnf); first | rfl | (simp [envCat, List.take_of_length_le, nrow, frow, bcell]; done) | (simp [envCat, List.take_of_length_le, nrow, frow, bcell]; rw [IntKind.wrap_i64]; omega)), ?_⟩
  intro i hi
  (conv => whnf)
  by_cases hil : i < l.length
  · obtain ⟨c, hc⟩ : ∃ c, l[i]? = some c := ⟨_, List.getElem?_eq_getElem hil⟩
    have hcI : l[((i : Nat) : Int).toNat]? = some c := hc
    have hcb := hf c (List.mem_of_getElem? hc)
    have hsn := wid_snoc hc
    have hwt := wid_le (l := l.take i) fun x hx => hf x (List.mem_of_mem_take hx)
    have hti : (l.take i).length = i := by simp; omega
    (try (conv => whnf)); repeat' (first | refine Ok.seq ?_ | refine OkL.cons ?_ | ((first | refine Ok.region tok ?_ | refine Ok.region_draw tok follows (by kernel_rfl) ?_ | refine Ok.cond ?_); conv => whnf) | refine Ok.block ?_ | ((first | refine Ok.skip ?_ | refine Ok.exit ?_ | refine Ok.ret ?_ | refine nI ?_ | refine ix _ (by assumption) ?_ | refine ixI (by omega) (by assumption) ?_ | refine ix_new _ (by omega) fun _ _ => ?_ | refine ixI_new (by omega) (by omega) fun _ _ => ?_ | refine ⟨_, by assumption, ?_⟩ | refine Alt2.l (aI ?_) | refine Alt2.r (aI ?_)); conv => whnf) | (refine Ok.scope ?_) | ((first | refine Ok.label ?_ | refine rd rfl (by assumption) ?_ | refine ⟨_, .inl ⟨rfl, rfl⟩, ?_⟩ | refine ⟨_, _, rfl, rfl, ?_⟩); conv => whnf) | (refine ⟨fun _ => ?_, fun _ => ?_⟩ <;> (conv => whnf) <;> (try (exfalso; omega))) | ((first | refine aJ ?_ | refine num_any ?_ | refine ⟨_, rfl, ?_⟩); conv => whnf) | fail)
    all_goals first
      | (exfalso; omega)
      | skip
    refine ⟨i + 1, by omega, by omega, ?_⟩
    rw [hsn, show ((wid (l.take i) + c.bits.toNat : Nat) : Int) = (wid (l.take i) : Int) + c.bits by omega]
    (conv => whnf)
    rfl
  · have hie : i = l.length := by omega
    subst hie
    rw [List.take_length]
    (try (conv => whnf)); repeat' (first | refine Ok.seq ?_ | refine OkL.cons ?_ | ((first | refine Ok.region tok ?_ | refine Ok.region_draw tok follows (by kernel_rfl) ?_ | refine Ok.cond ?_); conv => whnf) | refine Ok.block ?_ | ((first | refine Ok.skip ?_ | refine Ok.exit ?_ | refine Ok.ret ?_ | refine nI ?_ | refine ix _ (by assumption) ?_ | refine ixI (by omega) (by assumption) ?_ | refine ix_new _ (by omega) fun _ _ => ?_ | refine ixI_new (by omega) (by omega) fun _ _ => ?_ | refine ⟨_, by assumption, ?_⟩ | refine Alt2.l (aI ?_) | refine Alt2.r (aI ?_)); conv => whnf) | (refine Ok.scope ?_) | ((first | refine Ok.label ?_ | refine rd rfl (by assumption) ?_ | refine ⟨_, .inl ⟨rfl, rfl⟩, ?_⟩ | refine ⟨_, _, rfl, rfl, ?_⟩); conv => whnf) | (refine ⟨fun _ => ?_, fun _ => ?_⟩ <;> (conv => whnf) <;> (try (exfalso; omega))) | ((first | refine aJ ?_ | refine num_any ?_ | refine ⟨_, rfl, ?_⟩); conv => whnf) | fail)
    all_goals first
      | (exfalso; omega)
      | (refine Or.inl ?_; (conv => whnf)
         rfl)
theorem xsT_succ (i : Nat) : (xsT (i + 1)).map bcell = (xsT i).map bcell ++ [[.i .u8 120]] := by
  unfold xsT
  rw [List.replicate_succ', List.map_append]
  rfl
set_option maxHeartbeats 4000000 in
theorem xs_at (n : Nat) (hn : n ≤ 100000) : FSpec Tryz.prog T 48 [.i .i64 (n : Nat)] (fun d _ => d = .s (xsT n)) := by
  refine FSpec.of_ok tok Tryz.func48 rfl Tryz.call48 (by simp) ?_
  (try (conv => whnf)); repeat' (first | refine Ok.seq ?_ | refine OkL.cons ?_ | ((first | refine Ok.region tok ?_ | refine Ok.region_draw tok follows (by kernel_rfl) ?_ | refine Ok.cond ?_); conv => whnf) | refine Ok.block ?_ | ((first | refine Ok.skip ?_ | refine Ok.exit ?_ | refine Ok.ret ?_ | refine nI ?_ | refine ix _ (by assumption) ?_ | refine ixI (by omega) (by assumption) ?_ | refine ix_new _ (by omega) fun _ _ => ?_ | refine ixI_new (by omega) (by omega) fun _ _ => ?_ | refine ⟨_, by assumption, ?_⟩ | refine Alt2.l (aI ?_) | refine Alt2.r (aI ?_)); conv => whnf) | (refine Ok.scope ?_) | ((first | refine Ok.label ?_ | refine rd rfl (by assumption) ?_ | refine ⟨_, .inl ⟨rfl, rfl⟩, ?_⟩ | refine ⟨_, _, rfl, rfl, ?_⟩); conv => whnf) | (refine ⟨fun _ => ?_, fun _ => ?_⟩ <;> (conv => whnf) <;> (try (exfalso; omega))) | ((first | refine aJ ?_ | refine num_any ?_ | refine ⟨_, rfl, ?_⟩); conv => whnf) | fail)
  refine Ok.ghost 3 5 rfl ?_
  (conv => whnf)
  refine Ok.loopU [0] [3, 4] 1 0 (fun (i : Nat) => [.own 0 i, .i .i64 (i : Nat)]) (fun _ b => b) (fun (i : Nat) (_ : Vx.Rows) => [some (5, (xsT i).map bcell)]) (fun (i : Nat) => i ≤ n) (fun (i : Nat) => n - i) (0) (Nat.zero_le _) ?_; (conv => whnf); refine ⟨by ((conv => whnf); first | rfl | (simp [envCat, List.take_of_length_le, nrow, frow, bcell]; done) | (simp [envCat, List.take_of_length_le, nrow, frow, bcell]; rw [IntKind.wrap_i64]; omega)), ?_⟩
  intro i hi
  have hlm : ((xsT i).map bcell).length = i := by rw [List.length_map, xsT_len]
  have hll := xsT_len i
  (conv => whnf)
  by_cases hil : i < n
  · have hsn := xsT_succ i
    (try (conv => whnf)); repeat' (first | refine Ok.seq ?_ | refine OkL.cons ?_ | ((first | refine Ok.region tok ?_ | refine Ok.region_draw tok follows (by kernel_rfl) ?_ | refine Ok.cond ?_); conv => whnf) | refine Ok.block ?_ | ((first | refine Ok.skip ?_ | refine Ok.exit ?_ | refine Ok.ret ?_ | refine nI ?_ | refine ix _ (by assumption) ?_ | refine ixI (by omega) (by assumption) ?_ | refine ix_new _ (by omega) fun _ _ => ?_ | refine ixI_new (by omega) (by omega) fun _ _ => ?_ | refine ⟨_, by assumption, ?_⟩ | refine Alt2.l (aI ?_) | refine Alt2.r (aI ?_)); conv => whnf) | (refine Ok.scope ?_) | ((first | refine Ok.label ?_ | refine rd rfl (by assumption) ?_ | refine ⟨_, .inl ⟨rfl, rfl⟩, ?_⟩ | refine ⟨_, _, rfl, rfl, ?_⟩); conv => whnf) | (refine ⟨fun _ => ?_, fun _ => ?_⟩ <;> (conv => whnf) <;> (try (exfalso; omega))) | ((first | refine aJ ?_ | refine num_any ?_ | refine ⟨_, rfl, ?_⟩); conv => whnf) | fail)
    all_goals first
      | (exfalso; omega)
      | skip
    refine ⟨i + 1, by omega, by omega, ?_⟩
    rw [hsn]
    (conv => whnf)
    simp [envCat, xsT_len]
  · have hie : i = n := by omega
    subst hie
    (try (conv => whnf)); repeat' (first | (refine ⟨xsT i, List.take_of_length_le (by omega), ?_⟩; (conv => whnf)) | refine Ok.seq ?_ | refine OkL.cons ?_ | ((first | refine Ok.region tok ?_ | refine Ok.region_draw tok follows (by kernel_rfl) ?_ | refine Ok.cond ?_); conv => whnf) | refine Ok.block ?_ | ((first | refine Ok.skip ?_ | refine Ok.exit ?_ | refine Ok.ret ?_ | refine nI ?_ | refine ix _ (by assumption) ?_ | refine ixI (by omega) (by assumption) ?_ | refine ix_new _ (by omega) fun _ _ => ?_ | refine ixI_new (by omega) (by omega) fun _ _ => ?_ | refine ⟨_, by assumption, ?_⟩ | refine Alt2.l (aI ?_) | refine Alt2.r (aI ?_)); conv => whnf) | (refine Ok.scope ?_) | ((first | refine Ok.label ?_ | refine rd rfl (by assumption) ?_ | refine ⟨_, .inl ⟨rfl, rfl⟩, ?_⟩ | refine ⟨_, _, rfl, rfl, ?_⟩); conv => whnf) | (refine ⟨fun _ => ?_, fun _ => ?_⟩ <;> (conv => whnf) <;> (try (exfalso; omega))) | ((first | refine aJ ?_ | refine num_any ?_ | refine ⟨_, rfl, ?_⟩); conv => whnf) | fail)
    all_goals first
      | (exfalso; omega)
      | (refine Or.inl ?_; (conv => whnf)
         rfl)
theorem binT_succ (v bits i : Nat) : (binT v bits (i + 1)).map bcell = (binT v bits i).map bcell ++ [bcell (bitC v (bits - 1 - i))] := by
  unfold binT
  rw [List.range_succ, List.map_append, List.map_append]
  rfl
def fillT (v bits n i : Nat) : Str := binT v bits i ++ List.replicate (n - i) 0
theorem fillT_len {v bits n i : Nat} (h : i ≤ n) : (fillT v bits n i).length = n := by simp [fillT, binT_len]; omega
theorem fillT_set {v bits n i : Nat} (h : i < n) : ((fillT v bits n i).map bcell).set i (bcell (bitC v (bits - 1 - i))) = (fillT v bits n (i + 1)).map bcell := by
  unfold fillT
  obtain ⟨m, hm⟩ : ∃ m, n - i = m + 1 := ⟨n - i - 1, by omega⟩
  rw [hm, show n - (i + 1) = m by omega, List.replicate_succ, List.map_append, List.map_append, binT_succ, List.set_append_right _ _ (by simp [binT_len])]
  simp [binT_len]
theorem getElem_bcell {l : Str} {i : Nat} {b : UInt8} (h : l[i]? = some b) : (l.map bcell)[i]? = some (bcell b) := by simp [h]
theorem bits_pos {v k : Nat} (hv : v < 9223372036854775808) : v / tw k < 9223372036854775808 := Nat.lt_of_le_of_lt (Nat.div_le_self _ _) hv
theorem mod2 (v k : Nat) : v / tw k % 2 ≤ 1 := by omega
set_option maxHeartbeats 4000000 in
theorem binary_at (v bits n : Nat) (hv : v < 9223372036854775808) (hb : bits ≤ 62) (hn : n ≤ bits) : FSpec Tryz.prog T 127 [.i .i64 (v : Nat), .i .i64 (bits : Nat), .i .i64 (n : Nat)] (fun d _ => d = .s (binT v bits n)) := by
  refine FSpec.of_ok tok Tryz.func127 rfl Tryz.call127 (by simp) ?_
  (try (conv => whnf)); repeat' (first | refine Ok.seq ?_ | refine OkL.cons ?_ | ((first | refine Ok.region tok ?_ | refine Ok.region_draw tok follows (by kernel_rfl) ?_ | refine Ok.cond ?_); conv => whnf) | refine Ok.block ?_ | ((first | refine Ok.skip ?_ | refine Ok.exit ?_ | refine Ok.ret ?_ | refine nI ?_ | refine ix _ (by assumption) ?_ | refine ixI (by omega) (by assumption) ?_ | refine ix_new _ (by omega) fun _ _ => ?_ | refine ixI_new (by omega) (by omega) fun _ _ => ?_ | refine ⟨_, by assumption, ?_⟩ | refine Alt2.l (aI ?_) | refine Alt2.r (aI ?_)); conv => whnf) | (refine Ok.scope ?_) | ((first | refine Ok.label ?_ | refine rd rfl (by assumption) ?_ | refine ⟨_, .inl ⟨rfl, rfl⟩, ?_⟩ | refine ⟨_, _, rfl, rfl, ?_⟩); conv => whnf) | (refine ⟨fun _ => ?_, fun _ => ?_⟩ <;> (conv => whnf) <;> (try (exfalso; omega))) | ((first | refine aJ ?_ | refine num_any ?_ | refine ⟨_, rfl, ?_⟩); conv => whnf) | fail)
  rw [show List.replicate n [D.i .u8 0] = (fillT v bits n 0).map bcell by simp [fillT, binT, bcell]]
  refine Ok.loopU [0, 1, 7, 12] [13] 1 0 (fun (i : Nat) => [.i .i64 (i : Nat)]) (fun _ b => b) (fun (i : Nat) (_ : Vx.Rows) => [some (5, (fillT v bits n i).map bcell)]) (fun (i : Nat) => i ≤ n) (fun (i : Nat) => n - i) (0) (Nat.zero_le _) ?_; (conv => whnf); refine ⟨by ((conv => whnf); first | rfl | (simp [envCat, List.take_of_length_le, nrow, frow, bcell]; done) | (simp [envCat, List.take_of_length_le, nrow, frow, bcell]; rw [IntKind.wrap_i64]; omega)), ?_⟩
  intro i hi
  have hll := fillT_len (v := v) (bits := bits) hi
  have hlm : ((fillT v bits n i).map bcell).length = n := by rw [List.length_map, hll]
  (conv => whnf)
  by_cases hil : i < n
  · have hfs := fillT_set (v := v) (bits := bits) hil
    have hfa : (fillT v bits n i)[i]? = some 0 := by
      unfold fillT
      rw [List.getElem?_append_right (by rw [binT_len]; exact Nat.le_refl _), binT_len, Nat.sub_self, List.getElem?_replicate, if_pos (by omega)]
    have hsh : ((bits : Int) - 1 - (i : Int)) = ((bits - 1 - i : Nat) : Int) ∧ bits - 1 - i ≤ 62 := by omega
    have hm2 := mod2 v (bits - 1 - i)
    have hbc := bitC_nat v (bits - 1 - i)
    (try (conv => whnf)); repeat' (first | ((with_reducible_and_instances refine shr_i rfl (by assumption) ?_); (conv => whnf)) | (refine and_1' ⟨rfl, bits_pos hv⟩ rfl ?_; (conv => whnf)) | ((with_reducible_and_instances refine num_u8 (by omega) (by omega) ?_); (conv => whnf)) | refine Ok.seq ?_ | refine OkL.cons ?_ | ((first | refine Ok.region tok ?_ | refine Ok.region_draw tok follows (by kernel_rfl) ?_ | refine Ok.cond ?_); conv => whnf) | refine Ok.block ?_ | ((first | refine Ok.skip ?_ | refine Ok.exit ?_ | refine Ok.ret ?_ | refine nI ?_ | refine ix _ (by assumption) ?_ | refine ixI (by omega) (by assumption) ?_ | refine ix_new _ (by omega) fun _ _ => ?_ | refine ixI_new (by omega) (by omega) fun _ _ => ?_ | refine ⟨_, by assumption, ?_⟩ | refine Alt2.l (aI ?_) | refine Alt2.r (aI ?_)); conv => whnf) | (refine Ok.scope ?_) | ((first | refine Ok.label ?_ | refine rd rfl (by assumption) ?_ | refine ⟨_, .inl ⟨rfl, rfl⟩, ?_⟩ | refine ⟨_, _, rfl, rfl, ?_⟩); conv => whnf) | (refine ⟨fun _ => ?_, fun _ => ?_⟩ <;> (conv => whnf) <;> (try (exfalso; omega))) | ((first | refine aJ ?_ | refine num_any ?_ | refine ⟨_, rfl, ?_⟩); conv => whnf) | fail)
    all_goals first
      | (exfalso; omega)
      | skip
    refine ⟨_, getElem_bcell hfa, by simp [bcell], _, rfl, ?_⟩
    (conv => whnf)
    (try (conv => whnf)); repeat' (first | refine Ok.seq ?_ | refine OkL.cons ?_ | ((first | refine Ok.region tok ?_ | refine Ok.region_draw tok follows (by kernel_rfl) ?_ | refine Ok.cond ?_); conv => whnf) | refine Ok.block ?_ | ((first | refine Ok.skip ?_ | refine Ok.exit ?_ | refine Ok.ret ?_ | refine nI ?_ | refine ix _ (by assumption) ?_ | refine ixI (by omega) (by assumption) ?_ | refine ix_new _ (by omega) fun _ _ => ?_ | refine ixI_new (by omega) (by omega) fun _ _ => ?_ | refine ⟨_, by assumption, ?_⟩ | refine Alt2.l (aI ?_) | refine Alt2.r (aI ?_)); conv => whnf) | (refine Ok.scope ?_) | ((first | refine Ok.label ?_ | refine rd rfl (by assumption) ?_ | refine ⟨_, .inl ⟨rfl, rfl⟩, ?_⟩ | refine ⟨_, _, rfl, rfl, ?_⟩); conv => whnf) | (refine ⟨fun _ => ?_, fun _ => ?_⟩ <;> (conv => whnf) <;> (try (exfalso; omega))) | ((first | refine aJ ?_ | refine num_any ?_ | refine ⟨_, rfl, ?_⟩); conv => whnf) | fail)
    refine ⟨i + 1, by omega, by omega, ?_⟩
    rw [← hfs, show bcell (bitC v (bits - 1 - i)) = [.i .u8 (48 + ((v / tw (bits - 1 - i) % 2 : Nat) : Int))] by unfold bcell; rw [hbc]; rfl]
    (conv => whnf)
    rfl
  · have hie : i = n := by omega
    subst hie
    have hfe : fillT v bits i i = binT v bits i := by simp [fillT]
    (try (conv => whnf)); repeat' (first | (refine ⟨binT v bits i, by rw [List.take_of_length_le (by omega), hfe], ?_⟩; (conv => whnf)) | refine Ok.seq ?_ | refine OkL.cons ?_ | ((first | refine Ok.region tok ?_ | refine Ok.region_draw tok follows (by kernel_rfl) ?_ | refine Ok.cond ?_); conv => whnf) | refine Ok.block ?_ | ((first | refine Ok.skip ?_ | refine Ok.exit ?_ | refine Ok.ret ?_ | refine nI ?_ | refine ix _ (by assumption) ?_ | refine ixI (by omega) (by assumption) ?_ | refine ix_new _ (by omega) fun _ _ => ?_ | refine ixI_new (by omega) (by omega) fun _ _ => ?_ | refine ⟨_, by assumption, ?_⟩ | refine Alt2.l (aI ?_) | refine Alt2.r (aI ?_)); conv => whnf) | (refine Ok.scope ?_) | ((first | refine Ok.label ?_ | refine rd rfl (by assumption) ?_ | refine ⟨_, .inl ⟨rfl, rfl⟩, ?_⟩ | refine ⟨_, _, rfl, rfl, ?_⟩); conv => whnf) | (refine ⟨fun _ => ?_, fun _ => ?_⟩ <;> (conv => whnf) <;> (try (exfalso; omega))) | ((first | refine aJ ?_ | refine num_any ?_ | refine ⟨_, rfl, ?_⟩); conv => whnf) | fail)
    all_goals first
      | (exfalso; omega)
      | (refine Or.inl ?_; (conv => whnf)
         rfl)
set_option maxHeartbeats 4000000 in
theorem digits_at (v b : Nat) (hv : v < 9223372036854775808) (hb : b ≤ 62) : FSpec Tryz.prog T 102 [.i .i64 (v : Nat), .i .i64 (b : Nat)] (fun d _ => d = .s (binT v b b)) := by
  refine FSpec.of_ok tok Tryz.func102 rfl Tryz.call102 (by simp) ?_
  (try (conv => whnf)); repeat' (first | refine Ok.seq ?_ | refine OkL.cons ?_ | ((first | refine Ok.region tok ?_ | refine Ok.region_draw tok follows (by kernel_rfl) ?_ | refine Ok.cond ?_); conv => whnf) | refine Ok.block ?_ | ((first | refine Ok.skip ?_ | refine Ok.exit ?_ | refine Ok.ret ?_ | refine nI ?_ | refine ix _ (by assumption) ?_ | refine ixI (by omega) (by assumption) ?_ | refine ix_new _ (by omega) fun _ _ => ?_ | refine ixI_new (by omega) (by omega) fun _ _ => ?_ | refine ⟨_, by assumption, ?_⟩ | refine Alt2.l (aI ?_) | refine Alt2.r (aI ?_)); conv => whnf) | (refine Ok.scope ?_) | ((first | refine Ok.label ?_ | refine rd rfl (by assumption) ?_ | refine ⟨_, .inl ⟨rfl, rfl⟩, ?_⟩ | refine ⟨_, _, rfl, rfl, ?_⟩); conv => whnf) | (refine ⟨fun _ => ?_, fun _ => ?_⟩ <;> (conv => whnf) <;> (try (exfalso; omega))) | ((first | refine aJ ?_ | refine num_any ?_ | refine ⟨_, rfl, ?_⟩); conv => whnf) | fail)
  refine Ok.ghost 5 5 rfl ?_
  (conv => whnf)
  refine Ok.loopU [0] [5, 6] 1 0 (fun (x : Int × Nat) => [.own 0 x.2, .i .i64 x.1]) (fun _ b => b) (fun (x : Int × Nat) (_ : Vx.Rows) => [some (5, (binT v b x.2).map bcell)]) (fun (x : Int × Nat) => x.2 ≤ b ∧ x.1 = (b : Int) - 1 - (x.2 : Nat)) (fun (x : Int × Nat) => b - x.2) (((b : Int) - 1, 0)) (⟨Nat.zero_le _, by simp⟩) ?_; (conv => whnf); refine ⟨by ((conv => whnf); first | rfl | (simp [envCat, List.take_of_length_le, nrow, frow, bcell]; done) | (simp [envCat, List.take_of_length_le, nrow, frow, bcell]; rw [IntKind.wrap_i64]; omega)), ?_⟩
  rintro ⟨q, i⟩ ⟨hi, hq⟩
  dsimp only at hi hq ⊢
  have hll := binT_len v b i
  have hlm : ((binT v b i).map bcell).length = i := by rw [List.length_map, hll]
  (conv => whnf)
  by_cases hil : i < b
  · have hsn := binT_succ v b i
    have hsh : q = ((b - 1 - i : Nat) : Int) ∧ b - 1 - i ≤ 62 := by omega
    have hm2 := mod2 v (b - 1 - i)
    have hbc : bitC v (b - 1 - i) = if v / tw (b - 1 - i) % 2 = 1 then 49 else 48 := rfl
    (try (conv => whnf)); repeat' (first | ((with_reducible_and_instances refine shr_i rfl (by assumption) ?_); (conv => whnf)) | (refine and_1' ⟨rfl, bits_pos hv⟩ rfl ?_; (conv => whnf)) | refine Ok.seq ?_ | refine OkL.cons ?_ | ((first | refine Ok.region tok ?_ | refine Ok.region_draw tok follows (by kernel_rfl) ?_ | refine Ok.cond ?_); conv => whnf) | refine Ok.block ?_ | ((first | refine Ok.skip ?_ | refine Ok.exit ?_ | refine Ok.ret ?_ | refine nI ?_ | refine ix _ (by assumption) ?_ | refine ixI (by omega) (by assumption) ?_ | refine ix_new _ (by omega) fun _ _ => ?_ | refine ixI_new (by omega) (by omega) fun _ _ => ?_ | refine ⟨_, by assumption, ?_⟩ | refine Alt2.l (aI ?_) | refine Alt2.r (aI ?_)); conv => whnf) | (refine Ok.scope ?_) | ((first | refine Ok.label ?_ | refine rd rfl (by assumption) ?_ | refine ⟨_, .inl ⟨rfl, rfl⟩, ?_⟩ | refine ⟨_, _, rfl, rfl, ?_⟩); conv => whnf) | (refine ⟨fun _ => ?_, fun _ => ?_⟩ <;> (conv => whnf) <;> (try (exfalso; omega))) | ((first | refine aJ ?_ | refine num_any ?_ | refine ⟨_, rfl, ?_⟩); conv => whnf) | fail)
    all_goals first
      | (exfalso; omega)
      | skip
    · rename_i h
      rw [if_pos (by omega)] at hbc
      refine ⟨(q - 1, i + 1), by dsimp only; omega, ⟨by dsimp only; omega, by dsimp only; omega⟩, ?_⟩
      rw [hsn, hbc]
      (conv => whnf)
      simp [envCat, bcell]
      omega
    · rename_i h
      rw [if_neg (by omega)] at hbc
      refine ⟨(q - 1, i + 1), by dsimp only; omega, ⟨by dsimp only; omega, by dsimp only; omega⟩, ?_⟩
      rw [hsn, hbc]
      (conv => whnf)
      simp [envCat, bcell]
      omega
  · have hie : i = b := by omega
    subst hie
    (try (conv => whnf)); repeat' (first | (refine ⟨binT v i i, List.take_of_length_le (by omega), ?_⟩; (conv => whnf)) | refine Ok.seq ?_ | refine OkL.cons ?_ | ((first | refine Ok.region tok ?_ | refine Ok.region_draw tok follows (by kernel_rfl) ?_ | refine Ok.cond ?_); conv => whnf) | refine Ok.block ?_ | ((first | refine Ok.skip ?_ | refine Ok.exit ?_ | refine Ok.ret ?_ | refine nI ?_ | refine ix _ (by assumption) ?_ | refine ixI (by omega) (by assumption) ?_ | refine ix_new _ (by omega) fun _ _ => ?_ | refine ixI_new (by omega) (by omega) fun _ _ => ?_ | refine ⟨_, by assumption, ?_⟩ | refine Alt2.l (aI ?_) | refine Alt2.r (aI ?_)); conv => whnf) | (refine Ok.scope ?_) | ((first | refine Ok.label ?_ | refine rd rfl (by assumption) ?_ | refine ⟨_, .inl ⟨rfl, rfl⟩, ?_⟩ | refine ⟨_, _, rfl, rfl, ?_⟩); conv => whnf) | (refine ⟨fun _ => ?_, fun _ => ?_⟩ <;> (conv => whnf) <;> (try (exfalso; omega))) | ((first | refine aJ ?_ | refine num_any ?_ | refine ⟨_, rfl, ?_⟩); conv => whnf) | fail)
    all_goals first
      | (exfalso; omega)
      | (refine Or.inl ?_; (conv => whnf)
         rfl)
end Go.Proofs.YtagmibogginaaaaGreatDoor
namespace Go.Proofs.YtagmibogginaaaaGreatDoor
open Go Go.Vx Go.Shelf
theorem bExtraR : Builder.Extra Tryz.prog Tryz.vxRep_ren where
  sizeBuilder := by kernel_rfl
  liesBuilder := by kernel_rfl
  t5 := by kernel_rfl
  a5 := fun _ => by kernel_rfl
  z5 := fun _ => by kernel_rfl
  v5 := fun _ => by kernel_rfl
  infoByte := by kernel_rfl
  cellsByte := by kernel_rfl
  sizeByte := by kernel_rfl
  neB5 := by decide
theorem repeatL_x (n : Nat) : Lib.repeatL [120] n = xsT n := by
  induction n with
  | zero => rfl
  | succ n ih => rw [Lib.repeatL, ih]; rfl
theorem xrep_at (n : Nat) (h : n ≤ 1000000) : FSpec Tryz.prog T 71 [.s [120], .i .i64 (n : Nat)] (fun d _ => d = .s (xsT n)) := by
  have := repeat_at (T := T) Tryz.vxRep bExtraR Tryz.call71 [120] n (by simp; omega) (by omega)
  rw [repeatL_x] at this
  exact this
theorem prefix_at (v bits n : Nat) (hv : v < 9223372036854775808) (hb : bits ≤ 62) (hn : n ≤ bits) (vI bI nJ : Int) (e1 : vI = v) (e2 : bI = bits) (e3 : nJ = n) :
    FSpec Tryz.prog T 118 [.i .i64 vI, .i .i64 bI, .i .i64 nJ] (fun d _ => d = .s (pfxT v bits n)) := by
  subst e1 e2 e3
  have hx := xrep_at (bits - n) (by omega)
  have hbl := binT_len v bits n
  have hxl := xsT_len (bits - n)
  refine FSpec.of_ok tok Tryz.func118 rfl Tryz.call118 (by simp) ?_
  rw [show ((bits - n : Nat) : Int) = (bits : Int) - n by omega] at hx
  (try (conv => whnf)); repeat' (first | refine Ok.seq ?_ | refine OkL.cons ?_ | ((first | refine Ok.region tok ?_ | refine Ok.region_draw tok follows (by kernel_rfl) ?_ | refine Ok.cond ?_); conv => whnf) | refine Ok.block ?_ | ((first | refine Ok.skip ?_ | refine Ok.exit ?_ | refine Ok.ret ?_ | refine nI ?_ | refine ix _ (by assumption) ?_ | refine ixI (by omega) (by assumption) ?_ | refine ix_new _ (by omega) fun _ _ => ?_ | refine ixI_new (by omega) (by omega) fun _ _ => ?_ | refine ⟨_, by assumption, ?_⟩); conv => whnf) | (refine Or.inl ?_; (conv => whnf); (repeat (refine aI ?_; conv => whnf)); refine ⟨_, binary_at v bits n hv hb hn, rfl, ?_⟩; conv => whnf) | (refine Or.inl ?_; (conv => whnf); (repeat (refine aI ?_; conv => whnf)); refine ⟨_, hx, rfl, ?_⟩; conv => whnf) | ((first | refine ⟨_, binary_at v bits n hv hb hn, rfl, ?_⟩ | refine ⟨_, hx, rfl, ?_⟩); conv => whnf) | (refine Or.inr (Or.inl ?_); (conv => whnf); (repeat (refine aI ?_; conv => whnf)); refine ⟨_, binary_at v bits n hv hb hn, ?_⟩; rintro _ _ ⟨rfl, rfl⟩; conv => whnf) | (refine Or.inr (Or.inl ?_); (conv => whnf); (repeat (refine aI ?_; conv => whnf)); refine ⟨_, hx, ?_⟩; rintro _ _ ⟨rfl, rfl⟩; conv => whnf) | ((first | refine Alt2.l (aI ?_) | refine Alt2.r (aI ?_)); conv => whnf) | (refine Ok.scope ?_) | ((first | refine Ok.label ?_ | refine rd rfl (by assumption) ?_ | refine ⟨_, .inl ⟨rfl, rfl⟩, ?_⟩ | refine ⟨_, _, rfl, rfl, ?_⟩); conv => whnf) | (refine ⟨fun _ => ?_, fun _ => ?_⟩ <;> (conv => whnf) <;> (try (exfalso; omega))) | ((first | refine aJ ?_ | refine num_any ?_ | refine ⟨_, rfl, ?_⟩); conv => whnf) | fail)
  refine Or.inl ?_; (conv => whnf)
  rfl
theorem free_step {bits lo H k f : Nat} (h : f < bits ∧ lo % tw (f + 1) = 0 ∧ lo + tw (f + 1) ≤ H) : freeF bits lo H (k + 1) f = freeF bits lo H k (f + 1) := by
  conv => lhs; unfold freeF
  exact if_pos h
theorem free_stop {bits lo H f : Nat} (k : Nat) (h : ¬ (f < bits ∧ lo % tw (f + 1) = 0 ∧ lo + tw (f + 1) ≤ H)) : freeF bits lo H k f = f := by
  cases k with
  | zero => rfl
  | succ k => unfold freeF; exact if_neg h
set_option maxHeartbeats 8000000 in
theorem cover_at (bits lo H : Nat) (hb : bits ≤ 32) (hH : H ≤ tw bits) (hlo : lo ≤ tw bits) (bI lI hI : Int) (e1 : bI = bits) (e2 : lI = lo) (e3 : hI = (H : Int) - 1) :
    FSpec Tryz.prog T 98 [.i .i64 bI, .i .i64 lI, .i .i64 hI] (fun d rows => d = .own 0 (coverC bits H lo).length ∧ rows = [some (9, (coverC bits H lo).map srow)]) := by
  subst e1 e2 e3
  have htb := tw62 (show bits ≤ 62 by omega)
  have ht32 := tw_mono hb
  have h32 : tw 32 = 4294967296 := by decide
  have hcl := coverC_len (bits := bits) (lo := lo) (H := H) hH
  refine FSpec.of_ok tok Tryz.func98 rfl Tryz.call98 (by simp) ?_
  (try (conv => whnf)); repeat' (first | refine Ok.seq ?_ | refine OkL.cons ?_ | ((first | refine Ok.region tok ?_ | refine Ok.region_draw tok follows (by kernel_rfl) ?_ | refine Ok.cond ?_); conv => whnf) | refine Ok.block ?_ | ((first | refine Ok.skip ?_ | refine Ok.exit ?_ | refine Ok.ret ?_ | refine nI ?_ | refine ix _ (by assumption) ?_ | refine ixI (by omega) (by assumption) ?_ | refine ix_new _ (by omega) fun _ _ => ?_ | refine ixI_new (by omega) (by omega) fun _ _ => ?_ | refine ⟨_, by assumption, ?_⟩ | refine Alt2.l (aI ?_) | refine Alt2.r (aI ?_)); conv => whnf) | (refine Ok.scope ?_) | ((first | refine Ok.label ?_ | refine rd rfl (by assumption) ?_ | refine ⟨_, .inl ⟨rfl, rfl⟩, ?_⟩ | refine ⟨_, _, rfl, rfl, ?_⟩); conv => whnf) | (refine ⟨fun _ => ?_, fun _ => ?_⟩ <;> (conv => whnf) <;> (try (exfalso; omega))) | ((first | refine aJ ?_ | refine num_any ?_ | refine ⟨_, rfl, ?_⟩); conv => whnf) | fail)
  refine Ok.ghost 7 9 rfl ?_
  (conv => whnf)
  refine Ok.loopU [0, 2] [1, 7] 1 0 (fun (x : Nat × List Str) => [.i .i64 (x.1 : Nat), .own 0 x.2.length]) (fun _ b => b) (fun (x : Nat × List Str) (_ : Vx.Rows) => [some (9, x.2.map srow)]) (fun (x : Nat × List Str) => x.1 ≤ tw bits ∧ coverC bits H lo = x.2 ++ coverC bits H x.1) (fun (x : Nat × List Str) => tw bits - x.1) ((lo, [])) (⟨hlo, rfl⟩) ?_; (conv => whnf); refine ⟨by ((conv => whnf); first | rfl | (simp [envCat, List.take_of_length_le, nrow, frow, bcell, srow]; done) | (simp [envCat, List.take_of_length_le, nrow, frow, bcell, srow]; rw [IntKind.wrap_i64]; omega)), ?_⟩
  rintro ⟨q, l⟩ ⟨hq, hcov⟩
  dsimp only at hq hcov ⊢
  have hlm : (l.map srow).length = l.length := by simp
  have hlb : l.length ≤ 66 := by have := congrArg List.length hcov; rw [List.length_append] at this; omega
  (conv => whnf)
  by_cases hqH : q < H
  · have hst := coverC_step (bits := bits) hqH
    (try (conv => whnf)); repeat' (first | refine Ok.seq ?_ | refine OkL.cons ?_ | ((first | refine Ok.region tok ?_ | refine Ok.region_draw tok follows (by kernel_rfl) ?_ | refine Ok.cond ?_); conv => whnf) | refine Ok.block ?_ | ((first | refine Ok.skip ?_ | refine Ok.exit ?_ | refine Ok.ret ?_ | refine nI ?_ | refine ix _ (by assumption) ?_ | refine ixI (by omega) (by assumption) ?_ | refine ix_new _ (by omega) fun _ _ => ?_ | refine ixI_new (by omega) (by omega) fun _ _ => ?_ | refine ⟨_, by assumption, ?_⟩ | refine Alt2.l (aI ?_) | refine Alt2.r (aI ?_)); conv => whnf) | (refine Ok.scope ?_) | ((first | refine Ok.label ?_ | refine rd rfl (by assumption) ?_ | refine ⟨_, .inl ⟨rfl, rfl⟩, ?_⟩ | refine ⟨_, _, rfl, rfl, ?_⟩); conv => whnf) | (refine ⟨fun _ => ?_, fun _ => ?_⟩ <;> (conv => whnf) <;> (try (exfalso; omega))) | ((first | refine aJ ?_ | refine num_any ?_ | refine ⟨_, rfl, ?_⟩); conv => whnf) | fail)
    refine Ok.loopU [0, 1, 2, 7] [8] 1 0 (fun (f : Nat) => [.i .i64 (f : Nat)]) (fun _ b => b) (fun (f : Nat) (_ : Vx.Rows) => [some (9, l.map srow)]) (fun (f : Nat) => f ≤ bits ∧ q + tw f ≤ H ∧ freeF bits q H bits 0 = freeF bits q H (bits - f) f) (fun (f : Nat) => bits - f) (0) (⟨Nat.zero_le _, hqH, rfl⟩) ?_; (conv => whnf); refine ⟨by ((conv => whnf); first | rfl | (simp [envCat, List.take_of_length_le, nrow, frow, bcell, srow]; done) | (simp [envCat, List.take_of_length_le, nrow, frow, bcell, srow]; rw [IntKind.wrap_i64]; omega)), ?_⟩
    rintro f ⟨hf, hqf, hfr⟩
    have htf := tw62 (show f + 1 ≤ 62 by omega)
    have hpf := tw_pos f
    have hk1 : ((f : Nat) : Int) + 1 = ((f + 1 : Nat) : Int) := by omega
    have htop := top_at (f + 1) (by omega)
    rw [← hk1] at htop
    have hsh : ((f : Nat) : Int) = (f : Int) ∧ f ≤ 62 := ⟨rfl, by omega⟩
    have hpre := prefix_at q bits (bits - f) (by omega) (by omega) (by omega) (q : Int) (bits : Int) ((bits : Int) - f) rfl rfl (by omega)
    (conv => whnf)
    (try (conv => whnf)); repeat' (first | (refine and_i ⟨rfl, by omega⟩ ⟨rfl, by omega⟩ ?_; (conv => whnf)) | ((with_reducible_and_instances refine shl_i (by assumption) ?_); (conv => whnf)) | refine Ok.seq ?_ | refine OkL.cons ?_ | ((first | refine Ok.region tok ?_ | refine Ok.region_draw tok follows (by kernel_rfl) ?_ | refine Ok.cond ?_); conv => whnf) | refine Ok.block ?_ | ((first | refine Ok.skip ?_ | refine Ok.exit ?_ | refine Ok.ret ?_ | refine nI ?_ | refine ix _ (by assumption) ?_ | refine ixI (by omega) (by assumption) ?_ | refine ix_new _ (by omega) fun _ _ => ?_ | refine ixI_new (by omega) (by omega) fun _ _ => ?_ | refine ⟨_, by assumption, ?_⟩); conv => whnf) | (refine Or.inl ?_; (conv => whnf); (repeat (refine aI ?_; conv => whnf)); refine ⟨_, htop, rfl, ?_⟩; conv => whnf) | (refine Or.inl ?_; (conv => whnf); (repeat (refine aI ?_; conv => whnf)); refine ⟨_, hpre, rfl, ?_⟩; conv => whnf) | ((first | refine ⟨_, htop, rfl, ?_⟩ | refine ⟨_, hpre, rfl, ?_⟩); conv => whnf) | (refine Or.inr (Or.inl ?_); (conv => whnf); (repeat (refine aI ?_; conv => whnf)); refine ⟨_, htop, ?_⟩; rintro _ _ ⟨rfl, rfl⟩; conv => whnf) | (refine Or.inr (Or.inl ?_); (conv => whnf); (repeat (refine aI ?_; conv => whnf)); refine ⟨_, hpre, ?_⟩; rintro _ _ ⟨rfl, rfl⟩; conv => whnf) | ((first | refine Alt2.l (aI ?_) | refine Alt2.r (aI ?_)); conv => whnf) | (refine Ok.scope ?_) | ((first | refine Ok.label ?_ | refine rd rfl (by assumption) ?_ | refine ⟨_, .inl ⟨rfl, rfl⟩, ?_⟩ | refine ⟨_, _, rfl, rfl, ?_⟩); conv => whnf) | (refine ⟨fun _ => ?_, fun _ => ?_⟩ <;> (conv => whnf) <;> (try (exfalso; omega))) | ((first | refine aJ ?_ | refine num_any ?_ | refine ⟨_, rfl, ?_⟩); conv => whnf) | fail)
    all_goals first
      | (exfalso; omega)
      | skip
    · refine ⟨f + 1, by omega, ⟨by omega, by omega, ?_⟩, ?_⟩
      · rw [hfr, show bits - f = (bits - (f + 1)) + 1 by omega, free_step ⟨by omega, by omega, by omega⟩]
      · (conv => whnf)
        rfl
    all_goals
      have hfr2 : freeF bits q H bits 0 = f := by rw [hfr]; exact free_stop _ (by omega)
      have hst2 : coverC bits H q = pfxT q bits (bits - f) :: coverC bits H (q + tw f) := by rw [hst, hfr2]; rfl
      refine ⟨(q + tw f, l ++ [pfxT q bits (bits - f)]), by dsimp only; omega, ⟨by dsimp only; omega, by dsimp only; rw [hcov, hst2]; simp⟩, ?_⟩
      (conv => whnf)
      simp [envCat]
  · have : coverC bits H q = [] := coverC_end (by omega)
    rw [this, List.append_nil] at hcov
    (try (conv => whnf)); repeat' (first | refine Ok.seq ?_ | refine OkL.cons ?_ | ((first | refine Ok.region tok ?_ | refine Ok.region_draw tok follows (by kernel_rfl) ?_ | refine Ok.cond ?_); conv => whnf) | refine Ok.block ?_ | ((first | refine Ok.skip ?_ | refine Ok.exit ?_ | refine Ok.ret ?_ | refine nI ?_ | refine ix _ (by assumption) ?_ | refine ixI (by omega) (by assumption) ?_ | refine ix_new _ (by omega) fun _ _ => ?_ | refine ixI_new (by omega) (by omega) fun _ _ => ?_ | refine ⟨_, by assumption, ?_⟩ | refine Alt2.l (aI ?_) | refine Alt2.r (aI ?_)); conv => whnf) | (refine Ok.scope ?_) | ((first | refine Ok.label ?_ | refine rd rfl (by assumption) ?_ | refine ⟨_, .inl ⟨rfl, rfl⟩, ?_⟩ | refine ⟨_, _, rfl, rfl, ?_⟩); conv => whnf) | (refine ⟨fun _ => ?_, fun _ => ?_⟩ <;> (conv => whnf) <;> (try (exfalso; omega))) | ((first | refine aJ ?_ | refine num_any ?_ | refine ⟨_, rfl, ?_⟩); conv => whnf) | fail)
    all_goals first
      | (exfalso; omega)
      | (refine Or.inr (Or.inl ?_); (conv => whnf)
         exact ⟨by rw [hcov]; rfl, by rw [hcov]⟩)
theorem binT_shift (v b d : Nat) (hd : d ≤ b) : binT (v / tw d) (b - d) (b - d) = binT v b (b - d) := by
  unfold binT
  refine List.map_congr_left fun i hi => ?_
  have hi := List.mem_range.1 hi
  unfold bitC tw
  rw [Nat.div_div_eq_div_mul, ← Nat.pow_add, show d + (b - d - 1 - i) = b - 1 - i by omega]
theorem pfxT_shift (v b d : Nat) (hd : d ≤ b) : binT (v / tw d) (b - d) (b - d) ++ xsT d = pfxT v b (b - d) := by
  unfold pfxT
  rw [binT_shift v b d hd, show b - (b - d) = d by omega]
theorem halves_cov {b lo H d base : Nat} (h : lo ≤ base ∧ base + tw d ≤ H) : halvesF b lo H d base = [pfxT base b (b - d)] := by
  cases d with
  | zero => unfold halvesF; exact if_pos h
  | succ d => unfold halvesF; exact if_pos h
theorem halves_rec {b lo H d base : Nat} (h : ¬ (lo ≤ base ∧ base + tw (d + 1) ≤ H)) (h2 : ¬ (H ≤ base ∨ base + tw (d + 1) ≤ lo)) : halvesF b lo H (d + 1) base = halvesF b lo H d base ++ halvesF b lo H d (base + tw d) := by
  conv => lhs; unfold halvesF
  exact (if_neg h).trans (if_neg h2)
theorem halves_not {b lo H d base : Nat} (h : H ≤ base ∨ base + tw d ≤ lo) : halvesF b lo H d base = [] := halves_none d base h
set_option maxHeartbeats 8000000 in
theorem halves_at (b lo H : Nat) (hb : b ≤ 32) (hH : H ≤ tw b) (hlo : lo ≤ tw b) : ∀ (d base : Nat) (nJ baseI : Int), d ≤ b → base + tw d ≤ tw b → nJ = (b : Int) - d → baseI = base →
    FSpec Tryz.prog T 101 [.i .i64 (b : Nat), .i .i64 baseI, .i .i64 nJ, .i .i64 (lo : Nat), .i .i64 ((H : Int) - 1)] (fun d' rows => d' = .own 0 (halvesF b lo H d base).length ∧ rows = [some (9, (halvesF b lo H d base).map srow)]) := by
  intro d
  induction d with
  | zero =>
    intro base nJ baseI hd hbase e1 e2
    subst e2
    have htb := tw62 (show b ≤ 62 by omega)
    have ht32 := tw_mono hb
    have h32 : tw 32 = 4294967296 := by decide
    have hpd := tw_pos (0)
    have htop := rtop_at (0) (by omega)
    rw [show ((0 : Nat) : Int) = (b : Int) - nJ by omega] at htop
    have hsh : ((b : Int) - nJ) = ((0 : Nat) : Int) ∧ 0 ≤ 62 := by omega
    have hdig := digits_at (base / tw (0)) (b - (0)) (bits_pos (by omega)) (by omega)
    rw [show ((b - (0) : Nat) : Int) = nJ by omega] at hdig
    have hxs := xs_at (0) (by omega)
    rw [show ((0 : Nat) : Int) = (b : Int) - nJ by omega] at hxs
    have hl1 := binT_len (base / tw (0)) (b - (0)) (b - (0))
    have hl2 := xsT_len (0)
    have hps := pfxT_shift base b (0) hd
    have h1 : tw 0 = 1 := rfl
    refine FSpec.of_ok tok Tryz.func101 rfl Tryz.call101 (by simp) ?_
    (try (conv => whnf)); repeat' (first | ((with_reducible_and_instances refine shr_i rfl (by assumption) ?_); (conv => whnf)) | refine Ok.seq ?_ | refine OkL.cons ?_ | ((first | refine Ok.region tok ?_ | refine Ok.region_draw tok follows (by kernel_rfl) ?_ | refine Ok.cond ?_); conv => whnf) | refine Ok.block ?_ | ((first | refine Ok.skip ?_ | refine Ok.exit ?_ | refine Ok.ret ?_ | refine nI ?_ | refine ix _ (by assumption) ?_ | refine ixI (by omega) (by assumption) ?_ | refine ix_new _ (by omega) fun _ _ => ?_ | refine ixI_new (by omega) (by omega) fun _ _ => ?_ | refine ⟨_, by assumption, ?_⟩); conv => whnf) | (refine Or.inl ?_; (conv => whnf); (repeat (refine aI ?_; conv => whnf)); refine ⟨_, htop, rfl, ?_⟩; conv => whnf) | (refine Or.inl ?_; (conv => whnf); (repeat (refine aI ?_; conv => whnf)); refine ⟨_, hdig, rfl, ?_⟩; conv => whnf) | (refine Or.inl ?_; (conv => whnf); (repeat (refine aI ?_; conv => whnf)); refine ⟨_, hxs, rfl, ?_⟩; conv => whnf) | ((first | refine ⟨_, htop, rfl, ?_⟩ | refine ⟨_, hdig, rfl, ?_⟩ | refine ⟨_, hxs, rfl, ?_⟩); conv => whnf) | (refine Or.inr (Or.inl ?_); (conv => whnf); (repeat (refine aI ?_; conv => whnf)); refine ⟨_, htop, ?_⟩; rintro _ _ ⟨rfl, rfl⟩; conv => whnf) | (refine Or.inr (Or.inl ?_); (conv => whnf); (repeat (refine aI ?_; conv => whnf)); refine ⟨_, hdig, ?_⟩; rintro _ _ ⟨rfl, rfl⟩; conv => whnf) | (refine Or.inr (Or.inl ?_); (conv => whnf); (repeat (refine aI ?_; conv => whnf)); refine ⟨_, hxs, ?_⟩; rintro _ _ ⟨rfl, rfl⟩; conv => whnf) | ((first | refine Alt2.l (aI ?_) | refine Alt2.r (aI ?_)); conv => whnf) | (refine Ok.scope ?_) | ((first | refine Ok.label ?_ | refine rd rfl (by assumption) ?_ | refine ⟨_, .inl ⟨rfl, rfl⟩, ?_⟩ | refine ⟨_, _, rfl, rfl, ?_⟩); conv => whnf) | (refine ⟨fun _ => ?_, fun _ => ?_⟩ <;> (conv => whnf) <;> (try (exfalso; omega))) | ((first | refine aJ ?_ | refine num_any ?_ | refine ⟨_, rfl, ?_⟩); conv => whnf) | fail)
    all_goals first
      | (exfalso; omega)
      | (refine Or.inr (Or.inl ?_); (conv => whnf)
         rw [halves_cov (d := 0) ⟨by omega, by omega⟩, hps]
         exact ⟨rfl, rfl⟩)
      | (refine Or.inr (Or.inr ?_); (conv => whnf)
         rw [halves_not (d := 0) (by omega)]
         exact ⟨rfl, rfl⟩)
      | skip
  | succ d ih =>
    intro base nJ baseI hd hbase e1 e2
    subst e2
    have htb := tw62 (show b ≤ 62 by omega)
    have ht32 := tw_mono hb
    have h32 : tw 32 = 4294967296 := by decide
    have hpd := tw_pos (d + 1)
    have htop := rtop_at (d + 1) (by omega)
    rw [show ((d + 1 : Nat) : Int) = (b : Int) - nJ by omega] at htop
    have hsh : ((b : Int) - nJ) = ((d + 1 : Nat) : Int) ∧ d + 1 ≤ 62 := by omega
    have hdig := digits_at (base / tw (d + 1)) (b - (d + 1)) (bits_pos (by omega)) (by omega)
    rw [show ((b - (d + 1) : Nat) : Int) = nJ by omega] at hdig
    have hxs := xs_at (d + 1) (by omega)
    rw [show ((d + 1 : Nat) : Int) = (b : Int) - nJ by omega] at hxs
    have hl1 := binT_len (base / tw (d + 1)) (b - (d + 1)) (b - (d + 1))
    have hl2 := xsT_len (d + 1)
    have hps := pfxT_shift base b (d + 1) hd
    have hts := tw_succ d
    have hsh2 : ((b : Int) - nJ - 1) = ((d : Nat) : Int) ∧ d ≤ 62 := by omega
    have hA := halves_len (bits := b) (lo := lo) (H := H) d base
    have hB := halves_len (bits := b) (lo := lo) (H := H) d (base + tw d)
    have ihA := ih base (nJ + 1) base (by omega) (by omega) (by omega) rfl
    have ihB := ih (base + tw d) (nJ + 1) ((base : Int) + tw d) (by omega) (by omega) (by omega) (by omega)
    have hrec := fun h1 h2 => halves_rec (b := b) (lo := lo) (H := H) (d := d) (base := base) h1 h2
    generalize halvesF b lo H d base = A at *
    generalize halvesF b lo H d (base + tw d) = B at *
    have hAm : (A.map srow).length = A.length := by simp
    have hBm : (B.map srow).length = B.length := by simp
    refine FSpec.of_ok tok Tryz.func101 rfl Tryz.call101 (by simp) ?_
    (try (conv => whnf)); repeat' (first | ((with_reducible_and_instances refine shr_i rfl (by assumption) ?_); (conv => whnf)) | ((with_reducible_and_instances refine shl_i (by assumption) ?_); (conv => whnf)) | refine Ok.seq ?_ | refine OkL.cons ?_ | ((first | refine Ok.region tok ?_ | refine Ok.region_draw tok follows (by kernel_rfl) ?_ | refine Ok.cond ?_); conv => whnf) | refine Ok.block ?_ | ((first | refine Ok.skip ?_ | refine Ok.exit ?_ | refine Ok.ret ?_ | refine nI ?_ | refine ix _ (by assumption) ?_ | refine ixI (by omega) (by assumption) ?_ | refine ix_new _ (by omega) fun _ _ => ?_ | refine ixI_new (by omega) (by omega) fun _ _ => ?_ | refine ⟨_, by assumption, ?_⟩); conv => whnf) | (refine Or.inl ?_; (conv => whnf); (repeat (refine aI ?_; conv => whnf)); refine ⟨_, htop, rfl, ?_⟩; conv => whnf) | (refine Or.inl ?_; (conv => whnf); (repeat (refine aI ?_; conv => whnf)); refine ⟨_, hdig, rfl, ?_⟩; conv => whnf) | (refine Or.inl ?_; (conv => whnf); (repeat (refine aI ?_; conv => whnf)); refine ⟨_, hxs, rfl, ?_⟩; conv => whnf) | (refine Or.inl ?_; (conv => whnf); (repeat (refine aI ?_; conv => whnf)); refine ⟨_, ihA, rfl, ?_⟩; conv => whnf) | (refine Or.inl ?_; (conv => whnf); (repeat (refine aI ?_; conv => whnf)); refine ⟨_, ihB, rfl, ?_⟩; conv => whnf) | ((first | refine ⟨_, htop, rfl, ?_⟩ | refine ⟨_, hdig, rfl, ?_⟩ | refine ⟨_, hxs, rfl, ?_⟩ | refine ⟨_, ihA, rfl, ?_⟩ | refine ⟨_, ihB, rfl, ?_⟩); conv => whnf) | (refine Or.inr (Or.inl ?_); (conv => whnf); (repeat (refine aI ?_; conv => whnf)); refine ⟨_, htop, ?_⟩; rintro _ _ ⟨rfl, rfl⟩; conv => whnf) | (refine Or.inr (Or.inl ?_); (conv => whnf); (repeat (refine aI ?_; conv => whnf)); refine ⟨_, hdig, ?_⟩; rintro _ _ ⟨rfl, rfl⟩; conv => whnf) | (refine Or.inr (Or.inl ?_); (conv => whnf); (repeat (refine aI ?_; conv => whnf)); refine ⟨_, hxs, ?_⟩; rintro _ _ ⟨rfl, rfl⟩; conv => whnf) | (refine Or.inr (Or.inl ?_); (conv => whnf); (repeat (refine aI ?_; conv => whnf)); refine ⟨_, ihA, ?_⟩; rintro _ _ ⟨rfl, rfl⟩; conv => whnf) | (refine Or.inr (Or.inl ?_); (conv => whnf); (repeat (refine aI ?_; conv => whnf)); refine ⟨_, ihB, ?_⟩; rintro _ _ ⟨rfl, rfl⟩; conv => whnf) | ((first | refine Alt2.l (aI ?_) | refine Alt2.r (aI ?_)); conv => whnf) | (refine Ok.scope ?_) | ((first | refine Ok.label ?_ | refine rd rfl (by assumption) ?_ | refine ⟨_, .inl ⟨rfl, rfl⟩, ?_⟩ | refine ⟨_, _, rfl, rfl, ?_⟩); conv => whnf) | (refine ⟨fun _ => ?_, fun _ => ?_⟩ <;> (conv => whnf) <;> (try (exfalso; omega))) | ((first | refine aJ ?_ | refine num_any ?_ | refine ⟨_, rfl, ?_⟩); conv => whnf) | fail)
    all_goals first
      | (exfalso; omega)
      | (refine Or.inr (Or.inl ?_); (conv => whnf)
         rw [halves_cov (d := d + 1) ⟨by omega, by omega⟩, hps]
         exact ⟨rfl, rfl⟩)
      | (refine Or.inr (Or.inr ?_); (conv => whnf)
         rw [halves_not (d := d + 1) (by omega)]
         exact ⟨rfl, rfl⟩)
      | skip
    · rw [hrec (by omega) (by omega)]
      refine Ok.loopU [13] [12, 14] 2 0 (fun (i : Nat) => [.own 0 (A.length + i), .i .i64 (i : Nat)]) (fun _ b => b) (fun (i : Nat) (_ : Vx.Rows) => [some (9, A.map srow ++ (B.take i).map srow), some (9, B.map srow)]) (fun (i : Nat) => i ≤ B.length) (fun (i : Nat) => B.length - i) (0) (Nat.zero_le _) ?_; (conv => whnf); refine ⟨by ((conv => whnf); first | rfl | (simp [envCat, List.take_of_length_le, nrow, frow, bcell, srow]; done) | (simp [envCat, List.take_of_length_le, nrow, frow, bcell, srow]; rw [IntKind.wrap_i64]; omega)), ?_⟩
      intro i hi
      have hti : ((B.take i).map srow).length = i := by simp; omega
      have hap : (A.map srow ++ (B.take i).map srow).length = A.length + i := by rw [List.length_append, hAm, hti]
      (conv => whnf)
      by_cases hil : i < B.length
      · obtain ⟨c, hc⟩ : ∃ c, B[i]? = some c := ⟨_, List.getElem?_eq_getElem hil⟩
        have hcI : B[((i : Nat) : Int).toNat]? = some c := hc
        have hsn : (B.take (i + 1)).map srow = (B.take i).map srow ++ [srow c] := by rw [take_snoc hc, List.map_append]; rfl
        (try (conv => whnf)); repeat' (first | refine Ok.seq ?_ | refine OkL.cons ?_ | ((first | refine Ok.region tok ?_ | refine Ok.region_draw tok follows (by kernel_rfl) ?_ | refine Ok.cond ?_); conv => whnf) | refine Ok.block ?_ | ((first | refine Ok.skip ?_ | refine Ok.exit ?_ | refine Ok.ret ?_ | refine nI ?_ | refine ix _ (by assumption) ?_ | refine ixI (by omega) (by assumption) ?_ | refine ix_new _ (by omega) fun _ _ => ?_ | refine ixI_new (by omega) (by omega) fun _ _ => ?_ | refine ⟨_, by assumption, ?_⟩ | refine Alt2.l (aI ?_) | refine Alt2.r (aI ?_)); conv => whnf) | (refine Ok.scope ?_) | ((first | refine Ok.label ?_ | refine rd rfl (by assumption) ?_ | refine ⟨_, .inl ⟨rfl, rfl⟩, ?_⟩ | refine ⟨_, _, rfl, rfl, ?_⟩); conv => whnf) | (refine ⟨fun _ => ?_, fun _ => ?_⟩ <;> (conv => whnf) <;> (try (exfalso; omega))) | ((first | refine aJ ?_ | refine num_any ?_ | refine ⟨_, rfl, ?_⟩); conv => whnf) | fail)
        all_goals first
          | (exfalso; omega)
          | skip
        refine ⟨i + 1, by omega, by omega, ?_⟩
        rw [hsn]
        (conv => whnf)
        simp [envCat]
        omega
      · have hie : i = B.length := by omega
        subst hie
        rw [List.take_length]
        (try (conv => whnf)); repeat' (first | refine Ok.seq ?_ | refine OkL.cons ?_ | ((first | refine Ok.region tok ?_ | refine Ok.region_draw tok follows (by kernel_rfl) ?_ | refine Ok.cond ?_); conv => whnf) | refine Ok.block ?_ | ((first | refine Ok.skip ?_ | refine Ok.exit ?_ | refine Ok.ret ?_ | refine nI ?_ | refine ix _ (by assumption) ?_ | refine ixI (by omega) (by assumption) ?_ | refine ix_new _ (by omega) fun _ _ => ?_ | refine ixI_new (by omega) (by omega) fun _ _ => ?_ | refine ⟨_, by assumption, ?_⟩ | refine Alt2.l (aI ?_) | refine Alt2.r (aI ?_)); conv => whnf) | (refine Ok.scope ?_) | ((first | refine Ok.label ?_ | refine rd rfl (by assumption) ?_ | refine ⟨_, .inl ⟨rfl, rfl⟩, ?_⟩ | refine ⟨_, _, rfl, rfl, ?_⟩); conv => whnf) | (refine ⟨fun _ => ?_, fun _ => ?_⟩ <;> (conv => whnf) <;> (try (exfalso; omega))) | ((first | refine aJ ?_ | refine num_any ?_ | refine ⟨_, rfl, ?_⟩); conv => whnf) | fail)
        all_goals first
          | (exfalso; omega)
          | (refine Or.inr (Or.inl ?_); (conv => whnf)
             exact ⟨by rw [List.length_append]; rfl, by rw [List.map_append]⟩)
    · rw [hrec (by omega) (by omega)]
      refine Ok.loopU [13] [12, 14] 2 0 (fun (i : Nat) => [.own 0 (A.length + i), .i .i64 (i : Nat)]) (fun _ b => b) (fun (i : Nat) (_ : Vx.Rows) => [some (9, A.map srow ++ (B.take i).map srow), some (9, B.map srow)]) (fun (i : Nat) => i ≤ B.length) (fun (i : Nat) => B.length - i) (0) (Nat.zero_le _) ?_; (conv => whnf); refine ⟨by ((conv => whnf); first | rfl | (simp [envCat, List.take_of_length_le, nrow, frow, bcell, srow]; done) | (simp [envCat, List.take_of_length_le, nrow, frow, bcell, srow]; rw [IntKind.wrap_i64]; omega)), ?_⟩
      intro i hi
      have hti : ((B.take i).map srow).length = i := by simp; omega
      have hap : (A.map srow ++ (B.take i).map srow).length = A.length + i := by rw [List.length_append, hAm, hti]
      (conv => whnf)
      by_cases hil : i < B.length
      · obtain ⟨c, hc⟩ : ∃ c, B[i]? = some c := ⟨_, List.getElem?_eq_getElem hil⟩
        have hcI : B[((i : Nat) : Int).toNat]? = some c := hc
        have hsn : (B.take (i + 1)).map srow = (B.take i).map srow ++ [srow c] := by rw [take_snoc hc, List.map_append]; rfl
        (try (conv => whnf)); repeat' (first | refine Ok.seq ?_ | refine OkL.cons ?_ | ((first | refine Ok.region tok ?_ | refine Ok.region_draw tok follows (by kernel_rfl) ?_ | refine Ok.cond ?_); conv => whnf) | refine Ok.block ?_ | ((first | refine Ok.skip ?_ | refine Ok.exit ?_ | refine Ok.ret ?_ | refine nI ?_ | refine ix _ (by assumption) ?_ | refine ixI (by omega) (by assumption) ?_ | refine ix_new _ (by omega) fun _ _ => ?_ | refine ixI_new (by omega) (by omega) fun _ _ => ?_ | refine ⟨_, by assumption, ?_⟩ | refine Alt2.l (aI ?_) | refine Alt2.r (aI ?_)); conv => whnf) | (refine Ok.scope ?_) | ((first | refine Ok.label ?_ | refine rd rfl (by assumption) ?_ | refine ⟨_, .inl ⟨rfl, rfl⟩, ?_⟩ | refine ⟨_, _, rfl, rfl, ?_⟩); conv => whnf) | (refine ⟨fun _ => ?_, fun _ => ?_⟩ <;> (conv => whnf) <;> (try (exfalso; omega))) | ((first | refine aJ ?_ | refine num_any ?_ | refine ⟨_, rfl, ?_⟩); conv => whnf) | fail)
        all_goals first
          | (exfalso; omega)
          | skip
        refine ⟨i + 1, by omega, by omega, ?_⟩
        rw [hsn]
        (conv => whnf)
        simp [envCat]
        omega
      · have hie : i = B.length := by omega
        subst hie
        rw [List.take_length]
        (try (conv => whnf)); repeat' (first | refine Ok.seq ?_ | refine OkL.cons ?_ | ((first | refine Ok.region tok ?_ | refine Ok.region_draw tok follows (by kernel_rfl) ?_ | refine Ok.cond ?_); conv => whnf) | refine Ok.block ?_ | ((first | refine Ok.skip ?_ | refine Ok.exit ?_ | refine Ok.ret ?_ | refine nI ?_ | refine ix _ (by assumption) ?_ | refine ixI (by omega) (by assumption) ?_ | refine ix_new _ (by omega) fun _ _ => ?_ | refine ixI_new (by omega) (by omega) fun _ _ => ?_ | refine ⟨_, by assumption, ?_⟩ | refine Alt2.l (aI ?_) | refine Alt2.r (aI ?_)); conv => whnf) | (refine Ok.scope ?_) | ((first | refine Ok.label ?_ | refine rd rfl (by assumption) ?_ | refine ⟨_, .inl ⟨rfl, rfl⟩, ?_⟩ | refine ⟨_, _, rfl, rfl, ?_⟩); conv => whnf) | (refine ⟨fun _ => ?_, fun _ => ?_⟩ <;> (conv => whnf) <;> (try (exfalso; omega))) | ((first | refine aJ ?_ | refine num_any ?_ | refine ⟨_, rfl, ?_⟩); conv => whnf) | fail)
        all_goals first
          | (exfalso; omega)
          | (refine Or.inr (Or.inl ?_); (conv => whnf)
             exact ⟨by rw [List.length_append]; rfl, by rw [List.map_append]⟩)
end Go.Proofs.YtagmibogginaaaaGreatDoor
namespace Go.Proofs.YtagmibogginaaaaGreatDoor
open Go Go.Vx Go.Shelf
theorem dropW_nil (p : UInt8 → Bool) : ∀ l : Str, l.dropWhile p = [] ↔ ∀ b ∈ l, p b = true
  | [] => by simp
  | a :: l => by
    rw [List.dropWhile_cons]
    split
    · rename_i h
      rw [dropW_nil p l]
      simp [h]
    · rename_i h
      simp [h]
theorem dropW_head (p : UInt8 → Bool) : ∀ l : Str, l.dropWhile p ≠ [] → ∃ b ∈ l.dropWhile p, p b ≠ true
  | [], h => absurd rfl h
  | a :: l, h => by
    rw [List.dropWhile_cons] at h ⊢
    split
    · rename_i hp
      rw [if_pos hp] at h
      exact dropW_head p l h
    · rename_i hp
      exact ⟨a, by simp, hp⟩
theorem dropW_mem (p : UInt8 → Bool) : ∀ (l : Str) (x : UInt8), x ∈ l.dropWhile p → x ∈ l
  | [], x, h => h
  | a :: l, x, h => by
    rw [List.dropWhile_cons] at h
    split at h
    · exact List.mem_cons_of_mem _ (dropW_mem p l x h)
    · exact h
theorem trim_nil (l cs : Str) : Lib.trimS l cs = [] ↔ ∀ b ∈ l, cs.contains b = true := by
  unfold Lib.trimS Lib.trimLeftS Lib.trimRightS
  rw [dropW_nil]
  constructor
  · intro h
    by_cases hd : l.reverse.dropWhile (fun b => cs.contains b) = []
    · intro b hb
      exact (dropW_nil _ _).1 hd b (by simpa using hb)
    · obtain ⟨b, hb, hn⟩ := dropW_head _ _ hd
      exact absurd (h b (by simpa using hb)) hn
  · intro h x hx
    have h1 := dropW_mem (fun b => cs.contains b) l.reverse x (List.mem_reverse.1 hx)
    exact h x (List.mem_reverse.1 h1)
structure FormOk (t : Tst) : Prop where
  a : 1 ≤ t.op ∧ t.op ≤ 6 ∧ 1 ≤ t.form ∧ t.form ≤ 4 ∧ (t.op ≤ 2 ∨ t.form = 1) ∧ (t.form = 4 → t.lo = 0 ∧ t.hi = 0 ∧ t.len = 0) ∧ (t.form = 1 ∨ t.form = 2 → t.hi = 0) ∧ (t.form = 1 ∨ t.form = 3 → t.len = 0)
  p : t.form ≠ 4 → t.pat = []
def ValOk (t : Tst) (b : Nat) : Prop := 0 ≤ t.lo ∧ t.lo ≤ (tw b : Int) - 1 ∧ 0 ≤ t.hi ∧ t.hi ≤ (tw b : Int) - 1 ∧ 0 ≤ t.len ∧ t.len ≤ b
def DigOk (s : Str) (b : Nat) : Prop := s.length = b ∧ cubOk s
open Classical in
noncomputable def errT (t : Tst) (b : Nat) : Int :=
  if ¬ FormOk t then 47 else if ¬ ValOk t b then 42 else if t.form = 2 ∧ t.lo.toNat % tw (b - t.len.toNat) ≠ 0 then 42 else if t.form = 3 ∧ t.hi < t.lo then 43 else if t.form = 4 ∧ ¬ DigOk t.pat b then 44 else 0
theorem errT_form {t : Tst} {b : Nat} (h : ¬ FormOk t) : errT t b = 47 := by unfold errT; rw [if_pos h]
theorem errT_val {t : Tst} {b : Nat} (h : FormOk t) (h2 : ¬ ValOk t b) : errT t b = 42 := by unfold errT; rw [if_neg (fun x => x h), if_pos h2]
theorem errT_pre {t : Tst} {b : Nat} (h : FormOk t) (h2 : ValOk t b) (h3 : t.form = 2 ∧ t.lo.toNat % tw (b - t.len.toNat) ≠ 0) : errT t b = 42 := by unfold errT; rw [if_neg (fun x => x h), if_neg (fun x => x h2), if_pos h3]
theorem errT_rng {t : Tst} {b : Nat} (h : FormOk t) (h2 : ValOk t b) (h3 : ¬ (t.form = 2 ∧ t.lo.toNat % tw (b - t.len.toNat) ≠ 0)) (h4 : t.form = 3 ∧ t.hi < t.lo) : errT t b = 43 := by unfold errT; rw [if_neg (fun x => x h), if_neg (fun x => x h2), if_neg h3, if_pos h4]
theorem errT_dig {t : Tst} {b : Nat} (h : FormOk t) (h2 : ValOk t b) (h3 : ¬ (t.form = 2 ∧ t.lo.toNat % tw (b - t.len.toNat) ≠ 0)) (h4 : ¬ (t.form = 3 ∧ t.hi < t.lo)) (h5 : t.form = 4 ∧ ¬ DigOk t.pat b) : errT t b = 44 := by unfold errT; rw [if_neg (fun x => x h), if_neg (fun x => x h2), if_neg h3, if_neg h4, if_pos h5]
theorem errT_ok {t : Tst} {b : Nat} (h : FormOk t) (h2 : ValOk t b) (h3 : ¬ (t.form = 2 ∧ t.lo.toNat % tw (b - t.len.toNat) ≠ 0)) (h4 : ¬ (t.form = 3 ∧ t.hi < t.lo)) (h5 : ¬ (t.form = 4 ∧ ¬ DigOk t.pat b)) : errT t b = 0 := by unfold errT; rw [if_neg (fun x => x h), if_neg (fun x => x h2), if_neg h3, if_neg h4, if_neg h5]
theorem trim_dig (s : Str) : Lib.trimS s [48, 49, 120] = [] ↔ cubOk s := by
  rw [trim_nil]
  unfold cubOk
  constructor
  · intro h b hb
    have := h b hb
    simpa using this
  · intro h b hb
    have := h b hb
    simpa using this
theorem trim01x (s : Str) (h : s.length ≤ 9223372036854775807) : FSpec Tryz.prog T 50 [.s s, .s [48, 49, 120]] (fun d _ => d = .s (Lib.trimS s [48, 49, 120])) :=
  trim_at Tryz.vxTrim (by kernel_rfl) Tryz.call50 s [48, 49, 120] h (by decide) (by decide)
@[reducible] def tcl (f : Str) (op form lo hi len : Int) (pat : Str) : List D := [.s f, .i .i64 op, .i .i64 form, .i .i64 lo, .i .i64 hi, .i .i64 len, .s pat]
set_option maxRecDepth 100000 in
set_option maxHeartbeats 16000000 in
theorem fit_at (f : Str) (op form lo hi len : Int) (pat : Str) (b : Nat) (h1b : 1 ≤ b) (hb : b ≤ 32) (hs : pat.length ≤ 1000000000000) : FSpec Tryz.prog T 70 [.agg (tcl f op form lo hi len pat), .i .i64 (b : Nat)] (fun d _ => d = .i .i64 (errT ⟨f, op, form, lo, hi, len, pat⟩ b)) := by
  have htb := tw62 (show b ≤ 62 by omega)
  have htop := top_at b (by omega)
  have htrim := trim01x pat (by omega)
  refine FSpec.of_ok tok Tryz.func70 rfl Tryz.call70 (by simp) ?_
  by_cases hF : FormOk ⟨f, op, form, lo, hi, len, pat⟩
  · obtain ⟨hA, hP⟩ := id hF
    dsimp only at hA hP
    have h4 : form = 1 ∨ form = 2 ∨ form = 3 ∨ form = 4 := by omega
    by_cases hV : ValOk ⟨f, op, form, lo, hi, len, pat⟩ b
    · have hV2 := hV
      unfold ValOk at hV2
      dsimp only at hV2
      obtain ⟨vl, rfl⟩ : ∃ v : Nat, lo = v := ⟨lo.toNat, by omega⟩
      obtain ⟨vh, rfl⟩ : ∃ v : Nat, hi = v := ⟨hi.toNat, by omega⟩
      obtain ⟨vn, rfl⟩ : ∃ v : Nat, len = v := ⟨len.toNat, by omega⟩
      rcases h4 with rfl | rfl | rfl | rfl
      · have hp := hP (by decide)
        subst hp
        rw [errT_ok hF hV (by simp) (by simp) (by simp)]
        (try (conv => whnf)); repeat' (first | refine Ok.seq ?_ | refine OkL.cons ?_ | ((first | refine Ok.region tok ?_ | refine Ok.region_draw tok follows (by kernel_rfl) ?_ | refine Ok.cond ?_); conv => whnf) | refine Ok.block ?_ | ((first | refine Ok.skip ?_ | refine Ok.exit ?_ | refine Ok.ret ?_ | refine nI ?_ | refine ix _ (by assumption) ?_ | refine ixI (by omega) (by assumption) ?_ | refine ix_new _ (by omega) fun _ _ => ?_ | refine ixI_new (by omega) (by omega) fun _ _ => ?_ | refine ⟨_, by assumption, ?_⟩); conv => whnf) | (refine Or.inl ?_; (conv => whnf); (repeat (refine aI ?_; conv => whnf)); refine ⟨_, htop, rfl, ?_⟩; conv => whnf) | (refine ⟨_, htop, rfl, ?_⟩; conv => whnf) | (refine Or.inr (Or.inl ?_); (conv => whnf); (repeat (refine aI ?_; conv => whnf)); refine ⟨_, htop, ?_⟩; rintro _ _ ⟨rfl, rfl⟩; conv => whnf) | ((first | refine Alt2.l (aI ?_) | refine Alt2.r (aI ?_)); conv => whnf) | (refine Ok.scope ?_) | ((first | refine Ok.label ?_ | refine rd rfl (by assumption) ?_ | refine ⟨_, .inl ⟨rfl, rfl⟩, ?_⟩ | refine ⟨_, _, rfl, rfl, ?_⟩); conv => whnf) | (refine ⟨fun _ => ?_, fun _ => ?_⟩ <;> (conv => whnf) <;> (try (exfalso; omega))) | ((first | refine aJ ?_ | refine num_any ?_ | refine ⟨_, rfl, ?_⟩); conv => whnf) | fail)
        all_goals first
          | (exfalso; omega)
          | (rename_i h; exact absurd rfl h)
          | (refine Or.inl ?_; (conv => whnf)
             rfl)
      · have hp := hP (by decide)
        subst hp
        have htop2 := top_at (b - vn) (by omega)
        rw [show ((b - vn : Nat) : Int) = (b : Int) - (vn : Int) by omega] at htop2
        by_cases hm : vl % tw (b - vn) = 0
        · rw [errT_ok hF hV (by simpa using hm) (by simp) (by simp)]
          (try (conv => whnf)); repeat' (first | (refine and_i ⟨rfl, by omega⟩ ⟨rfl, by omega⟩ ?_; (conv => whnf)) | refine Ok.seq ?_ | refine OkL.cons ?_ | ((first | refine Ok.region tok ?_ | refine Ok.region_draw tok follows (by kernel_rfl) ?_ | refine Ok.cond ?_); conv => whnf) | refine Ok.block ?_ | ((first | refine Ok.skip ?_ | refine Ok.exit ?_ | refine Ok.ret ?_ | refine nI ?_ | refine ix _ (by assumption) ?_ | refine ixI (by omega) (by assumption) ?_ | refine ix_new _ (by omega) fun _ _ => ?_ | refine ixI_new (by omega) (by omega) fun _ _ => ?_ | refine ⟨_, by assumption, ?_⟩); conv => whnf) | (refine Or.inl ?_; (conv => whnf); (repeat (refine aI ?_; conv => whnf)); refine ⟨_, htop, rfl, ?_⟩; conv => whnf) | (refine Or.inl ?_; (conv => whnf); (repeat (refine aI ?_; conv => whnf)); refine ⟨_, htop2, rfl, ?_⟩; conv => whnf) | ((first | refine ⟨_, htop, rfl, ?_⟩ | refine ⟨_, htop2, rfl, ?_⟩); conv => whnf) | (refine Or.inr (Or.inl ?_); (conv => whnf); (repeat (refine aI ?_; conv => whnf)); refine ⟨_, htop, ?_⟩; rintro _ _ ⟨rfl, rfl⟩; conv => whnf) | (refine Or.inr (Or.inl ?_); (conv => whnf); (repeat (refine aI ?_; conv => whnf)); refine ⟨_, htop2, ?_⟩; rintro _ _ ⟨rfl, rfl⟩; conv => whnf) | ((first | refine Alt2.l (aI ?_) | refine Alt2.r (aI ?_)); conv => whnf) | (refine Ok.scope ?_) | ((first | refine Ok.label ?_ | refine rd rfl (by assumption) ?_ | refine ⟨_, .inl ⟨rfl, rfl⟩, ?_⟩ | refine ⟨_, _, rfl, rfl, ?_⟩); conv => whnf) | (refine ⟨fun _ => ?_, fun _ => ?_⟩ <;> (conv => whnf) <;> (try (exfalso; omega))) | ((first | refine aJ ?_ | refine num_any ?_ | refine ⟨_, rfl, ?_⟩); conv => whnf) | fail)
          all_goals first
            | (exfalso; omega)
            | (rename_i h; exact absurd rfl h)
            | (refine Or.inl ?_; (conv => whnf)
               rfl)
        · rw [errT_pre hF hV ⟨rfl, by simpa using hm⟩]
          (try (conv => whnf)); repeat' (first | (refine and_i ⟨rfl, by omega⟩ ⟨rfl, by omega⟩ ?_; (conv => whnf)) | refine Ok.seq ?_ | refine OkL.cons ?_ | ((first | refine Ok.region tok ?_ | refine Ok.region_draw tok follows (by kernel_rfl) ?_ | refine Ok.cond ?_); conv => whnf) | refine Ok.block ?_ | ((first | refine Ok.skip ?_ | refine Ok.exit ?_ | refine Ok.ret ?_ | refine nI ?_ | refine ix _ (by assumption) ?_ | refine ixI (by omega) (by assumption) ?_ | refine ix_new _ (by omega) fun _ _ => ?_ | refine ixI_new (by omega) (by omega) fun _ _ => ?_ | refine ⟨_, by assumption, ?_⟩); conv => whnf) | (refine Or.inl ?_; (conv => whnf); (repeat (refine aI ?_; conv => whnf)); refine ⟨_, htop, rfl, ?_⟩; conv => whnf) | (refine Or.inl ?_; (conv => whnf); (repeat (refine aI ?_; conv => whnf)); refine ⟨_, htop2, rfl, ?_⟩; conv => whnf) | ((first | refine ⟨_, htop, rfl, ?_⟩ | refine ⟨_, htop2, rfl, ?_⟩); conv => whnf) | (refine Or.inr (Or.inl ?_); (conv => whnf); (repeat (refine aI ?_; conv => whnf)); refine ⟨_, htop, ?_⟩; rintro _ _ ⟨rfl, rfl⟩; conv => whnf) | (refine Or.inr (Or.inl ?_); (conv => whnf); (repeat (refine aI ?_; conv => whnf)); refine ⟨_, htop2, ?_⟩; rintro _ _ ⟨rfl, rfl⟩; conv => whnf) | ((first | refine Alt2.l (aI ?_) | refine Alt2.r (aI ?_)); conv => whnf) | (refine Ok.scope ?_) | ((first | refine Ok.label ?_ | refine rd rfl (by assumption) ?_ | refine ⟨_, .inl ⟨rfl, rfl⟩, ?_⟩ | refine ⟨_, _, rfl, rfl, ?_⟩); conv => whnf) | (refine ⟨fun _ => ?_, fun _ => ?_⟩ <;> (conv => whnf) <;> (try (exfalso; omega))) | ((first | refine aJ ?_ | refine num_any ?_ | refine ⟨_, rfl, ?_⟩); conv => whnf) | fail)
          all_goals first
            | (exfalso; omega)
            | (rename_i h; exact absurd rfl h)
            | (refine Or.inl ?_; (conv => whnf)
               rfl)
      · have hp := hP (by decide)
        subst hp
        by_cases hr : (vh : Int) < vl
        · rw [errT_rng hF hV (by simp) ⟨rfl, hr⟩]
          (try (conv => whnf)); repeat' (first | refine Ok.seq ?_ | refine OkL.cons ?_ | ((first | refine Ok.region tok ?_ | refine Ok.region_draw tok follows (by kernel_rfl) ?_ | refine Ok.cond ?_); conv => whnf) | refine Ok.block ?_ | ((first | refine Ok.skip ?_ | refine Ok.exit ?_ | refine Ok.ret ?_ | refine nI ?_ | refine ix _ (by assumption) ?_ | refine ixI (by omega) (by assumption) ?_ | refine ix_new _ (by omega) fun _ _ => ?_ | refine ixI_new (by omega) (by omega) fun _ _ => ?_ | refine ⟨_, by assumption, ?_⟩); conv => whnf) | (refine Or.inl ?_; (conv => whnf); (repeat (refine aI ?_; conv => whnf)); refine ⟨_, htop, rfl, ?_⟩; conv => whnf) | (refine ⟨_, htop, rfl, ?_⟩; conv => whnf) | (refine Or.inr (Or.inl ?_); (conv => whnf); (repeat (refine aI ?_; conv => whnf)); refine ⟨_, htop, ?_⟩; rintro _ _ ⟨rfl, rfl⟩; conv => whnf) | ((first | refine Alt2.l (aI ?_) | refine Alt2.r (aI ?_)); conv => whnf) | (refine Ok.scope ?_) | ((first | refine Ok.label ?_ | refine rd rfl (by assumption) ?_ | refine ⟨_, .inl ⟨rfl, rfl⟩, ?_⟩ | refine ⟨_, _, rfl, rfl, ?_⟩); conv => whnf) | (refine ⟨fun _ => ?_, fun _ => ?_⟩ <;> (conv => whnf) <;> (try (exfalso; omega))) | ((first | refine aJ ?_ | refine num_any ?_ | refine ⟨_, rfl, ?_⟩); conv => whnf) | fail)
          all_goals first
            | (exfalso; omega)
            | (rename_i h; exact absurd rfl h)
            | (refine Or.inl ?_; (conv => whnf)
               rfl)
        · rw [errT_ok hF hV (by simp) (fun h => hr h.2) (by simp)]
          (try (conv => whnf)); repeat' (first | refine Ok.seq ?_ | refine OkL.cons ?_ | ((first | refine Ok.region tok ?_ | refine Ok.region_draw tok follows (by kernel_rfl) ?_ | refine Ok.cond ?_); conv => whnf) | refine Ok.block ?_ | ((first | refine Ok.skip ?_ | refine Ok.exit ?_ | refine Ok.ret ?_ | refine nI ?_ | refine ix _ (by assumption) ?_ | refine ixI (by omega) (by assumption) ?_ | refine ix_new _ (by omega) fun _ _ => ?_ | refine ixI_new (by omega) (by omega) fun _ _ => ?_ | refine ⟨_, by assumption, ?_⟩); conv => whnf) | (refine Or.inl ?_; (conv => whnf); (repeat (refine aI ?_; conv => whnf)); refine ⟨_, htop, rfl, ?_⟩; conv => whnf) | (refine ⟨_, htop, rfl, ?_⟩; conv => whnf) | (refine Or.inr (Or.inl ?_); (conv => whnf); (repeat (refine aI ?_; conv => whnf)); refine ⟨_, htop, ?_⟩; rintro _ _ ⟨rfl, rfl⟩; conv => whnf) | ((first | refine Alt2.l (aI ?_) | refine Alt2.r (aI ?_)); conv => whnf) | (refine Ok.scope ?_) | ((first | refine Ok.label ?_ | refine rd rfl (by assumption) ?_ | refine ⟨_, .inl ⟨rfl, rfl⟩, ?_⟩ | refine ⟨_, _, rfl, rfl, ?_⟩); conv => whnf) | (refine ⟨fun _ => ?_, fun _ => ?_⟩ <;> (conv => whnf) <;> (try (exfalso; omega))) | ((first | refine aJ ?_ | refine num_any ?_ | refine ⟨_, rfl, ?_⟩); conv => whnf) | fail)
          all_goals first
            | (exfalso; omega)
            | (rename_i h; exact absurd rfl h)
            | (refine Or.inl ?_; (conv => whnf)
               rfl)
      · have htd := trim_dig pat
        by_cases hd : DigOk pat b
        · rw [errT_ok hF hV (by simp) (by simp) (fun h => h.2 hd)]
          have hd2 := hd
          obtain ⟨hd1, hdc⟩ := hd2
          (try (conv => whnf)); repeat' (first | refine Ok.seq ?_ | refine OkL.cons ?_ | ((first | refine Ok.region tok ?_ | refine Ok.region_draw tok follows (by kernel_rfl) ?_ | refine Ok.cond ?_); conv => whnf) | refine Ok.block ?_ | ((first | refine Ok.skip ?_ | refine Ok.exit ?_ | refine Ok.ret ?_ | refine nI ?_ | refine ix _ (by assumption) ?_ | refine ixI (by omega) (by assumption) ?_ | refine ix_new _ (by omega) fun _ _ => ?_ | refine ixI_new (by omega) (by omega) fun _ _ => ?_ | refine ⟨_, by assumption, ?_⟩); conv => whnf) | (refine Or.inl ?_; (conv => whnf); (repeat (refine aI ?_; conv => whnf)); refine ⟨_, htop, rfl, ?_⟩; conv => whnf) | (refine Or.inl ?_; (conv => whnf); (repeat (refine aI ?_; conv => whnf)); refine ⟨_, htrim, rfl, ?_⟩; conv => whnf) | ((first | refine ⟨_, htop, rfl, ?_⟩ | refine ⟨_, htrim, rfl, ?_⟩); conv => whnf) | (refine Or.inr (Or.inl ?_); (conv => whnf); (repeat (refine aI ?_; conv => whnf)); refine ⟨_, htop, ?_⟩; rintro _ _ ⟨rfl, rfl⟩; conv => whnf) | (refine Or.inr (Or.inl ?_); (conv => whnf); (repeat (refine aI ?_; conv => whnf)); refine ⟨_, htrim, ?_⟩; rintro _ _ ⟨rfl, rfl⟩; conv => whnf) | ((first | refine Alt2.l (aI ?_) | refine Alt2.r (aI ?_)); conv => whnf) | (refine Ok.scope ?_) | ((first | refine Ok.label ?_ | refine rd rfl (by assumption) ?_ | refine ⟨_, .inl ⟨rfl, rfl⟩, ?_⟩ | refine ⟨_, _, rfl, rfl, ?_⟩); conv => whnf) | (refine ⟨fun _ => ?_, fun _ => ?_⟩ <;> (conv => whnf) <;> (try (exfalso; omega))) | ((first | refine aJ ?_ | refine num_any ?_ | refine ⟨_, rfl, ?_⟩); conv => whnf) | fail)
          all_goals first
            | (exfalso; omega)
            | (rename_i h; exact absurd (htd.2 hdc) h)
            | (refine Or.inl ?_; (conv => whnf)
               rfl)
        · rw [errT_dig hF hV (by simp) (by simp) ⟨rfl, hd⟩]
          (try (conv => whnf)); repeat' (first | refine Ok.seq ?_ | refine OkL.cons ?_ | ((first | refine Ok.region tok ?_ | refine Ok.region_draw tok follows (by kernel_rfl) ?_ | refine Ok.cond ?_); conv => whnf) | refine Ok.block ?_ | ((first | refine Ok.skip ?_ | refine Ok.exit ?_ | refine Ok.ret ?_ | refine nI ?_ | refine ix _ (by assumption) ?_ | refine ixI (by omega) (by assumption) ?_ | refine ix_new _ (by omega) fun _ _ => ?_ | refine ixI_new (by omega) (by omega) fun _ _ => ?_ | refine ⟨_, by assumption, ?_⟩); conv => whnf) | (refine Or.inl ?_; (conv => whnf); (repeat (refine aI ?_; conv => whnf)); refine ⟨_, htop, rfl, ?_⟩; conv => whnf) | (refine Or.inl ?_; (conv => whnf); (repeat (refine aI ?_; conv => whnf)); refine ⟨_, htrim, rfl, ?_⟩; conv => whnf) | ((first | refine ⟨_, htop, rfl, ?_⟩ | refine ⟨_, htrim, rfl, ?_⟩); conv => whnf) | (refine Or.inr (Or.inl ?_); (conv => whnf); (repeat (refine aI ?_; conv => whnf)); refine ⟨_, htop, ?_⟩; rintro _ _ ⟨rfl, rfl⟩; conv => whnf) | (refine Or.inr (Or.inl ?_); (conv => whnf); (repeat (refine aI ?_; conv => whnf)); refine ⟨_, htrim, ?_⟩; rintro _ _ ⟨rfl, rfl⟩; conv => whnf) | ((first | refine Alt2.l (aI ?_) | refine Alt2.r (aI ?_)); conv => whnf) | (refine Ok.scope ?_) | ((first | refine Ok.label ?_ | refine rd rfl (by assumption) ?_ | refine ⟨_, .inl ⟨rfl, rfl⟩, ?_⟩ | refine ⟨_, _, rfl, rfl, ?_⟩); conv => whnf) | (refine ⟨fun _ => ?_, fun _ => ?_⟩ <;> (conv => whnf) <;> (try (exfalso; omega))) | ((first | refine aJ ?_ | refine num_any ?_ | refine ⟨_, rfl, ?_⟩); conv => whnf) | fail)
          all_goals first
            | (exfalso; omega)
            | (refine Or.inl ?_; (conv => whnf)
               rfl)
            | (rename_i h1 h2; exact absurd ⟨by omega, htd.1 (by simpa using h2)⟩ hd)
    · have hV2 := hV
      unfold ValOk at hV2
      dsimp only at hV2
      rw [errT_val hF hV]
      rcases h4 with rfl | rfl | rfl | rfl
      all_goals
        (try (conv => whnf)); repeat' (first | refine Ok.seq ?_ | refine OkL.cons ?_ | ((first | refine Ok.region tok ?_ | refine Ok.region_draw tok follows (by kernel_rfl) ?_ | refine Ok.cond ?_); conv => whnf) | refine Ok.block ?_ | ((first | refine Ok.skip ?_ | refine Ok.exit ?_ | refine Ok.ret ?_ | refine nI ?_ | refine ix _ (by assumption) ?_ | refine ixI (by omega) (by assumption) ?_ | refine ix_new _ (by omega) fun _ _ => ?_ | refine ixI_new (by omega) (by omega) fun _ _ => ?_ | refine ⟨_, by assumption, ?_⟩); conv => whnf) | (refine Or.inl ?_; (conv => whnf); (repeat (refine aI ?_; conv => whnf)); refine ⟨_, htop, rfl, ?_⟩; conv => whnf) | (refine ⟨_, htop, rfl, ?_⟩; conv => whnf) | (refine Or.inr (Or.inl ?_); (conv => whnf); (repeat (refine aI ?_; conv => whnf)); refine ⟨_, htop, ?_⟩; rintro _ _ ⟨rfl, rfl⟩; conv => whnf) | ((first | refine Alt2.l (aI ?_) | refine Alt2.r (aI ?_)); conv => whnf) | (refine Ok.scope ?_) | ((first | refine Ok.label ?_ | refine rd rfl (by assumption) ?_ | refine ⟨_, .inl ⟨rfl, rfl⟩, ?_⟩ | refine ⟨_, _, rfl, rfl, ?_⟩); conv => whnf) | (refine ⟨fun _ => ?_, fun _ => ?_⟩ <;> (conv => whnf) <;> (try (exfalso; omega))) | ((first | refine aJ ?_ | refine num_any ?_ | refine ⟨_, rfl, ?_⟩); conv => whnf) | fail)
      all_goals first
        | (exfalso; omega)
        | (rename_i h; exact absurd (hP (by decide)) h)
        | (refine Or.inl ?_; (conv => whnf)
           rfl)
        | trace_state
  · rw [errT_form hF]
    by_cases hf4 : 1 ≤ form ∧ form ≤ 4
    · by_cases hp : form ≠ 4 → pat = []
      · have hA : ¬ (1 ≤ op ∧ op ≤ 6 ∧ 1 ≤ form ∧ form ≤ 4 ∧ (op ≤ 2 ∨ form = 1) ∧ (form = 4 → lo = 0 ∧ hi = 0 ∧ len = 0) ∧ (form = 1 ∨ form = 2 → hi = 0) ∧ (form = 1 ∨ form = 3 → len = 0)) := fun h => hF ⟨h, hp⟩
        have h4 : form = 1 ∨ form = 2 ∨ form = 3 ∨ form = 4 := by omega
        rcases h4 with rfl | rfl | rfl | rfl
        all_goals
          (try (conv => whnf)); repeat' (first | refine Ok.seq ?_ | refine OkL.cons ?_ | ((first | refine Ok.region tok ?_ | refine Ok.region_draw tok follows (by kernel_rfl) ?_ | refine Ok.cond ?_); conv => whnf) | refine Ok.block ?_ | ((first | refine Ok.skip ?_ | refine Ok.exit ?_ | refine Ok.ret ?_ | refine nI ?_ | refine ix _ (by assumption) ?_ | refine ixI (by omega) (by assumption) ?_ | refine ix_new _ (by omega) fun _ _ => ?_ | refine ixI_new (by omega) (by omega) fun _ _ => ?_ | refine ⟨_, by assumption, ?_⟩); conv => whnf) | (refine Or.inl ?_; (conv => whnf); (repeat (refine aI ?_; conv => whnf)); refine ⟨_, htop, rfl, ?_⟩; conv => whnf) | (refine ⟨_, htop, rfl, ?_⟩; conv => whnf) | (refine Or.inr (Or.inl ?_); (conv => whnf); (repeat (refine aI ?_; conv => whnf)); refine ⟨_, htop, ?_⟩; rintro _ _ ⟨rfl, rfl⟩; conv => whnf) | ((first | refine Alt2.l (aI ?_) | refine Alt2.r (aI ?_)); conv => whnf) | (refine Ok.scope ?_) | ((first | refine Ok.label ?_ | refine rd rfl (by assumption) ?_ | refine ⟨_, .inl ⟨rfl, rfl⟩, ?_⟩ | refine ⟨_, _, rfl, rfl, ?_⟩); conv => whnf) | (refine ⟨fun _ => ?_, fun _ => ?_⟩ <;> (conv => whnf) <;> (try (exfalso; omega))) | ((first | refine aJ ?_ | refine num_any ?_ | refine ⟨_, rfl, ?_⟩); conv => whnf) | fail)
        all_goals first
          | (exfalso; omega)
          | (rename_i h; exact absurd (hp (by decide)) h)
          | (refine Or.inl ?_; (conv => whnf)
             rfl)
          | trace_state
      · have h4 : form = 1 ∨ form = 2 ∨ form = 3 := by omega
        have hpn : pat ≠ [] := fun e => hp fun _ => e
        rcases h4 with rfl | rfl | rfl
        all_goals
          (try (conv => whnf)); repeat' (first | refine Ok.seq ?_ | refine OkL.cons ?_ | ((first | refine Ok.region tok ?_ | refine Ok.region_draw tok follows (by kernel_rfl) ?_ | refine Ok.cond ?_); conv => whnf) | refine Ok.block ?_ | ((first | refine Ok.skip ?_ | refine Ok.exit ?_ | refine Ok.ret ?_ | refine nI ?_ | refine ix _ (by assumption) ?_ | refine ixI (by omega) (by assumption) ?_ | refine ix_new _ (by omega) fun _ _ => ?_ | refine ixI_new (by omega) (by omega) fun _ _ => ?_ | refine ⟨_, by assumption, ?_⟩); conv => whnf) | (refine Or.inl ?_; (conv => whnf); (repeat (refine aI ?_; conv => whnf)); refine ⟨_, htop, rfl, ?_⟩; conv => whnf) | (refine ⟨_, htop, rfl, ?_⟩; conv => whnf) | (refine Or.inr (Or.inl ?_); (conv => whnf); (repeat (refine aI ?_; conv => whnf)); refine ⟨_, htop, ?_⟩; rintro _ _ ⟨rfl, rfl⟩; conv => whnf) | ((first | refine Alt2.l (aI ?_) | refine Alt2.r (aI ?_)); conv => whnf) | (refine Ok.scope ?_) | ((first | refine Ok.label ?_ | refine rd rfl (by assumption) ?_ | refine ⟨_, .inl ⟨rfl, rfl⟩, ?_⟩ | refine ⟨_, _, rfl, rfl, ?_⟩); conv => whnf) | (refine ⟨fun _ => ?_, fun _ => ?_⟩ <;> (conv => whnf) <;> (try (exfalso; omega))) | ((first | refine aJ ?_ | refine num_any ?_ | refine ⟨_, rfl, ?_⟩); conv => whnf) | fail)
        all_goals first
          | (exfalso; omega)
          | (refine Or.inl ?_; (conv => whnf)
             rfl)
          | (rename_i h; exact absurd (by simpa using h) hpn)
          | exact absurd (Classical.not_not.1 (by assumption)) hpn
          | (refine absurd ?_ hpn; rename_i h1 h2; simpa using h1)
          | (refine absurd ?_ hpn; rename_i h1 h2 h3; simpa using h1)
          | (refine absurd ?_ hpn; rename_i h1 h2 h3 h4; simpa using h1)
          | (refine absurd ?_ hpn; rename_i h1 h2 h3 h4 h5; simpa using h1)
          | trace_state
    · (try (conv => whnf)); repeat' (first | refine Ok.seq ?_ | refine OkL.cons ?_ | ((first | refine Ok.region tok ?_ | refine Ok.region_draw tok follows (by kernel_rfl) ?_ | refine Ok.cond ?_); conv => whnf) | refine Ok.block ?_ | ((first | refine Ok.skip ?_ | refine Ok.exit ?_ | refine Ok.ret ?_ | refine nI ?_ | refine ix _ (by assumption) ?_ | refine ixI (by omega) (by assumption) ?_ | refine ix_new _ (by omega) fun _ _ => ?_ | refine ixI_new (by omega) (by omega) fun _ _ => ?_ | refine ⟨_, by assumption, ?_⟩); conv => whnf) | (refine Or.inl ?_; (conv => whnf); (repeat (refine aI ?_; conv => whnf)); refine ⟨_, htop, rfl, ?_⟩; conv => whnf) | (refine ⟨_, htop, rfl, ?_⟩; conv => whnf) | (refine Or.inr (Or.inl ?_); (conv => whnf); (repeat (refine aI ?_; conv => whnf)); refine ⟨_, htop, ?_⟩; rintro _ _ ⟨rfl, rfl⟩; conv => whnf) | ((first | refine Alt2.l (aI ?_) | refine Alt2.r (aI ?_)); conv => whnf) | (refine Ok.scope ?_) | ((first | refine Ok.label ?_ | refine rd rfl (by assumption) ?_ | refine ⟨_, .inl ⟨rfl, rfl⟩, ?_⟩ | refine ⟨_, _, rfl, rfl, ?_⟩); conv => whnf) | (refine ⟨fun _ => ?_, fun _ => ?_⟩ <;> (conv => whnf) <;> (try (exfalso; omega))) | ((first | refine aJ ?_ | refine num_any ?_ | refine ⟨_, rfl, ?_⟩); conv => whnf) | fail)
      all_goals first
        | (exfalso; omega)
        | (refine Or.inl ?_; (conv => whnf)
           rfl)
        | trace_state
end Go.Proofs.YtagmibogginaaaaGreatDoor
namespace Go.Proofs.YtagmibogginaaaaGreatDoor
open Go Go.Vx Go.Shelf
def plI (nm : Str) (l : List Fd) : Int := if findI nm l 0 < 0 then -1 else (wid (l.take (findI nm l 0).toNat) : Nat)
theorem plI_none {nm : Str} {l : List Fd} (h : findI nm l 0 = -1) : plI nm l = -1 := by unfold plI; rw [if_pos (by omega)]
theorem plI_some {nm : Str} {l : List Fd} {i : Nat} (h : findI nm l 0 = i) : plI nm l = (wid (l.take i) : Nat) := by unfold plI; rw [if_neg (by omega), h]; rfl
set_option maxHeartbeats 4000000 in
theorem tplace_at (l : List Fd) (r : List (List D)) (nm : Str) (hl : l.length ≤ 1000) (hlay : LayF l) : FSpec Tryz.prog T 45 [.lst 34 (l.map frow) r, .s nm] (fun d _ => d = .tup [.i .i64 (plI nm l), .i .i64 (findI nm l 0)]) := by
  have h1 : (l.map frow).length = l.length := by simp
  have hw := wid_le hlay
  refine FSpec.of_ok tok Tryz.func45 rfl Tryz.call45 (by simp) ?_
  (try (conv => whnf)); repeat' (first | refine Ok.seq ?_ | refine OkL.cons ?_ | ((first | refine Ok.region tok ?_ | refine Ok.region_draw tok follows (by kernel_rfl) ?_ | refine Ok.cond ?_); conv => whnf) | refine Ok.block ?_ | ((first | refine Ok.skip ?_ | refine Ok.exit ?_ | refine Ok.ret ?_ | refine nI ?_ | refine ix _ (by assumption) ?_ | refine ixI (by omega) (by assumption) ?_ | refine ix_new _ (by omega) fun _ _ => ?_ | refine ixI_new (by omega) (by omega) fun _ _ => ?_ | refine ⟨_, by assumption, ?_⟩ | refine Alt2.l (aI ?_) | refine Alt2.r (aI ?_)); conv => whnf) | (refine Ok.scope ?_) | ((first | refine Ok.label ?_ | refine rd rfl (by assumption) ?_ | refine ⟨_, .inl ⟨rfl, rfl⟩, ?_⟩ | refine ⟨_, _, rfl, rfl, ?_⟩); conv => whnf) | (refine ⟨fun _ => ?_, fun _ => ?_⟩ <;> (conv => whnf) <;> (try (exfalso; omega))) | ((first | refine aJ ?_ | refine num_any ?_ | refine ⟨_, rfl, ?_⟩); conv => whnf) | fail)
  refine Ok.loopU [0, 1] [6, 7] 0 0 (fun (i : Nat) => [.i .i64 (wid (l.take i) : Nat), .i .i64 (i : Nat)]) (fun _ b => b) (fun _ r => r) (fun (i : Nat) => i ≤ l.length ∧ findI nm l 0 = findI nm (l.drop i) i) (fun (i : Nat) => l.length - i) (0) (⟨Nat.zero_le _, rfl⟩) ?_; (conv => whnf); refine ⟨by ((conv => whnf); first | rfl | (simp [envCat, List.take_of_length_le, nrow, frow, bcell, srow, tcells]; done) | (simp [envCat, List.take_of_length_le, nrow, frow, bcell, srow, tcells]; rw [IntKind.wrap_i64]; omega)), ?_⟩
  rintro i ⟨hi, hf⟩
  (conv => whnf)
  by_cases hil : i < l.length
  · obtain ⟨c, hc⟩ : ∃ c, l[i]? = some c := ⟨_, List.getElem?_eq_getElem hil⟩
    have hcI : l[((i : Nat) : Int).toNat]? = some c := hc
    have hcb := hlay c (List.mem_of_getElem? hc)
    have hsn := wid_snoc hc
    have hwt := wid_le (l := l.take i) fun x hx => hlay x (List.mem_of_mem_take hx)
    have hti : (l.take i).length = i := by simp; omega
    rw [fdrop_at hc] at hf
    (try (conv => whnf)); repeat' (first | refine Ok.seq ?_ | refine OkL.cons ?_ | ((first | refine Ok.region tok ?_ | refine Ok.region_draw tok follows (by kernel_rfl) ?_ | refine Ok.cond ?_); conv => whnf) | refine Ok.block ?_ | ((first | refine Ok.skip ?_ | refine Ok.exit ?_ | refine Ok.ret ?_ | refine nI ?_ | refine ix _ (by assumption) ?_ | refine ixI (by omega) (by assumption) ?_ | refine ix_new _ (by omega) fun _ _ => ?_ | refine ixI_new (by omega) (by omega) fun _ _ => ?_ | refine ⟨_, by assumption, ?_⟩ | refine Alt2.l (aI ?_) | refine Alt2.r (aI ?_)); conv => whnf) | (refine Ok.scope ?_) | ((first | refine Ok.label ?_ | refine rd rfl (by assumption) ?_ | refine ⟨_, .inl ⟨rfl, rfl⟩, ?_⟩ | refine ⟨_, _, rfl, rfl, ?_⟩); conv => whnf) | (refine ⟨fun _ => ?_, fun _ => ?_⟩ <;> (conv => whnf) <;> (try (exfalso; omega))) | ((first | refine aJ ?_ | refine num_any ?_ | refine ⟨_, rfl, ?_⟩); conv => whnf) | fail)
    all_goals first
      | (exfalso; omega)
      | (rename_i h
         have hfi : findI nm l 0 = (i : Nat) := by
           rw [hf]
           unfold findI
           rw [if_pos h]
         refine Or.inl ?_; (conv => whnf)
         rw [plI_some hfi, hfi]
         rfl)
      | (rename_i h
         refine ⟨i + 1, by omega, ⟨by omega, ?_⟩, ?_⟩
         · rw [hf]
           conv => lhs; unfold findI
           rw [if_neg h]
         · rw [hsn, show ((wid (l.take i) + c.bits.toNat : Nat) : Int) = (wid (l.take i) : Int) + c.bits by omega]
           (conv => whnf)
           rfl)
      | trace_state
  · have hie : i = l.length := by omega
    subst hie
    rw [List.drop_length] at hf
    have hfi : findI nm l 0 = -1 := hf
    (try (conv => whnf)); repeat' (first | refine Ok.seq ?_ | refine OkL.cons ?_ | ((first | refine Ok.region tok ?_ | refine Ok.region_draw tok follows (by kernel_rfl) ?_ | refine Ok.cond ?_); conv => whnf) | refine Ok.block ?_ | ((first | refine Ok.skip ?_ | refine Ok.exit ?_ | refine Ok.ret ?_ | refine nI ?_ | refine ix _ (by assumption) ?_ | refine ixI (by omega) (by assumption) ?_ | refine ix_new _ (by omega) fun _ _ => ?_ | refine ixI_new (by omega) (by omega) fun _ _ => ?_ | refine ⟨_, by assumption, ?_⟩ | refine Alt2.l (aI ?_) | refine Alt2.r (aI ?_)); conv => whnf) | (refine Ok.scope ?_) | ((first | refine Ok.label ?_ | refine rd rfl (by assumption) ?_ | refine ⟨_, .inl ⟨rfl, rfl⟩, ?_⟩ | refine ⟨_, _, rfl, rfl, ?_⟩); conv => whnf) | (refine ⟨fun _ => ?_, fun _ => ?_⟩ <;> (conv => whnf) <;> (try (exfalso; omega))) | ((first | refine aJ ?_ | refine num_any ?_ | refine ⟨_, rfl, ?_⟩); conv => whnf) | fail)
    all_goals first
      | (exfalso; omega)
      | (refine Or.inl ?_; (conv => whnf)
         rw [plI_none hfi, hfi]
         rfl)
      | trace_state
theorem form_nil (f : Str) (op form lo hi len : Int) : FormOk ⟨f, op, form, lo, hi, len, []⟩ ↔ (1 ≤ op ∧ op ≤ 6 ∧ 1 ≤ form ∧ form ≤ 4 ∧ (op ≤ 2 ∨ form = 1) ∧ (form = 4 → lo = 0 ∧ hi = 0 ∧ len = 0) ∧ (form = 1 ∨ form = 2 → hi = 0) ∧ (form = 1 ∨ form = 3 → len = 0)) :=
  ⟨fun h => h.a, fun h => ⟨h, fun _ => rfl⟩⟩
theorem form_ne (f : Str) (op form lo hi len : Int) {pat : Str} (h : pat ≠ []) : FormOk ⟨f, op, form, lo, hi, len, pat⟩ ↔ (1 ≤ op ∧ op ≤ 6 ∧ 1 ≤ form ∧ form ≤ 4 ∧ (op ≤ 2 ∨ form = 1) ∧ (form = 4 → lo = 0 ∧ hi = 0 ∧ len = 0) ∧ (form = 1 ∨ form = 2 → hi = 0) ∧ (form = 1 ∨ form = 3 → len = 0) ∧ form = 4) := by
  constructor
  · intro h2
    have h3 : form = 4 := Classical.byContradiction fun e => h (h2.p e)
    have := h2.a
    dsimp only at this
    omega
  · intro h2
    exact ⟨by dsimp only; omega, fun h3 => absurd h2.2.2.2.2.2.2.2.2 h3⟩
set_option maxRecDepth 100000 in
set_option maxHeartbeats 16000000 in
theorem tform_at (f : Str) (op form lo hi len : Int) (pat : Str) : FSpec Tryz.prog T 74 [.agg (tcl f op form lo hi len pat)] (fun d _ => d = .b (FormOk ⟨f, op, form, lo, hi, len, pat⟩)) := by
  refine FSpec.of_ok tok Tryz.func74 rfl Tryz.call74 (by simp) ?_
  by_cases hp : pat = []
  · subst hp
    have hfn := propext (form_nil f op form lo hi len)
    (try (conv => whnf)); repeat' (first | refine Ok.seq ?_ | refine OkL.cons ?_ | ((first | refine Ok.region tok ?_ | refine Ok.region_draw tok follows (by kernel_rfl) ?_ | refine Ok.cond ?_); conv => whnf) | refine Ok.block ?_ | ((first | refine Ok.skip ?_ | refine Ok.exit ?_ | refine Ok.ret ?_ | refine nI ?_ | refine ix _ (by assumption) ?_ | refine ixI (by omega) (by assumption) ?_ | refine ix_new _ (by omega) fun _ _ => ?_ | refine ixI_new (by omega) (by omega) fun _ _ => ?_ | refine ⟨_, by assumption, ?_⟩ | refine Alt2.l (aI ?_) | refine Alt2.r (aI ?_)); conv => whnf) | (refine Ok.scope ?_) | ((first | refine Ok.label ?_ | refine rd rfl (by assumption) ?_ | refine ⟨_, .inl ⟨rfl, rfl⟩, ?_⟩ | refine ⟨_, _, rfl, rfl, ?_⟩); conv => whnf) | (refine ⟨fun _ => ?_, fun _ => ?_⟩ <;> (conv => whnf) <;> (try (exfalso; omega))) | ((first | refine aJ ?_ | refine num_any ?_ | refine ⟨_, rfl, ?_⟩); conv => whnf) | fail)
    all_goals first
      | (exfalso; omega)
      | (rename_i h; exact absurd rfl h)
      | (refine Or.inl ?_; (conv => whnf)
         refine congrArg D.b ?_
         rw [hfn]
         exact propext ⟨fun h => by first | exact h.elim | omega, fun h => by first | exact trivial | omega⟩)
      | trace_state
  · have hfn := propext (form_ne f op form lo hi len hp)
    (try (conv => whnf)); repeat' (first | refine Ok.seq ?_ | refine OkL.cons ?_ | ((first | refine Ok.region tok ?_ | refine Ok.region_draw tok follows (by kernel_rfl) ?_ | refine Ok.cond ?_); conv => whnf) | refine Ok.block ?_ | ((first | refine Ok.skip ?_ | refine Ok.exit ?_ | refine Ok.ret ?_ | refine nI ?_ | refine ix _ (by assumption) ?_ | refine ixI (by omega) (by assumption) ?_ | refine ix_new _ (by omega) fun _ _ => ?_ | refine ixI_new (by omega) (by omega) fun _ _ => ?_ | refine ⟨_, by assumption, ?_⟩ | refine Alt2.l (aI ?_) | refine Alt2.r (aI ?_)); conv => whnf) | (refine Ok.scope ?_) | ((first | refine Ok.label ?_ | refine rd rfl (by assumption) ?_ | refine ⟨_, .inl ⟨rfl, rfl⟩, ?_⟩ | refine ⟨_, _, rfl, rfl, ?_⟩); conv => whnf) | (refine ⟨fun _ => ?_, fun _ => ?_⟩ <;> (conv => whnf) <;> (try (exfalso; omega))) | ((first | refine aJ ?_ | refine num_any ?_ | refine ⟨_, rfl, ?_⟩); conv => whnf) | fail)
    all_goals first
      | (exfalso; omega)
      | (refine Or.inl ?_; (conv => whnf)
         refine congrArg D.b ?_
         rw [hfn]
         exact propext ⟨fun h => by first | exact h.elim | omega, fun h => by first | exact trivial | omega⟩)
      | (refine absurd ?_ hp; rename_i h1; simpa using h1)
      | (refine absurd ?_ hp; rename_i h1 h2; simpa using h1)
      | (refine absurd ?_ hp; rename_i h1 h2 h3; simpa using h1)
      | (refine absurd ?_ hp; rename_i h1 h2 h3 h4; simpa using h1)
      | trace_state
open Classical in
/-- The error of a test over a layout. -/
noncomputable def errF (l : List Fd) (t : Tst) : Int := if findI t.f l 0 < 0 then 41 else match l[(findI t.f l 0).toNat]? with | some c => errT t c.bits.toNat | none => 0
theorem errF_none {l : List Fd} {t : Tst} (h : findI t.f l 0 = -1) : errF l t = 41 := by unfold errF; rw [if_pos (by omega)]
theorem errF_some {l : List Fd} {t : Tst} {k : Nat} {c : Fd} (h : findI t.f l 0 = (k : Nat)) (hc : l[k]? = some c) : errF l t = errT t c.bits.toNat := by
  unfold errF; rw [if_neg (by omega), h, Int.toNat_natCast, hc]
theorem find_cases (nm : Str) (l : List Fd) : findI nm l 0 = -1 ∨ ∃ (k : Nat) (c : Fd), findI nm l 0 = (k : Nat) ∧ l[k]? = some c := by
  obtain ⟨_, h1, h2⟩ := findI_ge nm l 0
  by_cases h : findI nm l 0 < 0
  · exact .inl (by omega)
  · exact .inr ⟨(findI nm l 0).toNat, l[(findI nm l 0).toNat]'(by omega), by omega, List.getElem?_eq_getElem _⟩
theorem u8_dig (x : UInt8) : (x = 48 ∨ x = 49 ∨ x = 120) ↔ (x.toNat = 48 ∨ x.toNat = 49 ∨ x.toNat = 120) := by
  rw [← UInt8.toNat_inj, ← UInt8.toNat_inj, ← UInt8.toNat_inj]; rfl
set_option maxRecDepth 100000 in
set_option maxHeartbeats 32000000 in
theorem rtest_at (l : List Fd) (r : List (List D)) (hl : l.length ≤ 1000) (hlay : LayF l) (f : Str) (op form lo hi len : Int) (pat : Str) (hs : pat.length ≤ 1000000000000) :
    FSpec Tryz.prog T 44 [.lst 34 (l.map frow) r, .agg (tcl f op form lo hi len pat)] (fun d _ => d = .i .i64 (errF l ⟨f, op, form, lo, hi, len, pat⟩)) := by
  have h1 : (l.map frow).length = l.length := by simp
  have hpl := tplace_at l r f hl hlay
  have hform := tform_at f op form lo hi len pat
  refine FSpec.of_ok tok Tryz.func44 rfl Tryz.call44 (by simp) ?_
  rcases find_cases f l with hfi | ⟨k, c, hfi, hc⟩
  · rw [errF_none hfi]
    rw [hfi] at hpl
    (try (conv => whnf)); repeat' (first | refine Ok.seq ?_ | refine OkL.cons ?_ | ((first | refine Ok.region tok ?_ | refine Ok.region_draw tok follows (by kernel_rfl) ?_ | refine Ok.cond ?_); conv => whnf) | refine Ok.block ?_ | ((first | refine Ok.skip ?_ | refine Ok.exit ?_ | refine Ok.ret ?_ | refine nI ?_ | refine ix _ (by assumption) ?_ | refine ixI (by omega) (by assumption) ?_ | refine ix_new _ (by omega) fun _ _ => ?_ | refine ixI_new (by omega) (by omega) fun _ _ => ?_ | refine ⟨_, by assumption, ?_⟩); conv => whnf) | (refine Or.inl ?_; (conv => whnf); (repeat (refine aI ?_; conv => whnf)); refine ⟨_, hpl, rfl, ?_⟩; conv => whnf) | (refine ⟨_, hpl, rfl, ?_⟩; conv => whnf) | (refine Or.inr (Or.inl ?_); (conv => whnf); (repeat (refine aI ?_; conv => whnf)); refine ⟨_, hpl, ?_⟩; rintro _ _ ⟨rfl, rfl⟩; conv => whnf) | ((first | refine Alt2.l (aI ?_) | refine Alt2.r (aI ?_)); conv => whnf) | (refine Ok.scope ?_) | ((first | refine Ok.label ?_ | refine rd rfl (by assumption) ?_ | refine ⟨_, .inl ⟨rfl, rfl⟩, ?_⟩ | refine ⟨_, _, rfl, rfl, ?_⟩); conv => whnf) | (refine ⟨fun _ => ?_, fun _ => ?_⟩ <;> (conv => whnf) <;> (try (exfalso; omega))) | ((first | refine aJ ?_ | refine num_any ?_ | refine ⟨_, rfl, ?_⟩); conv => whnf) | fail)
    all_goals first
      | (exfalso; omega)
      | (refine Or.inl ?_; (conv => whnf)
         rfl)
      | trace_state
  have hcb := hlay _ (List.mem_of_getElem? hc)
  obtain ⟨b, hcB⟩ : ∃ b : Nat, c.bits = (b : Nat) := ⟨c.bits.toNat, by omega⟩
  have hcI : l[((k : Nat) : Int).toNat]? = some c := hc
  have hkl := (List.getElem?_eq_some_iff.1 hc).1
  rw [errF_some hfi hc, show c.bits.toNat = b by omega]
  rw [hfi] at hpl
  have hb : b ≤ 32 := by omega
  have htb := tw62 (show b ≤ 62 by omega)
  have htop := rtop_at b (by omega)
  rw [← hcB] at htop
  by_cases hF : FormOk ⟨f, op, form, lo, hi, len, pat⟩
  · obtain ⟨hA, hP⟩ := id hF
    dsimp only at hA hP
    have h4 : form = 1 ∨ form = 2 ∨ form = 3 ∨ form = 4 := by omega
    by_cases hV : ValOk ⟨f, op, form, lo, hi, len, pat⟩ b
    · have hV2 := hV
      unfold ValOk at hV2
      dsimp only at hV2
      obtain ⟨vl, rfl⟩ : ∃ v : Nat, lo = v := ⟨lo.toNat, by omega⟩
      obtain ⟨vh, rfl⟩ : ∃ v : Nat, hi = v := ⟨hi.toNat, by omega⟩
      obtain ⟨vn, rfl⟩ : ∃ v : Nat, len = v := ⟨len.toNat, by omega⟩
      rcases h4 with rfl | rfl | rfl | rfl
      · rw [errT_ok hF hV (by simp) (by simp) (by simp)]
        (try (conv => whnf)); repeat' (first | (refine ⟨fun h => absurd hF h, fun _ => ?_⟩; (conv => whnf)) | refine Ok.seq ?_ | refine OkL.cons ?_ | ((first | refine Ok.region tok ?_ | refine Ok.region_draw tok follows (by kernel_rfl) ?_ | refine Ok.cond ?_); conv => whnf) | refine Ok.block ?_ | ((first | refine Ok.skip ?_ | refine Ok.exit ?_ | refine Ok.ret ?_ | refine nI ?_ | refine ix _ (by assumption) ?_ | refine ixI (by omega) (by assumption) ?_ | refine ix_new _ (by omega) fun _ _ => ?_ | refine ixI_new (by omega) (by omega) fun _ _ => ?_ | refine ⟨_, by assumption, ?_⟩); conv => whnf) | (refine Or.inl ?_; (conv => whnf); (repeat (refine aI ?_; conv => whnf)); refine ⟨_, hpl, rfl, ?_⟩; conv => whnf) | (refine Or.inl ?_; (conv => whnf); (repeat (refine aI ?_; conv => whnf)); refine ⟨_, hform, rfl, ?_⟩; conv => whnf) | (refine Or.inl ?_; (conv => whnf); (repeat (refine aI ?_; conv => whnf)); refine ⟨_, htop, rfl, ?_⟩; conv => whnf) | ((first | refine ⟨_, hpl, rfl, ?_⟩ | refine ⟨_, hform, rfl, ?_⟩ | refine ⟨_, htop, rfl, ?_⟩); conv => whnf) | (refine Or.inr (Or.inl ?_); (conv => whnf); (repeat (refine aI ?_; conv => whnf)); refine ⟨_, hpl, ?_⟩; rintro _ _ ⟨rfl, rfl⟩; conv => whnf) | (refine Or.inr (Or.inl ?_); (conv => whnf); (repeat (refine aI ?_; conv => whnf)); refine ⟨_, hform, ?_⟩; rintro _ _ ⟨rfl, rfl⟩; conv => whnf) | (refine Or.inr (Or.inl ?_); (conv => whnf); (repeat (refine aI ?_; conv => whnf)); refine ⟨_, htop, ?_⟩; rintro _ _ ⟨rfl, rfl⟩; conv => whnf) | ((first | refine Alt2.l (aI ?_) | refine Alt2.r (aI ?_)); conv => whnf) | (refine Ok.scope ?_) | ((first | refine Ok.label ?_ | refine rd rfl (by assumption) ?_ | refine ⟨_, .inl ⟨rfl, rfl⟩, ?_⟩ | refine ⟨_, _, rfl, rfl, ?_⟩); conv => whnf) | (refine ⟨fun _ => ?_, fun _ => ?_⟩ <;> (conv => whnf) <;> (try (exfalso; omega))) | ((first | refine aJ ?_ | refine num_any ?_ | refine ⟨_, rfl, ?_⟩); conv => whnf) | fail)
        all_goals first
          | (exfalso; omega)
          | (rename_i h; exact absurd hF h)
          | (refine Or.inl ?_; (conv => whnf)
             rfl)
          | trace_state
      · have htop2 := rtop_at (b - vn) (by omega)
        rw [show ((b - vn : Nat) : Int) = c.bits - (vn : Int) by omega] at htop2
        by_cases hm : vl % tw (b - vn) = 0
        · rw [errT_ok hF hV (by simpa using hm) (by simp) (by simp)]
          (try (conv => whnf)); repeat' (first | (refine ⟨fun h => absurd hF h, fun _ => ?_⟩; (conv => whnf)) | (refine and_i ⟨rfl, by omega⟩ ⟨rfl, by omega⟩ ?_; (conv => whnf)) | refine Ok.seq ?_ | refine OkL.cons ?_ | ((first | refine Ok.region tok ?_ | refine Ok.region_draw tok follows (by kernel_rfl) ?_ | refine Ok.cond ?_); conv => whnf) | refine Ok.block ?_ | ((first | refine Ok.skip ?_ | refine Ok.exit ?_ | refine Ok.ret ?_ | refine nI ?_ | refine ix _ (by assumption) ?_ | refine ixI (by omega) (by assumption) ?_ | refine ix_new _ (by omega) fun _ _ => ?_ | refine ixI_new (by omega) (by omega) fun _ _ => ?_ | refine ⟨_, by assumption, ?_⟩); conv => whnf) | (refine Or.inl ?_; (conv => whnf); (repeat (refine aI ?_; conv => whnf)); refine ⟨_, hpl, rfl, ?_⟩; conv => whnf) | (refine Or.inl ?_; (conv => whnf); (repeat (refine aI ?_; conv => whnf)); refine ⟨_, hform, rfl, ?_⟩; conv => whnf) | (refine Or.inl ?_; (conv => whnf); (repeat (refine aI ?_; conv => whnf)); refine ⟨_, htop, rfl, ?_⟩; conv => whnf) | (refine Or.inl ?_; (conv => whnf); (repeat (refine aI ?_; conv => whnf)); refine ⟨_, htop2, rfl, ?_⟩; conv => whnf) | ((first | refine ⟨_, hpl, rfl, ?_⟩ | refine ⟨_, hform, rfl, ?_⟩ | refine ⟨_, htop, rfl, ?_⟩ | refine ⟨_, htop2, rfl, ?_⟩); conv => whnf) | (refine Or.inr (Or.inl ?_); (conv => whnf); (repeat (refine aI ?_; conv => whnf)); refine ⟨_, hpl, ?_⟩; rintro _ _ ⟨rfl, rfl⟩; conv => whnf) | (refine Or.inr (Or.inl ?_); (conv => whnf); (repeat (refine aI ?_; conv => whnf)); refine ⟨_, hform, ?_⟩; rintro _ _ ⟨rfl, rfl⟩; conv => whnf) | (refine Or.inr (Or.inl ?_); (conv => whnf); (repeat (refine aI ?_; conv => whnf)); refine ⟨_, htop, ?_⟩; rintro _ _ ⟨rfl, rfl⟩; conv => whnf) | (refine Or.inr (Or.inl ?_); (conv => whnf); (repeat (refine aI ?_; conv => whnf)); refine ⟨_, htop2, ?_⟩; rintro _ _ ⟨rfl, rfl⟩; conv => whnf) | ((first | refine Alt2.l (aI ?_) | refine Alt2.r (aI ?_)); conv => whnf) | (refine Ok.scope ?_) | ((first | refine Ok.label ?_ | refine rd rfl (by assumption) ?_ | refine ⟨_, .inl ⟨rfl, rfl⟩, ?_⟩ | refine ⟨_, _, rfl, rfl, ?_⟩); conv => whnf) | (refine ⟨fun _ => ?_, fun _ => ?_⟩ <;> (conv => whnf) <;> (try (exfalso; omega))) | ((first | refine aJ ?_ | refine num_any ?_ | refine ⟨_, rfl, ?_⟩); conv => whnf) | fail)
          all_goals first
            | (exfalso; omega)
            | (rename_i h; exact absurd hF h)
            | (refine Or.inl ?_; (conv => whnf)
               rfl)
            | trace_state
        · rw [errT_pre hF hV ⟨rfl, by simpa using hm⟩]
          (try (conv => whnf)); repeat' (first | (refine ⟨fun h => absurd hF h, fun _ => ?_⟩; (conv => whnf)) | (refine and_i ⟨rfl, by omega⟩ ⟨rfl, by omega⟩ ?_; (conv => whnf)) | refine Ok.seq ?_ | refine OkL.cons ?_ | ((first | refine Ok.region tok ?_ | refine Ok.region_draw tok follows (by kernel_rfl) ?_ | refine Ok.cond ?_); conv => whnf) | refine Ok.block ?_ | ((first | refine Ok.skip ?_ | refine Ok.exit ?_ | refine Ok.ret ?_ | refine nI ?_ | refine ix _ (by assumption) ?_ | refine ixI (by omega) (by assumption) ?_ | refine ix_new _ (by omega) fun _ _ => ?_ | refine ixI_new (by omega) (by omega) fun _ _ => ?_ | refine ⟨_, by assumption, ?_⟩); conv => whnf) | (refine Or.inl ?_; (conv => whnf); (repeat (refine aI ?_; conv => whnf)); refine ⟨_, hpl, rfl, ?_⟩; conv => whnf) | (refine Or.inl ?_; (conv => whnf); (repeat (refine aI ?_; conv => whnf)); refine ⟨_, hform, rfl, ?_⟩; conv => whnf) | (refine Or.inl ?_; (conv => whnf); (repeat (refine aI ?_; conv => whnf)); refine ⟨_, htop, rfl, ?_⟩; conv => whnf) | (refine Or.inl ?_; (conv => whnf); (repeat (refine aI ?_; conv => whnf)); refine ⟨_, htop2, rfl, ?_⟩; conv => whnf) | ((first | refine ⟨_, hpl, rfl, ?_⟩ | refine ⟨_, hform, rfl, ?_⟩ | refine ⟨_, htop, rfl, ?_⟩ | refine ⟨_, htop2, rfl, ?_⟩); conv => whnf) | (refine Or.inr (Or.inl ?_); (conv => whnf); (repeat (refine aI ?_; conv => whnf)); refine ⟨_, hpl, ?_⟩; rintro _ _ ⟨rfl, rfl⟩; conv => whnf) | (refine Or.inr (Or.inl ?_); (conv => whnf); (repeat (refine aI ?_; conv => whnf)); refine ⟨_, hform, ?_⟩; rintro _ _ ⟨rfl, rfl⟩; conv => whnf) | (refine Or.inr (Or.inl ?_); (conv => whnf); (repeat (refine aI ?_; conv => whnf)); refine ⟨_, htop, ?_⟩; rintro _ _ ⟨rfl, rfl⟩; conv => whnf) | (refine Or.inr (Or.inl ?_); (conv => whnf); (repeat (refine aI ?_; conv => whnf)); refine ⟨_, htop2, ?_⟩; rintro _ _ ⟨rfl, rfl⟩; conv => whnf) | ((first | refine Alt2.l (aI ?_) | refine Alt2.r (aI ?_)); conv => whnf) | (refine Ok.scope ?_) | ((first | refine Ok.label ?_ | refine rd rfl (by assumption) ?_ | refine ⟨_, .inl ⟨rfl, rfl⟩, ?_⟩ | refine ⟨_, _, rfl, rfl, ?_⟩); conv => whnf) | (refine ⟨fun _ => ?_, fun _ => ?_⟩ <;> (conv => whnf) <;> (try (exfalso; omega))) | ((first | refine aJ ?_ | refine num_any ?_ | refine ⟨_, rfl, ?_⟩); conv => whnf) | fail)
          all_goals first
            | (exfalso; omega)
            | (rename_i h; exact absurd hF h)
            | (refine Or.inl ?_; (conv => whnf)
               rfl)
            | trace_state
      · by_cases hr : (vh : Int) < vl
        · rw [errT_rng hF hV (by simp) ⟨rfl, hr⟩]
          (try (conv => whnf)); repeat' (first | (refine ⟨fun h => absurd hF h, fun _ => ?_⟩; (conv => whnf)) | refine Ok.seq ?_ | refine OkL.cons ?_ | ((first | refine Ok.region tok ?_ | refine Ok.region_draw tok follows (by kernel_rfl) ?_ | refine Ok.cond ?_); conv => whnf) | refine Ok.block ?_ | ((first | refine Ok.skip ?_ | refine Ok.exit ?_ | refine Ok.ret ?_ | refine nI ?_ | refine ix _ (by assumption) ?_ | refine ixI (by omega) (by assumption) ?_ | refine ix_new _ (by omega) fun _ _ => ?_ | refine ixI_new (by omega) (by omega) fun _ _ => ?_ | refine ⟨_, by assumption, ?_⟩); conv => whnf) | (refine Or.inl ?_; (conv => whnf); (repeat (refine aI ?_; conv => whnf)); refine ⟨_, hpl, rfl, ?_⟩; conv => whnf) | (refine Or.inl ?_; (conv => whnf); (repeat (refine aI ?_; conv => whnf)); refine ⟨_, hform, rfl, ?_⟩; conv => whnf) | (refine Or.inl ?_; (conv => whnf); (repeat (refine aI ?_; conv => whnf)); refine ⟨_, htop, rfl, ?_⟩; conv => whnf) | ((first | refine ⟨_, hpl, rfl, ?_⟩ | refine ⟨_, hform, rfl, ?_⟩ | refine ⟨_, htop, rfl, ?_⟩); conv => whnf) | (refine Or.inr (Or.inl ?_); (conv => whnf); (repeat (refine aI ?_; conv => whnf)); refine ⟨_, hpl, ?_⟩; rintro _ _ ⟨rfl, rfl⟩; conv => whnf) | (refine Or.inr (Or.inl ?_); (conv => whnf); (repeat (refine aI ?_; conv => whnf)); refine ⟨_, hform, ?_⟩; rintro _ _ ⟨rfl, rfl⟩; conv => whnf) | (refine Or.inr (Or.inl ?_); (conv => whnf); (repeat (refine aI ?_; conv => whnf)); refine ⟨_, htop, ?_⟩; rintro _ _ ⟨rfl, rfl⟩; conv => whnf) | ((first | refine Alt2.l (aI ?_) | refine Alt2.r (aI ?_)); conv => whnf) | (refine Ok.scope ?_) | ((first | refine Ok.label ?_ | refine rd rfl (by assumption) ?_ | refine ⟨_, .inl ⟨rfl, rfl⟩, ?_⟩ | refine ⟨_, _, rfl, rfl, ?_⟩); conv => whnf) | (refine ⟨fun _ => ?_, fun _ => ?_⟩ <;> (conv => whnf) <;> (try (exfalso; omega))) | ((first | refine aJ ?_ | refine num_any ?_ | refine ⟨_, rfl, ?_⟩); conv => whnf) | fail)
          all_goals first
            | (exfalso; omega)
            | (rename_i h; exact absurd hF h)
            | (refine Or.inl ?_; (conv => whnf)
               rfl)
            | trace_state
        · rw [errT_ok hF hV (by simp) (fun h => hr h.2) (by simp)]
          (try (conv => whnf)); repeat' (first | (refine ⟨fun h => absurd hF h, fun _ => ?_⟩; (conv => whnf)) | refine Ok.seq ?_ | refine OkL.cons ?_ | ((first | refine Ok.region tok ?_ | refine Ok.region_draw tok follows (by kernel_rfl) ?_ | refine Ok.cond ?_); conv => whnf) | refine Ok.block ?_ | ((first | refine Ok.skip ?_ | refine Ok.exit ?_ | refine Ok.ret ?_ | refine nI ?_ | refine ix _ (by assumption) ?_ | refine ixI (by omega) (by assumption) ?_ | refine ix_new _ (by omega) fun _ _ => ?_ | refine ixI_new (by omega) (by omega) fun _ _ => ?_ | refine ⟨_, by assumption, ?_⟩); conv => whnf) | (refine Or.inl ?_; (conv => whnf); (repeat (refine aI ?_; conv => whnf)); refine ⟨_, hpl, rfl, ?_⟩; conv => whnf) | (refine Or.inl ?_; (conv => whnf); (repeat (refine aI ?_; conv => whnf)); refine ⟨_, hform, rfl, ?_⟩; conv => whnf) | (refine Or.inl ?_; (conv => whnf); (repeat (refine aI ?_; conv => whnf)); refine ⟨_, htop, rfl, ?_⟩; conv => whnf) | ((first | refine ⟨_, hpl, rfl, ?_⟩ | refine ⟨_, hform, rfl, ?_⟩ | refine ⟨_, htop, rfl, ?_⟩); conv => whnf) | (refine Or.inr (Or.inl ?_); (conv => whnf); (repeat (refine aI ?_; conv => whnf)); refine ⟨_, hpl, ?_⟩; rintro _ _ ⟨rfl, rfl⟩; conv => whnf) | (refine Or.inr (Or.inl ?_); (conv => whnf); (repeat (refine aI ?_; conv => whnf)); refine ⟨_, hform, ?_⟩; rintro _ _ ⟨rfl, rfl⟩; conv => whnf) | (refine Or.inr (Or.inl ?_); (conv => whnf); (repeat (refine aI ?_; conv => whnf)); refine ⟨_, htop, ?_⟩; rintro _ _ ⟨rfl, rfl⟩; conv => whnf) | ((first | refine Alt2.l (aI ?_) | refine Alt2.r (aI ?_)); conv => whnf) | (refine Ok.scope ?_) | ((first | refine Ok.label ?_ | refine rd rfl (by assumption) ?_ | refine ⟨_, .inl ⟨rfl, rfl⟩, ?_⟩ | refine ⟨_, _, rfl, rfl, ?_⟩); conv => whnf) | (refine ⟨fun _ => ?_, fun _ => ?_⟩ <;> (conv => whnf) <;> (try (exfalso; omega))) | ((first | refine aJ ?_ | refine num_any ?_ | refine ⟨_, rfl, ?_⟩); conv => whnf) | fail)
          all_goals first
            | (exfalso; omega)
            | (rename_i h; exact absurd hF h)
            | (refine Or.inl ?_; (conv => whnf)
               rfl)
            | trace_state
      · by_cases hpb : pat.length = b
        · (try (conv => whnf)); repeat' (first | (refine ⟨fun h => absurd hF h, fun _ => ?_⟩; (conv => whnf)) | refine Ok.seq ?_ | refine OkL.cons ?_ | ((first | refine Ok.region tok ?_ | refine Ok.region_draw tok follows (by kernel_rfl) ?_ | refine Ok.cond ?_); conv => whnf) | refine Ok.block ?_ | ((first | refine Ok.skip ?_ | refine Ok.exit ?_ | refine Ok.ret ?_ | refine nI ?_ | refine ix _ (by assumption) ?_ | refine ixI (by omega) (by assumption) ?_ | refine ix_new _ (by omega) fun _ _ => ?_ | refine ixI_new (by omega) (by omega) fun _ _ => ?_ | refine ⟨_, by assumption, ?_⟩); conv => whnf) | (refine Or.inl ?_; (conv => whnf); (repeat (refine aI ?_; conv => whnf)); refine ⟨_, hpl, rfl, ?_⟩; conv => whnf) | (refine Or.inl ?_; (conv => whnf); (repeat (refine aI ?_; conv => whnf)); refine ⟨_, hform, rfl, ?_⟩; conv => whnf) | (refine Or.inl ?_; (conv => whnf); (repeat (refine aI ?_; conv => whnf)); refine ⟨_, htop, rfl, ?_⟩; conv => whnf) | ((first | refine ⟨_, hpl, rfl, ?_⟩ | refine ⟨_, hform, rfl, ?_⟩ | refine ⟨_, htop, rfl, ?_⟩); conv => whnf) | (refine Or.inr (Or.inl ?_); (conv => whnf); (repeat (refine aI ?_; conv => whnf)); refine ⟨_, hpl, ?_⟩; rintro _ _ ⟨rfl, rfl⟩; conv => whnf) | (refine Or.inr (Or.inl ?_); (conv => whnf); (repeat (refine aI ?_; conv => whnf)); refine ⟨_, hform, ?_⟩; rintro _ _ ⟨rfl, rfl⟩; conv => whnf) | (refine Or.inr (Or.inl ?_); (conv => whnf); (repeat (refine aI ?_; conv => whnf)); refine ⟨_, htop, ?_⟩; rintro _ _ ⟨rfl, rfl⟩; conv => whnf) | ((first | refine Alt2.l (aI ?_) | refine Alt2.r (aI ?_)); conv => whnf) | (refine Ok.scope ?_) | ((first | refine Ok.label ?_ | refine rd rfl (by assumption) ?_ | refine ⟨_, .inl ⟨rfl, rfl⟩, ?_⟩ | refine ⟨_, _, rfl, rfl, ?_⟩); conv => whnf) | (refine ⟨fun _ => ?_, fun _ => ?_⟩ <;> (conv => whnf) <;> (try (exfalso; omega))) | ((first | refine aJ ?_ | refine num_any ?_ | refine ⟨_, rfl, ?_⟩); conv => whnf) | fail)
          all_goals first
            | (exfalso; omega)
            | (rename_i h; exact absurd hF h)
            | skip
          refine Ok.loopU [3, 8] [9] 0 1 (fun (i : Nat) => [.i .i64 (i : Nat)]) (fun _ b => b) (fun _ r => r) (fun (i : Nat) => i ≤ b ∧ cubOk (pat.take i)) (fun (i : Nat) => b - i) (0) (⟨Nat.zero_le _, by simp [cubOk]⟩) ?_; (conv => whnf); refine ⟨by ((conv => whnf); first | rfl | (simp [envCat, List.take_of_length_le, nrow, frow, bcell, srow, tcells]; done) | (simp [envCat, List.take_of_length_le, nrow, frow, bcell, srow, tcells]; rw [IntKind.wrap_i64]; omega)), ?_⟩
          rintro i ⟨hi, hok⟩
          (conv => whnf)
          by_cases hib : i < b
          · obtain ⟨x, hx⟩ : ∃ x, pat[i]? = some x := ⟨_, List.getElem?_eq_getElem (by omega)⟩
            have hxI : pat[((i : Nat) : Int).toNat]? = some x := hx
            have hxm := List.mem_of_getElem? hx
            by_cases hxd : x = 48 ∨ x = 49 ∨ x = 120
            · have hxn := (u8_dig x).1 hxd
              (try (conv => whnf)); repeat' (first | refine Ok.seq ?_ | refine OkL.cons ?_ | ((first | refine Ok.region tok ?_ | refine Ok.region_draw tok follows (by kernel_rfl) ?_ | refine Ok.cond ?_); conv => whnf) | refine Ok.block ?_ | ((first | refine Ok.skip ?_ | refine Ok.exit ?_ | refine Ok.ret ?_ | refine nI ?_ | refine ix _ (by assumption) ?_ | refine ixI (by omega) (by assumption) ?_ | refine ix_new _ (by omega) fun _ _ => ?_ | refine ixI_new (by omega) (by omega) fun _ _ => ?_ | refine ⟨_, by assumption, ?_⟩ | refine Alt2.l (aI ?_) | refine Alt2.r (aI ?_)); conv => whnf) | (refine Ok.scope ?_) | ((first | refine Ok.label ?_ | refine rd rfl (by assumption) ?_ | refine ⟨_, .inl ⟨rfl, rfl⟩, ?_⟩ | refine ⟨_, _, rfl, rfl, ?_⟩); conv => whnf) | (refine ⟨fun _ => ?_, fun _ => ?_⟩ <;> (conv => whnf) <;> (try (exfalso; omega))) | ((first | refine aJ ?_ | refine num_any ?_ | refine ⟨_, rfl, ?_⟩); conv => whnf) | fail)
              all_goals first
                | (exfalso; omega)
                | (refine ⟨i + 1, by omega, ⟨by omega, cubOk_step hok hx hxd⟩, ?_⟩
                   (conv => whnf)
                   rfl)
                | trace_state
            · have hxn : ¬ (x.toNat = 48 ∨ x.toNat = 49 ∨ x.toNat = 120) := fun h => hxd ((u8_dig x).2 h)
              rw [errT_dig hF hV (by simp) (by simp) ⟨rfl, fun hd => hxd (hd.2 x hxm)⟩]
              (try (conv => whnf)); repeat' (first | refine Ok.seq ?_ | refine OkL.cons ?_ | ((first | refine Ok.region tok ?_ | refine Ok.region_draw tok follows (by kernel_rfl) ?_ | refine Ok.cond ?_); conv => whnf) | refine Ok.block ?_ | ((first | refine Ok.skip ?_ | refine Ok.exit ?_ | refine Ok.ret ?_ | refine nI ?_ | refine ix _ (by assumption) ?_ | refine ixI (by omega) (by assumption) ?_ | refine ix_new _ (by omega) fun _ _ => ?_ | refine ixI_new (by omega) (by omega) fun _ _ => ?_ | refine ⟨_, by assumption, ?_⟩ | refine Alt2.l (aI ?_) | refine Alt2.r (aI ?_)); conv => whnf) | (refine Ok.scope ?_) | ((first | refine Ok.label ?_ | refine rd rfl (by assumption) ?_ | refine ⟨_, .inl ⟨rfl, rfl⟩, ?_⟩ | refine ⟨_, _, rfl, rfl, ?_⟩); conv => whnf) | (refine ⟨fun _ => ?_, fun _ => ?_⟩ <;> (conv => whnf) <;> (try (exfalso; omega))) | ((first | refine aJ ?_ | refine num_any ?_ | refine ⟨_, rfl, ?_⟩); conv => whnf) | fail)
              all_goals first
                | (exfalso; omega)
                | (refine Or.inl ?_; (conv => whnf)
                   rfl)
                | trace_state
          · have hie : i = b := by omega
            subst hie
            rw [List.take_of_length_le (by omega)] at hok
            rw [errT_ok hF hV (by simp) (by simp) (fun h => h.2 ⟨hpb, hok⟩)]
            (try (conv => whnf)); repeat' (first | refine Ok.seq ?_ | refine OkL.cons ?_ | ((first | refine Ok.region tok ?_ | refine Ok.region_draw tok follows (by kernel_rfl) ?_ | refine Ok.cond ?_); conv => whnf) | refine Ok.block ?_ | ((first | refine Ok.skip ?_ | refine Ok.exit ?_ | refine Ok.ret ?_ | refine nI ?_ | refine ix _ (by assumption) ?_ | refine ixI (by omega) (by assumption) ?_ | refine ix_new _ (by omega) fun _ _ => ?_ | refine ixI_new (by omega) (by omega) fun _ _ => ?_ | refine ⟨_, by assumption, ?_⟩ | refine Alt2.l (aI ?_) | refine Alt2.r (aI ?_)); conv => whnf) | (refine Ok.scope ?_) | ((first | refine Ok.label ?_ | refine rd rfl (by assumption) ?_ | refine ⟨_, .inl ⟨rfl, rfl⟩, ?_⟩ | refine ⟨_, _, rfl, rfl, ?_⟩); conv => whnf) | (refine ⟨fun _ => ?_, fun _ => ?_⟩ <;> (conv => whnf) <;> (try (exfalso; omega))) | ((first | refine aJ ?_ | refine num_any ?_ | refine ⟨_, rfl, ?_⟩); conv => whnf) | fail)
            all_goals first
              | (exfalso; omega)
              | (refine Or.inl ?_; (conv => whnf)
                 rfl)
              | trace_state
        · rw [errT_dig hF hV (by simp) (by simp) ⟨rfl, fun hd => hpb hd.1⟩]
          (try (conv => whnf)); repeat' (first | (refine ⟨fun h => absurd hF h, fun _ => ?_⟩; (conv => whnf)) | refine Ok.seq ?_ | refine OkL.cons ?_ | ((first | refine Ok.region tok ?_ | refine Ok.region_draw tok follows (by kernel_rfl) ?_ | refine Ok.cond ?_); conv => whnf) | refine Ok.block ?_ | ((first | refine Ok.skip ?_ | refine Ok.exit ?_ | refine Ok.ret ?_ | refine nI ?_ | refine ix _ (by assumption) ?_ | refine ixI (by omega) (by assumption) ?_ | refine ix_new _ (by omega) fun _ _ => ?_ | refine ixI_new (by omega) (by omega) fun _ _ => ?_ | refine ⟨_, by assumption, ?_⟩); conv => whnf) | (refine Or.inl ?_; (conv => whnf); (repeat (refine aI ?_; conv => whnf)); refine ⟨_, hpl, rfl, ?_⟩; conv => whnf) | (refine Or.inl ?_; (conv => whnf); (repeat (refine aI ?_; conv => whnf)); refine ⟨_, hform, rfl, ?_⟩; conv => whnf) | (refine Or.inl ?_; (conv => whnf); (repeat (refine aI ?_; conv => whnf)); refine ⟨_, htop, rfl, ?_⟩; conv => whnf) | ((first | refine ⟨_, hpl, rfl, ?_⟩ | refine ⟨_, hform, rfl, ?_⟩ | refine ⟨_, htop, rfl, ?_⟩); conv => whnf) | (refine Or.inr (Or.inl ?_); (conv => whnf); (repeat (refine aI ?_; conv => whnf)); refine ⟨_, hpl, ?_⟩; rintro _ _ ⟨rfl, rfl⟩; conv => whnf) | (refine Or.inr (Or.inl ?_); (conv => whnf); (repeat (refine aI ?_; conv => whnf)); refine ⟨_, hform, ?_⟩; rintro _ _ ⟨rfl, rfl⟩; conv => whnf) | (refine Or.inr (Or.inl ?_); (conv => whnf); (repeat (refine aI ?_; conv => whnf)); refine ⟨_, htop, ?_⟩; rintro _ _ ⟨rfl, rfl⟩; conv => whnf) | ((first | refine Alt2.l (aI ?_) | refine Alt2.r (aI ?_)); conv => whnf) | (refine Ok.scope ?_) | ((first | refine Ok.label ?_ | refine rd rfl (by assumption) ?_ | refine ⟨_, .inl ⟨rfl, rfl⟩, ?_⟩ | refine ⟨_, _, rfl, rfl, ?_⟩); conv => whnf) | (refine ⟨fun _ => ?_, fun _ => ?_⟩ <;> (conv => whnf) <;> (try (exfalso; omega))) | ((first | refine aJ ?_ | refine num_any ?_ | refine ⟨_, rfl, ?_⟩); conv => whnf) | fail)
          all_goals first
            | (exfalso; omega)
            | (rename_i h; exact absurd hF h)
            | (refine Or.inl ?_; (conv => whnf)
               rfl)
            | trace_state
    · have hV2 := hV
      unfold ValOk at hV2
      dsimp only at hV2
      rw [errT_val hF hV]
      (try (conv => whnf)); repeat' (first | (refine ⟨fun h => absurd hF h, fun _ => ?_⟩; (conv => whnf)) | refine Ok.seq ?_ | refine OkL.cons ?_ | ((first | refine Ok.region tok ?_ | refine Ok.region_draw tok follows (by kernel_rfl) ?_ | refine Ok.cond ?_); conv => whnf) | refine Ok.block ?_ | ((first | refine Ok.skip ?_ | refine Ok.exit ?_ | refine Ok.ret ?_ | refine nI ?_ | refine ix _ (by assumption) ?_ | refine ixI (by omega) (by assumption) ?_ | refine ix_new _ (by omega) fun _ _ => ?_ | refine ixI_new (by omega) (by omega) fun _ _ => ?_ | refine ⟨_, by assumption, ?_⟩); conv => whnf) | (refine Or.inl ?_; (conv => whnf); (repeat (refine aI ?_; conv => whnf)); refine ⟨_, hpl, rfl, ?_⟩; conv => whnf) | (refine Or.inl ?_; (conv => whnf); (repeat (refine aI ?_; conv => whnf)); refine ⟨_, hform, rfl, ?_⟩; conv => whnf) | (refine Or.inl ?_; (conv => whnf); (repeat (refine aI ?_; conv => whnf)); refine ⟨_, htop, rfl, ?_⟩; conv => whnf) | ((first | refine ⟨_, hpl, rfl, ?_⟩ | refine ⟨_, hform, rfl, ?_⟩ | refine ⟨_, htop, rfl, ?_⟩); conv => whnf) | (refine Or.inr (Or.inl ?_); (conv => whnf); (repeat (refine aI ?_; conv => whnf)); refine ⟨_, hpl, ?_⟩; rintro _ _ ⟨rfl, rfl⟩; conv => whnf) | (refine Or.inr (Or.inl ?_); (conv => whnf); (repeat (refine aI ?_; conv => whnf)); refine ⟨_, hform, ?_⟩; rintro _ _ ⟨rfl, rfl⟩; conv => whnf) | (refine Or.inr (Or.inl ?_); (conv => whnf); (repeat (refine aI ?_; conv => whnf)); refine ⟨_, htop, ?_⟩; rintro _ _ ⟨rfl, rfl⟩; conv => whnf) | ((first | refine Alt2.l (aI ?_) | refine Alt2.r (aI ?_)); conv => whnf) | (refine Ok.scope ?_) | ((first | refine Ok.label ?_ | refine rd rfl (by assumption) ?_ | refine ⟨_, .inl ⟨rfl, rfl⟩, ?_⟩ | refine ⟨_, _, rfl, rfl, ?_⟩); conv => whnf) | (refine ⟨fun _ => ?_, fun _ => ?_⟩ <;> (conv => whnf) <;> (try (exfalso; omega))) | ((first | refine aJ ?_ | refine num_any ?_ | refine ⟨_, rfl, ?_⟩); conv => whnf) | fail)
      all_goals first
        | (exfalso; omega)
        | (rename_i h; exact absurd hF h)
        | (refine Or.inl ?_; (conv => whnf)
           rfl)
        | trace_state
  · rw [errT_form hF]
    (try (conv => whnf)); repeat' (first | (refine ⟨fun _ => ?_, fun h => absurd (Classical.not_not.1 h) hF⟩; (conv => whnf)) | refine Ok.seq ?_ | refine OkL.cons ?_ | ((first | refine Ok.region tok ?_ | refine Ok.region_draw tok follows (by kernel_rfl) ?_ | refine Ok.cond ?_); conv => whnf) | refine Ok.block ?_ | ((first | refine Ok.skip ?_ | refine Ok.exit ?_ | refine Ok.ret ?_ | refine nI ?_ | refine ix _ (by assumption) ?_ | refine ixI (by omega) (by assumption) ?_ | refine ix_new _ (by omega) fun _ _ => ?_ | refine ixI_new (by omega) (by omega) fun _ _ => ?_ | refine ⟨_, by assumption, ?_⟩); conv => whnf) | (refine Or.inl ?_; (conv => whnf); (repeat (refine aI ?_; conv => whnf)); refine ⟨_, hpl, rfl, ?_⟩; conv => whnf) | (refine Or.inl ?_; (conv => whnf); (repeat (refine aI ?_; conv => whnf)); refine ⟨_, hform, rfl, ?_⟩; conv => whnf) | ((first | refine ⟨_, hpl, rfl, ?_⟩ | refine ⟨_, hform, rfl, ?_⟩); conv => whnf) | (refine Or.inr (Or.inl ?_); (conv => whnf); (repeat (refine aI ?_; conv => whnf)); refine ⟨_, hpl, ?_⟩; rintro _ _ ⟨rfl, rfl⟩; conv => whnf) | (refine Or.inr (Or.inl ?_); (conv => whnf); (repeat (refine aI ?_; conv => whnf)); refine ⟨_, hform, ?_⟩; rintro _ _ ⟨rfl, rfl⟩; conv => whnf) | ((first | refine Alt2.l (aI ?_) | refine Alt2.r (aI ?_)); conv => whnf) | (refine Ok.scope ?_) | ((first | refine Ok.label ?_ | refine rd rfl (by assumption) ?_ | refine ⟨_, .inl ⟨rfl, rfl⟩, ?_⟩ | refine ⟨_, _, rfl, rfl, ?_⟩); conv => whnf) | (refine ⟨fun _ => ?_, fun _ => ?_⟩ <;> (conv => whnf) <;> (try (exfalso; omega))) | ((first | refine aJ ?_ | refine num_any ?_ | refine ⟨_, rfl, ?_⟩); conv => whnf) | fail)
    all_goals first
      | (exfalso; omega)
      | (rename_i h; exact absurd h hF)
      | (refine Or.inl ?_; (conv => whnf)
         rfl)
      | trace_state
end Go.Proofs.YtagmibogginaaaaGreatDoor
namespace Go.Proofs.YtagmibogginaaaaGreatDoor
open Go Go.Vx Go.Shelf
theorem xs_bits (n : Nat) (i : Nat) : car (xsT n) i = false ∧ one (xsT n) i = false := by
  by_cases h : i < n
  · have e : (xsT n)[i]? = some 120 := by simp [xsT, List.getElem?_replicate, h]
    rw [(at_b e).1, (at_b e).2]
    exact ⟨rfl, rfl⟩
  · exact at_out (by simp [xsT]; omega)
theorem xs_wof {f : Nat → Bool} (h : ∀ i, f i = false) (k : Nat) : wof f k = 0#64 := BitVec.eq_of_getLsbD_eq fun i hi => by rw [wof_get _ _ _ hi, h]; simp
theorem crow_xs (n : Nat) : crow (xsT n) = [.i .i64 n, .i .u64 0, .i .u64 0, .i .u64 0, .i .u64 0, .i .u64 0, .i .u64 0, .i .u64 0, .i .u64 0] := by
  have h1 := xs_wof (fun i => (xs_bits n i).1)
  have h2 := xs_wof (fun i => (xs_bits n i).2)
  simp only [crow, cells9, h1, h2, xsT_len]
  rfl
theorem xs_ct {n : Nat} (h : n ≤ 256) : CT (xsT n) := ⟨by simp [xsT]; omega, fun b hb => by rw [(List.mem_replicate.1 hb).2]; simp⟩
theorem xs_cn {n : Nat} (h : n ≤ 256) (h0 : 1 ≤ n) : CN (xsT n) := ⟨xs_ct h, fun e => by have := congrArg List.length e; rw [xsT_len] at this; simp at this; omega⟩
end Go.Proofs.YtagmibogginaaaaGreatDoor
