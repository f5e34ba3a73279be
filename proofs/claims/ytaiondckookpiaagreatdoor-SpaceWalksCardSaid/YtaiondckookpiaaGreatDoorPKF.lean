/- The walks and the plain laws that a law of spaces needs, part 6 of 7. -/
import Derived.Test.YtaiondckookpiaaGreatDoorPKE
import Derived.Tactics
import Derived.Tactics2
set_option linter.unusedVariables false
set_option linter.unusedSimpArgs false
namespace Go.Proofs.YtaiondckookpiaaGreatDoor
open Go Go.Vx
set_option maxRecDepth 100000 in
set_option maxHeartbeats 16000000 in
theorem text2_at (n : Nat) (l : List TR) {rl room : List (List D)} (hok : SpOk n l) (h : rl = l.map trow) : FSpec Tryz.prog T 59 [.agg [.i .i64 (n : Int), .lst 112 rl room]] (fun d _ => d = .s (textS (l.map TR.t))) := by
  subst h
  have hll : (l.map trow).length = l.length := by simp
  have hln := hok.len
  have hn := hok.n256
  refine FSpec.of_ok tok Tryz.func59 rfl Tryz.call59 (by simp) ?_
  (try (conv => whnf)); repeat' (first | refine Ok.seq ?_ | refine OkL.cons ?_ | ((first | refine Ok.region tok ?_ | refine Ok.region_draw tok follows (by kernel_rfl) ?_ | refine Ok.cond ?_); conv => whnf) | refine Ok.block ?_ | ((first | refine Ok.skip ?_ | refine Ok.exit ?_ | refine Ok.ret ?_ | refine nI ?_ | refine ix _ (by assumption) ?_ | refine ixI (by omega) (by assumption) ?_ | refine ix_new _ (by omega) fun _ _ => ?_ | refine ixI_new (by omega) (by omega) fun _ _ => ?_ | refine ⟨_, by assumption, ?_⟩ | refine Alt2.l (aI ?_) | refine Alt2.r (aI ?_)); conv => whnf) | (refine Ok.scope ?_) | ((first | refine Ok.label ?_ | refine rd rfl (by assumption) ?_ | refine ⟨_, .inl ⟨rfl, rfl⟩, ?_⟩ | refine ⟨_, _, rfl, rfl, ?_⟩); conv => whnf) | (refine ⟨fun _ => ?_, fun _ => ?_⟩ <;> (conv => whnf) <;> (try (exfalso; omega))) | ((first | refine aJ ?_ | refine num_any ?_ | refine ⟨_, rfl, ?_⟩); conv => whnf) | fail)
  · rename_i h
    refine Or.inl ?_; (conv => whnf)
    have : l = [] := List.eq_nil_of_length_eq_zero (by omega)
    subst this
    unfold textS
    rw [if_pos (by rfl)]
    rfl
  · rename_i h
    have hne : l.map TR.t ≠ [] := fun e => h (by have := congrArg List.length e; simp at this; simp [this])
    have hl0 : l ≠ [] := fun e => hne (by rw [e]; rfl)
    have hpos := hok.pos hl0
    refine Ok.ghostB 1 1 5 rfl rfl ?_
    (conv => whnf)
    refine Ok.loopU [1, 3, 12, 13] [14] 1 2 (fun (i : Nat) => [.i .i64 (i : Nat)]) (fun (i : Nat) (_ : List (List D)) => [[.i .i64 (n : Int), .lst 112 (l.map trow) room], [bcl i, .own 0 (sepT ((l.map TR.t).take i)).length]]) (fun (i : Nat) (_ : Vx.Rows) => [some (5, (sepT ((l.map TR.t).take i)).map bcell)]) (fun (i : Nat) => i ≤ l.length) (fun (i : Nat) => l.length - i) (0) (Nat.zero_le _) ?_; (conv => whnf); refine ⟨by ((conv => whnf); first | rfl | (simp [envCat, List.take_of_length_le, srow, drow, trow, bcell, sepT_nil, tTail_nil]; done) | (simp [envCat, List.take_of_length_le, srow, drow, trow, bcell, sepT_nil, tTail_nil]; rw [IntKind.wrap_i64]; omega)), ?_⟩
    rintro i hi
    have hsl := hok.sep i
    have hsm : ((sepT ((l.map TR.t).take i)).map bcell).length = (sepT ((l.map TR.t).take i)).length := List.length_map _
    by_cases hil : i < l.length
    · obtain ⟨x, hx⟩ : ∃ x, l[i]? = some x := ⟨_, List.getElem?_eq_getElem hil⟩
      have hxm := List.mem_of_getElem? hx
      have hxw := hok.wide x hxm
      have hpl : x.t.p.length ≤ 256 := by rw [hxw.1]; exact hn
      have hxl : (x.t.less.map crow).length = x.t.less.length := by simp
      have hxn := hok.less hxm
      have hxt : (l.map TR.t)[i]? = some x.t := by simp [hx]
      have hstep := sepT_step hxt
      have hpre := hok.pre i
      have hkl : x.t.key.length = n * (x.t.less.length + 1) := key_len hxw.1 hxw.2
      have hkb : n * (x.t.less.length + 1) ≤ 256 * 1048577 := Nat.mul_le_mul hn (by omega)
      have hkn : n ≤ n * (x.t.less.length + 1) := Nat.le_mul_of_pos_right n (by omega)
      have hkh : x.t.p = (x.t.key.take n).drop 0 := by rw [List.drop_zero]; exact (key_head hxw.1).symm
      have hka : ∀ (j : Nat) (m : Str), x.t.less[j]? = some m → m = (x.t.key.take (n * (j + 1) + n)).drop (n * (j + 1)) := fun j m hm => (key_at hxw.1 hxw.2 hm).symm
      by_cases hi0 : i = 0
      · have hp0 : preT (l.map TR.t) i = [] := by rw [hi0]; rfl
        have hs0 : sepT ((l.map TR.t).take i) = [] := by rw [hi0]; rfl
        have hb0 : bcl i = .nilB 146 := by rw [hi0]; rfl
        rw [hs0] at hsl hsm ⊢
        rw [hb0]
        rw [hp0] at hpre hstep
        (conv => whnf)
        (try (conv => whnf)); repeat' (first | ((refine And.intro byteT ?_); (conv => whnf)) | refine Ok.seq ?_ | refine OkL.cons ?_ | ((first | refine Ok.region tok ?_ | refine Ok.region_draw tok follows (by kernel_rfl) ?_ | refine Ok.cond ?_); conv => whnf) | refine Ok.block ?_ | ((first | refine Ok.skip ?_ | refine Ok.exit ?_ | refine Ok.ret ?_ | refine nI ?_ | refine ix _ (by assumption) ?_ | refine ixI (by omega) (by assumption) ?_ | refine ix_new _ (by omega) fun _ _ => ?_ | refine ixI_new (by omega) (by omega) fun _ _ => ?_ | refine ⟨_, by assumption, ?_⟩ | refine Alt2.l (aI ?_) | refine Alt2.r (aI ?_)); conv => whnf) | (refine Ok.scope ?_) | ((first | refine Ok.label ?_ | refine rd rfl (by assumption) ?_ | refine ⟨_, .inl ⟨rfl, rfl⟩, ?_⟩ | refine ⟨_, _, rfl, rfl, ?_⟩); conv => whnf) | (refine ⟨fun _ => ?_, fun _ => ?_⟩ <;> (conv => whnf) <;> (try (exfalso; omega))) | ((first | refine aJ ?_ | refine num_any ?_ | refine ⟨_, rfl, ?_⟩); conv => whnf) | fail)
        refine Or.inr (Or.inr (Or.inl ?_)); (conv => whnf); refine ⟨_, _, Tryz.func110, rfl, Tryz.call110, ?_⟩; (conv => whnf)
        (try (conv => whnf)); repeat' (first | ((refine And.intro byteT ?_); (conv => whnf)) | refine Ok.seq ?_ | refine OkL.cons ?_ | ((first | refine Ok.region tok ?_ | refine Ok.region_draw tok follows (by kernel_rfl) ?_ | refine Ok.cond ?_); conv => whnf) | refine Ok.block ?_ | ((first | refine Ok.skip ?_ | refine Ok.exit ?_ | refine Ok.ret ?_ | refine nI ?_ | refine ix _ (by assumption) ?_ | refine ixI (by omega) (by assumption) ?_ | refine ix_new _ (by omega) fun _ _ => ?_ | refine ixI_new (by omega) (by omega) fun _ _ => ?_ | refine ⟨_, by assumption, ?_⟩ | refine Alt2.l (aI ?_) | refine Alt2.r (aI ?_)); conv => whnf) | (refine Ok.scope ?_) | ((first | refine Ok.label ?_ | refine rd rfl (by assumption) ?_ | refine ⟨_, .inl ⟨rfl, rfl⟩, ?_⟩ | refine ⟨_, _, rfl, rfl, ?_⟩); conv => whnf) | (refine ⟨fun _ => ?_, fun _ => ?_⟩ <;> (conv => whnf) <;> (try (exfalso; omega))) | ((first | refine aJ ?_ | refine num_any ?_ | refine ⟨_, rfl, ?_⟩); conv => whnf) | fail)
        refine Or.inr (Or.inr (Or.inr (Or.inr ?_)))
        (conv => whnf)
        refine effW_fresh copyAt rfl ?_
        (conv => whnf)
        (try (conv => whnf)); repeat' (first | ((refine And.intro byteT ?_); (conv => whnf)) | refine Ok.seq ?_ | refine OkL.cons ?_ | ((first | refine Ok.region tok ?_ | refine Ok.region_draw tok follows (by kernel_rfl) ?_ | refine Ok.cond ?_); conv => whnf) | refine Ok.block ?_ | ((first | refine Ok.skip ?_ | refine Ok.exit ?_ | refine Ok.ret ?_ | refine nI ?_ | refine ix _ (by assumption) ?_ | refine ixI (by omega) (by assumption) ?_ | refine ix_new _ (by omega) fun _ _ => ?_ | refine ixI_new (by omega) (by omega) fun _ _ => ?_ | refine ⟨_, by assumption, ?_⟩ | refine Alt2.l (aI ?_) | refine Alt2.r (aI ?_)); conv => whnf) | (refine Ok.scope ?_) | ((first | refine Ok.label ?_ | refine rd rfl (by assumption) ?_ | refine ⟨_, .inl ⟨rfl, rfl⟩, ?_⟩ | refine ⟨_, _, rfl, rfl, ?_⟩); conv => whnf) | (refine ⟨fun _ => ?_, fun _ => ?_⟩ <;> (conv => whnf) <;> (try (exfalso; omega))) | ((first | refine aJ ?_ | refine num_any ?_ | refine ⟨_, rfl, ?_⟩); conv => whnf) | fail)
        refine Ok.loopU [1, 3, 5, 12, 13, 14] [6] 1 3 (fun (j : Nat) => [.i .i64 (n * (j + 1) : Nat)]) (fun (j : Nat) (_ : List (List D)) => [[.i .i64 (n : Int), .lst 112 (l.map trow) room], [.bp 1 0, .own 0 (([] : Str) ++ x.t.p ++ tTail (x.t.less.take j)).length], trow x]) (fun (j : Nat) (_ : Vx.Rows) => [some (5, (([] : Str) ++ x.t.p ++ tTail (x.t.less.take j)).map bcell)]) (fun (j : Nat) => j ≤ x.t.less.length) (fun (j : Nat) => x.t.less.length - j) (0) (Nat.zero_le _) ?_; (conv => whnf); refine ⟨by ((conv => whnf); first | rfl | (simp [envCat, List.take_of_length_le, srow, drow, trow, bcell, sepT_nil, tTail_nil]; done) | (simp [envCat, List.take_of_length_le, srow, drow, trow, bcell, sepT_nil, tTail_nil]; rw [IntKind.wrap_i64]; omega)), ?_⟩
        rintro j hj
        have htl := hok.tail hxm j
        have hFl : (([] : Str) ++ x.t.p ++ tTail (x.t.less.take j)).length ≤ 257 * 1048576 + 1 + 256 + 257 * 1048576 := by rw [List.length_append, List.length_append]; omega
        have hFm : ((([] : Str) ++ x.t.p ++ tTail (x.t.less.take j)).map bcell).length = (([] : Str) ++ x.t.p ++ tTail (x.t.less.take j)).length := List.length_map _
        have hjn : n * (j + 1 + 1) = n * (j + 1) + n := Nat.mul_succ n (j + 1)
        (conv => whnf)
        by_cases hjl : j < x.t.less.length
        · obtain ⟨m, hm⟩ : ∃ m, x.t.less[j]? = some m := ⟨_, List.getElem?_eq_getElem hjl⟩
          have hml : m.length ≤ 256 := by rw [hxw.2 m (List.mem_of_getElem? hm)]; exact hn
          have hts := tTail_snoc hm
          have hj2 : n * (j + 1) + n ≤ n * (x.t.less.length + 1) := by rw [← hjn]; exact Nat.mul_le_mul_left n (by omega)
          have hma := hka j m hm
          generalize hF : ([] : Str) ++ x.t.p ++ tTail (x.t.less.take j) = F at *
          have hF2 : ((F ++ [45]).map bcell).length = (F ++ [45]).length := List.length_map _
          generalize hJ : n * (j + 1) = J at *
          (try (conv => whnf)); repeat' (first | ((refine And.intro byteT ?_); (conv => whnf)) | refine Ok.seq ?_ | refine OkL.cons ?_ | ((first | refine Ok.region tok ?_ | refine Ok.region_draw tok follows (by kernel_rfl) ?_ | refine Ok.cond ?_); conv => whnf) | refine Ok.block ?_ | ((first | refine Ok.skip ?_ | refine Ok.exit ?_ | refine Ok.ret ?_ | refine nI ?_ | refine ix _ (by assumption) ?_ | refine ixI (by omega) (by assumption) ?_ | refine ix_new _ (by omega) fun _ _ => ?_ | refine ixI_new (by omega) (by omega) fun _ _ => ?_ | refine ⟨_, by assumption, ?_⟩ | refine Alt2.l (aI ?_) | refine Alt2.r (aI ?_)); conv => whnf) | (refine Ok.scope ?_) | ((first | refine Ok.label ?_ | refine rd rfl (by assumption) ?_ | refine ⟨_, .inl ⟨rfl, rfl⟩, ?_⟩ | refine ⟨_, _, rfl, rfl, ?_⟩); conv => whnf) | (refine ⟨fun _ => ?_, fun _ => ?_⟩ <;> (conv => whnf) <;> (try (exfalso; omega))) | ((first | refine aJ ?_ | refine num_any ?_ | refine ⟨_, rfl, ?_⟩); conv => whnf) | fail)
          refine Or.inr (Or.inr (Or.inl ?_)); (conv => whnf); refine ⟨_, _, Tryz.func109, rfl, Tryz.call109, ?_⟩; (conv => whnf)
          (try (conv => whnf)); repeat' (first | ((refine And.intro byteT ?_); (conv => whnf)) | refine Ok.seq ?_ | refine OkL.cons ?_ | ((first | refine Ok.region tok ?_ | refine Ok.region_draw tok follows (by kernel_rfl) ?_ | refine Ok.cond ?_); conv => whnf) | refine Ok.block ?_ | ((first | refine Ok.skip ?_ | refine Ok.exit ?_ | refine Ok.ret ?_ | refine nI ?_ | refine ix _ (by assumption) ?_ | refine ixI (by omega) (by assumption) ?_ | refine ix_new _ (by omega) fun _ _ => ?_ | refine ixI_new (by omega) (by omega) fun _ _ => ?_ | refine ⟨_, by assumption, ?_⟩ | refine Alt2.l (aI ?_) | refine Alt2.r (aI ?_)); conv => whnf) | (refine Ok.scope ?_) | ((first | refine Ok.label ?_ | refine rd rfl (by assumption) ?_ | refine ⟨_, .inl ⟨rfl, rfl⟩, ?_⟩ | refine ⟨_, _, rfl, rfl, ?_⟩); conv => whnf) | (refine ⟨fun _ => ?_, fun _ => ?_⟩ <;> (conv => whnf) <;> (try (exfalso; omega))) | ((first | refine aJ ?_ | refine num_any ?_ | refine ⟨_, rfl, ?_⟩); conv => whnf) | fail)
          refine Or.inr (Or.inr (Or.inr (Or.inr ?_)))
          (conv => whnf)
          refine effW_used copyAt rfl ?_
          (conv => whnf)
          (try (conv => whnf)); repeat' (first | ((refine And.intro byteT ?_); (conv => whnf)) | refine Ok.seq ?_ | refine OkL.cons ?_ | ((first | refine Ok.region tok ?_ | refine Ok.region_draw tok follows (by kernel_rfl) ?_ | refine Ok.cond ?_); conv => whnf) | refine Ok.block ?_ | ((first | refine Ok.skip ?_ | refine Ok.exit ?_ | refine Ok.ret ?_ | refine nI ?_ | refine ix _ (by assumption) ?_ | refine ixI (by omega) (by assumption) ?_ | refine ix_new _ (by omega) fun _ _ => ?_ | refine ixI_new (by omega) (by omega) fun _ _ => ?_ | refine ⟨_, by assumption, ?_⟩ | refine Alt2.l (aI ?_) | refine Alt2.r (aI ?_)); conv => whnf) | (refine Ok.scope ?_) | ((first | refine Ok.label ?_ | refine rd rfl (by assumption) ?_ | refine ⟨_, .inl ⟨rfl, rfl⟩, ?_⟩ | refine ⟨_, _, rfl, rfl, ?_⟩); conv => whnf) | (refine ⟨fun _ => ?_, fun _ => ?_⟩ <;> (conv => whnf) <;> (try (exfalso; omega))) | ((first | refine aJ ?_ | refine num_any ?_ | refine ⟨_, rfl, ?_⟩); conv => whnf) | fail)
          try refine ⟨J, J + n, rfl, (by show ((J : Nat) : Int) + (n : Int) = ((J + n : Nat) : Int); omega), by omega, by omega, m, hma, ?_⟩
          (try (conv => whnf)); repeat' (first | ((refine And.intro byteT ?_); (conv => whnf)) | refine Ok.seq ?_ | refine OkL.cons ?_ | ((first | refine Ok.region tok ?_ | refine Ok.region_draw tok follows (by kernel_rfl) ?_ | refine Ok.cond ?_); conv => whnf) | refine Ok.block ?_ | ((first | refine Ok.skip ?_ | refine Ok.exit ?_ | refine Ok.ret ?_ | refine nI ?_ | refine ix _ (by assumption) ?_ | refine ixI (by omega) (by assumption) ?_ | refine ix_new _ (by omega) fun _ _ => ?_ | refine ixI_new (by omega) (by omega) fun _ _ => ?_ | refine ⟨_, by assumption, ?_⟩ | refine Alt2.l (aI ?_) | refine Alt2.r (aI ?_)); conv => whnf) | (refine Ok.scope ?_) | ((first | refine Ok.label ?_ | refine rd rfl (by assumption) ?_ | refine ⟨_, .inl ⟨rfl, rfl⟩, ?_⟩ | refine ⟨_, _, rfl, rfl, ?_⟩); conv => whnf) | (refine ⟨fun _ => ?_, fun _ => ?_⟩ <;> (conv => whnf) <;> (try (exfalso; omega))) | ((first | refine aJ ?_ | refine num_any ?_ | refine ⟨_, rfl, ?_⟩); conv => whnf) | fail)
          refine Or.inr (Or.inr (Or.inl ?_)); (conv => whnf); refine ⟨_, _, Tryz.func110, rfl, Tryz.call110, ?_⟩; (conv => whnf)
          (try (conv => whnf)); repeat' (first | ((refine And.intro byteT ?_); (conv => whnf)) | refine Ok.seq ?_ | refine OkL.cons ?_ | ((first | refine Ok.region tok ?_ | refine Ok.region_draw tok follows (by kernel_rfl) ?_ | refine Ok.cond ?_); conv => whnf) | refine Ok.block ?_ | ((first | refine Ok.skip ?_ | refine Ok.exit ?_ | refine Ok.ret ?_ | refine nI ?_ | refine ix _ (by assumption) ?_ | refine ixI (by omega) (by assumption) ?_ | refine ix_new _ (by omega) fun _ _ => ?_ | refine ixI_new (by omega) (by omega) fun _ _ => ?_ | refine ⟨_, by assumption, ?_⟩ | refine Alt2.l (aI ?_) | refine Alt2.r (aI ?_)); conv => whnf) | (refine Ok.scope ?_) | ((first | refine Ok.label ?_ | refine rd rfl (by assumption) ?_ | refine ⟨_, .inl ⟨rfl, rfl⟩, ?_⟩ | refine ⟨_, _, rfl, rfl, ?_⟩); conv => whnf) | (refine ⟨fun _ => ?_, fun _ => ?_⟩ <;> (conv => whnf) <;> (try (exfalso; omega))) | ((first | refine aJ ?_ | refine num_any ?_ | refine ⟨_, rfl, ?_⟩); conv => whnf) | fail)
          refine Or.inr (Or.inr (Or.inr (Or.inr ?_)))
          (conv => whnf)
          refine effW_used copyAt rfl ?_
          (conv => whnf)
          (try (conv => whnf)); repeat' (first | ((refine And.intro byteT ?_); (conv => whnf)) | refine Ok.seq ?_ | refine OkL.cons ?_ | ((first | refine Ok.region tok ?_ | refine Ok.region_draw tok follows (by kernel_rfl) ?_ | refine Ok.cond ?_); conv => whnf) | refine Ok.block ?_ | ((first | refine Ok.skip ?_ | refine Ok.exit ?_ | refine Ok.ret ?_ | refine nI ?_ | refine ix _ (by assumption) ?_ | refine ixI (by omega) (by assumption) ?_ | refine ix_new _ (by omega) fun _ _ => ?_ | refine ixI_new (by omega) (by omega) fun _ _ => ?_ | refine ⟨_, by assumption, ?_⟩ | refine Alt2.l (aI ?_) | refine Alt2.r (aI ?_)); conv => whnf) | (refine Ok.scope ?_) | ((first | refine Ok.label ?_ | refine rd rfl (by assumption) ?_ | refine ⟨_, .inl ⟨rfl, rfl⟩, ?_⟩ | refine ⟨_, _, rfl, rfl, ?_⟩); conv => whnf) | (refine ⟨fun _ => ?_, fun _ => ?_⟩ <;> (conv => whnf) <;> (try (exfalso; omega))) | ((first | refine aJ ?_ | refine num_any ?_ | refine ⟨_, rfl, ?_⟩); conv => whnf) | fail)
          refine ⟨j + 1, by omega, by omega, ?_⟩
          rw [hjn, hts, ← List.append_assoc, ← List.append_assoc, hF]
          (conv => whnf)
          simp [envCat, bcell]
        · have hje : j = x.t.less.length := by omega
          subst hje
          rw [List.take_length]
          (try (conv => whnf)); repeat' (first | refine Ok.seq ?_ | refine OkL.cons ?_ | ((first | refine Ok.region tok ?_ | refine Ok.region_draw tok follows (by kernel_rfl) ?_ | refine Ok.cond ?_); conv => whnf) | refine Ok.block ?_ | ((first | refine Ok.skip ?_ | refine Ok.exit ?_ | refine Ok.ret ?_ | refine nI ?_ | refine ix _ (by assumption) ?_ | refine ixI (by omega) (by assumption) ?_ | refine ix_new _ (by omega) fun _ _ => ?_ | refine ixI_new (by omega) (by omega) fun _ _ => ?_ | refine ⟨_, by assumption, ?_⟩ | refine Alt2.l (aI ?_) | refine Alt2.r (aI ?_)); conv => whnf) | (refine Ok.scope ?_) | ((first | refine Ok.label ?_ | refine rd rfl (by assumption) ?_ | refine ⟨_, .inl ⟨rfl, rfl⟩, ?_⟩ | refine ⟨_, _, rfl, rfl, ?_⟩); conv => whnf) | (refine ⟨fun _ => ?_, fun _ => ?_⟩ <;> (conv => whnf) <;> (try (exfalso; omega))) | ((first | refine aJ ?_ | refine num_any ?_ | refine ⟨_, rfl, ?_⟩); conv => whnf) | fail)
          refine ⟨i + 1, by omega, by omega, ?_⟩
          rw [hstep]
          unfold ttxt
          rw [← List.append_assoc]
          (conv => whnf)
          rfl
      · have hp0 : preT (l.map TR.t) i = sepT ((l.map TR.t).take i) ++ [43] := by unfold preT; rw [if_neg hi0]
        have hb0 : bcl i = .bp 1 0 := by cases i with | zero => exact absurd rfl hi0 | succ k => rfl
        rw [hb0]
        rw [hp0] at hpre hstep
        have hpre2 : ((sepT ((l.map TR.t).take i) ++ [43]).map bcell).length = (sepT ((l.map TR.t).take i) ++ [43]).length := List.length_map _
        (conv => whnf)
        (try (conv => whnf)); repeat' (first | ((refine And.intro byteT ?_); (conv => whnf)) | refine Ok.seq ?_ | refine OkL.cons ?_ | ((first | refine Ok.region tok ?_ | refine Ok.region_draw tok follows (by kernel_rfl) ?_ | refine Ok.cond ?_); conv => whnf) | refine Ok.block ?_ | ((first | refine Ok.skip ?_ | refine Ok.exit ?_ | refine Ok.ret ?_ | refine nI ?_ | refine ix _ (by assumption) ?_ | refine ixI (by omega) (by assumption) ?_ | refine ix_new _ (by omega) fun _ _ => ?_ | refine ixI_new (by omega) (by omega) fun _ _ => ?_ | refine ⟨_, by assumption, ?_⟩ | refine Alt2.l (aI ?_) | refine Alt2.r (aI ?_)); conv => whnf) | (refine Ok.scope ?_) | ((first | refine Ok.label ?_ | refine rd rfl (by assumption) ?_ | refine ⟨_, .inl ⟨rfl, rfl⟩, ?_⟩ | refine ⟨_, _, rfl, rfl, ?_⟩); conv => whnf) | (refine ⟨fun _ => ?_, fun _ => ?_⟩ <;> (conv => whnf) <;> (try (exfalso; omega))) | ((first | refine aJ ?_ | refine num_any ?_ | refine ⟨_, rfl, ?_⟩); conv => whnf) | fail)
        refine Or.inr (Or.inr (Or.inl ?_)); (conv => whnf); refine ⟨_, _, Tryz.func109, rfl, Tryz.call109, ?_⟩; (conv => whnf)
        (try (conv => whnf)); repeat' (first | ((refine And.intro byteT ?_); (conv => whnf)) | refine Ok.seq ?_ | refine OkL.cons ?_ | ((first | refine Ok.region tok ?_ | refine Ok.region_draw tok follows (by kernel_rfl) ?_ | refine Ok.cond ?_); conv => whnf) | refine Ok.block ?_ | ((first | refine Ok.skip ?_ | refine Ok.exit ?_ | refine Ok.ret ?_ | refine nI ?_ | refine ix _ (by assumption) ?_ | refine ixI (by omega) (by assumption) ?_ | refine ix_new _ (by omega) fun _ _ => ?_ | refine ixI_new (by omega) (by omega) fun _ _ => ?_ | refine ⟨_, by assumption, ?_⟩ | refine Alt2.l (aI ?_) | refine Alt2.r (aI ?_)); conv => whnf) | (refine Ok.scope ?_) | ((first | refine Ok.label ?_ | refine rd rfl (by assumption) ?_ | refine ⟨_, .inl ⟨rfl, rfl⟩, ?_⟩ | refine ⟨_, _, rfl, rfl, ?_⟩); conv => whnf) | (refine ⟨fun _ => ?_, fun _ => ?_⟩ <;> (conv => whnf) <;> (try (exfalso; omega))) | ((first | refine aJ ?_ | refine num_any ?_ | refine ⟨_, rfl, ?_⟩); conv => whnf) | fail)
        refine Or.inr (Or.inr (Or.inr (Or.inr ?_)))
        (conv => whnf)
        refine effW_used copyAt rfl ?_
        (conv => whnf)
        (try (conv => whnf)); repeat' (first | ((refine And.intro byteT ?_); (conv => whnf)) | refine Ok.seq ?_ | refine OkL.cons ?_ | ((first | refine Ok.region tok ?_ | refine Ok.region_draw tok follows (by kernel_rfl) ?_ | refine Ok.cond ?_); conv => whnf) | refine Ok.block ?_ | ((first | refine Ok.skip ?_ | refine Ok.exit ?_ | refine Ok.ret ?_ | refine nI ?_ | refine ix _ (by assumption) ?_ | refine ixI (by omega) (by assumption) ?_ | refine ix_new _ (by omega) fun _ _ => ?_ | refine ixI_new (by omega) (by omega) fun _ _ => ?_ | refine ⟨_, by assumption, ?_⟩ | refine Alt2.l (aI ?_) | refine Alt2.r (aI ?_)); conv => whnf) | (refine Ok.scope ?_) | ((first | refine Ok.label ?_ | refine rd rfl (by assumption) ?_ | refine ⟨_, .inl ⟨rfl, rfl⟩, ?_⟩ | refine ⟨_, _, rfl, rfl, ?_⟩); conv => whnf) | (refine ⟨fun _ => ?_, fun _ => ?_⟩ <;> (conv => whnf) <;> (try (exfalso; omega))) | ((first | refine aJ ?_ | refine num_any ?_ | refine ⟨_, rfl, ?_⟩); conv => whnf) | fail)
        refine Or.inr (Or.inr (Or.inl ?_)); (conv => whnf); refine ⟨_, _, Tryz.func110, rfl, Tryz.call110, ?_⟩; (conv => whnf)
        (try (conv => whnf)); repeat' (first | ((refine And.intro byteT ?_); (conv => whnf)) | refine Ok.seq ?_ | refine OkL.cons ?_ | ((first | refine Ok.region tok ?_ | refine Ok.region_draw tok follows (by kernel_rfl) ?_ | refine Ok.cond ?_); conv => whnf) | refine Ok.block ?_ | ((first | refine Ok.skip ?_ | refine Ok.exit ?_ | refine Ok.ret ?_ | refine nI ?_ | refine ix _ (by assumption) ?_ | refine ixI (by omega) (by assumption) ?_ | refine ix_new _ (by omega) fun _ _ => ?_ | refine ixI_new (by omega) (by omega) fun _ _ => ?_ | refine ⟨_, by assumption, ?_⟩ | refine Alt2.l (aI ?_) | refine Alt2.r (aI ?_)); conv => whnf) | (refine Ok.scope ?_) | ((first | refine Ok.label ?_ | refine rd rfl (by assumption) ?_ | refine ⟨_, .inl ⟨rfl, rfl⟩, ?_⟩ | refine ⟨_, _, rfl, rfl, ?_⟩); conv => whnf) | (refine ⟨fun _ => ?_, fun _ => ?_⟩ <;> (conv => whnf) <;> (try (exfalso; omega))) | ((first | refine aJ ?_ | refine num_any ?_ | refine ⟨_, rfl, ?_⟩); conv => whnf) | fail)
        refine Or.inr (Or.inr (Or.inr (Or.inr ?_)))
        (conv => whnf)
        refine effW_used copyAt rfl ?_
        (conv => whnf)
        (try (conv => whnf)); repeat' (first | ((refine And.intro byteT ?_); (conv => whnf)) | refine Ok.seq ?_ | refine OkL.cons ?_ | ((first | refine Ok.region tok ?_ | refine Ok.region_draw tok follows (by kernel_rfl) ?_ | refine Ok.cond ?_); conv => whnf) | refine Ok.block ?_ | ((first | refine Ok.skip ?_ | refine Ok.exit ?_ | refine Ok.ret ?_ | refine nI ?_ | refine ix _ (by assumption) ?_ | refine ixI (by omega) (by assumption) ?_ | refine ix_new _ (by omega) fun _ _ => ?_ | refine ixI_new (by omega) (by omega) fun _ _ => ?_ | refine ⟨_, by assumption, ?_⟩ | refine Alt2.l (aI ?_) | refine Alt2.r (aI ?_)); conv => whnf) | (refine Ok.scope ?_) | ((first | refine Ok.label ?_ | refine rd rfl (by assumption) ?_ | refine ⟨_, .inl ⟨rfl, rfl⟩, ?_⟩ | refine ⟨_, _, rfl, rfl, ?_⟩); conv => whnf) | (refine ⟨fun _ => ?_, fun _ => ?_⟩ <;> (conv => whnf) <;> (try (exfalso; omega))) | ((first | refine aJ ?_ | refine num_any ?_ | refine ⟨_, rfl, ?_⟩); conv => whnf) | fail)
        refine Ok.loopU [1, 3, 5, 12, 13, 14] [6] 1 3 (fun (j : Nat) => [.i .i64 (n * (j + 1) : Nat)]) (fun (j : Nat) (_ : List (List D)) => [[.i .i64 (n : Int), .lst 112 (l.map trow) room], [.bp 1 0, .own 0 ((sepT ((l.map TR.t).take i) ++ [43]) ++ x.t.p ++ tTail (x.t.less.take j)).length], trow x]) (fun (j : Nat) (_ : Vx.Rows) => [some (5, ((sepT ((l.map TR.t).take i) ++ [43]) ++ x.t.p ++ tTail (x.t.less.take j)).map bcell)]) (fun (j : Nat) => j ≤ x.t.less.length) (fun (j : Nat) => x.t.less.length - j) (0) (Nat.zero_le _) ?_; (conv => whnf); refine ⟨by ((conv => whnf); first | rfl | (simp [envCat, List.take_of_length_le, srow, drow, trow, bcell, sepT_nil, tTail_nil]; done) | (simp [envCat, List.take_of_length_le, srow, drow, trow, bcell, sepT_nil, tTail_nil]; rw [IntKind.wrap_i64]; omega)), ?_⟩
        rintro j hj
        have htl := hok.tail hxm j
        have hFl : ((sepT ((l.map TR.t).take i) ++ [43]) ++ x.t.p ++ tTail (x.t.less.take j)).length ≤ 257 * 1048576 + 1 + 256 + 257 * 1048576 := by rw [List.length_append, List.length_append]; omega
        have hFm : (((sepT ((l.map TR.t).take i) ++ [43]) ++ x.t.p ++ tTail (x.t.less.take j)).map bcell).length = ((sepT ((l.map TR.t).take i) ++ [43]) ++ x.t.p ++ tTail (x.t.less.take j)).length := List.length_map _
        have hjn : n * (j + 1 + 1) = n * (j + 1) + n := Nat.mul_succ n (j + 1)
        (conv => whnf)
        by_cases hjl : j < x.t.less.length
        · obtain ⟨m, hm⟩ : ∃ m, x.t.less[j]? = some m := ⟨_, List.getElem?_eq_getElem hjl⟩
          have hml : m.length ≤ 256 := by rw [hxw.2 m (List.mem_of_getElem? hm)]; exact hn
          have hts := tTail_snoc hm
          have hj2 : n * (j + 1) + n ≤ n * (x.t.less.length + 1) := by rw [← hjn]; exact Nat.mul_le_mul_left n (by omega)
          have hma := hka j m hm
          generalize hF : (sepT ((l.map TR.t).take i) ++ [43]) ++ x.t.p ++ tTail (x.t.less.take j) = F at *
          have hF2 : ((F ++ [45]).map bcell).length = (F ++ [45]).length := List.length_map _
          generalize hJ : n * (j + 1) = J at *
          (try (conv => whnf)); repeat' (first | ((refine And.intro byteT ?_); (conv => whnf)) | refine Ok.seq ?_ | refine OkL.cons ?_ | ((first | refine Ok.region tok ?_ | refine Ok.region_draw tok follows (by kernel_rfl) ?_ | refine Ok.cond ?_); conv => whnf) | refine Ok.block ?_ | ((first | refine Ok.skip ?_ | refine Ok.exit ?_ | refine Ok.ret ?_ | refine nI ?_ | refine ix _ (by assumption) ?_ | refine ixI (by omega) (by assumption) ?_ | refine ix_new _ (by omega) fun _ _ => ?_ | refine ixI_new (by omega) (by omega) fun _ _ => ?_ | refine ⟨_, by assumption, ?_⟩ | refine Alt2.l (aI ?_) | refine Alt2.r (aI ?_)); conv => whnf) | (refine Ok.scope ?_) | ((first | refine Ok.label ?_ | refine rd rfl (by assumption) ?_ | refine ⟨_, .inl ⟨rfl, rfl⟩, ?_⟩ | refine ⟨_, _, rfl, rfl, ?_⟩); conv => whnf) | (refine ⟨fun _ => ?_, fun _ => ?_⟩ <;> (conv => whnf) <;> (try (exfalso; omega))) | ((first | refine aJ ?_ | refine num_any ?_ | refine ⟨_, rfl, ?_⟩); conv => whnf) | fail)
          refine Or.inr (Or.inr (Or.inl ?_)); (conv => whnf); refine ⟨_, _, Tryz.func109, rfl, Tryz.call109, ?_⟩; (conv => whnf)
          (try (conv => whnf)); repeat' (first | ((refine And.intro byteT ?_); (conv => whnf)) | refine Ok.seq ?_ | refine OkL.cons ?_ | ((first | refine Ok.region tok ?_ | refine Ok.region_draw tok follows (by kernel_rfl) ?_ | refine Ok.cond ?_); conv => whnf) | refine Ok.block ?_ | ((first | refine Ok.skip ?_ | refine Ok.exit ?_ | refine Ok.ret ?_ | refine nI ?_ | refine ix _ (by assumption) ?_ | refine ixI (by omega) (by assumption) ?_ | refine ix_new _ (by omega) fun _ _ => ?_ | refine ixI_new (by omega) (by omega) fun _ _ => ?_ | refine ⟨_, by assumption, ?_⟩ | refine Alt2.l (aI ?_) | refine Alt2.r (aI ?_)); conv => whnf) | (refine Ok.scope ?_) | ((first | refine Ok.label ?_ | refine rd rfl (by assumption) ?_ | refine ⟨_, .inl ⟨rfl, rfl⟩, ?_⟩ | refine ⟨_, _, rfl, rfl, ?_⟩); conv => whnf) | (refine ⟨fun _ => ?_, fun _ => ?_⟩ <;> (conv => whnf) <;> (try (exfalso; omega))) | ((first | refine aJ ?_ | refine num_any ?_ | refine ⟨_, rfl, ?_⟩); conv => whnf) | fail)
          refine Or.inr (Or.inr (Or.inr (Or.inr ?_)))
          (conv => whnf)
          refine effW_used copyAt rfl ?_
          (conv => whnf)
          (try (conv => whnf)); repeat' (first | ((refine And.intro byteT ?_); (conv => whnf)) | refine Ok.seq ?_ | refine OkL.cons ?_ | ((first | refine Ok.region tok ?_ | refine Ok.region_draw tok follows (by kernel_rfl) ?_ | refine Ok.cond ?_); conv => whnf) | refine Ok.block ?_ | ((first | refine Ok.skip ?_ | refine Ok.exit ?_ | refine Ok.ret ?_ | refine nI ?_ | refine ix _ (by assumption) ?_ | refine ixI (by omega) (by assumption) ?_ | refine ix_new _ (by omega) fun _ _ => ?_ | refine ixI_new (by omega) (by omega) fun _ _ => ?_ | refine ⟨_, by assumption, ?_⟩ | refine Alt2.l (aI ?_) | refine Alt2.r (aI ?_)); conv => whnf) | (refine Ok.scope ?_) | ((first | refine Ok.label ?_ | refine rd rfl (by assumption) ?_ | refine ⟨_, .inl ⟨rfl, rfl⟩, ?_⟩ | refine ⟨_, _, rfl, rfl, ?_⟩); conv => whnf) | (refine ⟨fun _ => ?_, fun _ => ?_⟩ <;> (conv => whnf) <;> (try (exfalso; omega))) | ((first | refine aJ ?_ | refine num_any ?_ | refine ⟨_, rfl, ?_⟩); conv => whnf) | fail)
          try refine ⟨J, J + n, rfl, (by show ((J : Nat) : Int) + (n : Int) = ((J + n : Nat) : Int); omega), by omega, by omega, m, hma, ?_⟩
          (try (conv => whnf)); repeat' (first | ((refine And.intro byteT ?_); (conv => whnf)) | refine Ok.seq ?_ | refine OkL.cons ?_ | ((first | refine Ok.region tok ?_ | refine Ok.region_draw tok follows (by kernel_rfl) ?_ | refine Ok.cond ?_); conv => whnf) | refine Ok.block ?_ | ((first | refine Ok.skip ?_ | refine Ok.exit ?_ | refine Ok.ret ?_ | refine nI ?_ | refine ix _ (by assumption) ?_ | refine ixI (by omega) (by assumption) ?_ | refine ix_new _ (by omega) fun _ _ => ?_ | refine ixI_new (by omega) (by omega) fun _ _ => ?_ | refine ⟨_, by assumption, ?_⟩ | refine Alt2.l (aI ?_) | refine Alt2.r (aI ?_)); conv => whnf) | (refine Ok.scope ?_) | ((first | refine Ok.label ?_ | refine rd rfl (by assumption) ?_ | refine ⟨_, .inl ⟨rfl, rfl⟩, ?_⟩ | refine ⟨_, _, rfl, rfl, ?_⟩); conv => whnf) | (refine ⟨fun _ => ?_, fun _ => ?_⟩ <;> (conv => whnf) <;> (try (exfalso; omega))) | ((first | refine aJ ?_ | refine num_any ?_ | refine ⟨_, rfl, ?_⟩); conv => whnf) | fail)
          refine Or.inr (Or.inr (Or.inl ?_)); (conv => whnf); refine ⟨_, _, Tryz.func110, rfl, Tryz.call110, ?_⟩; (conv => whnf)
          (try (conv => whnf)); repeat' (first | ((refine And.intro byteT ?_); (conv => whnf)) | refine Ok.seq ?_ | refine OkL.cons ?_ | ((first | refine Ok.region tok ?_ | refine Ok.region_draw tok follows (by kernel_rfl) ?_ | refine Ok.cond ?_); conv => whnf) | refine Ok.block ?_ | ((first | refine Ok.skip ?_ | refine Ok.exit ?_ | refine Ok.ret ?_ | refine nI ?_ | refine ix _ (by assumption) ?_ | refine ixI (by omega) (by assumption) ?_ | refine ix_new _ (by omega) fun _ _ => ?_ | refine ixI_new (by omega) (by omega) fun _ _ => ?_ | refine ⟨_, by assumption, ?_⟩ | refine Alt2.l (aI ?_) | refine Alt2.r (aI ?_)); conv => whnf) | (refine Ok.scope ?_) | ((first | refine Ok.label ?_ | refine rd rfl (by assumption) ?_ | refine ⟨_, .inl ⟨rfl, rfl⟩, ?_⟩ | refine ⟨_, _, rfl, rfl, ?_⟩); conv => whnf) | (refine ⟨fun _ => ?_, fun _ => ?_⟩ <;> (conv => whnf) <;> (try (exfalso; omega))) | ((first | refine aJ ?_ | refine num_any ?_ | refine ⟨_, rfl, ?_⟩); conv => whnf) | fail)
          refine Or.inr (Or.inr (Or.inr (Or.inr ?_)))
          (conv => whnf)
          refine effW_used copyAt rfl ?_
          (conv => whnf)
          (try (conv => whnf)); repeat' (first | ((refine And.intro byteT ?_); (conv => whnf)) | refine Ok.seq ?_ | refine OkL.cons ?_ | ((first | refine Ok.region tok ?_ | refine Ok.region_draw tok follows (by kernel_rfl) ?_ | refine Ok.cond ?_); conv => whnf) | refine Ok.block ?_ | ((first | refine Ok.skip ?_ | refine Ok.exit ?_ | refine Ok.ret ?_ | refine nI ?_ | refine ix _ (by assumption) ?_ | refine ixI (by omega) (by assumption) ?_ | refine ix_new _ (by omega) fun _ _ => ?_ | refine ixI_new (by omega) (by omega) fun _ _ => ?_ | refine ⟨_, by assumption, ?_⟩ | refine Alt2.l (aI ?_) | refine Alt2.r (aI ?_)); conv => whnf) | (refine Ok.scope ?_) | ((first | refine Ok.label ?_ | refine rd rfl (by assumption) ?_ | refine ⟨_, .inl ⟨rfl, rfl⟩, ?_⟩ | refine ⟨_, _, rfl, rfl, ?_⟩); conv => whnf) | (refine ⟨fun _ => ?_, fun _ => ?_⟩ <;> (conv => whnf) <;> (try (exfalso; omega))) | ((first | refine aJ ?_ | refine num_any ?_ | refine ⟨_, rfl, ?_⟩); conv => whnf) | fail)
          refine ⟨j + 1, by omega, by omega, ?_⟩
          rw [hjn, hts, ← List.append_assoc, ← List.append_assoc, hF]
          (conv => whnf)
          simp [envCat, bcell]
        · have hje : j = x.t.less.length := by omega
          subst hje
          rw [List.take_length]
          (try (conv => whnf)); repeat' (first | refine Ok.seq ?_ | refine OkL.cons ?_ | ((first | refine Ok.region tok ?_ | refine Ok.region_draw tok follows (by kernel_rfl) ?_ | refine Ok.cond ?_); conv => whnf) | refine Ok.block ?_ | ((first | refine Ok.skip ?_ | refine Ok.exit ?_ | refine Ok.ret ?_ | refine nI ?_ | refine ix _ (by assumption) ?_ | refine ixI (by omega) (by assumption) ?_ | refine ix_new _ (by omega) fun _ _ => ?_ | refine ixI_new (by omega) (by omega) fun _ _ => ?_ | refine ⟨_, by assumption, ?_⟩ | refine Alt2.l (aI ?_) | refine Alt2.r (aI ?_)); conv => whnf) | (refine Ok.scope ?_) | ((first | refine Ok.label ?_ | refine rd rfl (by assumption) ?_ | refine ⟨_, .inl ⟨rfl, rfl⟩, ?_⟩ | refine ⟨_, _, rfl, rfl, ?_⟩); conv => whnf) | (refine ⟨fun _ => ?_, fun _ => ?_⟩ <;> (conv => whnf) <;> (try (exfalso; omega))) | ((first | refine aJ ?_ | refine num_any ?_ | refine ⟨_, rfl, ?_⟩); conv => whnf) | fail)
          refine ⟨i + 1, by omega, by omega, ?_⟩
          rw [hstep]
          unfold ttxt
          rw [← List.append_assoc]
          (conv => whnf)
          rfl
    · have hie : i = l.length := by omega
      subst hie
      rw [List.take_of_length_le (by simp)] at hsl hsm ⊢
      have hbl : bcl l.length = .bp 1 0 := by
        have := List.length_pos_iff.2 hl0
        cases hh : l.length with
        | zero => omega
        | succ k => rfl
      rw [hbl]
      (conv => whnf)
      have htne : sepT (l.map TR.t) ≠ [] := by
        obtain ⟨x, hx⟩ : ∃ x, l[l.length - 1]? = some x := ⟨_, List.getElem?_eq_getElem (by have := List.length_pos_iff.2 hl0; omega)⟩
        have hxt : (l.map TR.t)[l.length - 1]? = some x.t := by simp [hx]
        have h1 := sepT_step hxt
        rw [show l.length - 1 + 1 = l.length by have := List.length_pos_iff.2 hl0; omega, List.take_of_length_le (by simp)] at h1
        rw [h1]
        intro e
        have h2 := (List.append_eq_nil_iff.1 (List.append_eq_nil_iff.1 e).2).1
        have h3 := (hok.wide x (List.mem_of_getElem? hx)).1
        rw [h2] at h3
        simp at h3
        omega
      (try (conv => whnf)); repeat' (first | refine Ok.seq ?_ | refine OkL.cons ?_ | ((first | refine Ok.region tok ?_ | refine Ok.region_draw tok follows (by kernel_rfl) ?_ | refine Ok.cond ?_); conv => whnf) | refine Ok.block ?_ | ((first | refine Ok.skip ?_ | refine Ok.exit ?_ | refine Ok.ret ?_ | refine nI ?_ | refine ix _ (by assumption) ?_ | refine ixI (by omega) (by assumption) ?_ | refine ix_new _ (by omega) fun _ _ => ?_ | refine ixI_new (by omega) (by omega) fun _ _ => ?_ | refine ⟨_, by assumption, ?_⟩ | refine Alt2.l (aI ?_) | refine Alt2.r (aI ?_)); conv => whnf) | (refine Ok.scope ?_) | ((first | refine Ok.label ?_ | refine rd rfl (by assumption) ?_ | refine ⟨_, .inl ⟨rfl, rfl⟩, ?_⟩ | refine ⟨_, _, rfl, rfl, ?_⟩); conv => whnf) | (refine ⟨fun _ => ?_, fun _ => ?_⟩ <;> (conv => whnf) <;> (try (exfalso; omega))) | ((first | refine aJ ?_ | refine num_any ?_ | refine ⟨_, rfl, ?_⟩); conv => whnf) | fail)
      refine Or.inr (Or.inr (Or.inr (Or.inr ?_)))
      (conv => whnf)
      refine effW_of_effK (effK_string strAt rfl rfl rfl (by rw [hsm]; exact Nat.le_refl _) (take_all bcell _) htne ?_)
      (conv => whnf)
      (try (conv => whnf)); repeat' (first | refine Ok.seq ?_ | refine OkL.cons ?_ | ((first | refine Ok.region tok ?_ | refine Ok.region_draw tok follows (by kernel_rfl) ?_ | refine Ok.cond ?_); conv => whnf) | refine Ok.block ?_ | ((first | refine Ok.skip ?_ | refine Ok.exit ?_ | refine Ok.ret ?_ | refine nI ?_ | refine ix _ (by assumption) ?_ | refine ixI (by omega) (by assumption) ?_ | refine ix_new _ (by omega) fun _ _ => ?_ | refine ixI_new (by omega) (by omega) fun _ _ => ?_ | refine ⟨_, by assumption, ?_⟩ | refine Alt2.l (aI ?_) | refine Alt2.r (aI ?_)); conv => whnf) | (refine Ok.scope ?_) | ((first | refine Ok.label ?_ | refine rd rfl (by assumption) ?_ | refine ⟨_, .inl ⟨rfl, rfl⟩, ?_⟩ | refine ⟨_, _, rfl, rfl, ?_⟩); conv => whnf) | (refine ⟨fun _ => ?_, fun _ => ?_⟩ <;> (conv => whnf) <;> (try (exfalso; omega))) | ((first | refine aJ ?_ | refine num_any ?_ | refine ⟨_, rfl, ?_⟩); conv => whnf) | fail)
      refine Or.inl ?_; (conv => whnf)
      unfold textS
      rw [if_neg hne]
      rfl
end Go.Proofs.YtaiondckookpiaaGreatDoor
namespace Go.Proofs.YtaiondckookpiaaGreatDoor
open Go Go.Vx
theorem cutL_len (c : UInt8) : ∀ l : Str, (cutL c l).length ≤ l.length + 1
  | [] => by simp [cutL]
  | b :: r => by
    have ih := cutL_len c r
    unfold cutL
    split
    · simp; omega
    · split
      · rename_i h; rw [h] at ih; simp at ih ⊢; omega
      · simp
theorem cutL_mem (c : UInt8) : ∀ {l p : Str}, p ∈ cutL c l → p.length ≤ l.length
  | [], p, h => by simp [cutL] at h; simp [h]
  | b :: r, p, h => by
    unfold cutL at h
    split at h
    · rcases List.mem_cons.1 h with rfl | h
      · simp
      · have := cutL_mem c h; simp; omega
    · split at h
      · rename_i x t hx
        rcases List.mem_cons.1 h with rfl | h
        · have : x ∈ cutL c r := by rw [hx]; simp
          have := cutL_mem c this
          simp; omega
        · have : p ∈ cutL c r := by rw [hx]; simp [h]
          have := cutL_mem c this
          simp; omega
      · simp at h; subst h; simp
theorem cut_step {c : UInt8} {s : Str} {i f : Nat} (hf : f ≤ i) (hi : s[i]? = some c) (hno : c ∉ (s.take i).drop f) : cutL c (s.drop f) = (s.take i).drop f :: cutL c (s.drop (i + 1)) := by
  obtain ⟨hl, e⟩ := List.getElem?_eq_some_iff.1 hi
  have h1 : s.drop f = (s.take i).drop f ++ c :: s.drop (i + 1) := by
    conv => lhs; rw [← List.take_append_drop i s, List.drop_append_of_le_length (by simp; omega), List.drop_eq_getElem_cons hl, e]
  rw [h1, cutL_at hno]
theorem cut_more {c b : UInt8} {s : Str} {i f : Nat} (hf : f ≤ i) (hi : s[i]? = some b) (hb : b ≠ c) (hno : c ∉ (s.take i).drop f) : c ∉ (s.take (i + 1)).drop f := by
  obtain ⟨hl, e⟩ := List.getElem?_eq_some_iff.1 hi
  rw [take_snoc hi, List.drop_append_of_le_length (by simp; omega)]
  intro h
  rcases List.mem_append.1 h with h | h
  · exact hno h
  · simp at h; exact hb h.symm
theorem cut_last {c : UInt8} {s : Str} {f : Nat} (hno : c ∉ (s.take s.length).drop f) : cutL c (s.drop f) = [(s.take s.length).drop f] := by
  rw [List.take_length] at hno ⊢
  exact cutL_none hno
def pieces (s : Str) : List (List Str) := (cutL 43 s).map (cutL 45)
def OkW (n : Int) (w : Str) : Prop := (w.length : Int) = n ∧ okC w
def OkP (n : Int) (ms : List (List Str)) : Prop := ∀ m ∈ ms, ∀ w ∈ m, OkW n w
def cntP (ms : List (List Str)) : Nat := (ms.map List.length).sum
noncomputable def trm (m : List Str) : Option Term := termT (m.headD []) m.tail
noncomputable def trms (ms : List (List Str)) : List Term := ms.filterMap trm
open Classical in
noncomputable def parO (b : Int) (s : Str) : Int × Int × List Term :=
  if 33024 < s.length then (2, 0, []) else if b < 1 ∨ 256 < b then (1, 0, []) else if s = [110, 111, 110, 101] then (0, b, [])
  else if ¬ OkP b (pieces s) then (20, 0, []) else if 128 < cntP (pieces s) then (3, 0, []) else (0, b, formT (trms (pieces s)))
theorem cntP_take {ms : List (List Str)} {i : Nat} {m : List Str} (h : ms[i]? = some m) : cntP (ms.take (i + 1)) = cntP (ms.take i) + m.length := by
  rw [take_snoc h]; simp [cntP]
theorem cntP_le {ms : List (List Str)} {k : Nat} (h : ∀ m ∈ ms, m.length ≤ k) (i : Nat) : cntP (ms.take i) ≤ ms.length * k := by
  have go : ∀ ms : List (List Str), (∀ m ∈ ms, m.length ≤ k) → cntP ms ≤ ms.length * k := by
    intro ms
    induction ms with
    | nil => intro _; simp [cntP]
    | cons m ms ih =>
      intro h
      have h1 := ih fun x hx => h x (by simp [hx])
      have h2 := h m (by simp)
      simp only [cntP, List.map_cons, List.sum_cons, List.length_cons] at h1 ⊢
      rw [Nat.add_mul]; omega
  refine Nat.le_trans (go _ fun m hm => h m (List.mem_of_mem_take hm)) (Nat.mul_le_mul_right _ (by simp; omega))
theorem trms_some {ms : List (List Str)} {i : Nat} {m : List Str} {t : Term} (h : ms[i]? = some m) (ht : trm m = some t) : trms (ms.take (i + 1)) = trms (ms.take i) ++ [t] := by
  rw [take_snoc h]; simp [trms, ht]
theorem trms_none {ms : List (List Str)} {i : Nat} {m : List Str} (h : ms[i]? = some m) (ht : trm m = none) : trms (ms.take (i + 1)) = trms (ms.take i) := by
  rw [take_snoc h]; simp [trms, ht]
theorem pieces_len (s : Str) : (pieces s).length ≤ s.length + 1 := by
  unfold pieces; rw [List.length_map]; exact cutL_len _ _
theorem pieces_mem {s : Str} {m : List Str} (h : m ∈ pieces s) : m ≠ [] ∧ m.length ≤ s.length + 1 ∧ ∀ w ∈ m, w.length ≤ s.length := by
  obtain ⟨p, hp, rfl⟩ := List.mem_map.1 h
  have h1 := cutL_mem _ hp
  have h2 := cutL_len 45 p
  exact ⟨cutL_ne _ _, by omega, fun w hw => Nat.le_trans (cutL_mem _ hw) h1⟩
theorem szT_sub {l k : List Term} (h : l.Sublist k) : szT l ≤ szT k := by
  induction h with
  | slnil => exact Nat.le_refl _
  | cons a _ ih => simp only [szT, List.map_cons, List.sum_cons] at ih ⊢; omega
  | cons_cons a _ ih => simp only [szT, List.map_cons, List.sum_cons] at ih ⊢; omega
theorem szT_perm {l k : List Term} (h : l.Perm k) : szT l = szT k := (h.map _).sum_nat
theorem grG_sublist {α : Type} (R : α → α → Prop) (l : List α) : (grG R l).Sublist l := by
  have go : ∀ (l k l0 : List α), k.Sublist l0 → (l.foldl (addG R) k).Sublist (l0 ++ l) := by
    intro l
    induction l with
    | nil => intro k l0 h; simpa using h
    | cons x l ih =>
      intro k l0 h
      have hx : (addG R k x).Sublist (l0 ++ [x]) := by
        unfold addG
        split
        · exact h.trans (List.sublist_append_left _ _)
        · exact (List.filter_sublist.trans h).append (List.Sublist.refl _)
      have := ih _ _ hx
      simpa [List.append_assoc] using this
  have h := go l [] [] (List.Sublist.refl _)
  rw [List.nil_append] at h
  exact h
theorem szT_form (l : List Term) : szT (formT l) ≤ szT l := by
  unfold formT
  rw [szT_perm (srt_perm aheadT _)]
  exact szT_sub (grG_sublist _ _)
theorem termT_sz {p : Str} {less : List Str} {t : Term} (h : termT p less = some t) : t.less.length ≤ less.length := by
  by_cases hk : PK p less = [p]
  · rw [termT_pk0 hk] at h; cases h
  · rw [termT_pk1 hk] at h
    cases h
    have := PK_len p less less.length
    rwa [List.take_length] at this
theorem trm_sz {m : List Str} {t : Term} (hm : m ≠ []) (h : trm m = some t) : 1 + t.less.length ≤ m.length := by
  have := termT_sz h
  cases m with
  | nil => exact absurd rfl hm
  | cons a m => simp at this ⊢; omega
theorem szT_trms {ms : List (List Str)} (h : ∀ m ∈ ms, m ≠ []) : szT (trms ms) ≤ cntP ms := by
  induction ms with
  | nil => simp [trms, szT, cntP]
  | cons m ms ih =>
    have h1 := ih fun x hx => h x (by simp [hx])
    unfold trms cntP at *
    cases ht : trm m with
    | none => rw [List.filterMap_cons_none ht]; simp; omega
    | some t =>
      rw [List.filterMap_cons_some ht]
      have := trm_sz (h m (by simp)) ht
      simp only [szT, List.map_cons, List.sum_cons] at h1 ⊢
      omega
structure GoodT (n : Nat) (t : Term) : Prop where
  ok : t.Ok n
  p : CN t.p
  less : ∀ m ∈ t.less, CN m
theorem metL_mem {p : Str} {less : List Str} {m : Str} (h : m ∈ metL p less) : ∃ x ∈ less, meetT x p = some m := by
  obtain ⟨x, hx, hm⟩ := List.mem_filterMap.1 h
  exact ⟨x, hx, hm⟩
theorem termT_good {p : Str} {less : List Str} {t : Term} {n : Nat} (hp : CN p) (hn : p.length = n) (hl : ∀ m ∈ less, CT m) (h : termT p less = some t) : GoodT n t ∧ t.p = p := by
  have h0 := termT_ok hp.2 h
  subst hn
  refine ⟨⟨h0.1, by rw [h0.2]; exact hp, fun m hm => ?_⟩, h0.2⟩
  by_cases hk : PK p less = [p]
  · rw [termT_pk0 hk] at h; cases h
  · rw [termT_pk1 hk] at h
    cases h
    obtain ⟨x, hx, hm2⟩ := metL_mem (PK_mem hm)
    have h3 := meetT_ct hm2 (hl x hx) hp.1
    exact ⟨h3.1, fun e => h3.2.2 (List.eq_nil_of_length_eq_zero (by rw [← h3.2.1, e]; rfl))⟩
structure Fine (n : Int) (ts : List Term) : Prop where
  n0 : 0 ≤ n
  n1 : n ≤ 256
  good : ∀ t ∈ ts, GoodT n.toNat t
  sz : szT ts ≤ 128
theorem Fine.nil {n : Int} (h0 : 0 ≤ n) (h1 : n ≤ 256) : Fine n [] := ⟨h0, h1, by simp, by simp [szT]⟩
theorem szT_len (l : List Term) : l.length ≤ szT l := szS_len l
theorem szT_mem {l : List Term} {t : Term} (h : t ∈ l) : 1 + t.less.length ≤ szT l := szS_mem h
theorem Fine.len {n : Int} {ts : List Term} (h : Fine n ts) : ts.length ≤ 128 := Nat.le_trans (szT_len _) h.sz
theorem Fine.less {n : Int} {ts : List Term} (h : Fine n ts) {t : Term} (ht : t ∈ ts) : t.less.length ≤ 127 := by
  have := szT_mem ht
  have := h.sz
  omega
theorem GoodT.tn {n : Nat} {x : TR} (h : GoodT n x.t) (hl : x.t.less.length ≤ 1048576) : TN x := ⟨h.p, h.less, hl⟩
theorem GoodT.to {n : Nat} {x : TR} (h : GoodT n x.t) (hl : x.t.less.length ≤ 1048576) : TO n x := ⟨h.tn hl, h.ok⟩
theorem GoodT.rn {n : Nat} {x : TR} (h : GoodT n x.t) (hl : x.t.less.length ≤ 1048576) : RN2 x ∧ x.t.Ok n :=
  ⟨⟨⟨h.p.2, h.p.1.len⟩, fun m hm => ⟨(h.less m hm).2, (h.less m hm).1.len⟩, hl⟩, h.ok⟩
theorem mem_of_map {l : List TR} {ts : List Term} (e : l.map TR.t = ts) {x : TR} (hx : x ∈ l) : x.t ∈ ts := by rw [← e]; exact List.mem_map_of_mem hx
theorem Fine.to {n : Int} {ts : List Term} (h : Fine n ts) {l : List TR} (e : l.map TR.t = ts) : ∀ x ∈ l, TO n.toNat x := fun x hx =>
  (h.good _ (mem_of_map e hx)).to (Nat.le_trans (h.less (mem_of_map e hx)) (by decide))
theorem Fine.rn {n : Int} {ts : List Term} (h : Fine n ts) {l : List TR} (e : l.map TR.t = ts) : ∀ x ∈ l, RN2 x ∧ x.t.Ok n.toNat := fun x hx =>
  (h.good _ (mem_of_map e hx)).rn (Nat.le_trans (h.less (mem_of_map e hx)) (by decide))
theorem Fine.sp {n : Int} {ts : List Term} (h : Fine n ts) {l : List TR} (e : l.map TR.t = ts) : SpOk n.toNat l := by
  refine ⟨by have := h.n1; omega, ?_, fun x hx => (h.good _ (mem_of_map e hx)).ok.wide, fun hne => ?_⟩
  · rw [← szS_eq, e]; exact Nat.le_trans h.sz (by decide)
  · cases l with
    | nil => exact absurd rfl hne
    | cons x l => exact (h.good _ (mem_of_map e (List.mem_cons_self ..))).ok.pos
theorem Fine.form {n : Int} {l : List Term} (h0 : 0 ≤ n) (h1 : n ≤ 256) (hg : ∀ t ∈ l, GoodT n.toNat t) (hs : szT (formT l) ≤ 128) : Fine n (formT l) :=
  ⟨h0, h1, fun t ht => hg t (formT_mem ht), hs⟩
theorem headD_mem {m : List Str} (h : m ≠ []) : m.headD [] ∈ m := by
  cases m with
  | nil => exact absurd rfl h
  | cons a m => simp
theorem trms_good {n : Int} {ms : List (List Str)} (h : ∀ m ∈ ms, m ≠ []) (ho : OkP n ms) : ∀ t ∈ trms ms, GoodT n.toNat t := by
  intro t ht
  obtain ⟨m, hm, hmt⟩ := List.mem_filterMap.1 ht
  have h1 := ho m hm _ (headD_mem (h m hm))
  exact (termT_good ⟨h1.2.1, h1.2.2⟩ (by have := h1.1; omega) (fun w hw => (ho m hm w (List.mem_of_mem_tail hw)).2.1) hmt).1
theorem parO_fine (b : Int) (s : Str) : Fine (parO b s).2.1 (parO b s).2.2 := by
  unfold parO
  split
  · exact .nil (by decide) (by decide)
  · split
    · exact .nil (by decide) (by decide)
    · rename_i hb
      split
      · exact .nil (by show 0 ≤ b; omega) (by show b ≤ 256; omega)
      · split
        · exact .nil (by decide) (by decide)
        · rename_i ho
          split
          · exact .nil (by decide) (by decide)
          · rename_i hc
            refine .form (by show 0 ≤ b; omega) (by show b ≤ 256; omega) (trms_good (fun m hm => (pieces_mem hm).1) (Classical.not_not.1 ho)) ?_
            have := szT_form (trms (pieces s))
            have := szT_trms (ms := pieces s) fun m hm => (pieces_mem hm).1
            omega
end Go.Proofs.YtaiondckookpiaaGreatDoor
namespace Go.Proofs.YtaiondckookpiaaGreatDoor
open Go Go.Vx
set_option maxHeartbeats 4000000 in
theorem rcube_at (s : Str) : FSpec Tryz.prog T 85 [.s s] (fun r _ => r = .b (okC s)) := by
  refine FSpec.of_ok tok Tryz.func85 rfl Tryz.call85 (by simp) ?_
  (try (conv => whnf)); repeat' (first | refine Ok.seq ?_ | refine OkL.cons ?_ | ((first | refine Ok.region tok ?_ | refine Ok.region_draw tok follows (by kernel_rfl) ?_ | refine Ok.cond ?_); conv => whnf) | refine Ok.block ?_ | ((first | refine Ok.skip ?_ | refine Ok.exit ?_ | refine Ok.ret ?_ | refine nI ?_ | refine ix _ (by assumption) ?_ | refine ixI (by omega) (by assumption) ?_ | refine ix_new _ (by omega) fun _ _ => ?_ | refine ixI_new (by omega) (by omega) fun _ _ => ?_ | refine ⟨_, by assumption, ?_⟩ | refine Alt2.l (aI ?_) | refine Alt2.r (aI ?_)); conv => whnf) | (refine Ok.scope ?_) | ((first | refine Ok.label ?_ | refine rd rfl (by assumption) ?_ | refine ⟨_, .inl ⟨rfl, rfl⟩, ?_⟩ | refine ⟨_, _, rfl, rfl, ?_⟩); conv => whnf) | (refine ⟨fun _ => ?_, fun _ => ?_⟩ <;> (conv => whnf) <;> (try (exfalso; omega))) | ((first | refine aJ ?_ | refine num_any ?_ | refine ⟨_, rfl, ?_⟩); conv => whnf) | fail)
  · rename_i h
    refine Or.inl ?_; (conv => whnf)
    show D.b False = _
    exact congrArg D.b (propext ⟨fun h => h.elim, fun h2 => h2.2 (List.eq_nil_of_length_eq_zero (by omega))⟩)
  · rename_i h h2
    refine Or.inl ?_; (conv => whnf)
    show D.b False = _
    exact congrArg D.b (propext ⟨fun h => h.elim, fun h3 => absurd h3.1.len (by omega)⟩)
  · rename_i h h2
    have hl : s.length ≤ 256 := by omega
    have hne : s ≠ [] := fun e => by rw [e] at h; simp at h
    refine Ok.loopU [0] [3] 0 0 (fun (i : Nat) => [.i .i64 (i : Nat)]) (fun _ b => b) (fun _ r => r) (fun (i : Nat) => i ≤ s.length ∧ cubOk (s.take i)) (fun (i : Nat) => s.length - i) (0) (⟨Nat.zero_le _, by simp [cubOk]⟩) ?_; (conv => whnf); refine ⟨by ((conv => whnf); first | rfl | (simp [envCat, List.take_of_length_le, srow]; done) | (simp [envCat, List.take_of_length_le, srow]; rw [IntKind.wrap_i64]; omega)), ?_⟩
    rintro i ⟨hi, hall⟩
    (conv => whnf)
    by_cases hil : i < s.length
    · obtain ⟨a, ha⟩ : ∃ a, s[i]? = some a := ⟨_, List.getElem?_eq_getElem hil⟩
      have haI : s[((i : Nat) : Int).toNat]? = some a := ha
      by_cases hb1 : a = 48 ∨ a = 49 ∨ a = 120
      · have hb3 : ((a.toNat : Nat) : Int) = 48 ∨ ((a.toNat : Nat) : Int) = 49 ∨ ((a.toNat : Nat) : Int) = 120 := by
          rcases hb1 with rfl | rfl | rfl
          · exact .inl rfl
          · exact .inr (.inl rfl)
          · exact .inr (.inr rfl)
        (try (conv => whnf)); repeat' (first | refine Ok.seq ?_ | refine OkL.cons ?_ | ((first | refine Ok.region tok ?_ | refine Ok.region_draw tok follows (by kernel_rfl) ?_ | refine Ok.cond ?_); conv => whnf) | refine Ok.block ?_ | ((first | refine Ok.skip ?_ | refine Ok.exit ?_ | refine Ok.ret ?_ | refine nI ?_ | refine ix _ (by assumption) ?_ | refine ixI (by omega) (by assumption) ?_ | refine ix_new _ (by omega) fun _ _ => ?_ | refine ixI_new (by omega) (by omega) fun _ _ => ?_ | refine ⟨_, by assumption, ?_⟩ | refine Alt2.l (aI ?_) | refine Alt2.r (aI ?_)); conv => whnf) | (refine Ok.scope ?_) | ((first | refine Ok.label ?_ | refine rd rfl (by assumption) ?_ | refine ⟨_, .inl ⟨rfl, rfl⟩, ?_⟩ | refine ⟨_, _, rfl, rfl, ?_⟩); conv => whnf) | (refine ⟨fun _ => ?_, fun _ => ?_⟩ <;> (conv => whnf) <;> (try (exfalso; omega))) | ((first | refine aJ ?_ | refine num_any ?_ | refine ⟨_, rfl, ?_⟩); conv => whnf) | fail)
        all_goals
          refine ⟨i + 1, by omega, ⟨by omega, cubOk_step hall ha hb1⟩, ?_⟩
          (conv => whnf)
          rfl
      · have hb3 := u8_ne (fun e => hb1 (.inl e) : a ≠ 48)
        have hb4 := u8_ne (fun e => hb1 (.inr (.inl e)) : a ≠ 49)
        have hb5 := u8_ne (fun e => hb1 (.inr (.inr e)) : a ≠ 120)
        rw [show (((48 : UInt8).toNat : Nat) : Int) = 48 from rfl] at hb3
        rw [show (((49 : UInt8).toNat : Nat) : Int) = 49 from rfl] at hb4
        rw [show (((120 : UInt8).toNat : Nat) : Int) = 120 from rfl] at hb5
        (try (conv => whnf)); repeat' (first | refine Ok.seq ?_ | refine OkL.cons ?_ | ((first | refine Ok.region tok ?_ | refine Ok.region_draw tok follows (by kernel_rfl) ?_ | refine Ok.cond ?_); conv => whnf) | refine Ok.block ?_ | ((first | refine Ok.skip ?_ | refine Ok.exit ?_ | refine Ok.ret ?_ | refine nI ?_ | refine ix _ (by assumption) ?_ | refine ixI (by omega) (by assumption) ?_ | refine ix_new _ (by omega) fun _ _ => ?_ | refine ixI_new (by omega) (by omega) fun _ _ => ?_ | refine ⟨_, by assumption, ?_⟩ | refine Alt2.l (aI ?_) | refine Alt2.r (aI ?_)); conv => whnf) | (refine Ok.scope ?_) | ((first | refine Ok.label ?_ | refine rd rfl (by assumption) ?_ | refine ⟨_, .inl ⟨rfl, rfl⟩, ?_⟩ | refine ⟨_, _, rfl, rfl, ?_⟩); conv => whnf) | (refine ⟨fun _ => ?_, fun _ => ?_⟩ <;> (conv => whnf) <;> (try (exfalso; omega))) | ((first | refine aJ ?_ | refine num_any ?_ | refine ⟨_, rfl, ?_⟩); conv => whnf) | fail)
        all_goals
          refine Or.inl ?_; (conv => whnf)
          show D.b False = _
          exact congrArg D.b (propext ⟨fun h => h.elim, fun h3 => hb1 (h3.1.cub a (List.mem_of_getElem? ha))⟩)
    · have hie : i = s.length := by omega
      subst hie
      rw [List.take_length] at hall
      (try (conv => whnf)); repeat' (first | refine Ok.seq ?_ | refine OkL.cons ?_ | ((first | refine Ok.region tok ?_ | refine Ok.region_draw tok follows (by kernel_rfl) ?_ | refine Ok.cond ?_); conv => whnf) | refine Ok.block ?_ | ((first | refine Ok.skip ?_ | refine Ok.exit ?_ | refine Ok.ret ?_ | refine nI ?_ | refine ix _ (by assumption) ?_ | refine ixI (by omega) (by assumption) ?_ | refine ix_new _ (by omega) fun _ _ => ?_ | refine ixI_new (by omega) (by omega) fun _ _ => ?_ | refine ⟨_, by assumption, ?_⟩ | refine Alt2.l (aI ?_) | refine Alt2.r (aI ?_)); conv => whnf) | (refine Ok.scope ?_) | ((first | refine Ok.label ?_ | refine rd rfl (by assumption) ?_ | refine ⟨_, .inl ⟨rfl, rfl⟩, ?_⟩ | refine ⟨_, _, rfl, rfl, ?_⟩); conv => whnf) | (refine ⟨fun _ => ?_, fun _ => ?_⟩ <;> (conv => whnf) <;> (try (exfalso; omega))) | ((first | refine aJ ?_ | refine num_any ?_ | refine ⟨_, rfl, ?_⟩); conv => whnf) | fail)
      refine Or.inl ?_; (conv => whnf)
      show D.b True = _
      exact congrArg D.b (propext ⟨fun _ => ⟨⟨hl, hall⟩, hne⟩, fun _ => trivial⟩)
set_option maxHeartbeats 4000000 in
theorem rcut_at (s : Str) (c : UInt8) {k : Int} (hk : k = ((c.toNat : Nat) : Int)) (hs : s.length ≤ 100000) : FSpec Tryz.prog T 112 [.s s, .i .u8 k] (fun d rows => ∃ rm, d = .lst 9 ((cutL c s).map srow) rm ∧ rows = []) := by
  subst hk
  refine FSpec.of_ok tok Tryz.func112 rfl Tryz.call112 (by simp) ?_
  (try (conv => whnf)); repeat' (first | refine Ok.seq ?_ | refine OkL.cons ?_ | ((first | refine Ok.region tok ?_ | refine Ok.cond ?_); conv => whnf) | refine Ok.block ?_ | ((first | refine Ok.skip ?_ | refine Ok.exit ?_ | refine Ok.ret ?_ | refine nI ?_ | refine ix _ (by assumption) ?_ | refine ixI (by omega) (by assumption) ?_ | refine ix_new _ (by omega) fun _ _ => ?_ | refine ixI_new (by omega) (by omega) fun _ _ => ?_ | refine ⟨_, by assumption, ?_⟩ | refine Alt2.l (aI ?_) | refine Alt2.r (aI ?_)); conv => whnf) | (refine Ok.scope ?_) | ((first | refine Ok.label ?_ | refine rd rfl (by assumption) ?_ | refine ⟨_, .inl ⟨rfl, rfl⟩, ?_⟩ | refine ⟨_, _, rfl, rfl, ?_⟩); conv => whnf) | (refine ⟨fun _ => ?_, fun _ => ?_⟩ <;> (conv => whnf) <;> (try (exfalso; omega))) | ((first | refine aJ ?_ | refine num_any ?_ | refine ⟨_, rfl, ?_⟩); conv => whnf) | fail)
  refine Ok.ghost 5 9 rfl ?_
  (conv => whnf)
  refine Ok.loopU [0, 1] [5, 6, 7] 1 0 (fun (x : Nat × Nat × List Str) => [.own 0 x.2.2.length, .i .i64 (x.2.1 : Nat), .i .i64 (x.1 : Nat)]) (fun _ b => b) (fun (x : Nat × Nat × List Str) (_ : Vx.Rows) => [some (9, x.2.2.map srow)]) (fun (x : Nat × Nat × List Str) => x.1 ≤ s.length + 1 ∧ x.2.2.length ≤ x.1 ∧ ((x.1 ≤ s.length ∧ x.2.1 ≤ x.1 ∧ c ∉ (s.take x.1).drop x.2.1 ∧ cutL c s = x.2.2 ++ cutL c (s.drop x.2.1)) ∨ (x.1 = s.length + 1 ∧ x.2.2 = cutL c s))) (fun (x : Nat × Nat × List Str) => s.length + 1 - x.1) ((0, 0, [])) (⟨Nat.zero_le _, Nat.zero_le _, .inl ⟨Nat.zero_le _, Nat.zero_le _, by simp, by simp⟩⟩) ?_; (conv => whnf); refine ⟨by ((conv => whnf); first | rfl | (simp [envCat, List.take_of_length_le, srow]; done) | (simp [envCat, List.take_of_length_le, srow]; rw [IntKind.wrap_i64]; omega)), ?_⟩
  rintro ⟨i, f, dn⟩ ⟨hi, hdl, hI⟩
  dsimp only at hi hdl hI ⊢
  have hdm : (dn.map srow).length = dn.length := by simp
  (conv => whnf)
  rcases hI with ⟨hi1, hf, hno, hcut⟩ | ⟨hie, hdn⟩
  · by_cases hil : i < s.length
    · obtain ⟨a, ha⟩ : ∃ a, s[i]? = some a := ⟨_, List.getElem?_eq_getElem hil⟩
      have haI : s[((i : Nat) : Int).toNat]? = some a := ha
      by_cases hac : a = c
      · subst hac
        have hst := cut_step hf ha hno
        (try (conv => whnf)); repeat' (first | refine Ok.seq ?_ | refine OkL.cons ?_ | ((first | refine Ok.region tok ?_ | refine Ok.region_draw tok follows (by kernel_rfl) ?_ | refine Ok.cond ?_); conv => whnf) | refine Ok.block ?_ | ((first | refine Ok.skip ?_ | refine Ok.exit ?_ | refine Ok.ret ?_ | refine nI ?_ | refine ix _ (by assumption) ?_ | refine ixI (by omega) (by assumption) ?_ | refine ix_new _ (by omega) fun _ _ => ?_ | refine ixI_new (by omega) (by omega) fun _ _ => ?_ | refine ⟨_, by assumption, ?_⟩ | refine Alt2.l (aI ?_) | refine Alt2.r (aI ?_)); conv => whnf) | (refine Ok.scope ?_) | ((first | refine Ok.label ?_ | refine rd rfl (by assumption) ?_ | refine ⟨_, .inl ⟨rfl, rfl⟩, ?_⟩ | refine ⟨_, _, rfl, rfl, ?_⟩); conv => whnf) | (refine ⟨fun _ => ?_, fun _ => ?_⟩ <;> (conv => whnf) <;> (try (exfalso; omega))) | ((first | refine aJ ?_ | refine num_any ?_ | refine ⟨_, rfl, ?_⟩); conv => whnf) | fail)
        refine ⟨(i + 1, i + 1, dn ++ [(s.take i).drop f]), by dsimp only; omega, ⟨by dsimp only; omega, by simp; omega, .inl ⟨by dsimp only; omega, Nat.le_refl _, by simp, ?_⟩⟩, ?_⟩
        · dsimp only
          rw [hcut, hst]
          simp
        · (conv => whnf)
          simp [envCat]
      · have hb3 := u8_ne hac
        have hmr := cut_more hf ha hac hno
        (try (conv => whnf)); repeat' (first | refine Ok.seq ?_ | refine OkL.cons ?_ | ((first | refine Ok.region tok ?_ | refine Ok.region_draw tok follows (by kernel_rfl) ?_ | refine Ok.cond ?_); conv => whnf) | refine Ok.block ?_ | ((first | refine Ok.skip ?_ | refine Ok.exit ?_ | refine Ok.ret ?_ | refine nI ?_ | refine ix _ (by assumption) ?_ | refine ixI (by omega) (by assumption) ?_ | refine ix_new _ (by omega) fun _ _ => ?_ | refine ixI_new (by omega) (by omega) fun _ _ => ?_ | refine ⟨_, by assumption, ?_⟩ | refine Alt2.l (aI ?_) | refine Alt2.r (aI ?_)); conv => whnf) | (refine Ok.scope ?_) | ((first | refine Ok.label ?_ | refine rd rfl (by assumption) ?_ | refine ⟨_, .inl ⟨rfl, rfl⟩, ?_⟩ | refine ⟨_, _, rfl, rfl, ?_⟩); conv => whnf) | (refine ⟨fun _ => ?_, fun _ => ?_⟩ <;> (conv => whnf) <;> (try (exfalso; omega))) | ((first | refine aJ ?_ | refine num_any ?_ | refine ⟨_, rfl, ?_⟩); conv => whnf) | fail)
        refine ⟨(i + 1, f, dn), by dsimp only; omega, ⟨by dsimp only; omega, by dsimp only; omega, .inl ⟨by dsimp only; omega, by dsimp only; omega, hmr, hcut⟩⟩, ?_⟩
        (conv => whnf)
        rfl
    · have hie : i = s.length := by omega
      subst hie
      have hst := cut_last hno
      (try (conv => whnf)); repeat' (first | refine Ok.seq ?_ | refine OkL.cons ?_ | ((first | refine Ok.region tok ?_ | refine Ok.region_draw tok follows (by kernel_rfl) ?_ | refine Ok.cond ?_); conv => whnf) | refine Ok.block ?_ | ((first | refine Ok.skip ?_ | refine Ok.exit ?_ | refine Ok.ret ?_ | refine nI ?_ | refine ix _ (by assumption) ?_ | refine ixI (by omega) (by assumption) ?_ | refine ix_new _ (by omega) fun _ _ => ?_ | refine ixI_new (by omega) (by omega) fun _ _ => ?_ | refine ⟨_, by assumption, ?_⟩ | refine Alt2.l (aI ?_) | refine Alt2.r (aI ?_)); conv => whnf) | (refine Ok.scope ?_) | ((first | refine Ok.label ?_ | refine rd rfl (by assumption) ?_ | refine ⟨_, .inl ⟨rfl, rfl⟩, ?_⟩ | refine ⟨_, _, rfl, rfl, ?_⟩); conv => whnf) | (refine ⟨fun _ => ?_, fun _ => ?_⟩ <;> (conv => whnf) <;> (try (exfalso; omega))) | ((first | refine aJ ?_ | refine num_any ?_ | refine ⟨_, rfl, ?_⟩); conv => whnf) | fail)
      refine ⟨(s.length + 1, s.length + 1, dn ++ [(s.take s.length).drop f]), by dsimp only; omega, ⟨by dsimp only; omega, by simp; omega, .inr ⟨rfl, ?_⟩⟩, ?_⟩
      · dsimp only
        rw [hcut, hst]
      · (conv => whnf)
        simp [envCat]
  · subst hie
    (try (conv => whnf)); repeat' (first | refine Ok.seq ?_ | refine OkL.cons ?_ | ((first | refine Ok.region tok ?_ | refine Ok.region_draw tok follows (by kernel_rfl) ?_ | refine Ok.cond ?_); conv => whnf) | refine Ok.block ?_ | ((first | refine Ok.skip ?_ | refine Ok.exit ?_ | refine Ok.ret ?_ | refine nI ?_ | refine ix _ (by assumption) ?_ | refine ixI (by omega) (by assumption) ?_ | refine ix_new _ (by omega) fun _ _ => ?_ | refine ixI_new (by omega) (by omega) fun _ _ => ?_ | refine ⟨_, by assumption, ?_⟩ | refine Alt2.l (aI ?_) | refine Alt2.r (aI ?_)); conv => whnf) | (refine Ok.scope ?_) | ((first | refine Ok.label ?_ | refine rd rfl (by assumption) ?_ | refine ⟨_, .inl ⟨rfl, rfl⟩, ?_⟩ | refine ⟨_, _, rfl, rfl, ?_⟩); conv => whnf) | (refine ⟨fun _ => ?_, fun _ => ?_⟩ <;> (conv => whnf) <;> (try (exfalso; omega))) | ((first | refine aJ ?_ | refine num_any ?_ | refine ⟨_, rfl, ?_⟩); conv => whnf) | fail)
    refine Or.inl ?_; (conv => whnf)
    refine ⟨[], ?_, rfl⟩
    rw [hdn, List.take_of_length_le (by simp), List.drop_of_length_le (by simp)]
    rfl
end Go.Proofs.YtaiondckookpiaaGreatDoor
namespace Go.Proofs.YtaiondckookpiaaGreatDoor
open Go Go.Vx
theorem parO_long {b : Int} {s : Str} (h : 33024 < s.length) : parO b s = (2, 0, []) := by unfold parO; rw [if_pos h]
theorem parO_arg {b : Int} {s : Str} (h : ¬ 33024 < s.length) (h2 : b < 1 ∨ 256 < b) : parO b s = (1, 0, []) := by unfold parO; rw [if_neg h, if_pos h2]
theorem parO_none {b : Int} {s : Str} (h : ¬ 33024 < s.length) (h2 : ¬ (b < 1 ∨ 256 < b)) (h3 : s = [110, 111, 110, 101]) : parO b s = (0, b, []) := by unfold parO; rw [if_neg h, if_neg h2, if_pos h3]
theorem parO_word {b : Int} {s : Str} (h : ¬ 33024 < s.length) (h2 : ¬ (b < 1 ∨ 256 < b)) (h3 : ¬ s = [110, 111, 110, 101]) (h4 : ¬ OkP b (pieces s)) : parO b s = (20, 0, []) := by
  unfold parO; rw [if_neg h, if_neg h2, if_neg h3, if_pos h4]
theorem parO_many {b : Int} {s : Str} (h : ¬ 33024 < s.length) (h2 : ¬ (b < 1 ∨ 256 < b)) (h3 : ¬ s = [110, 111, 110, 101]) (h4 : OkP b (pieces s)) (h5 : 128 < cntP (pieces s)) : parO b s = (3, 0, []) := by
  unfold parO; rw [if_neg h, if_neg h2, if_neg h3, if_neg (fun q => q h4), if_pos h5]
theorem parO_form {b : Int} {s : Str} (h : ¬ 33024 < s.length) (h2 : ¬ (b < 1 ∨ 256 < b)) (h3 : ¬ s = [110, 111, 110, 101]) (h4 : OkP b (pieces s)) (h5 : ¬ 128 < cntP (pieces s)) : parO b s = (0, b, formT (trms (pieces s))) := by
  unfold parO; rw [if_neg h, if_neg h2, if_neg h3, if_neg (fun q => q h4), if_neg h5]
theorem okP_take {b : Int} {ms : List (List Str)} {i : Nat} {m : List Str} (h : ms[i]? = some m) (h1 : OkP b (ms.take i)) (h2 : ∀ w ∈ m, OkW b w) : OkP b (ms.take (i + 1)) := by
  intro x hx
  rw [take_snoc h] at hx
  rcases List.mem_append.1 hx with hx | hx
  · exact h1 x hx
  · simp at hx; subst hx; exact h2
theorem pieces_get {s : Str} {i : Nat} {x : Str} (h : (cutL 43 s)[i]? = some x) : (pieces s)[i]? = some (cutL 45 x) := by unfold pieces; rw [List.getElem?_map, h]; rfl
theorem pieces_all {s : Str} : (pieces s).take (cutL 43 s).length = pieces s := List.take_of_length_le (by simp [pieces])
def DSp (n : Int) (ts : List Term) (d : D) : Prop := ∃ (ks : List TR) (rm : List (List D)), d = .agg [.i .i64 n, .lst 120 (ks.map drow) rm] ∧ ks.map TR.t = ts
def DOut (o : Int × Int × List Term) (d : D) (rows : Vx.Rows) : Prop := rows = [] ∧ ∃ a, d = .tup [a, .i .i64 o.1] ∧ DSp o.2.1 o.2.2 a
theorem DSp.nil (n : Int) : DSp n [] (.agg [.i .i64 n, .lst 120 [] []]) := ⟨[], [], rfl, rfl⟩
set_option maxRecDepth 100000 in
set_option maxHeartbeats 8000000 in
theorem rparse_at (b : Int) (s : Str) : FSpec Tryz.prog T 61 [.i .i64 b, .s s] (DOut (parO b s)) := by
  refine FSpec.of_ok tok Tryz.func61 rfl Tryz.call61 (by simp) ?_
  by_cases hlong : 33024 < s.length
  · rw [parO_long hlong]
    (try (conv => whnf)); repeat' (first | refine Ok.seq ?_ | refine OkL.cons ?_ | ((first | refine Ok.region tok ?_ | refine Ok.region_tree (id := 26) tok follows [(2, 5, []), (2, 10, []), (5, 10, []), (9, 10, [])] (.q 0 (.q 1 (.q 2 (.q 3 (.q 4 (.alt 5 (.q 6 (.q 7 (.q 8 (.l 9 (.l 10 (.q 11 .nil)))))) (.alt 9 (.l 5 (.q 6 (.q 7 (.q 8 (.l 10 (.q 11 .nil)))))) .nil))))))) (by kernel_rfl) ?_ | refine Ok.region_draw tok follows (by kernel_rfl) ?_ | refine Ok.cond ?_); conv => whnf) | refine Ok.block ?_ | ((first | refine Ok.skip ?_ | refine Ok.exit ?_ | refine Ok.ret ?_ | refine nI ?_ | refine ix _ (by assumption) ?_ | refine ixI (by omega) (by assumption) ?_ | refine ix_new _ (by omega) fun _ _ => ?_ | refine ixI_new (by omega) (by omega) fun _ _ => ?_ | refine ⟨_, by assumption, ?_⟩ | refine Alt2.l (aI ?_) | refine Alt2.r (aI ?_)); conv => whnf) | (refine Ok.scope ?_) | ((first | refine Ok.label ?_ | refine rd rfl (by assumption) ?_ | refine ⟨_, .inl ⟨rfl, rfl⟩, ?_⟩ | refine ⟨_, _, rfl, rfl, ?_⟩); conv => whnf) | (refine ⟨fun _ => ?_, fun _ => ?_⟩ <;> (conv => whnf) <;> (try (exfalso; omega))) | ((first | refine aJ ?_ | refine num_any ?_ | refine ⟨_, rfl, ?_⟩); conv => whnf) | (exact True.intro) | (refine And.intro ?_ ?_ <;> (conv => whnf)) | fail)
    refine Or.inl ?_; (conv => whnf)
    exact ⟨rfl, _, rfl, DSp.nil 0⟩
  by_cases hb : b < 1 ∨ 256 < b
  · rw [parO_arg hlong hb]
    (try (conv => whnf)); repeat' (first | refine Ok.seq ?_ | refine OkL.cons ?_ | ((first | refine Ok.region tok ?_ | refine Ok.region_tree (id := 26) tok follows [(2, 5, []), (2, 10, []), (5, 10, []), (9, 10, [])] (.q 0 (.q 1 (.q 2 (.q 3 (.q 4 (.alt 5 (.q 6 (.q 7 (.q 8 (.l 9 (.l 10 (.q 11 .nil)))))) (.alt 9 (.l 5 (.q 6 (.q 7 (.q 8 (.l 10 (.q 11 .nil)))))) .nil))))))) (by kernel_rfl) ?_ | refine Ok.region_draw tok follows (by kernel_rfl) ?_ | refine Ok.cond ?_); conv => whnf) | refine Ok.block ?_ | ((first | refine Ok.skip ?_ | refine Ok.exit ?_ | refine Ok.ret ?_ | refine nI ?_ | refine ix _ (by assumption) ?_ | refine ixI (by omega) (by assumption) ?_ | refine ix_new _ (by omega) fun _ _ => ?_ | refine ixI_new (by omega) (by omega) fun _ _ => ?_ | refine ⟨_, by assumption, ?_⟩ | refine Alt2.l (aI ?_) | refine Alt2.r (aI ?_)); conv => whnf) | (refine Ok.scope ?_) | ((first | refine Ok.label ?_ | refine rd rfl (by assumption) ?_ | refine ⟨_, .inl ⟨rfl, rfl⟩, ?_⟩ | refine ⟨_, _, rfl, rfl, ?_⟩); conv => whnf) | (refine ⟨fun _ => ?_, fun _ => ?_⟩ <;> (conv => whnf) <;> (try (exfalso; omega))) | ((first | refine aJ ?_ | refine num_any ?_ | refine ⟨_, rfl, ?_⟩); conv => whnf) | (exact True.intro) | (refine And.intro ?_ ?_ <;> (conv => whnf)) | fail)
    all_goals
      refine Or.inl ?_; (conv => whnf)
      exact ⟨rfl, _, rfl, DSp.nil 0⟩
  by_cases hnn : s = [110, 111, 110, 101]
  · rw [parO_none hlong hb hnn]
    (try (conv => whnf)); repeat' (first | refine Ok.seq ?_ | refine OkL.cons ?_ | ((first | refine Ok.region tok ?_ | refine Ok.region_tree (id := 26) tok follows [(2, 5, []), (2, 10, []), (5, 10, []), (9, 10, [])] (.q 0 (.q 1 (.q 2 (.q 3 (.q 4 (.alt 5 (.q 6 (.q 7 (.q 8 (.l 9 (.l 10 (.q 11 .nil)))))) (.alt 9 (.l 5 (.q 6 (.q 7 (.q 8 (.l 10 (.q 11 .nil)))))) .nil))))))) (by kernel_rfl) ?_ | refine Ok.region_draw tok follows (by kernel_rfl) ?_ | refine Ok.cond ?_); conv => whnf) | refine Ok.block ?_ | ((first | refine Ok.skip ?_ | refine Ok.exit ?_ | refine Ok.ret ?_ | refine nI ?_ | refine ix _ (by assumption) ?_ | refine ixI (by omega) (by assumption) ?_ | refine ix_new _ (by omega) fun _ _ => ?_ | refine ixI_new (by omega) (by omega) fun _ _ => ?_ | refine ⟨_, by assumption, ?_⟩ | refine Alt2.l (aI ?_) | refine Alt2.r (aI ?_)); conv => whnf) | (refine Ok.scope ?_) | ((first | refine Ok.label ?_ | refine rd rfl (by assumption) ?_ | refine ⟨_, .inl ⟨rfl, rfl⟩, ?_⟩ | refine ⟨_, _, rfl, rfl, ?_⟩); conv => whnf) | (refine ⟨fun _ => ?_, fun _ => ?_⟩ <;> (conv => whnf) <;> (try (exfalso; omega))) | ((first | refine aJ ?_ | refine num_any ?_ | refine ⟨_, rfl, ?_⟩); conv => whnf) | (exact True.intro) | (refine And.intro ?_ ?_ <;> (conv => whnf)) | fail)
    · refine Or.inl ?_; (conv => whnf)
      exact ⟨rfl, _, rfl, DSp.nil b⟩
    · exact absurd hnn (by assumption)
  have hLn := cutL_len 43 s
  have hLl : ((cutL 43 s).map srow).length = (cutL 43 s).length := by simp
  have hLm : ∀ x ∈ cutL 43 s, x.length ≤ s.length := fun x hx => cutL_mem 43 hx
  have hcl : ∀ i, cntP ((pieces s).take i) ≤ (pieces s).length * (s.length + 1) := cntP_le fun m hm => (pieces_mem hm).2.1
  have hpl := pieces_len s
  have hmul : (pieces s).length * (s.length + 1) ≤ 33025 * 33025 := Nat.mul_le_mul (by omega) (by omega)
  (try (conv => whnf)); repeat' (first | refine Ok.seq ?_ | refine OkL.cons ?_ | ((first | refine Ok.region tok ?_ | refine Ok.region_tree (id := 26) tok follows [(2, 5, []), (2, 10, []), (5, 10, []), (9, 10, [])] (.q 0 (.q 1 (.q 2 (.q 3 (.q 4 (.alt 5 (.q 6 (.q 7 (.q 8 (.l 9 (.l 10 (.q 11 .nil)))))) (.alt 9 (.l 5 (.q 6 (.q 7 (.q 8 (.l 10 (.q 11 .nil)))))) .nil))))))) (by kernel_rfl) ?_ | refine Ok.region_draw tok follows (by kernel_rfl) ?_ | refine Ok.cond ?_); conv => whnf) | refine Ok.block ?_ | ((first | refine Ok.skip ?_ | refine Ok.exit ?_ | refine Ok.ret ?_ | refine nI ?_ | refine ix _ (by assumption) ?_ | refine ixI (by omega) (by assumption) ?_ | refine ix_new _ (by omega) fun _ _ => ?_ | refine ixI_new (by omega) (by omega) fun _ _ => ?_ | refine ⟨_, by assumption, ?_⟩); conv => whnf) | (refine Or.inr (Or.inl ?_); (conv => whnf); (repeat (refine aI ?_; conv => whnf)); refine ⟨_, rcut_at s 43 rfl (by omega) , ?_⟩; rintro _ _ ⟨rm, rfl, rfl⟩ <;> (conv => whnf)) | ((first | refine Alt2.l (aI ?_) | refine Alt2.r (aI ?_)); conv => whnf) | (refine Ok.scope ?_) | ((first | refine Ok.label ?_ | refine rd rfl (by assumption) ?_ | refine ⟨_, .inl ⟨rfl, rfl⟩, ?_⟩ | refine ⟨_, _, rfl, rfl, ?_⟩); conv => whnf) | (refine ⟨fun _ => ?_, fun _ => ?_⟩ <;> (conv => whnf) <;> (try (exfalso; omega))) | ((first | refine aJ ?_ | refine num_any ?_ | refine ⟨_, rfl, ?_⟩); conv => whnf) | (exact True.intro) | (refine And.intro ?_ ?_ <;> (conv => whnf)) | fail)
  · exact absurd (by assumption) hnn
  refine Ok.loopU [0, 4, 7] [6, 8] 0 1 (fun (i : Nat) => [.i .i64 (cntP ((pieces s).take i) : Nat), .i .i64 (i : Nat)]) (fun _ b => b) (fun _ r => r) (fun (i : Nat) => i ≤ (cutL 43 s).length ∧ OkP b ((pieces s).take i)) (fun (i : Nat) => (cutL 43 s).length - i) (0) (⟨Nat.zero_le _, by simp [OkP]⟩) ?_; (conv => whnf); refine ⟨by ((conv => whnf); first | rfl | (simp [envCat, List.take_of_length_le, srow, drow]; done) | (simp [envCat, List.take_of_length_le, srow, drow]; rw [IntKind.wrap_i64]; omega)), ?_⟩
  rintro i ⟨hi, hok⟩
  have hci := hcl i
  (conv => whnf)
  by_cases hil : i < (cutL 43 s).length
  · obtain ⟨x, hx⟩ : ∃ x, (cutL 43 s)[i]? = some x := ⟨_, List.getElem?_eq_getElem hil⟩
    have hpx := pieces_get hx
    have hxl := hLm x (List.mem_of_getElem? hx)
    have hnx := cntP_take hpx
    have hml := cutL_len 45 x
    have hmm : ((cutL 45 x).map srow).length = (cutL 45 x).length := by simp
    have hokx := okP_take (b := b) hpx hok
    have hwl : ∀ w ∈ cutL 45 x, w.length ≤ x.length := fun w hw => cutL_mem 45 hw
    have hbad : ∀ w ∈ cutL 45 x, ¬ OkW b w → ¬ OkP b (pieces s) := fun w hw h q => h (q _ (List.mem_of_getElem? hpx) w hw)
    (try (conv => whnf)); repeat' (first | refine Ok.seq ?_ | refine OkL.cons ?_ | ((first | refine Ok.region tok ?_ | refine Ok.region_tree (id := 26) tok follows [(2, 5, []), (2, 10, []), (5, 10, []), (9, 10, [])] (.q 0 (.q 1 (.q 2 (.q 3 (.q 4 (.alt 5 (.q 6 (.q 7 (.q 8 (.l 9 (.l 10 (.q 11 .nil)))))) (.alt 9 (.l 5 (.q 6 (.q 7 (.q 8 (.l 10 (.q 11 .nil)))))) .nil))))))) (by kernel_rfl) ?_ | refine Ok.region_draw tok follows (by kernel_rfl) ?_ | refine Ok.cond ?_); conv => whnf) | refine Ok.block ?_ | ((first | refine Ok.skip ?_ | refine Ok.exit ?_ | refine Ok.ret ?_ | refine nI ?_ | refine ix _ (by assumption) ?_ | refine ixI (by omega) (by assumption) ?_ | refine ix_new _ (by omega) fun _ _ => ?_ | refine ixI_new (by omega) (by omega) fun _ _ => ?_ | refine ⟨_, by assumption, ?_⟩); conv => whnf) | (refine Or.inr (Or.inl ?_); (conv => whnf); (repeat (refine aI ?_; conv => whnf)); refine ⟨_, rcut_at x 45 rfl (by omega) , ?_⟩; rintro _ _ ⟨rm2, rfl, rfl⟩ <;> (conv => whnf)) | ((first | refine Alt2.l (aI ?_) | refine Alt2.r (aI ?_)); conv => whnf) | (refine Ok.scope ?_) | ((first | refine Ok.label ?_ | refine rd rfl (by assumption) ?_ | refine ⟨_, .inl ⟨rfl, rfl⟩, ?_⟩ | refine ⟨_, _, rfl, rfl, ?_⟩); conv => whnf) | (refine ⟨fun _ => ?_, fun _ => ?_⟩ <;> (conv => whnf) <;> (try (exfalso; omega))) | ((first | refine aJ ?_ | refine num_any ?_ | refine ⟨_, rfl, ?_⟩); conv => whnf) | (exact True.intro) | (refine And.intro ?_ ?_ <;> (conv => whnf)) | fail)
    generalize cutL 45 x = M at *
    generalize cntP ((pieces s).take i) = K at *
    refine Ok.loopU [0, 4, 6, 7, 8, 9] [10] 0 1 (fun (j : Nat) => [.i .i64 (j : Nat)]) (fun _ b => b) (fun _ r => r) (fun (j : Nat) => j ≤ M.length ∧ ∀ w ∈ M.take j, OkW b w) (fun (j : Nat) => M.length - j) (0) (⟨Nat.zero_le _, by simp⟩) ?_; (conv => whnf); refine ⟨by ((conv => whnf); first | rfl | (simp [envCat, List.take_of_length_le, srow, drow]; done) | (simp [envCat, List.take_of_length_le, srow, drow]; rw [IntKind.wrap_i64]; omega)), ?_⟩
    rintro j ⟨hj, hw⟩
    (conv => whnf)
    by_cases hjl : j < M.length
    · obtain ⟨y, hy⟩ : ∃ y, M[j]? = some y := ⟨_, List.getElem?_eq_getElem hjl⟩
      have hyI : M[((j : Nat) : Int).toNat]? = some y := hy
      have hym := List.mem_of_getElem? hy
      have hyl := hwl y hym
      by_cases hgood : OkW b y
      · have hg1 := hgood.1
        have hg2 := hgood.2
        (try (conv => whnf)); repeat' (first | refine Ok.seq ?_ | refine OkL.cons ?_ | ((first | refine Ok.region tok ?_ | refine Ok.region_tree (id := 26) tok follows [(2, 5, []), (2, 10, []), (5, 10, []), (9, 10, [])] (.q 0 (.q 1 (.q 2 (.q 3 (.q 4 (.alt 5 (.q 6 (.q 7 (.q 8 (.l 9 (.l 10 (.q 11 .nil)))))) (.alt 9 (.l 5 (.q 6 (.q 7 (.q 8 (.l 10 (.q 11 .nil)))))) .nil))))))) (by kernel_rfl) ?_ | refine Ok.region_draw tok follows (by kernel_rfl) ?_ | refine Ok.cond ?_); conv => whnf) | refine Ok.block ?_ | ((first | refine Ok.skip ?_ | refine Ok.exit ?_ | refine Ok.ret ?_ | refine nI ?_ | refine ix _ (by assumption) ?_ | refine ixI (by omega) (by assumption) ?_ | refine ix_new _ (by omega) fun _ _ => ?_ | refine ixI_new (by omega) (by omega) fun _ _ => ?_ | refine ⟨_, by assumption, ?_⟩); conv => whnf) | (refine Or.inl ?_; (conv => whnf); (repeat (refine aI ?_; conv => whnf)); refine ⟨_, rcube_at y, rfl, ?_⟩; conv => whnf) | (refine ⟨_, rcube_at y, rfl, ?_⟩; conv => whnf) | (refine Or.inr (Or.inl ?_); (conv => whnf); (repeat (refine aI ?_; conv => whnf)); refine ⟨_, rcube_at y, ?_⟩; rintro _ _ ⟨rfl, rfl⟩; conv => whnf) | ((first | refine Alt2.l (aI ?_) | refine Alt2.r (aI ?_)); conv => whnf) | (refine Ok.scope ?_) | ((first | refine Ok.label ?_ | refine rd rfl (by assumption) ?_ | refine ⟨_, .inl ⟨rfl, rfl⟩, ?_⟩ | refine ⟨_, _, rfl, rfl, ?_⟩); conv => whnf) | (refine ⟨fun _ => ?_, fun _ => ?_⟩ <;> (conv => whnf) <;> (try (exfalso; omega))) | ((first | refine aJ ?_ | refine num_any ?_ | refine ⟨_, rfl, ?_⟩); conv => whnf) | (exact True.intro) | (refine And.intro ?_ ?_ <;> (conv => whnf)) | fail)
        · exact absurd hg2 (by assumption)
        · refine ⟨j + 1, by omega, ⟨by omega, fun w hw2 => ?_⟩, ?_⟩
          · rw [take_snoc hy] at hw2
            rcases List.mem_append.1 hw2 with h | h
            · exact hw w h
            · simp at h; rw [h]; exact hgood
          · (conv => whnf)
            rfl
      · have hno := hbad y hym hgood
        (try (conv => whnf)); repeat' (first | refine Ok.seq ?_ | refine OkL.cons ?_ | ((first | refine Ok.region tok ?_ | refine Ok.region_tree (id := 26) tok follows [(2, 5, []), (2, 10, []), (5, 10, []), (9, 10, [])] (.q 0 (.q 1 (.q 2 (.q 3 (.q 4 (.alt 5 (.q 6 (.q 7 (.q 8 (.l 9 (.l 10 (.q 11 .nil)))))) (.alt 9 (.l 5 (.q 6 (.q 7 (.q 8 (.l 10 (.q 11 .nil)))))) .nil))))))) (by kernel_rfl) ?_ | refine Ok.region_draw tok follows (by kernel_rfl) ?_ | refine Ok.cond ?_); conv => whnf) | refine Ok.block ?_ | ((first | refine Ok.skip ?_ | refine Ok.exit ?_ | refine Ok.ret ?_ | refine nI ?_ | refine ix _ (by assumption) ?_ | refine ixI (by omega) (by assumption) ?_ | refine ix_new _ (by omega) fun _ _ => ?_ | refine ixI_new (by omega) (by omega) fun _ _ => ?_ | refine ⟨_, by assumption, ?_⟩); conv => whnf) | (refine Or.inl ?_; (conv => whnf); (repeat (refine aI ?_; conv => whnf)); refine ⟨_, rcube_at y, rfl, ?_⟩; conv => whnf) | (refine ⟨_, rcube_at y, rfl, ?_⟩; conv => whnf) | (refine Or.inr (Or.inl ?_); (conv => whnf); (repeat (refine aI ?_; conv => whnf)); refine ⟨_, rcube_at y, ?_⟩; rintro _ _ ⟨rfl, rfl⟩; conv => whnf) | ((first | refine Alt2.l (aI ?_) | refine Alt2.r (aI ?_)); conv => whnf) | (refine Ok.scope ?_) | ((first | refine Ok.label ?_ | refine rd rfl (by assumption) ?_ | refine ⟨_, .inl ⟨rfl, rfl⟩, ?_⟩ | refine ⟨_, _, rfl, rfl, ?_⟩); conv => whnf) | (refine ⟨fun _ => ?_, fun _ => ?_⟩ <;> (conv => whnf) <;> (try (exfalso; omega))) | ((first | refine aJ ?_ | refine num_any ?_ | refine ⟨_, rfl, ?_⟩); conv => whnf) | (exact True.intro) | (refine And.intro ?_ ?_ <;> (conv => whnf)) | fail)
        · rw [parO_word hlong hb hnn hno]
          refine Or.inl ?_; (conv => whnf)
          exact ⟨rfl, _, rfl, DSp.nil 0⟩
        · rw [parO_word hlong hb hnn hno]
          refine Or.inl ?_; (conv => whnf)
          exact ⟨rfl, _, rfl, DSp.nil 0⟩
        · rename_i h1 h2
          exact absurd ⟨by omega, Classical.not_not.1 h2⟩ hgood
    · have hje : j = M.length := by omega
      subst hje
      rw [List.take_length] at hw
      have hok2 := hokx hw
      (try (conv => whnf)); repeat' (first | refine Ok.seq ?_ | refine OkL.cons ?_ | ((first | refine Ok.region tok ?_ | refine Ok.region_tree (id := 26) tok follows [(2, 5, []), (2, 10, []), (5, 10, []), (9, 10, [])] (.q 0 (.q 1 (.q 2 (.q 3 (.q 4 (.alt 5 (.q 6 (.q 7 (.q 8 (.l 9 (.l 10 (.q 11 .nil)))))) (.alt 9 (.l 5 (.q 6 (.q 7 (.q 8 (.l 10 (.q 11 .nil)))))) .nil))))))) (by kernel_rfl) ?_ | refine Ok.region_draw tok follows (by kernel_rfl) ?_ | refine Ok.cond ?_); conv => whnf) | refine Ok.block ?_ | ((first | refine Ok.skip ?_ | refine Ok.exit ?_ | refine Ok.ret ?_ | refine nI ?_ | refine ix _ (by assumption) ?_ | refine ixI (by omega) (by assumption) ?_ | refine ix_new _ (by omega) fun _ _ => ?_ | refine ixI_new (by omega) (by omega) fun _ _ => ?_ | refine ⟨_, by assumption, ?_⟩ | refine Alt2.l (aI ?_) | refine Alt2.r (aI ?_)); conv => whnf) | (refine Ok.scope ?_) | ((first | refine Ok.label ?_ | refine rd rfl (by assumption) ?_ | refine ⟨_, .inl ⟨rfl, rfl⟩, ?_⟩ | refine ⟨_, _, rfl, rfl, ?_⟩); conv => whnf) | (refine ⟨fun _ => ?_, fun _ => ?_⟩ <;> (conv => whnf) <;> (try (exfalso; omega))) | ((first | refine aJ ?_ | refine num_any ?_ | refine ⟨_, rfl, ?_⟩); conv => whnf) | (exact True.intro) | (refine And.intro ?_ ?_ <;> (conv => whnf)) | fail)
      refine ⟨i + 1, by omega, ⟨by omega, hok2⟩, ?_⟩
      rw [hnx]
      (conv => whnf)
      simp [envCat]
  · have hie : i = (cutL 43 s).length := by omega
    subst hie
    rw [pieces_all] at hok hci
    rw [pieces_all]
    have hgood := trms_good (n := b) (fun m hm => (pieces_mem hm).1) hok
    have hne : ∀ m ∈ pieces s, m ≠ [] := fun m hm => (pieces_mem hm).1
    by_cases hmany : 128 < cntP (pieces s)
    · rw [parO_many hlong hb hnn hok hmany]
      (try (conv => whnf)); repeat' (first | refine Ok.seq ?_ | refine OkL.cons ?_ | ((first | refine Ok.region tok ?_ | refine Ok.region_tree (id := 26) tok follows [(2, 5, []), (2, 10, []), (5, 10, []), (9, 10, [])] (.q 0 (.q 1 (.q 2 (.q 3 (.q 4 (.alt 5 (.q 6 (.q 7 (.q 8 (.l 9 (.l 10 (.q 11 .nil)))))) (.alt 9 (.l 5 (.q 6 (.q 7 (.q 8 (.l 10 (.q 11 .nil)))))) .nil))))))) (by kernel_rfl) ?_ | refine Ok.region_draw tok follows (by kernel_rfl) ?_ | refine Ok.cond ?_); conv => whnf) | refine Ok.block ?_ | ((first | refine Ok.skip ?_ | refine Ok.exit ?_ | refine Ok.ret ?_ | refine nI ?_ | refine ix _ (by assumption) ?_ | refine ixI (by omega) (by assumption) ?_ | refine ix_new _ (by omega) fun _ _ => ?_ | refine ixI_new (by omega) (by omega) fun _ _ => ?_ | refine ⟨_, by assumption, ?_⟩ | refine Alt2.l (aI ?_) | refine Alt2.r (aI ?_)); conv => whnf) | (refine Ok.scope ?_) | ((first | refine Ok.label ?_ | refine rd rfl (by assumption) ?_ | refine ⟨_, .inl ⟨rfl, rfl⟩, ?_⟩ | refine ⟨_, _, rfl, rfl, ?_⟩); conv => whnf) | (refine ⟨fun _ => ?_, fun _ => ?_⟩ <;> (conv => whnf) <;> (try (exfalso; omega))) | ((first | refine aJ ?_ | refine num_any ?_ | refine ⟨_, rfl, ?_⟩); conv => whnf) | (exact True.intro) | (refine And.intro ?_ ?_ <;> (conv => whnf)) | fail)
      · refine Or.inl ?_; (conv => whnf)
        exact ⟨rfl, _, rfl, DSp.nil 0⟩
      all_goals exact absurd hmany (by omega)
    · rw [parO_form hlong hb hnn hok hmany]
      have hsz := szT_trms hne
      (try (conv => whnf)); repeat' (first | refine Ok.seq ?_ | refine OkL.cons ?_ | ((first | refine Ok.region tok ?_ | refine Ok.cond ?_); conv => whnf) | refine Ok.block ?_ | ((first | refine Ok.skip ?_ | refine Ok.exit ?_ | refine Ok.ret ?_ | refine nI ?_ | refine ix _ (by assumption) ?_ | refine ixI (by omega) (by assumption) ?_ | refine ix_new _ (by omega) fun _ _ => ?_ | refine ixI_new (by omega) (by omega) fun _ _ => ?_ | refine ⟨_, by assumption, ?_⟩ | refine Alt2.l (aI ?_) | refine Alt2.r (aI ?_)); conv => whnf) | (refine Ok.scope ?_) | ((first | refine Ok.label ?_ | refine rd rfl (by assumption) ?_ | refine ⟨_, .inl ⟨rfl, rfl⟩, ?_⟩ | refine ⟨_, _, rfl, rfl, ?_⟩); conv => whnf) | (refine ⟨fun _ => ?_, fun _ => ?_⟩ <;> (conv => whnf) <;> (try (exfalso; omega))) | ((first | refine aJ ?_ | refine num_any ?_ | refine ⟨_, rfl, ?_⟩); conv => whnf) | fail)
      refine Ok.ghost 11 120 rfl ?_
      (conv => whnf)
      refine Ok.loopU [0, 4, 7] [11, 12] 1 1 (fun (x : Nat × List TR) => [.own 0 x.2.length, .i .i64 (x.1 : Nat)]) (fun _ b => b) (fun (x : Nat × List TR) (_ : Vx.Rows) => [some (120, x.2.map drow)]) (fun (x : Nat × List TR) => x.1 ≤ (cutL 43 s).length ∧ x.2.map TR.t = trms ((pieces s).take x.1) ∧ x.2.length ≤ x.1) (fun (x : Nat × List TR) => (cutL 43 s).length - x.1) ((0, [])) (⟨Nat.zero_le _, by simp [trms], by simp⟩) ?_; (conv => whnf); refine ⟨by ((conv => whnf); first | rfl | (simp [envCat, List.take_of_length_le, srow, drow]; done) | (simp [envCat, List.take_of_length_le, srow, drow]; rw [IntKind.wrap_i64]; omega)), ?_⟩
      rintro ⟨i, l⟩ ⟨hi, hl, hll⟩
      dsimp only at hi hl hll ⊢
      have hlm : (l.map drow).length = l.length := by simp
      (conv => whnf)
      by_cases hil : i < (cutL 43 s).length
      · obtain ⟨x, hx⟩ : ∃ x, (cutL 43 s)[i]? = some x := ⟨_, List.getElem?_eq_getElem hil⟩
        have hpx := pieces_get hx
        have hxl := hLm x (List.mem_of_getElem? hx)
        have hcut := rcut_at x 45 (k := 45) rfl (by omega)
        have hml := cutL_len 45 x
        have hoks := hok _ (List.mem_of_getElem? hpx)
        obtain ⟨p, less, hm⟩ : ∃ p less, cutL 45 x = p :: less := by
          cases h : cutL 45 x with
          | nil => exact absurd h (cutL_ne _ _)
          | cons a l => exact ⟨a, l, rfl⟩
        rw [hm] at hpx hcut hml hoks
        simp at hml
        have hp := hoks p (by simp)
        have hlo : ∀ m ∈ less, m.length ≤ 256 := fun m h => (hoks m (by simp [h])).2.1.len
        have hlm2 : (less.map srow).length = less.length := by simp
        have hsl : ∀ rm : List (List D), List.drop 1 (List.take (List.map srow (p :: less)).length (List.map srow (p :: less) ++ rm)) = less.map srow := fun rm => by
          rw [List.take_left' rfl]
          rfl
        (try (conv => whnf)); repeat' (first | refine Ok.seq ?_ | refine OkL.cons ?_ | ((first | refine Ok.region tok ?_ | refine Ok.region_tree (id := 26) tok follows [(2, 5, []), (2, 10, []), (5, 10, []), (9, 10, [])] (.q 0 (.q 1 (.q 2 (.q 3 (.q 4 (.alt 5 (.q 6 (.q 7 (.q 8 (.l 9 (.l 10 (.q 11 .nil)))))) (.alt 9 (.l 5 (.q 6 (.q 7 (.q 8 (.l 10 (.q 11 .nil)))))) .nil))))))) (by kernel_rfl) ?_ | refine Ok.region_draw tok follows (by kernel_rfl) ?_ | refine Ok.cond ?_); conv => whnf) | refine Ok.block ?_ | ((first | refine Ok.skip ?_ | refine Ok.exit ?_ | refine Ok.ret ?_ | refine nI ?_ | refine ix _ (by assumption) ?_ | refine ixI (by omega) (by assumption) ?_ | refine ix_new _ (by omega) fun _ _ => ?_ | refine ixI_new (by omega) (by omega) fun _ _ => ?_ | refine ⟨_, by assumption, ?_⟩); conv => whnf) | (refine Or.inr (Or.inl ?_); (conv => whnf); (repeat (refine aI ?_; conv => whnf)); refine ⟨_, hcut , ?_⟩; rintro _ _ ⟨rm2, rfl, rfl⟩ <;> (conv => whnf)) | (refine Or.inr (Or.inl ?_); (conv => whnf); (repeat (refine aI ?_; conv => whnf)); refine ⟨_, rterm_at p less hp.2.2 hp.2.1.len (by omega) hlo (hsl _) , ?_⟩; rintro _ _ ⟨rfl, (⟨ht, rfl⟩ | ⟨t, rm3, ht, rfl⟩)⟩ <;> (conv => whnf)) | ((first | refine Alt2.l (aI ?_) | refine Alt2.r (aI ?_)); conv => whnf) | (refine Ok.scope ?_) | ((first | refine Ok.label ?_ | refine rd rfl (by assumption) ?_ | refine ⟨_, .inl ⟨rfl, rfl⟩, ?_⟩ | refine ⟨_, _, rfl, rfl, ?_⟩); conv => whnf) | (refine ⟨fun _ => ?_, fun _ => ?_⟩ <;> (conv => whnf) <;> (try (exfalso; omega))) | ((first | refine aJ ?_ | refine num_any ?_ | refine ⟨_, rfl, ?_⟩); conv => whnf) | (exact True.intro) | (refine And.intro ?_ ?_ <;> (conv => whnf)) | fail)
        all_goals first
          | (rename_i h; exact absurd trivial h)
          | (refine ⟨(i + 1, l), by dsimp only; omega, ⟨by dsimp only; omega, by dsimp only; rw [trms_none hpx (show trm (p :: less) = none from ht)]; exact hl, by dsimp only; omega⟩, ?_⟩
             (conv => whnf)
             rfl)
          | (refine ⟨(i + 1, l ++ [⟨t, rm3⟩]), by dsimp only; omega, ⟨by dsimp only; omega, by dsimp only; rw [trms_some hpx (show trm (p :: less) = some t from ht), List.map_append, hl]; rfl, by simp; omega⟩, ?_⟩
             (conv => whnf)
             simp [envCat])
      · have hie : i = (cutL 43 s).length := by omega
        subst hie
        rw [pieces_all] at hl
        have hrn : ∀ x ∈ l, RN2 x ∧ x.t.Ok b.toNat := fun x hx => (hgood _ (mem_of_map hl hx)).rn (by
          have := szT_mem (mem_of_map hl hx)
          omega)
        have htk : List.take l.length (l.map drow) = l.map drow := List.take_of_length_le (by simp)
        (try (conv => whnf)); repeat' (first | refine Ok.seq ?_ | refine OkL.cons ?_ | ((first | refine Ok.region tok ?_ | refine Ok.region_tree (id := 26) tok follows [(2, 5, []), (2, 10, []), (5, 10, []), (9, 10, [])] (.q 0 (.q 1 (.q 2 (.q 3 (.q 4 (.alt 5 (.q 6 (.q 7 (.q 8 (.l 9 (.l 10 (.q 11 .nil)))))) (.alt 9 (.l 5 (.q 6 (.q 7 (.q 8 (.l 10 (.q 11 .nil)))))) .nil))))))) (by kernel_rfl) ?_ | refine Ok.region_draw tok follows (by kernel_rfl) ?_ | refine Ok.cond ?_); conv => whnf) | refine Ok.block ?_ | ((first | refine Ok.skip ?_ | refine Ok.exit ?_ | refine Ok.ret ?_ | refine nI ?_ | refine ix _ (by assumption) ?_ | refine ixI (by omega) (by assumption) ?_ | refine ix_new _ (by omega) fun _ _ => ?_ | refine ixI_new (by omega) (by omega) fun _ _ => ?_ | refine ⟨_, by assumption, ?_⟩); conv => whnf) | (refine Or.inr (Or.inl ?_); (conv => whnf); (repeat (refine aI ?_; conv => whnf)); refine ⟨_, rform_at b b.toNat l (by omega) hrn htk , ?_⟩; rintro _ _ ⟨ks, rm4, rfl, rfl, hks, hkm⟩ <;> (conv => whnf)) | ((first | refine Alt2.l (aI ?_) | refine Alt2.r (aI ?_)); conv => whnf) | (refine Ok.scope ?_) | ((first | refine Ok.label ?_ | refine rd rfl (by assumption) ?_ | refine ⟨_, .inl ⟨rfl, rfl⟩, ?_⟩ | refine ⟨_, _, rfl, rfl, ?_⟩); conv => whnf) | (refine ⟨fun _ => ?_, fun _ => ?_⟩ <;> (conv => whnf) <;> (try (exfalso; omega))) | ((first | refine aJ ?_ | refine num_any ?_ | refine ⟨_, rfl, ?_⟩); conv => whnf) | (exact True.intro) | (refine And.intro ?_ ?_ <;> (conv => whnf)) | fail)
        refine Or.inl ?_; (conv => whnf)
        exact ⟨rfl, _, rfl, ks, rm4, rfl, by rw [hks, hl]⟩
end Go.Proofs.YtaiondckookpiaaGreatDoor
namespace Go.Proofs.YtaiondckookpiaaGreatDoor
open Go Go.Vx Go.RowKit
theorem ours_nil (w : World) : Calls Tryz.prog 64 #[.nilIface] w fun e w' => e = .returned (.bool false) ∧ w' = w := by
  go_enter Tryz.func64, Tryz.ntmps64
  go_wp2
  go_ret
  exact ⟨rfl, rfl⟩
theorem as_passed (w : World) : (Instr.typeAssert (.iface 154 (.agg #[])) 20 154 true).run Tryz.prog w = .ok (.tuple #[.agg #[], .bool true]) w := by kernel_rfl
set_option maxRecDepth 100000 in
theorem ours_passed (w : World) : Calls Tryz.prog 64 #[.iface 154 (.agg #[])] w fun e w' => e = .returned (.bool true) ∧ Ext w w' := by
  go_enter Tryz.func64, Tryz.ntmps64
  go_wp2_with (rw [as_passed])
  go_ret
  exact ⟨rfl, Ext.alloc _ _⟩
theorem run_store2 {t : TypeId} {p : Addr} {w w' : World} {z : List Value} {x y : Operand} {a : Act} {dst : Option Nat} {type : TypeId} {pos : String} {after : Array Edge} (hsz : ∀ w, (sizeOf t).run Tryz.prog w = .ok z.length w) (hx : a.eval x = .pointer (some p)) (hy : (a.eval y).cells = z.toArray) (h : (storeCells p z).run Tryz.prog w = .ok () w') :
    (execOp a.eval ⟨dst, .store t x y, type, pos, after, none⟩).run Tryz.prog w = .ok .skip w' := by
  simp [execOp, Instr.storeAt, hx, hy, Instr.sureAddr, storeVar, hsz, h]
theorem run_build2 {e : Operand → Value} {dst : Option Nat} {type : TypeId} {pos : String} {after : Array Edge} {w : World} : (execOp e ⟨dst, .build 24 #[], type, pos, after, none⟩).run Tryz.prog w = .ok (.value (.agg #[.int .i64 0, .slice none 0 0])) w := by
  have h : (Instr.build 24 #[]).run Tryz.prog w = .ok (.agg #[.int .i64 0, .slice none 0 0]) w := by kernel_rfl
  simp [execOp, h]
theorem idle_parse (p q : Addr) (w : World) : CallsD Tryz.prog 99 #[.pointer (some p), .pointer (some q)] .returning w fun e u' w' => e = .returned (.tuple #[]) ∧ u' = .returning ∧ Ext w w' := by
  refine callsD_of_wpS Tryz.func99 rfl fun c₀ cs hu => ?_
  apply wpS_seq
  apply wpS_region
  simp [wpOpsS, go_sem, recoverD, hu, Tryz.ntmps99, Exit.thenS]
  refine (ours_nil w).mono ?_
  rintro e w' ⟨rfl, rfl⟩
  refine wpS_cond (t := false) (by simp [Act.eval, Act.put, Array.replicate]) ?_
  simp only [Bool.false_eq_true, if_false]
  refine wpS_of_wp (wp_skip ?_)
  cases c₀
  simp_all [bodyPostS, results, Tryz.results99]
  exact Ext.refl _
theorem caught_parse (p q : Addr) (w : World) {R : Ending → FrameMode → World → Prop} (h : ∀ w1, Ext w w1 → ∃ w2, (storeCells p [.int .i64 0, .slice none 0 0]).run Tryz.prog w1 = .ok () w2 ∧ ∃ w3, (storeCells q [.int .i64 3]).run Tryz.prog w2 = .ok () w3)
    (hR : ∀ w1 w2 w3, Ext w w1 → (storeCells p [.int .i64 0, .slice none 0 0]).run Tryz.prog w1 = .ok () w2 → (storeCells q [.int .i64 3]).run Tryz.prog w2 = .ok () w3 → R (.returned (.tuple #[])) (.panicking [{ v := .iface 154 (.agg #[]), recovered := true }]) w3) :
    CallsD Tryz.prog 99 #[.pointer (some p), .pointer (some q)] (.panicking [{ v := .iface 154 (.agg #[]), recovered := false }]) w R := by
  refine callsD_of_wpS Tryz.func99 rfl fun c₀ cs hu => ?_
  apply wpS_seq
  apply wpS_region
  simp [wpOpsS, go_sem, recoverD, hu, Tryz.ntmps99, Exit.thenS]
  refine (ours_passed w).mono ?_
  rintro e w1 ⟨rfl, hx⟩
  obtain ⟨w2, h1, w3, h2⟩ := h w1 hx
  have hr := hR w1 w2 w3 hx h1 h2
  refine wpS_cond (t := true) (by simp [Act.eval, Act.put, Array.replicate]) ?_
  simp only [if_true]
  refine wpS_of_wp ?_
  refine wp_region_lit ?_
  unfold wpList
  rw [if_pos (by simp [Region.wanted])]
  left
  unfold Oper.wp
  rw [run_build2]
  show wpList _ _ _ [_, _] (Act.put _ (some 4) _) w1
  unfold wpList
  rw [if_pos (by simp [Region.wanted])]
  left
  unfold Oper.wp
  rw [run_store2 (p := p) (z := [.int .i64 0, .slice none 0 0]) (fun w => by kernel_rfl) (by simp [Act.eval, Act.put, Array.replicate]) (by simp [Act.eval, Act.put, Array.replicate, Value.cells]) h1]
  show wpList _ _ _ [_] _ w2
  unfold wpList
  rw [if_pos (by simp [Region.wanted])]
  left
  unfold Oper.wp
  rw [run_store2 (p := q) (z := [.int .i64 3]) (fun w => by kernel_rfl) (by simp [Act.eval, Act.put, Array.replicate]) (by simp [Act.eval, Value.cells]) h2]
  show bodyPostS _ _ _ _ _ .normal _ _ w3
  cases c₀
  simp_all [bodyPostS, results, Tryz.results99]
  try exact rfl
theorem def_parse : DefSpec Tryz.prog 99 (.iface 154 (.agg #[])) [.int .i64 0, .slice none 0 0] [.int .i64 3] :=
  ⟨Tryz.call99, idle_parse, fun p q w h => caught_parse p q w h fun _ _ _ hx h1 h2 => ⟨rfl, rfl, _, _, hx, h1, h2⟩⟩
end Go.Proofs.YtaiondckookpiaaGreatDoor
namespace Go.Proofs.YtaiondckookpiaaGreatDoor
open Go Go.Vx Go.Shelf
def PSp (n : Int) (ts : List Term) (d : D) : Prop := ∃ (ks : List TR) (rm : List (List D)), d = .agg [.i .i64 n, .lst 112 (ks.map trow) rm] ∧ ks.map TR.t = ts
def POut (o : Int × Int × List Term) (d : D) (rows : Vx.Rows) : Prop := rows = [] ∧ ∃ a, d = .tup [a, .i .i64 o.1] ∧ PSp o.2.1 o.2.2 a
theorem PSp.nil (n : Int) : PSp n [] (.agg [.i .i64 n, .lst 112 [] []]) := ⟨[], [], rfl, rfl⟩
theorem splitAt (t : Str) (c : UInt8) (h : t.length < 4294967281) : FSpec Tryz.prog T 100 [.s t, .s [c]] fun d rows => d = .own 0 (cutL c t).length ∧ rows = [some (9, (cutL c t).map srow)] :=
  split_at Tryz.vxSplit (by kernel_rfl) Tryz.call100 rfl t c h
theorem perr_of {t : Str} (h : okC t) : perr t = 0 := by unfold perr; rw [if_neg (by have := h.1.len; omega), if_pos h]
theorem perr_not {t : Str} (h : ¬ okC t) : perr t ≠ 0 := by
  unfold perr
  split
  · decide
  · decide
theorem lrows {lss : List LR} {ms : List (List Str)} {i : Nat} {m : List Str} (h : lss.map LR.l = ms) (hm : ms[i]? = some m) : ∃ rm, lss[i]? = some ⟨m, rm⟩ := by
  subst h
  rw [List.getElem?_map] at hm
  obtain ⟨x, hx, rfl⟩ := Option.map_eq_some_iff.1 hm
  exact ⟨x.room, hx⟩
set_option maxRecDepth 100000 in
set_option maxHeartbeats 8000000 in
theorem parse2_at (b : Int) (s : Str) : FSpec Tryz.prog T 44 [.i .i64 b, .s s] (POut (parO b s)) := by
  refine FSpec.of_deferK 7 tok Tryz.func44 rfl Tryz.call44 (by simp) def_parse (zd1 := [.i .i64 0, .nilS]) (zd2 := [.i .i64 3]) rfl rfl (by simp [Value.oneCell']) (by simp [Value.oneCell']) rfl ?_
  by_cases hlong : 33024 < s.length
  · rw [parO_long hlong]
    (try (conv => whnf)); repeat' (first | refine Ok.seq ?_ | refine OkL.cons ?_ | ((first | refine Ok.region tok ?_ | refine Ok.region_tree (id := 31) tok follows [(2, 6, []), (5, 6, []), (2, 11, []), (5, 11, []), (6, 11, []), (10, 11, [])] (.q 0 (.q 1 (.q 2 (.q 3 (.q 4 (.alt 5 (.alt 6 (.q 7 (.q 8 (.q 9 (.l 10 (.l 11 (.q 12 .nil)))))) (.alt 10 (.l 6 (.q 7 (.q 8 (.q 9 (.l 11 (.q 12 .nil)))))) .nil)) (.alt 10 (.l 5 (.l 6 (.q 7 (.q 8 (.q 9 (.l 11 (.q 12 .nil))))))) .nil))))))) (by kernel_rfl) ?_ | refine Ok.region_draw tok follows (by kernel_rfl) ?_ | refine Ok.cond ?_); conv => whnf) | refine Ok.block ?_ | ((first | refine Ok.skip ?_ | refine Ok.exit ?_ | refine Ok.ret ?_ | refine nI ?_ | refine ix _ (by assumption) ?_ | refine ixI (by omega) (by assumption) ?_ | refine ix_new _ (by omega) fun _ _ => ?_ | refine ixI_new (by omega) (by omega) fun _ _ => ?_ | refine ⟨_, by assumption, ?_⟩ | refine Alt2.l (aI ?_) | refine Alt2.r (aI ?_)); conv => whnf) | (refine Ok.scope ?_) | ((first | refine Ok.label ?_ | refine rd rfl (by assumption) ?_ | refine ⟨_, .inl ⟨rfl, rfl⟩, ?_⟩ | refine ⟨_, _, rfl, rfl, ?_⟩); conv => whnf) | (refine ⟨fun _ => ?_, fun _ => ?_⟩ <;> (conv => whnf) <;> (try (exfalso; omega))) | ((first | refine aJ ?_ | refine num_any ?_ | refine ⟨_, rfl, ?_⟩); conv => whnf) | (exact True.intro) | (refine And.intro ?_ ?_ <;> (conv => whnf)) | fail)
    refine Or.inl ?_; (conv => whnf)
    exact ⟨rfl, _, rfl, PSp.nil 0⟩
  by_cases hb : b < 1 ∨ 256 < b
  · rw [parO_arg hlong hb]
    (try (conv => whnf)); repeat' (first | refine Ok.seq ?_ | refine OkL.cons ?_ | ((first | refine Ok.region tok ?_ | refine Ok.region_tree (id := 31) tok follows [(2, 6, []), (5, 6, []), (2, 11, []), (5, 11, []), (6, 11, []), (10, 11, [])] (.q 0 (.q 1 (.q 2 (.q 3 (.q 4 (.alt 5 (.alt 6 (.q 7 (.q 8 (.q 9 (.l 10 (.l 11 (.q 12 .nil)))))) (.alt 10 (.l 6 (.q 7 (.q 8 (.q 9 (.l 11 (.q 12 .nil)))))) .nil)) (.alt 10 (.l 5 (.l 6 (.q 7 (.q 8 (.q 9 (.l 11 (.q 12 .nil))))))) .nil))))))) (by kernel_rfl) ?_ | refine Ok.region_draw tok follows (by kernel_rfl) ?_ | refine Ok.cond ?_); conv => whnf) | refine Ok.block ?_ | ((first | refine Ok.skip ?_ | refine Ok.exit ?_ | refine Ok.ret ?_ | refine nI ?_ | refine ix _ (by assumption) ?_ | refine ixI (by omega) (by assumption) ?_ | refine ix_new _ (by omega) fun _ _ => ?_ | refine ixI_new (by omega) (by omega) fun _ _ => ?_ | refine ⟨_, by assumption, ?_⟩ | refine Alt2.l (aI ?_) | refine Alt2.r (aI ?_)); conv => whnf) | (refine Ok.scope ?_) | ((first | refine Ok.label ?_ | refine rd rfl (by assumption) ?_ | refine ⟨_, .inl ⟨rfl, rfl⟩, ?_⟩ | refine ⟨_, _, rfl, rfl, ?_⟩); conv => whnf) | (refine ⟨fun _ => ?_, fun _ => ?_⟩ <;> (conv => whnf) <;> (try (exfalso; omega))) | ((first | refine aJ ?_ | refine num_any ?_ | refine ⟨_, rfl, ?_⟩); conv => whnf) | (exact True.intro) | (refine And.intro ?_ ?_ <;> (conv => whnf)) | fail)
    all_goals
      refine Or.inl ?_; (conv => whnf)
      exact ⟨rfl, _, rfl, PSp.nil 0⟩
  have hnb : noneB b = b := by unfold noneB; rw [if_neg hb]
  have hnone := none_at b
  rw [hnb] at hnone
  by_cases hnn : s = [110, 111, 110, 101]
  · rw [parO_none hlong hb hnn]
    (try (conv => whnf)); repeat' (first | refine Ok.seq ?_ | refine OkL.cons ?_ | ((first | refine Ok.region tok ?_ | refine Ok.region_tree (id := 31) tok follows [(2, 6, []), (5, 6, []), (2, 11, []), (5, 11, []), (6, 11, []), (10, 11, [])] (.q 0 (.q 1 (.q 2 (.q 3 (.q 4 (.alt 5 (.alt 6 (.q 7 (.q 8 (.q 9 (.l 10 (.l 11 (.q 12 .nil)))))) (.alt 10 (.l 6 (.q 7 (.q 8 (.q 9 (.l 11 (.q 12 .nil)))))) .nil)) (.alt 10 (.l 5 (.l 6 (.q 7 (.q 8 (.q 9 (.l 11 (.q 12 .nil))))))) .nil))))))) (by kernel_rfl) ?_ | refine Ok.region_draw tok follows (by kernel_rfl) ?_ | refine Ok.cond ?_); conv => whnf) | refine Ok.block ?_ | ((first | refine Ok.skip ?_ | refine Ok.exit ?_ | refine Ok.ret ?_ | refine nI ?_ | refine ix _ (by assumption) ?_ | refine ixI (by omega) (by assumption) ?_ | refine ix_new _ (by omega) fun _ _ => ?_ | refine ixI_new (by omega) (by omega) fun _ _ => ?_ | refine ⟨_, by assumption, ?_⟩); conv => whnf) | (refine Or.inr (Or.inl ?_); (conv => whnf); (repeat (refine aI ?_; conv => whnf)); refine ⟨_, hnone, ?_⟩; rintro _ _ ⟨rfl, rfl⟩ <;> (conv => whnf)) | ((first | refine Alt2.l (aI ?_) | refine Alt2.r (aI ?_)); conv => whnf) | (refine Ok.scope ?_) | ((first | refine Ok.label ?_ | refine rd rfl (by assumption) ?_ | refine ⟨_, .inl ⟨rfl, rfl⟩, ?_⟩ | refine ⟨_, _, rfl, rfl, ?_⟩); conv => whnf) | (refine ⟨fun _ => ?_, fun _ => ?_⟩ <;> (conv => whnf) <;> (try (exfalso; omega))) | ((first | refine aJ ?_ | refine num_any ?_ | refine ⟨_, rfl, ?_⟩); conv => whnf) | (exact True.intro) | (refine And.intro ?_ ?_ <;> (conv => whnf)) | fail)
    · refine Or.inl ?_; (conv => whnf)
      exact ⟨rfl, _, rfl, PSp.nil b⟩
    · exact absurd hnn (by assumption)
  have hLn := cutL_len 43 s
  have hLl : ((cutL 43 s).map srow).length = (cutL 43 s).length := by simp
  have hLm : ∀ x ∈ cutL 43 s, x.length ≤ s.length := fun x hx => cutL_mem 43 hx
  have hcl : ∀ i, cntP ((pieces s).take i) ≤ (pieces s).length * (s.length + 1) := cntP_le fun m hm => (pieces_mem hm).2.1
  have hpl := pieces_len s
  have hmul : (pieces s).length * (s.length + 1) ≤ 33025 * 33025 := Nat.mul_le_mul (by omega) (by omega)
  (try (conv => whnf)); repeat' (first | refine Ok.seq ?_ | refine OkL.cons ?_ | ((first | refine Ok.region tok ?_ | refine Ok.region_tree (id := 31) tok follows [(2, 6, []), (5, 6, []), (2, 11, []), (5, 11, []), (6, 11, []), (10, 11, [])] (.q 0 (.q 1 (.q 2 (.q 3 (.q 4 (.alt 5 (.alt 6 (.q 7 (.q 8 (.q 9 (.l 10 (.l 11 (.q 12 .nil)))))) (.alt 10 (.l 6 (.q 7 (.q 8 (.q 9 (.l 11 (.q 12 .nil)))))) .nil)) (.alt 10 (.l 5 (.l 6 (.q 7 (.q 8 (.q 9 (.l 11 (.q 12 .nil))))))) .nil))))))) (by kernel_rfl) ?_ | refine Ok.region_draw tok follows (by kernel_rfl) ?_ | refine Ok.cond ?_); conv => whnf) | refine Ok.block ?_ | ((first | refine Ok.skip ?_ | refine Ok.exit ?_ | refine Ok.ret ?_ | refine nI ?_ | refine ix _ (by assumption) ?_ | refine ixI (by omega) (by assumption) ?_ | refine ix_new _ (by omega) fun _ _ => ?_ | refine ixI_new (by omega) (by omega) fun _ _ => ?_ | refine ⟨_, by assumption, ?_⟩); conv => whnf) | (refine Or.inr (Or.inl ?_); (conv => whnf); (repeat (refine aI ?_; conv => whnf)); refine ⟨_, hnone, ?_⟩; rintro _ _ ⟨rfl, rfl⟩ <;> (conv => whnf)) | ((first | refine Alt2.l (aI ?_) | refine Alt2.r (aI ?_)); conv => whnf) | (refine Ok.scope ?_) | ((first | refine Ok.label ?_ | refine rd rfl (by assumption) ?_ | refine ⟨_, .inl ⟨rfl, rfl⟩, ?_⟩ | refine ⟨_, _, rfl, rfl, ?_⟩); conv => whnf) | (refine ⟨fun _ => ?_, fun _ => ?_⟩ <;> (conv => whnf) <;> (try (exfalso; omega))) | ((first | refine aJ ?_ | refine num_any ?_ | refine ⟨_, rfl, ?_⟩); conv => whnf) | (exact True.intro) | (refine And.intro ?_ ?_ <;> (conv => whnf)) | fail)
  · exact absurd (by assumption) hnn
  refine OkL.nil ?_
  (conv => whnf)
  refine ⟨0, 1, rfl, rfl, by decide, by decide, by decide, rfl, ?_⟩
  have hsp : ∀ t : Str, ∀ c : UInt8, t.length ≤ s.length → FSpec Tryz.prog T 100 [.s t, .s [c]] fun d rows => d = .own 0 (cutL c t).length ∧ rows = [some (9, (cutL c t).map srow)] := fun t c h => splitAt t c (by omega)
  (try (conv => whnf)); repeat' (first | refine Ok.seq ?_ | refine OkL.cons ?_ | ((first | refine Ok.region tok ?_ | refine Ok.region_tree (id := 31) tok follows [(2, 6, []), (5, 6, []), (2, 11, []), (5, 11, []), (6, 11, []), (10, 11, [])] (.q 0 (.q 1 (.q 2 (.q 3 (.q 4 (.alt 5 (.alt 6 (.q 7 (.q 8 (.q 9 (.l 10 (.l 11 (.q 12 .nil)))))) (.alt 10 (.l 6 (.q 7 (.q 8 (.q 9 (.l 11 (.q 12 .nil)))))) .nil)) (.alt 10 (.l 5 (.l 6 (.q 7 (.q 8 (.q 9 (.l 11 (.q 12 .nil))))))) .nil))))))) (by kernel_rfl) ?_ | refine Ok.region_draw tok follows (by kernel_rfl) ?_ | refine Ok.cond ?_); conv => whnf) | refine Ok.block ?_ | ((first | refine Ok.skip ?_ | refine Ok.exit ?_ | refine Ok.ret ?_ | refine nI ?_ | refine ix _ (by assumption) ?_ | refine ixI (by omega) (by assumption) ?_ | refine ix_new _ (by omega) fun _ _ => ?_ | refine ixI_new (by omega) (by omega) fun _ _ => ?_ | refine ⟨_, by assumption, ?_⟩); conv => whnf) | (refine Or.inl ?_; (conv => whnf); (repeat (refine aI ?_; conv => whnf)); refine ⟨_, hsp s 43 (Nat.le_refl _), rfl, ?_⟩; conv => whnf) | (refine ⟨_, hsp s 43 (Nat.le_refl _), rfl, ?_⟩; conv => whnf) | (refine Or.inr (Or.inl ?_); (conv => whnf); (repeat (refine aI ?_; conv => whnf)); refine ⟨_, hsp s 43 (Nat.le_refl _), ?_⟩; rintro _ _ ⟨rfl, rfl⟩; conv => whnf) | ((first | refine Alt2.l (aI ?_) | refine Alt2.r (aI ?_)); conv => whnf) | (refine Ok.scope ?_) | ((first | refine Ok.label ?_ | refine rd rfl (by assumption) ?_ | refine ⟨_, .inl ⟨rfl, rfl⟩, ?_⟩ | refine ⟨_, _, rfl, rfl, ?_⟩); conv => whnf) | (refine ⟨fun _ => ?_, fun _ => ?_⟩ <;> (conv => whnf) <;> (try (exfalso; omega))) | ((first | refine aJ ?_ | refine num_any ?_ | refine ⟨_, rfl, ?_⟩); conv => whnf) | (exact True.intro) | (refine And.intro ?_ ?_ <;> (conv => whnf)) | fail)
  refine Ok.ghost 6 58 rfl ?_
  (conv => whnf)
  refine Ok.loopU [0, 4, 5, 37, 38] [6, 7, 39] 2 2 (fun (x : Nat × List LR) => [.own 1 x.2.length, .i .i64 (cntP ((pieces s).take x.1) : Nat), .i .i64 (x.1 : Nat)]) (fun _ b => b) (fun (x : Nat × List LR) (_ : Vx.Rows) => [some (9, (cutL 43 s).map srow), some (58, x.2.map lrow)]) (fun (x : Nat × List LR) => x.1 ≤ (cutL 43 s).length ∧ x.2.map LR.l = (pieces s).take x.1 ∧ OkP b ((pieces s).take x.1)) (fun (x : Nat × List LR) => (cutL 43 s).length - x.1) ((0, [])) (⟨Nat.zero_le _, by simp, by simp [OkP]⟩) ?_; (conv => whnf); refine ⟨by ((conv => whnf); first | rfl | (simp [envCat, List.take_of_length_le, crow, trow]; done) | (simp [envCat, List.take_of_length_le, crow, trow]; rw [IntKind.wrap_i64]; omega)), ?_⟩
  rintro ⟨i, lss⟩ ⟨hi, hls, hok⟩
  dsimp only at hi hls hok ⊢
  have hlsl : (lss.map lrow).length = lss.length := by simp
  have hlsn : lss.length ≤ 40000 := by
    have := congrArg List.length hls
    simp at this
    omega
  have hci := hcl i
  (conv => whnf)
  by_cases hil : i < (cutL 43 s).length
  · obtain ⟨x, hx⟩ : ∃ x, (cutL 43 s)[i]? = some x := ⟨_, List.getElem?_eq_getElem hil⟩
    have hpx := pieces_get hx
    have hxl := hLm x (List.mem_of_getElem? hx)
    have hnx := cntP_take hpx
    have hml := cutL_len 45 x
    have hmm : ((cutL 45 x).map srow).length = (cutL 45 x).length := by simp
    have hokx := okP_take (b := b) hpx hok
    have hwl : ∀ w ∈ cutL 45 x, w.length ≤ x.length := fun w hw => cutL_mem 45 hw
    have hbad : ∀ w ∈ cutL 45 x, ¬ OkW b w → ¬ OkP b (pieces s) := fun w hw h q => h (q _ (List.mem_of_getElem? hpx) w hw)
    have hsx := hsp x 45 hxl
    generalize cntP ((pieces s).take i) = K at *
    generalize hM : cutL 45 x = M at *
    (try (conv => whnf)); repeat' (first | refine Ok.seq ?_ | refine OkL.cons ?_ | ((first | refine Ok.region tok ?_ | refine Ok.region_tree (id := 31) tok follows [(2, 6, []), (5, 6, []), (2, 11, []), (5, 11, []), (6, 11, []), (10, 11, [])] (.q 0 (.q 1 (.q 2 (.q 3 (.q 4 (.alt 5 (.alt 6 (.q 7 (.q 8 (.q 9 (.l 10 (.l 11 (.q 12 .nil)))))) (.alt 10 (.l 6 (.q 7 (.q 8 (.q 9 (.l 11 (.q 12 .nil)))))) .nil)) (.alt 10 (.l 5 (.l 6 (.q 7 (.q 8 (.q 9 (.l 11 (.q 12 .nil))))))) .nil))))))) (by kernel_rfl) ?_ | refine Ok.region_draw tok follows (by kernel_rfl) ?_ | refine Ok.cond ?_); conv => whnf) | refine Ok.block ?_ | ((first | refine Ok.skip ?_ | refine Ok.exit ?_ | refine Ok.ret ?_ | refine nI ?_ | refine ix _ (by assumption) ?_ | refine ixI (by omega) (by assumption) ?_ | refine ix_new _ (by omega) fun _ _ => ?_ | refine ixI_new (by omega) (by omega) fun _ _ => ?_ | refine ⟨_, by assumption, ?_⟩); conv => whnf) | (refine Or.inl ?_; (conv => whnf); (repeat (refine aI ?_; conv => whnf)); refine ⟨_, hsx, rfl, ?_⟩; conv => whnf) | (refine ⟨_, hsx, rfl, ?_⟩; conv => whnf) | (refine Or.inr (Or.inl ?_); (conv => whnf); (repeat (refine aI ?_; conv => whnf)); refine ⟨_, hsx, ?_⟩; rintro _ _ ⟨rfl, rfl⟩; conv => whnf) | ((first | refine Alt2.l (aI ?_) | refine Alt2.r (aI ?_)); conv => whnf) | (refine Ok.scope ?_) | ((first | refine Ok.label ?_ | refine rd rfl (by assumption) ?_ | refine ⟨_, .inl ⟨rfl, rfl⟩, ?_⟩ | refine ⟨_, _, rfl, rfl, ?_⟩); conv => whnf) | (refine ⟨fun _ => ?_, fun _ => ?_⟩ <;> (conv => whnf) <;> (try (exfalso; omega))) | ((first | refine aJ ?_ | refine num_any ?_ | refine ⟨_, rfl, ?_⟩); conv => whnf) | (exact True.intro) | (refine And.intro ?_ ?_ <;> (conv => whnf)) | fail)
    refine Ok.ghost 10 46 rfl ?_
    (conv => whnf)
    refine Ok.loopU [0, 4, 5, 6, 7, 37, 38, 39, 44, 45] [10, 46] 4 2 (fun (j : Nat) => [.own 3 j, .i .i64 (j : Nat)]) (fun _ b => b) (fun (j : Nat) (_ : Vx.Rows) => [some (9, (cutL 43 s).map srow), some (58, lss.map lrow), some (9, M.map srow), some (46, (M.take j).map crow)]) (fun (j : Nat) => j ≤ M.length ∧ ∀ w ∈ M.take j, OkW b w) (fun (j : Nat) => M.length - j) (0) (⟨Nat.zero_le _, by simp⟩) ?_; (conv => whnf); refine ⟨by ((conv => whnf); first | rfl | (simp [envCat, List.take_of_length_le, crow, trow]; done) | (simp [envCat, List.take_of_length_le, crow, trow]; rw [IntKind.wrap_i64]; omega)), ?_⟩
    rintro j ⟨hj, hw⟩
    have hjm : ((M.take j).map crow).length = j := by simp; omega
    (conv => whnf)
    by_cases hjl : j < M.length
    · obtain ⟨y, hy⟩ : ∃ y, M[j]? = some y := ⟨_, List.getElem?_eq_getElem hjl⟩
      have hyI : M[((j : Nat) : Int).toNat]? = some y := hy
      have hym := List.mem_of_getElem? hy
      have hyl := hwl y hym
      have hpy := parse_at y
      by_cases hgood : OkW b y
      · have hg1 := hgood.1
        rw [zer_of hgood.2, perr_of hgood.2] at hpy
        (try (conv => whnf)); repeat' (first | refine Ok.seq ?_ | refine OkL.cons ?_ | ((first | refine Ok.region tok ?_ | refine Ok.region_tree (id := 31) tok follows [(2, 6, []), (5, 6, []), (2, 11, []), (5, 11, []), (6, 11, []), (10, 11, [])] (.q 0 (.q 1 (.q 2 (.q 3 (.q 4 (.alt 5 (.alt 6 (.q 7 (.q 8 (.q 9 (.l 10 (.l 11 (.q 12 .nil)))))) (.alt 10 (.l 6 (.q 7 (.q 8 (.q 9 (.l 11 (.q 12 .nil)))))) .nil)) (.alt 10 (.l 5 (.l 6 (.q 7 (.q 8 (.q 9 (.l 11 (.q 12 .nil))))))) .nil))))))) (by kernel_rfl) ?_ | refine Ok.region_draw tok follows (by kernel_rfl) ?_ | refine Ok.cond ?_); conv => whnf) | refine Ok.block ?_ | ((first | refine Ok.skip ?_ | refine Ok.exit ?_ | refine Ok.ret ?_ | refine nI ?_ | refine ix _ (by assumption) ?_ | refine ixI (by omega) (by assumption) ?_ | refine ix_new _ (by omega) fun _ _ => ?_ | refine ixI_new (by omega) (by omega) fun _ _ => ?_ | refine ⟨_, by assumption, ?_⟩); conv => whnf) | (refine Or.inr (Or.inl ?_); (conv => whnf); (repeat (refine aI ?_; conv => whnf)); refine ⟨_, hpy, ?_⟩; rintro _ _ ⟨rfl, rfl⟩ <;> (conv => whnf)) | ((first | refine Alt2.l (aI ?_) | refine Alt2.r (aI ?_)); conv => whnf) | (refine Ok.scope ?_) | ((first | refine Ok.label ?_ | refine rd rfl (by assumption) ?_ | refine ⟨_, .inl ⟨rfl, rfl⟩, ?_⟩ | refine ⟨_, _, rfl, rfl, ?_⟩); conv => whnf) | (refine ⟨fun _ => ?_, fun _ => ?_⟩ <;> (conv => whnf) <;> (try (exfalso; omega))) | ((first | refine aJ ?_ | refine num_any ?_ | refine ⟨_, rfl, ?_⟩); conv => whnf) | (exact True.intro) | (refine And.intro ?_ ?_ <;> (conv => whnf)) | fail)
        refine ⟨j + 1, by omega, ⟨by omega, fun w hw2 => ?_⟩, ?_⟩
        · rw [take_snoc hy] at hw2
          rcases List.mem_append.1 hw2 with h | h
          · exact hw w h
          · simp at h; rw [h]; exact hgood
        · rw [take_snoc hy]
          (conv => whnf)
          simp [envCat]
          omega
      · have hno := hbad y hym hgood
        by_cases hoc : okC y
        · have hne : (y.length : Int) ≠ b := fun e => hgood ⟨e, hoc⟩
          rw [perr_of hoc] at hpy
          (try (conv => whnf)); repeat' (first | refine Ok.seq ?_ | refine OkL.cons ?_ | ((first | refine Ok.region tok ?_ | refine Ok.region_tree (id := 31) tok follows [(2, 6, []), (5, 6, []), (2, 11, []), (5, 11, []), (6, 11, []), (10, 11, [])] (.q 0 (.q 1 (.q 2 (.q 3 (.q 4 (.alt 5 (.alt 6 (.q 7 (.q 8 (.q 9 (.l 10 (.l 11 (.q 12 .nil)))))) (.alt 10 (.l 6 (.q 7 (.q 8 (.q 9 (.l 11 (.q 12 .nil)))))) .nil)) (.alt 10 (.l 5 (.l 6 (.q 7 (.q 8 (.q 9 (.l 11 (.q 12 .nil))))))) .nil))))))) (by kernel_rfl) ?_ | refine Ok.region_draw tok follows (by kernel_rfl) ?_ | refine Ok.cond ?_); conv => whnf) | refine Ok.block ?_ | ((first | refine Ok.skip ?_ | refine Ok.exit ?_ | refine Ok.ret ?_ | refine nI ?_ | refine ix _ (by assumption) ?_ | refine ixI (by omega) (by assumption) ?_ | refine ix_new _ (by omega) fun _ _ => ?_ | refine ixI_new (by omega) (by omega) fun _ _ => ?_ | refine ⟨_, by assumption, ?_⟩); conv => whnf) | (refine Or.inr (Or.inl ?_); (conv => whnf); (repeat (refine aI ?_; conv => whnf)); refine ⟨_, hpy, ?_⟩; rintro _ _ ⟨rfl, rfl⟩ <;> (conv => whnf)) | ((first | refine Alt2.l (aI ?_) | refine Alt2.r (aI ?_)); conv => whnf) | (refine Ok.scope ?_) | ((first | refine Ok.label ?_ | refine rd rfl (by assumption) ?_ | refine ⟨_, .inl ⟨rfl, rfl⟩, ?_⟩ | refine ⟨_, _, rfl, rfl, ?_⟩); conv => whnf) | (refine ⟨fun _ => ?_, fun _ => ?_⟩ <;> (conv => whnf) <;> (try (exfalso; omega))) | ((first | refine aJ ?_ | refine num_any ?_ | refine ⟨_, rfl, ?_⟩); conv => whnf) | (exact True.intro) | (refine And.intro ?_ ?_ <;> (conv => whnf)) | fail)
          all_goals first
            | (rw [parO_word hlong hb hnn hno]
               refine Or.inl ?_; (conv => whnf)
               exact ⟨rfl, _, rfl, PSp.nil 0⟩)
            | (exfalso; omega)
        · have hpe := perr_not hoc
          generalize perr y = E at *
          (try (conv => whnf)); repeat' (first | refine Ok.seq ?_ | refine OkL.cons ?_ | ((first | refine Ok.region tok ?_ | refine Ok.region_tree (id := 31) tok follows [(2, 6, []), (5, 6, []), (2, 11, []), (5, 11, []), (6, 11, []), (10, 11, [])] (.q 0 (.q 1 (.q 2 (.q 3 (.q 4 (.alt 5 (.alt 6 (.q 7 (.q 8 (.q 9 (.l 10 (.l 11 (.q 12 .nil)))))) (.alt 10 (.l 6 (.q 7 (.q 8 (.q 9 (.l 11 (.q 12 .nil)))))) .nil)) (.alt 10 (.l 5 (.l 6 (.q 7 (.q 8 (.q 9 (.l 11 (.q 12 .nil))))))) .nil))))))) (by kernel_rfl) ?_ | refine Ok.region_draw tok follows (by kernel_rfl) ?_ | refine Ok.cond ?_); conv => whnf) | refine Ok.block ?_ | ((first | refine Ok.skip ?_ | refine Ok.exit ?_ | refine Ok.ret ?_ | refine nI ?_ | refine ix _ (by assumption) ?_ | refine ixI (by omega) (by assumption) ?_ | refine ix_new _ (by omega) fun _ _ => ?_ | refine ixI_new (by omega) (by omega) fun _ _ => ?_ | refine ⟨_, by assumption, ?_⟩); conv => whnf) | (refine Or.inr (Or.inl ?_); (conv => whnf); (repeat (refine aI ?_; conv => whnf)); refine ⟨_, hpy, ?_⟩; rintro _ _ ⟨rfl, rfl⟩ <;> (conv => whnf)) | ((first | refine Alt2.l (aI ?_) | refine Alt2.r (aI ?_)); conv => whnf) | (refine Ok.scope ?_) | ((first | refine Ok.label ?_ | refine rd rfl (by assumption) ?_ | refine ⟨_, .inl ⟨rfl, rfl⟩, ?_⟩ | refine ⟨_, _, rfl, rfl, ?_⟩); conv => whnf) | (refine ⟨fun _ => ?_, fun _ => ?_⟩ <;> (conv => whnf) <;> (try (exfalso; omega))) | ((first | refine aJ ?_ | refine num_any ?_ | refine ⟨_, rfl, ?_⟩); conv => whnf) | (exact True.intro) | (refine And.intro ?_ ?_ <;> (conv => whnf)) | fail)
          all_goals first
            | (rw [parO_word hlong hb hnn hno]
               refine Or.inl ?_; (conv => whnf)
               exact ⟨rfl, _, rfl, PSp.nil 0⟩)
            | (exfalso; omega)
    · have hje : j = M.length := by omega
      subst hje
      rw [List.take_length] at hw hjm ⊢
      have hok2 := hokx hw
      refine Ok.pub 3 ?_
      (conv => whnf)
      (try (conv => whnf)); repeat' (first | refine Ok.seq ?_ | refine OkL.cons ?_ | ((first | refine Ok.region tok ?_ | refine Ok.region_tree (id := 31) tok follows [(2, 6, []), (5, 6, []), (2, 11, []), (5, 11, []), (6, 11, []), (10, 11, [])] (.q 0 (.q 1 (.q 2 (.q 3 (.q 4 (.alt 5 (.alt 6 (.q 7 (.q 8 (.q 9 (.l 10 (.l 11 (.q 12 .nil)))))) (.alt 10 (.l 6 (.q 7 (.q 8 (.q 9 (.l 11 (.q 12 .nil)))))) .nil)) (.alt 10 (.l 5 (.l 6 (.q 7 (.q 8 (.q 9 (.l 11 (.q 12 .nil))))))) .nil))))))) (by kernel_rfl) ?_ | refine Ok.region_draw tok follows (by kernel_rfl) ?_ | refine Ok.cond ?_); conv => whnf) | refine Ok.block ?_ | ((first | refine Ok.skip ?_ | refine Ok.exit ?_ | refine Ok.ret ?_ | refine nI ?_ | refine ix _ (by assumption) ?_ | refine ixI (by omega) (by assumption) ?_ | refine ix_new _ (by omega) fun _ _ => ?_ | refine ixI_new (by omega) (by omega) fun _ _ => ?_ | refine ⟨_, by assumption, ?_⟩ | refine Alt2.l (aI ?_) | refine Alt2.r (aI ?_)); conv => whnf) | (refine Ok.scope ?_) | ((first | refine Ok.label ?_ | refine rd rfl (by assumption) ?_ | refine ⟨_, .inl ⟨rfl, rfl⟩, ?_⟩ | refine ⟨_, _, rfl, rfl, ?_⟩); conv => whnf) | (refine ⟨fun _ => ?_, fun _ => ?_⟩ <;> (conv => whnf) <;> (try (exfalso; omega))) | ((first | refine aJ ?_ | refine num_any ?_ | refine ⟨_, rfl, ?_⟩); conv => whnf) | (exact True.intro) | (refine And.intro ?_ ?_ <;> (conv => whnf)) | fail)
      refine ⟨(i + 1, lss ++ [⟨M, List.drop M.length (M.map crow)⟩]), by dsimp only; omega, ⟨by dsimp only; omega, ?_, hok2⟩, ?_⟩
      · dsimp only
        rw [List.map_append, hls, take_snoc hpx]
        rfl
      · dsimp only
        rw [hnx]
        (conv => whnf)
        simp [envCat, List.take_of_length_le]
        rw [IntKind.wrap_i64] <;> omega
  · have hie : i = (cutL 43 s).length := by omega
    subst hie
    rw [pieces_all] at hok hci hls
    rw [pieces_all]
    have hgood := trms_good (n := b) (fun m hm => (pieces_mem hm).1) hok
    have hne : ∀ m ∈ pieces s, m ≠ [] := fun m hm => (pieces_mem hm).1
    have hlsL : lss.length = (cutL 43 s).length := by
      have := congrArg List.length hls
      simp [pieces] at this
      exact this
    by_cases hmany : 128 < cntP (pieces s)
    · rw [parO_many hlong hb hnn hok hmany]
      (try (conv => whnf)); repeat' (first | refine Ok.seq ?_ | refine OkL.cons ?_ | ((first | refine Ok.region tok ?_ | refine Ok.region_tree (id := 31) tok follows [(2, 6, []), (5, 6, []), (2, 11, []), (5, 11, []), (6, 11, []), (10, 11, [])] (.q 0 (.q 1 (.q 2 (.q 3 (.q 4 (.alt 5 (.alt 6 (.q 7 (.q 8 (.q 9 (.l 10 (.l 11 (.q 12 .nil)))))) (.alt 10 (.l 6 (.q 7 (.q 8 (.q 9 (.l 11 (.q 12 .nil)))))) .nil)) (.alt 10 (.l 5 (.l 6 (.q 7 (.q 8 (.q 9 (.l 11 (.q 12 .nil))))))) .nil))))))) (by kernel_rfl) ?_ | refine Ok.region_draw tok follows (by kernel_rfl) ?_ | refine Ok.cond ?_); conv => whnf) | refine Ok.block ?_ | ((first | refine Ok.skip ?_ | refine Ok.exit ?_ | refine Ok.ret ?_ | refine nI ?_ | refine ix _ (by assumption) ?_ | refine ixI (by omega) (by assumption) ?_ | refine ix_new _ (by omega) fun _ _ => ?_ | refine ixI_new (by omega) (by omega) fun _ _ => ?_ | refine ⟨_, by assumption, ?_⟩ | refine Alt2.l (aI ?_) | refine Alt2.r (aI ?_)); conv => whnf) | (refine Ok.scope ?_) | ((first | refine Ok.label ?_ | refine rd rfl (by assumption) ?_ | refine ⟨_, .inl ⟨rfl, rfl⟩, ?_⟩ | refine ⟨_, _, rfl, rfl, ?_⟩); conv => whnf) | (refine ⟨fun _ => ?_, fun _ => ?_⟩ <;> (conv => whnf) <;> (try (exfalso; omega))) | ((first | refine aJ ?_ | refine num_any ?_ | refine ⟨_, rfl, ?_⟩); conv => whnf) | (exact True.intro) | (refine And.intro ?_ ?_ <;> (conv => whnf)) | fail)
      · refine Or.inl ?_; (conv => whnf)
        exact ⟨rfl, _, rfl, PSp.nil 0⟩
      all_goals exact absurd hmany (by omega)
    · rw [parO_form hlong hb hnn hok hmany]
      have hsz := szT_trms hne
      (try (conv => whnf)); repeat' (first | refine Ok.seq ?_ | refine OkL.cons ?_ | ((first | refine Ok.region tok ?_ | refine Ok.cond ?_); conv => whnf) | refine Ok.block ?_ | ((first | refine Ok.skip ?_ | refine Ok.exit ?_ | refine Ok.ret ?_ | refine nI ?_ | refine ix _ (by assumption) ?_ | refine ixI (by omega) (by assumption) ?_ | refine ix_new _ (by omega) fun _ _ => ?_ | refine ixI_new (by omega) (by omega) fun _ _ => ?_ | refine ⟨_, by assumption, ?_⟩ | refine Alt2.l (aI ?_) | refine Alt2.r (aI ?_)); conv => whnf) | (refine Ok.scope ?_) | ((first | refine Ok.label ?_ | refine rd rfl (by assumption) ?_ | refine ⟨_, .inl ⟨rfl, rfl⟩, ?_⟩ | refine ⟨_, _, rfl, rfl, ?_⟩); conv => whnf) | (refine ⟨fun _ => ?_, fun _ => ?_⟩ <;> (conv => whnf) <;> (try (exfalso; omega))) | ((first | refine aJ ?_ | refine num_any ?_ | refine ⟨_, rfl, ?_⟩); conv => whnf) | fail)
      refine Ok.ghost 15 112 rfl ?_
      (conv => whnf)
      refine Ok.loopU [0, 4, 5, 81, 82] [15, 83] 3 2 (fun (x : Nat × List TR) => [.own 2 x.2.length, .i .i64 (x.1 : Nat)]) (fun _ b => b) (fun (x : Nat × List TR) (_ : Vx.Rows) => [some (9, (cutL 43 s).map srow), some (58, lss.map lrow), some (112, x.2.map trow)]) (fun (x : Nat × List TR) => x.1 ≤ (cutL 43 s).length ∧ x.2.map TR.t = trms ((pieces s).take x.1) ∧ x.2.length ≤ x.1) (fun (x : Nat × List TR) => (cutL 43 s).length - x.1) ((0, [])) (⟨Nat.zero_le _, by simp [trms], by simp⟩) ?_; (conv => whnf); refine ⟨by ((conv => whnf); first | rfl | (simp [envCat, List.take_of_length_le, crow, trow]; done) | (simp [envCat, List.take_of_length_le, crow, trow]; rw [IntKind.wrap_i64]; omega)), ?_⟩
      rintro ⟨i, l⟩ ⟨hi, hl, hll⟩
      dsimp only at hi hl hll ⊢
      have hlm : (l.map trow).length = l.length := by simp
      (conv => whnf)
      by_cases hil : i < (cutL 43 s).length
      · obtain ⟨x, hx⟩ : ∃ x, (cutL 43 s)[i]? = some x := ⟨_, List.getElem?_eq_getElem hil⟩
        have hpx := pieces_get hx
        have hxl := hLm x (List.mem_of_getElem? hx)
        have hml := cutL_len 45 x
        have hoks := hok _ (List.mem_of_getElem? hpx)
        obtain ⟨p, less, hm⟩ : ∃ p less, cutL 45 x = p :: less := by
          cases h : cutL 45 x with
          | nil => exact absurd h (cutL_ne _ _)
          | cons a l => exact ⟨a, l, rfl⟩
        rw [hm] at hpx hml hoks
        simp at hml
        obtain ⟨rm1, hlx⟩ := lrows hls hpx
        have hp := hoks p (by simp)
        have hlo : ∀ m ∈ less, CT m := fun m h => (hoks m (by simp [h])).2.1
        have hlm2 : (less.map crow).length = less.length := by simp
        have hsl : ∀ rm : List (List D), List.drop 1 (List.take (List.map crow (p :: less)).length (List.map crow (p :: less) ++ rm)) = less.map crow := fun rm => by
          rw [List.take_left' rfl]
          rfl
        have hnew : ∀ rl room, rl = List.map lrow [⟨less, List.drop (List.map crow (p :: less)).length (List.map crow (p :: less) ++ rm1)⟩] → FSpec Tryz.prog T 72 [.agg (crow p), .lst 58 rl room] (NewT p less) := fun rl room h => by
          have := newTerm_at p [⟨less, List.drop (List.map crow (p :: less)).length (List.map crow (p :: less) ++ rm1)⟩] (room := room) ⟨hp.2.1, hp.2.2⟩ (by simpa using hlo) (by simp [allL]; omega) (by simp) h
          rwa [show allL [⟨less, List.drop (List.map crow (p :: less)).length (List.map crow (p :: less) ++ rm1)⟩] = less by simp [allL]] at this
        (try (conv => whnf)); repeat' (first | refine Ok.seq ?_ | refine OkL.cons ?_ | ((first | refine Ok.region tok ?_ | refine Ok.region_tree (id := 31) tok follows [(2, 6, []), (5, 6, []), (2, 11, []), (5, 11, []), (6, 11, []), (10, 11, [])] (.q 0 (.q 1 (.q 2 (.q 3 (.q 4 (.alt 5 (.alt 6 (.q 7 (.q 8 (.q 9 (.l 10 (.l 11 (.q 12 .nil)))))) (.alt 10 (.l 6 (.q 7 (.q 8 (.q 9 (.l 11 (.q 12 .nil)))))) .nil)) (.alt 10 (.l 5 (.l 6 (.q 7 (.q 8 (.q 9 (.l 11 (.q 12 .nil))))))) .nil))))))) (by kernel_rfl) ?_ | refine Ok.region_draw tok follows (by kernel_rfl) ?_ | refine Ok.cond ?_); conv => whnf) | refine Ok.block ?_ | ((first | refine Ok.skip ?_ | refine Ok.exit ?_ | refine Ok.ret ?_ | refine nI ?_ | refine ix _ (by assumption) ?_ | refine ixI (by omega) (by assumption) ?_ | refine ix_new _ (by omega) fun _ _ => ?_ | refine ixI_new (by omega) (by omega) fun _ _ => ?_ | refine ⟨_, by assumption, ?_⟩); conv => whnf) | (refine Or.inr (Or.inl ?_); (conv => whnf); (repeat (refine aI ?_; conv => whnf)); refine ⟨_, hnew _ _ (by simp only [hsl]; rfl) , ?_⟩; rintro _ _ ⟨rfl, (⟨ht, rfl⟩ | ⟨t, rm3, ht, rfl⟩)⟩ <;> (conv => whnf)) | ((first | refine Alt2.l (aI ?_) | refine Alt2.r (aI ?_)); conv => whnf) | (refine Ok.scope ?_) | ((first | refine Ok.label ?_ | refine rd rfl (by assumption) ?_ | refine ⟨_, .inl ⟨rfl, rfl⟩, ?_⟩ | refine ⟨_, _, rfl, rfl, ?_⟩); conv => whnf) | (refine ⟨fun _ => ?_, fun _ => ?_⟩ <;> (conv => whnf) <;> (try (exfalso; omega))) | ((first | refine aJ ?_ | refine num_any ?_ | refine ⟨_, rfl, ?_⟩); conv => whnf) | (exact True.intro) | (refine And.intro ?_ ?_ <;> (conv => whnf)) | fail)
        all_goals first
          | (rename_i h; exact absurd trivial h)
          | (refine ⟨(i + 1, l), by dsimp only; omega, ⟨by dsimp only; omega, by dsimp only; rw [trms_none hpx (show trm (p :: less) = none from ht)]; exact hl, by dsimp only; omega⟩, ?_⟩
             (conv => whnf)
             rfl)
          | (refine ⟨(i + 1, l ++ [⟨t, rm3⟩]), by dsimp only; omega, ⟨by dsimp only; omega, by dsimp only; rw [trms_some hpx (show trm (p :: less) = some t from ht), List.map_append, hl]; rfl, by simp; omega⟩, ?_⟩
             (conv => whnf)
             simp [envCat])
      · have hie : i = (cutL 43 s).length := by omega
        subst hie
        rw [pieces_all] at hl
        have hto : ∀ x ∈ l, TO b.toNat x := fun x hx => (hgood _ (mem_of_map hl hx)).to (by
          have := szT_mem (mem_of_map hl hx)
          omega)
        have hll2 : l.length ≤ 1048576 := by
          have := szT_len (trms (pieces s))
          rw [← hl, List.length_map] at this
          omega
        have hsz2 : szT (formT (l.map TR.t)) ≤ 128 := by
          rw [hl]
          have := szT_form (trms (pieces s))
          omega
        have htk : List.take l.length (l.map trow) = l.map trow := List.take_of_length_le (by simp)
        (try (conv => whnf)); repeat' (first | refine Ok.seq ?_ | refine OkL.cons ?_ | ((first | refine Ok.region tok ?_ | refine Ok.region_tree (id := 31) tok follows [(2, 6, []), (5, 6, []), (2, 11, []), (5, 11, []), (6, 11, []), (10, 11, [])] (.q 0 (.q 1 (.q 2 (.q 3 (.q 4 (.alt 5 (.alt 6 (.q 7 (.q 8 (.q 9 (.l 10 (.l 11 (.q 12 .nil)))))) (.alt 10 (.l 6 (.q 7 (.q 8 (.q 9 (.l 11 (.q 12 .nil)))))) .nil)) (.alt 10 (.l 5 (.l 6 (.q 7 (.q 8 (.q 9 (.l 11 (.q 12 .nil))))))) .nil))))))) (by kernel_rfl) ?_ | refine Ok.region_draw tok follows (by kernel_rfl) ?_ | refine Ok.cond ?_); conv => whnf) | refine Ok.block ?_ | ((first | refine Ok.skip ?_ | refine Ok.exit ?_ | refine Ok.ret ?_ | refine nI ?_ | refine ix _ (by assumption) ?_ | refine ixI (by omega) (by assumption) ?_ | refine ix_new _ (by omega) fun _ _ => ?_ | refine ixI_new (by omega) (by omega) fun _ _ => ?_ | refine ⟨_, by assumption, ?_⟩); conv => whnf) | (refine Or.inr (Or.inl ?_); (conv => whnf); (repeat (refine aI ?_; conv => whnf)); refine ⟨_, form_at b b.toNat l hll2 hto htk hsz2 , ?_⟩; rintro _ _ ⟨ks, rm4, rfl, rfl, hks, hkm⟩ <;> (conv => whnf)) | ((first | refine Alt2.l (aI ?_) | refine Alt2.r (aI ?_)); conv => whnf) | (refine Ok.scope ?_) | ((first | refine Ok.label ?_ | refine rd rfl (by assumption) ?_ | refine ⟨_, .inl ⟨rfl, rfl⟩, ?_⟩ | refine ⟨_, _, rfl, rfl, ?_⟩); conv => whnf) | (refine ⟨fun _ => ?_, fun _ => ?_⟩ <;> (conv => whnf) <;> (try (exfalso; omega))) | ((first | refine aJ ?_ | refine num_any ?_ | refine ⟨_, rfl, ?_⟩); conv => whnf) | (exact True.intro) | (refine And.intro ?_ ?_ <;> (conv => whnf)) | fail)
        refine Or.inl ?_; (conv => whnf)
        exact ⟨rfl, _, rfl, ks, rm4, rfl, by rw [hks, hl]⟩
end Go.Proofs.YtaiondckookpiaaGreatDoor
namespace Go.Proofs.YtaiondckookpiaaGreatDoor
open Go Go.Vx
theorem num_at (e : Int) : FSpec Tryz.prog T 35 [.i .i64 e] (fun r _ => r = .i .i64 e) := by
  refine FSpec.of_ok tok Tryz.func35 rfl Tryz.call35 (by simp) ?_
  (try (conv => whnf)); repeat' (first | refine Ok.seq ?_ | refine OkL.cons ?_ | ((first | refine Ok.region tok ?_ | refine Ok.region_draw tok follows (by kernel_rfl) ?_ | refine Ok.cond ?_); conv => whnf) | refine Ok.block ?_ | ((first | refine Ok.skip ?_ | refine Ok.exit ?_ | refine Ok.ret ?_ | refine nI ?_ | refine ix _ (by assumption) ?_ | refine ixI (by omega) (by assumption) ?_ | refine ix_new _ (by omega) fun _ _ => ?_ | refine ixI_new (by omega) (by omega) fun _ _ => ?_ | refine ⟨_, by assumption, ?_⟩ | refine Alt2.l (aI ?_) | refine Alt2.r (aI ?_)); conv => whnf) | (refine Ok.scope ?_) | ((first | refine Ok.label ?_ | refine rd rfl (by assumption) ?_ | refine ⟨_, .inl ⟨rfl, rfl⟩, ?_⟩ | refine ⟨_, _, rfl, rfl, ?_⟩); conv => whnf) | (refine ⟨fun _ => ?_, fun _ => ?_⟩ <;> (conv => whnf) <;> (try (exfalso; omega))) | ((first | refine aJ ?_ | refine num_any ?_ | refine ⟨_, rfl, ?_⟩); conv => whnf) | fail)
  refine Or.inl ?_; (conv => whnf)
  rfl
theorem Fine.cast {n : Int} {ts : List Term} (h : Fine n ts) : ((n.toNat : Nat) : Int) = n := by have := h.n0; omega
theorem Fine.mlen {n : Int} {ts : List Term} (h : Fine n ts) {l : List TR} (e : l.map TR.t = ts) : l.length ≤ 1048576 := by
  have := h.len
  rw [← e, List.length_map] at this
  omega
theorem Fine.mless {n : Int} {ts : List Term} (h : Fine n ts) {l : List TR} (e : l.map TR.t = ts) : ∀ x ∈ l, x.t.less.length ≤ 1048576 := fun x hx => Nat.le_trans (h.less (mem_of_map e hx)) (by decide)
set_option maxHeartbeats 4000000 in
theorem like_at {n : Int} {ts : List Term} (hf : Fine n ts) (ks ks2 : List TR) (rm rm2 : List (List D)) (h1 : ks.map TR.t = ts) (h2 : ks2.map TR.t = ts) : FSpec Tryz.prog T 56 [.agg [.i .i64 n, .lst 112 (ks.map trow) rm], .agg [.i .i64 n, .lst 120 (ks2.map drow) rm2]] (fun r _ => r = .b True) := by
  have hbits := bits_at n (.lst 112 (ks.map trow) rm) ⟨_, _, _, rfl⟩
  have hsize := size_at n ks (room := rm) (hf.mlen h1) (hf.mless h1) rfl
  have hrsize := rsize_at n ks2 (room := rm2) (hf.mlen h2) (hf.mless h2) rfl
  have htext := text2_at n.toNat ks (room := rm) (hf.sp h1) rfl
  have hrtext := rtext_at n n.toNat ks2 (room := rm2) (hf.sp h2) rfl
  rw [hf.cast] at htext
  rw [h1] at hsize htext
  rw [h2] at hrsize hrtext
  refine FSpec.of_ok tok Tryz.func56 rfl Tryz.call56 (by simp) ?_
  (try (conv => whnf)); repeat' (first | refine Ok.seq ?_ | refine OkL.cons ?_ | ((first | refine Ok.region tok ?_ | refine Ok.region_draw tok follows (by kernel_rfl) ?_ | refine Ok.cond ?_); conv => whnf) | refine Ok.block ?_ | ((first | refine Ok.skip ?_ | refine Ok.exit ?_ | refine Ok.ret ?_ | refine nI ?_ | refine ix _ (by assumption) ?_ | refine ixI (by omega) (by assumption) ?_ | refine ix_new _ (by omega) fun _ _ => ?_ | refine ixI_new (by omega) (by omega) fun _ _ => ?_ | refine ⟨_, by assumption, ?_⟩); conv => whnf) | (refine Or.inl ?_; (conv => whnf); (repeat (refine aI ?_; conv => whnf)); refine ⟨_, hbits, rfl, ?_⟩; conv => whnf) | (refine Or.inl ?_; (conv => whnf); (repeat (refine aI ?_; conv => whnf)); refine ⟨_, hsize, rfl, ?_⟩; conv => whnf) | (refine Or.inl ?_; (conv => whnf); (repeat (refine aI ?_; conv => whnf)); refine ⟨_, hrsize, rfl, ?_⟩; conv => whnf) | (refine Or.inl ?_; (conv => whnf); (repeat (refine aI ?_; conv => whnf)); refine ⟨_, htext, rfl, ?_⟩; conv => whnf) | (refine Or.inl ?_; (conv => whnf); (repeat (refine aI ?_; conv => whnf)); refine ⟨_, hrtext, rfl, ?_⟩; conv => whnf) | ((first | refine ⟨_, hbits, rfl, ?_⟩ | refine ⟨_, hsize, rfl, ?_⟩ | refine ⟨_, hrsize, rfl, ?_⟩ | refine ⟨_, htext, rfl, ?_⟩ | refine ⟨_, hrtext, rfl, ?_⟩); conv => whnf) | (refine Or.inr (Or.inl ?_); (conv => whnf); (repeat (refine aI ?_; conv => whnf)); refine ⟨_, hbits, ?_⟩; rintro _ _ ⟨rfl, rfl⟩; conv => whnf) | (refine Or.inr (Or.inl ?_); (conv => whnf); (repeat (refine aI ?_; conv => whnf)); refine ⟨_, hsize, ?_⟩; rintro _ _ ⟨rfl, rfl⟩; conv => whnf) | (refine Or.inr (Or.inl ?_); (conv => whnf); (repeat (refine aI ?_; conv => whnf)); refine ⟨_, hrsize, ?_⟩; rintro _ _ ⟨rfl, rfl⟩; conv => whnf) | (refine Or.inr (Or.inl ?_); (conv => whnf); (repeat (refine aI ?_; conv => whnf)); refine ⟨_, htext, ?_⟩; rintro _ _ ⟨rfl, rfl⟩; conv => whnf) | (refine Or.inr (Or.inl ?_); (conv => whnf); (repeat (refine aI ?_; conv => whnf)); refine ⟨_, hrtext, ?_⟩; rintro _ _ ⟨rfl, rfl⟩; conv => whnf) | ((first | refine Alt2.l (aI ?_) | refine Alt2.r (aI ?_)); conv => whnf) | (refine Ok.scope ?_) | ((first | refine Ok.label ?_ | refine rd rfl (by assumption) ?_ | refine ⟨_, .inl ⟨rfl, rfl⟩, ?_⟩ | refine ⟨_, _, rfl, rfl, ?_⟩); conv => whnf) | (refine ⟨fun _ => ?_, fun _ => ?_⟩ <;> (conv => whnf) <;> (try (exfalso; omega))) | ((first | refine aJ ?_ | refine num_any ?_ | refine ⟨_, rfl, ?_⟩); conv => whnf) | fail)
  · refine Or.inl ?_; (conv => whnf)
    exact congrArg D.b (propext ⟨fun _ => trivial, fun _ => rfl⟩)
  all_goals exact absurd rfl (by assumption)
set_option maxHeartbeats 4000000 in
theorem same_at {n e : Int} {ts : List Term} (hf : Fine n ts) (ks ks2 : List TR) (rm rm2 : List (List D)) (h1 : ks.map TR.t = ts) (h2 : ks2.map TR.t = ts) : FSpec Tryz.prog T 20 [.agg [.i .i64 n, .lst 112 (ks.map trow) rm], .i .i64 e, .agg [.i .i64 n, .lst 120 (ks2.map drow) rm2], .i .i64 e] (fun r _ => r = .b True) := by
  have hlike := like_at hf ks ks2 rm rm2 h1 h2
  refine FSpec.of_ok tok Tryz.func20 rfl Tryz.call20 (by simp) ?_
  (try (conv => whnf)); repeat' (first | refine Ok.seq ?_ | refine OkL.cons ?_ | ((first | refine Ok.region tok ?_ | refine Ok.region_draw tok follows (by kernel_rfl) ?_ | refine Ok.cond ?_); conv => whnf) | refine Ok.block ?_ | ((first | refine Ok.skip ?_ | refine Ok.exit ?_ | refine Ok.ret ?_ | refine nI ?_ | refine ix _ (by assumption) ?_ | refine ixI (by omega) (by assumption) ?_ | refine ix_new _ (by omega) fun _ _ => ?_ | refine ixI_new (by omega) (by omega) fun _ _ => ?_ | refine ⟨_, by assumption, ?_⟩); conv => whnf) | (refine Or.inl ?_; (conv => whnf); (repeat (refine aI ?_; conv => whnf)); refine ⟨_, hlike, rfl, ?_⟩; conv => whnf) | (refine Or.inl ?_; (conv => whnf); (repeat (refine aI ?_; conv => whnf)); refine ⟨_, num_at e, rfl, ?_⟩; conv => whnf) | ((first | refine ⟨_, hlike, rfl, ?_⟩ | refine ⟨_, num_at e, rfl, ?_⟩); conv => whnf) | (refine Or.inr (Or.inl ?_); (conv => whnf); (repeat (refine aI ?_; conv => whnf)); refine ⟨_, hlike, ?_⟩; rintro _ _ ⟨rfl, rfl⟩; conv => whnf) | (refine Or.inr (Or.inl ?_); (conv => whnf); (repeat (refine aI ?_; conv => whnf)); refine ⟨_, num_at e, ?_⟩; rintro _ _ ⟨rfl, rfl⟩; conv => whnf) | ((first | refine Alt2.l (aI ?_) | refine Alt2.r (aI ?_)); conv => whnf) | (refine Ok.scope ?_) | ((first | refine Ok.label ?_ | refine rd rfl (by assumption) ?_ | refine ⟨_, .inl ⟨rfl, rfl⟩, ?_⟩ | refine ⟨_, _, rfl, rfl, ?_⟩); conv => whnf) | (refine ⟨fun _ => ?_, fun _ => ?_⟩ <;> (conv => whnf) <;> (try (exfalso; omega))) | ((first | refine aJ ?_ | refine num_any ?_ | refine ⟨_, rfl, ?_⟩); conv => whnf) | fail)
  · refine Or.inl ?_; (conv => whnf)
    rfl
  all_goals exact absurd rfl (by assumption)
def ReadO (b : Int) (s : Str) (d : D) (rows : Vx.Rows) : Prop := rows = [] ∧ ∃ (ks ks2 : List TR) (rm rm2 : List (List D)), d = .tup [.agg [.i .i64 (parO b s).2.1, .lst 112 (ks.map trow) rm], .agg [.i .i64 (parO b s).2.1, .lst 120 (ks2.map drow) rm2], .b True] ∧ ks.map TR.t = (parO b s).2.2 ∧ ks2.map TR.t = (parO b s).2.2
set_option maxHeartbeats 4000000 in
theorem read_at (b : Int) (s : Str) : FSpec Tryz.prog T 17 [.i .i64 b, .s s] (ReadO b s) := by
  have hf := parO_fine b s
  have h1 := parse2_at b s
  have h2 := rparse_at b s
  unfold ReadO
  generalize parO b s = o at *
  obtain ⟨e, n, ts⟩ := o
  dsimp only at hf ⊢
  refine FSpec.of_ok tok Tryz.func17 rfl Tryz.call17 (by simp) ?_
  (try (conv => whnf)); repeat' (first | refine Ok.seq ?_ | refine OkL.cons ?_ | ((first | refine Ok.region tok ?_ | refine Ok.region_plan (id := 3) tok follows [(2, 6, []), (4, 6, []), (0, 7, []), (2, 7, [6]), (4, 7, [6]), (6, 7, []), (0, 8, []), (1, 8, []), (2, 8, [7, 6]), (4, 8, [7, 6]), (6, 8, [7]), (7, 8, [])] [.q 0, .q 1, .q 2, .q 3, .q 4, .q 5, .l 6, .l 7, .l 8, .q 9] (by kernel_rfl) ?_ | refine Ok.region_draw tok follows (by kernel_rfl) ?_ | refine Ok.cond ?_); conv => whnf) | refine Ok.block ?_ | ((first | refine Ok.skip ?_ | refine Ok.exit ?_ | refine Ok.ret ?_ | refine nI ?_ | refine ix _ (by assumption) ?_ | refine ixI (by omega) (by assumption) ?_ | refine ix_new _ (by omega) fun _ _ => ?_ | refine ixI_new (by omega) (by omega) fun _ _ => ?_ | refine ⟨_, by assumption, ?_⟩); conv => whnf) | (refine Or.inl ?_; (conv => whnf); (repeat (refine aI ?_; conv => whnf)); refine ⟨_, same_at hf ks ks2 rm rm2 hks hks2, rfl, ?_⟩; conv => whnf) | (refine ⟨_, same_at hf ks ks2 rm rm2 hks hks2, rfl, ?_⟩; conv => whnf) | (refine Or.inr (Or.inl ?_); (conv => whnf); (repeat (refine aI ?_; conv => whnf)); refine ⟨_, same_at hf ks ks2 rm rm2 hks hks2, ?_⟩; rintro _ _ ⟨rfl, rfl⟩; conv => whnf) | (refine Or.inr (Or.inl ?_); (conv => whnf); (repeat (refine aI ?_; conv => whnf)); refine ⟨_, h1 , ?_⟩; rintro _ _ ⟨rfl, _, rfl, ks, rm, rfl, hks⟩ <;> (conv => whnf)) | (refine Or.inr (Or.inl ?_); (conv => whnf); (repeat (refine aI ?_; conv => whnf)); refine ⟨_, h2 , ?_⟩; rintro _ _ ⟨rfl, _, rfl, ks2, rm2, rfl, hks2⟩ <;> (conv => whnf)) | ((first | refine Alt2.l (aI ?_) | refine Alt2.r (aI ?_)); conv => whnf) | (refine Ok.scope ?_) | ((first | refine Ok.label ?_ | refine rd rfl (by assumption) ?_ | refine ⟨_, .inl ⟨rfl, rfl⟩, ?_⟩ | refine ⟨_, _, rfl, rfl, ?_⟩); conv => whnf) | (refine ⟨fun _ => ?_, fun _ => ?_⟩ <;> (conv => whnf) <;> (try (exfalso; omega))) | ((first | refine aJ ?_ | refine num_any ?_ | refine ⟨_, rfl, ?_⟩); conv => whnf) | fail)
  refine Or.inl ?_; (conv => whnf)
  exact ⟨rfl, ks, ks2, rm, rm2, rfl, hks, hks2⟩
end Go.Proofs.YtaiondckookpiaaGreatDoor
namespace Go.Proofs.YtaiondckookpiaaGreatDoor
open Go Go.Vx
def bndO (n : Int) (l : List Term) : Int × Int × List Term := if szT l ≤ 128 then (0, n, l) else (3, 0, [])
theorem bndO_le {n : Int} {l : List Term} (h : szT l ≤ 128) : bndO n l = (0, n, l) := if_pos h
theorem DOut.form {n : Int} {l : List Term} {ks : List TR} {rm : List (List D)} (e : ks.map TR.t = formT l) (h : szT (ks.map TR.t) ≤ 128) : DOut (bndO n (formT l)) (.tup [.agg [.i .i64 n, .lst 120 (ks.map drow) rm], .i .i64 0]) [] := by
  rw [bndO_le (by rw [← e]; exact h)]
  exact ⟨rfl, _, rfl, ks, rm, rfl, e⟩
end Go.Proofs.YtaiondckookpiaaGreatDoor
namespace Go.Proofs.YtaiondckookpiaaGreatDoor
open Go Go.Vx
theorem GoodT.len {n : Nat} {t : Term} (h : GoodT n t) : t.p.length = n := h.ok.p
theorem tr_get {ks : List TR} {ts : List Term} {i : Nat} {x : TR} (e : ks.map TR.t = ts) (h : ks[i]? = some x) : ts[i]? = some x.t := by rw [← e, List.getElem?_map, h]; rfl
end Go.Proofs.YtaiondckookpiaaGreatDoor
namespace Go.Proofs.YtaiondckookpiaaGreatDoor
open Go Go.Vx
theorem drop_get {α : Type} {l : List α} {i : Nat} {x : α} (h : l[i]? = some x) : l.drop i = x :: l.drop (i + 1) := by
  obtain ⟨hl, e⟩ := List.getElem?_eq_some_iff.1 h
  rw [List.drop_eq_getElem_cons hl, e]
end Go.Proofs.YtaiondckookpiaaGreatDoor
namespace Go.Proofs.YtaiondckookpiaaGreatDoor
open Go Go.Vx
@[reducible] def w4 (f : Nat → Bool) : List D := [.i .u64 ((wof f 0).toNat : Int), .i .u64 ((wof f 1).toNat : Int), .i .u64 ((wof f 2).toNat : Int), .i .u64 ((wof f 3).toNat : Int)]
set_option maxHeartbeats 4000000 in
theorem at_one (f : Nat → Bool) (i : Nat) (hi : i < 256) : FSpec Tryz.prog T 89 [.ep (w4 f), .i .i64 (i : Int)] (fun d rows => d = .b (f i = true) ∧ rows = []) := by
  refine FSpec.of_ok tok Tryz.func89 rfl Tryz.call89 (by simp) ?_
  obtain ⟨q, r, hqr, hr, hq⟩ := split64 i (by omega)
  have hrem := rem64 hqr hr
  have hquo := quo64 hqr hr (by omega)
  have hrr : ((r : Nat) : Int) = ((r : Nat) : Int) ∧ r < 64 := ⟨rfl, hr⟩
  have hca := at_word (f := f) hqr hr
  rcases hq with rfl | rfl | rfl | rfl
  all_goals
    (try (conv => whnf)); repeat' (first | ((with_reducible_and_instances (first | refine nShr (by assumption) ?_ | refine nShl1' rfl (by assumption) ?_ | refine nAnd ?_ | refine nOr ?_ | refine nXor ?_ | refine nAndNot ?_ | refine nAnd1' rfl ?_)); conv => whnf) | refine Ok.seq ?_ | refine OkL.cons ?_ | ((first | refine Ok.region tok ?_ | refine ⟨_, (hquo.symm).symm, ?_⟩ | refine ⟨_, (hrem.symm).symm, ?_⟩ | refine Ok.region_draw tok follows (by kernel_rfl) ?_ | refine Ok.cond ?_); conv => whnf) | refine Ok.block ?_ | ((first | refine Ok.skip ?_ | refine Ok.exit ?_ | refine Ok.ret ?_ | refine nI ?_ | refine ix _ (by assumption) ?_ | refine ixI (by omega) (by assumption) ?_ | refine ix_new _ (by omega) fun _ _ => ?_ | refine ixI_new (by omega) (by omega) fun _ _ => ?_ | refine ⟨_, by assumption, ?_⟩ | refine Alt2.l (aI ?_) | refine Alt2.r (aI ?_)); conv => whnf) | (refine Ok.scope ?_) | ((first | refine Ok.label ?_ | refine rd rfl (by assumption) ?_ | refine ⟨_, .inl ⟨rfl, rfl⟩, ?_⟩ | refine ⟨_, _, rfl, rfl, ?_⟩); conv => whnf) | (refine ⟨fun _ => ?_, fun _ => ?_⟩ <;> (conv => whnf) <;> (try (exfalso; omega))) | ((first | refine aJ ?_ | refine num_any ?_ | refine ⟨_, rfl, ?_⟩); conv => whnf) | fail)
    refine Or.inl ?_; (conv => whnf)
    exact ⟨congrArg D.b (propext hca), rfl⟩
set_option maxHeartbeats 4000000 in
theorem at_two (f g : Nat → Bool) (i : Nat) (hi : i < 256) : FSpec Tryz.prog T 89 [.ep (w4 f ++ w4 g), .i .i64 (i : Int)] (fun d rows => d = .b (f i = true) ∧ rows = []) := by
  refine FSpec.of_ok tok Tryz.func89 rfl Tryz.call89 (by simp) ?_
  obtain ⟨q, r, hqr, hr, hq⟩ := split64 i (by omega)
  have hrem := rem64 hqr hr
  have hquo := quo64 hqr hr (by omega)
  have hrr : ((r : Nat) : Int) = ((r : Nat) : Int) ∧ r < 64 := ⟨rfl, hr⟩
  have hca := at_word (f := f) hqr hr
  rcases hq with rfl | rfl | rfl | rfl
  all_goals
    (try (conv => whnf)); repeat' (first | ((with_reducible_and_instances (first | refine nShr (by assumption) ?_ | refine nShl1' rfl (by assumption) ?_ | refine nAnd ?_ | refine nOr ?_ | refine nXor ?_ | refine nAndNot ?_ | refine nAnd1' rfl ?_)); conv => whnf) | refine Ok.seq ?_ | refine OkL.cons ?_ | ((first | refine Ok.region tok ?_ | refine ⟨_, (hquo.symm).symm, ?_⟩ | refine ⟨_, (hrem.symm).symm, ?_⟩ | refine Ok.region_draw tok follows (by kernel_rfl) ?_ | refine Ok.cond ?_); conv => whnf) | refine Ok.block ?_ | ((first | refine Ok.skip ?_ | refine Ok.exit ?_ | refine Ok.ret ?_ | refine nI ?_ | refine ix _ (by assumption) ?_ | refine ixI (by omega) (by assumption) ?_ | refine ix_new _ (by omega) fun _ _ => ?_ | refine ixI_new (by omega) (by omega) fun _ _ => ?_ | refine ⟨_, by assumption, ?_⟩ | refine Alt2.l (aI ?_) | refine Alt2.r (aI ?_)); conv => whnf) | (refine Ok.scope ?_) | ((first | refine Ok.label ?_ | refine rd rfl (by assumption) ?_ | refine ⟨_, .inl ⟨rfl, rfl⟩, ?_⟩ | refine ⟨_, _, rfl, rfl, ?_⟩); conv => whnf) | (refine ⟨fun _ => ?_, fun _ => ?_⟩ <;> (conv => whnf) <;> (try (exfalso; omega))) | ((first | refine aJ ?_ | refine num_any ?_ | refine ⟨_, rfl, ?_⟩); conv => whnf) | fail)
    refine Or.inl ?_; (conv => whnf)
    exact ⟨congrArg D.b (propext hca), rfl⟩
theorem ints_crow (c : Str) : ∀ d ∈ crow c, ∃ k n, d = .i k n := by
  intro d hd
  simp only [List.mem_cons, List.not_mem_nil, or_false] at hd
  rcases hd with rfl | rfl | rfl | rfl | rfl | rfl | rfl | rfl | rfl <;> exact ⟨_, _, rfl⟩
theorem pk2 {box : List (List D)} {a b x y : D} (h1 : Pk box a x) (h2 : Pk box b y) : ∀ (j : Nat) d e, [a, b][j]? = some d → [x, y][j]? = some e → Pk box d e := by
  intro j d e hd he
  match j, hd, he with
  | 0, hd, he => cases hd; cases he; exact h1
  | 1, hd, he => cases hd; cases he; exact h2
  | j + 2, hd, _ => simp at hd
end Go.Proofs.YtaiondckookpiaaGreatDoor
namespace Go.Proofs.YtaiondckookpiaaGreatDoor
open Go Go.Vx
def ov1 (a b : UInt8) : UInt8 := if a = 120 then b else a
def curL (c d : Str) (i : Nat) : Str := List.zipWith ov1 (c.take i) (d.take i) ++ c.drop i
def pcT (c d : Str) (j : Nat) : Option Str :=
  match c[j]?, d[j]? with
  | some a, some b => if a = 120 ∧ b ≠ 120 then some ((curL c d j).set j (97 - b)) else none
  | _, _ => none
def pcsT (c d : Str) (i : Nat) : List Str := (List.range i).filterMap (pcT c d)
def splitT (c d : Str) : List Str := if (meetT c d).isSome then pcsT c d c.length else [c]
theorem pcsT_some {c d : Str} {i : Nat} {x : Str} (h : pcT c d i = some x) : pcsT c d (i + 1) = pcsT c d i ++ [x] := by
  unfold pcsT; rw [List.range_succ, List.filterMap_append]; simp [h]
theorem pcsT_none {c d : Str} {i : Nat} (h : pcT c d i = none) : pcsT c d (i + 1) = pcsT c d i := by
  unfold pcsT; rw [List.range_succ, List.filterMap_append]; simp [h]
theorem pcT_at {c d : Str} {j : Nat} {a b : UInt8} (ha : c[j]? = some a) (hb : d[j]? = some b) : pcT c d j = if a = 120 ∧ b ≠ 120 then some ((curL c d j).set j (97 - b)) else none := by
  unfold pcT; rw [ha, hb]
theorem curL_len {c d : Str} (hl : d.length = c.length) (i : Nat) : (curL c d i).length = c.length := by simp [curL]; omega
theorem curL_at {c d : Str} {i : Nat} {a : UInt8} (ha : c[i]? = some a) (hd : i < d.length) : (curL c d i)[i]? = some a := by
  have hi : i < c.length := (List.getElem?_eq_some_iff.1 ha).1
  have hl : (List.zipWith ov1 (c.take i) (d.take i)).length = i := by simp; omega
  unfold curL
  rw [List.getElem?_append_right (by omega), hl, Nat.sub_self, List.getElem?_drop]
  exact ha
theorem curL_succ {c d : Str} {i : Nat} {a b : UInt8} (ha : c[i]? = some a) (hb : d[i]? = some b) : curL c d (i + 1) = (curL c d i).set i (ov1 a b) := by
  have hi : i < c.length := (List.getElem?_eq_some_iff.1 ha).1
  have hi2 : i < d.length := (List.getElem?_eq_some_iff.1 hb).1
  have hl : (List.zipWith ov1 (c.take i) (d.take i)).length = i := by simp; omega
  unfold curL
  rw [List.set_append, if_neg (by omega), hl, Nat.sub_self, List.drop_eq_getElem_cons hi, List.set_cons_zero, take_snoc ha, take_snoc hb]
  rw [List.zipWith_append (by simp; omega)]
  simp
theorem curL_zero (c d : Str) : curL c d 0 = c := by simp [curL]
theorem set_self {l : Str} {i : Nat} {a : UInt8} (h : l[i]? = some a) : l.set i a = l := by
  have hi := (List.getElem?_eq_some_iff.1 h).1
  apply List.ext_getElem?
  intro k
  by_cases hk : k = i
  · subst hk; rw [List.getElem?_set_self hi, h]
  · rw [List.getElem?_set_ne (Ne.symm hk)]
theorem curL_same {c d : Str} {i : Nat} {a b : UInt8} (ha : c[i]? = some a) (hb : d[i]? = some b) (h : ¬ (a = 120 ∧ b ≠ 120)) : curL c d (i + 1) = curL c d i := by
  rw [curL_succ ha hb, show ov1 a b = a by
    unfold ov1
    split
    · rename_i he
      by_cases hb2 : b = 120
      · rw [hb2, he]
      · exact absurd ⟨he, hb2⟩ h
    · rfl]
  exact set_self (curL_at ha (List.getElem?_eq_some_iff.1 hb).1)
theorem ct_set {l : Str} {i : Nat} {b : UInt8} (h : CT l) (hb : b = 48 ∨ b = 49 ∨ b = 120) : CT (l.set i b) := by
  refine ⟨by rw [List.length_set]; exact h.len, fun x hx => ?_⟩
  rcases List.mem_or_eq_of_mem_set hx with hx | rfl
  · exact h.cub x hx
  · exact hb
theorem ov1_cub {a b : UInt8} (ha : a = 48 ∨ a = 49 ∨ a = 120) (hb : b = 48 ∨ b = 49 ∨ b = 120) : ov1 a b = 48 ∨ ov1 a b = 49 ∨ ov1 a b = 120 := by
  unfold ov1; split
  · exact hb
  · exact ha
theorem curL_ct {c d : Str} (hc : CT c) (hd : CT d) (hl : d.length = c.length) (i : Nat) : CT (curL c d i) := by
  induction i with
  | zero => rw [curL_zero]; exact hc
  | succ i ih =>
    by_cases hi : i < c.length
    · have ha := List.getElem?_eq_getElem hi
      have hb := List.getElem?_eq_getElem (show i < d.length by omega)
      rw [curL_succ ha hb]
      exact ct_set ih (ov1_cub (hc.cub _ (List.mem_of_getElem? ha)) (hd.cub _ (List.mem_of_getElem? hb)))
    · rw [show curL c d (i + 1) = curL c d i by
        unfold curL
        rw [List.take_of_length_le (show c.length ≤ i + 1 by omega), List.take_of_length_le (show d.length ≤ i + 1 by omega), List.take_of_length_le (show c.length ≤ i by omega), List.take_of_length_le (show d.length ≤ i by omega), List.drop_of_length_le (show c.length ≤ i + 1 by omega), List.drop_of_length_le (show c.length ≤ i by omega)]]
      exact ih
theorem opp_cub {b : UInt8} (hb : b = 48 ∨ b = 49 ∨ b = 120) (h : b ≠ 120) : 97 - b = 48 ∨ 97 - b = 49 ∨ 97 - b = 120 := by
  rcases hb with rfl | rfl | rfl
  · right; left; rfl
  · left; rfl
  · exact absurd rfl h
theorem pcsT_cn {c d : Str} (hc : CN c) (hd : CT d) (hl : d.length = c.length) (i : Nat) : ∀ x ∈ pcsT c d i, CN x ∧ x.length = c.length := by
  intro x hx
  obtain ⟨j, _, hj⟩ := List.mem_filterMap.1 hx
  unfold pcT at hj
  split at hj
  · rename_i a b ha hb
    split at hj
    · rename_i hab
      cases hj
      have h1 := curL_len hl j
      refine ⟨⟨ct_set (curL_ct hc.1 hd hl j) (opp_cub (hd.cub _ (List.mem_of_getElem? hb)) hab.2), fun e => hc.2 ?_⟩, by rw [List.length_set]; exact h1⟩
      have := congrArg List.length e
      rw [List.length_set, h1] at this
      exact List.eq_nil_of_length_eq_zero (by simpa using this)
    · cases hj
  · cases hj
theorem splitT_cn {c d : Str} (hc : CN c) (hd : CT d) : ∀ x ∈ splitT c d, CN x ∧ x.length = c.length := by
  intro x hx
  unfold splitT at hx
  split at hx
  · rename_i h
    obtain ⟨m, hm⟩ := Option.isSome_iff_exists.1 h
    rw [meetT_eq hc.2] at hm
    have := meetL_len hm
    exact pcsT_cn hc hd (by omega) _ x hx
  · simp at hx; subst hx; exact ⟨hc, rfl⟩
theorem pcsT_len (c d : Str) (i : Nat) : (pcsT c d i).length ≤ i := by
  have := List.length_filterMap_le (pcT c d) (List.range i)
  simpa [pcsT] using this
theorem splitT_len {c d : Str} (hc : c.length ≤ 256) : (splitT c d).length ≤ 256 := by
  unfold splitT
  split
  · exact Nat.le_trans (pcsT_len _ _ _) hc
  · simp
end Go.Proofs.YtaiondckookpiaaGreatDoor
namespace Go.Proofs.YtaiondckookpiaaGreatDoor
open Go Go.Vx
set_option maxHeartbeats 4000000 in
theorem rsplit_at (c d : Str) (hc : CN c) (hd : CT d) : FSpec Tryz.prog T 88 [.s c, .s d] (fun r rows => ∃ rm, r = .lst 9 ((splitT c d).map srow) rm ∧ rows = []) := by
  have hcl := hc.1.len
  have hm := rmeet_at c d (by omega)
  refine FSpec.of_ok tok Tryz.func88 rfl Tryz.call88 (by simp) ?_
  by_cases hs : (meetT c d).isSome = true
  · have hl : d.length = c.length := by
      obtain ⟨m, hm⟩ := Option.isSome_iff_exists.1 hs
      rw [meetT_eq hc.2] at hm
      have := meetL_len hm
      omega
    (try (conv => whnf)); repeat' (first | refine Ok.seq ?_ | refine OkL.cons ?_ | ((first | refine Ok.region tok ?_ | refine Ok.region_draw tok follows (by kernel_rfl) ?_ | refine Ok.cond ?_); conv => whnf) | refine Ok.block ?_ | ((first | refine Ok.skip ?_ | refine Ok.exit ?_ | refine Ok.ret ?_ | refine nI ?_ | refine ix _ (by assumption) ?_ | refine ixI (by omega) (by assumption) ?_ | refine ix_new _ (by omega) fun _ _ => ?_ | refine ixI_new (by omega) (by omega) fun _ _ => ?_ | refine ⟨_, by assumption, ?_⟩); conv => whnf) | (refine Or.inr (Or.inl ?_); (conv => whnf); (repeat (refine aI ?_; conv => whnf)); refine ⟨_, hm, ?_⟩; rintro _ _ ⟨rfl, rfl⟩ <;> (conv => whnf)) | ((first | refine Alt2.l (aI ?_) | refine Alt2.r (aI ?_)); conv => whnf) | (refine Ok.scope ?_) | ((first | refine Ok.label ?_ | refine rd rfl (by assumption) ?_ | refine ⟨_, .inl ⟨rfl, rfl⟩, ?_⟩ | refine ⟨_, _, rfl, rfl, ?_⟩); conv => whnf) | (refine ⟨fun _ => ?_, fun _ => ?_⟩ <;> (conv => whnf) <;> (try (exfalso; omega))) | ((first | refine aJ ?_ | refine num_any ?_ | refine ⟨_, rfl, ?_⟩); conv => whnf) | fail)
    · exact absurd hs (by assumption)
    refine Ok.ghost 5 9 rfl ?_
    (conv => whnf)
    rw [show c.map bcell = (curL c d 0).map bcell by rw [curL_zero]]
    refine Ok.loopU [0, 1, 8] [5, 9] 2 0 (fun (i : Nat) => [.own 1 (pcsT c d i).length, .i .i64 (i : Nat)]) (fun _ b => b) (fun (i : Nat) (_ : Vx.Rows) => [some (Nat.add 5 BIG, (curL c d i).map bcell), some (9, (pcsT c d i).map srow)]) (fun (i : Nat) => i ≤ c.length) (fun (i : Nat) => c.length - i) (0) (Nat.zero_le _) ?_; (conv => whnf); refine ⟨by ((conv => whnf); first | rfl | (simp [envCat, List.take_of_length_le, bcell, srow]; done) | (simp [envCat, List.take_of_length_le, bcell, srow]; rw [IntKind.wrap_i64]; omega)), ?_⟩
    rintro i hi
    have hcu := curL_len hl i
    have hcm : ((curL c d i).map bcell).length = c.length := by rw [List.length_map, hcu]
    have hpl := pcsT_len c d i
    have hpm : ((pcsT c d i).map srow).length = (pcsT c d i).length := by simp
    (conv => whnf)
    by_cases hil : i < c.length
    · obtain ⟨a, ha⟩ : ∃ a, c[i]? = some a := ⟨_, List.getElem?_eq_getElem hil⟩
      obtain ⟨b, hb⟩ : ∃ b, d[i]? = some b := ⟨_, List.getElem?_eq_getElem (by omega)⟩
      have haI : c[((i : Nat) : Int).toNat]? = some a := ha
      have hbI : d[((i : Nat) : Int).toNat]? = some b := hb
      have hz := curL_at ha (show i < d.length by omega)
      have hbc := hd.cub b (List.mem_of_getElem? hb)
      have hpc := pcT_at ha hb
      have hsu := curL_succ ha hb
      by_cases hab : a = 120 ∧ b ≠ 120
      · obtain ⟨rfl, hb2⟩ := hab
        have hn : (((120 : UInt8).toNat : Nat) : Int) = 120 := rfl
        rw [if_pos ⟨rfl, hb2⟩] at hpc
        have hsn := pcsT_some hpc
        rw [show ov1 120 b = b from rfl] at hsu
        have hb3 := u8_ne hb2
        rw [hn] at hb3
        have hop : ∃ o : UInt8, o = 97 - b ∧ IntKind.u8.wrap (97 - ((b.toNat : Nat) : Int)) = ((o.toNat : Nat) : Int) := by
          rcases hbc with rfl | rfl | rfl
          · exact ⟨49, rfl, rfl⟩
          · exact ⟨48, rfl, rfl⟩
          · exact absurd rfl hb2
        obtain ⟨o, ho, how⟩ := hop
        rw [← ho] at hsn hpc
        generalize hL : curL c d i = L at *
        generalize hQ : pcsT c d i = Q at *
        (try (conv => whnf)); repeat' (first | refine Ok.seq ?_ | refine OkL.cons ?_ | ((first | refine Ok.region tok ?_ | refine ⟨_, (how).symm, ?_⟩ | refine Ok.region_draw tok follows (by kernel_rfl) ?_ | refine Ok.cond ?_); conv => whnf) | refine Ok.block ?_ | ((first | refine Ok.skip ?_ | refine Ok.exit ?_ | refine Ok.ret ?_ | refine nI ?_ | refine ix _ (by assumption) ?_ | refine ixI (by omega) (by assumption) ?_ | refine ix_new _ (by omega) fun _ _ => ?_ | refine ixI_new (by omega) (by omega) fun _ _ => ?_ | refine ⟨_, by assumption, ?_⟩ | refine Alt2.l (aI ?_) | refine Alt2.r (aI ?_)); conv => whnf) | (refine Ok.scope ?_) | ((first | refine Ok.label ?_ | refine rd rfl (by assumption) ?_ | refine ⟨_, .inl ⟨rfl, rfl⟩, ?_⟩ | refine ⟨_, _, rfl, rfl, ?_⟩); conv => whnf) | (refine ⟨fun _ => ?_, fun _ => ?_⟩ <;> (conv => whnf) <;> (try (exfalso; omega))) | ((first | refine aJ ?_ | refine num_any ?_ | refine ⟨_, rfl, ?_⟩); conv => whnf) | fail)
        refine st o hz (by simp [bcell]) (by simp [setCells, bcell]) ?_
        rw [toNat_cast]
        have hso : ((L.set i o).map bcell).length = c.length := by simp [hcu]
        have hso2 : (L.set i o)[i]? = some o := List.getElem?_set_self (by omega)
        have hss : (L.set i o).set i b = L.set i b := by rw [List.set_set]
        (try (conv => whnf)); repeat' (first | refine Ok.seq ?_ | refine OkL.cons ?_ | ((first | refine Ok.region tok ?_ | refine Ok.region_draw tok follows (by kernel_rfl) ?_ | refine Ok.cond ?_); conv => whnf) | refine Ok.block ?_ | ((first | refine Ok.skip ?_ | refine Ok.exit ?_ | refine Ok.ret ?_ | refine nI ?_ | refine ix _ (by assumption) ?_ | refine ixI (by omega) (by assumption) ?_ | refine ix_new _ (by omega) fun _ _ => ?_ | refine ixI_new (by omega) (by omega) fun _ _ => ?_ | refine ⟨_, by assumption, ?_⟩ | refine Alt2.l (aI ?_) | refine Alt2.r (aI ?_)); conv => whnf) | (refine Ok.scope ?_) | ((first | refine Ok.label ?_ | refine rd rfl (by assumption) ?_ | refine ⟨_, .inl ⟨rfl, rfl⟩, ?_⟩ | refine ⟨_, _, rfl, rfl, ?_⟩); conv => whnf) | (refine ⟨fun _ => ?_, fun _ => ?_⟩ <;> (conv => whnf) <;> (try (exfalso; omega))) | ((first | refine aJ ?_ | refine num_any ?_ | refine ⟨_, rfl, ?_⟩); conv => whnf) | fail)
        refine ⟨L.set i o, by rw [← hcu, ← List.length_set (i := i) (a := o)]; exact take_all bcell _, ?_⟩
        (try (conv => whnf)); repeat' (first | refine Ok.seq ?_ | refine OkL.cons ?_ | ((first | refine Ok.region tok ?_ | refine Ok.region_draw tok follows (by kernel_rfl) ?_ | refine Ok.cond ?_); conv => whnf) | refine Ok.block ?_ | ((first | refine Ok.skip ?_ | refine Ok.exit ?_ | refine Ok.ret ?_ | refine nI ?_ | refine ix _ (by assumption) ?_ | refine ixI (by omega) (by assumption) ?_ | refine ix_new _ (by omega) fun _ _ => ?_ | refine ixI_new (by omega) (by omega) fun _ _ => ?_ | refine ⟨_, by assumption, ?_⟩ | refine Alt2.l (aI ?_) | refine Alt2.r (aI ?_)); conv => whnf) | (refine Ok.scope ?_) | ((first | refine Ok.label ?_ | refine rd rfl (by assumption) ?_ | refine ⟨_, .inl ⟨rfl, rfl⟩, ?_⟩ | refine ⟨_, _, rfl, rfl, ?_⟩); conv => whnf) | (refine ⟨fun _ => ?_, fun _ => ?_⟩ <;> (conv => whnf) <;> (try (exfalso; omega))) | ((first | refine aJ ?_ | refine num_any ?_ | refine ⟨_, rfl, ?_⟩); conv => whnf) | fail)
        refine st b hso2 (by simp [bcell]) (by simp [setCells, bcell]) ?_
        rw [toNat_cast, hss, ← hsu]
        (try (conv => whnf)); repeat' (first | refine Ok.seq ?_ | refine OkL.cons ?_ | ((first | refine Ok.region tok ?_ | refine Ok.region_draw tok follows (by kernel_rfl) ?_ | refine Ok.cond ?_); conv => whnf) | refine Ok.block ?_ | ((first | refine Ok.skip ?_ | refine Ok.exit ?_ | refine Ok.ret ?_ | refine nI ?_ | refine ix _ (by assumption) ?_ | refine ixI (by omega) (by assumption) ?_ | refine ix_new _ (by omega) fun _ _ => ?_ | refine ixI_new (by omega) (by omega) fun _ _ => ?_ | refine ⟨_, by assumption, ?_⟩ | refine Alt2.l (aI ?_) | refine Alt2.r (aI ?_)); conv => whnf) | (refine Ok.scope ?_) | ((first | refine Ok.label ?_ | refine rd rfl (by assumption) ?_ | refine ⟨_, .inl ⟨rfl, rfl⟩, ?_⟩ | refine ⟨_, _, rfl, rfl, ?_⟩); conv => whnf) | (refine ⟨fun _ => ?_, fun _ => ?_⟩ <;> (conv => whnf) <;> (try (exfalso; omega))) | ((first | refine aJ ?_ | refine num_any ?_ | refine ⟨_, rfl, ?_⟩); conv => whnf) | fail)
        refine ⟨i + 1, by omega, by omega, ?_⟩
        rw [hsn]
        (conv => whnf)
        simp [envCat]
      · rw [if_neg hab] at hpc
        have hsn := pcsT_none hpc
        have hsm := curL_same ha hb hab
        have hab2 : ((a.toNat : Nat) : Int) = 120 → ((b.toNat : Nat) : Int) = 120 := fun h => Classical.byContradiction fun h2 => hab ⟨UInt8.toNat_inj.1 (by have hn : (((120 : UInt8).toNat : Nat) : Int) = 120 := rfl; omega), fun e => h2 (by rw [e]; rfl)⟩
        have hn : (((120 : UInt8).toNat : Nat) : Int) = 120 := rfl
        generalize hL : curL c d i = L at *
        generalize hQ : pcsT c d i = Q at *
        (try (conv => whnf)); repeat' (first | refine Ok.seq ?_ | refine OkL.cons ?_ | ((first | refine Ok.region tok ?_ | refine Ok.region_draw tok follows (by kernel_rfl) ?_ | refine Ok.cond ?_); conv => whnf) | refine Ok.block ?_ | ((first | refine Ok.skip ?_ | refine Ok.exit ?_ | refine Ok.ret ?_ | refine nI ?_ | refine ix _ (by assumption) ?_ | refine ixI (by omega) (by assumption) ?_ | refine ix_new _ (by omega) fun _ _ => ?_ | refine ixI_new (by omega) (by omega) fun _ _ => ?_ | refine ⟨_, by assumption, ?_⟩ | refine Alt2.l (aI ?_) | refine Alt2.r (aI ?_)); conv => whnf) | (refine Ok.scope ?_) | ((first | refine Ok.label ?_ | refine rd rfl (by assumption) ?_ | refine ⟨_, .inl ⟨rfl, rfl⟩, ?_⟩ | refine ⟨_, _, rfl, rfl, ?_⟩); conv => whnf) | (refine ⟨fun _ => ?_, fun _ => ?_⟩ <;> (conv => whnf) <;> (try (exfalso; omega))) | ((first | refine aJ ?_ | refine num_any ?_ | refine ⟨_, rfl, ?_⟩); conv => whnf) | fail)
        all_goals first
          | (exfalso; omega)
          | (refine ⟨i + 1, by omega, by omega, ?_⟩
             rw [hsm, hsn]
             (conv => whnf)
             rfl)
    · have hie : i = c.length := by omega
      subst hie
      have hsp : splitT c d = pcsT c d c.length := if_pos hs
      rw [hsp]
      (try (conv => whnf)); repeat' (first | refine Ok.seq ?_ | refine OkL.cons ?_ | ((first | refine Ok.region tok ?_ | refine Ok.region_draw tok follows (by kernel_rfl) ?_ | refine Ok.cond ?_); conv => whnf) | refine Ok.block ?_ | ((first | refine Ok.skip ?_ | refine Ok.exit ?_ | refine Ok.ret ?_ | refine nI ?_ | refine ix _ (by assumption) ?_ | refine ixI (by omega) (by assumption) ?_ | refine ix_new _ (by omega) fun _ _ => ?_ | refine ixI_new (by omega) (by omega) fun _ _ => ?_ | refine ⟨_, by assumption, ?_⟩ | refine Alt2.l (aI ?_) | refine Alt2.r (aI ?_)); conv => whnf) | (refine Ok.scope ?_) | ((first | refine Ok.label ?_ | refine rd rfl (by assumption) ?_ | refine ⟨_, .inl ⟨rfl, rfl⟩, ?_⟩ | refine ⟨_, _, rfl, rfl, ?_⟩); conv => whnf) | (refine ⟨fun _ => ?_, fun _ => ?_⟩ <;> (conv => whnf) <;> (try (exfalso; omega))) | ((first | refine aJ ?_ | refine num_any ?_ | refine ⟨_, rfl, ?_⟩); conv => whnf) | fail)
      refine Or.inl ?_; (conv => whnf)
      refine ⟨[], ?_, rfl⟩
      rw [List.take_of_length_le (by simp), List.drop_of_length_le (by simp)]
      rfl
  · have hn : splitT c d = [c] := by unfold splitT; rw [if_neg hs]
    rw [hn]
    (try (conv => whnf)); repeat' (first | refine Ok.seq ?_ | refine OkL.cons ?_ | ((first | refine Ok.region tok ?_ | refine Ok.region_draw tok follows (by kernel_rfl) ?_ | refine Ok.cond ?_); conv => whnf) | refine Ok.block ?_ | ((first | refine Ok.skip ?_ | refine Ok.exit ?_ | refine Ok.ret ?_ | refine nI ?_ | refine ix _ (by assumption) ?_ | refine ixI (by omega) (by assumption) ?_ | refine ix_new _ (by omega) fun _ _ => ?_ | refine ixI_new (by omega) (by omega) fun _ _ => ?_ | refine ⟨_, by assumption, ?_⟩); conv => whnf) | (refine Or.inr (Or.inl ?_); (conv => whnf); (repeat (refine aI ?_; conv => whnf)); refine ⟨_, hm, ?_⟩; rintro _ _ ⟨rfl, rfl⟩ <;> (conv => whnf)) | ((first | refine Alt2.l (aI ?_) | refine Alt2.r (aI ?_)); conv => whnf) | (refine Ok.scope ?_) | ((first | refine Ok.label ?_ | refine rd rfl (by assumption) ?_ | refine ⟨_, .inl ⟨rfl, rfl⟩, ?_⟩ | refine ⟨_, _, rfl, rfl, ?_⟩); conv => whnf) | (refine ⟨fun _ => ?_, fun _ => ?_⟩ <;> (conv => whnf) <;> (try (exfalso; omega))) | ((first | refine aJ ?_ | refine num_any ?_ | refine ⟨_, rfl, ?_⟩); conv => whnf) | fail)
    · refine Or.inl ?_; (conv => whnf)
      exact ⟨_, rfl, rfl⟩
    · rename_i h
      exact absurd (Classical.not_not.1 h) hs
end Go.Proofs.YtaiondckookpiaaGreatDoor
namespace Go.Proofs.YtaiondckookpiaaGreatDoor
open Go Go.Vx
theorem car_set {l : Str} {i : Nat} {b : UInt8} (h : l[i]? = some 120) (hb : dig b = true) (j : Nat) : car (l.set i b) j = (car l j || decide (j = i)) := by
  have hi := (List.getElem?_eq_some_iff.1 h).1
  by_cases hj : j = i
  · subst hj
    have h2 : (l.set j b)[j]? = some b := List.getElem?_set_self hi
    rw [(at_b h2).1, hb]
    simp
  · have : (l.set i b)[j]? = l[j]? := List.getElem?_set_ne (Ne.symm hj)
    simp only [car, this, hj, decide_false, Bool.or_false]
theorem one_set {l : Str} {i : Nat} (h : l[i]? = some 120) (j : Nat) : one (l.set i 49) j = (one l j || decide (j = i)) := by
  have hi := (List.getElem?_eq_some_iff.1 h).1
  by_cases hj : j = i
  · subst hj
    have h2 : (l.set j 49)[j]? = some 49 := List.getElem?_set_self hi
    rw [(at_b h2).2]
    simp
  · have : (l.set i 49)[j]? = l[j]? := List.getElem?_set_ne (Ne.symm hj)
    simp only [one, this, hj, decide_false, Bool.or_false]
theorem one_set0 {l : Str} {i : Nat} (h : l[i]? = some 120) (j : Nat) : one (l.set i 48) j = one l j := by
  have hi := (List.getElem?_eq_some_iff.1 h).1
  by_cases hj : j = i
  · subst hj
    have h2 : (l.set j 48)[j]? = some 48 := List.getElem?_set_self hi
    rw [(at_b h2).2, (at_b h).2]
    rfl
  · have : (l.set i 48)[j]? = l[j]? := List.getElem?_set_ne (Ne.symm hj)
    simp only [one, this]
set_option maxHeartbeats 8000000 in
theorem split_at (c d : Str) (hc : CN c) (hd : CT d) : FSpec Tryz.prog T 125 [.agg (crow c), .agg (crow d)] (fun r rows => ∃ rm, r = .lst 46 ((splitT c d).map crow) rm ∧ rows = []) := by
  have hcl := hc.1.len
  have hm := meet_at c d hc.1 hd
  refine FSpec.of_ok tok Tryz.func125 rfl Tryz.call125 (by simp) ?_
  by_cases hs : (meetT c d).isSome = true
  · have hl : d.length = c.length := by
      obtain ⟨m, hm⟩ := Option.isSome_iff_exists.1 hs
      rw [meetT_eq hc.2] at hm
      have := meetL_len hm
      omega
    (try (conv => whnf)); repeat' (first | ((with_reducible_and_instances (first | refine nShr (by assumption) ?_ | refine nShl1' rfl (by assumption) ?_ | refine nAnd ?_ | refine nOr ?_ | refine nXor ?_ | refine nAndNot ?_ | refine nAnd1' rfl ?_)); conv => whnf) | refine Ok.seq ?_ | refine OkL.cons ?_ | ((first | refine Ok.region tok ?_ | refine Ok.region_draw tok follows (by kernel_rfl) ?_ | refine Ok.cond ?_); conv => whnf) | refine Ok.block ?_ | ((first | refine Ok.skip ?_ | refine Ok.exit ?_ | refine Ok.ret ?_ | refine nI ?_ | refine ix _ (by assumption) ?_ | refine ixI (by omega) (by assumption) ?_ | refine ix_new _ (by omega) fun _ _ => ?_ | refine ixI_new (by omega) (by omega) fun _ _ => ?_ | refine ⟨_, by assumption, ?_⟩); conv => whnf) | (refine Or.inr (Or.inl ?_); (conv => whnf); (repeat (refine aI ?_; conv => whnf)); refine ⟨_, hm, ?_⟩; rintro _ _ ⟨rfl, rfl⟩ <;> (conv => whnf)) | ((first | refine Alt2.l (aI ?_) | refine Alt2.r (aI ?_)); conv => whnf) | (refine Ok.scope ?_) | ((first | refine Ok.label ?_ | refine rd rfl (by assumption) ?_ | refine ⟨_, .inl ⟨rfl, rfl⟩, ?_⟩ | refine ⟨_, _, rfl, rfl, ?_⟩); conv => whnf) | (refine ⟨fun _ => ?_, fun _ => ?_⟩ <;> (conv => whnf) <;> (try (exfalso; omega))) | ((first | refine aJ ?_ | refine num_any ?_ | refine ⟨_, rfl, ?_⟩); conv => whnf) | fail)
    · exact absurd hs (by assumption)
    refine Ok.ghost 7 46 rfl ?_
    (conv => whnf)
    have e0 : crow c = crow (curL c d 0) := by rw [curL_zero]
    have hll : ((List.length c : Nat) : Int) = ((List.length (curL c d 0) : Nat) : Int) := by rw [curL_zero]
    refine Ok.loopU [2, 3, 21] [7, 22] 1 3 (fun (i : Nat) => [.own 0 (pcsT c d i).length, .i .i64 (i : Nat)]) (fun (i : Nat) (_ : List (List D)) => [crow (curL c d i), crow d, crow ((meetT c d).getD [])]) (fun (i : Nat) (_ : Vx.Rows) => [some (46, (pcsT c d i).map crow)]) (fun (i : Nat) => i ≤ c.length) (fun (i : Nat) => c.length - i) (0) (Nat.zero_le _) ?_; (conv => whnf); refine ⟨by ((conv => whnf); first | rfl | (simp [envCat, List.take_of_length_le, cells9, crow]; done) | (simp [envCat, List.take_of_length_le, cells9, crow]; rw [IntKind.wrap_i64]; omega)), ?_⟩
    rintro i hi
    have hcu := curL_len hl i
    have hct := curL_ct hc.1 hd hl i
    have hpl := pcsT_len c d i
    have hpm : ((pcsT c d i).map crow).length = (pcsT c d i).length := by simp
    (conv => whnf)
    by_cases hil : i < c.length
    · obtain ⟨a, ha⟩ : ∃ a, c[i]? = some a := ⟨_, List.getElem?_eq_getElem hil⟩
      obtain ⟨b, hb⟩ : ∃ b, d[i]? = some b := ⟨_, List.getElem?_eq_getElem (by omega)⟩
      have hz := curL_at ha (show i < d.length by omega)
      have hac := hc.1.cub a (List.mem_of_getElem? ha)
      have hbc := hd.cub b (List.mem_of_getElem? hb)
      have hpc := pcT_at ha hb
      have hsu := curL_succ ha hb
      have hsm := fun h => curL_same ha hb h
      generalize hL : curL c d i = L at *
      generalize hQ : pcsT c d i = Q at *
      have s1 := at_two (car L) (one L) i (by omega)
      have s2 := at_two (car d) (one d) i (by omega)
      have s3 := at_one (one d) i (by omega)
      rw [(at_b hz).1] at s1
      rw [(at_b hb).1] at s2
      rw [(at_b hb).2] at s3
      obtain ⟨q, r, hqr, hr, hq⟩ := split64 i (by omega)
      have hrem := rem64 hqr hr
      have hquo := quo64 hqr hr (by omega)
      have hrr : ((r : Nat) : Int) = ((r : Nat) : Int) ∧ r < 64 := ⟨rfl, hr⟩
      by_cases hab : a = 120 ∧ b ≠ 120
      · obtain ⟨rfl, hb2⟩ := hab
        rw [if_pos ⟨rfl, hb2⟩] at hpc
        have hsn := pcsT_some hpc
        rw [hQ] at hsn
        rw [show ov1 120 b = b from rfl] at hsu
        rcases hbc with rfl | rfl | rfl
        · rw [show (97 : UInt8) - 48 = 49 from rfl] at hsn
          have k := put_word (f := car L) (g := car (L.set i 48)) hqr hr (car_set hz rfl)
          have k' := put_word (f := car L) (g := car (L.set i 49)) hqr hr (car_set hz rfl)
          have o := fun k => wof_ext (f := one (L.set i 48)) (g := one L) (k := k) fun j _ => one_set0 hz _
          have o' := put_word (f := one L) (g := one (L.set i 49)) hqr hr (one_set hz)
          rcases hq with rfl | rfl | rfl | rfl
          all_goals
            (try (conv => whnf)); repeat' (first | ((with_reducible_and_instances (first | refine nShr (by assumption) ?_ | refine nShl1' rfl (by assumption) ?_ | refine nAnd ?_ | refine nOr ?_ | refine nXor ?_ | refine nAndNot ?_ | refine nAnd1' rfl ?_)); conv => whnf) | refine Ok.seq ?_ | refine OkL.cons ?_ | ((first | refine Ok.region tok ?_ | refine Ok.region_draw tok follows (by kernel_rfl) ?_ | refine Ok.cond ?_); conv => whnf) | refine Ok.block ?_ | ((first | refine Ok.skip ?_ | refine Ok.exit ?_ | refine Ok.ret ?_ | refine nI ?_ | refine ix _ (by assumption) ?_ | refine ixI (by omega) (by assumption) ?_ | refine ix_new _ (by omega) fun _ _ => ?_ | refine ixI_new (by omega) (by omega) fun _ _ => ?_ | refine ⟨_, by assumption, ?_⟩); conv => whnf) | (refine Or.inr (Or.inr (Or.inr (Or.inr ?_))); (conv => whnf); refine effW.of (effK.peek (by rfl) (pk2 (.bp _ _ ( crow L) rfl (fun d hd => ints_crow _ d (List.mem_of_mem_drop hd))) (.i _ _)) (s1 ) ?_); rintro _ _ ⟨rfl, rfl⟩; (refine And.intro (by simp [gRowsP, grounds, D.ground]) ?_; conv => whnf)) | (refine Or.inr (Or.inr (Or.inr ?_)); (conv => whnf); refine effK.peek (by rfl) (pk2 (.bp _ _ ( crow L) rfl (fun d hd => ints_crow _ d (List.mem_of_mem_drop hd))) (.i _ _)) (s1 ) ?_; rintro _ _ ⟨rfl, rfl⟩; (refine And.intro (by simp [gRowsP, grounds, D.ground]) ?_; conv => whnf)) | (refine Or.inr (Or.inr (Or.inr (Or.inr ?_))); (conv => whnf); refine effW.of (effK.peek (by rfl) (pk2 (.bp _ _ ( crow d) rfl (fun d hd => ints_crow _ d (List.mem_of_mem_drop hd))) (.i _ _)) (s2 ) ?_); rintro _ _ ⟨rfl, rfl⟩; (refine And.intro (by simp [gRowsP, grounds, D.ground]) ?_; conv => whnf)) | (refine Or.inr (Or.inr (Or.inr ?_)); (conv => whnf); refine effK.peek (by rfl) (pk2 (.bp _ _ ( crow d) rfl (fun d hd => ints_crow _ d (List.mem_of_mem_drop hd))) (.i _ _)) (s2 ) ?_; rintro _ _ ⟨rfl, rfl⟩; (refine And.intro (by simp [gRowsP, grounds, D.ground]) ?_; conv => whnf)) | ((first | refine Alt2.l (aI ?_) | refine Alt2.r (aI ?_)); conv => whnf) | (refine Ok.scope ?_) | ((first | refine Ok.label ?_ | refine rd rfl (by assumption) ?_ | refine ⟨_, .inl ⟨rfl, rfl⟩, ?_⟩ | refine ⟨_, _, rfl, rfl, ?_⟩); conv => whnf) | (refine ⟨fun _ => ?_, fun _ => ?_⟩ <;> (conv => whnf) <;> (try (exfalso; omega))) | ((first | refine aJ ?_ | refine num_any ?_ | refine ⟨_, rfl, ?_⟩); conv => whnf) | fail)
            all_goals first
              | contradiction
              | skip
            refine Or.inr (Or.inr (Or.inl ?_)); (conv => whnf); refine ⟨_, _, Tryz.func101, rfl, Tryz.call101, ?_⟩; (conv => whnf)
            (try (conv => whnf)); repeat' (first | ((with_reducible_and_instances (first | refine nShr (by assumption) ?_ | refine nShl1' rfl (by assumption) ?_ | refine nAnd ?_ | refine nOr ?_ | refine nXor ?_ | refine nAndNot ?_ | refine nAnd1' rfl ?_)); conv => whnf) | refine Ok.seq ?_ | refine OkL.cons ?_ | ((first | refine Ok.region tok ?_ | refine Ok.region_plan (id := 0) tok follows [(5, 12, [])] [.q 0, .q 1, .q 2, .q 3, .q 4, .q 5, .q 6, .q 7, .q 8, .q 9, .q 10, .q 11, .l 12] (by kernel_rfl) ?_ | refine ⟨_, (hquo.symm).symm, ?_⟩ | refine ⟨_, (hrem.symm).symm, ?_⟩ | refine Ok.region_draw tok follows (by kernel_rfl) ?_ | refine Ok.cond ?_); conv => whnf) | refine Ok.block ?_ | ((first | refine Ok.skip ?_ | refine Ok.exit ?_ | refine Ok.ret ?_ | refine nI ?_ | refine ix _ (by assumption) ?_ | refine ixI (by omega) (by assumption) ?_ | refine ix_new _ (by omega) fun _ _ => ?_ | refine ixI_new (by omega) (by omega) fun _ _ => ?_ | refine ⟨_, by assumption, ?_⟩); conv => whnf) | (refine Or.inr (Or.inr (Or.inr (Or.inr ?_))); (conv => whnf); refine effW.of (effK.peek (by rfl) (pk2 (.bp _ _ ( crow d) rfl (fun d hd => ints_crow _ d (List.mem_of_mem_drop hd))) (.i _ _)) (s3 ) ?_); rintro _ _ ⟨rfl, rfl⟩; (refine And.intro (by simp [gRowsP, grounds, D.ground]) ?_; conv => whnf)) | (refine Or.inr (Or.inr (Or.inr ?_)); (conv => whnf); refine effK.peek (by rfl) (pk2 (.bp _ _ ( crow d) rfl (fun d hd => ints_crow _ d (List.mem_of_mem_drop hd))) (.i _ _)) (s3 ) ?_; rintro _ _ ⟨rfl, rfl⟩; (refine And.intro (by simp [gRowsP, grounds, D.ground]) ?_; conv => whnf)) | ((first | refine Alt2.l (aI ?_) | refine Alt2.r (aI ?_)); conv => whnf) | (refine Ok.scope ?_) | ((first | refine Ok.label ?_ | refine rd rfl (by assumption) ?_ | refine ⟨_, .inl ⟨rfl, rfl⟩, ?_⟩ | refine ⟨_, _, rfl, rfl, ?_⟩); conv => whnf) | (refine ⟨fun _ => ?_, fun _ => ?_⟩ <;> (conv => whnf) <;> (try (exfalso; omega))) | ((first | refine aJ ?_ | refine num_any ?_ | refine ⟨_, rfl, ?_⟩); conv => whnf) | fail)
            all_goals first
              | contradiction
              | skip
            refine Or.inr (Or.inr (Or.inl ?_)); (conv => whnf); refine ⟨_, _, Tryz.func101, rfl, Tryz.call101, ?_⟩; (conv => whnf)
            (try (conv => whnf)); repeat' (first | ((with_reducible_and_instances (first | refine nShr (by assumption) ?_ | refine nShl1' rfl (by assumption) ?_ | refine nAnd ?_ | refine nOr ?_ | refine nXor ?_ | refine nAndNot ?_ | refine nAnd1' rfl ?_)); conv => whnf) | refine Ok.seq ?_ | refine OkL.cons ?_ | ((first | refine Ok.region tok ?_ | refine Ok.region_plan (id := 0) tok follows [(5, 12, [])] [.q 0, .q 1, .q 2, .q 3, .q 4, .q 5, .q 6, .q 7, .q 8, .q 9, .q 10, .q 11, .l 12] (by kernel_rfl) ?_ | refine ⟨_, (hquo.symm).symm, ?_⟩ | refine ⟨_, (hrem.symm).symm, ?_⟩ | refine Ok.region_draw tok follows (by kernel_rfl) ?_ | refine Ok.cond ?_); conv => whnf) | refine Ok.block ?_ | ((first | refine Ok.skip ?_ | refine Ok.exit ?_ | refine Ok.ret ?_ | refine nI ?_ | refine ix _ (by assumption) ?_ | refine ixI (by omega) (by assumption) ?_ | refine ix_new _ (by omega) fun _ _ => ?_ | refine ixI_new (by omega) (by omega) fun _ _ => ?_ | refine ⟨_, by assumption, ?_⟩ | refine Alt2.l (aI ?_) | refine Alt2.r (aI ?_)); conv => whnf) | (refine Ok.scope ?_) | ((first | refine Ok.label ?_ | refine rd rfl (by assumption) ?_ | refine ⟨_, .inl ⟨rfl, rfl⟩, ?_⟩ | refine ⟨_, _, rfl, rfl, ?_⟩); conv => whnf) | (refine ⟨fun _ => ?_, fun _ => ?_⟩ <;> (conv => whnf) <;> (try (exfalso; omega))) | ((first | refine aJ ?_ | refine num_any ?_ | refine ⟨_, rfl, ?_⟩); conv => whnf) | fail)
            refine ⟨i + 1, by omega, by omega, ?_⟩
            rw [hsu, hsn]
            have a0 := (k 0).trans (by first | exact if_pos rfl | exact if_neg (by decide))
            have a1 := (k 1).trans (by first | exact if_pos rfl | exact if_neg (by decide))
            have a2 := (k 2).trans (by first | exact if_pos rfl | exact if_neg (by decide))
            have a3 := (k 3).trans (by first | exact if_pos rfl | exact if_neg (by decide))
            have b0 := o 0
            have b1 := o 1
            have b2 := o 2
            have b3 := o 3
            have e0 := (k' 0).trans (by first | exact if_pos rfl | exact if_neg (by decide))
            have e1 := (k' 1).trans (by first | exact if_pos rfl | exact if_neg (by decide))
            have e2 := (k' 2).trans (by first | exact if_pos rfl | exact if_neg (by decide))
            have e3 := (k' 3).trans (by first | exact if_pos rfl | exact if_neg (by decide))
            have f0 := (o' 0).trans (by first | exact if_pos rfl | exact if_neg (by decide))
            have f1 := (o' 1).trans (by first | exact if_pos rfl | exact if_neg (by decide))
            have f2 := (o' 2).trans (by first | exact if_pos rfl | exact if_neg (by decide))
            have f3 := (o' 3).trans (by first | exact if_pos rfl | exact if_neg (by decide))
            (conv => whnf)
            simp only [envCat, crow, cells9, List.length_set, List.map_append, List.map_cons, List.map_nil, List.length_append, List.length_map, List.length_cons, List.length_nil, a0, a1, a2, a3, b0, b1, b2, b3, e0, e1, e2, e3, f0, f1, f2, f3]
            rfl
        · rw [show (97 : UInt8) - 49 = 48 from rfl] at hsn
          have k := put_word (f := car L) (g := car (L.set i 49)) hqr hr (car_set hz rfl)
          have k' := put_word (f := car L) (g := car (L.set i 48)) hqr hr (car_set hz rfl)
          have o := put_word (f := one L) (g := one (L.set i 49)) hqr hr (one_set hz)
          have o' := fun k => wof_ext (f := one (L.set i 48)) (g := one L) (k := k) fun j _ => one_set0 hz _
          rcases hq with rfl | rfl | rfl | rfl
          all_goals
            (try (conv => whnf)); repeat' (first | ((with_reducible_and_instances (first | refine nShr (by assumption) ?_ | refine nShl1' rfl (by assumption) ?_ | refine nAnd ?_ | refine nOr ?_ | refine nXor ?_ | refine nAndNot ?_ | refine nAnd1' rfl ?_)); conv => whnf) | refine Ok.seq ?_ | refine OkL.cons ?_ | ((first | refine Ok.region tok ?_ | refine Ok.region_draw tok follows (by kernel_rfl) ?_ | refine Ok.cond ?_); conv => whnf) | refine Ok.block ?_ | ((first | refine Ok.skip ?_ | refine Ok.exit ?_ | refine Ok.ret ?_ | refine nI ?_ | refine ix _ (by assumption) ?_ | refine ixI (by omega) (by assumption) ?_ | refine ix_new _ (by omega) fun _ _ => ?_ | refine ixI_new (by omega) (by omega) fun _ _ => ?_ | refine ⟨_, by assumption, ?_⟩); conv => whnf) | (refine Or.inr (Or.inr (Or.inr (Or.inr ?_))); (conv => whnf); refine effW.of (effK.peek (by rfl) (pk2 (.bp _ _ ( crow L) rfl (fun d hd => ints_crow _ d (List.mem_of_mem_drop hd))) (.i _ _)) (s1 ) ?_); rintro _ _ ⟨rfl, rfl⟩; (refine And.intro (by simp [gRowsP, grounds, D.ground]) ?_; conv => whnf)) | (refine Or.inr (Or.inr (Or.inr ?_)); (conv => whnf); refine effK.peek (by rfl) (pk2 (.bp _ _ ( crow L) rfl (fun d hd => ints_crow _ d (List.mem_of_mem_drop hd))) (.i _ _)) (s1 ) ?_; rintro _ _ ⟨rfl, rfl⟩; (refine And.intro (by simp [gRowsP, grounds, D.ground]) ?_; conv => whnf)) | (refine Or.inr (Or.inr (Or.inr (Or.inr ?_))); (conv => whnf); refine effW.of (effK.peek (by rfl) (pk2 (.bp _ _ ( crow d) rfl (fun d hd => ints_crow _ d (List.mem_of_mem_drop hd))) (.i _ _)) (s2 ) ?_); rintro _ _ ⟨rfl, rfl⟩; (refine And.intro (by simp [gRowsP, grounds, D.ground]) ?_; conv => whnf)) | (refine Or.inr (Or.inr (Or.inr ?_)); (conv => whnf); refine effK.peek (by rfl) (pk2 (.bp _ _ ( crow d) rfl (fun d hd => ints_crow _ d (List.mem_of_mem_drop hd))) (.i _ _)) (s2 ) ?_; rintro _ _ ⟨rfl, rfl⟩; (refine And.intro (by simp [gRowsP, grounds, D.ground]) ?_; conv => whnf)) | ((first | refine Alt2.l (aI ?_) | refine Alt2.r (aI ?_)); conv => whnf) | (refine Ok.scope ?_) | ((first | refine Ok.label ?_ | refine rd rfl (by assumption) ?_ | refine ⟨_, .inl ⟨rfl, rfl⟩, ?_⟩ | refine ⟨_, _, rfl, rfl, ?_⟩); conv => whnf) | (refine ⟨fun _ => ?_, fun _ => ?_⟩ <;> (conv => whnf) <;> (try (exfalso; omega))) | ((first | refine aJ ?_ | refine num_any ?_ | refine ⟨_, rfl, ?_⟩); conv => whnf) | fail)
            all_goals first
              | contradiction
              | skip
            refine Or.inr (Or.inr (Or.inl ?_)); (conv => whnf); refine ⟨_, _, Tryz.func101, rfl, Tryz.call101, ?_⟩; (conv => whnf)
            (try (conv => whnf)); repeat' (first | ((with_reducible_and_instances (first | refine nShr (by assumption) ?_ | refine nShl1' rfl (by assumption) ?_ | refine nAnd ?_ | refine nOr ?_ | refine nXor ?_ | refine nAndNot ?_ | refine nAnd1' rfl ?_)); conv => whnf) | refine Ok.seq ?_ | refine OkL.cons ?_ | ((first | refine Ok.region tok ?_ | refine Ok.region_plan (id := 0) tok follows [(5, 12, [])] [.q 0, .q 1, .q 2, .q 3, .q 4, .q 5, .q 6, .q 7, .q 8, .q 9, .q 10, .q 11, .l 12] (by kernel_rfl) ?_ | refine ⟨_, (hquo.symm).symm, ?_⟩ | refine ⟨_, (hrem.symm).symm, ?_⟩ | refine Ok.region_draw tok follows (by kernel_rfl) ?_ | refine Ok.cond ?_); conv => whnf) | refine Ok.block ?_ | ((first | refine Ok.skip ?_ | refine Ok.exit ?_ | refine Ok.ret ?_ | refine nI ?_ | refine ix _ (by assumption) ?_ | refine ixI (by omega) (by assumption) ?_ | refine ix_new _ (by omega) fun _ _ => ?_ | refine ixI_new (by omega) (by omega) fun _ _ => ?_ | refine ⟨_, by assumption, ?_⟩); conv => whnf) | (refine Or.inr (Or.inr (Or.inr (Or.inr ?_))); (conv => whnf); refine effW.of (effK.peek (by rfl) (pk2 (.bp _ _ ( crow d) rfl (fun d hd => ints_crow _ d (List.mem_of_mem_drop hd))) (.i _ _)) (s3 ) ?_); rintro _ _ ⟨rfl, rfl⟩; (refine And.intro (by simp [gRowsP, grounds, D.ground]) ?_; conv => whnf)) | (refine Or.inr (Or.inr (Or.inr ?_)); (conv => whnf); refine effK.peek (by rfl) (pk2 (.bp _ _ ( crow d) rfl (fun d hd => ints_crow _ d (List.mem_of_mem_drop hd))) (.i _ _)) (s3 ) ?_; rintro _ _ ⟨rfl, rfl⟩; (refine And.intro (by simp [gRowsP, grounds, D.ground]) ?_; conv => whnf)) | ((first | refine Alt2.l (aI ?_) | refine Alt2.r (aI ?_)); conv => whnf) | (refine Ok.scope ?_) | ((first | refine Ok.label ?_ | refine rd rfl (by assumption) ?_ | refine ⟨_, .inl ⟨rfl, rfl⟩, ?_⟩ | refine ⟨_, _, rfl, rfl, ?_⟩); conv => whnf) | (refine ⟨fun _ => ?_, fun _ => ?_⟩ <;> (conv => whnf) <;> (try (exfalso; omega))) | ((first | refine aJ ?_ | refine num_any ?_ | refine ⟨_, rfl, ?_⟩); conv => whnf) | fail)
            all_goals first
              | contradiction
              | skip
            refine Or.inr (Or.inr (Or.inl ?_)); (conv => whnf); refine ⟨_, _, Tryz.func101, rfl, Tryz.call101, ?_⟩; (conv => whnf)
            (try (conv => whnf)); repeat' (first | ((with_reducible_and_instances (first | refine nShr (by assumption) ?_ | refine nShl1' rfl (by assumption) ?_ | refine nAnd ?_ | refine nOr ?_ | refine nXor ?_ | refine nAndNot ?_ | refine nAnd1' rfl ?_)); conv => whnf) | refine Ok.seq ?_ | refine OkL.cons ?_ | ((first | refine Ok.region tok ?_ | refine Ok.region_plan (id := 0) tok follows [(5, 12, [])] [.q 0, .q 1, .q 2, .q 3, .q 4, .q 5, .q 6, .q 7, .q 8, .q 9, .q 10, .q 11, .l 12] (by kernel_rfl) ?_ | refine ⟨_, (hquo.symm).symm, ?_⟩ | refine ⟨_, (hrem.symm).symm, ?_⟩ | refine Ok.region_draw tok follows (by kernel_rfl) ?_ | refine Ok.cond ?_); conv => whnf) | refine Ok.block ?_ | ((first | refine Ok.skip ?_ | refine Ok.exit ?_ | refine Ok.ret ?_ | refine nI ?_ | refine ix _ (by assumption) ?_ | refine ixI (by omega) (by assumption) ?_ | refine ix_new _ (by omega) fun _ _ => ?_ | refine ixI_new (by omega) (by omega) fun _ _ => ?_ | refine ⟨_, by assumption, ?_⟩ | refine Alt2.l (aI ?_) | refine Alt2.r (aI ?_)); conv => whnf) | (refine Ok.scope ?_) | ((first | refine Ok.label ?_ | refine rd rfl (by assumption) ?_ | refine ⟨_, .inl ⟨rfl, rfl⟩, ?_⟩ | refine ⟨_, _, rfl, rfl, ?_⟩); conv => whnf) | (refine ⟨fun _ => ?_, fun _ => ?_⟩ <;> (conv => whnf) <;> (try (exfalso; omega))) | ((first | refine aJ ?_ | refine num_any ?_ | refine ⟨_, rfl, ?_⟩); conv => whnf) | fail)
            refine ⟨i + 1, by omega, by omega, ?_⟩
            rw [hsu, hsn]
            have a0 := (k 0).trans (by first | exact if_pos rfl | exact if_neg (by decide))
            have a1 := (k 1).trans (by first | exact if_pos rfl | exact if_neg (by decide))
            have a2 := (k 2).trans (by first | exact if_pos rfl | exact if_neg (by decide))
            have a3 := (k 3).trans (by first | exact if_pos rfl | exact if_neg (by decide))
            have b0 := (o 0).trans (by first | exact if_pos rfl | exact if_neg (by decide))
            have b1 := (o 1).trans (by first | exact if_pos rfl | exact if_neg (by decide))
            have b2 := (o 2).trans (by first | exact if_pos rfl | exact if_neg (by decide))
            have b3 := (o 3).trans (by first | exact if_pos rfl | exact if_neg (by decide))
            have e0 := (k' 0).trans (by first | exact if_pos rfl | exact if_neg (by decide))
            have e1 := (k' 1).trans (by first | exact if_pos rfl | exact if_neg (by decide))
            have e2 := (k' 2).trans (by first | exact if_pos rfl | exact if_neg (by decide))
            have e3 := (k' 3).trans (by first | exact if_pos rfl | exact if_neg (by decide))
            have f0 := o' 0
            have f1 := o' 1
            have f2 := o' 2
            have f3 := o' 3
            (conv => whnf)
            simp only [envCat, crow, cells9, List.length_set, List.map_append, List.map_cons, List.map_nil, List.length_append, List.length_map, List.length_cons, List.length_nil, a0, a1, a2, a3, b0, b1, b2, b3, e0, e1, e2, e3, f0, f1, f2, f3]
            rfl
        · exact absurd rfl hb2
      · rw [if_neg hab] at hpc
        have hsn := pcsT_none hpc
        rw [hQ] at hsn
        have hsm := hsm hab
        have hcases : (dig a = true) ∨ (dig a = false ∧ dig b = false) := by
          rcases hac with rfl | rfl | rfl
          · left; rfl
          · left; rfl
          · right
            rcases hbc with rfl | rfl | rfl
            · exact absurd ⟨rfl, by decide⟩ hab
            · exact absurd ⟨rfl, by decide⟩ hab
            · exact ⟨rfl, rfl⟩
        rcases hcases with hda | ⟨hda, hdb⟩
        · rw [hda] at s1
          (try (conv => whnf)); repeat' (first | ((with_reducible_and_instances (first | refine nShr (by assumption) ?_ | refine nShl1' rfl (by assumption) ?_ | refine nAnd ?_ | refine nOr ?_ | refine nXor ?_ | refine nAndNot ?_ | refine nAnd1' rfl ?_)); conv => whnf) | refine Ok.seq ?_ | refine OkL.cons ?_ | ((first | refine Ok.region tok ?_ | refine Ok.region_draw tok follows (by kernel_rfl) ?_ | refine Ok.cond ?_); conv => whnf) | refine Ok.block ?_ | ((first | refine Ok.skip ?_ | refine Ok.exit ?_ | refine Ok.ret ?_ | refine nI ?_ | refine ix _ (by assumption) ?_ | refine ixI (by omega) (by assumption) ?_ | refine ix_new _ (by omega) fun _ _ => ?_ | refine ixI_new (by omega) (by omega) fun _ _ => ?_ | refine ⟨_, by assumption, ?_⟩); conv => whnf) | (refine Or.inr (Or.inr (Or.inr (Or.inr ?_))); (conv => whnf); refine effW.of (effK.peek (by rfl) (pk2 (.bp _ _ ( crow L) rfl (fun d hd => ints_crow _ d (List.mem_of_mem_drop hd))) (.i _ _)) (s1 ) ?_); rintro _ _ ⟨rfl, rfl⟩; (refine And.intro (by simp [gRowsP, grounds, D.ground]) ?_; conv => whnf)) | (refine Or.inr (Or.inr (Or.inr ?_)); (conv => whnf); refine effK.peek (by rfl) (pk2 (.bp _ _ ( crow L) rfl (fun d hd => ints_crow _ d (List.mem_of_mem_drop hd))) (.i _ _)) (s1 ) ?_; rintro _ _ ⟨rfl, rfl⟩; (refine And.intro (by simp [gRowsP, grounds, D.ground]) ?_; conv => whnf)) | (refine Or.inr (Or.inr (Or.inr (Or.inr ?_))); (conv => whnf); refine effW.of (effK.peek (by rfl) (pk2 (.bp _ _ ( crow d) rfl (fun d hd => ints_crow _ d (List.mem_of_mem_drop hd))) (.i _ _)) (s2 ) ?_); rintro _ _ ⟨rfl, rfl⟩; (refine And.intro (by simp [gRowsP, grounds, D.ground]) ?_; conv => whnf)) | (refine Or.inr (Or.inr (Or.inr ?_)); (conv => whnf); refine effK.peek (by rfl) (pk2 (.bp _ _ ( crow d) rfl (fun d hd => ints_crow _ d (List.mem_of_mem_drop hd))) (.i _ _)) (s2 ) ?_; rintro _ _ ⟨rfl, rfl⟩; (refine And.intro (by simp [gRowsP, grounds, D.ground]) ?_; conv => whnf)) | ((first | refine Alt2.l (aI ?_) | refine Alt2.r (aI ?_)); conv => whnf) | (refine Ok.scope ?_) | ((first | refine Ok.label ?_ | refine rd rfl (by assumption) ?_ | refine ⟨_, .inl ⟨rfl, rfl⟩, ?_⟩ | refine ⟨_, _, rfl, rfl, ?_⟩); conv => whnf) | (refine ⟨fun _ => ?_, fun _ => ?_⟩ <;> (conv => whnf) <;> (try (exfalso; omega))) | ((first | refine aJ ?_ | refine num_any ?_ | refine ⟨_, rfl, ?_⟩); conv => whnf) | fail)
          all_goals first
            | contradiction
            | (refine ⟨i + 1, by omega, by omega, ?_⟩
               rw [hsm, hsn]
               (conv => whnf)
               rfl)
            | (rename_i h; exact absurd rfl h)
        · rw [hda] at s1
          rw [hdb] at s2
          (try (conv => whnf)); repeat' (first | ((with_reducible_and_instances (first | refine nShr (by assumption) ?_ | refine nShl1' rfl (by assumption) ?_ | refine nAnd ?_ | refine nOr ?_ | refine nXor ?_ | refine nAndNot ?_ | refine nAnd1' rfl ?_)); conv => whnf) | refine Ok.seq ?_ | refine OkL.cons ?_ | ((first | refine Ok.region tok ?_ | refine Ok.region_draw tok follows (by kernel_rfl) ?_ | refine Ok.cond ?_); conv => whnf) | refine Ok.block ?_ | ((first | refine Ok.skip ?_ | refine Ok.exit ?_ | refine Ok.ret ?_ | refine nI ?_ | refine ix _ (by assumption) ?_ | refine ixI (by omega) (by assumption) ?_ | refine ix_new _ (by omega) fun _ _ => ?_ | refine ixI_new (by omega) (by omega) fun _ _ => ?_ | refine ⟨_, by assumption, ?_⟩); conv => whnf) | (refine Or.inr (Or.inr (Or.inr (Or.inr ?_))); (conv => whnf); refine effW.of (effK.peek (by rfl) (pk2 (.bp _ _ ( crow L) rfl (fun d hd => ints_crow _ d (List.mem_of_mem_drop hd))) (.i _ _)) (s1 ) ?_); rintro _ _ ⟨rfl, rfl⟩; (refine And.intro (by simp [gRowsP, grounds, D.ground]) ?_; conv => whnf)) | (refine Or.inr (Or.inr (Or.inr ?_)); (conv => whnf); refine effK.peek (by rfl) (pk2 (.bp _ _ ( crow L) rfl (fun d hd => ints_crow _ d (List.mem_of_mem_drop hd))) (.i _ _)) (s1 ) ?_; rintro _ _ ⟨rfl, rfl⟩; (refine And.intro (by simp [gRowsP, grounds, D.ground]) ?_; conv => whnf)) | (refine Or.inr (Or.inr (Or.inr (Or.inr ?_))); (conv => whnf); refine effW.of (effK.peek (by rfl) (pk2 (.bp _ _ ( crow d) rfl (fun d hd => ints_crow _ d (List.mem_of_mem_drop hd))) (.i _ _)) (s2 ) ?_); rintro _ _ ⟨rfl, rfl⟩; (refine And.intro (by simp [gRowsP, grounds, D.ground]) ?_; conv => whnf)) | (refine Or.inr (Or.inr (Or.inr ?_)); (conv => whnf); refine effK.peek (by rfl) (pk2 (.bp _ _ ( crow d) rfl (fun d hd => ints_crow _ d (List.mem_of_mem_drop hd))) (.i _ _)) (s2 ) ?_; rintro _ _ ⟨rfl, rfl⟩; (refine And.intro (by simp [gRowsP, grounds, D.ground]) ?_; conv => whnf)) | ((first | refine Alt2.l (aI ?_) | refine Alt2.r (aI ?_)); conv => whnf) | (refine Ok.scope ?_) | ((first | refine Ok.label ?_ | refine rd rfl (by assumption) ?_ | refine ⟨_, .inl ⟨rfl, rfl⟩, ?_⟩ | refine ⟨_, _, rfl, rfl, ?_⟩); conv => whnf) | (refine ⟨fun _ => ?_, fun _ => ?_⟩ <;> (conv => whnf) <;> (try (exfalso; omega))) | ((first | refine aJ ?_ | refine num_any ?_ | refine ⟨_, rfl, ?_⟩); conv => whnf) | fail)
          all_goals first
            | contradiction
            | (refine ⟨i + 1, by omega, by omega, ?_⟩
               rw [hsm, hsn]
               (conv => whnf)
               rfl)
            | (rename_i h; exact absurd (fun q => by cases q) h)
    · have hie : i = c.length := by omega
      subst hie
      have hsp : splitT c d = pcsT c d c.length := if_pos hs
      rw [hsp]
      (try (conv => whnf)); repeat' (first | ((with_reducible_and_instances (first | refine nShr (by assumption) ?_ | refine nShl1' rfl (by assumption) ?_ | refine nAnd ?_ | refine nOr ?_ | refine nXor ?_ | refine nAndNot ?_ | refine nAnd1' rfl ?_)); conv => whnf) | refine Ok.seq ?_ | refine OkL.cons ?_ | ((first | refine Ok.region tok ?_ | refine Ok.region_draw tok follows (by kernel_rfl) ?_ | refine Ok.cond ?_); conv => whnf) | refine Ok.block ?_ | ((first | refine Ok.skip ?_ | refine Ok.exit ?_ | refine Ok.ret ?_ | refine nI ?_ | refine ix _ (by assumption) ?_ | refine ixI (by omega) (by assumption) ?_ | refine ix_new _ (by omega) fun _ _ => ?_ | refine ixI_new (by omega) (by omega) fun _ _ => ?_ | refine ⟨_, by assumption, ?_⟩ | refine Alt2.l (aI ?_) | refine Alt2.r (aI ?_)); conv => whnf) | (refine Ok.scope ?_) | ((first | refine Ok.label ?_ | refine rd rfl (by assumption) ?_ | refine ⟨_, .inl ⟨rfl, rfl⟩, ?_⟩ | refine ⟨_, _, rfl, rfl, ?_⟩); conv => whnf) | (refine ⟨fun _ => ?_, fun _ => ?_⟩ <;> (conv => whnf) <;> (try (exfalso; omega))) | ((first | refine aJ ?_ | refine num_any ?_ | refine ⟨_, rfl, ?_⟩); conv => whnf) | fail)
      refine Or.inl ?_; (conv => whnf)
      refine ⟨[], ?_, rfl⟩
      rw [List.take_of_length_le (by simp), List.drop_of_length_le (by simp)]
      rfl
  · have hn : splitT c d = [c] := by unfold splitT; rw [if_neg hs]
    rw [hn]
    (try (conv => whnf)); repeat' (first | ((with_reducible_and_instances (first | refine nShr (by assumption) ?_ | refine nShl1' rfl (by assumption) ?_ | refine nAnd ?_ | refine nOr ?_ | refine nXor ?_ | refine nAndNot ?_ | refine nAnd1' rfl ?_)); conv => whnf) | refine Ok.seq ?_ | refine OkL.cons ?_ | ((first | refine Ok.region tok ?_ | refine Ok.region_draw tok follows (by kernel_rfl) ?_ | refine Ok.cond ?_); conv => whnf) | refine Ok.block ?_ | ((first | refine Ok.skip ?_ | refine Ok.exit ?_ | refine Ok.ret ?_ | refine nI ?_ | refine ix _ (by assumption) ?_ | refine ixI (by omega) (by assumption) ?_ | refine ix_new _ (by omega) fun _ _ => ?_ | refine ixI_new (by omega) (by omega) fun _ _ => ?_ | refine ⟨_, by assumption, ?_⟩); conv => whnf) | (refine Or.inr (Or.inl ?_); (conv => whnf); (repeat (refine aI ?_; conv => whnf)); refine ⟨_, hm, ?_⟩; rintro _ _ ⟨rfl, rfl⟩ <;> (conv => whnf)) | ((first | refine Alt2.l (aI ?_) | refine Alt2.r (aI ?_)); conv => whnf) | (refine Ok.scope ?_) | ((first | refine Ok.label ?_ | refine rd rfl (by assumption) ?_ | refine ⟨_, .inl ⟨rfl, rfl⟩, ?_⟩ | refine ⟨_, _, rfl, rfl, ?_⟩); conv => whnf) | (refine ⟨fun _ => ?_, fun _ => ?_⟩ <;> (conv => whnf) <;> (try (exfalso; omega))) | ((first | refine aJ ?_ | refine num_any ?_ | refine ⟨_, rfl, ?_⟩); conv => whnf) | fail)
    · refine Or.inl ?_; (conv => whnf)
      exact ⟨_, rfl, rfl⟩
    · rename_i h
      exact absurd (Classical.not_not.1 h) hs
end Go.Proofs.YtaiondckookpiaaGreatDoor
namespace Go.Proofs.YtaiondckookpiaaGreatDoor
open Go Go.Vx
def cubX (l : List Str) : List (List D) := l.map fun x => [.agg (crow x)]
def splL (m : Str) (l : List Str) : List Str := l.flatMap fun c => splitT c m
theorem splL_snoc {m : Str} {l : List Str} {i : Nat} {c : Str} (hc : l[i]? = some c) : splL m (l.take (i + 1)) = splL m (l.take i) ++ splitT c m := by
  unfold splL; rw [take_snoc hc, List.flatMap_append]; simp
end Go.Proofs.YtaiondckookpiaaGreatDoor
namespace Go.Proofs.YtaiondckookpiaaGreatDoor
open Go Go.Vx
theorem cubX_get {l : List Str} {k : Nat} {x : List D} (h : (cubX l)[k]? = some x) : ∃ c, l[k]? = some c ∧ x = [.agg (crow c)] := by
  simp only [cubX, List.getElem?_map, Option.map_eq_some_iff] at h
  obtain ⟨c, h1, h2⟩ := h
  exact ⟨c, h1, h2.symm⟩
theorem cubX_len (l : List Str) : (cubX l).length = l.length := by simp [cubX]
end Go.Proofs.YtaiondckookpiaaGreatDoor
namespace Go.Proofs.YtaiondckookpiaaGreatDoor
open Go Go.Vx
def splX (lim : Int) : List Str → List Str → Option (List Str)
  | [], l => some l
  | m :: ms, l => if lim < ((splL m l).length : Int) then none else splX lim ms (splL m l)
def termX (lim : Int) (t : Term) : Option (List Str) := if lim < 1 then none else splX lim t.less [t.p]
def expX (limit : Int) : List Term → List Str → Option (List Str)
  | [], out => some out
  | t :: ts, out => match termX (limit - (out.length : Int)) t with
    | none => none
    | some l => expX limit ts (out ++ l)
theorem expX_cons (limit : Int) (t : Term) (ts : List Term) (out : List Str) : expX limit (t :: ts) out = match termX (limit - (out.length : Int)) t with | none => none | some l => expX limit ts (out ++ l) := rfl
theorem splX_cons (lim : Int) (m : Str) (ms l : List Str) : splX lim (m :: ms) l = if lim < ((splL m l).length : Int) then none else splX lim ms (splL m l) := rfl
def expO (n : Int) (ts : List Term) (limit : Int) : Int × List Str :=
  if n = 0 then (11, []) else if limit < 0 ∨ 2048 < limit then (1, []) else match expX limit ts [] with
    | some l => (0, l)
    | none => (3, [])
theorem expO_zero {ts : List Term} {limit : Int} {n : Int} (h : n = 0) : expO n ts limit = (11, []) := by unfold expO; rw [if_pos h]
theorem expO_arg {n : Int} {ts : List Term} {limit : Int} (h : n ≠ 0) (h2 : limit < 0 ∨ 2048 < limit) : expO n ts limit = (1, []) := by unfold expO; rw [if_neg h, if_pos h2]
theorem expO_some {n : Int} {ts : List Term} {limit : Int} {l : List Str} (h : n ≠ 0) (h2 : ¬ (limit < 0 ∨ 2048 < limit)) (h3 : expX limit ts [] = some l) : expO n ts limit = (0, l) := by unfold expO; rw [if_neg h, if_neg h2, h3]
theorem expO_none {n : Int} {ts : List Term} {limit : Int} (h : n ≠ 0) (h2 : ¬ (limit < 0 ∨ 2048 < limit)) (h3 : expX limit ts [] = none) : expO n ts limit = (3, []) := by unfold expO; rw [if_neg h, if_neg h2, h3]
def AllW (n : Nat) (l : List Str) : Prop := ∀ c ∈ l, CN c ∧ c.length = n
theorem splL_all {n : Nat} {m : Str} {l : List Str} (h : AllW n l) (hm : CT m) : AllW n (splL m l) := by
  intro x hx
  obtain ⟨c, hc, hx⟩ := List.mem_flatMap.1 hx
  obtain ⟨h1, h2⟩ := splitT_cn (h c hc).1 hm x hx
  exact ⟨h1, h2.trans (h c hc).2⟩
theorem splL_len {n : Nat} {m : Str} : ∀ {l : List Str}, AllW n l → (splL m l).length ≤ l.length * 256
  | [], _ => by simp [splL]
  | c :: l, h => by
    have h1 := splL_len (m := m) (l := l) fun x hx => h x (by simp [hx])
    have h2 := splitT_len (d := m) (h c (by simp)).1.1.len
    have : splL m (c :: l) = splitT c m ++ splL m l := by simp [splL]
    rw [this, List.length_append, List.length_cons]
    omega
theorem splX_all {n : Nat} {lim : Int} : ∀ {ms l : List Str} {r : List Str}, AllW n l → (∀ m ∈ ms, CT m) → splX lim ms l = some r → AllW n r
  | [], l, r, hl, _, h => by cases h; exact hl
  | m :: ms, l, r, hl, hm, h => by
    unfold splX at h
    split at h
    · cases h
    · exact splX_all (splL_all hl (hm m (by simp))) (fun x hx => hm x (by simp [hx])) h
theorem splX_le {lim : Int} : ∀ {ms l : List Str} {r : List Str}, (l.length : Int) ≤ lim → splX lim ms l = some r → (r.length : Int) ≤ lim
  | [], l, r, hl, h => by cases h; exact hl
  | m :: ms, l, r, hl, h => by
    unfold splX at h
    split at h
    · cases h
    · exact splX_le (by omega) h
theorem termX_all {n : Nat} {t : Term} {lim : Int} {l : List Str} (hg : GoodT n t) (h : termX lim t = some l) : AllW n l ∧ (l.length : Int) ≤ lim := by
  unfold termX at h
  split at h
  · cases h
  · exact ⟨splX_all (fun c hc => by simp at hc; subst hc; exact ⟨hg.p, hg.ok.p⟩) (fun m hm => (hg.less m hm).1) h, splX_le (by simp; omega) h⟩
theorem expX_all {n : Nat} {limit : Int} : ∀ {ts : List Term} {out r : List Str}, (∀ t ∈ ts, GoodT n t) → AllW n out → (out.length : Int) ≤ limit → expX limit ts out = some r → AllW n r ∧ (r.length : Int) ≤ limit
  | [], out, r, _, ho, hl, h => by cases h; exact ⟨ho, hl⟩
  | t :: ts, out, r, hg, ho, hl, h => by
    unfold expX at h
    split at h
    · cases h
    · rename_i l hlx
      obtain ⟨h1, h2⟩ := termX_all (hg t (by simp)) hlx
      exact expX_all (fun x hx => hg x (by simp [hx])) (fun c hc => (List.mem_append.1 hc).elim (ho c) (h1 c)) (by rw [List.length_append]; omega) h
theorem expO_all {n : Int} {ts : List Term} {limit : Int} (hf : Fine n ts) : AllW n.toNat (expO n ts limit).2 ∧ (expO n ts limit).2.length ≤ 2048 := by
  unfold expO
  split
  · exact ⟨fun c hc => by simp at hc, by simp⟩
  · split
    · exact ⟨fun c hc => by simp at hc, by simp⟩
    · rename_i h2
      cases h : expX limit ts [] with
      | none => exact ⟨fun c hc => by simp at hc, by simp⟩
      | some l =>
        obtain ⟨h3, h4⟩ := expX_all hf.good (fun c hc => by simp at hc) (by simp; omega) h
        exact ⟨h3, by show l.length ≤ 2048; omega⟩
end Go.Proofs.YtaiondckookpiaaGreatDoor
namespace Go.Proofs.YtaiondckookpiaaGreatDoor
open Go Go.Vx
def ROut (o : Int × List Str) (d : D) (rows : Vx.Rows) : Prop := rows = [] ∧ ∃ rm, d = .tup [.lst 9 (o.2.map srow) rm, .i .i64 o.1]
set_option maxRecDepth 100000 in
set_option maxHeartbeats 8000000 in
theorem rexpand_at {n : Int} {ts : List Term} (hf : Fine n ts) (ks : List TR) (rm : List (List D)) (h1 : ks.map TR.t = ts) (limit : Int) :
    FSpec Tryz.prog T 32 [.agg [.i .i64 n, .lst 120 (ks.map drow) rm], .i .i64 limit] (ROut (expO n ts limit)) := by
  have hl1 : ks.length = ts.length := by rw [← h1, List.length_map]
  have hm1 : (ks.map drow).length = ts.length := by simp [hl1]
  have hk1 := hf.len
  have hn0 := hf.n0
  refine FSpec.of_ok tok Tryz.func32 rfl Tryz.call32 (by simp) ?_
  by_cases hz : n = 0
  · rw [expO_zero hz]
    subst hz
    (try (conv => whnf)); repeat' (first | refine Ok.seq ?_ | refine OkL.cons ?_ | ((first | refine Ok.region tok ?_ | refine Ok.region_plan (id := 19) tok follows [(4, 14, []), (6, 14, [13, 12, 10, 9, 8]), (10, 14, [13, 12]), (13, 14, []), (4, 15, [14]), (6, 15, [14, 13, 12, 10, 9, 8]), (10, 15, [14, 13, 12]), (13, 15, [14]), (14, 15, [])] [.q 0, .q 1, .q 2, .q 3, .q 4, .q 5, .q 6, .q 7, .q 8, .q 9, .q 10, .q 11, .q 12, .q 13, .l 14, .l 15, .q 16] (by kernel_rfl) ?_ | refine Ok.region_draw tok follows (by kernel_rfl) ?_ | refine Ok.cond ?_); conv => whnf) | refine Ok.block ?_ | ((first | refine Ok.skip ?_ | refine Ok.exit ?_ | refine Ok.ret ?_ | refine nI ?_ | refine ix _ (by assumption) ?_ | refine ixI (by omega) (by assumption) ?_ | refine ix_new _ (by omega) fun _ _ => ?_ | refine ixI_new (by omega) (by omega) fun _ _ => ?_ | refine ⟨_, by assumption, ?_⟩ | refine Alt2.l (aI ?_) | refine Alt2.r (aI ?_)); conv => whnf) | (refine Ok.scope ?_) | ((first | refine Ok.label ?_ | refine rd rfl (by assumption) ?_ | refine ⟨_, .inl ⟨rfl, rfl⟩, ?_⟩ | refine ⟨_, _, rfl, rfl, ?_⟩); conv => whnf) | (refine ⟨fun _ => ?_, fun _ => ?_⟩ <;> (conv => whnf) <;> (try (exfalso; omega))) | ((first | refine aJ ?_ | refine num_any ?_ | refine ⟨_, rfl, ?_⟩); conv => whnf) | fail)
    · refine Or.inl ?_; (conv => whnf)
      exact ⟨rfl, [], rfl⟩
    all_goals (exfalso; rename_i h; exact h rfl)
  by_cases harg : limit < 0 ∨ 2048 < limit
  · rw [expO_arg hz harg]
    (try (conv => whnf)); repeat' (first | refine Ok.seq ?_ | refine OkL.cons ?_ | ((first | refine Ok.region tok ?_ | refine Ok.region_plan (id := 19) tok follows [(4, 14, []), (6, 14, [13, 12, 10, 9, 8]), (10, 14, [13, 12]), (13, 14, []), (4, 15, [14]), (6, 15, [14, 13, 12, 10, 9, 8]), (10, 15, [14, 13, 12]), (13, 15, [14]), (14, 15, [])] [.q 0, .q 1, .q 2, .q 3, .q 4, .q 5, .q 6, .q 7, .q 8, .q 9, .q 10, .q 11, .q 12, .q 13, .l 14, .l 15, .q 16] (by kernel_rfl) ?_ | refine Ok.region_draw tok follows (by kernel_rfl) ?_ | refine Ok.cond ?_); conv => whnf) | refine Ok.block ?_ | ((first | refine Ok.skip ?_ | refine Ok.exit ?_ | refine Ok.ret ?_ | refine nI ?_ | refine ix _ (by assumption) ?_ | refine ixI (by omega) (by assumption) ?_ | refine ix_new _ (by omega) fun _ _ => ?_ | refine ixI_new (by omega) (by omega) fun _ _ => ?_ | refine ⟨_, by assumption, ?_⟩ | refine Alt2.l (aI ?_) | refine Alt2.r (aI ?_)); conv => whnf) | (refine Ok.scope ?_) | ((first | refine Ok.label ?_ | refine rd rfl (by assumption) ?_ | refine ⟨_, .inl ⟨rfl, rfl⟩, ?_⟩ | refine ⟨_, _, rfl, rfl, ?_⟩); conv => whnf) | (refine ⟨fun _ => ?_, fun _ => ?_⟩ <;> (conv => whnf) <;> (try (exfalso; omega))) | ((first | refine aJ ?_ | refine num_any ?_ | refine ⟨_, rfl, ?_⟩); conv => whnf) | fail)
    all_goals first
      | (exfalso; omega)
      | (refine Or.inl ?_; (conv => whnf)
         exact ⟨rfl, [], rfl⟩)
  (try (conv => whnf)); repeat' (first | refine Ok.seq ?_ | refine OkL.cons ?_ | ((first | refine Ok.region tok ?_ | refine Ok.region_plan (id := 19) tok follows [(4, 14, []), (6, 14, [13, 12, 10, 9, 8]), (10, 14, [13, 12]), (13, 14, []), (4, 15, [14]), (6, 15, [14, 13, 12, 10, 9, 8]), (10, 15, [14, 13, 12]), (13, 15, [14]), (14, 15, [])] [.q 0, .q 1, .q 2, .q 3, .q 4, .q 5, .q 6, .q 7, .q 8, .q 9, .q 10, .q 11, .q 12, .q 13, .l 14, .l 15, .q 16] (by kernel_rfl) ?_ | refine Ok.region_draw tok follows (by kernel_rfl) ?_ | refine Ok.cond ?_); conv => whnf) | refine Ok.block ?_ | ((first | refine Ok.skip ?_ | refine Ok.exit ?_ | refine Ok.ret ?_ | refine nI ?_ | refine ix _ (by assumption) ?_ | refine ixI (by omega) (by assumption) ?_ | refine ix_new _ (by omega) fun _ _ => ?_ | refine ixI_new (by omega) (by omega) fun _ _ => ?_ | refine ⟨_, by assumption, ?_⟩ | refine Alt2.l (aI ?_) | refine Alt2.r (aI ?_)); conv => whnf) | (refine Ok.scope ?_) | ((first | refine Ok.label ?_ | refine rd rfl (by assumption) ?_ | refine ⟨_, .inl ⟨rfl, rfl⟩, ?_⟩ | refine ⟨_, _, rfl, rfl, ?_⟩); conv => whnf) | (refine ⟨fun _ => ?_, fun _ => ?_⟩ <;> (conv => whnf) <;> (try (exfalso; omega))) | ((first | refine aJ ?_ | refine num_any ?_ | refine ⟨_, rfl, ?_⟩); conv => whnf) | fail)
  all_goals first
    | (exfalso; omega)
    | skip
  refine Ok.ghost 6 9 rfl ?_
  (conv => whnf)
  refine Ok.loopU [1, 2] [6, 7] 1 1 (fun (x : Nat × List Str) => [.own 0 x.2.length, .i .i64 (x.1 : Nat)]) (fun _ b => b) (fun (x : Nat × List Str) (_ : Vx.Rows) => [some (9, x.2.map srow)]) (fun (x : Nat × List Str) => x.1 ≤ ts.length ∧ expX limit ts [] = expX limit (ts.drop x.1) x.2 ∧ AllW n.toNat x.2 ∧ (x.2.length : Int) ≤ limit) (fun (x : Nat × List Str) => ts.length - x.1) ((0, [])) (⟨Nat.zero_le _, by simp, fun c hc => by simp at hc, by simp; omega⟩) ?_; (conv => whnf); refine ⟨by ((conv => whnf); first | rfl | (simp [envCat, List.take_of_length_le, crow, trow, srow, drow]; done) | (simp [envCat, List.take_of_length_le, crow, trow, srow, drow]; rw [IntKind.wrap_i64]; omega)), ?_⟩
  rintro ⟨i, out⟩ ⟨hi, hex, hal, hle⟩
  dsimp only at hi hex hal hle ⊢
  have hom : (out.map srow).length = out.length := by simp
  (conv => whnf)
  by_cases hil : i < ts.length
  · obtain ⟨a, ha⟩ : ∃ a, ks[i]? = some a := ⟨_, List.getElem?_eq_getElem (by omega)⟩
    have haI : ks[((i : Nat) : Int).toNat]? = some a := ha
    have hat := tr_get h1 ha
    have hag := hf.good _ (List.mem_of_getElem? hat)
    have hlb := hf.less (List.mem_of_getElem? hat)
    have hlb2 : (a.t.less.map srow).length = a.t.less.length := by simp
    rw [drop_get hat, expX_cons] at hex
    by_cases hlim : limit - (out.length : Int) < 1
    · rw [show termX (limit - (out.length : Int)) a.t = none by unfold termX; rw [if_pos hlim]] at hex
      rw [expO_none hz harg hex]
      (try (conv => whnf)); repeat' (first | refine Ok.seq ?_ | refine OkL.cons ?_ | ((first | refine Ok.region tok ?_ | refine Ok.region_plan (id := 19) tok follows [(4, 14, []), (6, 14, [13, 12, 10, 9, 8]), (10, 14, [13, 12]), (13, 14, []), (4, 15, [14]), (6, 15, [14, 13, 12, 10, 9, 8]), (10, 15, [14, 13, 12]), (13, 15, [14]), (14, 15, [])] [.q 0, .q 1, .q 2, .q 3, .q 4, .q 5, .q 6, .q 7, .q 8, .q 9, .q 10, .q 11, .q 12, .q 13, .l 14, .l 15, .q 16] (by kernel_rfl) ?_ | refine Ok.region_draw tok follows (by kernel_rfl) ?_ | refine Ok.cond ?_); conv => whnf) | refine Ok.block ?_ | ((first | refine Ok.skip ?_ | refine Ok.exit ?_ | refine Ok.ret ?_ | refine nI ?_ | refine ix _ (by assumption) ?_ | refine ixI (by omega) (by assumption) ?_ | refine ix_new _ (by omega) fun _ _ => ?_ | refine ixI_new (by omega) (by omega) fun _ _ => ?_ | refine ⟨_, by assumption, ?_⟩ | refine Alt2.l (aI ?_) | refine Alt2.r (aI ?_)); conv => whnf) | (refine Ok.scope ?_) | ((first | refine Ok.label ?_ | refine rd rfl (by assumption) ?_ | refine ⟨_, .inl ⟨rfl, rfl⟩, ?_⟩ | refine ⟨_, _, rfl, rfl, ?_⟩); conv => whnf) | (refine ⟨fun _ => ?_, fun _ => ?_⟩ <;> (conv => whnf) <;> (try (exfalso; omega))) | ((first | refine aJ ?_ | refine num_any ?_ | refine ⟨_, rfl, ?_⟩); conv => whnf) | fail)
      all_goals first
        | (exfalso; omega)
        | (refine Or.inl ?_; (conv => whnf)
           exact ⟨rfl, [], rfl⟩)
    rw [show termX (limit - (out.length : Int)) a.t = splX (limit - (out.length : Int)) a.t.less [a.t.p] by unfold termX; rw [if_neg hlim]] at hex
    (try (conv => whnf)); repeat' (first | refine Ok.seq ?_ | refine OkL.cons ?_ | ((first | refine Ok.region tok ?_ | refine Ok.region_plan (id := 19) tok follows [(4, 14, []), (6, 14, [13, 12, 10, 9, 8]), (10, 14, [13, 12]), (13, 14, []), (4, 15, [14]), (6, 15, [14, 13, 12, 10, 9, 8]), (10, 15, [14, 13, 12]), (13, 15, [14]), (14, 15, [])] [.q 0, .q 1, .q 2, .q 3, .q 4, .q 5, .q 6, .q 7, .q 8, .q 9, .q 10, .q 11, .q 12, .q 13, .l 14, .l 15, .q 16] (by kernel_rfl) ?_ | refine Ok.region_draw tok follows (by kernel_rfl) ?_ | refine Ok.cond ?_); conv => whnf) | refine Ok.block ?_ | ((first | refine Ok.skip ?_ | refine Ok.exit ?_ | refine Ok.ret ?_ | refine nI ?_ | refine ix _ (by assumption) ?_ | refine ixI (by omega) (by assumption) ?_ | refine ix_new _ (by omega) fun _ _ => ?_ | refine ixI_new (by omega) (by omega) fun _ _ => ?_ | refine ⟨_, by assumption, ?_⟩ | refine Alt2.l (aI ?_) | refine Alt2.r (aI ?_)); conv => whnf) | (refine Ok.scope ?_) | ((first | refine Ok.label ?_ | refine rd rfl (by assumption) ?_ | refine ⟨_, .inl ⟨rfl, rfl⟩, ?_⟩ | refine ⟨_, _, rfl, rfl, ?_⟩); conv => whnf) | (refine ⟨fun _ => ?_, fun _ => ?_⟩ <;> (conv => whnf) <;> (try (exfalso; omega))) | ((first | refine aJ ?_ | refine num_any ?_ | refine ⟨_, rfl, ?_⟩); conv => whnf) | fail)
    refine Ok.pub 1 ?_
    (conv => whnf)
    refine Ok.loopU [1, 2, 6, 7] [8, 9] 1 1 (fun (x : Nat × List Str × List (List D)) => [.lst 9 (x.2.1.map srow) x.2.2, .i .i64 (x.1 : Nat)]) (fun _ b => b) (fun (x : Nat × List Str × List (List D)) (_ : Vx.Rows) => [some (9, out.map srow)]) (fun (x : Nat × List Str × List (List D)) => x.1 ≤ a.t.less.length ∧ splX (limit - (out.length : Int)) a.t.less [a.t.p] = splX (limit - (out.length : Int)) (a.t.less.drop x.1) x.2.1 ∧ AllW n.toNat x.2.1 ∧ (x.2.1.length : Int) ≤ limit - (out.length : Int)) (fun (x : Nat × List Str × List (List D)) => a.t.less.length - x.1) ((0, [a.t.p], [])) (⟨Nat.zero_le _, rfl, fun c hc => by simp at hc; subst hc; exact ⟨hag.p, hag.ok.p⟩, by simp; omega⟩) ?_; (conv => whnf); refine ⟨by ((conv => whnf); first | rfl | (simp [envCat, List.take_of_length_le, crow, trow, srow, drow]; done) | (simp [envCat, List.take_of_length_le, crow, trow, srow, drow]; rw [IntKind.wrap_i64]; omega)), ?_⟩
    rintro ⟨j, l, rml⟩ ⟨hj, hsx, hla, hll⟩
    dsimp only at hj hsx hla hll ⊢
    have hlm : (l.map srow).length = l.length := by simp
    (conv => whnf)
    by_cases hjl : j < a.t.less.length
    · obtain ⟨m, hm⟩ : ∃ m, a.t.less[j]? = some m := ⟨_, List.getElem?_eq_getElem hjl⟩
      have hmI : a.t.less[((j : Nat) : Int).toNat]? = some m := hm
      have hmc := (hag.less m (List.mem_of_getElem? hm)).1
      have hsa := splL_all hla hmc
      have hsl := splL_len (m := m) hla
      rw [drop_get hm, splX_cons] at hsx
      (try (conv => whnf)); repeat' (first | refine Ok.seq ?_ | refine OkL.cons ?_ | ((first | refine Ok.region tok ?_ | refine Ok.region_plan (id := 19) tok follows [(4, 14, []), (6, 14, [13, 12, 10, 9, 8]), (10, 14, [13, 12]), (13, 14, []), (4, 15, [14]), (6, 15, [14, 13, 12, 10, 9, 8]), (10, 15, [14, 13, 12]), (13, 15, [14]), (14, 15, [])] [.q 0, .q 1, .q 2, .q 3, .q 4, .q 5, .q 6, .q 7, .q 8, .q 9, .q 10, .q 11, .q 12, .q 13, .l 14, .l 15, .q 16] (by kernel_rfl) ?_ | refine Ok.region_draw tok follows (by kernel_rfl) ?_ | refine Ok.cond ?_); conv => whnf) | refine Ok.block ?_ | ((first | refine Ok.skip ?_ | refine Ok.exit ?_ | refine Ok.ret ?_ | refine nI ?_ | refine ix _ (by assumption) ?_ | refine ixI (by omega) (by assumption) ?_ | refine ix_new _ (by omega) fun _ _ => ?_ | refine ixI_new (by omega) (by omega) fun _ _ => ?_ | refine ⟨_, by assumption, ?_⟩ | refine Alt2.l (aI ?_) | refine Alt2.r (aI ?_)); conv => whnf) | (refine Ok.scope ?_) | ((first | refine Ok.label ?_ | refine rd rfl (by assumption) ?_ | refine ⟨_, .inl ⟨rfl, rfl⟩, ?_⟩ | refine ⟨_, _, rfl, rfl, ?_⟩); conv => whnf) | (refine ⟨fun _ => ?_, fun _ => ?_⟩ <;> (conv => whnf) <;> (try (exfalso; omega))) | ((first | refine aJ ?_ | refine num_any ?_ | refine ⟨_, rfl, ?_⟩); conv => whnf) | fail)
      refine Ok.ghost 10 9 rfl ?_
      (conv => whnf)
      refine Ok.loopU [1, 2, 6, 7, 8, 9] [10, 11] 2 1 (fun (k : Nat) => [.own 1 (splL m (l.take k)).length, .i .i64 (k : Nat)]) (fun _ b => b) (fun (k : Nat) (_ : Vx.Rows) => [some (9, out.map srow), some (9, (splL m (l.take k)).map srow)]) (fun (k : Nat) => k ≤ l.length) (fun (k : Nat) => l.length - k) (0) (Nat.zero_le _) ?_; (conv => whnf); refine ⟨by ((conv => whnf); first | rfl | (simp [envCat, List.take_of_length_le, crow, trow, srow, drow]; done) | (simp [envCat, List.take_of_length_le, crow, trow, srow, drow]; rw [IntKind.wrap_i64]; omega)), ?_⟩
      intro k hk
      have hqm : ((splL m (l.take k)).map srow).length = (splL m (l.take k)).length := by simp
      have hql := splL_len (m := m) (l := l.take k) (n := n.toNat) fun c hc => hla c (List.mem_of_mem_take hc)
      have hqk : (l.take k).length = k := by simp; omega
      (conv => whnf)
      by_cases hkl : k < l.length
      · obtain ⟨c, hc⟩ : ∃ c, l[k]? = some c := ⟨_, List.getElem?_eq_getElem hkl⟩
        have hcI : l[((k : Nat) : Int).toNat]? = some c := hc
        have hcw := hla c (List.mem_of_getElem? hc)
        have hsn := splL_snoc (m := m) hc
        have hcl := splitT_len (d := m) hcw.1.1.len
        have hclm : ((splitT c m).map srow).length = (splitT c m).length := by simp
        have rsp := rsplit_at c m hcw.1 hmc
        generalize splitT c m = S at *
        (try (conv => whnf)); repeat' (first | refine Ok.seq ?_ | refine OkL.cons ?_ | ((first | refine Ok.region tok ?_ | refine Ok.region_plan (id := 19) tok follows [(4, 14, []), (6, 14, [13, 12, 10, 9, 8]), (10, 14, [13, 12]), (13, 14, []), (4, 15, [14]), (6, 15, [14, 13, 12, 10, 9, 8]), (10, 15, [14, 13, 12]), (13, 15, [14]), (14, 15, [])] [.q 0, .q 1, .q 2, .q 3, .q 4, .q 5, .q 6, .q 7, .q 8, .q 9, .q 10, .q 11, .q 12, .q 13, .l 14, .l 15, .q 16] (by kernel_rfl) ?_ | refine Ok.region_draw tok follows (by kernel_rfl) ?_ | refine Ok.cond ?_); conv => whnf) | refine Ok.block ?_ | ((first | refine Ok.skip ?_ | refine Ok.exit ?_ | refine Ok.ret ?_ | refine nI ?_ | refine ix _ (by assumption) ?_ | refine ixI (by omega) (by assumption) ?_ | refine ix_new _ (by omega) fun _ _ => ?_ | refine ixI_new (by omega) (by omega) fun _ _ => ?_ | refine ⟨_, by assumption, ?_⟩); conv => whnf) | (refine Or.inr (Or.inl ?_); (conv => whnf); (repeat (refine aI ?_; conv => whnf)); refine ⟨_, rsp , ?_⟩; rintro _ _ ⟨rmq, rfl, rfl⟩ <;> (conv => whnf)) | ((first | refine Alt2.l (aI ?_) | refine Alt2.r (aI ?_)); conv => whnf) | (refine Ok.scope ?_) | ((first | refine Ok.label ?_ | refine rd rfl (by assumption) ?_ | refine ⟨_, .inl ⟨rfl, rfl⟩, ?_⟩ | refine ⟨_, _, rfl, rfl, ?_⟩); conv => whnf) | (refine ⟨fun _ => ?_, fun _ => ?_⟩ <;> (conv => whnf) <;> (try (exfalso; omega))) | ((first | refine aJ ?_ | refine num_any ?_ | refine ⟨_, rfl, ?_⟩); conv => whnf) | fail)
        refine ⟨k + 1, by omega, by omega, ?_⟩
        rw [hsn, List.map_append]
        (conv => whnf)
        simp [envCat]
      · have hke : k = l.length := by omega
        subst hke
        rw [List.take_length] at *
        refine Ok.pub 1 ?_
        (conv => whnf)
        rw [take_all, drop_all]
        by_cases hov : limit - (out.length : Int) < ((splL m l).length : Int)
        · rw [if_pos hov] at hsx
          rw [hsx] at hex
          rw [expO_none hz harg hex]
          (try (conv => whnf)); repeat' (first | refine Ok.seq ?_ | refine OkL.cons ?_ | ((first | refine Ok.region tok ?_ | refine Ok.region_plan (id := 19) tok follows [(4, 14, []), (6, 14, [13, 12, 10, 9, 8]), (10, 14, [13, 12]), (13, 14, []), (4, 15, [14]), (6, 15, [14, 13, 12, 10, 9, 8]), (10, 15, [14, 13, 12]), (13, 15, [14]), (14, 15, [])] [.q 0, .q 1, .q 2, .q 3, .q 4, .q 5, .q 6, .q 7, .q 8, .q 9, .q 10, .q 11, .q 12, .q 13, .l 14, .l 15, .q 16] (by kernel_rfl) ?_ | refine Ok.region_draw tok follows (by kernel_rfl) ?_ | refine Ok.cond ?_); conv => whnf) | refine Ok.block ?_ | ((first | refine Ok.skip ?_ | refine Ok.exit ?_ | refine Ok.ret ?_ | refine nI ?_ | refine ix _ (by assumption) ?_ | refine ixI (by omega) (by assumption) ?_ | refine ix_new _ (by omega) fun _ _ => ?_ | refine ixI_new (by omega) (by omega) fun _ _ => ?_ | refine ⟨_, by assumption, ?_⟩ | refine Alt2.l (aI ?_) | refine Alt2.r (aI ?_)); conv => whnf) | (refine Ok.scope ?_) | ((first | refine Ok.label ?_ | refine rd rfl (by assumption) ?_ | refine ⟨_, .inl ⟨rfl, rfl⟩, ?_⟩ | refine ⟨_, _, rfl, rfl, ?_⟩); conv => whnf) | (refine ⟨fun _ => ?_, fun _ => ?_⟩ <;> (conv => whnf) <;> (try (exfalso; omega))) | ((first | refine aJ ?_ | refine num_any ?_ | refine ⟨_, rfl, ?_⟩); conv => whnf) | fail)
          all_goals first
            | (exfalso; omega)
            | (refine Or.inl ?_; (conv => whnf)
               exact ⟨rfl, [], rfl⟩)
        · rw [if_neg hov] at hsx
          (try (conv => whnf)); repeat' (first | refine Ok.seq ?_ | refine OkL.cons ?_ | ((first | refine Ok.region tok ?_ | refine Ok.region_plan (id := 19) tok follows [(4, 14, []), (6, 14, [13, 12, 10, 9, 8]), (10, 14, [13, 12]), (13, 14, []), (4, 15, [14]), (6, 15, [14, 13, 12, 10, 9, 8]), (10, 15, [14, 13, 12]), (13, 15, [14]), (14, 15, [])] [.q 0, .q 1, .q 2, .q 3, .q 4, .q 5, .q 6, .q 7, .q 8, .q 9, .q 10, .q 11, .q 12, .q 13, .l 14, .l 15, .q 16] (by kernel_rfl) ?_ | refine Ok.region_draw tok follows (by kernel_rfl) ?_ | refine Ok.cond ?_); conv => whnf) | refine Ok.block ?_ | ((first | refine Ok.skip ?_ | refine Ok.exit ?_ | refine Ok.ret ?_ | refine nI ?_ | refine ix _ (by assumption) ?_ | refine ixI (by omega) (by assumption) ?_ | refine ix_new _ (by omega) fun _ _ => ?_ | refine ixI_new (by omega) (by omega) fun _ _ => ?_ | refine ⟨_, by assumption, ?_⟩ | refine Alt2.l (aI ?_) | refine Alt2.r (aI ?_)); conv => whnf) | (refine Ok.scope ?_) | ((first | refine Ok.label ?_ | refine rd rfl (by assumption) ?_ | refine ⟨_, .inl ⟨rfl, rfl⟩, ?_⟩ | refine ⟨_, _, rfl, rfl, ?_⟩); conv => whnf) | (refine ⟨fun _ => ?_, fun _ => ?_⟩ <;> (conv => whnf) <;> (try (exfalso; omega))) | ((first | refine aJ ?_ | refine num_any ?_ | refine ⟨_, rfl, ?_⟩); conv => whnf) | fail)
          all_goals first
            | (exfalso; omega)
            | skip
          refine ⟨(j + 1, splL m l, []), by dsimp only; omega, ⟨by dsimp only; omega, hsx, hsa, by dsimp only; omega⟩, ?_⟩
          (conv => whnf)
          rfl
    · have hje : j = a.t.less.length := by omega
      subst hje
      rw [List.drop_length] at hsx
      have hsx : splX (limit - (out.length : Int)) a.t.less [a.t.p] = some l := hsx
      rw [hsx] at hex
      have hap : (out.map srow ++ l.map srow).length = out.length + l.length := by simp
      (try (conv => whnf)); repeat' (first | refine Ok.seq ?_ | refine OkL.cons ?_ | ((first | refine Ok.region tok ?_ | refine Ok.region_plan (id := 19) tok follows [(4, 14, []), (6, 14, [13, 12, 10, 9, 8]), (10, 14, [13, 12]), (13, 14, []), (4, 15, [14]), (6, 15, [14, 13, 12, 10, 9, 8]), (10, 15, [14, 13, 12]), (13, 15, [14]), (14, 15, [])] [.q 0, .q 1, .q 2, .q 3, .q 4, .q 5, .q 6, .q 7, .q 8, .q 9, .q 10, .q 11, .q 12, .q 13, .l 14, .l 15, .q 16] (by kernel_rfl) ?_ | refine Ok.region_draw tok follows (by kernel_rfl) ?_ | refine Ok.cond ?_); conv => whnf) | refine Ok.block ?_ | ((first | refine Ok.skip ?_ | refine Ok.exit ?_ | refine Ok.ret ?_ | refine nI ?_ | refine ix _ (by assumption) ?_ | refine ixI (by omega) (by assumption) ?_ | refine ix_new _ (by omega) fun _ _ => ?_ | refine ixI_new (by omega) (by omega) fun _ _ => ?_ | refine ⟨_, by assumption, ?_⟩ | refine Alt2.l (aI ?_) | refine Alt2.r (aI ?_)); conv => whnf) | (refine Ok.scope ?_) | ((first | refine Ok.label ?_ | refine rd rfl (by assumption) ?_ | refine ⟨_, .inl ⟨rfl, rfl⟩, ?_⟩ | refine ⟨_, _, rfl, rfl, ?_⟩); conv => whnf) | (refine ⟨fun _ => ?_, fun _ => ?_⟩ <;> (conv => whnf) <;> (try (exfalso; omega))) | ((first | refine aJ ?_ | refine num_any ?_ | refine ⟨_, rfl, ?_⟩); conv => whnf) | fail)
      refine ⟨(i + 1, out ++ l), by dsimp only; omega, ⟨by dsimp only; omega, hex, fun c hc => (List.mem_append.1 hc).elim (hal c) (hla c), by dsimp only; rw [List.length_append]; omega⟩, ?_⟩
      (conv => whnf)
      simp [envCat]
  · have hie : i = ts.length := by omega
    subst hie
    rw [List.drop_length] at hex
    have hex : expX limit ts [] = some out := hex
    rw [expO_some hz harg hex]
    (try (conv => whnf)); repeat' (first | refine Ok.seq ?_ | refine OkL.cons ?_ | ((first | refine Ok.region tok ?_ | refine Ok.region_plan (id := 19) tok follows [(4, 14, []), (6, 14, [13, 12, 10, 9, 8]), (10, 14, [13, 12]), (13, 14, []), (4, 15, [14]), (6, 15, [14, 13, 12, 10, 9, 8]), (10, 15, [14, 13, 12]), (13, 15, [14]), (14, 15, [])] [.q 0, .q 1, .q 2, .q 3, .q 4, .q 5, .q 6, .q 7, .q 8, .q 9, .q 10, .q 11, .q 12, .q 13, .l 14, .l 15, .q 16] (by kernel_rfl) ?_ | refine Ok.region_draw tok follows (by kernel_rfl) ?_ | refine Ok.cond ?_); conv => whnf) | refine Ok.block ?_ | ((first | refine Ok.skip ?_ | refine Ok.exit ?_ | refine Ok.ret ?_ | refine nI ?_ | refine ix _ (by assumption) ?_ | refine ixI (by omega) (by assumption) ?_ | refine ix_new _ (by omega) fun _ _ => ?_ | refine ixI_new (by omega) (by omega) fun _ _ => ?_ | refine ⟨_, by assumption, ?_⟩ | refine Alt2.l (aI ?_) | refine Alt2.r (aI ?_)); conv => whnf) | (refine Ok.scope ?_) | ((first | refine Ok.label ?_ | refine rd rfl (by assumption) ?_ | refine ⟨_, .inl ⟨rfl, rfl⟩, ?_⟩ | refine ⟨_, _, rfl, rfl, ?_⟩); conv => whnf) | (refine ⟨fun _ => ?_, fun _ => ?_⟩ <;> (conv => whnf) <;> (try (exfalso; omega))) | ((first | refine aJ ?_ | refine num_any ?_ | refine ⟨_, rfl, ?_⟩); conv => whnf) | fail)
    refine Or.inl ?_; (conv => whnf)
    refine ⟨rfl, [], ?_⟩
    rw [List.take_of_length_le (by simp), List.drop_of_length_le (by simp)]
    rfl
end Go.Proofs.YtaiondckookpiaaGreatDoor
namespace Go.Proofs.YtaiondckookpiaaGreatDoor
open Go Go.Vx
def dfs : List Str → Str → List Str
  | [], c => [c]
  | m :: ms, c => (splitT c m).flatMap (dfs ms)
theorem cubX_app (a b : List Str) : cubX (a ++ b) = cubX a ++ cubX b := by simp [cubX]
def PartAt (xs : List (List D)) (k : Nat) (ys : List (List D)) : Prop := ∀ i, i < ys.length → xs[k + i]? = ys[i]?
theorem PartAt.left {xs : List (List D)} {k : Nat} {a b : List (List D)} (h : PartAt xs k (a ++ b)) : PartAt xs k a := fun i hi => by
  rw [h i (by rw [List.length_append]; omega), List.getElem?_append_left hi]
theorem PartAt.right {xs : List (List D)} {k : Nat} {a b : List (List D)} (h : PartAt xs k (a ++ b)) : PartAt xs (k + a.length) b := fun i hi => by
  rw [Nat.add_assoc, h (a.length + i) (by rw [List.length_append]; omega), List.getElem?_append_right (by omega), Nat.add_sub_cancel_left]
theorem flat_snoc {α β : Type} {f : α → List β} {l : List α} {i : Nat} {c : α} (hc : l[i]? = some c) : (l.take (i + 1)).flatMap f = (l.take i).flatMap f ++ f c := by
  rw [take_snoc hc, List.flatMap_append]; simp
theorem flat_part {α : Type} {f : α → List Str} {l : List α} {i : Nat} {c : α} (hc : l[i]? = some c) {xs : List (List D)} {k : Nat} (h : PartAt xs k (cubX (l.flatMap f))) : PartAt xs (k + (cubX ((l.take i).flatMap f)).length) (cubX (f c)) := by
  have h1 : l.flatMap f = (l.take i).flatMap f ++ (f c ++ (l.drop (i + 1)).flatMap f) := by
    rw [← List.append_assoc, ← flat_snoc hc, ← List.flatMap_append, List.take_append_drop]
  rw [h1, cubX_app, cubX_app] at h
  exact h.right.left
end Go.Proofs.YtaiondckookpiaaGreatDoor
