/- The walks and the plain laws that a law of spaces needs, part 5 of 5. -/
import Derived.Test.YtagmibogginaaaaGreatDoorPMD
import Derived.Test.YtagmibogginaaaaGreatDoorRows
import Derived.ProofKit
import Derived.OpenShut
import Derived.LaidMore
import Derived.Lay
import Derived.Lib.LaidTab
set_option linter.unusedVariables false
set_option linter.unusedSimpArgs false
namespace Go.Proofs.YtagmibogginaaaaGreatDoor
open Go Go.Vx Go.Shelf
set_option maxHeartbeats 16000000 in
theorem cubes_err (l : List Fd) (r : List (List D)) (hl : l.length ≤ 1000) (f : Str) (op form lo hi len : Int) (pat : Str) (hs : pat.length ≤ 1000000000000) (he : errC l ⟨f, op, form, lo, hi, len, pat⟩ ≠ 0) :
    FSpec Tryz.prog T 39 [.lst 34 (l.map frow) r, .agg (tcl f op form lo hi len pat)] (fun d rows => d = .tup [.own 0 0, .i .i64 (errC l ⟨f, op, form, lo, hi, len, pat⟩)] ∧ rows = [some (9, [])]) := by
  have h1 : (l.map frow).length = l.length := by simp
  have hch := check_at l r hl
  have hfd := find_at l r f hl
  refine FSpec.of_ok tok Tryz.func39 rfl Tryz.call39 (by simp) ?_
  by_cases hc0 : (chkO l).1 = 0
  · obtain ⟨hlay, _⟩ := chk_lay hc0
    rw [errC_f hc0] at he ⊢
    rcases find_cases f l with hfi | ⟨k, c, hfi, hc⟩
    · rw [errF_none hfi]
      rw [hfi] at hfd
      (try (conv => whnf)); repeat' (first | refine Ok.seq ?_ | ((first | refine Ok.region tok ?_ | refine Ok.cond ?_ | refine Ok.skip ?_ | refine Ok.ret ?_); conv => whnf) | (refine Or.inl ?_; (conv => whnf); (repeat (refine aI ?_; conv => whnf)); refine ⟨_, hch, rfl, ?_⟩; conv => whnf) | (refine Or.inl ?_; (conv => whnf); (repeat (refine aI ?_; conv => whnf)); refine ⟨_, hfd, rfl, ?_⟩; conv => whnf) | (refine ⟨fun _ => ?_, fun _ => ?_⟩ <;> (conv => whnf) <;> (try (exfalso; omega))) | fail)
      all_goals first
        | (exfalso; omega)
        | (refine Or.inr (Or.inr ?_); (conv => whnf)
           exact ⟨rfl, rfl⟩)
        | trace_state
    · have hcb := hlay _ (List.mem_of_getElem? hc)
      have hcI : l[((k : Nat) : Int).toNat]? = some c := hc
      have hft := fit_at f op form lo hi len pat c.bits.toNat (by omega) (by omega) hs
      rw [show ((c.bits.toNat : Nat) : Int) = c.bits by omega] at hft
      rw [errF_some hfi hc] at he ⊢
      rw [hfi] at hfd
      generalize errT ⟨f, op, form, lo, hi, len, pat⟩ c.bits.toNat = e at *
      (try (conv => whnf)); repeat' (first | refine Ok.seq ?_ | ((first | refine Ok.region tok ?_ | refine Ok.cond ?_ | refine Ok.skip ?_ | refine Ok.ret ?_ | refine ix _ (by assumption) ?_); conv => whnf) | (refine Or.inl ?_; (conv => whnf); (repeat (refine aI ?_; conv => whnf)); refine ⟨_, hch, rfl, ?_⟩; conv => whnf) | (refine Or.inl ?_; (conv => whnf); (repeat (refine aI ?_; conv => whnf)); refine ⟨_, hfd, rfl, ?_⟩; conv => whnf) | (refine Or.inl ?_; (conv => whnf); (repeat (refine aI ?_; conv => whnf)); refine ⟨_, hft, rfl, ?_⟩; conv => whnf) | (refine ⟨fun _ => ?_, fun _ => ?_⟩ <;> (conv => whnf) <;> (try (exfalso; omega))) | fail)
      all_goals first
        | (exfalso; omega)
        | (refine Or.inr (Or.inr ?_); (conv => whnf)
           exact ⟨rfl, rfl⟩)
        | trace_state
  · rw [errC_chk hc0]
    generalize (chkO l).1 = e at *
    (try (conv => whnf)); repeat' (first | refine Ok.seq ?_ | ((first | refine Ok.region tok ?_ | refine Ok.cond ?_ | refine Ok.ret ?_); conv => whnf) | (refine Or.inl ?_; (conv => whnf); (repeat (refine aI ?_; conv => whnf)); refine ⟨_, hch, rfl, ?_⟩; conv => whnf) | (refine ⟨fun _ => ?_, fun _ => ?_⟩ <;> (conv => whnf) <;> (try (exfalso; omega))) | fail)
    all_goals first
      | (exfalso; omega)
      | (refine Or.inr (Or.inr ?_); (conv => whnf)
         exact ⟨rfl, rfl⟩)
      | trace_state
set_option maxHeartbeats 16000000 in
theorem rcubes_err (l : List Fd) (r : List (List D)) (hl : l.length ≤ 1000) (f : Str) (op form lo hi len : Int) (pat : Str) (hs : pat.length ≤ 1000000000000) (he : errC l ⟨f, op, form, lo, hi, len, pat⟩ ≠ 0) :
    FSpec Tryz.prog T 23 [.lst 34 (l.map frow) r, .agg (tcl f op form lo hi len pat)] (fun d rows => d = .tup [.own 0 0, .i .i64 (errC l ⟨f, op, form, lo, hi, len, pat⟩)] ∧ rows = [some (9, [])]) := by
  have hch := rcheck_at l r hl
  refine FSpec.of_ok tok Tryz.func23 rfl Tryz.call23 (by simp) ?_
  by_cases hc0 : (chkO l).1 = 0
  · obtain ⟨hlay, _⟩ := chk_lay hc0
    rw [errC_f hc0] at he ⊢
    have hte := rtest_at l r hl hlay f op form lo hi len pat hs
    generalize errF l ⟨f, op, form, lo, hi, len, pat⟩ = e at *
    (try (conv => whnf)); repeat' (first | refine Ok.seq ?_ | ((first | refine Ok.region tok ?_ | refine Ok.cond ?_ | refine Ok.skip ?_ | refine Ok.ret ?_); conv => whnf) | (refine Or.inl ?_; (conv => whnf); (repeat (refine aI ?_; conv => whnf)); refine ⟨_, hch, rfl, ?_⟩; conv => whnf) | (refine Or.inl ?_; (conv => whnf); (repeat (refine aI ?_; conv => whnf)); refine ⟨_, hte, rfl, ?_⟩; conv => whnf) | (refine ⟨fun _ => ?_, fun _ => ?_⟩ <;> (conv => whnf) <;> (try (exfalso; omega))) | fail)
    all_goals first
      | (exfalso; omega)
      | (refine Or.inr (Or.inr ?_); (conv => whnf)
         exact ⟨rfl, rfl⟩)
      | trace_state
  · rw [errC_chk hc0]
    generalize (chkO l).1 = e at *
    (try (conv => whnf)); repeat' (first | refine Ok.seq ?_ | ((first | refine Ok.region tok ?_ | refine Ok.cond ?_ | refine Ok.ret ?_); conv => whnf) | (refine Or.inl ?_; (conv => whnf); (repeat (refine aI ?_; conv => whnf)); refine ⟨_, hch, rfl, ?_⟩; conv => whnf) | (refine ⟨fun _ => ?_, fun _ => ?_⟩ <;> (conv => whnf) <;> (try (exfalso; omega))) | fail)
    all_goals first
      | (exfalso; omega)
      | (refine Or.inr (Or.inr ?_); (conv => whnf)
         exact ⟨rfl, rfl⟩)
      | trace_state
def gL (A B : Str) (C : List Str) (i : Nat) : List Str := (C.take i).map (fun x => A ++ x ++ B) ++ C.drop i
theorem gL_len (A B : Str) (C : List Str) {i : Nat} (h : i ≤ C.length) : (gL A B C i).length = C.length := by simp [gL]; omega
theorem gL_zero (A B : Str) (C : List Str) : gL A B C 0 = C := by simp [gL]
theorem gL_end (A B : Str) (C : List Str) : gL A B C C.length = C.map (fun x => A ++ x ++ B) := by simp [gL]
theorem gL_get {A B : Str} {C : List Str} {i : Nat} {x : Str} (h : C[i]? = some x) : (gL A B C i)[i]? = some x := by
  have hi := (List.getElem?_eq_some_iff.1 h).1
  unfold gL
  rw [List.getElem?_append_right (by simp; omega)]
  simp [Nat.min_eq_left (Nat.le_of_lt hi), h]
theorem gL_set {A B : Str} {C : List Str} {i : Nat} {x : Str} (h : C[i]? = some x) : (gL A B C i).set i (A ++ x ++ B) = gL A B C (i + 1) := by
  obtain ⟨hi, rfl⟩ := List.getElem?_eq_some_iff.1 h
  unfold gL
  have h1 : ((C.take i).map fun x => A ++ x ++ B).length = i := by simp; omega
  rw [List.set_append_right _ _ (by omega), h1, Nat.sub_self, List.drop_eq_getElem_cons hi, take_snoc h, List.map_append, List.set_cons_zero]
  simp only [List.map_cons, List.map_nil, List.append_assoc, List.cons_append, List.nil_append]
theorem cubL_at {l : List Fd} {t : Tst} {k : Nat} {c : Fd} (hfi : findI t.f l 0 = (k : Nat)) (hc : l[k]? = some c) : cubL l t = (valT t c.bits.toNat).map (fun x => xsT (wid (l.take k)) ++ x ++ xsT (wid (l.drop (k + 1)))) := by
  unfold cubL
  rw [hfi, Int.toNat_natCast, hc]
  rfl
set_option maxHeartbeats 16000000 in
theorem cubes_ok (l : List Fd) (r : List (List D)) (hl : l.length ≤ 1000) (f : Str) (op form lo hi len : Int) (pat : Str) (hs : pat.length ≤ 1000000000000) (he : errC l ⟨f, op, form, lo, hi, len, pat⟩ = 0) :
    FSpec Tryz.prog T 39 [.lst 34 (l.map frow) r, .agg (tcl f op form lo hi len pat)] (fun d rows => d = .tup [.own 0 (cubL l ⟨f, op, form, lo, hi, len, pat⟩).length, .i .i64 0] ∧ rows = [some (9, (cubL l ⟨f, op, form, lo, hi, len, pat⟩).map srow)]) := by
  have h1 : (l.map frow).length = l.length := by simp
  have hch := check_at l r hl
  have hfd := find_at l r f hl
  by_cases hc0 : (chkO l).1 = 0
  case neg => exact absurd he (by rw [errC_chk hc0]; exact hc0)
  obtain ⟨hlay, hl12⟩ := chk_lay hc0
  rw [errC_f hc0] at he
  rcases find_cases f l with hfi | ⟨k, c, hfi, hc⟩
  · rw [errF_none hfi] at he; cases he
  rw [errF_some hfi hc] at he
  rw [cubL_at hfi hc]
  have hcb := hlay _ (List.mem_of_getElem? hc)
  have hcI : l[((k : Nat) : Int).toNat]? = some c := hc
  have hkl := (List.getElem?_eq_some_iff.1 hc).1
  obtain ⟨b, hb⟩ : ∃ b : Nat, c.bits = (b : Nat) := ⟨c.bits.toNat, by omega⟩
  have hft := fit_at f op form lo hi len pat c.bits.toNat (by omega) (by omega) hs
  rw [he, show ((c.bits.toNat : Nat) : Int) = c.bits by omega] at hft
  rw [show c.bits.toNat = b by omega] at he ⊢
  rw [hfi] at hfd
  obtain ⟨hF, hV, hD⟩ := errT_zero he
  have hV2 := hV
  unfold ValOk at hV2
  have hA := hF.a
  dsimp only at hV2 hA hD
  obtain ⟨vl, rfl⟩ : ∃ v : Nat, lo = v := ⟨lo.toNat, by omega⟩
  obtain ⟨vh, rfl⟩ : ∃ v : Nat, hi = v := ⟨hi.toNat, by omega⟩
  obtain ⟨vn, rfl⟩ : ∃ v : Nat, len = v := ⟨len.toNat, by omega⟩
  have hva := values_at f op form vl vh vn pat b (by omega) (by omega) (by omega) (by omega) (by omega) (by omega) (fun h => (hD h).1) (fun h => (hD h).2)
  have hvo := val_one (t := ⟨f, op, form, vl, vh, vn, pat⟩) (b := b) (by omega) (by omega) hD (by simp; omega)
  have hvn := val_len (t := ⟨f, op, form, vl, vh, vn, pat⟩) (b := b) (by omega) (by omega) (by simp; omega) (by simp; omega)
  rw [← hb] at hva
  generalize valT ⟨f, op, form, vl, vh, vn, pat⟩ b = C at *
  have hlt := lay_take hlay k
  have hld := lay_drop hlay (k + 1)
  have hw1 := wid_le hlt
  have hw2 := wid_le hld
  have ht1 : (l.take k).length = k := by simp; omega
  have ht2 : (l.drop (k + 1)).length = l.length - (k + 1) := by simp
  have hx1 := xrep_at (wid (l.take k)) (by omega)
  have hx2 := xrep_at (wid (l.drop (k + 1))) (by omega)
  have hxl1 := xsT_len (wid (l.take k))
  have hxl2 := xsT_len (wid (l.drop (k + 1)))
  have hwa := fun r => width_at (l.take k) r (by omega) hlt
  have hwb := fun r => width_at (l.drop (k + 1)) r (by omega) hld
  have hm1 : (l.take k).map frow = ((l.map frow ++ r).take k).drop 0 := by rw [List.drop_zero, List.take_append_of_le_length (by omega), List.map_take]
  have hm2 : (l.drop (k + 1)).map frow = ((l.map frow ++ r).take (l.map frow).length).drop (k + 1) := by rw [List.take_append_of_le_length (Nat.le_refl _), List.take_length, List.map_drop]
  generalize xsT (wid (l.take k)) = X at *
  generalize xsT (wid (l.drop (k + 1))) = Y at *
  have hlC : (C.map srow).length = C.length := by simp
  refine FSpec.of_ok tok Tryz.func39 rfl Tryz.call39 (by simp) ?_
  (try (conv => whnf)); repeat' (first | (refine ⟨k + 1, (l.map frow).length, rfl, rfl, (by omega), (by omega), (l.drop (k + 1)).map frow, _, hm2, rfl, ?_⟩; (conv => whnf)) | (refine ⟨(l.take k).map frow, _, hm1, rfl, ?_⟩; (conv => whnf)) | refine Ok.seq ?_ | ((first | refine Ok.region tok ?_ | refine Ok.cond ?_); conv => whnf) | refine Ok.block ?_ | ((first | refine Ok.skip ?_ | refine nI ?_ | refine ix _ (by assumption) ?_); conv => whnf) | (refine Or.inl ?_; (conv => whnf); (repeat (refine aI ?_; conv => whnf)); refine ⟨_, hch, rfl, ?_⟩; conv => whnf) | (refine Or.inl ?_; (conv => whnf); (repeat (refine aI ?_; conv => whnf)); refine ⟨_, hfd, rfl, ?_⟩; conv => whnf) | (refine Or.inl ?_; (conv => whnf); (repeat (refine aI ?_; conv => whnf)); refine ⟨_, hft, rfl, ?_⟩; conv => whnf) | (refine Or.inl ?_; (conv => whnf); (repeat (refine aI ?_; conv => whnf)); refine ⟨_, hwa _, rfl, ?_⟩; conv => whnf) | (refine Or.inl ?_; (conv => whnf); (repeat (refine aI ?_; conv => whnf)); refine ⟨_, hwb _, rfl, ?_⟩; conv => whnf) | (refine Or.inl ?_; (conv => whnf); (repeat (refine aI ?_; conv => whnf)); refine ⟨_, hx1, rfl, ?_⟩; conv => whnf) | (refine Or.inl ?_; (conv => whnf); (repeat (refine aI ?_; conv => whnf)); refine ⟨_, hx2, rfl, ?_⟩; conv => whnf) | (refine Or.inr (Or.inl ?_); (conv => whnf); (repeat (refine aI ?_; conv => whnf)); refine ⟨_, hva, ?_⟩; rintro _ _ ⟨rfl, rfl⟩; conv => whnf) | (refine ⟨_, _, rfl, rfl, ?_⟩; conv => whnf) | (refine ⟨fun _ => ?_, fun _ => ?_⟩ <;> (conv => whnf) <;> (try (exfalso; omega))) | (refine aJ ?_; conv => whnf) | fail)
  all_goals first
    | (exfalso; omega)
    | skip
  rw [show C.map srow = (gL X Y C 0).map srow by rw [gL_zero]]
  refine Ok.loopU [11, 12, 13, 55] [56] 1 1 (fun (i : Nat) => [.i .i64 (i : Nat)]) (fun _ b => b) (fun (i : Nat) (_ : Vx.Rows) => [some (9, (gL X Y C i).map srow)]) (fun (i : Nat) => i ≤ C.length) (fun (i : Nat) => C.length - i) (0) (Nat.zero_le _) ?_; (conv => whnf); refine ⟨by ((conv => whnf); first | rfl | (simp [envCat, List.take_of_length_le, nrow, frow, bcell, srow, tcells, crow]; done) | (simp [envCat, List.take_of_length_le, nrow, frow, bcell, srow, tcells, crow]; rw [IntKind.wrap_i64]; omega)), ?_⟩
  intro i hi
  have hgl := gL_len X Y C hi
  have hgm : ((gL X Y C i).map srow).length = C.length := by rw [List.length_map, hgl]
  (conv => whnf)
  by_cases hil : i < C.length
  · obtain ⟨x, hx⟩ : ∃ x, C[i]? = some x := ⟨_, List.getElem?_eq_getElem hil⟩
    have hg := gL_get (A := X) (B := Y) hx
    have hgs := gL_set (A := X) (B := Y) hx
    have hxl := hvo x (List.mem_of_getElem? hx)
    have hgI : (gL X Y C i)[((i : Nat) : Int).toNat]? = some x := hg
    have hap : (X ++ x : Str).length = X.length + x.length := List.length_append
    (try (conv => whnf)); repeat' (first | (refine rd rfl hgI ?_; (conv => whnf)) | (refine st (X ++ x ++ Y) hgI (by simp) rfl ?_; (conv => whnf)) | refine Ok.seq ?_ | ((first | refine Ok.region tok ?_ | refine Ok.cond ?_); conv => whnf) | refine Ok.block ?_ | ((first | refine Ok.skip ?_ | refine nI ?_); conv => whnf) | (refine ⟨fun _ => ?_, fun _ => ?_⟩ <;> (conv => whnf) <;> (try (exfalso; omega))) | (refine aJ ?_; conv => whnf) | fail)
    all_goals first
      | (exfalso; omega)
      | skip
    refine ⟨i + 1, by omega, by omega, ?_⟩
    rw [← hgs]
    (conv => whnf)
    rfl
  · have hie : i = C.length := by omega
    subst hie
    rw [gL_end]
    (try (conv => whnf)); repeat' (first | refine Ok.seq ?_ | ((first | refine Ok.region tok ?_ | refine Ok.cond ?_ | refine Ok.exit ?_ | refine Ok.ret ?_); conv => whnf) | (refine ⟨fun _ => ?_, fun _ => ?_⟩ <;> (conv => whnf) <;> (try (exfalso; omega))) | fail)
    all_goals first
      | (exfalso; omega)
      | (refine Or.inr (Or.inl ?_); (conv => whnf)
         exact ⟨by simp; rfl, rfl⟩)
      | trace_state
set_option maxHeartbeats 16000000 in
theorem rcubes_ok (l : List Fd) (r : List (List D)) (hl : l.length ≤ 1000) (f : Str) (op form lo hi len : Int) (pat : Str) (hs : pat.length ≤ 1000000000000) (he : errC l ⟨f, op, form, lo, hi, len, pat⟩ = 0) :
    FSpec Tryz.prog T 23 [.lst 34 (l.map frow) r, .agg (tcl f op form lo hi len pat)] (fun d rows => d = .tup [.own 0 (cubL l ⟨f, op, form, lo, hi, len, pat⟩).length, .i .i64 0] ∧ rows = [some (9, (cubL l ⟨f, op, form, lo, hi, len, pat⟩).map srow)]) := by
  have h1 : (l.map frow).length = l.length := by simp
  have hch := rcheck_at l r hl
  by_cases hc0 : (chkO l).1 = 0
  case neg => exact absurd he (by rw [errC_chk hc0]; exact hc0)
  obtain ⟨hlay, hl12⟩ := chk_lay hc0
  rw [errC_f hc0] at he
  have hte := rtest_at l r hl hlay f op form lo hi len pat hs
  rw [he] at hte
  have hpl := tplace_at l r f hl hlay
  rcases find_cases f l with hfi | ⟨k, c, hfi, hc⟩
  · rw [errF_none hfi] at he; cases he
  rw [errF_some hfi hc] at he
  rw [cubL_at hfi hc]
  have hcb := hlay _ (List.mem_of_getElem? hc)
  have hcI : l[((k : Nat) : Int).toNat]? = some c := hc
  have hkl := (List.getElem?_eq_some_iff.1 hc).1
  obtain ⟨b, hb⟩ : ∃ b : Nat, c.bits = (b : Nat) := ⟨c.bits.toNat, by omega⟩
  rw [show c.bits.toNat = b by omega] at he ⊢
  rw [plI_some hfi, hfi] at hpl
  obtain ⟨hF, hV, hD⟩ := errT_zero he
  have hV2 := hV
  unfold ValOk at hV2
  have hA := hF.a
  dsimp only at hV2 hA hD
  obtain ⟨vl, rfl⟩ : ∃ v : Nat, lo = v := ⟨lo.toNat, by omega⟩
  obtain ⟨vh, rfl⟩ : ∃ v : Nat, hi = v := ⟨hi.toNat, by omega⟩
  obtain ⟨vn, rfl⟩ : ∃ v : Nat, len = v := ⟨len.toNat, by omega⟩
  have hva := rat_at f op form vl vh vn pat b (by omega) (by omega) (by omega) (by omega) (by omega) (by omega) (fun h => (hD h).1) (fun h => (hD h).2)
  have hvo := val_one (t := ⟨f, op, form, vl, vh, vn, pat⟩) (b := b) (by omega) (by omega) hD (by simp; omega)
  have hvn := val_len (t := ⟨f, op, form, vl, vh, vn, pat⟩) (b := b) (by omega) (by omega) (by simp; omega) (by simp; omega)
  rw [← hb] at hva
  generalize valT ⟨f, op, form, vl, vh, vn, pat⟩ b = C at *
  have hlt := lay_take hlay k
  have hld := lay_drop hlay (k + 1)
  have hw1 := wid_le hlt
  have hw2 := wid_le hld
  have hww := wid_app l (k + 1)
  have hws := wid_snoc hc
  have hw := wid_le hlay
  have hwt := rwidth_at l r hl hlay
  have ht1 : (l.take k).length = k := by simp; omega
  have ht2 : (l.drop (k + 1)).length = l.length - (k + 1) := by simp
  have hx1 := xs_at (wid (l.take k)) (by omega)
  have hx2 := xs_at (wid (l.drop (k + 1))) (by omega)
  rw [show ((wid (l.drop (k + 1)) : Nat) : Int) = (wid l : Int) - (wid (l.take k) : Int) - c.bits by omega] at hx2
  have hxl1 := xsT_len (wid (l.take k))
  have hxl2 := xsT_len (wid (l.drop (k + 1)))
  generalize xsT (wid (l.take k)) = X at *
  generalize xsT (wid (l.drop (k + 1))) = Y at *
  have hlC : (C.map srow).length = C.length := by simp
  refine FSpec.of_ok tok Tryz.func23 rfl Tryz.call23 (by simp) ?_
  (try (conv => whnf)); repeat' (first | refine Ok.seq ?_ | ((first | refine Ok.region tok ?_ | refine Ok.cond ?_); conv => whnf) | refine Ok.block ?_ | ((first | refine Ok.skip ?_ | refine ix _ (by assumption) ?_); conv => whnf) | (refine Or.inl ?_; (conv => whnf); (repeat (refine aI ?_; conv => whnf)); refine ⟨_, hch, rfl, ?_⟩; conv => whnf) | (refine Or.inl ?_; (conv => whnf); (repeat (refine aI ?_; conv => whnf)); refine ⟨_, hte, rfl, ?_⟩; conv => whnf) | (refine Or.inl ?_; (conv => whnf); (repeat (refine aI ?_; conv => whnf)); refine ⟨_, hpl, rfl, ?_⟩; conv => whnf) | (refine Or.inl ?_; (conv => whnf); (repeat (refine aI ?_; conv => whnf)); refine ⟨_, hwt, rfl, ?_⟩; conv => whnf) | (refine Or.inr (Or.inl ?_); (conv => whnf); (repeat (refine aI ?_; conv => whnf)); refine ⟨_, hva, ?_⟩; rintro _ _ ⟨rfl, rfl⟩; conv => whnf) | (refine ⟨fun _ => ?_, fun _ => ?_⟩ <;> (conv => whnf) <;> (try (exfalso; omega))) | fail)
  all_goals first
    | (exfalso; omega)
    | skip
  refine Ok.ghost 13 9 rfl ?_
  (conv => whnf)
  refine Ok.loopU [8, 10, 11, 12] [13, 14] 2 1 (fun (i : Nat) => [.own 1 i, .i .i64 (i : Nat)]) (fun _ b => b) (fun (i : Nat) (_ : Vx.Rows) => [some (9, C.map srow), some (9, ((C.take i).map fun x => X ++ x ++ Y).map srow)]) (fun (i : Nat) => i ≤ C.length) (fun (i : Nat) => C.length - i) (0) (Nat.zero_le _) ?_; (conv => whnf); refine ⟨by ((conv => whnf); first | rfl | (simp [envCat, List.take_of_length_le, nrow, frow, bcell, srow, tcells, crow]; done) | (simp [envCat, List.take_of_length_le, nrow, frow, bcell, srow, tcells, crow]; rw [IntKind.wrap_i64]; omega)), ?_⟩
  intro i hi
  have hgm : (((C.take i).map fun x => X ++ x ++ Y).map srow).length = i := by simp; omega
  (conv => whnf)
  by_cases hil : i < C.length
  · obtain ⟨x, hx⟩ : ∃ x, C[i]? = some x := ⟨_, List.getElem?_eq_getElem hil⟩
    have hxI : C[((i : Nat) : Int).toNat]? = some x := hx
    have hxl := hvo x (List.mem_of_getElem? hx)
    have hap : (X ++ x : Str).length = X.length + x.length := List.length_append
    have hsn : ((C.take (i + 1)).map fun x => X ++ x ++ Y).map srow = ((C.take i).map fun x => X ++ x ++ Y).map srow ++ [srow (X ++ x ++ Y)] := by rw [take_snoc hx, List.map_append, List.map_append]; rfl
    (try (conv => whnf)); repeat' (first | refine Ok.seq ?_ | ((first | refine Ok.region tok ?_ | refine Ok.region_plan (id := 15) tok follows [(2, 13, []), (6, 15, [14, 7]), (2, 15, [14, 7]), (13, 15, [14]), (6, 16, [15, 14, 7]), (2, 16, [13]), (13, 16, []), (15, 16, [])] [.q 0, .q 1, .q 3, .q 4, .q 5, .q 6, .q 8, .q 9, .q 10, .q 11, .q 12, .l 2, .q 7, .l 13, .q 14, .l 15, .l 16, .q 17] (by kernel_rfl) ?_ | refine Ok.cond ?_); conv => whnf) | refine Ok.block ?_ | ((first | refine Ok.skip ?_ | refine nI ?_); conv => whnf) | (refine Or.inl ?_; (conv => whnf); (repeat (refine aI ?_; conv => whnf)); refine ⟨_, hx1, rfl, ?_⟩; conv => whnf) | (refine Or.inl ?_; (conv => whnf); (repeat (refine aI ?_; conv => whnf)); refine ⟨_, hx2, rfl, ?_⟩; conv => whnf) | ((first | refine Alt2.l (aI ?_) | refine rd rfl (by assumption) ?_ | refine ⟨_, .inl ⟨rfl, rfl⟩, ?_⟩ | refine ⟨_, _, rfl, rfl, ?_⟩); conv => whnf) | (refine ⟨fun _ => ?_, fun _ => ?_⟩ <;> (conv => whnf) <;> (try (exfalso; omega))) | (refine aJ ?_; conv => whnf) | fail)
    all_goals first
      | (exfalso; omega)
      | skip
    refine ⟨i + 1, by omega, by omega, ?_⟩
    rw [hsn]
    (conv => whnf)
    simp [envCat]
    try omega
  · have hie : i = C.length := by omega
    subst hie
    rw [List.take_length]
    (try (conv => whnf)); repeat' (first | refine Ok.seq ?_ | ((first | refine Ok.region tok ?_ | refine Ok.cond ?_ | refine Ok.exit ?_ | refine Ok.ret ?_); conv => whnf) | (refine ⟨fun _ => ?_, fun _ => ?_⟩ <;> (conv => whnf) <;> (try (exfalso; omega))) | fail)
    all_goals first
      | (exfalso; omega)
      | (refine Or.inr (Or.inl ?_); (conv => whnf)
         exact ⟨by simp; rfl, rfl⟩)
      | trace_state
end Go.Proofs.YtagmibogginaaaaGreatDoor
namespace Go.Proofs.YtagmibogginaaaaGreatDoor
open Go Go.Vx Go.Shelf
open Classical in
noncomputable def tstE (l : List Fd) : List Nd → Int
  | [] => 0
  | c :: r => if c.kind = 3 ∧ errC l c.t ≠ 0 then errC l c.t else tstE l r
theorem tstE_bad {l : List Fd} {c : Nd} {r : List Nd} (h : c.kind = 3) (h2 : errC l c.t ≠ 0) : tstE l (c :: r) = errC l c.t := by unfold tstE; rw [if_pos ⟨h, h2⟩]
theorem tstE_ok {l : List Fd} {c : Nd} {r : List Nd} (h : ¬ (c.kind = 3 ∧ errC l c.t ≠ 0)) : tstE l (c :: r) = tstE l r := by conv => lhs; unfold tstE; rw [if_neg h]
noncomputable def nestE (l : List Fd) (e : List Nd) : Option Tr → Int | none => 52 | some x => if 32 < x.nest then 53 else tstE l e
open Classical in
/-- What Check tells. -/
noncomputable def chkE (l : List Fd) (e : List Nd) : Int := if (chkO l).1 ≠ 0 then (chkO l).1 else if 64 < e.length then 51 else nestE l e (bldO e)
theorem chkE_f {l : List Fd} {e : List Nd} (h : (chkO l).1 ≠ 0) : chkE l e = (chkO l).1 := by unfold chkE; rw [if_pos h]
theorem chkE_l {l : List Fd} {e : List Nd} (h : (chkO l).1 = 0) (h2 : 64 < e.length) : chkE l e = 51 := by unfold chkE; rw [if_neg (fun x => x h), if_pos h2]
theorem chkE_b {l : List Fd} {e : List Nd} (h : (chkO l).1 = 0) (h2 : ¬ 64 < e.length) (h3 : bldO e = none) : chkE l e = 52 := by unfold chkE; rw [if_neg (fun x => x h), if_neg h2, h3]; rfl
theorem chkE_d {l : List Fd} {e : List Nd} {x : Tr} (h : (chkO l).1 = 0) (h2 : ¬ 64 < e.length) (h3 : bldO e = some x) (h4 : 32 < x.nest) : chkE l e = 53 := by unfold chkE; rw [if_neg (fun x => x h), if_neg h2, h3]; exact if_pos h4
theorem chkE_t {l : List Fd} {e : List Nd} {x : Tr} (h : (chkO l).1 = 0) (h2 : ¬ 64 < e.length) (h3 : bldO e = some x) (h4 : ¬ 32 < x.nest) : chkE l e = tstE l e := by unfold chkE; rw [if_neg (fun x => x h), if_neg h2, h3]; exact if_neg h4
open Classical in
noncomputable def chkD (l : List Fd) (e : List Nd) : D := if chkE l e = 0 then (match bldO e with | some x => .tup [x.d, .i .i64 0] | none => .u) else .tup [.nilI, .i .i64 (chkE l e)]
theorem chkD_err {l : List Fd} {e : List Nd} {k : Int} (h : chkE l e = k) (h2 : k ≠ 0) : chkD l e = .tup [.nilI, .i .i64 k] := by unfold chkD; rw [h, if_neg h2]
theorem chkD_ok {l : List Fd} {e : List Nd} {x : Tr} (h : chkE l e = 0) (h2 : bldO e = some x) : chkD l e = .tup [x.d, .i .i64 0] := by unfold chkD; rw [if_pos h, h2]
set_option maxHeartbeats 16000000 in
theorem echk_at (l : List Fd) (r : List (List D)) (e : List Nd) (r2 : List (List D)) (hl : l.length ≤ 1000) (he : e.length ≤ 1000) (htx : TxtOk e) :
    FSpec Tryz.prog T 20 [.lst 34 (l.map frow) r, .lst 56 (e.map nrow) r2] (fun d rows => d = chkD l e ∧ rows = []) := by
  have h1 : (l.map frow).length = l.length := by simp
  have h2 : (e.map nrow).length = e.length := by simp
  have hch := check_at l r hl
  refine FSpec.of_ok tok Tryz.func20 rfl Tryz.call20 (by simp) ?_
  by_cases c1 : (chkO l).1 = 0
  case neg =>
    rw [chkD_err (chkE_f c1) c1]
    generalize (chkO l).1 = k at *
    (try (conv => whnf)); repeat' (first | refine Ok.seq ?_ | ((first | refine Ok.region tok ?_ | refine Ok.cond ?_ | refine Ok.ret ?_); conv => whnf) | (refine Or.inl ?_; (conv => whnf); (repeat (refine aI ?_; conv => whnf)); refine ⟨_, hch, rfl, ?_⟩; conv => whnf) | (refine ⟨fun _ => ?_, fun _ => ?_⟩ <;> (conv => whnf) <;> (try (exfalso; omega))) | fail)
    all_goals first
      | (exfalso; omega)
      | (refine Or.inl ?_; (conv => whnf)
         exact ⟨rfl, rfl⟩)
      | trace_state
  by_cases c2 : 64 < e.length
  · rw [chkD_err (chkE_l c1 c2) (by decide)]
    (try (conv => whnf)); repeat' (first | refine Ok.seq ?_ | ((first | refine Ok.region tok ?_ | refine Ok.cond ?_ | refine Ok.skip ?_ | refine Ok.ret ?_); conv => whnf) | (refine Or.inl ?_; (conv => whnf); (repeat (refine aI ?_; conv => whnf)); refine ⟨_, hch, rfl, ?_⟩; conv => whnf) | (refine ⟨fun _ => ?_, fun _ => ?_⟩ <;> (conv => whnf) <;> (try (exfalso; omega))) | fail)
    all_goals first
      | (exfalso; omega)
      | (refine Or.inl ?_; (conv => whnf)
         exact ⟨rfl, rfl⟩)
      | trace_state
  have hbl := build_at e r2 he
  cases hb : bldO e with
  | none =>
    rw [chkD_err (chkE_b c1 c2 hb) (by decide)]
    rw [hb] at hbl
    (try (conv => whnf)); repeat' (first | refine Ok.seq ?_ | ((first | refine Ok.region tok ?_ | refine Ok.cond ?_ | refine Ok.skip ?_ | refine Ok.ret ?_); conv => whnf) | (refine Or.inl ?_; (conv => whnf); (repeat (refine aI ?_; conv => whnf)); refine ⟨_, hch, rfl, ?_⟩; conv => whnf) | (refine Or.inr (Or.inl ?_); (conv => whnf); (repeat (refine aI ?_; conv => whnf)); refine ⟨_, hbl, ?_⟩; rintro _ _ ⟨rfl, rfl⟩; conv => whnf) | (refine ⟨fun _ => ?_, fun _ => ?_⟩ <;> (conv => whnf) <;> (try (exfalso; omega))) | fail)
    all_goals first
      | (exfalso; omega)
      | (rename_i h; exact absurd (fun h2 => h2) h)
      | (refine Or.inl ?_; (conv => whnf)
         exact ⟨rfl, rfl⟩)
      | trace_state
  | some x =>
    rw [hb] at hbl
    have hsz := bldO_sz hb
    obtain ⟨fx, mx, sx⟩ := nest_at x (by omega)
    have hnx := nest_le x
    by_cases c4 : 32 < x.nest
    · rw [chkD_err (chkE_d c1 c2 hb c4) (by decide)]
      (try (conv => whnf)); repeat' (first | (refine ⟨fun h => absurd trivial h, fun _ => ?_⟩; (conv => whnf)) | refine Ok.seq ?_ | ((first | refine Ok.region tok ?_ | refine Ok.cond ?_ | refine Ok.skip ?_ | refine Ok.ret ?_); conv => whnf) | (refine Or.inl ?_; (conv => whnf); (repeat (refine aI ?_; conv => whnf)); refine ⟨_, hch, rfl, ?_⟩; conv => whnf) | (refine Or.inr (Or.inl ?_); (conv => whnf); (repeat (refine aI ?_; conv => whnf)); refine ⟨_, hbl, ?_⟩; rintro _ _ ⟨rfl, rfl⟩; conv => whnf) | (refine Or.inl ?_; (conv => whnf); (repeat (refine aI ?_; conv => whnf)); refine ⟨_, mx, _, sx, rfl, ?_⟩; conv => whnf) | (refine ⟨fun _ => ?_, fun _ => ?_⟩ <;> (conv => whnf) <;> (try (exfalso; omega))) | fail)
      all_goals first
        | (exfalso; omega)
        | (refine Or.inl ?_; (conv => whnf)
           exact ⟨rfl, rfl⟩)
        | trace_state
    · have hce := chkE_t c1 c2 hb c4
      (try (conv => whnf)); repeat' (first | (refine ⟨fun h => absurd trivial h, fun _ => ?_⟩; (conv => whnf)) | refine Ok.seq ?_ | ((first | refine Ok.region tok ?_ | refine Ok.cond ?_); conv => whnf) | refine Ok.block ?_ | (refine Ok.skip ?_; conv => whnf) | (refine Or.inl ?_; (conv => whnf); (repeat (refine aI ?_; conv => whnf)); refine ⟨_, hch, rfl, ?_⟩; conv => whnf) | (refine Or.inr (Or.inl ?_); (conv => whnf); (repeat (refine aI ?_; conv => whnf)); refine ⟨_, hbl, ?_⟩; rintro _ _ ⟨rfl, rfl⟩; conv => whnf) | (refine Or.inl ?_; (conv => whnf); (repeat (refine aI ?_; conv => whnf)); refine ⟨_, mx, _, sx, rfl, ?_⟩; conv => whnf) | (refine ⟨fun _ => ?_, fun _ => ?_⟩ <;> (conv => whnf) <;> (try (exfalso; omega))) | fail)
      all_goals first
        | (exfalso; omega)
        | skip
      refine Ok.loopU [0, 8, 35, 36] [37] 0 0 (fun (i : Nat) => [.i .i64 (i : Nat)]) (fun _ b => b) (fun _ r => r) (fun (i : Nat) => i ≤ e.length ∧ tstE l e = tstE l (e.drop i)) (fun (i : Nat) => e.length - i) (0) (⟨Nat.zero_le _, rfl⟩) ?_; (conv => whnf); refine ⟨by ((conv => whnf); first | rfl | (simp [envCat, List.take_of_length_le, nrow, frow, bcell, srow, tcells, crow, qrow, prow]; done) | (simp [envCat, List.take_of_length_le, nrow, frow, bcell, srow, tcells, crow, qrow, prow]; rw [IntKind.wrap_i64]; omega)), ?_⟩
      rintro i ⟨hi, ht⟩
      (conv => whnf)
      by_cases hil : i < e.length
      · obtain ⟨c, hc⟩ : ∃ c, e[i]? = some c := ⟨_, List.getElem?_eq_getElem hil⟩
        have hcI : e[((i : Nat) : Int).toNat]? = some c := hc
        have htc := htx c (List.mem_of_getElem? hc)
        rw [fdrop_at hc] at ht
        by_cases hk : c.kind = 3
        · by_cases hE : errC l c.t = 0
          · have hcu := cubes_ok l r hl c.t.f c.t.op c.t.form c.t.lo c.t.hi c.t.len c.t.pat htc.2 hE
            generalize cubL l ⟨c.t.f, c.t.op, c.t.form, c.t.lo, c.t.hi, c.t.len, c.t.pat⟩ = Q at *
            rw [tstE_ok (fun h => h.2 hE)] at ht
            (try (conv => whnf)); repeat' (first | refine Ok.seq ?_ | ((first | refine Ok.region tok ?_ | refine Ok.cond ?_); conv => whnf) | refine Ok.block ?_ | ((first | refine Ok.skip ?_ | refine nI ?_ | refine ix _ (by assumption) ?_); conv => whnf) | (refine Or.inr (Or.inl ?_); (conv => whnf); (repeat (refine aI ?_; conv => whnf)); refine ⟨_, hcu, ?_⟩; rintro _ _ ⟨rfl, rfl⟩; conv => whnf) | (refine ⟨fun _ => ?_, fun _ => ?_⟩ <;> (conv => whnf) <;> (try (exfalso; omega))) | fail)
            all_goals first
              | (exfalso; omega)
              | (refine ⟨i + 1, by omega, ⟨by omega, ht⟩, ?_⟩
                 (conv => whnf)
                 rfl)
              | trace_state
          · have hcu := cubes_err l r hl c.t.f c.t.op c.t.form c.t.lo c.t.hi c.t.len c.t.pat htc.2 hE
            rw [tstE_bad hk hE] at ht
            rw [chkD_err (hce.trans ht) hE]
            have hE2 : errC l ⟨c.t.f, c.t.op, c.t.form, c.t.lo, c.t.hi, c.t.len, c.t.pat⟩ = errC l c.t := rfl
            rw [hE2] at hcu
            generalize errC l c.t = k at *
            (try (conv => whnf)); repeat' (first | refine Ok.seq ?_ | ((first | refine Ok.region tok ?_ | refine Ok.cond ?_); conv => whnf) | refine Ok.block ?_ | ((first | refine Ok.skip ?_ | refine Ok.ret ?_ | refine ix _ (by assumption) ?_); conv => whnf) | (refine Or.inr (Or.inl ?_); (conv => whnf); (repeat (refine aI ?_; conv => whnf)); refine ⟨_, hcu, ?_⟩; rintro _ _ ⟨rfl, rfl⟩; conv => whnf) | (refine ⟨fun _ => ?_, fun _ => ?_⟩ <;> (conv => whnf) <;> (try (exfalso; omega))) | fail)
            all_goals first
              | (exfalso; omega)
              | (refine Or.inl ?_; (conv => whnf)
                 exact ⟨rfl, rfl⟩)
              | trace_state
        · rw [tstE_ok (fun h => hk h.1)] at ht
          (try (conv => whnf)); repeat' (first | refine Ok.seq ?_ | ((first | refine Ok.region tok ?_ | refine Ok.cond ?_); conv => whnf) | refine Ok.block ?_ | ((first | refine Ok.skip ?_ | refine Ok.exit ?_ | refine nI ?_ | refine ix _ (by assumption) ?_); conv => whnf) | (refine ⟨fun _ => ?_, fun _ => ?_⟩ <;> (conv => whnf) <;> (try (exfalso; omega))) | fail)
          all_goals first
            | (exfalso; omega)
            | (refine ⟨i + 1, by omega, ⟨by omega, ht⟩, ?_⟩
               (conv => whnf)
               rfl)
            | trace_state
      · have hie : i = e.length := by omega
        subst hie
        rw [List.drop_length] at ht
        rw [chkD_ok (hce.trans ht) hb]
        (try (conv => whnf)); repeat' (first | refine Ok.seq ?_ | ((first | refine Ok.region tok ?_ | refine Ok.cond ?_ | refine Ok.exit ?_ | refine Ok.ret ?_); conv => whnf) | (refine ⟨fun _ => ?_, fun _ => ?_⟩ <;> (conv => whnf) <;> (try (exfalso; omega))) | fail)
        all_goals first
          | (exfalso; omega)
          | (refine Or.inl ?_; (conv => whnf)
             exact ⟨rfl, rfl⟩)
          | trace_state
end Go.Proofs.YtagmibogginaaaaGreatDoor
namespace Go.Proofs.YtagmibogginaaaaGreatDoor
open Go Go.Vx Go.Shelf
set_option maxHeartbeats 16000000 in
theorem rechk_at (l : List Fd) (r : List (List D)) (e : List Nd) (r2 : List (List D)) (hl : l.length ≤ 1000) (he : e.length ≤ 1000) (htx : TxtOk e) :
    FSpec Tryz.prog T 10 [.lst 34 (l.map frow) r, .lst 56 (e.map nrow) r2] (fun d _ => d = .i .i64 (chkE l e)) := by
  have h1 : (l.map frow).length = l.length := by simp
  have h2 : (e.map nrow).length = e.length := by simp
  have hch := rcheck_at l r hl
  refine FSpec.of_ok tok Tryz.func10 rfl Tryz.call10 (by simp) ?_
  by_cases c1 : (chkO l).1 = 0
  case neg =>
    rw [chkE_f c1]
    generalize (chkO l).1 = k at *
    (try (conv => whnf)); repeat' (first | refine Ok.seq ?_ | ((first | refine Ok.region tok ?_ | refine Ok.cond ?_ | refine Ok.ret ?_); conv => whnf) | (refine Or.inl ?_; (conv => whnf); (repeat (refine aI ?_; conv => whnf)); refine ⟨_, hch, rfl, ?_⟩; conv => whnf) | (refine ⟨fun _ => ?_, fun _ => ?_⟩ <;> (conv => whnf) <;> (try (exfalso; omega))) | fail)
    all_goals first
      | (exfalso; omega)
      | (refine Or.inl ?_; (conv => whnf)
         rfl)
      | trace_state
  by_cases c2 : 64 < e.length
  · rw [chkE_l c1 c2]
    (try (conv => whnf)); repeat' (first | refine Ok.seq ?_ | ((first | refine Ok.region tok ?_ | refine Ok.cond ?_ | refine Ok.skip ?_ | refine Ok.ret ?_); conv => whnf) | (refine Or.inl ?_; (conv => whnf); (repeat (refine aI ?_; conv => whnf)); refine ⟨_, hch, rfl, ?_⟩; conv => whnf) | (refine ⟨fun _ => ?_, fun _ => ?_⟩ <;> (conv => whnf) <;> (try (exfalso; omega))) | fail)
    all_goals first
      | (exfalso; omega)
      | (refine Or.inl ?_; (conv => whnf)
         rfl)
      | trace_state
  have htl := tell_at e r2 (by omega) htx
  unfold tellP at htl
  cases hb : bldO e with
  | none =>
    rw [chkE_b c1 c2 hb]
    rw [hb] at htl
    dsimp only at htl
    (try (conv => whnf)); repeat' (first | (refine ⟨fun _ => ?_, fun h => absurd (fun h2 => h2) h⟩; (conv => whnf)) | refine Ok.seq ?_ | ((first | refine Ok.region tok ?_ | refine Ok.cond ?_ | refine Ok.skip ?_ | refine Ok.ret ?_); conv => whnf) | (refine Or.inl ?_; (conv => whnf); (repeat (refine aI ?_; conv => whnf)); refine ⟨_, hch, rfl, ?_⟩; conv => whnf) | (refine Or.inr (Or.inl ?_); (conv => whnf); (repeat (refine aI ?_; conv => whnf)); refine ⟨_, htl, ?_⟩; rintro _ _ ⟨rfl, rfl⟩; conv => whnf) | (refine ⟨fun _ => ?_, fun _ => ?_⟩ <;> (conv => whnf) <;> (try (exfalso; omega))) | fail)
    all_goals first
      | (exfalso; omega)
      | (rename_i h; exact absurd (fun h2 => h2) h)
      | (refine Or.inl ?_; (conv => whnf)
         rfl)
      | trace_state
  | some x =>
    rw [hb] at htl
    dsimp only at htl
    have hsz := bldO_sz hb
    have hnx := nest_le x
    by_cases c4 : 32 < x.nest
    · rw [chkE_d c1 c2 hb c4]
      (try (conv => whnf)); repeat' (first | (refine ⟨fun h => absurd trivial h, fun _ => ?_⟩; (conv => whnf)) | refine Ok.seq ?_ | ((first | refine Ok.region tok ?_ | refine Ok.cond ?_ | refine Ok.skip ?_ | refine Ok.ret ?_); conv => whnf) | (refine Or.inl ?_; (conv => whnf); (repeat (refine aI ?_; conv => whnf)); refine ⟨_, hch, rfl, ?_⟩; conv => whnf) | (refine Or.inr (Or.inl ?_); (conv => whnf); (repeat (refine aI ?_; conv => whnf)); refine ⟨_, htl , ?_⟩; rintro _ _ ⟨⟨s, rfl⟩, rfl⟩ <;> (conv => whnf)) | (refine ⟨fun _ => ?_, fun _ => ?_⟩ <;> (conv => whnf) <;> (try (exfalso; omega))) | fail)
      all_goals first
        | (exfalso; omega)
        | (refine Or.inl ?_; (conv => whnf)
           rfl)
        | trace_state
    · rw [chkE_t c1 c2 hb c4]
      (try (conv => whnf)); repeat' (first | (refine ⟨fun h => absurd trivial h, fun _ => ?_⟩; (conv => whnf)) | refine Ok.seq ?_ | ((first | refine Ok.region tok ?_ | refine Ok.cond ?_); conv => whnf) | refine Ok.block ?_ | (refine Ok.skip ?_; conv => whnf) | (refine Or.inl ?_; (conv => whnf); (repeat (refine aI ?_; conv => whnf)); refine ⟨_, hch, rfl, ?_⟩; conv => whnf) | (refine Or.inr (Or.inl ?_); (conv => whnf); (repeat (refine aI ?_; conv => whnf)); refine ⟨_, htl , ?_⟩; rintro _ _ ⟨⟨s, rfl⟩, rfl⟩ <;> (conv => whnf)) | (refine ⟨fun _ => ?_, fun _ => ?_⟩ <;> (conv => whnf) <;> (try (exfalso; omega))) | fail)
      all_goals first
        | (exfalso; omega)
        | skip
      refine Ok.loopU [0, 1] [9] 0 0 (fun (i : Nat) => [.i .i64 (i : Nat)]) (fun _ b => b) (fun _ r => r) (fun (i : Nat) => i ≤ e.length ∧ tstE l e = tstE l (e.drop i)) (fun (i : Nat) => e.length - i) (0) (⟨Nat.zero_le _, rfl⟩) ?_; (conv => whnf); refine ⟨by ((conv => whnf); first | rfl | (simp [envCat, List.take_of_length_le, nrow, frow, bcell, srow, tcells, crow, qrow, prow]; done) | (simp [envCat, List.take_of_length_le, nrow, frow, bcell, srow, tcells, crow, qrow, prow]; rw [IntKind.wrap_i64]; omega)), ?_⟩
      rintro i ⟨hi, ht⟩
      (conv => whnf)
      by_cases hil : i < e.length
      · obtain ⟨c, hc⟩ : ∃ c, e[i]? = some c := ⟨_, List.getElem?_eq_getElem hil⟩
        have hcI : e[((i : Nat) : Int).toNat]? = some c := hc
        have htc := htx c (List.mem_of_getElem? hc)
        rw [fdrop_at hc] at ht
        by_cases hk : c.kind = 3
        · by_cases hE : errC l c.t = 0
          · have hcu := rcubes_ok l r hl c.t.f c.t.op c.t.form c.t.lo c.t.hi c.t.len c.t.pat htc.2 hE
            generalize cubL l ⟨c.t.f, c.t.op, c.t.form, c.t.lo, c.t.hi, c.t.len, c.t.pat⟩ = Q at *
            rw [tstE_ok (fun h => h.2 hE)] at ht
            (try (conv => whnf)); repeat' (first | refine Ok.seq ?_ | ((first | refine Ok.region tok ?_ | refine Ok.cond ?_); conv => whnf) | refine Ok.block ?_ | ((first | refine Ok.skip ?_ | refine nI ?_ | refine ix _ (by assumption) ?_); conv => whnf) | (refine Or.inr (Or.inl ?_); (conv => whnf); (repeat (refine aI ?_; conv => whnf)); refine ⟨_, hcu, ?_⟩; rintro _ _ ⟨rfl, rfl⟩; conv => whnf) | (refine ⟨fun _ => ?_, fun _ => ?_⟩ <;> (conv => whnf) <;> (try (exfalso; omega))) | fail)
            all_goals first
              | (exfalso; omega)
              | (refine ⟨i + 1, by omega, ⟨by omega, ht⟩, ?_⟩
                 (conv => whnf)
                 rfl)
              | trace_state
          · have hcu := rcubes_err l r hl c.t.f c.t.op c.t.form c.t.lo c.t.hi c.t.len c.t.pat htc.2 hE
            rw [tstE_bad hk hE] at ht
            rw [ht]
            have hE2 : errC l ⟨c.t.f, c.t.op, c.t.form, c.t.lo, c.t.hi, c.t.len, c.t.pat⟩ = errC l c.t := rfl
            rw [hE2] at hcu
            generalize errC l c.t = k at *
            (try (conv => whnf)); repeat' (first | refine Ok.seq ?_ | ((first | refine Ok.region tok ?_ | refine Ok.cond ?_); conv => whnf) | refine Ok.block ?_ | ((first | refine Ok.skip ?_ | refine Ok.ret ?_ | refine ix _ (by assumption) ?_); conv => whnf) | (refine Or.inr (Or.inl ?_); (conv => whnf); (repeat (refine aI ?_; conv => whnf)); refine ⟨_, hcu, ?_⟩; rintro _ _ ⟨rfl, rfl⟩; conv => whnf) | (refine ⟨fun _ => ?_, fun _ => ?_⟩ <;> (conv => whnf) <;> (try (exfalso; omega))) | fail)
            all_goals first
              | (exfalso; omega)
              | (refine Or.inl ?_; (conv => whnf)
                 rfl)
              | trace_state
        · rw [tstE_ok (fun h => hk h.1)] at ht
          (try (conv => whnf)); repeat' (first | refine Ok.seq ?_ | ((first | refine Ok.region tok ?_ | refine Ok.cond ?_); conv => whnf) | refine Ok.block ?_ | ((first | refine Ok.skip ?_ | refine nI ?_ | refine ix _ (by assumption) ?_); conv => whnf) | (refine ⟨fun _ => ?_, fun _ => ?_⟩ <;> (conv => whnf) <;> (try (exfalso; omega))) | fail)
          all_goals first
            | (exfalso; omega)
            | (refine ⟨i + 1, by omega, ⟨by omega, ht⟩, ?_⟩
               (conv => whnf)
               rfl)
            | trace_state
      · have hie : i = e.length := by omega
        subst hie
        rw [List.drop_length] at ht
        rw [ht]
        (try (conv => whnf)); repeat' (first | refine Ok.seq ?_ | ((first | refine Ok.region tok ?_ | refine Ok.cond ?_ | refine Ok.exit ?_ | refine Ok.ret ?_); conv => whnf) | (refine ⟨fun _ => ?_, fun _ => ?_⟩ <;> (conv => whnf) <;> (try (exfalso; omega))) | fail)
        all_goals first
          | (exfalso; omega)
          | (refine Or.inl ?_; (conv => whnf)
             rfl)
          | trace_state
end Go.Proofs.YtagmibogginaaaaGreatDoor
namespace Go.Proofs.YtagmibogginaaaaGreatDoor
open Go Go.Vx Go.Shelf
theorem chkFrom_le {all : List Fd} : ∀ (r : List Fd) (i : Nat) (sum : Int), 0 ≤ (chkFrom all r i sum).1 ∧ (chkFrom all r i sum).1 ≤ 100
  | [], _, _ => ⟨Int.le_refl _, by show (0 : Int) ≤ 100; omega⟩
  | f :: r, i, sum => by
    by_cases hb : badF (all.take i) f sum
    · rw [chkFrom_bad hb]; exact ⟨by show (0 : Int) ≤ 40; omega, by show (40 : Int) ≤ 100; omega⟩
    · rw [chkFrom_ok hb]; exact chkFrom_le r _ _
theorem chkO_le (l : List Fd) : 0 ≤ (chkO l).1 ∧ (chkO l).1 ≤ 100 := by
  by_cases h1 : 12 < l.length
  · rw [chkO_long h1]; exact ⟨by show (0 : Int) ≤ 2; omega, by show (2 : Int) ≤ 100; omega⟩
  by_cases h2 : l.length = 0
  · rw [chkO_nil h2]; exact ⟨by show (0 : Int) ≤ 40; omega, by show (40 : Int) ≤ 100; omega⟩
  rw [chkO_of h1 h2]
  exact chkFrom_le _ _ _
theorem errT_le (t : Tst) (b : Nat) : 0 ≤ errT t b ∧ errT t b ≤ 100 := by
  unfold errT
  repeat' split
  all_goals omega
theorem errF_le (l : List Fd) (t : Tst) : 0 ≤ errF l t ∧ errF l t ≤ 100 := by
  rcases find_cases t.f l with h | ⟨k, c, h, hc⟩
  · rw [errF_none h]; omega
  · rw [errF_some h hc]; exact errT_le _ _
theorem errC_le (l : List Fd) (t : Tst) : 0 ≤ errC l t ∧ errC l t ≤ 100 := by
  by_cases h : (chkO l).1 = 0
  · rw [errC_f h]; exact errF_le _ _
  · rw [errC_chk h]; exact chkO_le _
theorem tstE_le (l : List Fd) : ∀ e : List Nd, 0 ≤ tstE l e ∧ tstE l e ≤ 100
  | [] => ⟨Int.le_refl _, by show (0 : Int) ≤ 100; omega⟩
  | c :: r => by
    by_cases h : c.kind = 3 ∧ errC l c.t ≠ 0
    · rw [tstE_bad h.1 h.2]; exact errC_le _ _
    · rw [tstE_ok h]; exact tstE_le l r
theorem chkE_le (l : List Fd) (e : List Nd) : 0 ≤ chkE l e ∧ chkE l e ≤ 100 := by
  by_cases h : (chkO l).1 = 0
  · by_cases h2 : 64 < e.length
    · rw [chkE_l h h2]; omega
    · cases hb : bldO e with
      | none => rw [chkE_b h h2 hb]; omega
      | some x =>
        by_cases h4 : 32 < x.nest
        · rw [chkE_d h h2 hb h4]; omega
        · rw [chkE_t h h2 hb h4]; exact tstE_le _ _
  · rw [chkE_f h]; exact chkO_le _
theorem num_at (k : Int) (h : 0 ≤ k ∧ k ≤ 100) : FSpec Tryz.prog T 9 [.i .i64 k] (fun d _ => d = .i .i64 k) := by
  refine FSpec.of_ok tok Tryz.func9 rfl Tryz.call9 (by simp) ?_
  (try (conv => whnf)); repeat' (first | refine Ok.seq ?_ | ((first | refine Ok.region tok ?_ | refine Ok.ret ?_); conv => whnf) | fail)
  refine Or.inl ?_; (conv => whnf)
  rfl
theorem untouched_own (e : List Nd) {ra sa rb sb : List (List D)} (ha : ra = e.map nrow) (hs : sa = [mk91, mk92].map nrow) (hb : rb = e.map nrow) (he : e.length ≤ 1000) :
    FSpec Tryz.prog T 11 [.lst 56 ra sa, .lst 56 rb sb] (fun d _ => d = .tt) := by subst ha hs hb; exact (untouched_at e _ he).tt trivial
theorem kept_own (l : List Fd) {ra sa rb sb : List (List D)} (ha : ra = l.map frow) (hs : sa = [mkF].map frow) (hb : rb = l.map frow) (he : l.length ≤ 16) :
    FSpec Tryz.prog T 12 [.lst 34 ra sa, .lst 34 rb sb] (fun d _ => d = .tt) := by subst ha hs hb; exact (kept1_at l _ he).tt trivial
theorem txt_rev {e : List Nd} (h : TxtOk e) : TxtOk e.reverse := fun c hc => h c (List.mem_reverse.1 hc)
end Go.Proofs.YtagmibogginaaaaGreatDoor
namespace Go.Proofs.YtagmibogginaaaaGreatDoor
open Go Go.Vx Go.Shelf
theorem mixA {α : Type} {a b : List α} {k : Nat} (hk : (a.take k).length = k) (x : List α) (y : α) (hb : b[k]? = some y) : ((a.take k ++ b.drop k) ++ x)[k]? = some y := by
  have hi := (List.getElem?_eq_some_iff.1 hb).1
  rw [List.append_assoc, List.getElem?_append_right (by omega), hk, Nat.sub_self, List.getElem?_append_left (by simp; omega), List.getElem?_drop, Nat.add_zero, hb]
theorem mixS {α : Type} {a b : List α} {k : Nat} {c : α} (hk : (a.take k).length = k) (x : List α) (ha : a[k]? = some c) (hb : k < b.length) : ((a.take k ++ b.drop k) ++ x).set k c = (a.take (k + 1) ++ b.drop (k + 1)) ++ x := by
  rw [List.append_assoc, List.set_append_right _ _ (by omega), hk, Nat.sub_self, List.drop_eq_getElem_cons hb, List.cons_append, List.set_cons_zero, take_snoc ha]
  simp only [List.append_assoc, List.cons_append, List.nil_append]
theorem mixE {α : Type} {a b : List α} (h : a.length = b.length) : a.take b.length ++ b.drop b.length = a := by
  rw [List.take_of_length_le (by omega), List.drop_of_length_le (Nat.le_refl _), List.append_nil]
end Go.Proofs.YtagmibogginaaaaGreatDoor
namespace Go.Proofs.YtagmibogginaaaaGreatDoor
open Go Go.Vx Go.Shelf
theorem fld_of {B : Nat} (r : List D) (h : TySs B [.str, .int .i64] r) : ∃ a : Fd, r = frow a ∧ a.name.length ≤ B := by
  obtain ⟨_, _, rfl, h1, h⟩ := ss_cons h
  obtain ⟨_, _, rfl, h2, h⟩ := ss_cons h
  obtain rfl := ss_nil h
  obtain ⟨a, rfl, ha⟩ := str_of h1
  obtain ⟨b, rfl, _⟩ := int_of h2
  exact ⟨⟨a, b⟩, rfl, ha⟩
theorem nd_of {B : Nat} (r : List D) (h : TySs B [.int .i64, .str, .int .i64, .int .i64, .int .i64, .int .i64, .int .i64, .str] r) : ∃ a : Nd, r = nrow a ∧ a.t.f.length ≤ B ∧ a.t.pat.length ≤ B := by
  obtain ⟨_, _, rfl, h0, h⟩ := ss_cons h
  obtain ⟨_, _, rfl, h1, h⟩ := ss_cons h
  obtain ⟨_, _, rfl, h2, h⟩ := ss_cons h
  obtain ⟨_, _, rfl, h3, h⟩ := ss_cons h
  obtain ⟨_, _, rfl, h4, h⟩ := ss_cons h
  obtain ⟨_, _, rfl, h5, h⟩ := ss_cons h
  obtain ⟨_, _, rfl, h6, h⟩ := ss_cons h
  obtain ⟨_, _, rfl, h7, h⟩ := ss_cons h
  obtain rfl := ss_nil h
  obtain ⟨k, rfl, _⟩ := int_of h0
  obtain ⟨f, rfl, hf⟩ := str_of h1
  obtain ⟨a, rfl, _⟩ := int_of h2
  obtain ⟨b, rfl, _⟩ := int_of h3
  obtain ⟨c, rfl, _⟩ := int_of h4
  obtain ⟨d, rfl, _⟩ := int_of h5
  obtain ⟨e, rfl, _⟩ := int_of h6
  obtain ⟨p, rfl, hp⟩ := str_of h7
  exact ⟨⟨k, f, a, b, c, d, e, p⟩, rfl, hf, hp⟩
end Go.Proofs.YtagmibogginaaaaGreatDoor
namespace Go.Proofs.YtagmibogginaaaaGreatDoor
open Go Go.Vx
theorem len4 {α : Type} {l : List α} (h : l.length = 4) : ∃ a b c d, l = [a, b, c, d] := match l, h with | [a, b, c, d], _ => ⟨a, b, c, d, rfl⟩
theorem len5 {α : Type} {l : List α} (h : l.length = 5) : ∃ a b c d e, l = [a, b, c, d, e] := match l, h with | [a, b, c, d, e], _ => ⟨a, b, c, d, e, rfl⟩
theorem len20 {α : Type} {l : List α} (h : l.length = 20) : ∃ v0 v1 v2 v3 v4 v5 v6 v7 v8 v9 v10 v11 v12 v13 v14 v15 v16 v17 v18 v19, l = [v0, v1, v2, v3, v4, v5, v6, v7, v8, v9, v10, v11, v12, v13, v14, v15, v16, v17, v18, v19] := match l, h with | [v0, v1, v2, v3, v4, v5, v6, v7, v8, v9, v10, v11, v12, v13, v14, v15, v16, v17, v18, v19], _ => ⟨v0, v1, v2, v3, v4, v5, v6, v7, v8, v9, v10, v11, v12, v13, v14, v15, v16, v17, v18, v19, rfl⟩
theorem st4 {W : World} {fuel : Nat} {cs : List Value} {y : DataW Unit × List MemPlace} {a b c d : Bool} (h : DataW.trod (fun _ => ()) Tryz.prog W 0 (fun _ => true) false fuel 170 cs = some y)
    (hy : y.1 = .agg [.lit (.bool a), .lit (.bool b), .lit (.bool c), .lit (.bool d)]) : cs = [.bool a, .bool b, .bool c, .bool d] := by
  obtain ⟨xs, n, _, rfl, hl, hlen, hf⟩ := DataW.trod_struct Tryz.underlying170 h
  have hc4 : Tryz.prog.cellsOf 170 = 4 := by kernel_rfl
  have hcb : Tryz.prog.cellsOf 4 = 1 := by kernel_rfl
  rw [hc4] at hl
  have hx4 : xs.length = 4 := hlen
  obtain ⟨z0, z1, z2, z3, rfl⟩ := len4 hx4
  obtain ⟨v0, v1, v2, v3, rfl⟩ := len4 hl
  ·
    simp only [List.map_cons, List.map_nil, DataW.agg.injEq, List.cons.injEq, and_true] at hy
    obtain ⟨e0, e1, e2, e3⟩ := hy
    have f0 : DataW.trod (fun _ => ()) Tryz.prog W 0 (fun _ => true) false n 4 (List.take (Tryz.prog.cellsOf 4) (List.drop 0 [v0, v1, v2, v3])) = some z0 := hf 0 _ rfl
    rw [hcb, show List.take 1 (List.drop 0 [v0, v1, v2, v3]) = [v0] from rfl] at f0
    have f1 : DataW.trod (fun _ => ()) Tryz.prog W 0 (fun _ => true) false n 4 (List.take (Tryz.prog.cellsOf 4) (List.drop 1 [v0, v1, v2, v3])) = some z1 := hf 1 _ rfl
    rw [hcb, show List.take 1 (List.drop 1 [v0, v1, v2, v3]) = [v1] from rfl] at f1
    have f2 : DataW.trod (fun _ => ()) Tryz.prog W 0 (fun _ => true) false n 4 (List.take (Tryz.prog.cellsOf 4) (List.drop 2 [v0, v1, v2, v3])) = some z2 := hf 2 _ rfl
    rw [hcb, show List.take 1 (List.drop 2 [v0, v1, v2, v3]) = [v2] from rfl] at f2
    have f3 : DataW.trod (fun _ => ()) Tryz.prog W 0 (fun _ => true) false n 4 (List.take (Tryz.prog.cellsOf 4) (List.drop 3 [v0, v1, v2, v3])) = some z3 := hf 3 _ rfl
    rw [hcb, show List.take 1 (List.drop 3 [v0, v1, v2, v3]) = [v3] from rfl] at f3
    obtain ⟨b0, h0, rfl⟩ := DataW.trod_bool Tryz.underlying4 f0
    obtain ⟨b1, h1, rfl⟩ := DataW.trod_bool Tryz.underlying4 f1
    obtain ⟨b2, h2, rfl⟩ := DataW.trod_bool Tryz.underlying4 f2
    obtain ⟨b3, h3, rfl⟩ := DataW.trod_bool Tryz.underlying4 f3
    clear hf h
    simp only [List.cons.injEq, and_true] at h0 h1 h2 h3
    simp only [DataW.lit.injEq, Lit.bool.injEq] at e0 e1 e2 e3
    rw [h0, h1, h2, h3, e0, e1, e2, e3]
theorem used_of {W : World} {fuel : Nat} {cs : List Value} {p : List MemPlace} (h : DataW.trod (fun _ => ()) Tryz.prog W 0 (fun _ => true) false fuel 171 cs = some (Rows.laid_reach_field_used, p)) :
    cs = [.bool false, .bool false, .bool false, .bool false, .bool true, .bool false, .bool false, .bool false, .bool true, .bool false, .bool true, .bool false, .bool true, .bool true, .bool false, .bool false, .bool false, .bool false, .bool false, .bool true] := by
  obtain ⟨xs, m, _, hx, hl, hxl, hf⟩ := DataW.trod_array Tryz.underlying171 h
  have hc : Tryz.prog.cellsOf 171 = 20 := by kernel_rfl
  have hc4 : Tryz.prog.cellsOf 170 = 4 := by kernel_rfl
  rw [hc] at hl
  rw [hc4] at hf
  have hx1 := (Prod.mk.inj hx).1
  unfold Rows.laid_reach_field_used at hx1
  obtain ⟨y0, y1, y2, y3, y4, rfl⟩ := len5 hxl
  obtain ⟨v0, v1, v2, v3, v4, v5, v6, v7, v8, v9, v10, v11, v12, v13, v14, v15, v16, v17, v18, v19, rfl⟩ := len20 hl
  ·
    simp only [List.map_cons, List.map_nil, DataW.agg.injEq, List.cons.injEq, and_true] at hx1
    obtain ⟨e0, e1, e2, e3, e4⟩ := hx1
    have g0 := st4 (hf 0 (by decide)) e0.symm
    have g1 := st4 (hf 1 (by decide)) e1.symm
    have g2 := st4 (hf 2 (by decide)) e2.symm
    have g3 := st4 (hf 3 (by decide)) e3.symm
    have g4 := st4 (hf 4 (by decide)) e4.symm
    simp at g0 g1 g2 g3 g4
    simp [g0, g1, g2, g3, g4]
theorem glUsed {W : World} (h : laidMetH Tryz.prog Rows.exprChecksUptoRow.laid W) : VLe glV (heapV W) := by
  rw [MakeChecks.laidMetH_plain _ _ _ (by kernel_rfl)] at h
  obtain ⟨ps, ⟨_, _, _, _, _, _, _, _, _, _, ⟨g, t, cs, fuel, p, q, hg, ht, hvar, hd, _, _⟩, _⟩, _⟩ := h
  have hg0 : Tryz.prog.globalNamed "reach/field.used" = some 0 := by kernel_rfl
  have ht0 : (Tryz.prog.globals[0]?).map (·.type) = some 171 := by kernel_rfl
  obtain rfl := Option.some.inj (hg0.symm.trans hg)
  obtain rfl := Option.some.inj (ht0.symm.trans ht)
  have hcs := used_of hd
  intro pp v hp
  unfold glV at hp
  obtain ⟨b, o, sp⟩ := pp
  cases sp with
  | some _ => cases hp
  | none =>
    dsimp only at hp
    match b, hp with
    | 0, hp =>
      have h1 := World.var?_cell hg0 hvar o
      show W.cell? ⟨0, o, none⟩ = some v
      rw [h1, ← Array.getElem?_toList, hcs]
      have hg2 : glD 0 = some [.ff, .ff, .ff, .ff, .tt, .ff, .ff, .ff, .tt, .ff, .tt, .ff, .tt, .tt, .ff, .ff, .ff, .ff, .ff, .tt] := rfl
      rw [hg2] at hp
      dsimp only at hp
      rw [← List.getElem?_map] at hp
      exact hp
    | n + 1, hp => cases hp
end Go.Proofs.YtagmibogginaaaaGreatDoor
namespace Go.Proofs.YtagmibogginaaaaGreatDoor
open Go Go.Vx Go.Shelf
def worF (n : Nat) (b : UInt8) : Nat := 2 * n + (if b = 49 then 1 else 0)
def wor (s : Str) : Nat := s.foldl worF 0
theorem wor_snoc (s : Str) (b : UInt8) : wor (s ++ [b]) = worF (wor s) b := by unfold wor; rw [List.foldl_append]; rfl
theorem wor_take {s : Str} {i : Nat} {b : UInt8} (h : s[i]? = some b) : wor (s.take (i + 1)) = worF (wor (s.take i)) b := by rw [take_snoc h, wor_snoc]
theorem worF_le (n : Nat) (b : UInt8) : worF n b ≤ 2 * n + 1 := by unfold worF; split <;> omega
theorem foldW (y : Str) : ∀ a : Nat, y.foldl worF a = a * tw y.length + y.foldl worF 0 ∧ y.foldl worF 0 < tw y.length := by
  induction y with
  | nil => intro a; simp [tw]
  | cons b y ih =>
    intro a
    simp only [List.foldl_cons, List.length_cons]
    have h2 := (ih (worF a b)).1
    have h3 := (ih (worF 0 b)).1
    have h4 := (ih 0).2
    have h5 := worF_le 0 b
    rw [h2, h3, tw_succ]
    have e : worF a b = 2 * a + worF 0 b := by unfold worF; omega
    rw [e]
    have e2 : (2 * a + worF 0 b) * tw y.length = a * (tw y.length + tw y.length) + worF 0 b * tw y.length := by
      rw [Nat.add_mul, Nat.mul_comm 2 a, Nat.mul_assoc, Nat.two_mul]
    have e3 : worF 0 b * tw y.length ≤ 1 * tw y.length := Nat.mul_le_mul_right _ (by omega)
    refine ⟨by rw [e2]; omega, by omega⟩
theorem wor_app (x y : Str) : wor (x ++ y) = wor x * tw y.length + wor y := by
  unfold wor; rw [List.foldl_append]; exact (foldW y _).1
theorem wor_lt (s : Str) : wor s < tw s.length := (foldW s 0).2
theorem wor_lt62 {s : Str} {k : Nat} (h : s.length ≤ k) (hk : k ≤ 62) : wor s < 4611686018427387904 + 1 := by
  have h1 := wor_lt s
  have h2 := tw_mono h
  have h3 := tw62 hk
  omega
theorem wor_shr (s : Str) (j : Nat) (hj : j ≤ s.length) : wor s / tw (s.length - j) = wor (s.take j) := by
  have h1 := wor_app (s.take j) (s.drop j)
  rw [List.take_append_drop] at h1
  have h2 := wor_lt (s.drop j)
  have h3 : (s.drop j).length = s.length - j := by simp
  rw [h3] at h1 h2
  rw [h1, Nat.mul_comm, Nat.mul_add_div (tw_pos _), Nat.div_eq_of_lt h2, Nat.add_zero]
theorem wor_bit {s : Str} {i : Nat} {b : UInt8} (h : s[i]? = some b) (hb : b = 48 ∨ b = 49) : bitC (wor s) (s.length - 1 - i) = b := by
  have hi := (List.getElem?_eq_some_iff.1 h).1
  have h1 := wor_shr s (i + 1) (by omega)
  rw [show s.length - (i + 1) = s.length - 1 - i by omega, wor_take h] at h1
  have h2 : bitC (wor s) (s.length - 1 - i) = if wor s / tw (s.length - 1 - i) % 2 = 1 then 49 else 48 := rfl
  rw [h2, h1]
  unfold worF
  rcases hb with rfl | rfl
  · rw [if_neg (show ¬ ((48 : UInt8) = 49) by decide), if_neg (by omega)]
  · rw [if_pos rfl, if_pos (by omega)]
def Bin (s : Str) : Prop := ∀ b ∈ s, b = 48 ∨ b = 49
theorem Bin.tk {s : Str} (h : Bin s) (k : Nat) : Bin (s.take k) := fun b hb => h b (List.mem_of_mem_take hb)
theorem Bin.dp {s : Str} (h : Bin s) (k : Nat) : Bin (s.drop k) := fun b hb => h b (List.mem_of_mem_drop hb)
set_option maxHeartbeats 4000000 in
theorem number_at (s : Str) (hs : s.length ≤ 60) : FSpec Tryz.prog T 51 [.s s] (fun d _ => d = .i .i64 (wor s : Nat)) := by
  refine FSpec.of_ok tok Tryz.func51 rfl Tryz.call51 (by simp) ?_
  (try (conv => whnf)); repeat' (first | refine Ok.seq ?_ | (refine Ok.region tok ?_; conv => whnf) | refine Ok.block ?_ | fail)
  refine Ok.loopU [0, 6] [3, 7] 0 0 (fun (i : Nat) => [.i .i64 (wor (s.take i) : Nat), .i .i64 (i : Nat)]) (fun _ b => b) (fun _ r => r) (fun (i : Nat) => i ≤ s.length) (fun (i : Nat) => s.length - i) (0) (Nat.zero_le _) ?_; (conv => whnf); refine ⟨by ((conv => whnf); first | rfl | (simp [envCat, List.take_of_length_le, nrow, frow, bcell]; done) | (simp [envCat, List.take_of_length_le, nrow, frow, bcell]; rw [IntKind.wrap_i64]; omega)), ?_⟩
  intro i hi
  (conv => whnf)
  have hw := wor_lt62 (s := s.take i) (k := i) (by simp; omega) (by omega)
  by_cases hil : i < s.length
  · obtain ⟨b, hb⟩ : ∃ b, s[i]? = some b := ⟨_, List.getElem?_eq_getElem hil⟩
    have hbI : s[((i : Nat) : Int).toNat]? = some b := hb
    have hw2 := wor_take hb
    have hw3 := wor_lt62 (s := s.take (i + 1)) (k := i + 1) (by simp; omega) (by omega)
    unfold worF at hw2
    by_cases h49 : b = 49
    · subst h49
      rw [if_pos rfl] at hw2
      (try (conv => whnf)); repeat' (first | refine Ok.seq ?_ | ((first | refine Ok.region tok ?_ | refine Ok.cond ?_); conv => whnf) | refine Ok.block ?_ | ((first | refine Ok.skip ?_ | refine nI ?_ | refine ⟨_, by assumption, ?_⟩); conv => whnf) | (refine ⟨fun _ => ?_, fun _ => ?_⟩ <;> (conv => whnf) <;> (try (exfalso; omega))) | ((first | refine aJ ?_ | refine num_any ?_); conv => whnf) | fail)
      all_goals first
        | (exfalso; omega)
        | (rename_i h; exact absurd rfl h)
        | skip
      refine ⟨i + 1, by omega, by omega, ?_⟩
      rw [hw2]
      (conv => whnf)
      simp [envCat]
      try omega
    · have hb3 := u8_ne h49
      rw [show (((49 : UInt8).toNat : Nat) : Int) = 49 from rfl] at hb3
      rw [if_neg h49] at hw2
      (try (conv => whnf)); repeat' (first | refine Ok.seq ?_ | ((first | refine Ok.region tok ?_ | refine Ok.cond ?_); conv => whnf) | refine Ok.block ?_ | ((first | refine Ok.skip ?_ | refine nI ?_ | refine ⟨_, by assumption, ?_⟩); conv => whnf) | (refine ⟨fun _ => ?_, fun _ => ?_⟩ <;> (conv => whnf) <;> (try (exfalso; omega))) | ((first | refine aJ ?_ | refine num_any ?_); conv => whnf) | fail)
      all_goals first
        | (exfalso; omega)
        | skip
      refine ⟨i + 1, by omega, by omega, ?_⟩
      rw [hw2]
      (conv => whnf)
      simp [envCat]
      try omega
  · have hie : i = s.length := by omega
    subst hie
    rw [List.take_length]
    (try (conv => whnf)); repeat' (first | refine Ok.seq ?_ | ((first | refine Ok.region tok ?_ | refine Ok.cond ?_ | refine Ok.exit ?_ | refine Ok.ret ?_); conv => whnf) | (refine ⟨fun _ => ?_, fun _ => ?_⟩ <;> (conv => whnf) <;> (try (exfalso; omega))) | fail)
    all_goals first
      | (exfalso; omega)
      | (refine Or.inl ?_; (conv => whnf)
         rfl)
set_option maxHeartbeats 4000000 in
theorem worth_at (s : Str) (hs : s.length ≤ 60) (hB : Bin s) : FSpec Tryz.prog T 53 [.s s] (fun d _ => d = .i .i64 (wor s : Nat)) := by
  refine FSpec.of_ok tok Tryz.func53 rfl Tryz.call53 (by simp) ?_
  (try (conv => whnf)); repeat' (first | refine Ok.seq ?_ | (refine Ok.region tok ?_; conv => whnf) | refine Ok.block ?_ | fail)
  refine Ok.loopU [0] [3, 4] 0 0 (fun (i : Nat) => [.i .i64 (wor (s.take i) : Nat), .i .i64 (i : Nat)]) (fun _ b => b) (fun _ r => r) (fun (i : Nat) => i ≤ s.length) (fun (i : Nat) => s.length - i) (0) (Nat.zero_le _) ?_; (conv => whnf); refine ⟨by ((conv => whnf); first | rfl | (simp [envCat, List.take_of_length_le, nrow, frow, bcell]; done) | (simp [envCat, List.take_of_length_le, nrow, frow, bcell]; rw [IntKind.wrap_i64]; omega)), ?_⟩
  intro i hi
  (conv => whnf)
  have hw := wor_lt62 (s := s.take i) (k := i) (by simp; omega) (by omega)
  by_cases hil : i < s.length
  · obtain ⟨b, hb⟩ : ∃ b, s[i]? = some b := ⟨_, List.getElem?_eq_getElem hil⟩
    have hbI : s[((i : Nat) : Int).toNat]? = some b := hb
    have hw2 := wor_take hb
    have hw3 := wor_lt62 (s := s.take (i + 1)) (k := i + 1) (by simp; omega) (by omega)
    unfold worF at hw2
    rcases hB b (List.mem_of_getElem? hb) with rfl | rfl
    · rw [if_neg (by decide)] at hw2
      (try (conv => whnf)); repeat' (first | refine Ok.seq ?_ | ((first | refine Ok.region tok ?_ | refine Ok.cond ?_); conv => whnf) | refine Ok.block ?_ | ((first | refine Ok.skip ?_ | refine nI ?_ | refine ⟨_, by assumption, ?_⟩); conv => whnf) | (refine ⟨fun _ => ?_, fun _ => ?_⟩ <;> (conv => whnf) <;> (try (exfalso; omega))) | ((first | refine aJ ?_ | refine num_any ?_); conv => whnf) | fail)
      all_goals first
        | (exfalso; omega)
        | skip
      refine ⟨i + 1, by omega, by omega, ?_⟩
      rw [hw2]
      (conv => whnf)
      simp [envCat]
      rw [show IntKind.i64.wrap (IntKind.u8.wrap 0) = 0 by decide, IntKind.wrap_i64]
      omega
    · rw [if_pos rfl] at hw2
      (try (conv => whnf)); repeat' (first | refine Ok.seq ?_ | ((first | refine Ok.region tok ?_ | refine Ok.cond ?_); conv => whnf) | refine Ok.block ?_ | ((first | refine Ok.skip ?_ | refine nI ?_ | refine ⟨_, by assumption, ?_⟩); conv => whnf) | (refine ⟨fun _ => ?_, fun _ => ?_⟩ <;> (conv => whnf) <;> (try (exfalso; omega))) | ((first | refine aJ ?_ | refine num_any ?_); conv => whnf) | fail)
      all_goals first
        | (exfalso; omega)
        | skip
      refine ⟨i + 1, by omega, by omega, ?_⟩
      rw [hw2]
      (conv => whnf)
      simp [envCat]
      rw [show IntKind.i64.wrap (IntKind.u8.wrap 1) = 1 by decide, IntKind.wrap_i64]
      omega
  · have hie : i = s.length := by omega
    subst hie
    rw [List.take_length]
    (try (conv => whnf)); repeat' (first | refine Ok.seq ?_ | ((first | refine Ok.region tok ?_ | refine Ok.cond ?_ | refine Ok.exit ?_ | refine Ok.ret ?_); conv => whnf) | (refine ⟨fun _ => ?_, fun _ => ?_⟩ <;> (conv => whnf) <;> (try (exfalso; omega))) | fail)
    all_goals first
      | (exfalso; omega)
      | (refine Or.inl ?_; (conv => whnf)
         rfl)
def HdrOk (n : Nat) (h : Str) : Prop := h.length = n ∧ n ≠ 0 ∧ Bin h
set_option maxHeartbeats 4000000 in
theorem header_at (n : Nat) (h : Str) (hn : n ≤ 100000) : FSpec Tryz.prog T 26 [.i .i64 (n : Nat), .s h] (fun d _ => d = .b (HdrOk n h)) := by
  refine FSpec.of_ok tok Tryz.func26 rfl Tryz.call26 (by simp) ?_
  (try (conv => whnf)); repeat' (first | refine Ok.seq ?_ | ((first | refine Ok.region tok ?_ | refine Ok.cond ?_); conv => whnf) | refine Ok.block ?_ | ((first | refine Ok.skip ?_ | refine Ok.ret ?_); conv => whnf) | (refine ⟨fun _ => ?_, fun _ => ?_⟩ <;> (conv => whnf) <;> (try (exfalso; omega))) | fail)
  all_goals first
    | (refine Or.inl ?_; (conv => whnf)
       show D.b False = _
       exact congrArg D.b (propext ⟨fun h => h.elim, fun h2 => by have := h2.1; have := h2.2.1; omega⟩))
    | skip
  have hl : h.length = n ∧ n ≠ 0 := by omega
  refine Ok.loopU [1] [5] 0 0 (fun (i : Nat) => [.i .i64 (i : Nat)]) (fun _ b => b) (fun _ r => r) (fun (i : Nat) => i ≤ h.length ∧ ∀ b ∈ h.take i, b = 48 ∨ b = 49) (fun (i : Nat) => h.length - i) (0) (⟨Nat.zero_le _, by simp⟩) ?_; (conv => whnf); refine ⟨by ((conv => whnf); first | rfl | (simp [envCat, List.take_of_length_le, nrow, frow, bcell]; done) | (simp [envCat, List.take_of_length_le, nrow, frow, bcell]; rw [IntKind.wrap_i64]; omega)), ?_⟩
  rintro i ⟨hi, hall⟩
  (conv => whnf)
  by_cases hil : i < h.length
  · obtain ⟨a, ha⟩ : ∃ a, h[i]? = some a := ⟨_, List.getElem?_eq_getElem hil⟩
    have haI : h[((i : Nat) : Int).toNat]? = some a := ha
    by_cases hb1 : a = 48 ∨ a = 49
    · have hb3 : ((a.toNat : Nat) : Int) = 48 ∨ ((a.toNat : Nat) : Int) = 49 := by
        rcases hb1 with rfl | rfl
        · exact .inl rfl
        · exact .inr rfl
      (try (conv => whnf)); repeat' (first | refine Ok.seq ?_ | ((first | refine Ok.region tok ?_ | refine Ok.cond ?_); conv => whnf) | refine Ok.block ?_ | ((first | refine Ok.skip ?_ | refine nI ?_ | refine ⟨_, by assumption, ?_⟩); conv => whnf) | (refine ⟨fun _ => ?_, fun _ => ?_⟩ <;> (conv => whnf) <;> (try (exfalso; omega))) | ((first | refine aJ ?_ | refine num_any ?_); conv => whnf) | fail)
      all_goals first
        | (exfalso; omega)
        | (refine ⟨i + 1, by omega, ⟨by omega, fun b hb => by
            rw [take_snoc ha] at hb
            rcases List.mem_append.1 hb with hb | hb
            · exact hall b hb
            · simp at hb; rw [hb]; exact hb1⟩, ?_⟩
           (conv => whnf)
           rfl)
    · have hb3 := u8_ne (fun e => hb1 (.inl e) : a ≠ 48)
      have hb4 := u8_ne (fun e => hb1 (.inr e) : a ≠ 49)
      rw [show (((48 : UInt8).toNat : Nat) : Int) = 48 from rfl] at hb3
      rw [show (((49 : UInt8).toNat : Nat) : Int) = 49 from rfl] at hb4
      (try (conv => whnf)); repeat' (first | refine Ok.seq ?_ | ((first | refine Ok.region tok ?_ | refine Ok.cond ?_); conv => whnf) | refine Ok.block ?_ | ((first | refine Ok.skip ?_ | refine Ok.ret ?_ | refine ⟨_, by assumption, ?_⟩); conv => whnf) | (refine ⟨fun _ => ?_, fun _ => ?_⟩ <;> (conv => whnf) <;> (try (exfalso; omega))) | ((first | refine aJ ?_ | refine num_any ?_); conv => whnf) | fail)
      all_goals first
        | (exfalso; omega)
        | (refine Or.inl ?_; (conv => whnf)
           show D.b False = _
           exact congrArg D.b (propext ⟨fun h => h.elim, fun h2 => hb1 (h2.2.2 a (List.mem_of_getElem? ha))⟩))
  · have hie : i = h.length := by omega
    subst hie
    rw [List.take_length] at hall
    (try (conv => whnf)); repeat' (first | refine Ok.seq ?_ | ((first | refine Ok.region tok ?_ | refine Ok.cond ?_ | refine Ok.exit ?_ | refine Ok.ret ?_); conv => whnf) | (refine ⟨fun _ => ?_, fun _ => ?_⟩ <;> (conv => whnf) <;> (try (exfalso; omega))) | fail)
    all_goals first
      | (exfalso; omega)
      | skip
    refine Or.inl ?_; (conv => whnf)
    exact congrArg D.b (propext ⟨fun _ => ⟨hl.1, hl.2, hall⟩, fun _ => trivial⟩)
def bitsI (l : List Fd) (h : Str) (k : Nat) : Str := match l[k]? with | some c => (h.drop (wid (l.take k))).take c.bits.toNat | none => []
theorem bitsI_some {l : List Fd} {h : Str} {k : Nat} {c : Fd} (hc : l[k]? = some c) : bitsI l h k = (h.drop (wid (l.take k))).take c.bits.toNat := by unfold bitsI; rw [hc]
theorem bitsI_bin {l : List Fd} {h : Str} (hB : Bin h) (k : Nat) : Bin (bitsI l h k) := by
  unfold bitsI
  split
  · exact Bin.tk (Bin.dp hB _) _
  · intro b hb; cases hb
theorem wid_split {l : List Fd} {k : Nat} {c : Fd} (hc : l[k]? = some c) : wid (l.take k) + c.bits.toNat ≤ wid l := by
  have h1 := wid_app l (k + 1)
  have h2 := wid_snoc hc
  omega
theorem bitsI_len {l : List Fd} {h : Str} {k : Nat} {c : Fd} (hc : l[k]? = some c) (hl : h.length = wid l) : (bitsI l h k).length = c.bits.toNat := by
  have := wid_split hc
  rw [bitsI_some hc]
  simp
  omega
set_option maxHeartbeats 4000000 in
theorem bitsOf_at (l : List Fd) (r : List (List D)) (nm : Str) (h : Str) (hl : l.length ≤ 1000) (hlay : LayF l) (hh : h.length = wid l) (k : Nat) (hf : findI nm l 0 = k) : FSpec Tryz.prog T 52 [.lst 34 (l.map frow) r, .s nm, .s h] (fun d _ => d = .s (bitsI l h k)) := by
  have h1 : (l.map frow).length = l.length := by simp
  have hw := wid_le hlay
  refine FSpec.of_ok tok Tryz.func52 rfl Tryz.call52 (by simp) ?_
  (try (conv => whnf)); repeat' (first | refine Ok.seq ?_ | (refine Ok.region tok ?_; conv => whnf) | refine Ok.block ?_ | fail)
  refine Ok.loopU [0, 1, 2] [7, 8] 0 0 (fun (i : Nat) => [.i .i64 (wid (l.take i) : Nat), .i .i64 (i : Nat)]) (fun _ b => b) (fun _ r => r) (fun (i : Nat) => i ≤ l.length ∧ findI nm l 0 = findI nm (l.drop i) i) (fun (i : Nat) => l.length - i) (0) (⟨Nat.zero_le _, rfl⟩) ?_; (conv => whnf); refine ⟨by ((conv => whnf); first | rfl | (simp [envCat, List.take_of_length_le, nrow, frow, bcell]; done) | (simp [envCat, List.take_of_length_le, nrow, frow, bcell]; rw [IntKind.wrap_i64]; omega)), ?_⟩
  rintro i ⟨hi, hfi⟩
  (conv => whnf)
  by_cases hil : i < l.length
  · obtain ⟨c, hc⟩ : ∃ c, l[i]? = some c := ⟨_, List.getElem?_eq_getElem hil⟩
    have hcI : l[((i : Nat) : Int).toNat]? = some c := hc
    have hcb := hlay c (List.mem_of_getElem? hc)
    have hsn := wid_snoc hc
    have hsp := wid_split hc
    rw [fdrop_at hc] at hfi
    by_cases hnm : c.name = nm
    · have hik : i = k := by
        have h3 : findI nm l 0 = (i : Nat) := by
          rw [hfi]
          unfold findI
          rw [if_pos hnm]
        omega
      subst hik
      have hbi := bitsI_some (h := h) hc
      have hz : (h.take (wid (l.take i) + c.bits.toNat)).drop (wid (l.take i)) = bitsI l h i := by rw [hbi, List.drop_take, Nat.add_sub_cancel_left]
      (try (conv => whnf)); repeat' (first | (refine ⟨wid (l.take i), wid (l.take i) + c.bits.toNat, rfl, (by show (wid (l.take i) : Int) + c.bits = ((wid (l.take i) + c.bits.toNat : Nat) : Int); omega), (by omega), (by omega), ?_⟩; (conv => whnf)) | (refine ⟨_, hz.symm, ?_⟩; (conv => whnf)) | refine Ok.seq ?_ | ((first | refine Ok.region tok ?_ | refine Ok.cond ?_); conv => whnf) | refine Ok.block ?_ | ((first | refine Ok.skip ?_ | refine Ok.ret ?_ | refine nI ?_ | refine ix _ (by assumption) ?_); conv => whnf) | (refine ⟨fun _ => ?_, fun _ => ?_⟩ <;> (conv => whnf) <;> (try (exfalso; omega))) | fail)
      all_goals first
        | (exfalso; omega)
        | (rename_i h; exact absurd hnm h)
        | (refine Or.inl ?_; (conv => whnf)
           rfl)
        | trace_state
    · (try (conv => whnf)); repeat' (first | refine Ok.seq ?_ | ((first | refine Ok.region tok ?_ | refine Ok.cond ?_); conv => whnf) | refine Ok.block ?_ | ((first | refine Ok.skip ?_ | refine nI ?_ | refine ix _ (by assumption) ?_); conv => whnf) | (refine ⟨fun _ => ?_, fun _ => ?_⟩ <;> (conv => whnf) <;> (try (exfalso; omega))) | fail)
      all_goals first
        | (exfalso; omega)
        | (rename_i h; exact absurd h hnm)
        | skip
      refine ⟨i + 1, by omega, ⟨by omega, ?_⟩, ?_⟩
      · rw [hfi]
        conv => lhs; unfold findI
        rw [if_neg hnm]
      · rw [hsn, show ((wid (l.take i) + c.bits.toNat : Nat) : Int) = (wid (l.take i) : Int) + c.bits by omega]
        (conv => whnf)
        rfl
  · have hie : i = l.length := by omega
    subst hie
    rw [List.drop_length] at hfi
    have hfi : findI nm l 0 = -1 := hfi
    exfalso
    omega
end Go.Proofs.YtagmibogginaaaaGreatDoor
namespace Go.Proofs.YtagmibogginaaaaGreatDoor
open Go Go.Vx Go.Shelf
def fitsV (t : Tst) (v b : Nat) : Prop :=
  (t.form = 1 ∧ ((t.op ≤ 2 ∧ (v : Int) = t.lo) ∨ (t.op = 3 ∧ (v : Int) < t.lo) ∨ (t.op = 4 ∧ (v : Int) ≤ t.lo) ∨ (t.op = 5 ∧ t.lo < (v : Int)) ∨ (t.op = 6 ∧ t.lo ≤ (v : Int))))
  ∨ (t.form = 2 ∧ v / tw (b - t.len.toNat) = t.lo.toNat / tw (b - t.len.toNat))
  ∨ (t.form = 3 ∧ t.lo ≤ (v : Int) ∧ (v : Int) ≤ t.hi)
  ∨ (t.form = 4 ∧ ∀ (i : Nat) c, i < b → t.pat[i]? = some c → c = 120 ∨ c = bitC v (b - 1 - i))
theorem fitsV1 {f : Str} {op lo hi len : Int} {pat : Str} {v b : Nat} : fitsV ⟨f, op, 1, lo, hi, len, pat⟩ v b ↔ ((op ≤ 2 ∧ (v : Int) = lo) ∨ (op = 3 ∧ (v : Int) < lo) ∨ (op = 4 ∧ (v : Int) ≤ lo) ∨ (op = 5 ∧ lo < (v : Int)) ∨ (op = 6 ∧ lo ≤ (v : Int))) := by simp [fitsV]
theorem fitsV2 {f : Str} {op lo hi len : Int} {pat : Str} {v b : Nat} : fitsV ⟨f, op, 2, lo, hi, len, pat⟩ v b ↔ v / tw (b - len.toNat) = lo.toNat / tw (b - len.toNat) := by simp [fitsV]
theorem fitsV3 {f : Str} {op lo hi len : Int} {pat : Str} {v b : Nat} : fitsV ⟨f, op, 3, lo, hi, len, pat⟩ v b ↔ lo ≤ (v : Int) ∧ (v : Int) ≤ hi := by simp [fitsV]
theorem fitsV4 {f : Str} {op lo hi len : Int} {pat : Str} {v b : Nat} : fitsV ⟨f, op, 4, lo, hi, len, pat⟩ v b ↔ ∀ (i : Nat) c, i < b → pat[i]? = some c → c = 120 ∨ c = bitC v (b - 1 - i) := by simp [fitsV]
theorem bitC_tw (v k : Nat) : ((bitC v k).toNat : Int) = 48 + ((v / tw k % 2 : Nat) : Int) := bitC_nat v k
theorem pat_step {pat : Str} {v b i : Nat} {c : UInt8} (h : ∀ (j : Nat) d, j < i → pat[j]? = some d → d = 120 ∨ d = bitC v (b - 1 - j)) (hc : pat[i]? = some c) (hn : c = 120 ∨ c = bitC v (b - 1 - i)) : ∀ (j : Nat) d, j < i + 1 → pat[j]? = some d → d = 120 ∨ d = bitC v (b - 1 - j) := by
  intro j d hj hd
  by_cases hji : j = i
  · subst hji; rw [hc] at hd; cases hd; exact hn
  · exact h j d (by omega) hd
set_option maxHeartbeats 16000000 in
theorem tfits_at (f : Str) (op form lo hi len : Int) (pat : Str) (v b : Nat) (h1b : 1 ≤ b) (hb : b ≤ 32) (hv : v < tw b) (he : errT ⟨f, op, form, lo, hi, len, pat⟩ b = 0) :
    FSpec Tryz.prog T 207 [.agg (tcl f op form lo hi len pat), .i .i64 (v : Nat), .i .i64 (b : Nat)] (fun d _ => d = .b (fitsV ⟨f, op, form, lo, hi, len, pat⟩ v b)) := by
  have htb := tw62 (show b ≤ 62 by omega)
  obtain ⟨hF, hV, hD⟩ := errT_zero he
  obtain ⟨hA, hP⟩ := hF
  unfold ValOk at hV
  dsimp only at hA hP hV hD
  have h4 : form = 1 ∨ form = 2 ∨ form = 3 ∨ form = 4 := by omega
  refine FSpec.of_ok tok Tryz.func207 rfl Tryz.call207 (by simp) ?_
  rcases h4 with rfl | rfl | rfl | rfl
  · have h6 : op = 1 ∨ op = 2 ∨ op = 3 ∨ op = 4 ∨ op = 5 ∨ op = 6 := by omega
    rcases h6 with rfl | rfl | rfl | rfl | rfl | rfl
    all_goals
      (try (conv => whnf)); repeat' (first | refine Ok.seq ?_ | ((first | refine Ok.region tok ?_ | refine Ok.cond ?_); conv => whnf) | refine Ok.block ?_ | ((first | refine Ok.skip ?_ | refine Ok.ret ?_); conv => whnf) | (refine ⟨fun _ => ?_, fun _ => ?_⟩ <;> (conv => whnf) <;> (try (exfalso; omega))) | fail)
      refine Or.inl ?_; (conv => whnf)
      exact congrArg D.b (propext (by rw [fitsV1]; omega))
  · obtain ⟨vl, rfl⟩ : ∃ v : Nat, lo = v := ⟨lo.toNat, by omega⟩
    obtain ⟨vn, rfl⟩ : ∃ v : Nat, len = v := ⟨len.toNat, by omega⟩
    have hsh : ((b : Int) - (vn : Int)) = ((b - vn : Nat) : Int) ∧ b - vn ≤ 62 := by omega
    (try (conv => whnf)); repeat' (first | ((with_reducible_and_instances refine shr_i rfl (by assumption) ?_); (conv => whnf)) | refine Ok.seq ?_ | ((first | refine Ok.region tok ?_ | refine Ok.region_draw tok follows (by kernel_rfl) ?_ | refine Ok.cond ?_); conv => whnf) | refine Ok.block ?_ | ((first | refine Ok.ret ?_ | refine nI ?_); conv => whnf) | (refine ⟨fun _ => ?_, fun _ => ?_⟩ <;> (conv => whnf) <;> (try (exfalso; omega))) | (refine aJ ?_; conv => whnf) | fail)
    all_goals first
      | (exfalso; omega)
      | (refine Or.inl ?_; (conv => whnf)
         refine congrArg D.b (propext ?_)
         rw [fitsV2, show ((vn : Int)).toNat = vn by omega, show ((vl : Int)).toNat = vl by omega]
         omega)
      | trace_state
  · (try (conv => whnf)); repeat' (first | refine Ok.seq ?_ | ((first | refine Ok.region tok ?_ | refine Ok.cond ?_); conv => whnf) | refine Ok.block ?_ | (refine Ok.ret ?_; conv => whnf) | (refine ⟨fun _ => ?_, fun _ => ?_⟩ <;> (conv => whnf) <;> (try (exfalso; omega))) | fail)
    all_goals first
      | (exfalso; omega)
      | (refine Or.inl ?_; (conv => whnf)
         exact congrArg D.b (propext (by rw [fitsV3]; omega)))
      | (refine Or.inl ?_; (conv => whnf)
         show D.b False = _
         exact congrArg D.b (propext ⟨fun h => h.elim, fun h2 => by have := fitsV3.1 h2; omega⟩))
      | trace_state
  · obtain ⟨hd1, hd2⟩ := hD rfl
    (try (conv => whnf)); repeat' (first | refine Ok.seq ?_ | ((first | refine Ok.region tok ?_ | refine Ok.cond ?_); conv => whnf) | refine Ok.block ?_ | (refine ⟨fun _ => ?_, fun _ => ?_⟩ <;> (conv => whnf) <;> (try (exfalso; omega))) | fail)
    refine Ok.loopU [1, 2, 3, 47] [48] 0 1 (fun (i : Nat) => [.i .i64 (i : Nat)]) (fun _ b => b) (fun _ r => r) (fun (i : Nat) => i ≤ b ∧ ∀ (j : Nat) d, j < i → pat[j]? = some d → d = 120 ∨ d = bitC v (b - 1 - j)) (fun (i : Nat) => b - i) (0) (⟨Nat.zero_le _, fun j d hj => absurd hj (by omega)⟩) ?_; (conv => whnf); refine ⟨by ((conv => whnf); first | rfl | (simp [envCat, List.take_of_length_le, nrow, frow, bcell, tcells]; done) | (simp [envCat, List.take_of_length_le, nrow, frow, bcell, tcells]; rw [IntKind.wrap_i64]; omega)), ?_⟩
    rintro i ⟨hi, hall⟩
    (conv => whnf)
    by_cases hil : i < b
    · obtain ⟨c, hc⟩ : ∃ c, pat[i]? = some c := ⟨_, List.getElem?_eq_getElem (by omega)⟩
      have hcI : pat[((i : Nat) : Int).toNat]? = some c := hc
      have hsh : ((b : Int) - 1 - (i : Int)) = ((b - 1 - i : Nat) : Int) ∧ b - 1 - i ≤ 62 := by omega
      have hm2 := mod2 v (b - 1 - i)
      have hbc := bitC_tw v (b - 1 - i)
      have hvl : v < 9223372036854775808 := by omega
      by_cases hok : c = 120 ∨ c = bitC v (b - 1 - i)
      · have hok2 : ((c.toNat : Nat) : Int) = 120 ∨ ((c.toNat : Nat) : Int) = 48 + ((v / tw (b - 1 - i) % 2 : Nat) : Int) := by
          rcases hok with rfl | h
          · exact .inl rfl
          · right; rw [← hbc, h]
        (try (conv => whnf)); repeat' (first | ((with_reducible_and_instances refine shr_i rfl (by assumption) ?_); (conv => whnf)) | (refine and_1' ⟨rfl, bits_pos hvl⟩ rfl ?_; (conv => whnf)) | ((with_reducible_and_instances refine num_u8 (by omega) (by omega) ?_); (conv => whnf)) | refine Ok.seq ?_ | ((first | refine Ok.region tok ?_ | refine Ok.cond ?_); conv => whnf) | refine Ok.block ?_ | ((first | refine Ok.skip ?_ | refine nI ?_ | refine ⟨_, by assumption, ?_⟩); conv => whnf) | (refine ⟨fun _ => ?_, fun _ => ?_⟩ <;> (conv => whnf) <;> (try (exfalso; omega))) | ((first | refine aJ ?_ | refine num_any ?_); conv => whnf) | fail)
        all_goals first
          | (exfalso; omega)
          | (refine ⟨i + 1, by omega, ⟨by omega, pat_step hall hc hok⟩, ?_⟩
             (conv => whnf)
             rfl)
          | trace_state
      · have hb3 := u8_ne (fun e => hok (.inl e) : c ≠ 120)
        have hb4 := u8_ne (fun e => hok (.inr e) : c ≠ bitC v (b - 1 - i))
        rw [show (((120 : UInt8).toNat : Nat) : Int) = 120 from rfl] at hb3
        rw [hbc] at hb4
        (try (conv => whnf)); repeat' (first | ((with_reducible_and_instances refine shr_i rfl (by assumption) ?_); (conv => whnf)) | (refine and_1' ⟨rfl, bits_pos hvl⟩ rfl ?_; (conv => whnf)) | ((with_reducible_and_instances refine num_u8 (by omega) (by omega) ?_); (conv => whnf)) | refine Ok.seq ?_ | ((first | refine Ok.region tok ?_ | refine Ok.cond ?_); conv => whnf) | refine Ok.block ?_ | ((first | refine Ok.skip ?_ | refine Ok.ret ?_ | refine nI ?_ | refine ⟨_, by assumption, ?_⟩); conv => whnf) | (refine ⟨fun _ => ?_, fun _ => ?_⟩ <;> (conv => whnf) <;> (try (exfalso; omega))) | ((first | refine aJ ?_ | refine num_any ?_); conv => whnf) | fail)
        all_goals first
          | (exfalso; omega)
          | (refine Or.inl ?_; (conv => whnf)
             exact congrArg D.b (propext ⟨fun h => h.elim, fun h2 => hok (fitsV4.1 h2 i c hil hc)⟩))
          | trace_state
    · have hie : i = b := by omega
      subst hie
      (try (conv => whnf)); repeat' (first | refine Ok.seq ?_ | ((first | refine Ok.region tok ?_ | refine Ok.cond ?_ | refine Ok.exit ?_ | refine Ok.ret ?_); conv => whnf) | (refine ⟨fun _ => ?_, fun _ => ?_⟩ <;> (conv => whnf) <;> (try (exfalso; omega))) | fail)
      all_goals first
        | (exfalso; omega)
        | (refine Or.inl ?_; (conv => whnf)
           exact congrArg D.b (propext ⟨fun _ => fitsV4.2 hall, fun _ => trivial⟩))
        | trace_state
set_option maxHeartbeats 4000000 in
/-- The document's: have the bits the pattern's digits? -/
theorem rfits_at (s pat : Str) (hB : Bin s) (hl : pat.length = s.length) (hs : s.length ≤ 60) : FSpec Tryz.prog T 86 [.s s, .s pat] (fun d _ => d = .b (∀ (i : Nat) c, i < s.length → pat[i]? = some c → c = 120 ∨ c = bitC (wor s) (s.length - 1 - i))) := by
  refine FSpec.of_ok tok Tryz.func86 rfl Tryz.call86 (by simp) ?_
  (try (conv => whnf)); repeat' (first | refine Ok.seq ?_ | (refine Ok.region tok ?_; conv => whnf) | refine Ok.block ?_ | fail)
  refine Ok.loopU [0, 1] [5] 0 0 (fun (i : Nat) => [.i .i64 (i : Nat)]) (fun _ b => b) (fun _ r => r) (fun (i : Nat) => i ≤ s.length ∧ ∀ (j : Nat) d, j < i → pat[j]? = some d → d = 120 ∨ d = bitC (wor s) (s.length - 1 - j)) (fun (i : Nat) => s.length - i) (0) (⟨Nat.zero_le _, fun j d hj => absurd hj (by omega)⟩) ?_; (conv => whnf); refine ⟨by ((conv => whnf); first | rfl | (simp [envCat, List.take_of_length_le, nrow, frow, bcell, tcells]; done) | (simp [envCat, List.take_of_length_le, nrow, frow, bcell, tcells]; rw [IntKind.wrap_i64]; omega)), ?_⟩
  rintro i ⟨hi, hall⟩
  (conv => whnf)
  by_cases hil : i < s.length
  · obtain ⟨c, hc⟩ : ∃ c, pat[i]? = some c := ⟨_, List.getElem?_eq_getElem (by omega)⟩
    obtain ⟨d, hd⟩ : ∃ d, s[i]? = some d := ⟨_, List.getElem?_eq_getElem (by omega)⟩
    have hcI : pat[((i : Nat) : Int).toNat]? = some c := hc
    have hdI : s[((i : Nat) : Int).toNat]? = some d := hd
    have hbd := wor_bit hd (hB d (List.mem_of_getElem? hd))
    by_cases hok : c = 120 ∨ c = d
    · have hok2 : ((c.toNat : Nat) : Int) = 120 ∨ ((c.toNat : Nat) : Int) = ((d.toNat : Nat) : Int) := by
        rcases hok with rfl | rfl
        · exact .inl rfl
        · exact .inr rfl
      (try (conv => whnf)); repeat' (first | refine Ok.seq ?_ | ((first | refine Ok.region tok ?_ | refine Ok.region_draw tok follows (by kernel_rfl) ?_ | refine Ok.cond ?_); conv => whnf) | refine Ok.block ?_ | ((first | refine Ok.skip ?_ | refine nI ?_ | refine ⟨_, by assumption, ?_⟩); conv => whnf) | (refine ⟨fun _ => ?_, fun _ => ?_⟩ <;> (conv => whnf) <;> (try (exfalso; omega))) | ((first | refine aJ ?_ | refine num_any ?_); conv => whnf) | fail)
      all_goals first
        | (exfalso; omega)
        | (refine ⟨i + 1, by omega, ⟨by omega, pat_step hall hc (by rw [hbd]; exact hok)⟩, ?_⟩
           (conv => whnf)
           rfl)
        | trace_state
    · have hb3 := u8_ne (fun e => hok (.inl e) : c ≠ 120)
      have hb4 := u8_ne (fun e => hok (.inr e) : c ≠ d)
      rw [show (((120 : UInt8).toNat : Nat) : Int) = 120 from rfl] at hb3
      (try (conv => whnf)); repeat' (first | refine Ok.seq ?_ | ((first | refine Ok.region tok ?_ | refine Ok.region_draw tok follows (by kernel_rfl) ?_ | refine Ok.cond ?_); conv => whnf) | refine Ok.block ?_ | ((first | refine Ok.skip ?_ | refine Ok.ret ?_ | refine ⟨_, by assumption, ?_⟩); conv => whnf) | (refine ⟨fun _ => ?_, fun _ => ?_⟩ <;> (conv => whnf) <;> (try (exfalso; omega))) | ((first | refine aJ ?_ | refine num_any ?_); conv => whnf) | fail)
      all_goals first
        | (exfalso; omega)
        | (refine Or.inl ?_; (conv => whnf)
           exact congrArg D.b (propext ⟨fun h => h.elim, fun h2 => hok (by have := h2 i c hil hc; rwa [hbd] at this)⟩))
        | trace_state
  · have hie : i = s.length := by omega
    subst hie
    (try (conv => whnf)); repeat' (first | refine Ok.seq ?_ | ((first | refine Ok.region tok ?_ | refine Ok.cond ?_ | refine Ok.exit ?_ | refine Ok.ret ?_); conv => whnf) | (refine ⟨fun _ => ?_, fun _ => ?_⟩ <;> (conv => whnf) <;> (try (exfalso; omega))) | fail)
    all_goals first
      | (exfalso; omega)
      | (refine Or.inl ?_; (conv => whnf)
         exact congrArg D.b (propext ⟨fun _ => hall, fun _ => trivial⟩))
      | trace_state
def meantP (t : Tst) (v b : Nat) : Prop :=
  (t.form = 1 ∧ (v : Int) = t.lo)
  ∨ (t.form = 2 ∧ v / tw (b - t.len.toNat) = t.lo.toNat / tw (b - t.len.toNat))
  ∨ (t.form = 3 ∧ t.lo ≤ (v : Int) ∧ (v : Int) ≤ t.hi)
  ∨ (t.form = 4 ∧ ∀ (i : Nat) c, i < b → t.pat[i]? = some c → c = 120 ∨ c = bitC v (b - 1 - i))
theorem meantP2 {f : Str} {op lo hi len : Int} {pat : Str} {v b : Nat} : meantP ⟨f, op, 2, lo, hi, len, pat⟩ v b ↔ v / tw (b - len.toNat) = lo.toNat / tw (b - len.toNat) := by simp [meantP]
theorem meantP3 {f : Str} {op lo hi len : Int} {pat : Str} {v b : Nat} : meantP ⟨f, op, 3, lo, hi, len, pat⟩ v b ↔ lo ≤ (v : Int) ∧ (v : Int) ≤ hi := by simp [meantP]
theorem meant_fits {t : Tst} {v b : Nat} (h : t.op ≤ 2) : meantP t v b ↔ fitsV t v b := by
  unfold meantP fitsV
  have : (t.op ≤ 2 ∧ (v : Int) = t.lo ∨ t.op = 3 ∧ (v : Int) < t.lo ∨ t.op = 4 ∧ (v : Int) ≤ t.lo ∨ t.op = 5 ∧ t.lo < (v : Int) ∨ t.op = 6 ∧ t.lo ≤ (v : Int)) ↔ (v : Int) = t.lo := by omega
  rw [this]
set_option maxHeartbeats 16000000 in
theorem meant_at (f : Str) (op form lo hi len : Int) (pat : Str) (s : Str) (h1b : 1 ≤ s.length) (hb : s.length ≤ 32) (hB : Bin s) (he : errT ⟨f, op, form, lo, hi, len, pat⟩ s.length = 0) :
    FSpec Tryz.prog T 54 [.agg (tcl f op form lo hi len pat), .s s] (fun d _ => d = .b (meantP ⟨f, op, form, lo, hi, len, pat⟩ (wor s) s.length)) := by
  have hv := wor_lt62 hb (by omega)
  obtain ⟨hF, hV, hD⟩ := errT_zero he
  obtain ⟨hA, hP⟩ := hF
  unfold ValOk at hV
  dsimp only at hA hP hV hD
  have h4 : form = 1 ∨ form = 2 ∨ form = 3 ∨ form = 4 := by omega
  have hwo := worth_at s (by omega) hB
  refine FSpec.of_ok tok Tryz.func54 rfl Tryz.call54 (by simp) ?_
  rcases h4 with rfl | rfl | rfl | rfl
  · (try (conv => whnf)); repeat' (first | refine Ok.seq ?_ | ((first | refine Ok.region tok ?_ | refine Ok.cond ?_); conv => whnf) | refine Ok.block ?_ | ((first | refine Ok.skip ?_ | refine Ok.ret ?_); conv => whnf) | (refine Or.inl ?_; (conv => whnf); (repeat (refine aI ?_; conv => whnf)); refine ⟨_, hwo, rfl, ?_⟩; conv => whnf) | (refine ⟨fun _ => ?_, fun _ => ?_⟩ <;> (conv => whnf) <;> (try (exfalso; omega))) | fail)
    refine Or.inl ?_; (conv => whnf)
    exact congrArg D.b (propext (by simp [meantP]))
  · obtain ⟨vl, rfl⟩ : ∃ v : Nat, lo = v := ⟨lo.toNat, by omega⟩
    obtain ⟨vn, rfl⟩ : ∃ v : Nat, len = v := ⟨len.toNat, by omega⟩
    have hsh : ((s.length : Int) - (vn : Int)) = ((s.length - vn : Nat) : Int) ∧ s.length - vn ≤ 62 := by omega
    (try (conv => whnf)); repeat' (first | ((with_reducible_and_instances refine shr_i rfl (by assumption) ?_); (conv => whnf)) | refine Ok.seq ?_ | ((first | refine Ok.region tok ?_ | refine Ok.region_draw tok follows (by kernel_rfl) ?_ | refine Ok.cond ?_); conv => whnf) | refine Ok.block ?_ | ((first | refine Ok.ret ?_ | refine nI ?_); conv => whnf) | (refine Or.inl ?_; (conv => whnf); (repeat (refine aI ?_; conv => whnf)); refine ⟨_, hwo, rfl, ?_⟩; conv => whnf) | (refine ⟨fun _ => ?_, fun _ => ?_⟩ <;> (conv => whnf) <;> (try (exfalso; omega))) | (refine aJ ?_; conv => whnf) | fail)
    all_goals first
      | (exfalso; omega)
      | (refine Or.inl ?_; (conv => whnf)
         refine congrArg D.b (propext ?_)
         rw [meantP2, show ((vn : Int)).toNat = vn by omega, show ((vl : Int)).toNat = vl by omega]
         omega)
      | trace_state
  · (try (conv => whnf)); repeat' (first | refine Ok.seq ?_ | ((first | refine Ok.region tok ?_ | refine Ok.cond ?_); conv => whnf) | refine Ok.block ?_ | (refine Ok.ret ?_; conv => whnf) | (refine Or.inl ?_; (conv => whnf); (repeat (refine aI ?_; conv => whnf)); refine ⟨_, hwo, rfl, ?_⟩; conv => whnf) | (refine ⟨fun _ => ?_, fun _ => ?_⟩ <;> (conv => whnf) <;> (try (exfalso; omega))) | fail)
    all_goals first
      | (exfalso; omega)
      | (refine Or.inl ?_; (conv => whnf)
         exact congrArg D.b (propext (by rw [meantP3]; omega)))
      | (refine Or.inl ?_; (conv => whnf)
         show D.b False = _
         exact congrArg D.b (propext ⟨fun h => h.elim, fun h2 => by have := meantP3.1 h2; omega⟩))
      | trace_state
  · obtain ⟨hd1, hd2⟩ := hD rfl
    (try (conv => whnf)); repeat' (first | refine Ok.seq ?_ | ((first | refine Ok.region tok ?_ | refine Ok.cond ?_); conv => whnf) | refine Ok.block ?_ | (refine Ok.ret ?_; conv => whnf) | (refine Or.inl ?_; (conv => whnf); (repeat (refine aI ?_; conv => whnf)); refine ⟨_, hwo, rfl, ?_⟩; conv => whnf) | (refine Or.inl ?_; (conv => whnf); (repeat (refine aI ?_; conv => whnf)); refine ⟨_, rfits_at s pat hB hd1 (by omega), rfl, ?_⟩; conv => whnf) | (refine ⟨fun _ => ?_, fun _ => ?_⟩ <;> (conv => whnf) <;> (try (exfalso; omega))) | fail)
    all_goals first
      | (exfalso; omega)
      | (refine Or.inl ?_; (conv => whnf)
         exact congrArg D.b (propext (by simp [meantP])))
      | trace_state
def tstH (l : List Fd) (h : Str) (t : Tst) : Prop := ¬ (fitsV t (wor (bitsI l h (findI t.f l 0).toNat)) (bitsI l h (findI t.f l 0).toNat).length ↔ t.op = 2)
set_option maxHeartbeats 16000000 in
theorem rholds_at (l : List Fd) (r : List (List D)) (hl : l.length ≤ 1000) (hlay : LayF l) (f : Str) (op form lo hi len : Int) (pat : Str) (h : Str) (hB : Bin h) (hh : h.length = wid l) (he : errF l ⟨f, op, form, lo, hi, len, pat⟩ = 0) :
    FSpec Tryz.prog T 28 [.lst 34 (l.map frow) r, .agg (tcl f op form lo hi len pat), .s h] (fun d _ => d = .b (tstH l h ⟨f, op, form, lo, hi, len, pat⟩)) := by
  rcases find_cases f l with hfi | ⟨k, c, hfi, hc⟩
  · rw [errF_none hfi] at he; cases he
  rw [errF_some hfi hc] at he
  have hcb := hlay c (List.mem_of_getElem? hc)
  have hbl := bitsI_len hc hh
  have hbb := bitsI_bin (l := l) hB k
  have hbo := bitsOf_at l r f h hl hlay hh k hfi
  have htH : tstH l h ⟨f, op, form, lo, hi, len, pat⟩ = ¬ (fitsV ⟨f, op, form, lo, hi, len, pat⟩ (wor (bitsI l h k)) (bitsI l h k).length ↔ op = 2) := by
    unfold tstH
    dsimp only
    rw [hfi]
    rfl
  rw [htH]
  rw [← hbl] at he
  generalize bitsI l h k = s at *
  have hme := meant_at f op form lo hi len pat s (by omega) (by omega) hbb he
  have hmf := meant_fits (t := ⟨f, op, form, lo, hi, len, pat⟩) (v := wor s) (b := s.length)
  have hwo := worth_at s (by omega) hbb
  have hv := wor_lt62 (show s.length ≤ 32 by omega) (by omega)
  obtain ⟨hF, hV, hD⟩ := errT_zero he
  obtain ⟨hA, hP⟩ := hF
  dsimp only at hA hP hmf
  have h6 : op = 1 ∨ op = 2 ∨ op = 3 ∨ op = 4 ∨ op = 5 ∨ op = 6 := by omega
  refine FSpec.of_ok tok Tryz.func28 rfl Tryz.call28 (by simp) ?_
  rcases h6 with rfl | rfl | h6
  · (try (conv => whnf)); repeat' (first | refine Ok.seq ?_ | ((first | refine Ok.region tok ?_ | refine Ok.cond ?_); conv => whnf) | refine Ok.block ?_ | (refine Ok.ret ?_; conv => whnf) | (refine Or.inl ?_; (conv => whnf); (repeat (refine aI ?_; conv => whnf)); refine ⟨_, hwo, rfl, ?_⟩; conv => whnf) | (refine Or.inl ?_; (conv => whnf); (repeat (refine aI ?_; conv => whnf)); refine ⟨_, hbo, rfl, ?_⟩; conv => whnf) | (refine Or.inl ?_; (conv => whnf); (repeat (refine aI ?_; conv => whnf)); refine ⟨_, hme, rfl, ?_⟩; conv => whnf) | (refine ⟨fun _ => ?_, fun _ => ?_⟩ <;> (conv => whnf) <;> (try (exfalso; omega))) | fail)
    refine Or.inl ?_; (conv => whnf)
    exact congrArg D.b (propext (by rw [hmf (by decide)]; simp))
  · (try (conv => whnf)); repeat' (first | refine Ok.seq ?_ | ((first | refine Ok.region tok ?_ | refine Ok.cond ?_); conv => whnf) | refine Ok.block ?_ | (refine Ok.ret ?_; conv => whnf) | (refine Or.inl ?_; (conv => whnf); (repeat (refine aI ?_; conv => whnf)); refine ⟨_, hwo, rfl, ?_⟩; conv => whnf) | (refine Or.inl ?_; (conv => whnf); (repeat (refine aI ?_; conv => whnf)); refine ⟨_, hbo, rfl, ?_⟩; conv => whnf) | (refine Or.inl ?_; (conv => whnf); (repeat (refine aI ?_; conv => whnf)); refine ⟨_, hme, rfl, ?_⟩; conv => whnf) | (refine ⟨fun _ => ?_, fun _ => ?_⟩ <;> (conv => whnf) <;> (try (exfalso; omega))) | fail)
    refine Or.inl ?_; (conv => whnf)
    exact congrArg D.b (propext (by rw [hmf (by decide)]; simp))
  · have hf1 : form = 1 := by omega
    subst hf1
    rw [fitsV1]
    rcases h6 with rfl | rfl | rfl | rfl
    all_goals
      (try (conv => whnf)); repeat' (first | refine Ok.seq ?_ | ((first | refine Ok.region tok ?_ | refine Ok.cond ?_); conv => whnf) | refine Ok.block ?_ | ((first | refine Ok.skip ?_ | refine Ok.ret ?_); conv => whnf) | (refine Or.inl ?_; (conv => whnf); (repeat (refine aI ?_; conv => whnf)); refine ⟨_, hwo, rfl, ?_⟩; conv => whnf) | (refine Or.inl ?_; (conv => whnf); (repeat (refine aI ?_; conv => whnf)); refine ⟨_, hbo, rfl, ?_⟩; conv => whnf) | (refine ⟨fun _ => ?_, fun _ => ?_⟩ <;> (conv => whnf) <;> (try (exfalso; omega))) | fail)
      refine Or.inl ?_; (conv => whnf)
      exact congrArg D.b (propext (by omega))
def vals (l : List Fd) (h : Str) : List Nat := (List.range l.length).map fun k => wor (bitsI l h k)
theorem vals_len (l : List Fd) (h : Str) : (vals l h).length = l.length := by simp [vals]
theorem vals_get {l : List Fd} {h : Str} {k : Nat} (hk : k < l.length) : (vals l h)[k]? = some (wor (bitsI l h k)) := by simp [vals, hk]
@[reducible] def irow (n : Nat) : List D := [.i .i64 (n : Int)]
end Go.Proofs.YtagmibogginaaaaGreatDoor
namespace Go.Proofs.YtagmibogginaaaaGreatDoor
open Go Go.Vx Go.Shelf
@[reducible] def hv (l : List Fd) (r : List (List D)) (h : Str) (r2 : List (List D)) : D := .agg [.lst 34 (l.map frow) r, .lst 3 ((vals l h).map irow) r2]
set_option maxHeartbeats 16000000 in
theorem tholds_at (l : List Fd) (r : List (List D)) (r2 : List (List D)) (hl : l.length ≤ 1000) (hlay : LayF l) (f : Str) (op form lo hi len : Int) (pat : Str) (h : Str) (hh : h.length = wid l) (he : errF l ⟨f, op, form, lo, hi, len, pat⟩ = 0) :
    FSpec Tryz.prog T 203 [.agg (tcl f op form lo hi len pat), hv l r h r2] (fun d _ => d = .b (tstH l h ⟨f, op, form, lo, hi, len, pat⟩)) := by
  rcases find_cases f l with hfi | ⟨k, c, hfi, hc⟩
  · rw [errF_none hfi] at he; cases he
  rw [errF_some hfi hc] at he
  have h1 : (l.map frow).length = l.length := by simp
  have h2 : ((vals l h).map irow).length = l.length := by simp [vals]
  have hcb := hlay c (List.mem_of_getElem? hc)
  have hbl := bitsI_len hc hh
  have hkl := (List.getElem?_eq_some_iff.1 hc).1
  have hvk := vals_get (h := h) hkl
  have htH : tstH l h ⟨f, op, form, lo, hi, len, pat⟩ = ¬ (fitsV ⟨f, op, form, lo, hi, len, pat⟩ (wor (bitsI l h k)) (bitsI l h k).length ↔ op = 2) := by
    unfold tstH
    dsimp only
    rw [hfi]
    rfl
  rw [htH]
  have hwl := wor_lt (bitsI l h k)
  rw [hbl] at hwl ⊢
  have hwl2 := tw62 (show c.bits.toNat ≤ 62 by omega)
  generalize wor (bitsI l h k) = v at *
  have hft := tfits_at f op form lo hi len pat v c.bits.toNat (by omega) (by omega) hwl he
  rw [show ((c.bits.toNat : Nat) : Int) = c.bits by omega] at hft
  generalize fitsV ⟨f, op, form, lo, hi, len, pat⟩ v c.bits.toNat = F at *
  refine FSpec.of_ok tok Tryz.func203 rfl Tryz.call203 (by simp) ?_
  (try (conv => whnf)); repeat' (first | refine Ok.seq ?_ | (refine Ok.region tok ?_; conv => whnf) | refine Ok.block ?_ | fail)
  refine Ok.loopU [2, 3, 8, 9] [10] 0 2 (fun (i : Nat) => [.i .i64 (i : Nat)]) (fun _ b => b) (fun _ r => r) (fun (i : Nat) => i ≤ l.length ∧ findI f l 0 = findI f (l.drop i) i) (fun (i : Nat) => l.length - i) (0) (⟨Nat.zero_le _, rfl⟩) ?_; (conv => whnf); refine ⟨by ((conv => whnf); first | rfl | (simp [envCat, List.take_of_length_le, nrow, frow, bcell, tcells, irow]; done) | (simp [envCat, List.take_of_length_le, nrow, frow, bcell, tcells, irow]; rw [IntKind.wrap_i64]; omega)), ?_⟩
  rintro i ⟨hi', hfd⟩
  (conv => whnf)
  by_cases hil : i < l.length
  · obtain ⟨d, hd⟩ : ∃ d, l[i]? = some d := ⟨_, List.getElem?_eq_getElem hil⟩
    have hdI : l[((i : Nat) : Int).toNat]? = some d := hd
    rw [fdrop_at hd] at hfd
    by_cases hnm : d.name = f
    · have hik : i = k := by
        have h3 : findI f l 0 = (i : Nat) := by
          rw [hfd]
          unfold findI
          rw [if_pos hnm]
        omega
      subst hik
      rw [hc] at hd
      cases hd
      have hvI : (vals l h)[((i : Nat) : Int).toNat]? = some v := hvk
      (try (conv => whnf)); repeat' (first | refine Ok.seq ?_ | ((first | refine Ok.region tok ?_ | refine Ok.region_draw tok follows (by kernel_rfl) ?_ | refine Ok.cond ?_); conv => whnf) | refine Ok.block ?_ | ((first | refine Ok.skip ?_ | refine Ok.ret ?_ | refine nI ?_ | refine ix _ (by assumption) ?_ | refine ⟨_, by assumption, ?_⟩); conv => whnf) | (refine ⟨fun _ => ?_, fun _ => ?_⟩ <;> (conv => whnf) <;> (try (exfalso; omega))) | (refine aJ ?_; conv => whnf) | fail)
      all_goals first
        | (exfalso; omega)
        | (rename_i h; exact absurd hnm h)
        | (refine Or.inl ?_; (conv => whnf)
           rfl)
        | trace_state
    · (try (conv => whnf)); repeat' (first | refine Ok.seq ?_ | ((first | refine Ok.region tok ?_ | refine Ok.region_draw tok follows (by kernel_rfl) ?_ | refine Ok.cond ?_); conv => whnf) | refine Ok.block ?_ | ((first | refine Ok.skip ?_ | refine nI ?_ | refine ix _ (by assumption) ?_); conv => whnf) | (refine ⟨fun _ => ?_, fun _ => ?_⟩ <;> (conv => whnf) <;> (try (exfalso; omega))) | (refine aJ ?_; conv => whnf) | fail)
      all_goals first
        | (exfalso; omega)
        | (rename_i h; exact absurd h hnm)
        | (refine ⟨i + 1, by omega, ⟨by omega, ?_⟩, ?_⟩
           · rw [hfd]
             conv => lhs; unfold findI
             rw [if_neg hnm]
           · (conv => whnf)
             rfl)
        | trace_state
  · have hie : i = l.length := by omega
    subst hie
    rw [List.drop_length] at hfd
    have hfd : findI f l 0 = -1 := hfd
    exfalso
    omega
def Tr.hold (l : List Fd) (h : Str) : Tr → Prop
  | .leaf p => p | .test t => tstH l h t | .neg x => ¬ x.hold l h | .and x y => x.hold l h ∧ y.hold l h | .or x y => x.hold l h ∨ y.hold l h
def Tr.ok (l : List Fd) : Tr → Prop
  | .leaf _ => True | .test t => errF l t = 0 | .neg x => x.ok l | .and x y => x.ok l ∧ y.ok l | .or x y => x.ok l ∧ y.ok l
theorem hLeaf : MethC Tryz.prog "reach/expr.holds" 139 153 := .of tok (by kernel_rfl) (by kernel_rfl) Tryz.call153
theorem hTest : MethC Tryz.prog "reach/expr.holds" 141 203 := .of tok (by kernel_rfl) (by kernel_rfl) Tryz.call203
theorem hNot : MethC Tryz.prog "reach/expr.holds" 143 216 := .of tok (by kernel_rfl) (by kernel_rfl) Tryz.call216
theorem hAnd : MethC Tryz.prog "reach/expr.holds" 147 222 := .of tok (by kernel_rfl) (by kernel_rfl) Tryz.call222
theorem hOr : MethC Tryz.prog "reach/expr.holds" 148 232 := .of tok (by kernel_rfl) (by kernel_rfl) Tryz.call232
theorem leafH (l : List Fd) (r : List (List D)) (h : Str) (r2 : List (List D)) (p : Prop) : FSpec Tryz.prog T 153 [.agg [.b p], hv l r h r2] (fun d _ => d = .b p) := by
  refine FSpec.of_ok tok Tryz.func153 rfl Tryz.call153 (by simp) ?_
  (try (conv => whnf)); repeat' (first | refine Ok.seq ?_ | ((first | refine Ok.region tok ?_ | refine Ok.ret ?_); conv => whnf) | fail)
  refine Or.inl ?_; (conv => whnf)
  rfl
theorem pboth_at (l : List Fd) (r : List (List D)) (h : Str) (r2 : List (List D)) (x y : Tr) (fx fy : FuncId) (mx : MethC Tryz.prog "reach/expr.holds" x.ty fx) (my : MethC Tryz.prog "reach/expr.holds" y.ty fy)
    (sx : FSpec Tryz.prog T fx [.agg x.cs, hv l r h r2] (fun d _ => d = .b (x.hold l h))) (sy : FSpec Tryz.prog T fy [.agg y.cs, hv l r h r2] (fun d _ => d = .b (y.hold l h))) :
    FSpec Tryz.prog T 226 [.agg [x.d, y.d], hv l r h r2] (fun d _ => d = .tup [.b (x.hold l h), .b (y.hold l h)]) := by
  refine FSpec.of_ok tok Tryz.func226 rfl Tryz.call226 (by simp) ?_
  (try (conv => whnf)); repeat' (first | refine Ok.seq ?_ | ((first | refine Ok.region tok ?_ | refine Ok.region_draw tok follows (by kernel_rfl) ?_ | refine Ok.ret ?_ | refine ⟨_, by assumption, ?_⟩ | refine aJ ?_); conv => whnf) | fail)
  refine Or.inl ?_; (conv => whnf)
  rfl
theorem holds_at (l : List Fd) (r : List (List D)) (h : Str) (r2 : List (List D)) (hl : l.length ≤ 1000) (hlay : LayF l) (hh : h.length = wid l) (x : Tr) (hx : x.ok l) :
    ∃ f, MethC Tryz.prog "reach/expr.holds" x.ty f ∧ FSpec Tryz.prog T f [.agg x.cs, hv l r h r2] (fun d _ => d = .b (x.hold l h)) := by
  induction x with
  | leaf p => exact ⟨_, hLeaf, leafH l r h r2 p⟩
  | test t => exact ⟨_, hTest, tholds_at l r r2 hl hlay t.f t.op t.form t.lo t.hi t.len t.pat h hh hx⟩
  | neg x ih =>
    obtain ⟨fx, mx, sx⟩ := ih hx
    refine ⟨_, hNot, ?_⟩
    refine FSpec.of_ok tok Tryz.func216 rfl Tryz.call216 (by simp) ?_
    (try (conv => whnf)); repeat' (first | refine Ok.seq ?_ | ((first | refine Ok.region tok ?_ | refine Ok.ret ?_); conv => whnf) | (refine Or.inl ?_; (conv => whnf); (repeat (refine aI ?_; conv => whnf)); refine ⟨_, mx, _, sx, rfl, ?_⟩; conv => whnf) | fail)
    refine Or.inl ?_; (conv => whnf)
    rfl
  | and x y ih1 ih2 =>
    obtain ⟨fx, mx, sx⟩ := ih1 hx.1
    obtain ⟨fy, my, sy⟩ := ih2 hx.2
    refine ⟨_, hAnd, ?_⟩
    have hb := pboth_at l r h r2 x y fx fy mx my sx sy
    show FSpec Tryz.prog T 222 [.agg [x.d, y.d], hv l r h r2] (fun d _ => d = .b (x.hold l h ∧ y.hold l h))
    generalize x.hold l h = p at *
    generalize y.hold l h = q at *
    refine FSpec.of_ok tok Tryz.func222 rfl Tryz.call222 (by simp) ?_
    (try (conv => whnf)); repeat' (first | refine Ok.seq ?_ | ((first | refine Ok.region tok ?_ | refine Ok.ret ?_); conv => whnf) | (refine Or.inl ?_; (conv => whnf); (repeat (refine aI ?_; conv => whnf)); refine ⟨_, hb, rfl, ?_⟩; conv => whnf) | (refine ⟨fun _ => ?_, fun _ => ?_⟩ <;> (conv => whnf) <;> (try (exfalso; omega))) | fail)
    all_goals first
      | (refine Or.inl ?_; (conv => whnf)
         exact congrArg D.b (propext (by simp [*])))
      | trace_state
  | or x y ih1 ih2 =>
    obtain ⟨fx, mx, sx⟩ := ih1 hx.1
    obtain ⟨fy, my, sy⟩ := ih2 hx.2
    refine ⟨_, hOr, ?_⟩
    have hb := pboth_at l r h r2 x y fx fy mx my sx sy
    show FSpec Tryz.prog T 232 [.agg [x.d, y.d], hv l r h r2] (fun d _ => d = .b (x.hold l h ∨ y.hold l h))
    generalize x.hold l h = p at *
    generalize y.hold l h = q at *
    refine FSpec.of_ok tok Tryz.func232 rfl Tryz.call232 (by simp) ?_
    (try (conv => whnf)); repeat' (first | refine Ok.seq ?_ | ((first | refine Ok.region tok ?_ | refine Ok.ret ?_); conv => whnf) | (refine Or.inl ?_; (conv => whnf); (repeat (refine aI ?_; conv => whnf)); refine ⟨_, hb, rfl, ?_⟩; conv => whnf) | (refine ⟨fun _ => ?_, fun _ => ?_⟩ <;> (conv => whnf) <;> (try (exfalso; omega))) | fail)
    all_goals first
      | (refine Or.inl ?_; (conv => whnf)
         exact congrArg D.b (propext (by simp [*])))
      | trace_state
end Go.Proofs.YtagmibogginaaaaGreatDoor
namespace Go.Proofs.YtagmibogginaaaaGreatDoor
open Go Go.Vx Go.Shelf
theorem trim_bin (s : Str) : Lib.trimS s [48, 49] = [] ↔ Bin s := by
  rw [trim_nil]
  unfold Bin
  constructor
  · intro h b hb
    have := h b hb
    simpa using this
  · intro h b hb
    have := h b hb
    simpa using this
theorem trim01 (s : Str) (h : s.length ≤ 9223372036854775807) : FSpec Tryz.prog T 50 [.s s, .s [48, 49]] (fun d _ => d = .s (Lib.trimS s [48, 49])) :=
  trim_at Tryz.vxTrim (by kernel_rfl) Tryz.call50 s [48, 49] h (by decide) (by decide)
theorem vals_succ {l : List Fd} {h : Str} {i : Nat} (hi : i < l.length) : ((vals l h).take (i + 1)).map irow = ((vals l h).take i).map irow ++ [irow (wor (bitsI l h i))] := by
  rw [take_snoc (vals_get hi), List.map_append]; rfl
set_option maxHeartbeats 16000000 in
theorem unpack_ok (l : List Fd) (r : List (List D)) (h : Str) (hl : l.length ≤ 1000) (hc : (chkO l).1 = 0) (hh : HdrOk (wid l) h) :
    FSpec Tryz.prog T 25 [.lst 34 (l.map frow) r, .s h] (fun d rows => d = .tup [.lst 3 ((vals l h).map irow) [], .i .i64 0] ∧ rows = []) := by
  have h1 : (l.map frow).length = l.length := by simp
  have hch := check_at l r hl
  rw [hc] at hch
  obtain ⟨hlay, _⟩ := chk_lay hc
  have hwd := width_at l r hl hlay
  have hww := wid_le hlay
  obtain ⟨hh1, hh2, hh3⟩ := hh
  have htr := trim01 h (by omega)
  rw [(trim_bin h).2 hh3] at htr
  refine FSpec.of_ok tok Tryz.func25 rfl Tryz.call25 (by simp) ?_
  (try (conv => whnf)); repeat' (first | refine Ok.seq ?_ | ((first | refine Ok.region tok ?_ | refine Ok.cond ?_); conv => whnf) | refine Ok.block ?_ | ((first | refine Ok.skip ?_ | refine Ok.ret ?_); conv => whnf) | (refine Or.inl ?_; (conv => whnf); (repeat (refine aI ?_; conv => whnf)); refine ⟨_, hch, rfl, ?_⟩; conv => whnf) | (refine Or.inl ?_; (conv => whnf); (repeat (refine aI ?_; conv => whnf)); refine ⟨_, hwd, rfl, ?_⟩; conv => whnf) | (refine Or.inl ?_; (conv => whnf); (repeat (refine aI ?_; conv => whnf)); refine ⟨_, htr, rfl, ?_⟩; conv => whnf) | (refine ⟨fun _ => ?_, fun _ => ?_⟩ <;> (conv => whnf) <;> (try (exfalso; omega))) | fail)
  all_goals first
    | (exfalso; omega)
    | (rename_i h; exact absurd rfl h)
    | skip
  refine Ok.ghost 8 3 rfl ?_
  (conv => whnf)
  refine Ok.loopU [29, 30] [1, 8, 31] 1 0 (fun (i : Nat) => [.s (h.drop (wid (l.take i))), .own 0 i, .i .i64 (i : Nat)]) (fun _ b => b) (fun (i : Nat) (_ : Vx.Rows) => [some (3, ((vals l h).take i).map irow)]) (fun (i : Nat) => i ≤ l.length) (fun (i : Nat) => l.length - i) (0) (Nat.zero_le _) ?_; (conv => whnf); refine ⟨by ((conv => whnf); first | rfl | (simp [envCat, List.take_of_length_le, nrow, frow, bcell, tcells, irow]; done) | (simp [envCat, List.take_of_length_le, nrow, frow, bcell, tcells, irow]; rw [IntKind.wrap_i64]; omega)), ?_⟩
  intro i hi
  have htv : (((vals l h).take i).map irow).length = i := by simp [vals]; omega
  (conv => whnf)
  by_cases hil : i < l.length
  · obtain ⟨c, hc⟩ : ∃ c, l[i]? = some c := ⟨_, List.getElem?_eq_getElem hil⟩
    have hcI : l[((i : Nat) : Int).toNat]? = some c := hc
    have hcb := hlay c (List.mem_of_getElem? hc)
    have hsn := wid_snoc hc
    have hsp := wid_split hc
    have hbl := bitsI_len hc hh1
    have hnu := number_at (bitsI l h i) (by omega)
    have hvs := vals_succ (h := h) hil
    have hwl := wor_lt62 (s := bitsI l h i) (k := 32) (by omega) (by omega)
    have hbs := bitsI_some (h := h) hc
    have hdl : (h.drop (wid (l.take i))).length = wid l - wid (l.take i) := by simp; omega
    have hdd : (h.drop (wid (l.take i))).drop c.bits.toNat = h.drop (wid (l.take (i + 1))) := by rw [List.drop_drop, hsn]
    generalize h.drop (wid (l.take i)) = hd at *
    (try (conv => whnf)); repeat' (first | (refine ⟨0, c.bits.toNat, rfl, (by show c.bits = ((c.bits.toNat : Nat) : Int); omega), (by omega), (by omega), ?_⟩; (conv => whnf)) | (refine ⟨bitsI l h i, (by rw [hbs]; rfl), ?_⟩; (conv => whnf)) | (refine ⟨c.bits.toNat, hd.length, (by show c.bits = ((c.bits.toNat : Nat) : Int); omega), rfl, (by omega), (by omega), ?_⟩; (conv => whnf)) | (refine ⟨h.drop (wid (l.take (i + 1))), (by rw [List.take_length, hdd]), ?_⟩; (conv => whnf)) | refine Ok.seq ?_ | ((first | refine Ok.region tok ?_ | refine Ok.cond ?_); conv => whnf) | refine Ok.block ?_ | ((first | refine Ok.skip ?_ | refine nI ?_ | refine ix _ (by assumption) ?_); conv => whnf) | (refine Or.inl ?_; (conv => whnf); (repeat (refine aI ?_; conv => whnf)); refine ⟨_, hnu, rfl, ?_⟩; conv => whnf) | ((first | refine Alt2.l (aI ?_) | refine ⟨_, .inl ⟨rfl, rfl⟩, ?_⟩ | refine ⟨_, _, rfl, rfl, ?_⟩); conv => whnf) | (refine ⟨fun _ => ?_, fun _ => ?_⟩ <;> (conv => whnf) <;> (try (exfalso; omega))) | (refine aJ ?_; conv => whnf) | fail)
    all_goals first
      | (exfalso; omega)
      | skip
    refine ⟨i + 1, by omega, by omega, ?_⟩
    rw [hvs]
    (conv => whnf)
    simp [envCat, vals]
    try omega
  · have hie : i = l.length := by omega
    subst hie
    have htk : (vals l h).take l.length = vals l h := List.take_of_length_le (by rw [vals_len]; omega)
    (try (conv => whnf)); repeat' (first | refine Ok.seq ?_ | ((first | refine Ok.region tok ?_ | refine Ok.cond ?_ | refine Ok.exit ?_ | refine Ok.ret ?_); conv => whnf) | (refine ⟨fun _ => ?_, fun _ => ?_⟩ <;> (conv => whnf) <;> (try (exfalso; omega))) | fail)
    all_goals first
      | (exfalso; omega)
      | skip
    rw [htk]
    refine Or.inl ?_; (conv => whnf)
    refine ⟨?_, rfl⟩
    rw [List.take_of_length_le (by simp [vals]), List.drop_of_length_le (by simp [vals])]
    rfl
theorem unpack_err (l : List Fd) (r : List (List D)) (h : Str) (hl : l.length ≤ 1000) (hc : (chkO l).1 = 0) (hh : ¬ HdrOk (wid l) h) (hw0 : wid l ≠ 0) :
    FSpec Tryz.prog T 25 [.lst 34 (l.map frow) r, .s h] (fun d rows => d = .tup [.lst 3 [] [], .i .i64 46] ∧ rows = []) := by
  have h1 : (l.map frow).length = l.length := by simp
  have hch := check_at l r hl
  rw [hc] at hch
  obtain ⟨hlay, _⟩ := chk_lay hc
  have hwd := width_at l r hl hlay
  have hww := wid_le hlay
  refine FSpec.of_ok tok Tryz.func25 rfl Tryz.call25 (by simp) ?_
  by_cases hlen : h.length = wid l
  · have htr := trim01 h (by omega)
    have hnb := trim_bin h
    generalize Lib.trimS h [48, 49] = q at *
    (try (conv => whnf)); repeat' (first | refine Ok.seq ?_ | ((first | refine Ok.region tok ?_ | refine Ok.cond ?_); conv => whnf) | refine Ok.block ?_ | ((first | refine Ok.skip ?_ | refine Ok.ret ?_); conv => whnf) | (refine Or.inl ?_; (conv => whnf); (repeat (refine aI ?_; conv => whnf)); refine ⟨_, hch, rfl, ?_⟩; conv => whnf) | (refine Or.inl ?_; (conv => whnf); (repeat (refine aI ?_; conv => whnf)); refine ⟨_, hwd, rfl, ?_⟩; conv => whnf) | (refine Or.inl ?_; (conv => whnf); (repeat (refine aI ?_; conv => whnf)); refine ⟨_, htr, rfl, ?_⟩; conv => whnf) | (refine ⟨fun _ => ?_, fun _ => ?_⟩ <;> (conv => whnf) <;> (try (exfalso; omega))) | fail)
    all_goals first
      | (exfalso; omega)
      | (rename_i h9; exact absurd ⟨hlen, hw0, hnb.1 (by simpa using h9)⟩ hh)
      | (refine Or.inl ?_; (conv => whnf)
         exact ⟨rfl, rfl⟩)
      | trace_state
  · (try (conv => whnf)); repeat' (first | refine Ok.seq ?_ | ((first | refine Ok.region tok ?_ | refine Ok.cond ?_ | refine Ok.skip ?_ | refine Ok.ret ?_); conv => whnf) | (refine Or.inl ?_; (conv => whnf); (repeat (refine aI ?_; conv => whnf)); refine ⟨_, hch, rfl, ?_⟩; conv => whnf) | (refine Or.inl ?_; (conv => whnf); (repeat (refine aI ?_; conv => whnf)); refine ⟨_, hwd, rfl, ?_⟩; conv => whnf) | (refine ⟨fun _ => ?_, fun _ => ?_⟩ <;> (conv => whnf) <;> (try (exfalso; omega))) | fail)
    all_goals first
      | (exfalso; omega)
      | (refine Or.inl ?_; (conv => whnf)
         exact ⟨rfl, rfl⟩)
      | trace_state
theorem tstE_all {l : List Fd} : ∀ {e : List Nd}, tstE l e = 0 → ∀ c ∈ e, c.kind = 3 → errC l c.t = 0
  | [], _, c, hc, _ => by cases hc
  | a :: e, h, c, hc, hk => by
    by_cases hb : a.kind = 3 ∧ errC l a.t ≠ 0
    · rw [tstE_bad hb.1 hb.2] at h; exact absurd h hb.2
    · rw [tstE_ok hb] at h
      rcases List.mem_cons.1 hc with rfl | hc
      · exact Classical.byContradiction fun e => hb ⟨hk, e⟩
      · exact tstE_all h c hc hk
theorem shapeT_ok {l : List Fd} {c : Nd} {rs rs' : List Tr} (h : shapeT c rs = some rs') (hc : c.kind = 3 → errF l c.t = 0) (hr : ∀ x ∈ rs, x.ok l) : ∀ x ∈ rs', x.ok l := by
  unfold shapeT at h
  split at h
  · cases h
    intro x hx
    rcases List.mem_cons.1 hx with rfl | hx
    · exact trivial
    · exact hr x hx
  split at h
  · rename_i hk
    cases h
    intro x hx
    rcases List.mem_cons.1 hx with rfl | hx
    · exact hc hk
    · exact hr x hx
  split at h
  · split at h
    · cases h
      rename_i y r1
      intro x hx
      rcases List.mem_cons.1 hx with rfl | hx
      · exact hr y (by simp)
      · exact hr x (by simp [hx])
    · cases h
  split at h
  · split at h
    · cases h
      intro x hx
      rcases List.mem_cons.1 hx with rfl | hx
      · exact ⟨hr _ (by simp), hr _ (by simp)⟩
      · exact hr x (by simp [hx])
    · cases h
  split at h
  · split at h
    · cases h
      intro x hx
      rcases List.mem_cons.1 hx with rfl | hx
      · exact ⟨hr _ (by simp), hr _ (by simp)⟩
      · exact hr x (by simp [hx])
    · cases h
  · cases h
theorem bld_go {c : Nd} {e : List Nd} {rs z : List Tr} (h : buildR (c :: e) rs = some z) : ∃ rs1, shapeT c rs = some rs1 ∧ buildR e rs1 = some z := by
  unfold buildR at h
  split at h
  · rename_i r1 h1
    unfold stepT at h1
    split at h1
    · cases h1
    · exact ⟨_, h1, h⟩
  · cases h
theorem buildR_ok {l : List Fd} : ∀ {e : List Nd} {rs z : List Tr}, buildR e rs = some z → (∀ c ∈ e, c.kind = 3 → errF l c.t = 0) → (∀ x ∈ rs, x.ok l) → ∀ x ∈ z, x.ok l
  | [], rs, z, h, _, hr => by unfold buildR at h; cases h; exact hr
  | c :: e, rs, z, h, hc, hr => by
    obtain ⟨rs1, h1, h2⟩ := bld_go h
    exact buildR_ok h2 (fun d hd => hc d (by simp [hd])) (shapeT_ok h1 (hc c (by simp)) hr)
theorem bldO_one {e : List Nd} {x : Tr} (h : bldO e = some x) : buildR e [] = some [x] := by
  unfold bldO at h
  cases hb : buildR e [] with
  | none => rw [hb] at h; cases h
  | some l =>
    rw [hb] at h
    match l, h with
    | [y], h => cases h; rfl
theorem chk_good {l : List Fd} {e : List Nd} (h : chkE l e = 0) : (chkO l).1 = 0 ∧ e.length ≤ 64 ∧ ∃ x, bldO e = some x ∧ x.ok l ∧ ∀ c ∈ e, c.kind = 3 → errF l c.t = 0 := by
  have h1 : (chkO l).1 = 0 := Classical.byContradiction fun n => n (by rw [← chkE_f n]; exact h)
  have h2 : ¬ 64 < e.length := fun n => by rw [chkE_l h1 n] at h; cases h
  refine ⟨h1, by omega, ?_⟩
  cases hb : bldO e with
  | none => rw [chkE_b h1 h2 hb] at h; cases h
  | some x =>
    by_cases h4 : 32 < x.nest
    · rw [chkE_d h1 h2 hb h4] at h; cases h
    rw [chkE_t h1 h2 hb h4] at h
    have ht : ∀ c ∈ e, c.kind = 3 → errF l c.t = 0 := fun c hc hk => by rw [← errC_f h1]; exact tstE_all h c hc hk
    exact ⟨x, rfl, buildR_ok (bldO_one hb) ht (by simp) x (by simp), ht⟩
theorem wid_pos {l : List Fd} (h : (chkO l).1 = 0) : wid l ≠ 0 := by
  obtain ⟨hlay, _⟩ := chk_lay h
  cases l with
  | nil => rw [chkO_nil rfl] at h; cases h
  | cons f l =>
    have := hlay f (by simp)
    simp only [wid, List.map_cons, List.sum_cons]
    omega
def evlP (l : List Fd) (e : List Nd) (h : Str) : Prop := chkE l e = 0 ∧ HdrOk (wid l) h ∧ ∃ x, bldO e = some x ∧ x.hold l h
open Classical in
noncomputable def evlE (l : List Fd) (e : List Nd) (h : Str) : Int := if chkE l e ≠ 0 then chkE l e else if HdrOk (wid l) h then 0 else 46
theorem evl_err {l : List Fd} {e : List Nd} {h : Str} (hn : chkE l e ≠ 0) : evlP l e h = False ∧ evlE l e h = chkE l e := by
  unfold evlP evlE
  rw [if_pos hn]
  exact ⟨propext ⟨fun x => hn x.1, False.elim⟩, rfl⟩
theorem evl_hdr {l : List Fd} {e : List Nd} {h : Str} (hn : chkE l e = 0) (hh : ¬ HdrOk (wid l) h) : evlP l e h = False ∧ evlE l e h = 46 := by
  unfold evlP evlE
  rw [if_neg (fun x => x hn), if_neg hh]
  exact ⟨propext ⟨fun x => hh x.2.1, False.elim⟩, rfl⟩
theorem evl_ok {l : List Fd} {e : List Nd} {h : Str} {x : Tr} (hn : chkE l e = 0) (hh : HdrOk (wid l) h) (hb : bldO e = some x) : evlP l e h = x.hold l h ∧ evlE l e h = 0 := by
  unfold evlP evlE
  rw [if_neg (fun x => x hn), if_pos hh]
  exact ⟨propext ⟨fun ⟨_, _, y, hy, h2⟩ => by rw [hb] at hy; cases hy; exact h2, fun h2 => ⟨hn, hh, x, hb, h2⟩⟩, rfl⟩
theorem evlE_le (l : List Fd) (e : List Nd) (h : Str) : 0 ≤ evlE l e h ∧ evlE l e h ≤ 100 := by
  have := chkE_le l e
  unfold evlE
  split
  · exact this
  · split <;> omega
set_option maxHeartbeats 16000000 in
theorem eval_at (l : List Fd) (r : List (List D)) (e : List Nd) (r2 : List (List D)) (h : Str) (hl : l.length ≤ 1000) (he : e.length ≤ 1000) (htx : TxtOk e) :
    FSpec Tryz.prog T 15 [.lst 34 (l.map frow) r, .lst 56 (e.map nrow) r2, .s h] (fun d _ => d = .tup [.b (evlP l e h), .i .i64 (evlE l e h)]) := by
  have h1 : (l.map frow).length = l.length := by simp
  have hk := echk_at l r e r2 hl he htx
  by_cases hc : chkE l e = 0
  case neg =>
    obtain ⟨e1, e2⟩ := evl_err (h := h) hc
    rw [e1, e2]
    rw [chkD_err rfl hc] at hk
    generalize chkE l e = k at *
    refine FSpec.of_ok tok Tryz.func15 rfl Tryz.call15 (by simp) ?_
    (try (conv => whnf)); repeat' (first | refine Ok.seq ?_ | ((first | refine Ok.region tok ?_ | refine Ok.cond ?_ | refine Ok.ret ?_); conv => whnf) | (refine Or.inr (Or.inl ?_); (conv => whnf); (repeat (refine aI ?_; conv => whnf)); refine ⟨_, hk, ?_⟩; rintro _ _ ⟨rfl, rfl⟩; conv => whnf) | (refine ⟨fun _ => ?_, fun _ => ?_⟩ <;> (conv => whnf) <;> (try (exfalso; omega))) | fail)
    all_goals first
      | (exfalso; omega)
      | (refine Or.inl ?_; (conv => whnf)
         rfl)
      | trace_state
  obtain ⟨hco, _, x, hb, hxo, _⟩ := chk_good hc
  rw [chkD_ok hc hb] at hk
  by_cases hh : HdrOk (wid l) h
  case neg =>
    obtain ⟨e1, e2⟩ := evl_hdr hc hh
    rw [e1, e2]
    have hu := unpack_err l r h hl hco hh (wid_pos hco)
    refine FSpec.of_ok tok Tryz.func15 rfl Tryz.call15 (by simp) ?_
    (try (conv => whnf)); repeat' (first | refine Ok.seq ?_ | ((first | refine Ok.region tok ?_ | refine Ok.cond ?_ | refine Ok.skip ?_ | refine Ok.ret ?_); conv => whnf) | (refine Or.inr (Or.inl ?_); (conv => whnf); (repeat (refine aI ?_; conv => whnf)); refine ⟨_, hk, ?_⟩; rintro _ _ ⟨rfl, rfl⟩; conv => whnf) | (refine Or.inr (Or.inl ?_); (conv => whnf); (repeat (refine aI ?_; conv => whnf)); refine ⟨_, hu , ?_⟩; rintro _ _ ⟨rfl, rfl⟩ <;> (conv => whnf)) | (refine ⟨fun _ => ?_, fun _ => ?_⟩ <;> (conv => whnf) <;> (try (exfalso; omega))) | fail)
    all_goals first
      | (exfalso; omega)
      | (refine Or.inl ?_; (conv => whnf)
         rfl)
      | trace_state
  obtain ⟨e1, e2⟩ := evl_ok hc hh hb
  rw [e1, e2]
  obtain ⟨hlay, _⟩ := chk_lay hco
  have hu := unpack_ok l r h hl hco hh
  obtain ⟨fx, mx, sx⟩ := holds_at l r h [] hl hlay hh.1 x hxo
  generalize x.hold l h = b at *
  refine FSpec.of_ok tok Tryz.func15 rfl Tryz.call15 (by simp) ?_
  (try (conv => whnf)); repeat' (first | refine Ok.seq ?_ | ((first | refine Ok.region tok ?_ | refine Ok.cond ?_ | refine Ok.skip ?_ | refine Ok.ret ?_); conv => whnf) | (refine Or.inr (Or.inl ?_); (conv => whnf); (repeat (refine aI ?_; conv => whnf)); refine ⟨_, hk, ?_⟩; rintro _ _ ⟨rfl, rfl⟩; conv => whnf) | (refine Or.inl ?_; (conv => whnf); (repeat (refine aI ?_; conv => whnf)); refine ⟨_, mx, _, sx, rfl, ?_⟩; conv => whnf) | (refine Or.inr (Or.inl ?_); (conv => whnf); (repeat (refine aI ?_; conv => whnf)); refine ⟨_, hu , ?_⟩; rintro _ _ ⟨rfl, rfl⟩ <;> (conv => whnf)) | (refine ⟨fun _ => ?_, fun _ => ?_⟩ <;> (conv => whnf) <;> (try (exfalso; omega))) | fail)
  all_goals first
    | (exfalso; omega)
    | (refine Or.inl ?_; (conv => whnf)
       rfl)
    | trace_state
end Go.Proofs.YtagmibogginaaaaGreatDoor
namespace Go.Proofs.YtagmibogginaaaaGreatDoor
open Go Go.Vx Go.Shelf
inductive BB : D → Prop → Prop where
  | b {p P : Prop} (h : p ↔ P) : BB (.b p) P
  | t {P : Prop} (h : P) : BB .tt P
  | f {P : Prop} (h : ¬ P) : BB .ff P
@[reducible] def vrow (q : Tr × D) : List D := [q.2]
theorem vpush_nil (ps : List (Tr × D)) (x : Tr × D) : ((ps.reverse ++ []).map vrow) ++ [vrow x] = ((x :: ps).reverse ++ []).map vrow := by simp
theorem vpush_cons (ps : List (Tr × D)) (x y : Tr × D) (j : List (Tr × D)) : ((ps.reverse ++ y :: j).map vrow).set ps.length (vrow x) = ((x :: ps).reverse ++ j).map vrow := by
  rw [List.map_append, List.set_append_right _ _ (by simp)]
  simp
theorem vpile_top (x : Tr × D) (r j : List (Tr × D)) : ((x :: r).reverse ++ j)[r.length]? = some x := by simp
theorem vpile_top2 (x y : Tr × D) (r j : List (Tr × D)) : ((y :: x :: r).reverse ++ j)[r.length]? = some x := by simp
theorem vset_top (x x' : Tr × D) (r j : List (Tr × D)) : ((x :: r).reverse ++ j).set r.length x' = (x' :: r).reverse ++ j := by simp
theorem vset_top2 (x y x' : Tr × D) (r j : List (Tr × D)) : ((y :: x :: r).reverse ++ j).set r.length x' = (x' :: r).reverse ++ (y :: j) := by simp
theorem bb_cons {l : List Fd} {h : Str} {q : Tr × D} {ps : List (Tr × D)} (h1 : BB q.2 (q.1.hold l h)) (h2 : ∀ q ∈ ps, BB q.2 (q.1.hold l h)) : ∀ q' ∈ q :: ps, BB q'.2 (q'.1.hold l h) := by
  intro q' hq
  rcases List.mem_cons.1 hq with rfl | hq
  · exact h1
  · exact h2 q' hq
theorem sh5_some {c : Nd} {rs rs1 : List Tr} (hk : c.kind = 5) (h : shapeT c rs = some rs1) : ∃ x y r, rs = y :: x :: r ∧ rs1 = .and x y :: r := by
  rw [sh5 hk] at h
  match rs, h with
  | y :: x :: r, h => cases h; exact ⟨x, y, r, rfl, rfl⟩
theorem sh6_some {c : Nd} {rs rs1 : List Tr} (hk : c.kind = 6) (h : shapeT c rs = some rs1) : ∃ x y r, rs = y :: x :: r ∧ rs1 = .or x y :: r := by
  rw [sh6 hk] at h
  match rs, h with
  | y :: x :: r, h => cases h; exact ⟨x, y, r, rfl, rfl⟩
theorem sh4_some {c : Nd} {rs rs1 : List Tr} (hk : c.kind = 4) (h : shapeT c rs = some rs1) : ∃ x r, rs = x :: r ∧ rs1 = .neg x :: r := by
  rw [sh4 hk] at h
  match rs, h with
  | x :: r, h => cases h; exact ⟨x, r, rfl, rfl⟩
set_option maxHeartbeats 32000000 in
theorem reval_ok (l : List Fd) (r : List (List D)) (e : List Nd) (r2 : List (List D)) (h : Str) (hl : l.length ≤ 1000) (he : e.length ≤ 1000) (htx : TxtOk e) (hc : chkE l e = 0) (hh : HdrOk (wid l) h) (x0 : Tr) (hb0 : bldO e = some x0) (ht : ∀ c ∈ e, c.kind = 3 → errF l c.t = 0) :
    FSpec Tryz.prog T 16 [.lst 34 (l.map frow) r, .lst 56 (e.map nrow) r2, .s h] (fun d _ => d = .tup [.b (x0.hold l h), .i .i64 0]) := by
  have h1 : (l.map frow).length = l.length := by simp
  have h2 : (e.map nrow).length = e.length := by simp
  have hk := rechk_at l r e r2 hl he htx
  rw [hc] at hk
  obtain ⟨hco, _, _⟩ := chk_good hc
  obtain ⟨hlay, _⟩ := chk_lay hco
  have hww := wid_le hlay
  have hwd := ewidth_at l r hl hlay
  have hhd := (header_at (wid l) h (by omega)).tt hh
  have hone := bldO_one hb0
  refine FSpec.of_ok tok Tryz.func16 rfl Tryz.call16 (by simp) ?_
  (try (conv => whnf)); repeat' (first | refine Ok.seq ?_ | ((first | refine Ok.region tok ?_ | refine Ok.cond ?_); conv => whnf) | refine Ok.block ?_ | (refine Ok.skip ?_; conv => whnf) | (refine Or.inl ?_; (conv => whnf); (repeat (refine aI ?_; conv => whnf)); refine ⟨_, hk, rfl, ?_⟩; conv => whnf) | (refine Or.inl ?_; (conv => whnf); (repeat (refine aI ?_; conv => whnf)); refine ⟨_, hwd, rfl, ?_⟩; conv => whnf) | (refine Or.inl ?_; (conv => whnf); (repeat (refine aI ?_; conv => whnf)); refine ⟨_, hhd, rfl, ?_⟩; conv => whnf) | (refine ⟨fun _ => ?_, fun _ => ?_⟩ <;> (conv => whnf) <;> (try (exfalso; omega))) | fail)
  all_goals first
    | (exfalso; omega)
    | skip
  refine Ok.ghost 9 4 rfl ?_
  (conv => whnf)
  refine Ok.loopU [0, 1, 2] [9, 10] 1 0 (fun (x : Nat × Nat × List (Tr × D) × List (Tr × D)) => [.own 0 x.2.1, .i .i64 (x.1 : Nat)]) (fun _ b => b) (fun (x : Nat × Nat × List (Tr × D) × List (Tr × D)) (_ : Vx.Rows) => [some (4, (x.2.2.1.reverse ++ x.2.2.2).map vrow)]) (fun (x : Nat × Nat × List (Tr × D) × List (Tr × D)) => x.1 ≤ e.length ∧ x.2.2.1.length = x.2.1 ∧ x.2.1 + x.2.2.2.length ≤ x.1 ∧ buildR (e.drop x.1) (x.2.2.1.map Prod.fst) = some [x0] ∧ ∀ q ∈ x.2.2.1, BB q.2 (q.1.hold l h)) (fun (x : Nat × Nat × List (Tr × D) × List (Tr × D)) => e.length - x.1) ((0, 0, [], [])) (⟨Nat.zero_le _, rfl, Nat.le_refl _, hone, by simp⟩) ?_; (conv => whnf); refine ⟨by ((conv => whnf); first | rfl | (simp [envCat, List.take_of_length_le, nrow, frow, bcell, tcells, irow, vrow]; done) | (simp [envCat, List.take_of_length_le, nrow, frow, bcell, tcells, irow, vrow]; rw [IntKind.wrap_i64]; omega)), ?_⟩
  rintro ⟨i, n, ps, j⟩ ⟨hi, hn, hj, hb, hbb⟩
  dsimp only at hi hn hj hb hbb ⊢
  have hlm : ((ps.reverse ++ j).map vrow).length = n + j.length := by simp [hn]
  (conv => whnf)
  by_cases hil : i < e.length
  · obtain ⟨c, hcc⟩ : ∃ c, e[i]? = some c := ⟨_, List.getElem?_eq_getElem hil⟩
    have hcI : e[((i : Nat) : Int).toNat]? = some c := hcc
    rw [edrop_at hcc] at hb
    obtain ⟨rs1, hs1, hb2⟩ := bld_go hb
    by_cases hk1 : c.kind = 1
    · rw [sh12 (.inl hk1)] at hs1
      cases hs1
      cases j with
      | nil =>
        simp only [List.length_nil, Nat.add_zero] at hj hlm
        (try (conv => whnf)); repeat' (first | refine Ok.seq ?_ | ((first | refine Ok.region tok ?_ | refine Ok.cond ?_); conv => whnf) | refine Ok.block ?_ | ((first | refine Ok.skip ?_ | refine nI ?_ | refine ix _ (by assumption) ?_ | refine Alt2.l (aI ?_) | refine ⟨_, .inl ⟨rfl, rfl⟩, ?_⟩ | refine ⟨_, _, rfl, rfl, ?_⟩); conv => whnf) | (refine ⟨fun _ => ?_, fun _ => ?_⟩ <;> (conv => whnf) <;> (try (exfalso; omega))) | (refine aJ ?_; conv => whnf) | fail)
        all_goals first
          | (exfalso; omega)
          | skip
        all_goals
          refine ⟨(i + 1, n + 1, (Tr.leaf (c.kind = 1), D.b True) :: ps, []), by dsimp only; omega, ⟨by dsimp only; omega, by simp [hn], by simp; omega, hb2, bb_cons (.b (by simp [Tr.hold, hk1])) hbb⟩, ?_⟩
          dsimp only
          rw [← vpush_nil]
          (conv => whnf)
          simp [envCat, hn]
          try exact ⟨rfl, rfl⟩
      | cons y j =>
        simp only [List.length_cons] at hj hlm
        (try (conv => whnf)); repeat' (first | refine Ok.seq ?_ | ((first | refine Ok.region tok ?_ | refine Ok.cond ?_); conv => whnf) | refine Ok.block ?_ | ((first | refine Ok.skip ?_ | refine nI ?_ | refine ix _ (by assumption) ?_ | refine Alt2.r (aI ?_) | refine ⟨_, .inl ⟨rfl, rfl⟩, ?_⟩ | refine ⟨_, _, rfl, rfl, ?_⟩); conv => whnf) | (refine ⟨fun _ => ?_, fun _ => ?_⟩ <;> (conv => whnf) <;> (try (exfalso; omega))) | ((first | refine aJ ?_ | refine ⟨_, rfl, ?_⟩); conv => whnf) | fail)
        all_goals first
          | (exfalso; omega)
          | skip
        all_goals
          refine ⟨(i + 1, n + 1, (Tr.leaf (c.kind = 1), D.b True) :: ps, j), by dsimp only; omega, ⟨by dsimp only; omega, by simp [hn], by simp; omega, hb2, bb_cons (.b (by simp [Tr.hold, hk1])) hbb⟩, ?_⟩
          dsimp only
          rw [← vpush_cons ps _ y j, hn]
          (conv => whnf)
          simp [envCat, hn]
          try exact ⟨rfl, rfl⟩
    by_cases hk2 : c.kind = 2
    · rw [sh12 (.inr hk2)] at hs1
      cases hs1
      cases j with
      | nil =>
        simp only [List.length_nil, Nat.add_zero] at hj hlm
        (try (conv => whnf)); repeat' (first | refine Ok.seq ?_ | ((first | refine Ok.region tok ?_ | refine Ok.cond ?_); conv => whnf) | refine Ok.block ?_ | ((first | refine Ok.skip ?_ | refine nI ?_ | refine ix _ (by assumption) ?_ | refine Alt2.l (aI ?_) | refine ⟨_, .inl ⟨rfl, rfl⟩, ?_⟩ | refine ⟨_, _, rfl, rfl, ?_⟩); conv => whnf) | (refine ⟨fun _ => ?_, fun _ => ?_⟩ <;> (conv => whnf) <;> (try (exfalso; omega))) | (refine aJ ?_; conv => whnf) | fail)
        all_goals first
          | (exfalso; omega)
          | skip
        all_goals
          refine ⟨(i + 1, n + 1, (Tr.leaf (c.kind = 1), D.b False) :: ps, []), by dsimp only; omega, ⟨by dsimp only; omega, by simp [hn], by simp; omega, hb2, bb_cons (.b (by simp [Tr.hold, hk2])) hbb⟩, ?_⟩
          dsimp only
          rw [← vpush_nil]
          (conv => whnf)
          simp [envCat, hn]
          try exact ⟨rfl, rfl⟩
      | cons y j =>
        simp only [List.length_cons] at hj hlm
        (try (conv => whnf)); repeat' (first | refine Ok.seq ?_ | ((first | refine Ok.region tok ?_ | refine Ok.cond ?_); conv => whnf) | refine Ok.block ?_ | ((first | refine Ok.skip ?_ | refine nI ?_ | refine ix _ (by assumption) ?_ | refine Alt2.r (aI ?_) | refine ⟨_, .inl ⟨rfl, rfl⟩, ?_⟩ | refine ⟨_, _, rfl, rfl, ?_⟩); conv => whnf) | (refine ⟨fun _ => ?_, fun _ => ?_⟩ <;> (conv => whnf) <;> (try (exfalso; omega))) | ((first | refine aJ ?_ | refine ⟨_, rfl, ?_⟩); conv => whnf) | fail)
        all_goals first
          | (exfalso; omega)
          | skip
        all_goals
          refine ⟨(i + 1, n + 1, (Tr.leaf (c.kind = 1), D.b False) :: ps, j), by dsimp only; omega, ⟨by dsimp only; omega, by simp [hn], by simp; omega, hb2, bb_cons (.b (by simp [Tr.hold, hk2])) hbb⟩, ?_⟩
          dsimp only
          rw [← vpush_cons ps _ y j, hn]
          (conv => whnf)
          simp [envCat, hn]
          try exact ⟨rfl, rfl⟩
    by_cases hk3 : c.kind = 3
    · rw [sh3 hk3] at hs1
      cases hs1
      have hho := rholds_at l r hl hlay c.t.f c.t.op c.t.form c.t.lo c.t.hi c.t.len c.t.pat h hh.2.2 hh.1 (ht c (List.mem_of_getElem? hcc) hk3)
      cases j with
      | nil =>
        simp only [List.length_nil, Nat.add_zero] at hj hlm
        (try (conv => whnf)); repeat' (first | refine Ok.seq ?_ | ((first | refine Ok.region tok ?_ | refine Ok.cond ?_); conv => whnf) | refine Ok.block ?_ | ((first | refine Ok.skip ?_ | refine nI ?_ | refine ix _ (by assumption) ?_); conv => whnf) | (refine Or.inl ?_; (conv => whnf); (repeat (refine aI ?_; conv => whnf)); refine ⟨_, hho, rfl, ?_⟩; conv => whnf) | ((first | refine Alt2.l (aI ?_) | refine ⟨_, .inl ⟨rfl, rfl⟩, ?_⟩ | refine ⟨_, _, rfl, rfl, ?_⟩); conv => whnf) | (refine ⟨fun _ => ?_, fun _ => ?_⟩ <;> (conv => whnf) <;> (try (exfalso; omega))) | (refine aJ ?_; conv => whnf) | fail)
        all_goals first
          | (exfalso; omega)
          | skip
        all_goals
          refine ⟨(i + 1, n + 1, (Tr.test c.t, D.b (tstH l h c.t)) :: ps, []), by dsimp only; omega, ⟨by dsimp only; omega, by simp [hn], by simp; omega, hb2, bb_cons (.b Iff.rfl) hbb⟩, ?_⟩
          dsimp only
          rw [← vpush_nil]
          (conv => whnf)
          simp [envCat, hn]
          try exact ⟨rfl, rfl⟩
      | cons y j =>
        simp only [List.length_cons] at hj hlm
        (try (conv => whnf)); repeat' (first | refine Ok.seq ?_ | ((first | refine Ok.region tok ?_ | refine Ok.cond ?_); conv => whnf) | refine Ok.block ?_ | ((first | refine Ok.skip ?_ | refine nI ?_ | refine ix _ (by assumption) ?_); conv => whnf) | (refine Or.inl ?_; (conv => whnf); (repeat (refine aI ?_; conv => whnf)); refine ⟨_, hho, rfl, ?_⟩; conv => whnf) | ((first | refine Alt2.r (aI ?_) | refine ⟨_, .inl ⟨rfl, rfl⟩, ?_⟩ | refine ⟨_, _, rfl, rfl, ?_⟩); conv => whnf) | (refine ⟨fun _ => ?_, fun _ => ?_⟩ <;> (conv => whnf) <;> (try (exfalso; omega))) | ((first | refine aJ ?_ | refine ⟨_, rfl, ?_⟩); conv => whnf) | fail)
        all_goals first
          | (exfalso; omega)
          | skip
        all_goals
          refine ⟨(i + 1, n + 1, (Tr.test c.t, D.b (tstH l h c.t)) :: ps, j), by dsimp only; omega, ⟨by dsimp only; omega, by simp [hn], by simp; omega, hb2, bb_cons (.b Iff.rfl) hbb⟩, ?_⟩
          dsimp only
          rw [← vpush_cons ps _ y j, hn]
          (conv => whnf)
          simp [envCat, hn]
          try exact ⟨rfl, rfl⟩
    by_cases hk4 : c.kind = 4
    · obtain ⟨x, r1, hr1, rfl⟩ := sh4_some hk4 hs1
      match ps, hn, hr1 with
      | (x', dx) :: r, hn, hr1 =>
        simp only [List.map_cons, List.cons.injEq] at hr1
        obtain ⟨rfl, rfl⟩ := hr1
        simp only [List.length_cons] at hn
        obtain ⟨m, rfl⟩ : ∃ m, n = m + 1 := ⟨n - 1, by omega⟩
        have hm : r.length = m := by omega
        have hmI : (((m + 1 : Nat) : Int) - 1).toNat = m := by omega
        have hg1 : ((((x', dx) :: r).reverse ++ j))[(((m + 1 : Nat) : Int) - 1).toNat]? = some (x', dx) := by rw [hmI, ← hm]; exact vpile_top (x', dx) r j
        have hbx : BB dx (x'.hold l h) := hbb (x', dx) (by simp)
        have hbr : ∀ q ∈ r, BB q.2 (q.1.hold l h) := fun q hq => hbb q (by simp [hq])
        have hTr : (Tr.neg x').hold l h = ¬ x'.hold l h := rfl
        generalize x'.hold l h = p at *
        rcases hbx with ⟨hp⟩ | hp | hp
        all_goals
          try (have e1 := propext hp; subst e1)
          (try (conv => whnf)); repeat' (first | (refine rd rfl hg1 ?_; (conv => whnf)) | (refine st (Tr.neg x', _) hg1 (by simp) rfl ?_; (conv => whnf)) | refine Ok.seq ?_ | ((first | refine Ok.region tok ?_ | refine Ok.cond ?_); conv => whnf) | refine Ok.block ?_ | ((first | refine Ok.skip ?_ | refine nI ?_ | refine ix _ (by assumption) ?_); conv => whnf) | (refine ⟨fun _ => ?_, fun _ => ?_⟩ <;> (conv => whnf) <;> (try (exfalso; omega))) | (refine aJ ?_; conv => whnf) | fail)
          all_goals first
            | (exfalso; omega)
            | skip
          all_goals
            refine Exists.intro (i + 1, m + 1, (Tr.neg x', ?_) :: r, j) ?_
            rotate_left
            refine And.intro (by dsimp only; omega) (And.intro ?_ ?_)
            rotate_left
            · dsimp only
              rw [hmI, ← hm, vset_top]
              (conv => whnf)
              rfl
            refine ⟨by dsimp only; omega, by simp [hm], by dsimp only; omega, hb2, bb_cons ?_ hbr⟩
            dsimp only
            rw [hTr]
            first
              | exact .t (by simp [*])
              | exact .f (by simp [*])
              | exact .b (by simp [*])
              | trace_state
    by_cases hk5 : c.kind = 5
    · obtain ⟨x, y, r1, hr1, rfl⟩ := sh5_some hk5 hs1
      match ps, hn, hr1 with
      | (y', dy) :: (x', dx) :: r, hn, hr1 =>
        simp only [List.map_cons, List.cons.injEq] at hr1
        obtain ⟨rfl, rfl, rfl⟩ := hr1
        simp only [List.length_cons] at hn
        obtain ⟨m, rfl⟩ : ∃ m, n = m + 2 := ⟨n - 2, by omega⟩
        have hm : r.length = m := by omega
        have hmI : (((m + 2 : Nat) : Int) - 1).toNat = m + 1 := by omega
        have hmJ : (((m + 2 : Nat) : Int) - 2).toNat = m := by omega
        have hg1 : ((((y', dy) :: (x', dx) :: r).reverse ++ j))[(((m + 2 : Nat) : Int) - 1).toNat]? = some (y', dy) := by rw [hmI, ← hm]; exact vpile_top (y', dy) ((x', dx) :: r) j
        have hg2 : ((((y', dy) :: (x', dx) :: r).reverse ++ j))[(((m + 2 : Nat) : Int) - 2).toNat]? = some (x', dx) := by rw [hmJ, ← hm]; exact vpile_top2 (x', dx) (y', dy) r j
        have hbx : BB dx (x'.hold l h) := hbb (x', dx) (by simp)
        have hby : BB dy (y'.hold l h) := hbb (y', dy) (by simp)
        have hbr : ∀ q ∈ r, BB q.2 (q.1.hold l h) := fun q hq => hbb q (by simp [hq])
        have hTr : (Tr.and x' y').hold l h = (x'.hold l h ∧ y'.hold l h) := rfl
        generalize x'.hold l h = p at *
        generalize y'.hold l h = q at *
        rcases hbx with ⟨hp⟩ | hp | hp <;> rcases hby with ⟨hq⟩ | hq | hq
        all_goals
          try (have e1 := propext hp; subst e1)
          try (have e2 := propext hq; subst e2)
          (try (conv => whnf)); repeat' (first | (refine rd rfl hg1 ?_; (conv => whnf)) | (refine rd rfl hg2 ?_; (conv => whnf)) | (refine st (Tr.and x' y', _) hg2 (by simp) rfl ?_; (conv => whnf)) | (refine ⟨m + 1, rfl, (by show ((m + 2 : Nat) : Int) - 1 = ((m + 1 : Nat) : Int); omega), (by first | omega | (simp; omega)), ?_⟩; (conv => whnf)) | refine Ok.seq ?_ | ((first | refine Ok.region tok ?_ | refine Ok.cond ?_); conv => whnf) | refine Ok.block ?_ | ((first | refine Ok.skip ?_ | refine nI ?_ | refine ix _ (by assumption) ?_); conv => whnf) | (refine ⟨fun _ => ?_, fun _ => ?_⟩ <;> (conv => whnf) <;> (try (exfalso; omega))) | (refine aJ ?_; conv => whnf) | fail)
          all_goals first
            | (exfalso; omega)
            | skip
          all_goals
            refine Exists.intro (i + 1, m + 1, (Tr.and x' y', ?_) :: r, (y', ?_) :: j) ?_
            rotate_left 2
            refine And.intro (by dsimp only; omega) (And.intro ?_ ?_)
            rotate_left
            · dsimp only
              rw [hmJ, ← hm, vset_top2]
              (conv => whnf)
              rfl
            refine ⟨by dsimp only; omega, by simp [hm], by simp; omega, hb2, bb_cons ?_ hbr⟩
            dsimp only
            rw [hTr]
            first
              | exact .t (by simp [*])
              | exact .f (by simp [*])
              | exact .b (by simp [*])
              | trace_state
    by_cases hk6 : c.kind = 6
    · obtain ⟨x, y, r1, hr1, rfl⟩ := sh6_some hk6 hs1
      match ps, hn, hr1 with
      | (y', dy) :: (x', dx) :: r, hn, hr1 =>
        simp only [List.map_cons, List.cons.injEq] at hr1
        obtain ⟨rfl, rfl, rfl⟩ := hr1
        simp only [List.length_cons] at hn
        obtain ⟨m, rfl⟩ : ∃ m, n = m + 2 := ⟨n - 2, by omega⟩
        have hm : r.length = m := by omega
        have hmI : (((m + 2 : Nat) : Int) - 1).toNat = m + 1 := by omega
        have hmJ : (((m + 2 : Nat) : Int) - 2).toNat = m := by omega
        have hg1 : ((((y', dy) :: (x', dx) :: r).reverse ++ j))[(((m + 2 : Nat) : Int) - 1).toNat]? = some (y', dy) := by rw [hmI, ← hm]; exact vpile_top (y', dy) ((x', dx) :: r) j
        have hg2 : ((((y', dy) :: (x', dx) :: r).reverse ++ j))[(((m + 2 : Nat) : Int) - 2).toNat]? = some (x', dx) := by rw [hmJ, ← hm]; exact vpile_top2 (x', dx) (y', dy) r j
        have hbx : BB dx (x'.hold l h) := hbb (x', dx) (by simp)
        have hby : BB dy (y'.hold l h) := hbb (y', dy) (by simp)
        have hbr : ∀ q ∈ r, BB q.2 (q.1.hold l h) := fun q hq => hbb q (by simp [hq])
        have hTr : (Tr.or x' y').hold l h = (x'.hold l h ∨ y'.hold l h) := rfl
        generalize x'.hold l h = p at *
        generalize y'.hold l h = q at *
        rcases hbx with ⟨hp⟩ | hp | hp <;> rcases hby with ⟨hq⟩ | hq | hq
        all_goals
          try (have e1 := propext hp; subst e1)
          try (have e2 := propext hq; subst e2)
          (try (conv => whnf)); repeat' (first | (refine rd rfl hg1 ?_; (conv => whnf)) | (refine rd rfl hg2 ?_; (conv => whnf)) | (refine st (Tr.or x' y', _) hg2 (by simp) rfl ?_; (conv => whnf)) | (refine ⟨m + 1, rfl, (by show ((m + 2 : Nat) : Int) - 1 = ((m + 1 : Nat) : Int); omega), (by first | omega | (simp; omega)), ?_⟩; (conv => whnf)) | refine Ok.seq ?_ | ((first | refine Ok.region tok ?_ | refine Ok.cond ?_); conv => whnf) | refine Ok.block ?_ | ((first | refine Ok.skip ?_ | refine nI ?_ | refine ix _ (by assumption) ?_); conv => whnf) | (refine ⟨fun _ => ?_, fun _ => ?_⟩ <;> (conv => whnf) <;> (try (exfalso; omega))) | (refine aJ ?_; conv => whnf) | fail)
          all_goals first
            | (exfalso; omega)
            | skip
          all_goals
            refine Exists.intro (i + 1, m + 1, (Tr.or x' y', ?_) :: r, (y', ?_) :: j) ?_
            rotate_left 2
            refine And.intro (by dsimp only; omega) (And.intro ?_ ?_)
            rotate_left
            · dsimp only
              rw [hmJ, ← hm, vset_top2]
              (conv => whnf)
              rfl
            refine ⟨by dsimp only; omega, by simp [hm], by simp; omega, hb2, bb_cons ?_ hbr⟩
            dsimp only
            rw [hTr]
            first
              | exact .t (by simp [*])
              | exact .f (by simp [*])
              | exact .b (by simp [*])
              | trace_state
    exfalso
    rw [sh0 (by omega)] at hs1
    cases hs1
  · have hie : i = e.length := by omega
    subst hie
    rw [List.drop_length] at hb
    have hb : ps.map Prod.fst = [x0] := by unfold buildR at hb; exact Option.some.inj hb
    match ps, hn, hb with
    | [(x', dx)], hn, hb =>
      simp only [List.map_cons, List.map_nil, List.cons.injEq, and_true] at hb
      obtain rfl := hb
      simp only [List.length_cons, List.length_nil] at hn
      subst hn
      have hg0 : ([(x', dx)].reverse ++ j)[(0 : Int).toNat]? = some (x', dx) := by simp
      have hbx : BB dx (x'.hold l h) := hbb (x', dx) (by simp)
      generalize x'.hold l h = p at *
      rcases hbx with ⟨hp⟩ | hp | hp
      all_goals
        (try (conv => whnf)); repeat' (first | (refine rd rfl hg0 ?_; (conv => whnf)) | refine Ok.seq ?_ | ((first | refine Ok.region tok ?_ | refine Ok.cond ?_ | refine Ok.exit ?_ | refine Ok.ret ?_); conv => whnf) | (refine ⟨fun _ => ?_, fun _ => ?_⟩ <;> (conv => whnf) <;> (try (exfalso; omega))) | (refine aJ ?_; conv => whnf) | fail)
        all_goals first
          | (exfalso; omega)
          | (refine Or.inl ?_; (conv => whnf)
             first
               | rw [propext hp]
               | rw [show p = True from propext ⟨fun _ => trivial, fun _ => hp⟩]
               | rw [show p = False from propext ⟨hp, False.elim⟩]
             done)
          | (refine Or.inl ?_; (conv => whnf)
             first
               | rw [propext hp]
               | rw [show p = True from propext ⟨fun _ => trivial, fun _ => hp⟩]
               | rw [show p = False from propext ⟨hp, False.elim⟩]
             rfl)
          | trace_state
set_option maxHeartbeats 4000000 in
theorem reval_at (l : List Fd) (r : List (List D)) (e : List Nd) (r2 : List (List D)) (h : Str) (hl : l.length ≤ 1000) (he : e.length ≤ 1000) (htx : TxtOk e) :
    FSpec Tryz.prog T 16 [.lst 34 (l.map frow) r, .lst 56 (e.map nrow) r2, .s h] (fun d _ => d = .tup [.b (evlP l e h), .i .i64 (evlE l e h)]) := by
  have hk := rechk_at l r e r2 hl he htx
  by_cases hc : chkE l e = 0
  case neg =>
    obtain ⟨e1, e2⟩ := evl_err (h := h) hc
    rw [e1, e2]
    generalize chkE l e = k at *
    refine FSpec.of_ok tok Tryz.func16 rfl Tryz.call16 (by simp) ?_
    (try (conv => whnf)); repeat' (first | refine Ok.seq ?_ | ((first | refine Ok.region tok ?_ | refine Ok.cond ?_ | refine Ok.ret ?_); conv => whnf) | (refine Or.inl ?_; (conv => whnf); (repeat (refine aI ?_; conv => whnf)); refine ⟨_, hk, rfl, ?_⟩; conv => whnf) | (refine ⟨fun _ => ?_, fun _ => ?_⟩ <;> (conv => whnf) <;> (try (exfalso; omega))) | fail)
    all_goals first
      | (exfalso; omega)
      | (refine Or.inl ?_; (conv => whnf)
         rfl)
      | trace_state
  obtain ⟨hco, _, x, hb, _, ht⟩ := chk_good hc
  by_cases hh : HdrOk (wid l) h
  · obtain ⟨e1, e2⟩ := evl_ok hc hh hb
    rw [e1, e2]
    exact reval_ok l r e r2 h hl he htx hc hh x hb ht
  · obtain ⟨e1, e2⟩ := evl_hdr hc hh
    rw [e1, e2]
    rw [hc] at hk
    obtain ⟨hlay, _⟩ := chk_lay hco
    have hww := wid_le hlay
    have hwd := ewidth_at l r hl hlay
    have hhd := (header_at (wid l) h (by omega)).ff hh
    refine FSpec.of_ok tok Tryz.func16 rfl Tryz.call16 (by simp) ?_
    (try (conv => whnf)); repeat' (first | refine Ok.seq ?_ | ((first | refine Ok.region tok ?_ | refine Ok.cond ?_ | refine Ok.skip ?_ | refine Ok.ret ?_); conv => whnf) | (refine Or.inl ?_; (conv => whnf); (repeat (refine aI ?_; conv => whnf)); refine ⟨_, hk, rfl, ?_⟩; conv => whnf) | (refine Or.inl ?_; (conv => whnf); (repeat (refine aI ?_; conv => whnf)); refine ⟨_, hwd, rfl, ?_⟩; conv => whnf) | (refine Or.inl ?_; (conv => whnf); (repeat (refine aI ?_; conv => whnf)); refine ⟨_, hhd, rfl, ?_⟩; conv => whnf) | (refine ⟨fun _ => ?_, fun _ => ?_⟩ <;> (conv => whnf) <;> (try (exfalso; omega))) | fail)
    all_goals first
      | (exfalso; omega)
      | (refine Or.inl ?_; (conv => whnf)
         rfl)
      | trace_state
end Go.Proofs.YtagmibogginaaaaGreatDoor
namespace Go.Proofs.YtagmibogginaaaaGreatDoor
open Go Go.Vx Go.Shelf
theorem peval_own (l : List Fd) (e : List Nd) (h : Str) {ra sa rb sb : List (List D)} (ha : ra = l.map frow) (hb : rb = e.map nrow) (hl : l.length ≤ 1000) (he : e.length ≤ 1000) (htx : TxtOk e) :
    FSpec Tryz.prog T 15 [.lst 34 ra sa, .lst 56 rb sb, .s h] (fun d _ => d = .tup [.b (evlP l e h), .i .i64 (evlE l e h)]) := by subst ha hb; exact eval_at l _ e _ h hl he htx
set_option maxHeartbeats 32000000 in
theorem evals_law (Fs : List Fd) (rF : List (List D)) (Es : List Nd) (rE : List (List D)) (Hs : List Str) (rH : List (List D)) (htx : TxtOk Es) :
    FSpec Tryz.prog T 4 [.lst 34 (Fs.map frow) rF, .lst 56 (Es.map nrow) rE, .lst 9 (Hs.map srow) rH] (fun d _ => d = .b True) := by
  have h1 : (Fs.map frow).length = Fs.length := by simp
  have h2 : (Es.map nrow).length = Es.length := by simp
  have h3 : (Hs.map srow).length = Hs.length := by simp
  refine FSpec.of_ok tok Tryz.func4 rfl Tryz.call4 (by simp) ?_
  by_cases hbig : 1000 < Es.length ∨ 16 < Fs.length
  · (try (conv => whnf)); repeat' (first | refine Ok.seq ?_ | ((first | refine Ok.region tok ?_ | refine Ok.cond ?_ | refine Ok.ret ?_); conv => whnf) | (refine ⟨fun _ => ?_, fun _ => ?_⟩ <;> (conv => whnf) <;> (try (exfalso; omega))) | fail)
    all_goals first
      | (exfalso; omega)
      | (refine Or.inl ?_; (conv => whnf)
         rfl)
      | trace_state
  have hE : Es.length ≤ 1000 := by omega
  have hF : Fs.length ≤ 16 := by omega
  have hR : Es.reverse.length = Es.length := by simp
  have htr := txt_rev htx
  have e1 : ((Es ++ [mk91, mk92]).map nrow).take Es.length = Es.map nrow := by simp
  have e2 : ((Es ++ [mk91, mk92]).map nrow).drop Es.length = [mk91, mk92].map nrow := by simp
  have e3 : ((Es.reverse ++ [mk91, mk92]).map nrow).take Es.length = Es.reverse.map nrow := by rw [← hR]; simp
  have f1 : ((Fs ++ [mkF]).map frow).take Fs.length = Fs.map frow := by simp
  have f2 : ((Fs ++ [mkF]).map frow).drop Fs.length = [mkF].map frow := by simp
  have l1 : ((Fs ++ [mkF]).map frow).length = Fs.length + 1 := by simp
  have l2 : ((Es ++ [mk91, mk92]).map nrow).length = Es.length + 2 := by simp
  have l3 : ((Es.reverse ++ [mk91, mk92]).map nrow).length = Es.length + 2 := by simp
  have tu := turned_at Es rE hE
  have u1 := untouched_own Es (sb := rE) e1 e2 rfl hE
  have v1 := kept_own Fs (sb := rF) f1 f2 rfl hF
  have p1 := fun sa sb h => peval_own Fs Es h (sa := sa) (sb := sb) f1 e1 (by omega) hE htx
  have p2 := fun sa sb h => peval_own Fs Es.reverse h (sa := sa) (sb := sb) f1 e3 (by omega) (by omega) htr
  have q1 := fun h => reval_at Fs rF Es rE h (by omega) hE htx
  have q2 := fun rm h => reval_at Fs rF Es.reverse rm h (by omega) (by omega) htr
  have k1 := fun h => num_at (evlE Fs Es h) (evlE_le _ _ _)
  have k2 := fun h => num_at (evlE Fs Es.reverse h) (evlE_le _ _ _)
  (try (conv => whnf)); repeat' (first | refine Ok.seq ?_ | ((first | refine Ok.region tok ?_ | refine Ok.cond ?_); conv => whnf) | refine Ok.block ?_ | (refine Ok.skip ?_; conv => whnf) | (refine Or.inr (Or.inl ?_); (conv => whnf); (repeat (refine aI ?_; conv => whnf)); refine ⟨_, layout1_at Fs rF hF, ?_⟩; rintro _ _ ⟨rfl, rfl⟩; conv => whnf) | (refine Or.inr (Or.inl ?_); (conv => whnf); (repeat (refine aI ?_; conv => whnf)); refine ⟨_, nodes_at Es rE hE, ?_⟩; rintro _ _ ⟨rfl, rfl⟩; conv => whnf) | (refine Or.inr (Or.inl ?_); (conv => whnf); (repeat (refine aI ?_; conv => whnf)); refine ⟨_, tu , ?_⟩; rintro _ _ ⟨rfl, rm, rfl⟩ <;> (conv => whnf)) | (refine ⟨fun _ => ?_, fun _ => ?_⟩ <;> (conv => whnf) <;> (try (exfalso; omega))) | fail)
  refine Ok.loopU [0, 1, 2, 7, 8, 9] [10] 2 0 (fun (i : Nat) => [.i .i64 (i : Nat)]) (fun _ b => b) (fun (i : Nat) (_ : Vx.Rows) => [some (34, (Fs ++ [mkF]).map frow), some (56, (Es ++ [mk91, mk92]).map nrow)]) (fun (i : Nat) => i ≤ Hs.length) (fun (i : Nat) => Hs.length - i) (0) (Nat.zero_le _) ?_; (conv => whnf); refine ⟨by ((conv => whnf); first | rfl | (simp [envCat, List.take_of_length_le, nrow, frow, bcell, srow, tcells, crow, qrow, prow]; done) | (simp [envCat, List.take_of_length_le, nrow, frow, bcell, srow, tcells, crow, qrow, prow]; rw [IntKind.wrap_i64]; omega)), ?_⟩
  intro i hi
  (conv => whnf)
  by_cases hil : i < Hs.length ∧ i < 48
  · obtain ⟨h, hh⟩ : ∃ h, Hs[i]? = some h := ⟨_, List.getElem?_eq_getElem hil.1⟩
    have hhI : Hs[((i : Nat) : Int).toNat]? = some h := hh
    have p1' := fun sa sb => p1 sa sb h
    have p2' := fun sa sb => p2 sa sb h
    have q1' := q1 h
    have q2' := fun rm => q2 rm h
    have k1' := k1 h
    have k2' := k2 h
    generalize evlE Fs Es h = K1 at *
    generalize evlE Fs Es.reverse h = K2 at *
    generalize evlP Fs Es h = B1 at *
    generalize evlP Fs Es.reverse h = B2 at *
    · (try (conv => whnf)); repeat' (first | (refine ⟨fun h => absurd Iff.rfl h, fun _ => ?_⟩; (conv => whnf)) | refine Ok.seq ?_ | ((first | refine Ok.region tok ?_ | refine Ok.cond ?_); conv => whnf) | refine Ok.block ?_ | ((first | refine Ok.skip ?_ | refine ix _ (by assumption) ?_); conv => whnf) | (refine Or.inl ?_; (conv => whnf); (repeat (refine aI ?_; conv => whnf)); refine ⟨_, p1' _ _, rfl, ?_⟩; conv => whnf) | (refine Or.inl ?_; (conv => whnf); (repeat (refine aI ?_; conv => whnf)); refine ⟨_, q1', rfl, ?_⟩; conv => whnf) | (refine Or.inl ?_; (conv => whnf); (repeat (refine aI ?_; conv => whnf)); refine ⟨_, k1', rfl, ?_⟩; conv => whnf) | (refine Or.inl ?_; (conv => whnf); (repeat (refine aI ?_; conv => whnf)); refine ⟨_, u1, rfl, ?_⟩; conv => whnf) | (refine ⟨fun _ => ?_, fun _ => ?_⟩ <;> (conv => whnf) <;> (try (exfalso; omega))) | fail)
      all_goals first
        | (exfalso; omega)
        | skip
      refine Or.inr (Or.inr (Or.inl ?_)); (conv => whnf); refine ⟨_, _, Tryz.func14, rfl, Tryz.call14, ?_⟩; (conv => whnf)
      refine Ok.joinU [18, 19, 20, 25, 26, 27, 28] [] 2 0 (fun (x : Unit) => []) (fun _ b => b) (fun (x : Unit) (_ : Vx.Rows) => [some (34, (Fs ++ [mkF]).map frow), some (56, (Es.reverse ++ [mk91, mk92]).map nrow)]) (fun e (x : Unit) => e = .normal) ?_; (conv => whnf); refine And.intro ?_ ?_
      · (try (conv => whnf)); repeat' (first | refine Ok.seq ?_ | (refine Ok.region tok ?_; conv => whnf) | refine Ok.block ?_ | fail)
        refine Ok.loopU [0, 1, 18, 19, 20, 25, 26, 27, 28] [4] 2 0 (fun (k : Nat) => [.i .i64 (k : Nat)]) (fun _ b => b) (fun (k : Nat) (_ : Vx.Rows) => [some (34, (Fs ++ [mkF]).map frow), some (56, ((Es.reverse.take k ++ Es.drop k) ++ [mk91, mk92]).map nrow)]) (fun (k : Nat) => k ≤ Es.length) (fun (k : Nat) => Es.length - k) (0) (Nat.zero_le _) ?_; (conv => whnf); refine ⟨by ((conv => whnf); first | rfl | (simp [envCat, List.take_of_length_le, nrow, frow, bcell, srow, tcells, crow, qrow, prow]; done) | (simp [envCat, List.take_of_length_le, nrow, frow, bcell, srow, tcells, crow, qrow, prow]; rw [IntKind.wrap_i64]; omega)), ?_⟩
        rintro k hk
        have htl : (Es.reverse.take k).length = k := by simp; omega
        have hl2 : (((Es.reverse.take k ++ Es.drop k) ++ [mk91, mk92]).map nrow).length = Es.length + 2 := by simp; omega
        have hnm : (Es.reverse.map nrow).length = Es.length := by simp
        (conv => whnf)
        by_cases hkl : k < Es.length
        · obtain ⟨a, ha⟩ : ∃ a, Es.reverse[k]? = some a := ⟨_, List.getElem?_eq_getElem (by omega)⟩
          obtain ⟨b, hb⟩ : ∃ b, Es[k]? = some b := ⟨_, List.getElem?_eq_getElem (by omega)⟩
          have haI : Es.reverse[((k : Nat) : Int).toNat]? = some a := ha
          have hb' := mixA htl [mk91, mk92] b hb
          have hbI : ((Es.reverse.take k ++ Es.drop k) ++ [mk91, mk92])[((k : Nat) : Int).toNat]? = some b := hb'
          have e5 := mixS htl [mk91, mk92] ha (show k < Es.length by omega)
          (try (conv => whnf)); repeat' (first | (refine st a hbI (by simp) rfl ?_; (conv => whnf)) | refine Ok.seq ?_ | ((first | refine Ok.region tok ?_ | refine Ok.cond ?_); conv => whnf) | refine Ok.block ?_ | ((first | refine Ok.skip ?_ | refine nI ?_ | refine ix _ (by assumption) ?_); conv => whnf) | (refine ⟨fun _ => ?_, fun _ => ?_⟩ <;> (conv => whnf) <;> (try (exfalso; omega))) | (refine aJ ?_; conv => whnf) | fail)
          all_goals first
            | (exfalso; omega)
            | skip
          refine ⟨k + 1, by omega, by omega, ?_⟩
          rw [← e5]
          (conv => whnf); (first | rfl | simp [envCat, List.take_of_length_le, nrow, frow, bcell, srow, tcells, crow, qrow, prow])
        · have hkk : k = Es.length := by omega
          subst hkk
          (try (conv => whnf)); repeat' (first | refine Ok.seq ?_ | ((first | refine Ok.region tok ?_ | refine Ok.cond ?_ | refine Ok.exit ?_); conv => whnf) | (refine ⟨fun _ => ?_, fun _ => ?_⟩ <;> (conv => whnf) <;> (try (exfalso; omega))) | fail)
          all_goals first
            | (exfalso; omega)
            | skip
          refine ⟨(), rfl, ?_⟩
          rw [mixE hR]
          (conv => whnf); (first | rfl | simp [envCat, List.take_of_length_le, nrow, frow, bcell, srow, tcells, crow, qrow, prow])
      rintro e x rfl
      (try (conv => whnf)); repeat' (first | (refine ⟨fun h => absurd Iff.rfl h, fun _ => ?_⟩; (conv => whnf)) | refine Ok.seq ?_ | ((first | refine Ok.region tok ?_ | refine Ok.cond ?_ | refine Ok.skip ?_ | refine ix _ (by assumption) ?_); conv => whnf) | (refine Or.inl ?_; (conv => whnf); (repeat (refine aI ?_; conv => whnf)); refine ⟨_, p2' _ _, rfl, ?_⟩; conv => whnf) | (refine Or.inl ?_; (conv => whnf); (repeat (refine aI ?_; conv => whnf)); refine ⟨_, q2' _, rfl, ?_⟩; conv => whnf) | (refine Or.inl ?_; (conv => whnf); (repeat (refine aI ?_; conv => whnf)); refine ⟨_, k2', rfl, ?_⟩; conv => whnf) | (refine ⟨fun _ => ?_, fun _ => ?_⟩ <;> (conv => whnf) <;> (try (exfalso; omega))) | fail)
      all_goals first
        | (exfalso; omega)
        | skip
      refine Or.inr (Or.inr (Or.inl ?_)); (conv => whnf); refine ⟨_, _, Tryz.func14, rfl, Tryz.call14, ?_⟩; (conv => whnf)
      refine Ok.joinU [18, 19, 20, 25, 26, 27, 28] [] 2 0 (fun (x : Unit) => []) (fun _ b => b) (fun (x : Unit) (_ : Vx.Rows) => [some (34, (Fs ++ [mkF]).map frow), some (56, (Es ++ [mk91, mk92]).map nrow)]) (fun e (x : Unit) => e = .normal) ?_; (conv => whnf); refine And.intro ?_ ?_
      · (try (conv => whnf)); repeat' (first | refine Ok.seq ?_ | (refine Ok.region tok ?_; conv => whnf) | refine Ok.block ?_ | fail)
        refine Ok.loopU [0, 1, 18, 19, 20, 25, 26, 27, 28] [4] 2 0 (fun (k : Nat) => [.i .i64 (k : Nat)]) (fun _ b => b) (fun (k : Nat) (_ : Vx.Rows) => [some (34, (Fs ++ [mkF]).map frow), some (56, ((Es.take k ++ Es.reverse.drop k) ++ [mk91, mk92]).map nrow)]) (fun (k : Nat) => k ≤ Es.length) (fun (k : Nat) => Es.length - k) (0) (Nat.zero_le _) ?_; (conv => whnf); refine ⟨by ((conv => whnf); first | rfl | (simp [envCat, List.take_of_length_le, nrow, frow, bcell, srow, tcells, crow, qrow, prow]; done) | (simp [envCat, List.take_of_length_le, nrow, frow, bcell, srow, tcells, crow, qrow, prow]; rw [IntKind.wrap_i64]; omega)), ?_⟩
        rintro k hk
        have htl : (Es.take k).length = k := by simp; omega
        have hl2 : (((Es.take k ++ Es.reverse.drop k) ++ [mk91, mk92]).map nrow).length = Es.length + 2 := by simp; omega
        have hnm : (Es.map nrow).length = Es.length := by simp
        (conv => whnf)
        by_cases hkl : k < Es.length
        · obtain ⟨a, ha⟩ : ∃ a, Es[k]? = some a := ⟨_, List.getElem?_eq_getElem (by omega)⟩
          obtain ⟨b, hb⟩ : ∃ b, Es.reverse[k]? = some b := ⟨_, List.getElem?_eq_getElem (by omega)⟩
          have haI : Es[((k : Nat) : Int).toNat]? = some a := ha
          have hb' := mixA htl [mk91, mk92] b hb
          have hbI : ((Es.take k ++ Es.reverse.drop k) ++ [mk91, mk92])[((k : Nat) : Int).toNat]? = some b := hb'
          have e5 := mixS htl [mk91, mk92] ha (show k < Es.reverse.length by omega)
          (try (conv => whnf)); repeat' (first | (refine st a hbI (by simp) rfl ?_; (conv => whnf)) | refine Ok.seq ?_ | ((first | refine Ok.region tok ?_ | refine Ok.cond ?_); conv => whnf) | refine Ok.block ?_ | ((first | refine Ok.skip ?_ | refine nI ?_ | refine ix _ (by assumption) ?_); conv => whnf) | (refine ⟨fun _ => ?_, fun _ => ?_⟩ <;> (conv => whnf) <;> (try (exfalso; omega))) | (refine aJ ?_; conv => whnf) | fail)
          all_goals first
            | (exfalso; omega)
            | skip
          refine ⟨k + 1, by omega, by omega, ?_⟩
          rw [← e5]
          (conv => whnf); (first | rfl | simp [envCat, List.take_of_length_le, nrow, frow, bcell, srow, tcells, crow, qrow, prow])
        · have hkk : k = Es.length := by omega
          subst hkk
          (try (conv => whnf)); repeat' (first | refine Ok.seq ?_ | ((first | refine Ok.region tok ?_ | refine Ok.cond ?_ | refine Ok.exit ?_); conv => whnf) | (refine ⟨fun _ => ?_, fun _ => ?_⟩ <;> (conv => whnf) <;> (try (exfalso; omega))) | fail)
          all_goals first
            | (exfalso; omega)
            | skip
          refine ⟨(), rfl, ?_⟩
          rw [show Es.take Es.length ++ Es.reverse.drop Es.length = Es by rw [← hR]; exact mixE hR.symm]
          (conv => whnf); (first | rfl | simp [envCat, List.take_of_length_le, nrow, frow, bcell, srow, tcells, crow, qrow, prow])
      rintro e x rfl
      (try (conv => whnf)); repeat' (first | ((first | refine Ok.region tok ?_ | refine nI ?_); conv => whnf) | fail)
      all_goals first
        | (exfalso; omega)
        | skip
      refine ⟨i + 1, by omega, by omega, ?_⟩
      (conv => whnf)
      rfl
  · have p1' := fun sa sb => p1 sa sb []
    have q1' := q1 []
    have k1' := k1 []
    generalize evlE Fs Es [] = K1 at *
    generalize evlP Fs Es [] = B1 at *
    · (try (conv => whnf)); repeat' (first | (refine ⟨fun _ => ?_, fun h => absurd Iff.rfl h⟩; (conv => whnf)) | refine Ok.seq ?_ | ((first | refine Ok.region tok ?_ | refine Ok.cond ?_ | refine Ok.exit ?_ | refine Ok.ret ?_); conv => whnf) | (refine Or.inl ?_; (conv => whnf); (repeat (refine aI ?_; conv => whnf)); refine ⟨_, p1' _ _, rfl, ?_⟩; conv => whnf) | (refine Or.inl ?_; (conv => whnf); (repeat (refine aI ?_; conv => whnf)); refine ⟨_, q1', rfl, ?_⟩; conv => whnf) | (refine Or.inl ?_; (conv => whnf); (repeat (refine aI ?_; conv => whnf)); refine ⟨_, k1', rfl, ?_⟩; conv => whnf) | (refine Or.inl ?_; (conv => whnf); (repeat (refine aI ?_; conv => whnf)); refine ⟨_, u1, rfl, ?_⟩; conv => whnf) | (refine Or.inl ?_; (conv => whnf); (repeat (refine aI ?_; conv => whnf)); refine ⟨_, v1, rfl, ?_⟩; conv => whnf) | (refine ⟨fun _ => ?_, fun _ => ?_⟩ <;> (conv => whnf) <;> (try (exfalso; omega))) | fail)
      all_goals first
        | (exfalso; omega)
        | (refine Or.inl ?_; (conv => whnf)
           first | rfl | exact tt_b)
        | trace_state
end Go.Proofs.YtagmibogginaaaaGreatDoor
namespace Go.Proofs.YtagmibogginaaaaGreatDoor
open Go Go.Vx Go.Shelf
theorem str1_of {B : Nat} (r : List D) (h : TySs B [.str] r) : ∃ a : Str, r = srow a ∧ a.length ≤ B := by
  obtain ⟨_, _, rfl, h1, h⟩ := ss_cons h
  obtain rfl := ss_nil h
  obtain ⟨a, rfl, hl⟩ := str_of h1
  exact ⟨a, rfl, hl⟩
theorem exprEvals_ats : ∃ ls, shapes T 9 [22, 23, 36] = some ls ∧ ∀ xs, TyAs T 1048576 [22, 23, 36] ls xs → FSpec Tryz.prog T 4 xs (fun d _ => d = .b True) := by
  refine ⟨_, rfl, fun xs h => ?_⟩
  obtain ⟨_, _, rfl, h0, h⟩ := as_cons h
  obtain ⟨_, _, rfl, h1, h⟩ := as_cons h
  obtain ⟨_, _, rfl, h2, h⟩ := as_cons h
  obtain rfl := as_nil h
  obtain ⟨x0, r0, rfl, b0, c0, d0⟩ := lst_of (leaf h0 rfl) fld_of
  obtain ⟨x1, r1, rfl, b1, c1, d1⟩ := lst_of (leaf h1 rfl) nd_of
  obtain ⟨x2, r2, rfl, b2, c2, d2⟩ := lst_of (leaf h2 rfl) str1_of
  exact evals_law x0 _ x1 _ x2 _ fun c hc => by
    have := c1 c hc
    omega
theorem glUsedE {W : World} (h : laidMetH Tryz.prog Rows.exprEvalsUptoRow.laid W) : VLe glV (heapV W) := glUsed h
end Go.Proofs.YtagmibogginaaaaGreatDoor
